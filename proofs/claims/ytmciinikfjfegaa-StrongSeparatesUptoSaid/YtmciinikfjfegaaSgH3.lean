/- ends: where the subtrees of a formula end -/
import Derived.Test.YtmciinikfjfegaaSgH2
namespace Go.Proofs.Ytmciinikfjfegaa
open Go Go.RowKit
set_option maxHeartbeats 8000000

theorem clo_all {n N pos : Nat} : ∀ (S : List (Nat × Nat)) (out : List Nat), (∀ x ∈ S.tail, 1 ≤ x.2) → (∀ x ∈ S, x.1 < n ∧ x.2 ≤ N) → ∀ x ∈ (clo pos S out).1, 1 ≤ x.2 ∧ x.1 < n ∧ x.2 ≤ N
  | [], out, _, _, x, hx => by
    rw [clo_nil] at hx
    cases hx
  | (p, 0) :: S, out, h1, h2, x, hx => by
    rw [clo_zero] at hx
    refine clo_all (decS S) (out.set p pos) (fun y hy => ?_) (fun y hy => ?_) x hx
    · cases S with
      | nil => cases hy
      | cons z S => exact h1 y (List.mem_cons_of_mem _ hy)
    · cases S with
      | nil => cases hy
      | cons z S =>
        rcases List.mem_cons.1 hy with rfl | hy
        · have := h2 z (by simp)
          dsimp only
          omega
        · exact h2 y (by simp [hy])
  | (p, m + 1) :: S, out, h1, h2, x, hx => by
    rw [clo_succ] at hx
    have h3 := h2 x hx
    rcases List.mem_cons.1 hx with rfl | hx
    · exact ⟨by dsimp only; omega, h3⟩
    · exact ⟨h1 x hx, h3⟩
termination_by S => S.length
decreasing_by simp [decS_len]

theorem clo_len {pos : Nat} : ∀ (S : List (Nat × Nat)) (out : List Nat), (clo pos S out).1.length ≤ S.length
  | [], out => by rw [clo_nil]; exact Nat.le_refl _
  | (p, 0) :: S, out => by
    rw [clo_zero]
    have h1 := clo_len (pos := pos) (decS S) (out.set p pos)
    rw [decS_len] at h1
    rw [List.length_cons]
    omega
  | (p, m + 1) :: S, out => by rw [clo_succ]; exact Nat.le_refl _
termination_by S => S.length
decreasing_by simp [decS_len]
theorem feed_len : ∀ (f : List FNode) (i : Nat) (st : List (Nat × Nat) × List Nat), (feed f i st).1.length ≤ st.1.length + f.length
  | [], _, st => Nat.le_refl _
  | x :: f, i, st => by
    rw [feed]
    have h1 := feed_len f (i + 1) (stepE i x.kids.toNat st)
    have h2 : (stepE i x.kids.toNat st).1.length ≤ st.1.length + 1 := clo_len ((i, x.kids.toNat) :: st.1) st.2
    rw [List.length_cons]
    omega

def oc (x : Nat × Nat) : List Value := [.int .i64 x.1, .int .i64 x.2]
theorem oc_len (x : Nat × Nat) : (oc x).length = 2 := rfl
theorem infoOp : (Try.prog.info? 102).map (fun i => (i.zero, i.size, i.bytes)) = some (some (.agg #[.int .i64 0, .int .i64 0]), 2, 16) := by kernel_rfl
theorem slOp : SlT Try.prog 100 102 2 16 := SlT.of Try.underlying100 infoOp rfl (by decide)
theorem set_oc (Q : List (Nat × Nat)) (q m m' : Nat) : (cellsOf oc (Q ++ [(q, m)])).set (Q.length * 2 + 1) (.int .i64 m') = cellsOf oc (Q ++ [(q, m')]) := by
  rw [cellsOf_append, cellsOf_append, List.set_append, if_neg (by rw [cellsOf_length oc_len]; omega), cellsOf_length oc_len]
  congr 1
  rw [show Q.length * 2 + 1 - Q.length * 2 = 1 by omega]
  rfl
theorem cut_oc (Q : List (Nat × Nat)) (x : Nat × Nat) : (cellsOf oc (Q ++ [x])).take (Q.length * 2) = cellsOf oc Q := by
  rw [cellsOf_append, List.take_left' (cellsOf_length oc_len _)]
theorem set_nc (l : List Nat) (p v : Nat) : (cellsOf ncell l).set p (.int .i64 v) = cellsOf ncell (l.set p v) := by
  rw [nat_cells, nat_cells]
  induction l generalizing p with
  | nil => rfl
  | cons a l ih =>
    cases p with
    | zero => rfl
    | succ p =>
      have := ih p
      simp only [cellsOf, List.map_cons, List.flatMap_cons, List.set_cons_succ] at this ⊢
      exact congrArg (List.cons (Value.int .i64 (a : Int))) this

/-- what stands in the inner loop: the stack and the ends -/
structure EnAt (w wz : World) (n pos g : Nat) (v : Value) (S : List (Nat × Nat)) (O : List Nat) : Prop where
  own : wz.ownsRow 0 102 2 v S.length (cellsOf oc S.reverse)
  base : ∀ b, v.ownBlock = some b → w.heap.size ≤ b
  out : wz.ownsRow 0 3 1 (.slice (some ⟨g, 0, none⟩) n n) n (cellsOf ncell O)
  low : ∀ x ∈ S, x.1 < n ∧ x.2 ≤ n
  bel : Below w.heap.size w wz

/-- what ends gives -/
def EndsPost (w : World) (n : Nat) (F : Form) (e : Ending) (w' : World) : Prop :=
  (∃ (g : Nat) (E : List Nat), e = .returned (.slice (some ⟨g, 0, none⟩) n n) ∧ w'.ownsRow 0 3 1 (.slice (some ⟨g, 0, none⟩) n n) n (cellsOf ncell E) ∧ Good F 0 E ∧ w.heap.size ≤ g) ∧ Below w.heap.size w w'

set_option maxRecDepth 100000 in
theorem ends_any (A : Option Addr) (n c : Nat) (F : Form) (B : Nat) (w : World) (h : Rd w B 3 A n (cellsOf FNode.cells F.enc)) (hB : B ≤ w.heap.size) (hn : n ≤ 1000000) :
    Calls Try.prog 56 #[.slice A n c] w (EndsPost w n F) := by
  have HL := Lib.hid (h.len FNode.cells_len (by decide))
  have hn1 : 1 ≤ n := by have := encP F; have := HL.out; omega
  have H := Lib.hid h
  obtain ⟨i0, hi0, hz0, hz1, hz2⟩ := info_parts infoInt
  have HO0 := Lib.hid (show (w.alloc (.cells (madeCells (Value.int .i64 0).cells n) 3)).ownsRow 0 3 1 (.slice (some ⟨w.heap.size, 0, none⟩) n n) n (cellsOf ncell (List.replicate n 0)) by
    rw [made_ncells]
    exact ⟨by rw [cellsOf_length ncell_len, List.length_replicate], .inr ⟨w.heap.size, n, (cellsOf ncell (List.replicate n 0)).toArray, rfl, Nat.zero_le _, heap_alloc_new w _, Nat.le_refl _, by unfold maxLen; omega, by simp [cellsOf_length ncell_len], by rw [List.take_of_length_le (by simp [cellsOf_length ncell_len])]⟩⟩)
  have HB0 := Lib.hid ((Below.refl w.heap.size w).alloc (Nat.le_refl _) (.cells (madeCells (Value.int .i64 0).cells n) 3))
  clear h
  go_enter Try.func56, Try.ntmps56
  go_wp2_with (at_make; refine wpList_makeX _ rfl _ _ 29 rfl 3 i0 (.int .i64 0) Try.underlying29 hi0 hz0 hz1 _ _ n rfl rfl (by rw [hz2]; omega) (by omega) ?_)
  go_wp2_with fail
  go_loopw [4, 12] (fun v4 vi wr => ∃ (i : Nat) (S : List (Nat × Nat)) (O : List Nat), i ≤ n ∧ vi = .int .i64 i ∧ Hid (feed (F.enc.take i) 0 ([], List.replicate n 0) = (S, O) ∧ wr.ownsRow 0 102 2 v4 S.length (cellsOf oc S.reverse) ∧ (∀ b, v4.ownBlock = some b → w.heap.size ≤ b) ∧
    wr.ownsRow 0 3 1 (.slice (some ⟨w.heap.size, 0, none⟩) n n) n (cellsOf ncell O) ∧ (∀ x ∈ S, 1 ≤ x.2 ∧ x.1 < n ∧ x.2 ≤ n) ∧ Below w.heap.size w wr)) (fun _ vi _ => n - (intOf vi).toNat)
  case atStart => exact ⟨0, [], List.replicate n 0, Nat.zero_le _, rfl, Lib.hid ⟨rfl, World.ownsRow_nil _ _ _ _, fun b hb => by simp [Value.ownBlock] at hb, HO0.out, (fun x hx => by cases hx), HB0.out⟩⟩
  case round =>
    rename Value => v4r
    obtain ⟨i, S, O, hi, rfl, HW⟩ := hrel
    obtain ⟨A4, c4, rfl, hc4, _⟩ := own_form HW.out.2.1
    have hsz := HW.out.2.2.2.2.2.size
    by_cases hlt : i < n
    · obtain ⟨b1, o1, x, rfl, hb1, hx, c0, c1, c2⟩ := (H.out.keep (w' := wr) (fun p hp => HW.out.2.2.2.2.2.cell (by omega))).node hlt
      have hkd := form_kids F x (List.mem_of_getElem? hx)
      rw [HL.out] at hkd
      obtain ⟨op, ev, kd⟩ := x
      dsimp only at c0 c1 c2 hkd
      obtain ⟨m, rfl⟩ : ∃ m : Nat, kd = m := ⟨kd.toNat, by omega⟩
      have hm : m + 1 ≤ n := by omega
      have HNEXT := Lib.hid (show feed (F.enc.take (i + 1)) 0 ([], List.replicate n 0) = clo (i + 1) ((i, m) :: S) O by
        rw [List.take_add_one, hx]
        show feed (F.enc.take i ++ [⟨op, ev, (m : Int)⟩]) 0 _ = _
        rw [feed_snoc, HW.out.1, List.length_take, HL.out, show min i n = i by omega, Nat.zero_add]
        rfl)
      have HO1 := Lib.hid (HW.out.2.1.alloc (.cells #[.int .i64 op, .int .i64 ev, .int .i64 m] 58))
      have HO2 := Lib.hid HW.out.2.2.2.1
      have hSn : S.length ≤ n := by
        have h1 := feed_len (F.enc.take i) 0 ([], List.replicate n 0)
        rw [HW.out.1, List.length_take] at h1
        have h2 : S.length ≤ 0 + min i F.enc.length := h1
        omega
      have hbl : b1 < wr.heap.size := by omega
      clear hx hkd
      rcases Nat.eq_zero_or_pos i with hi0' | hi1
      · subst hi0'
        have hnk : ¬ (m : Int) > (n : Int) := by omega
        simp only [Nat.zero_mul, Nat.add_zero] at c0 c1 c2
        go_wp2_with (first | (at_builtin; go_must (refine appList_blk rfl slOp rfl (World.ownsRow.alloc HO1.out _) rfl (news := [.int .i64 0, .int .i64 m]) ((heap_alloc_at (by simp)) : Blk _ (wr.heap.size + 1) _ _) rfl rfl (by simp [Value.oneCell']) (by decide) (by unfold maxLen; omega) (by omega) ?_); intro g8 c8 w8 hown8 hgrow8 hat8; refine Stop7.intro ?_))
        unfold Stop7
        have hg8 : ((wr.alloc (.cells #[.int .i64 op, .int .i64 ev, .int .i64 m] 58)).alloc (.cells #[.int .i64 0, .int .i64 m] 102)).grownBy w8 (Value.slice A4 S.length c4).ownBlock := hgrow8
        have hO8 : Outside (fun x => (Value.slice A4 S.length c4).ownBlock = some x) wr w8 := (((Outside.refl (fun x => (Value.slice A4 S.length c4).ownBlock = some x) wr).alloc (.cells #[.int .i64 op, .int .i64 ev, .int .i64 m] 58)).alloc (.cells #[.int .i64 0, .int .i64 m] 102)).grown hg8 (fun z hz => .inl hz)
        have HE8 := Lib.hid (show EnAt w w8 n (0 + 1) w.heap.size (.slice (some ⟨g8, 0, none⟩) (S.length + 1) c8) ((0, m) :: S) O from by
          refine ⟨?_, fun b hb => ?_, own_out HO2.out hO8 (fun x hx e => own_apart_own HW.out.2.1 HO2.out (by decide) e hx), fun x hx => ?_, HW.out.2.2.2.2.2.trans (hO8.below hsz (fun x hx e => by have := HW.out.2.2.1 x e; omega))⟩
          · rw [List.reverse_cons, cellsOf_append]
            exact hown8
          · have h1 : g8 = b := by simpa [Value.ownBlock] using hb
            rcases hat8 with h | h
            · exact HW.out.2.2.1 b (by rw [← h1]; exact h)
            · simp at h
              omega
          · rcases List.mem_cons.1 hx with rfl | hx
            · exact ⟨hlt, by dsimp only; omega⟩
            · exact ⟨(HW.out.2.2.2.2.1 x hx).2.1, (HW.out.2.2.2.2.1 x hx).2.2⟩)
        have HTL := Lib.hid (show ∀ x ∈ S, 1 ≤ x.2 from fun x hx => (HW.out.2.2.2.2.1 x hx).1)
        clear hown8 hgrow8 hat8 hg8 hO8 c0 c1 c2 hbl
        go_wp2_with fail
        go_loopg [4] (S.length + 1) (fun gk v4 wz => ∃ (T : List (Nat × Nat)) (O' : List Nat), gk = T.length ∧ T.length ≤ S.length + 1 ∧ Hid (EnAt w wz n (0 + 1) w.heap.size v4 T O' ∧ (∀ x ∈ T.tail, 1 ≤ x.2) ∧ clo (0 + 1) T O' = clo (0 + 1) ((0, m) :: S) O))
        case atStart => exact ⟨(0, m) :: S, O, rfl, Nat.le_refl _, Lib.hid ⟨HE8.out, HTL.out, rfl⟩⟩
        case round =>
          rename World => wz
          rename Value => v4z
          obtain ⟨T, O', hgk, hTS, HZ⟩ := hrel
          obtain ⟨A5, c5, rfl, hc5, _⟩ := own_form HZ.out.1.own
          have hszz := HZ.out.1.bel.size
          match T, hgk, hTS, HZ, hc5 with
          | [], hgk, hTS, HZ, hc5 =>
            have HS2 := Lib.hid (show feed (F.enc.take (0 + 1)) 0 ([], List.replicate n 0) = ([], O') by
              rw [HNEXT.out, ← HZ.out.2.2, clo_nil])
            go_wp2_with fail
            go_roundw
            case rel => exact ⟨0 + 1, [], O', by omega, by go_num, Lib.hid ⟨HS2.out, HZ.out.1.own, HZ.out.1.base, HZ.out.1.out, (fun x hx => by cases hx), HZ.out.1.bel⟩⟩
            case measure => simp [intOf]; omega
          | (p, q + 1) :: T, hgk, hTS, HZ, hc5 =>
            have HS2 := Lib.hid (show feed (F.enc.take (0 + 1)) 0 ([], List.replicate n 0) = ((p, q + 1) :: T, O') by
              rw [HNEXT.out, ← HZ.out.2.2, clo_succ])
            obtain ⟨b5, o5, x5, e5, hb5, hx5, d5⟩ := (Rd.ofOwn HZ.out.1.own).at_ oc_len (by decide) (i := T.length) (by simp)
            rw [List.reverse_cons, List.getElem?_append_right (by simp), List.length_reverse, Nat.sub_self] at hx5
            obtain rfl := Option.some.inj hx5
            subst e5
            have d51 := d5 1 _ rfl
            have hk0 : ((T.length : Int) + 1 - 1) = (T.length : Int) := by omega
            have hb5l : b5 < wz.heap.size := hb5
            have hq0 : (((q : Int) + 1) == 0) = false := by simp; omega
            have HLOW := Lib.hid (show ∀ x ∈ ((p, q + 1) :: T), 1 ≤ x.2 ∧ x.1 < n ∧ x.2 ≤ n from fun x hx => by
              have h1 := HZ.out.1.low x hx
              rcases List.mem_cons.1 hx with rfl | hx
              · exact ⟨by dsimp only; omega, h1⟩
              · exact ⟨HZ.out.2.1 x hx, h1⟩)
            simp only [List.length_cons] at hc5 hgk hTS
            clear hx5 d5
            go_wp2_with fail
            go_roundw
            case rel => exact ⟨0 + 1, (p, q + 1) :: T, O', by omega, by go_num, Lib.hid ⟨HS2.out, HZ.out.1.own, HZ.out.1.base, HZ.out.1.out, HLOW.out, HZ.out.1.bel⟩⟩
            case measure => simp [intOf]; omega
          | (p, 0) :: T, hgk, hTS, HZ, hc5 =>
            obtain ⟨g5, cap, eg, _, hgl⟩ := HZ.out.1.own.form (by simp)
            obtain ⟨rfl, rfl⟩ : A5 = some ⟨g5, 0, none⟩ ∧ c5 = cap := by simpa using eg
            obtain ⟨b5, o5, x5, e5, hb5, hx5, d5⟩ := (Rd.ofOwn HZ.out.1.own).at_ oc_len (by decide) (i := T.length) (by simp)
            obtain ⟨rfl, rfl⟩ : g5 = b5 ∧ 0 = o5 := by simpa using e5
            rw [List.reverse_cons, List.getElem?_append_right (by simp), List.length_reverse, Nat.sub_self] at hx5
            obtain rfl := Option.some.inj hx5
            have d50 := d5 0 _ rfl
            have d51 := d5 1 _ rfl
            rw [Nat.zero_add] at d50 d51
            rw [Nat.add_zero] at d50
            have hk0 : ((T.length : Int) + 1 - 1) = (T.length : Int) := by omega
            have hpn : p < n := (HZ.out.1.low (p, 0) (by simp)).1
            have hwl := own_lt HZ.out.1.out (g := w.heap.size) rfl
            have wf := HZ.out.1.out.frozenAt p
            obtain ⟨b7, o7, x7, e7, _, _, d7⟩ := (Rd.ofOwn HZ.out.1.out).nat hpn
            obtain ⟨rfl, rfl⟩ : w.heap.size = b7 ∧ 0 = o7 := by simpa using e7
            rw [Nat.zero_add] at d7
            have hO5 : (wz.setCell ⟨w.heap.size, p, none⟩ (.int .i64 1)).ownsRow 0 3 1 (.slice (some ⟨w.heap.size, 0, none⟩) n n) n (cellsOf ncell (O'.set p (0 + 1))) := by
              have h1 := (HZ.out.1.out.stored p (.int .i64 ((0 + 1 : Nat) : Int))).1
              rw [set_nc] at h1
              exact h1
            have hS5 : (wz.setCell ⟨w.heap.size, p, none⟩ (.int .i64 1)).ownsRow 0 102 2 (.slice (some ⟨g5, 0, none⟩) T.length c5) T.length (cellsOf oc T.reverse) := by
              have h1 := own_cut (own_setCell HZ.out.1.own (p := ⟨w.heap.size, p, none⟩) (fun e => own_apart_own HZ.out.1.out HZ.out.1.own (by decide) rfl e) (.int .i64 1)) (k := T.length) (by simp)
              have h2 := cut_oc T.reverse (p, 0)
              rw [List.length_reverse] at h2
              rw [List.reverse_cons, h2] at h1
              exact h1
            have HO5 := Lib.hid hO5
            have HS5 := Lib.hid hS5
            have HB5 := Lib.hid (HZ.out.1.bel.setCell (p := ⟨w.heap.size, p, none⟩) (Nat.le_refl _) (.int .i64 1))
            have HC5 := Lib.hid (show clo (0 + 1) (decS T) (O'.set p (0 + 1)) = clo (0 + 1) ((0, m) :: S) O by rw [← HZ.out.2.2, clo_zero])
            simp only [List.length_cons] at hc5 hgk hTS
            cases T with
            | nil =>
              simp only [List.length_nil, Nat.zero_mul, Nat.zero_add] at d50 d51
              have hne : ¬ g5 = w.heap.size := fun e => own_apart_own HZ.out.1.own HZ.out.1.out (by decide) (g := g5) rfl (by rw [e]; rfl)
              clear hx5 d5 eg e5 e7 hO5 hS5
              go_wp2_with fail
              go_roundg 0
              case measure => omega
              case rel => exact ⟨[], O'.set p (0 + 1), rfl, Nat.zero_le _, Lib.hid ⟨⟨HS5.out, HZ.out.1.base, HO5.out, (fun x hx => by cases hx), HB5.out⟩, (fun x hx => by cases hx), HC5.out⟩⟩
            | cons x6 T =>
              obtain ⟨q, m2⟩ := x6
              have hm2 : 1 ≤ m2 := HZ.out.2.1 (q, m2) (by simp)
              have hm2n : m2 ≤ n := (HZ.out.1.low (q, m2) (by simp)).2
              obtain ⟨b6, o6, x6, e6, hb6, hx6, d6⟩ := (Rd.ofOwn hS5).at_ oc_len (by decide) (i := T.length) (by simp)
              obtain ⟨rfl, rfl⟩ : g5 = b6 ∧ 0 = o6 := by simpa using e6
              rw [List.reverse_cons, List.getElem?_append_right (by simp), List.length_reverse, Nat.sub_self] at hx6
              obtain rfl := Option.some.inj hx6
              have d61 := d6 1 _ rfl
              rw [Nat.zero_add] at d61
              have hne : ¬ g5 = w.heap.size := fun e => own_apart_own HZ.out.1.own HZ.out.1.out (by decide) (g := g5) rfl (by rw [e]; rfl)
              have d61w : wz.cell? ⟨g5, T.length * 2 + 1, none⟩ = some (.int .i64 m2) :=
                (World.cell?_setCell_other wz ⟨w.heap.size, p, none⟩ ⟨g5, T.length * 2 + 1, none⟩ (.int .i64 1) (fun e => hne (congrArg Addr.block e).symm)).symm.trans d61
              have gf := hS5.frozenAt (T.length * 2 + 1)
              have hS6 : ((wz.setCell ⟨w.heap.size, p, none⟩ (.int .i64 1)).setCell ⟨g5, T.length * 2 + 1, none⟩ (.int .i64 ((m2 : Int) - 1))).ownsRow 0 102 2 (.slice (some ⟨g5, 0, none⟩) (T.length + 1) c5) (T.length + 1) (cellsOf oc ((q, m2 - 1) :: T).reverse) := by
                have h1 := (hS5.stored (T.length * 2 + 1) (.int .i64 ((m2 - 1 : Nat) : Int))).1
                have h2 := set_oc T.reverse q m2 (m2 - 1)
                rw [List.length_reverse] at h2
                rw [List.reverse_cons, h2] at h1
                rw [List.reverse_cons, show (m2 : Int) - 1 = ((m2 - 1 : Nat) : Int) by omega]
                exact h1
              have HS6 := Lib.hid hS6
              have HO6 := Lib.hid (own_setCell hO5 (p := ⟨g5, T.length * 2 + 1, none⟩) (fun e => own_apart_own HZ.out.1.own HZ.out.1.out (by decide) rfl e) (.int .i64 ((m2 : Int) - 1)))
              have HB6 := Lib.hid (HB5.out.setCell (p := ⟨g5, T.length * 2 + 1, none⟩) (HZ.out.1.base g5 rfl) (.int .i64 ((m2 : Int) - 1)))
              have HLOW := Lib.hid (show ∀ x ∈ ((q, m2 - 1) :: T), x.1 < n ∧ x.2 ≤ n from fun x hx => by
                rcases List.mem_cons.1 hx with rfl | hx
                · have h1 := HZ.out.1.low (q, m2) (by simp)
                  exact ⟨h1.1, by dsimp only; omega⟩
                · exact HZ.out.1.low x (by simp [hx]))
              have HTL2 := Lib.hid (show ∀ x ∈ ((q, m2 - 1) :: T).tail, 1 ≤ x.2 from fun x hx => HZ.out.2.1 x (by simp at hx; simp [hx]))
              have hk1 : ((T.length : Int) + 1 + 1 - 1) = (T.length : Int) + 1 := by omega
              have hk2 : ((T.length : Int) + 1 - 1) = (T.length : Int) := by omega
              simp only [List.length_cons] at hc5 hgk hTS hk0 d50 d51
              clear hx5 d5 eg e5 e7 hx6 d6 e6 hO5 hS5 hS6
              go_wp2_with fail
              go_roundg (T.length + 1)
              case measure => omega
              case rel => exact ⟨(q, m2 - 1) :: T, O'.set p (0 + 1), rfl, by rw [List.length_cons]; omega, Lib.hid ⟨⟨HS6.out, HZ.out.1.base, HO6.out, HLOW.out, HB6.out⟩, HTL2.out, HC5.out⟩⟩
      · have hS1 : 1 ≤ S.length := by
          have h1 := feed_open F 0 i [] (List.replicate n 0) (by rw [HL.out]; simp) hi1 (by rw [HL.out]; exact hlt)
          rw [HW.out.1] at h1
          simpa using h1
        have hnk : ¬ (m : Int) > (n : Int) := by omega
        have hi2 : (i : Int) > 0 := by omega
        have hS2 : ((S.length : Int) == 0) = false := beq_eq_false_iff_ne.2 (by omega)
        go_wp2_with (first | (at_builtin; go_must (refine appList_blk rfl slOp rfl (World.ownsRow.alloc HO1.out _) rfl (news := [.int .i64 (i : Nat), .int .i64 m]) ((heap_alloc_at (by simp)) : Blk _ (wr.heap.size + 1) _ _) rfl rfl (by simp [Value.oneCell']) (by decide) (by unfold maxLen; omega) (by omega) ?_); intro g8 c8 w8 hown8 hgrow8 hat8; refine Stop7.intro ?_))
        unfold Stop7
        have hg8 : ((wr.alloc (.cells #[.int .i64 op, .int .i64 ev, .int .i64 m] 58)).alloc (.cells #[.int .i64 (i : Nat), .int .i64 m] 102)).grownBy w8 (Value.slice A4 S.length c4).ownBlock := hgrow8
        have hO8 : Outside (fun x => (Value.slice A4 S.length c4).ownBlock = some x) wr w8 := (((Outside.refl (fun x => (Value.slice A4 S.length c4).ownBlock = some x) wr).alloc (.cells #[.int .i64 op, .int .i64 ev, .int .i64 m] 58)).alloc (.cells #[.int .i64 (i : Nat), .int .i64 m] 102)).grown hg8 (fun z hz => .inl hz)
        have HE8 := Lib.hid (show EnAt w w8 n (i + 1) w.heap.size (.slice (some ⟨g8, 0, none⟩) (S.length + 1) c8) ((i, m) :: S) O from by
          refine ⟨?_, fun b hb => ?_, own_out HO2.out hO8 (fun x hx e => own_apart_own HW.out.2.1 HO2.out (by decide) e hx), fun x hx => ?_, HW.out.2.2.2.2.2.trans (hO8.below hsz (fun x hx e => by have := HW.out.2.2.1 x e; omega))⟩
          · rw [List.reverse_cons, cellsOf_append]
            exact hown8
          · have h1 : g8 = b := by simpa [Value.ownBlock] using hb
            rcases hat8 with h | h
            · exact HW.out.2.2.1 b (by rw [← h1]; exact h)
            · simp at h
              omega
          · rcases List.mem_cons.1 hx with rfl | hx
            · exact ⟨hlt, by dsimp only; omega⟩
            · exact ⟨(HW.out.2.2.2.2.1 x hx).2.1, (HW.out.2.2.2.2.1 x hx).2.2⟩)
        have HTL := Lib.hid (show ∀ x ∈ S, 1 ≤ x.2 from fun x hx => (HW.out.2.2.2.2.1 x hx).1)
        clear hown8 hgrow8 hat8 hg8 hO8 c0 c1 c2 hbl
        go_wp2_with fail
        go_loopg [4] (S.length + 1) (fun gk v4 wz => ∃ (T : List (Nat × Nat)) (O' : List Nat), gk = T.length ∧ T.length ≤ S.length + 1 ∧ Hid (EnAt w wz n (i + 1) w.heap.size v4 T O' ∧ (∀ x ∈ T.tail, 1 ≤ x.2) ∧ clo (i + 1) T O' = clo (i + 1) ((i, m) :: S) O))
        case atStart => exact ⟨(i, m) :: S, O, rfl, Nat.le_refl _, Lib.hid ⟨HE8.out, HTL.out, rfl⟩⟩
        case round =>
          rename World => wz
          rename Value => v4z
          obtain ⟨T, O', hgk, hTS, HZ⟩ := hrel
          obtain ⟨A5, c5, rfl, hc5, _⟩ := own_form HZ.out.1.own
          have hszz := HZ.out.1.bel.size
          match T, hgk, hTS, HZ, hc5 with
          | [], hgk, hTS, HZ, hc5 =>
            have HS2 := Lib.hid (show feed (F.enc.take (i + 1)) 0 ([], List.replicate n 0) = ([], O') by
              rw [HNEXT.out, ← HZ.out.2.2, clo_nil])
            go_wp2_with fail
            go_roundw
            case rel => exact ⟨i + 1, [], O', by omega, by go_num, Lib.hid ⟨HS2.out, HZ.out.1.own, HZ.out.1.base, HZ.out.1.out, (fun x hx => by cases hx), HZ.out.1.bel⟩⟩
            case measure => simp [intOf]; omega
          | (p, q + 1) :: T, hgk, hTS, HZ, hc5 =>
            have HS2 := Lib.hid (show feed (F.enc.take (i + 1)) 0 ([], List.replicate n 0) = ((p, q + 1) :: T, O') by
              rw [HNEXT.out, ← HZ.out.2.2, clo_succ])
            obtain ⟨b5, o5, x5, e5, hb5, hx5, d5⟩ := (Rd.ofOwn HZ.out.1.own).at_ oc_len (by decide) (i := T.length) (by simp)
            rw [List.reverse_cons, List.getElem?_append_right (by simp), List.length_reverse, Nat.sub_self] at hx5
            obtain rfl := Option.some.inj hx5
            subst e5
            have d51 := d5 1 _ rfl
            have hk0 : ((T.length : Int) + 1 - 1) = (T.length : Int) := by omega
            have hb5l : b5 < wz.heap.size := hb5
            have hq0 : (((q : Int) + 1) == 0) = false := by simp; omega
            have HLOW := Lib.hid (show ∀ x ∈ ((p, q + 1) :: T), 1 ≤ x.2 ∧ x.1 < n ∧ x.2 ≤ n from fun x hx => by
              have h1 := HZ.out.1.low x hx
              rcases List.mem_cons.1 hx with rfl | hx
              · exact ⟨by dsimp only; omega, h1⟩
              · exact ⟨HZ.out.2.1 x hx, h1⟩)
            simp only [List.length_cons] at hc5 hgk hTS
            clear hx5 d5
            go_wp2_with fail
            go_roundw
            case rel => exact ⟨i + 1, (p, q + 1) :: T, O', by omega, by go_num, Lib.hid ⟨HS2.out, HZ.out.1.own, HZ.out.1.base, HZ.out.1.out, HLOW.out, HZ.out.1.bel⟩⟩
            case measure => simp [intOf]; omega
          | (p, 0) :: T, hgk, hTS, HZ, hc5 =>
            obtain ⟨g5, cap, eg, _, hgl⟩ := HZ.out.1.own.form (by simp)
            obtain ⟨rfl, rfl⟩ : A5 = some ⟨g5, 0, none⟩ ∧ c5 = cap := by simpa using eg
            obtain ⟨b5, o5, x5, e5, hb5, hx5, d5⟩ := (Rd.ofOwn HZ.out.1.own).at_ oc_len (by decide) (i := T.length) (by simp)
            obtain ⟨rfl, rfl⟩ : g5 = b5 ∧ 0 = o5 := by simpa using e5
            rw [List.reverse_cons, List.getElem?_append_right (by simp), List.length_reverse, Nat.sub_self] at hx5
            obtain rfl := Option.some.inj hx5
            have d50 := d5 0 _ rfl
            have d51 := d5 1 _ rfl
            rw [Nat.zero_add] at d50 d51
            rw [Nat.add_zero] at d50
            have hk0 : ((T.length : Int) + 1 - 1) = (T.length : Int) := by omega
            have hpn : p < n := (HZ.out.1.low (p, 0) (by simp)).1
            have hwl := own_lt HZ.out.1.out (g := w.heap.size) rfl
            have wf := HZ.out.1.out.frozenAt p
            obtain ⟨b7, o7, x7, e7, _, _, d7⟩ := (Rd.ofOwn HZ.out.1.out).nat hpn
            obtain ⟨rfl, rfl⟩ : w.heap.size = b7 ∧ 0 = o7 := by simpa using e7
            rw [Nat.zero_add] at d7
            have hO5 : (wz.setCell ⟨w.heap.size, p, none⟩ (.int .i64 ((i : Int) + 1))).ownsRow 0 3 1 (.slice (some ⟨w.heap.size, 0, none⟩) n n) n (cellsOf ncell (O'.set p (i + 1))) := by
              have h1 := (HZ.out.1.out.stored p (.int .i64 ((i + 1 : Nat) : Int))).1
              rw [set_nc] at h1
              exact h1
            have hS5 : (wz.setCell ⟨w.heap.size, p, none⟩ (.int .i64 ((i : Int) + 1))).ownsRow 0 102 2 (.slice (some ⟨g5, 0, none⟩) T.length c5) T.length (cellsOf oc T.reverse) := by
              have h1 := own_cut (own_setCell HZ.out.1.own (p := ⟨w.heap.size, p, none⟩) (fun e => own_apart_own HZ.out.1.out HZ.out.1.own (by decide) rfl e) (.int .i64 ((i : Int) + 1))) (k := T.length) (by simp)
              have h2 := cut_oc T.reverse (p, 0)
              rw [List.length_reverse] at h2
              rw [List.reverse_cons, h2] at h1
              exact h1
            have HO5 := Lib.hid hO5
            have HS5 := Lib.hid hS5
            have HB5 := Lib.hid (HZ.out.1.bel.setCell (p := ⟨w.heap.size, p, none⟩) (Nat.le_refl _) (.int .i64 ((i : Int) + 1)))
            have HC5 := Lib.hid (show clo (i + 1) (decS T) (O'.set p (i + 1)) = clo (i + 1) ((i, m) :: S) O by rw [← HZ.out.2.2, clo_zero])
            simp only [List.length_cons] at hc5 hgk hTS
            cases T with
            | nil =>
              simp only [List.length_nil, Nat.zero_mul, Nat.zero_add] at d50 d51
              have hne : ¬ g5 = w.heap.size := fun e => own_apart_own HZ.out.1.own HZ.out.1.out (by decide) (g := g5) rfl (by rw [e]; rfl)
              clear hx5 d5 eg e5 e7 hO5 hS5
              go_wp2_with fail
              go_roundg 0
              case measure => omega
              case rel => exact ⟨[], O'.set p (i + 1), rfl, Nat.zero_le _, Lib.hid ⟨⟨HS5.out, HZ.out.1.base, HO5.out, (fun x hx => by cases hx), HB5.out⟩, (fun x hx => by cases hx), HC5.out⟩⟩
            | cons x6 T =>
              obtain ⟨q, m2⟩ := x6
              have hm2 : 1 ≤ m2 := HZ.out.2.1 (q, m2) (by simp)
              have hm2n : m2 ≤ n := (HZ.out.1.low (q, m2) (by simp)).2
              obtain ⟨b6, o6, x6, e6, hb6, hx6, d6⟩ := (Rd.ofOwn hS5).at_ oc_len (by decide) (i := T.length) (by simp)
              obtain ⟨rfl, rfl⟩ : g5 = b6 ∧ 0 = o6 := by simpa using e6
              rw [List.reverse_cons, List.getElem?_append_right (by simp), List.length_reverse, Nat.sub_self] at hx6
              obtain rfl := Option.some.inj hx6
              have d61 := d6 1 _ rfl
              rw [Nat.zero_add] at d61
              have hne : ¬ g5 = w.heap.size := fun e => own_apart_own HZ.out.1.own HZ.out.1.out (by decide) (g := g5) rfl (by rw [e]; rfl)
              have d61w : wz.cell? ⟨g5, T.length * 2 + 1, none⟩ = some (.int .i64 m2) :=
                (World.cell?_setCell_other wz ⟨w.heap.size, p, none⟩ ⟨g5, T.length * 2 + 1, none⟩ (.int .i64 ((i : Int) + 1)) (fun e => hne (congrArg Addr.block e).symm)).symm.trans d61
              have gf := hS5.frozenAt (T.length * 2 + 1)
              have hS6 : ((wz.setCell ⟨w.heap.size, p, none⟩ (.int .i64 ((i : Int) + 1))).setCell ⟨g5, T.length * 2 + 1, none⟩ (.int .i64 ((m2 : Int) - 1))).ownsRow 0 102 2 (.slice (some ⟨g5, 0, none⟩) (T.length + 1) c5) (T.length + 1) (cellsOf oc ((q, m2 - 1) :: T).reverse) := by
                have h1 := (hS5.stored (T.length * 2 + 1) (.int .i64 ((m2 - 1 : Nat) : Int))).1
                have h2 := set_oc T.reverse q m2 (m2 - 1)
                rw [List.length_reverse] at h2
                rw [List.reverse_cons, h2] at h1
                rw [List.reverse_cons, show (m2 : Int) - 1 = ((m2 - 1 : Nat) : Int) by omega]
                exact h1
              have HS6 := Lib.hid hS6
              have HO6 := Lib.hid (own_setCell hO5 (p := ⟨g5, T.length * 2 + 1, none⟩) (fun e => own_apart_own HZ.out.1.own HZ.out.1.out (by decide) rfl e) (.int .i64 ((m2 : Int) - 1)))
              have HB6 := Lib.hid (HB5.out.setCell (p := ⟨g5, T.length * 2 + 1, none⟩) (HZ.out.1.base g5 rfl) (.int .i64 ((m2 : Int) - 1)))
              have HLOW := Lib.hid (show ∀ x ∈ ((q, m2 - 1) :: T), x.1 < n ∧ x.2 ≤ n from fun x hx => by
                rcases List.mem_cons.1 hx with rfl | hx
                · have h1 := HZ.out.1.low (q, m2) (by simp)
                  exact ⟨h1.1, by dsimp only; omega⟩
                · exact HZ.out.1.low x (by simp [hx]))
              have HTL2 := Lib.hid (show ∀ x ∈ ((q, m2 - 1) :: T).tail, 1 ≤ x.2 from fun x hx => HZ.out.2.1 x (by simp at hx; simp [hx]))
              have hk1 : ((T.length : Int) + 1 + 1 - 1) = (T.length : Int) + 1 := by omega
              have hk2 : ((T.length : Int) + 1 - 1) = (T.length : Int) := by omega
              simp only [List.length_cons] at hc5 hgk hTS hk0 d50 d51
              clear hx5 d5 eg e5 e7 hx6 d6 e6 hO5 hS5 hS6
              go_wp2_with fail
              go_roundg (T.length + 1)
              case measure => omega
              case rel => exact ⟨(q, m2 - 1) :: T, O'.set p (i + 1), rfl, by rw [List.length_cons]; omega, Lib.hid ⟨⟨HS6.out, HZ.out.1.base, HO6.out, HLOW.out, HB6.out⟩, HTL2.out, HC5.out⟩⟩
    · have hin : i = n := by omega
      subst hin
      have HF := Lib.hid (show S = [] ∧ Good F 0 O by
        obtain ⟨out', h1, _, h3⟩ := feed_all F (List.replicate i 0) (by rw [HL.out]; simp)
        have h4 := HW.out.1
        rw [List.take_of_length_le (by rw [HL.out]; exact Nat.le_refl _), h1] at h4
        exact ⟨(Prod.mk.inj h4).1.symm, (Prod.mk.inj h4).2 ▸ h3⟩)
      obtain rfl := HF.out.1
      have hn0 : ((i : Int) == 0) = false := beq_eq_false_iff_ne.2 (by omega)
      go_wp2_with fail
      go_ret
      exact ⟨⟨w.heap.size, O, rfl, HW.out.2.2.2.1, HF.out.2, Nat.le_refl _⟩, HW.out.2.2.2.2.2⟩

end Go.Proofs.Ytmciinikfjfegaa
