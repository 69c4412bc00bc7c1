/- walks: the layout's forget: slices.DeleteFunc over positions -/
import Derived.Test.YtgfhkaamkodpjaaDoorTok2
import Derived.Test.YtgfhkaamkodpjaaDoorLaws
import Derived.Test.YtgfhkaamkodpjaaDoorIns
namespace Go.Proofs.YtgfhkaamkodpjaaDoor
open Go Go.RowKit
set_option maxHeartbeats 400000

theorem onesPos : ∀ i z, Tryd.prog.info? 29 = some i → i.zero = some z → ∀ v ∈ z.cells.toList, v.oneCell' = true := ones_of infoPos (by decide)

theorem same_any (p q : Pos) (b : Nat) (w : World) (hq0 : w.cell? ⟨b, 0, none⟩ = some (.int .i64 q.line)) (hq1 : w.cell? ⟨b, 1, none⟩ = some (.int .i64 q.col)) :
    Calls Tryd.prog 93 #[p.v, .pointer (some ⟨b, 0, none⟩)] w fun e w' => e = .returned (.bool (decide (p = q))) ∧ Below w.heap.size w w' := by
  obtain ⟨pl, pc⟩ := p
  obtain ⟨ql, qc⟩ := q
  dsimp only at hq0 hq1
  have hb := World.block_lt_of_cell? w _ hq0
  go_enter Tryd.func93, Tryd.ntmps93
  go_wp2
  all_goals go_ret
  all_goals exact ⟨ret_bool rfl, (Below.refl _ _).alloc (by simp) _⟩

/-- where q first stands -/
def pidx (l : List Pos) (q : Pos) : Int := if q ∈ l then ((l.takeWhile fun p => decide (p ≠ q)).length : Int) else -1

theorem pidx_hit {l : List Pos} {q : Pos} {k : Nat} (h1 : ∀ j x, j < k → l[j]? = some x → x ≠ q) (h2 : l[k]? = some q) : pidx l q = k := by
  unfold pidx
  have hk : k < l.length := (List.getElem?_eq_some_iff.1 h2).1
  rw [if_pos (List.mem_of_getElem? h2), takeWhile_len _ l k (by omega) (fun j x hj hx => by simpa using h1 j x hj hx) (fun x hx => by rw [h2] at hx; cases hx; simp)]
theorem pidx_miss {l : List Pos} {q : Pos} (h : ∀ j x, j < l.length → l[j]? = some x → x ≠ q) : pidx l q = -1 := by
  unfold pidx
  rw [if_neg]
  intro hm
  obtain ⟨j, hj, he⟩ := List.getElem_of_mem hm
  exact h j q hj (by rw [List.getElem?_eq_getElem hj, he]) rfl

theorem indexPos_any (A : Option Addr) (n c B b : Nat) (l : List Pos) (q : Pos) (w : World) (h : Rd w B 2 A n (cellsOf Pos.cells l)) (hB : B ≤ w.heap.size) (hn : n ≤ 1000000000)
    (hq0 : w.cell? ⟨b, 0, none⟩ = some (.int .i64 q.line)) (hq1 : w.cell? ⟨b, 1, none⟩ = some (.int .i64 q.col)) :
    Calls Tryd.prog 95 #[.slice A n c, .func (.func 93) #[] #[.pointer (some ⟨b, 0, none⟩)]] w fun e w' =>
      e = .returned (.int .i64 (pidx l q)) ∧ Below w.heap.size w w' := by
  have hl := h.len Pos.cells_len (by decide)
  have hb := World.block_lt_of_cell? w _ hq0
  dsimp only at hb
  go_enter Tryd.func95, Tryd.ntmps95
  have H := Lib.hid h
  have HL := Lib.hid hl
  have Hq0 := Lib.hid hq0
  have Hq1 := Lib.hid hq1
  clear h hl hq0 hq1
  go_wp2
  go_loopw [5, 8] (fun _ i wr => ∃ k : Nat, k ≤ n ∧ i = .int .i64 k ∧ Hid (∀ j x, j < k → l[j]? = some x → x ≠ q) ∧ Below w.heap.size w wr) (fun _ i _ => n - (intOf i).toNat)
  case atStart => exact ⟨0, by omega, rfl, (fun j x h1 => by omega), Below.refl _ _⟩
  case round =>
    obtain ⟨k, hk, rfl, HN, hbw⟩ := hrel
    have HR := H.out.below (hbw.mono hB)
    have HBW := Lib.hid hbw
    by_cases hlt : k < n
    · obtain ⟨bb, off, x, rfl, hbb, hx, hc0, hc1⟩ := HR.pos hlt
      have HX := Lib.hid hx
      clear hx HR hbw
      go_wp2_with (first | (go_at_call 93; refine (same_any x q b _ (by rw [HBW.out.cell (p := ⟨b, 0, none⟩) hb]; exact Hq0.out) (by rw [HBW.out.cell (p := ⟨b, 1, none⟩) hb]; exact Hq1.out)).mono ?_; rintro e w' ⟨rfl, hb2⟩; have HB2 := Lib.hid hb2; clear hb2))
      · go_ret
        have he : x = q := by assumption
        subst he
        exact ⟨ret_int (pidx_hit HN.out HX.out).symm, HBW.out.trans (HB2.out.mono HBW.out.size)⟩
      · have he : ¬ x = q := by assumption
        go_roundw
        case rel =>
          refine ⟨k + 1, by omega, by go_num, fun j y h1 hy => ?_, HBW.out.trans (HB2.out.mono HBW.out.size)⟩
          by_cases hj : j = k
          · subst hj
            rw [HX.out] at hy
            cases hy
            exact he
          · exact HN.out j y (by omega) hy
        case measure => simp [intOf]; omega
    · clear HR hbw
      go_wp2
      go_ret
      exact ⟨ret_int (pidx_miss (fun j x hj hx => HN.out j x (by have := HL.out; omega) hx)).symm, HBW.out⟩

/-- what is left when q is struck out -/
def keepOf (l : List Pos) (q : Pos) : List Pos := l.filter fun p => decide (p ≠ q)
/-- the row while it is done, j elements having been looked at -/
def midOf (l : List Pos) (q : Pos) (j : Nat) : List Pos := keepOf (l.take j) q ++ l.drop (keepOf (l.take j) q).length

theorem keep_len (l : List Pos) (q : Pos) (j : Nat) : (keepOf (l.take j) q).length ≤ j ∧ (keepOf (l.take j) q).length ≤ l.length := by
  have h1 : (keepOf (l.take j) q).length ≤ (l.take j).length := List.length_filter_le _ _
  rw [List.length_take] at h1
  omega
theorem mid_len (l : List Pos) (q : Pos) (j : Nat) : (midOf l q j).length = l.length := by
  have := keep_len l q j
  simp [midOf]; omega
theorem mid_get (l : List Pos) (q : Pos) (j : Nat) : (midOf l q j)[j]? = l[j]? := by
  have := keep_len l q j
  rw [midOf, List.getElem?_append_right this.1, List.getElem?_drop]
  congr 1
  omega
theorem take_snoc_some {α : Type} {l : List α} {j : Nat} {x : α} (h : l[j]? = some x) : l.take (j + 1) = l.take j ++ [x] := by
  rw [List.take_add_one, h]; rfl
theorem keep_hit {l : List Pos} {q : Pos} {j : Nat} (h : l[j]? = some q) : keepOf (l.take (j + 1)) q = keepOf (l.take j) q := by
  rw [take_snoc_some h, keepOf, List.filter_append]
  simp [keepOf]
theorem keep_miss {l : List Pos} {q x : Pos} {j : Nat} (h : l[j]? = some x) (hx : ¬ x = q) : keepOf (l.take (j + 1)) q = keepOf (l.take j) q ++ [x] := by
  rw [take_snoc_some h, keepOf, List.filter_append]
  simp [keepOf, hx]
theorem mid_hit {l : List Pos} {q : Pos} {j : Nat} (h : l[j]? = some q) : midOf l q (j + 1) = midOf l q j := by
  rw [midOf, keep_hit h]; rfl
theorem mid_miss {l : List Pos} {q x : Pos} {j : Nat} (h : l[j]? = some x) (hx : ¬ x = q) : midOf l q (j + 1) = (midOf l q j).set (keepOf (l.take j) q).length x := by
  have hk := keep_len l q j
  have hj : j < l.length := (List.getElem?_eq_some_iff.1 h).1
  rw [midOf, keep_miss h hx, midOf, List.set_append_right _ _ (Nat.le_refl _), Nat.sub_self,
    show l.drop (keepOf (l.take j) q).length = l[(keepOf (l.take j) q).length]'(by omega) :: l.drop ((keepOf (l.take j) q).length + 1) from List.drop_eq_getElem_cons (by omega), List.set_cons_zero, List.length_append, List.append_assoc]
  rfl
theorem keep_start {l : List Pos} {q : Pos} {k : Nat} (h1 : ∀ j x, j < k → l[j]? = some x → x ≠ q) : keepOf (l.take k) q = l.take k := by
  rw [keepOf, List.filter_eq_self]
  intro x hx
  obtain ⟨j, hj, he⟩ := List.getElem_of_mem hx
  rw [List.length_take] at hj
  rw [List.getElem_take] at he
  simpa using h1 j x (by omega) (by rw [List.getElem?_eq_getElem (by omega), he])
theorem mid_start {l : List Pos} {q : Pos} {k : Nat} (h1 : ∀ j x, j < k → l[j]? = some x → x ≠ q) (h2 : l[k]? = some q) : midOf l q (k + 1) = l ∧ (keepOf (l.take (k + 1)) q).length = k := by
  have hk : k < l.length := (List.getElem?_eq_some_iff.1 h2).1
  rw [mid_hit h2, midOf, keep_hit h2, keep_start h1, List.length_take, Nat.min_eq_left (by omega)]
  exact ⟨List.take_append_drop _ _, rfl⟩
theorem mid_end (l : List Pos) (q : Pos) : (midOf l q l.length).take (keepOf (l.take l.length) q).length = keepOf l q := by
  rw [midOf, List.take_left, List.take_length]
theorem set2_pos (M : List Pos) (i : Nat) (x : Pos) : ((cellsOf Pos.cells M).set (i * 2) (.int .i64 x.line)).set (i * 2 + 1) (.int .i64 x.col) = cellsOf Pos.cells (M.set i x) := by
  induction M generalizing i with
  | nil => simp [cellsOf]
  | cons y M ih =>
    have e : ∀ M' : List Pos, ∀ z : Pos, cellsOf Pos.cells (z :: M') = .int .i64 z.line :: .int .i64 z.col :: cellsOf Pos.cells M' := fun _ _ => rfl
    cases i with
    | zero => rw [e]; rfl
    | succ i =>
      rw [List.set_cons_succ, e, e, ← ih i, Nat.succ_mul]
      rfl
theorem first_at {l : List Pos} {q : Pos} (h : q ∈ l) : ∃ k : Nat, l[k]? = some q ∧ ∀ j x, j < k → l[j]? = some x → x ≠ q := by
  induction l with
  | nil => cases h
  | cons y l ih =>
    by_cases hy : y = q
    · exact ⟨0, by rw [hy]; rfl, fun j x hj => by omega⟩
    · obtain ⟨k, h1, h2⟩ := ih ((List.mem_cons.1 h).resolve_left (fun e => hy e.symm))
      refine ⟨k + 1, by simpa using h1, fun j x hj hx => ?_⟩
      cases j with
      | zero => simp at hx; exact hx ▸ hy
      | succ j => exact h2 j x (by omega) (by simpa using hx)
theorem pidx_cases (l : List Pos) (q : Pos) : (pidx l q = -1 ∧ keepOf l q = l) ∨ ∃ k : Nat, pidx l q = k ∧ k < l.length ∧ l[k]? = some q ∧ ∀ j x, j < k → l[j]? = some x → x ≠ q := by
  by_cases h : q ∈ l
  · obtain ⟨k, h1, h2⟩ := first_at h
    exact .inr ⟨k, pidx_hit h2 h1, (List.getElem?_eq_some_iff.1 h1).1, h1, h2⟩
  · left
    refine ⟨by unfold pidx; rw [if_neg h], ?_⟩
    rw [keepOf, List.filter_eq_self]
    intro x hx
    simp
    rintro rfl
    exact h hx

theorem delPos_any (v : Value) (n b : Nat) (l : List Pos) (q : Pos) (w : World) (h : w.ownsRow 0 29 2 v n (cellsOf Pos.cells l)) (hn : n ≤ 1000000000)
    (hq : Blk w b 29 #[.int .i64 q.line, .int .i64 q.col]) (hv : v.ownBlock ≠ some b) :
    Calls Tryd.prog 92 #[v, .func (.func 93) #[] #[.pointer (some ⟨b, 0, none⟩)]] w fun e w' =>
      ∃ v', e = .returned v' ∧ w'.ownsRow 0 29 2 v' (keepOf l q).length (cellsOf Pos.cells (keepOf l q)) ∧ Outside (fun k => v.ownBlock = some k) w w' ∧ v'.ownBlock = v.ownBlock := by
  obtain ⟨A, cap, rfl, hcap, hmax⟩ := own_form h
  have hR := Rd.ofOwn h
  have hl : l.length = n := hR.len Pos.cells_len (by decide)
  have hbl := hq.lt
  have Hh := Lib.hid h
  have Hq := Lib.hid hq
  have HR := Lib.hid hR
  have Hv := Lib.hid hv
  have HL := Lib.hid hl
  have Hmax := Lib.hid hmax
  clear h hq hR hv hmax
  rcases pidx_cases l q with ⟨hp, hk⟩ | ⟨k0, hp, hk0, hk1, hk2⟩
  · have HK := Lib.hid hk
    have HP := Lib.hid hp
    clear hl hk hp
    go_enter Tryd.func92, Tryd.ntmps92
    go_wp2_with (first | (go_at_call 95; refine (indexPos_any _ _ _ _ b l q _ HR.out (Nat.le_refl _) hn (Hq.out.cell 0) (Hq.out.cell 1)).mono ?_; rw [HP.out]; rintro e w' ⟨rfl, hb2⟩; have HB2 := Lib.hid hb2; clear hb2))
    go_ret
    refine ⟨_, rfl, ?_, (Below.new HB2.out).mono (fun _ _ h => h.elim), rfl⟩
    rw [HK.out, HL.out]
    exact own_out Hh.out (Below.new HB2.out) (fun _ _ h => h)
  · have hn0 : k0 < n := by omega
    have HP := Lib.hid hp
    have HK1 := Lib.hid hk1
    have HK2 := Lib.hid hk2
    have hne : ((k0 : Int) == -1) = false := by rw [beq_eq_false_iff_ne]; omega
    obtain ⟨g, cap', he, _, hglt⟩ := Hh.out.form (by omega)
    obtain ⟨rfl, rfl⟩ : A = some ⟨g, 0, none⟩ ∧ cap' = cap := by injection he with h1 _ h3; exact ⟨h1, h3.symm⟩
    have hgb : g ≠ b := fun e => Hv.out (by rw [e]; rfl)
    have HM := Lib.hid (mid_start hk2 hk1)
    clear hl hp hk1 hk2 hk0 he
    go_enter Tryd.func92, Tryd.ntmps92
    go_wp2_with (first | (go_at_call 95; refine (indexPos_any _ _ _ _ b l q _ HR.out (Nat.le_refl _) hn (Hq.out.cell 0) (Hq.out.cell 1)).mono ?_; rw [HP.out]; rintro e w' ⟨rfl, hb2⟩; have HB2 := Lib.hid hb2; clear hb2))
    go_loopw [5, 6] (fun i j wr => ∃ m k : Nat, i = .int .i64 m ∧ j = .int .i64 k ∧ m < k ∧ k ≤ n ∧ Hid (m = (keepOf (l.take k) q).length) ∧
        Hid (wr.ownsRow 0 29 2 (.slice (some ⟨g, 0, none⟩) n cap') n (cellsOf Pos.cells (midOf l q k))) ∧ Hid (Outside (fun x => x = g) w wr)) (fun _ j _ => n - (intOf j).toNat)
    case atStart =>
      refine ⟨k0, k0 + 1, rfl, by first | rfl | go_num, by omega, by omega, HM.out.2.symm, ?_, (Below.new HB2.out).mono (fun _ _ h => h.elim)⟩
      show World.ownsRow _ _ _ _ _ _ _
      rw [HM.out.1]
      exact own_out Hh.out (Below.new HB2.out) (fun _ _ h => h)
    case round =>
      obtain ⟨m, k, rfl, rfl, hmk, hkn, HMK, HO, HW⟩ := hrel
      have HB3 := Lib.hid (Hq.out.out HW.out (Ne.symm hgb))
      by_cases hlt : k < n
      · obtain ⟨x, hx⟩ : ∃ x, l[k]? = some x := ⟨_, List.getElem?_eq_getElem (by have := HL.out; omega)⟩
        have hmx := mid_get l q k
        rw [hx] at hmx
        have HX := Lib.hid hx
        have hcA := HO.out.cellAt (k * 2) (by omega)
        have hcB := HO.out.cellAt (k * 2 + 1) (by omega)
        rw [show k * 2 = k * 2 + 0 from rfl, cellsOf_get Pos.cells_len _ k 0 (by decide), hmx] at hcA
        rw [cellsOf_get Pos.cells_len _ k 1 (by decide), hmx] at hcB
        have hcA' : wr.cell? ⟨g, k * 2, none⟩ = some (.int .i64 x.line) := hcA
        have hcB' : wr.cell? ⟨g, k * 2 + 1, none⟩ = some (.int .i64 x.col) := hcB
        obtain ⟨y, hy⟩ : ∃ y, (midOf l q k)[m]? = some y := ⟨_, List.getElem?_eq_getElem (by rw [mid_len, HL.out]; omega)⟩
        have HY := Lib.hid hy
        have hgw : g < wr.heap.size := own_lt HO.out rfl
        have hbw := HB3.out.lt
        clear hx hmx hcA hcB hy
        go_wp2_with (first | (go_at_call 93; refine (same_any x q b _ ((HB3.out.alloc _).cell 0) ((HB3.out.alloc _).cell 1)).mono ?_; rintro e w2 ⟨rfl, hb3⟩; have HB4 := Lib.hid hb3; have hO2 := own_out (HO.out.alloc (.cells #[.int .i64 x.line, .int .i64 x.col] 29)) (Below.new hb3) (fun _ _ h => h); have HN := (Blk.new wr 29 #[.int .i64 x.line, .int .i64 x.col]).below hb3 (by simp); have hn0 : w2.cell? ⟨wr.heap.size, 0, none⟩ = some (.int .i64 x.line) := HN.cell 0; have hn1 : w2.cell? ⟨wr.heap.size, 1, none⟩ = some (.int .i64 x.col) := HN.cell 1; have hfz := hO2.frozenAt; have hm0 : w2.cell? ⟨g, m * 2, none⟩ = some (.int .i64 y.line) := (hO2.cellAt (m * 2) (by omega)).trans (by rw [show m * 2 = m * 2 + 0 from rfl, cellsOf_get Pos.cells_len _ m 0 (by decide), HY.out]; rfl); have hm1 : w2.cell? ⟨g, m * 2 + 1, none⟩ = some (.int .i64 y.col) := (hO2.cellAt (m * 2 + 1) (by omega)).trans (by rw [cellsOf_get Pos.cells_len _ m 1 (by decide), HY.out]; rfl); have HO2 := Lib.hid hO2; clear hb3 hO2 HN))
        · have hxq : ¬ x = q := by
            have h : (!decide (x = q)) = true := by assumption
            simpa using h
          go_roundw
          case rel =>
            refine ⟨m + 1, k + 1, by go_num, by go_num, by omega, by omega, ?_, ?_, ?_⟩
            · show m + 1 = _
              rw [keep_miss HX.out hxq, List.length_append, ← HMK.out]
              rfl
            · show World.ownsRow _ _ _ _ _ _ _
              rw [mid_miss HX.out hxq, ← HMK.out, ← set2_pos]
              exact own_set2 HO2.out m _ _
            · exact (((((HW.out.alloc _).trans ((Below.new HB4.out).mono (fun _ _ h => h.elim)))).setCell (p := ⟨g, m * 2, none⟩) (Or.inl rfl) _).setCell (p := ⟨g, m * 2 + 1, none⟩) (Or.inl rfl) _)
          case measure => simp [intOf]; omega
        · have hxq : x = q := by
            have h : (!decide (x = q)) = false := by assumption
            simpa using h
          subst hxq
          go_roundw
          case rel =>
            refine ⟨m, k + 1, rfl, by go_num, by omega, by omega, ?_, ?_, ?_⟩
            · show m = _
              rw [keep_hit HX.out, ← HMK.out]
            · show World.ownsRow _ _ _ _ _ _ _
              rw [mid_hit HX.out]
              exact HO2.out
            · exact (HW.out.alloc _).trans ((Below.new HB4.out).mono (fun _ _ h => h.elim))
          case measure => simp [intOf]; omega
      · have hkn' : k = n := by omega
        subst hkn'
        have hcm : ¬ cap' = m := by omega
        go_wp2_with (first | ((with_reducible show wpList _ _ _ ({ dst := none, op := Op.call { callee := Callee.builtin Builtin.clear, args := _, argTypes := _ }, type := _, pos := _, after := _, guard := _ } :: _) _ _); refine wpList_plain rfl fun K hK => ?_; refine clear_own (i := m) slPos rfl rfl onesPos HO.out (by rfl) (by omega) (by omega) ?_; intro w3 ho3 hg3; refine hK _ _ ?_; clear hK; have HO3 := Lib.hid ho3; have HG3 := Lib.hid hg3; clear ho3 hg3))
        go_ret
        refine ⟨_, rfl, ?_, ?_, rfl⟩
        case refine_2 =>
          have h1 : Outside (fun x => x = g) w w3 := HW.out.grown HG3.out (fun k h => Or.inl (by cases h; rfl))
          exact h1.mono (fun k _ h => by subst h; rfl)
        have e1 : (keepOf l q).length = m := by
          have := HMK.out
          rw [← HL.out, List.take_length] at this
          exact this.symm
        rw [e1, ← mid_end, HL.out, ← HMK.out, cellsOf_take Pos.cells_len]
        exact HO3.out

end Go.Proofs.YtgfhkaamkodpjaaDoor
