/- lists of numbers in a row; slices.Equal at numbers; the program's classes and rounds -/
import Derived.Test.YtmciinikfjfegaaSgW3
import Derived.Deep.LoopGhost
namespace Go.Proofs.Ytmciinikfjfegaa
open Go Go.RowKit
set_option maxHeartbeats 8000000

/-- The slice reads as the rows ls; all of it lies below block B. -/
def RdZ (w : World) (B : Nat) (A : Option Addr) (n : Nat) (ls : List (List Nat)) : Prop :=
  ∃ vs : List Value, Rd w B 1 A n vs ∧ ls.length = n ∧ ∀ (i : Nat) (l : List Nat), ls[i]? = some l → ∃ (A' : Option Addr) (n' c' : Nat), vs[i]? = some (Value.slice A' n' c') ∧ Rd w B 1 A' n' (cellsOf ncell l)
section
variable {w w' : World} {B B' n : Nat} {A : Option Addr} {ls : List (List Nat)}
theorem RdZ.keep (h : RdZ w B A n ls) (hk : ∀ p : Addr, p.block < B → w'.cell? p = w.cell? p) : RdZ w' B A n ls := by
  obtain ⟨vs, h1, h2, h3⟩ := h
  refine ⟨vs, h1.keep hk, h2, fun i l hl => ?_⟩
  obtain ⟨A', n', c', h4, h5⟩ := h3 i l hl
  exact ⟨A', n', c', h4, h5.keep hk⟩
theorem RdZ.below (h : RdZ w B A n ls) (hb : Below B w w') : RdZ w' B A n ls := h.keep fun _ hp => hb.cell hp
theorem RdZ.drewN (h : RdZ w B A n ls) (m : Nat) : RdZ (w.drewN m) B A n ls := h.keep fun _ _ => rfl
theorem RdZ.alloc (h : RdZ w B A n ls) (hB : B ≤ w.heap.size) (o : Obj) : RdZ (w.alloc o) B A n ls := h.keep fun p hp => World.cell?_alloc_lt w o p (by omega)
theorem RdZ.more (h : RdZ w B A n ls) (hB : B ≤ B') : RdZ w B' A n ls := by
  obtain ⟨vs, h1, h2, h3⟩ := h
  refine ⟨vs, h1.more hB, h2, fun i l hl => ?_⟩
  obtain ⟨A', n', c', h4, h5⟩ := h3 i l hl
  exact ⟨A', n', c', h4, h5.more hB⟩
theorem RdZ.len (h : RdZ w B A n ls) : ls.length = n := by
  obtain ⟨_, _, h2, _⟩ := h
  exact h2
theorem RdZ.row (h : RdZ w B A n ls) {i : Nat} (hi : i < n) :
    ∃ b off l A' n' c', A = some ⟨b, off, none⟩ ∧ b < B ∧ ls[i]? = some l ∧ l.length = n' ∧ w.cell? ⟨b, off + i, none⟩ = some (.slice A' n' c') ∧ Rd w B 1 A' n' (cellsOf ncell l) := by
  obtain ⟨vs, h1, h2, h3⟩ := h
  obtain ⟨b, off, e, hb, hc⟩ := h1.2 (by omega)
  have hl : ls[i]? = some (ls[i]'(by omega)) := List.getElem?_eq_getElem (by omega)
  obtain ⟨A', n', c', h4, h5⟩ := h3 i _ hl
  exact ⟨b, off, _, A', n', c', e, hb, hl, h5.len ncell_len (by decide), hc i _ h4, h5⟩
theorem RdZ.nil : RdZ w B A 0 [] := ⟨[], Rd.nil, rfl, fun i l hl => by simp at hl⟩
end

/-- rows that were read, in an outer row of one's own, in blocks from W on -/
structure RowsZ (w : World) (W : Nat) (v : Value) (k : Nat) (xs : List Value) (ls : List (List Nat)) : Prop where
  own : w.ownsRow 0 29 1 v k xs
  base : ∀ g, v.ownBlock = some g → W ≤ g
  len : ls.length = k
  rows : ∀ (j : Nat) (l : List Nat), ls[j]? = some l → ∃ u, xs[j]? = some u ∧ w.ownsRow 0 3 1 u l.length (cellsOf ncell l) ∧ ∀ g, u.ownBlock = some g → W ≤ g
section
variable {w w' : World} {W k : Nat} {v v' u : Value} {xs : List Value} {ls : List (List Nat)} {R : Nat → Prop}
theorem RowsZ.nil (w : World) (W : Nat) : RowsZ w W (.slice none 0 0) 0 [] [] := ⟨World.ownsRow_nil _ _ _ _, fun g hg => by simp [Value.ownBlock] at hg, rfl, fun j l h => by simp at h⟩
theorem RowsZ.out (h : RowsZ w W v k xs ls) (hO : Outside R w w') (hR : ∀ g, W ≤ g → g < w.heap.size → ¬ R g) : RowsZ w' W v k xs ls :=
  ⟨own_out h.own hO fun g hg => hR g (h.base g hg) (own_lt h.own hg), h.base, h.len, fun j l hl => by
    obtain ⟨u, h1, h2, h3⟩ := h.rows j l hl
    exact ⟨u, h1, own_out h2 hO fun g hg => hR g (h3 g hg) (own_lt h2 hg), h3⟩⟩
/-- one row more -/
theorem RowsZ.snoc {l : List Nat} (h : RowsZ w W v k xs ls) (hown : w'.ownsRow 0 29 1 v' (k + 1) (xs ++ [u])) (hb : ∀ g, v'.ownBlock = some g → W ≤ g)
    (hO : Outside (fun k => v.ownBlock = some k) w w') (hu : w.ownsRow 0 3 1 u l.length (cellsOf ncell l)) (hu2 : ∀ g, u.ownBlock = some g → W ≤ g) : RowsZ w' W v' (k + 1) (xs ++ [u]) (ls ++ [l]) := by
  have hk : ∀ (u' : Value) (l' : List Nat), w.ownsRow 0 3 1 u' l'.length (cellsOf ncell l') → w'.ownsRow 0 3 1 u' l'.length (cellsOf ncell l') := fun u' l' h1 =>
    own_out h1 hO fun g hg e => own_apart_own h1 h.own (by decide) hg e
  have hx : xs.length = k := by have := h.own.1; omega
  refine ⟨hown, hb, by rw [List.length_append, h.len]; rfl, fun j l' hl => ?_⟩
  by_cases hj : j < ls.length
  · rw [List.getElem?_append_left hj] at hl
    obtain ⟨u', h1, h2, h3⟩ := h.rows j l' hl
    exact ⟨u', by rw [List.getElem?_append_left (by rw [hx, ← h.len]; exact hj)]; exact h1, hk _ _ h2, h3⟩
  · have hjk : j = k := by
      have := (List.getElem?_eq_some_iff.1 hl).1
      rw [List.length_append, h.len, List.length_singleton] at this
      rw [h.len] at hj
      omega
    subst hjk
    rw [List.getElem?_append_right (by rw [h.len]; exact Nat.le_refl _), h.len, Nat.sub_self] at hl
    cases hl
    refine ⟨u, ?_, hk _ _ hu, hu2⟩
    rw [List.getElem?_append_right (by rw [hx]; exact Nat.le_refl _), hx, Nat.sub_self]
    rfl
theorem RowsZ.whole {A : Option Addr} {c : Nat} (h : RowsZ w W (.slice A k c) k xs ls) : RdZ w w.heap.size A k ls := by
  refine ⟨xs, Rd.ofOwn h.own, h.len, fun j l hl => ?_⟩
  obtain ⟨u, h1, h2, _⟩ := h.rows j l hl
  obtain ⟨A', c', rfl, _, _⟩ := own_form h2
  exact ⟨A', l.length, c', h1, Rd.ofOwn h2⟩
end

theorem infoIntRow : (Try.prog.info? 29).map (fun i => (i.zero, i.size, i.bytes)) = some (some (.slice none 0 0), 1, 24) := by kernel_rfl
theorem slIntRow : SlT Try.prog 63 29 1 24 := SlT.of Try.underlying63 infoIntRow rfl (by decide)
theorem RowsZ.mono {w : World} {W W' k : Nat} {v : Value} {xs : List Value} {ls : List (List Nat)} (h : RowsZ w W v k xs ls) (hW : W' ≤ W) : RowsZ w W' v k xs ls :=
  ⟨h.own, fun g hg => Nat.le_trans hW (h.base g hg), h.len, fun j l hl => by
    obtain ⟨u, h1, h2, h3⟩ := h.rows j l hl
    exact ⟨u, h1, h2, fun g hg => Nat.le_trans hW (h3 g hg)⟩⟩

set_option maxRecDepth 100000 in
theorem eqInts_any (A A' : Option Addr) (n c n' c' B : Nat) (l l' : List Nat) (w : World) (h : Rd w B 1 A n (cellsOf ncell l)) (h' : Rd w B 1 A' n' (cellsOf ncell l')) (hB : B ≤ w.heap.size) (hn : n ≤ 1000000000000) :
    Calls Try.prog 61 #[.slice A n c, .slice A' n' c'] w fun e w' => e = .returned (.bool (decide (l = l'))) ∧ Below w.heap.size w w' := by
  have HL := Lib.hid (h.len ncell_len (by decide))
  have HL' := Lib.hid (h'.len ncell_len (by decide))
  have H := Lib.hid h
  have H' := Lib.hid h'
  clear h h'
  go_enter Try.func61, Try.ntmps61
  by_cases hne : n = n'
  · subst hne
    go_wp2_with fail
    go_loopw [13] (fun vk wr => ∃ k : Nat, k ≤ n ∧ vk = .int .i64 k ∧ Hid (l.take k = l'.take k ∧ Below w.heap.size w wr)) (fun vk _ => n - (intOf vk).toNat)
    case atStart => exact ⟨0, Nat.zero_le _, rfl, Lib.hid ⟨rfl, Below.refl _ _⟩⟩
    case round =>
      obtain ⟨k, hk, rfl, HW⟩ := hrel
      by_cases hlt : k < n
      · obtain ⟨b1, o1, x, rfl, _, hx, c0⟩ := (H.out.keep (w' := wr) (fun p hp => HW.out.2.cell (by omega))).nat hlt
        obtain ⟨b2, o2, y, rfl, _, hy, d0⟩ := (H'.out.keep (w' := wr) (fun p hp => HW.out.2.cell (by omega))).nat hlt
        by_cases hxy : x = y
        · subst hxy
          have HT := Lib.hid (take_next HW.out.1 hx hy)
          have HBW := Lib.hid HW.out.2.drew
          clear hx hy
          go_wp2_with (first | ((with_reducible show wpPlan _ _ _ _ _ (Act.put _ _ _) _); simp only [List.getElem_toArray, List.getElem_cons_succ, List.getElem_cons_zero, Act.put, List.setIfInBounds_toArray, List.set_cons_zero, List.set_cons_succ]) | ((with_reducible show wpPlan _ _ _ _ _ _ _); first | refine wpPlan_nil ?_ | (refine wpPlan_read0 rfl ?hw rfl (fun _ _ _ => ?_); case hw => ((conv => (lhs; whnf)); first | done | with_reducible rfl)) | (refine wpPlan_read1d rfl ?hw rfl rfl (fun _ _ _ => ?_); case hw => ((conv => (lhs; whnf)); first | done | with_reducible rfl)) | (refine wpPlan_eff rfl ?hw (fun _ _ => ?_); case hw => ((conv => (lhs; whnf)); first | done | with_reducible rfl)) | (refine wpPlan_skip0 rfl ?hw ?_; case hw => ((conv => (lhs; whnf)); first | done | with_reducible rfl)) | (refine wpPlan_skip1d rfl ?hw ?_; case hw => ((conv => (lhs; whnf)); first | done | with_reducible rfl)) | (refine wpPlan_skip2 rfl ?hw ?_; case hw => ((conv => (lhs; whnf)); first | done | with_reducible rfl)) | (refine wpPlan_read1 rfl ?hw rfl (fun _ _ _ => ?_); case hw => ((conv => (lhs; whnf)); first | done | with_reducible rfl)) | refine wpPlan_fork ?_ ?_) | ((with_reducible show Owed _ _ _ _ _ _ _ _ _); first | refine Owed.none_ ?_ | refine Owed.nil_ ?_ | refine Owed.miss rfl ?_ | refine Owed.hit ?_ ?_) | ((with_reducible show Same _ _ _ _ _); intro _; go_simp; done) | (with_reducible exact True.intro) | ((with_reducible show Code.wp _ (Code.region 6 _ true) _ _ _); refine wp_region_plan [(0, 0, []), (1, 0, []), (2, 1, []), (3, 1, []), (4, 0, []), (5, 0, []), (6, 1, []), (7, 1, []), (8, 1, [])] (by kernel_rfl) (by kernel_rfl) (by kernel_rfl) ?_))
          go_roundw
          case rel => exact ⟨k + 1, by omega, by go_num, Lib.hid ⟨HT.out, HBW.out⟩⟩
          case measure => simp [intOf]; omega
        · have HNE := Lib.hid (show decide (l = l') = false from decide_eq_false fun e => by
            rw [e, hy] at hx
            exact hxy (Option.some.inj hx).symm)
          have HBW := Lib.hid HW.out.2.drew
          clear hx hy
          go_wp2_with (first | ((with_reducible show wpPlan _ _ _ _ _ (Act.put _ _ _) _); simp only [List.getElem_toArray, List.getElem_cons_succ, List.getElem_cons_zero, Act.put, List.setIfInBounds_toArray, List.set_cons_zero, List.set_cons_succ]) | ((with_reducible show wpPlan _ _ _ _ _ _ _); first | refine wpPlan_nil ?_ | (refine wpPlan_read0 rfl ?hw rfl (fun _ _ _ => ?_); case hw => ((conv => (lhs; whnf)); first | done | with_reducible rfl)) | (refine wpPlan_read1d rfl ?hw rfl rfl (fun _ _ _ => ?_); case hw => ((conv => (lhs; whnf)); first | done | with_reducible rfl)) | (refine wpPlan_eff rfl ?hw (fun _ _ => ?_); case hw => ((conv => (lhs; whnf)); first | done | with_reducible rfl)) | (refine wpPlan_skip0 rfl ?hw ?_; case hw => ((conv => (lhs; whnf)); first | done | with_reducible rfl)) | (refine wpPlan_skip1d rfl ?hw ?_; case hw => ((conv => (lhs; whnf)); first | done | with_reducible rfl)) | (refine wpPlan_skip2 rfl ?hw ?_; case hw => ((conv => (lhs; whnf)); first | done | with_reducible rfl)) | (refine wpPlan_read1 rfl ?hw rfl (fun _ _ _ => ?_); case hw => ((conv => (lhs; whnf)); first | done | with_reducible rfl)) | refine wpPlan_fork ?_ ?_) | ((with_reducible show Owed _ _ _ _ _ _ _ _ _); first | refine Owed.none_ ?_ | refine Owed.nil_ ?_ | refine Owed.miss rfl ?_ | refine Owed.hit ?_ ?_) | ((with_reducible show Same _ _ _ _ _); intro _; go_simp; done) | (with_reducible exact True.intro) | ((with_reducible show Code.wp _ (Code.region 6 _ true) _ _ _); refine wp_region_plan [(0, 0, []), (1, 0, []), (2, 1, []), (3, 1, []), (4, 0, []), (5, 0, []), (6, 1, []), (7, 1, []), (8, 1, [])] (by kernel_rfl) (by kernel_rfl) (by kernel_rfl) ?_))
          go_ret
          exact ⟨ret_bool HNE.out.symm, HBW.out⟩
      · have hkn : k = n := by omega
        subst hkn
        have HD := Lib.hid (show decide (l = l') = true from decide_eq_true (take_eq_all HL.out HL'.out HW.out.1))
        go_wp2_with fail
        go_ret
        exact ⟨ret_bool HD.out.symm, HW.out.2⟩
  · rw [show decide (l = l') = false from decide_eq_false fun e => hne (by rw [← HL.out, ← HL'.out, e])]
    go_wp2_with fail
    go_ret
    exact ⟨rfl, Below.refl _ _⟩

/-- what a system must be for its partitions to be reckoned -/
structure OkL (ls : List (List Arc)) (n : Nat) : Prop where
  len : ls.length = n
  few : n ≤ 100000
  tos : TosIn ls
  ev : ∀ l ∈ ls, ∀ a ∈ l, 0 ≤ a.ev ∧ a.ev ≤ 1025
  rows : ∀ l ∈ ls, l.length ≤ 100000
theorem cl_small {ls : List (List Arc)} {n k : Nat} (h : OkL ls n) : ∀ x ∈ clK ls k, x ≤ 100000 := fun x hx => by
  have h1 := clK_lt' x hx
  have := h.len
  have := h.few
  omega

set_option maxRecDepth 100000 in
theorem classes_any (A : Option Addr) (n c : Nat) (ls : List (List Arc)) (B : Nat) (w : World) (h : RdL w B A n ls) (hB : B ≤ w.heap.size) (ho : OkL ls n) :
    Calls Try.prog 34 #[lts A n c] w fun e w' => (∃ v K, e = .returned v ∧ DoneR ls K ∧ w'.ownsRow 0 3 1 v n (cellsOf ncell (clK ls K)) ∧ ∀ g, v.ownBlock = some g → w.heap.size ≤ g) ∧ Below w.heap.size w w' := by
  have H := Lib.hid h
  have HK := Lib.hid ho
  have hn := ho.few
  have HN0 := Lib.hid (Blk.new w 27 #[.slice A n c])
  obtain ⟨i0, hi0, hz0, hz1, hz2⟩ := info_parts infoInt
  clear h ho
  go_enter Try.func34, Try.ntmps34
  go_wp2_with (at_make; refine wpList_makeC _ rfl _ _ 29 rfl 3 i0 (.int .i64 0) Try.underlying29 hi0 hz0 hz1 _ _ n _ rfl rfl rfl (by rw [hz2]; omega) (by omega) ?_)
  have hzero : ((w.alloc (.cells #[.slice A n c] 27)).alloc (.cells (madeCells (Value.int .i64 0).cells n) 3)).ownsRow 0 3 1 (.slice (some ⟨w.heap.size + 1, 0, none⟩) n n) n (cellsOf ncell (clK ls 0)) := by
    rw [clK, HK.out.len, made_ncells]
    exact ⟨by rw [cellsOf_length ncell_len, List.length_replicate], .inr ⟨w.heap.size + 1, n, (cellsOf ncell (List.replicate n 0)).toArray, rfl, Nat.zero_le _, heap_alloc_at (by simp), Nat.le_refl _, by unfold maxLen; omega, by simp [cellsOf_length ncell_len], by rw [List.take_of_length_le (by simp [cellsOf_length ncell_len])]⟩⟩
  have HZ0 := Lib.hid (And.intro hzero (And.intro (HN0.out.alloc (.cells (madeCells (Value.int .i64 0).cells n) 3)) (((Below.refl w.heap.size w).alloc (Nat.le_refl _) (.cells #[.slice A n c] 27)).alloc (by simp) (.cells (madeCells (Value.int .i64 0).cells n) 3))))
  clear hzero
  go_loopg [3] n (fun gk vn wr => ∃ (k : Nat) (A1 : Option Addr) (c1 : Nat), gk + k = n ∧ vn = .slice A1 n c1 ∧ Hid ((∀ j, j < k → clK ls (j + 1) ≠ clK ls j) ∧ wr.ownsRow 0 3 1 (.slice A1 n c1) n (cellsOf ncell (clK ls k)) ∧ (∀ g, (Value.slice A1 n c1).ownBlock = some g → w.heap.size ≤ g) ∧ Blk wr w.heap.size 27 #[.slice A n c] ∧ Below w.heap.size w wr))
  case atStart => exact ⟨0, _, _, by omega, rfl, Lib.hid ⟨fun j hj => by omega, HZ0.out.1, fun g hg => by simp [Value.ownBlock] at hg; omega, HZ0.out.2.1, HZ0.out.2.2⟩⟩
  case round =>
    obtain ⟨k, A1, c1, hgk, rfl, HW⟩ := hrel
    have h0c := HW.out.2.2.2.1.cell
    have h0l := HW.out.2.2.2.1.lt
    have hsz := HW.out.2.2.2.2.size
    go_wp2_with fail
    refine (next_any A n c ls A1 n c1 (clK ls k) wr.heap.size wr ((H.out.below (HW.out.2.2.2.2.mono hB)).more (by omega)) (Rd.ofOwn HW.out.2.1) (Nat.le_refl _) hn (by rw [clK_len, HK.out.len]) HK.out.tos HK.out.ev (cl_small HK.out) HK.out.rows).mono ?_
    rintro e w2 ⟨⟨v2, rfl, ho2, hb2⟩, hbl2⟩
    obtain ⟨A2, c2, rfl, _, _⟩ := own_form ho2
    have he : (numK (keyS ls (clK ls k)) n).1 = clK ls (k + 1) := by rw [clK_next, HK.out.len]
    rw [he] at ho2
    have HO1 := Lib.hid (own_out HW.out.2.1 (Below.new hbl2) (fun _ _ e => e))
    have HO2 := Lib.hid ho2
    have HN2 := Lib.hid (HW.out.2.2.2.1.below hbl2 h0l)
    have HB2 := Lib.hid (HW.out.2.2.2.2.trans (hbl2.mono hsz))
    have HBA := Lib.hid (show ∀ g, (Value.slice A2 n c2).ownBlock = some g → w.heap.size ≤ g from fun g hg => Nat.le_trans hsz (hb2 g hg))
    have hs2 := hbl2.size
    clear ho2 hb2 hbl2 he h0c h0l
    go_wp2_with fail
    obtain ⟨q, hq⟩ : ∃ q, decide (clK ls k = clK ls (k + 1)) = q := ⟨_, rfl⟩
    refine (eqInts_any A1 A2 n c1 n c2 w2.heap.size (clK ls k) (clK ls (k + 1)) w2 (Rd.ofOwn HO1.out) (Rd.ofOwn HO2.out) (Nat.le_refl _) (by omega)).mono ?_
    rw [hq]
    rintro e w3 ⟨rfl, hb3⟩
    have HQ := Lib.hid hq
    have HO3 := Lib.hid (own_out HO1.out (Below.new hb3) (fun _ _ e => e))
    have HO4 := Lib.hid (own_out HO2.out (Below.new hb3) (fun _ _ e => e))
    have HN3 := Lib.hid (HN2.out.below hb3 HN2.out.lt)
    have HB3 := Lib.hid (HB2.out.trans (hb3.mono (Nat.le_trans hsz hs2)))
    clear hb3 hq
    cases q
    · have HNE := Lib.hid (show ∀ j, j < k + 1 → clK ls (j + 1) ≠ clK ls j from fun j hj => by
        by_cases e : j = k
        · subst e
          exact fun e2 => of_decide_eq_false HQ.out e2.symm
        · exact HW.out.1 j (by omega))
      have hk1 : k + 1 ≤ n := by have := round_le HNE.out; rw [HK.out.len] at this; exact this
      go_wp2_with fail
      go_roundg (n - (k + 1))
      case measure => omega
      case rel => exact ⟨k + 1, A2, c2, by omega, rfl, Lib.hid ⟨HNE.out, HO4.out, HBA.out, HN3.out, HB3.out⟩⟩
    · go_wp2_with fail
      go_ret
      exact ⟨⟨_, k, rfl, ⟨HW.out.1, (of_decide_eq_true HQ.out).symm⟩, HO3.out, HW.out.2.2.1⟩, HB3.out⟩

theorem RowsZ.at_ {w : World} {W k : Nat} {v : Value} {xs : List Value} {ls : List (List Nat)} (h : RowsZ w W v k xs ls) {j : Nat} (hj : j < k) {l : List Nat} (hl : ls[j]? = some l) :
    ∃ gq cq A' c', v = .slice (some ⟨gq, 0, none⟩) k cq ∧ W ≤ gq ∧ gq < w.heap.size ∧ k ≤ cq ∧ w.cell? ⟨gq, j, none⟩ = some (.slice A' l.length c') ∧ w.ownsRow 0 3 1 (.slice A' l.length c') l.length (cellsOf ncell l) ∧ ∀ g, (Value.slice A' l.length c').ownBlock = some g → W ≤ g := by
  obtain ⟨u, h1, h2, h3⟩ := h.rows j l hl
  obtain ⟨A', c', rfl, _, _⟩ := own_form h2
  obtain ⟨A1, cq, rfl, hkc, _⟩ := own_form h.own
  obtain ⟨g, c3, e3, _, hg⟩ := h.own.form (by omega)
  cases e3
  obtain ⟨b, o, e2, _, hc⟩ := (Rd.ofOwn h.own).2 (by omega)
  cases e2
  have h4 := hc j _ h1
  rw [Nat.zero_add] at h4
  exact ⟨g, cq, A', c', rfl, h.base g rfl, hg, hkc, h4, h2, h3⟩
/-- the partitions of the first rounds -/
def rndL (ls : List (List Arc)) (k : Nat) : List (List Nat) := (List.range (k + 1)).map (clK ls)
theorem rndL_len (ls : List (List Arc)) (k : Nat) : (rndL ls k).length = k + 1 := by simp [rndL]
theorem rndL_get {ls : List (List Arc)} {k j : Nat} (h : j ≤ k) : (rndL ls k)[j]? = some (clK ls j) := by
  rw [rndL, List.getElem?_map, List.getElem?_range (by omega)]
  rfl
theorem rndL_snoc (ls : List (List Arc)) (k : Nat) : rndL ls (k + 1) = rndL ls k ++ [clK ls (k + 1)] := by
  rw [rndL, List.range_succ, List.map_append]
  rfl

set_option maxRecDepth 100000 in
theorem rounds_any (A : Option Addr) (n c : Nat) (ls : List (List Arc)) (B : Nat) (w : World) (h : RdL w B A n ls) (hB : B ≤ w.heap.size) (ho : OkL ls n) :
    Calls Try.prog 52 #[lts A n c] w fun e w' => (∃ v K xs, e = .returned v ∧ DoneR ls K ∧ RowsZ w' w.heap.size v (K + 1) xs (rndL ls K)) ∧ Below w.heap.size w w' := by
  have H := Lib.hid h
  have HK := Lib.hid ho
  have hn := ho.few
  have HN0 := Lib.hid (Blk.new w 27 #[.slice A n c])
  obtain ⟨i0, hi0, hz0, hz1, hz2⟩ := info_parts infoInt
  clear h ho
  go_enter Try.func52, Try.ntmps52
  go_wp2_with (at_make; refine wpList_makeC _ rfl _ _ 29 rfl 3 i0 (.int .i64 0) Try.underlying29 hi0 hz0 hz1 _ _ n _ rfl rfl rfl (by rw [hz2]; omega) (by omega) ?_)
  have hzero : ((w.alloc (.cells #[.slice A n c] 27)).alloc (.cells (madeCells (Value.int .i64 0).cells n) 3)).ownsRow 0 3 1 (.slice (some ⟨w.heap.size + 1, 0, none⟩) n n) n (cellsOf ncell (clK ls 0)) := by
    rw [clK, HK.out.len, made_ncells]
    exact ⟨by rw [cellsOf_length ncell_len, List.length_replicate], .inr ⟨w.heap.size + 1, n, (cellsOf ncell (List.replicate n 0)).toArray, rfl, Nat.zero_le _, heap_alloc_at (by simp), Nat.le_refl _, by unfold maxLen; omega, by simp [cellsOf_length ncell_len], by rw [List.take_of_length_le (by simp [cellsOf_length ncell_len])]⟩⟩
  have HZ0 := Lib.hid (show RowsZ (((w.alloc (.cells #[.slice A n c] 27)).alloc (.cells (madeCells (Value.int .i64 0).cells n) 3)).alloc (.cells #[.slice (some ⟨w.heap.size + 1, 0, none⟩) n n] 29)) w.heap.size (.slice (some ⟨w.heap.size + 1 + 1, 0, none⟩) 1 1) 1 [.slice (some ⟨w.heap.size + 1, 0, none⟩) n n] (rndL ls 0) from by
    refine ⟨⟨rfl, .inr ⟨w.heap.size + 1 + 1, 1, #[.slice (some ⟨w.heap.size + 1, 0, none⟩) n n], rfl, Nat.zero_le _, heap_alloc_at (by simp), Nat.le_refl _, by simp [maxLen], rfl, rfl⟩⟩, fun g hg => by simp [Value.ownBlock] at hg; omega, rfl, fun j l hl => ?_⟩
    match j with
    | 0 =>
      have : l = clK ls 0 := (Option.some.inj hl).symm
      subst this
      refine ⟨_, rfl, ?_, fun g hg => by simp [Value.ownBlock] at hg; omega⟩
      rw [show (clK ls 0).length = n by rw [clK_len, HK.out.len]]
      exact hzero.alloc _
    | j + 1 => simp [rndL] at hl)
  have HB0 := Lib.hid (And.intro ((HN0.out.alloc (.cells (madeCells (Value.int .i64 0).cells n) 3)).alloc (.cells #[.slice (some ⟨w.heap.size + 1, 0, none⟩) n n] 29)) ((((Below.refl w.heap.size w).alloc (Nat.le_refl _) (.cells #[.slice A n c] 27)).alloc (by simp) (.cells (madeCells (Value.int .i64 0).cells n) 3)).alloc (by simp; omega) (.cells #[.slice (some ⟨w.heap.size + 1, 0, none⟩) n n] 29)))
  clear hzero
  go_wp2_with fail
  go_loopg [3] n (fun gk vn wr => ∃ (k : Nat) (xs : List Value), gk + k = n ∧ Hid ((∀ j, j < k → clK ls (j + 1) ≠ clK ls j) ∧ RowsZ wr w.heap.size vn (k + 1) xs (rndL ls k) ∧ Blk wr w.heap.size 27 #[.slice A n c] ∧ Below w.heap.size w wr))
  case atStart => exact ⟨0, _, by omega, Lib.hid ⟨fun j hj => by omega, HZ0.out, HB0.out.1, HB0.out.2⟩⟩
  case round =>
    rename Value => vq
    obtain ⟨k, xs, hgk, HW⟩ := hrel
    obtain ⟨gq, cq, A1, c1, rfl, hWq, hgl, hkc, e0, ho1, hb1⟩ := HW.out.2.1.at_ (show k < k + 1 by omega) (rndL_get (Nat.le_refl k))
    rw [show (clK ls k).length = n by rw [clK_len, HK.out.len]] at e0 ho1 hb1
    have HO1 := Lib.hid ho1
    have h0c := HW.out.2.2.1.cell
    have h0l := HW.out.2.2.1.lt
    have hsz := HW.out.2.2.2.size
    clear ho1 hb1
    go_wp2_with fail
    refine (next_any A n c ls A1 n c1 (clK ls k) wr.heap.size wr ((H.out.below (HW.out.2.2.2.mono hB)).more (by omega)) (Rd.ofOwn HO1.out) (Nat.le_refl _) hn (by rw [clK_len, HK.out.len]) HK.out.tos HK.out.ev (cl_small HK.out) HK.out.rows).mono ?_
    rintro e w2 ⟨⟨v2, rfl, ho2, hb2⟩, hbl2⟩
    obtain ⟨A2, c2, rfl, _, _⟩ := own_form ho2
    have he : (numK (keyS ls (clK ls k)) n).1 = clK ls (k + 1) := by rw [clK_next, HK.out.len]
    rw [he] at ho2
    have HO3 := Lib.hid (own_out HO1.out (Below.new hbl2) (fun _ _ e => e))
    have HO2 := Lib.hid ho2
    have HX2 := Lib.hid (HW.out.2.1.out (Below.new hbl2) (fun _ _ _ e => e))
    have HN2 := Lib.hid (HW.out.2.2.1.below hbl2 h0l)
    have HB2 := Lib.hid (HW.out.2.2.2.trans (hbl2.mono hsz))
    have HBA := Lib.hid (show ∀ g, (Value.slice A2 n c2).ownBlock = some g → w.heap.size ≤ g from fun g hg => Nat.le_trans hsz (hb2 g hg))
    have hs2 := hbl2.size
    clear ho2 hb2 hbl2 he h0c h0l e0
    go_wp2_with fail
    obtain ⟨q, hq⟩ : ∃ q, decide (clK ls k = clK ls (k + 1)) = q := ⟨_, rfl⟩
    refine (eqInts_any A1 A2 n c1 n c2 w2.heap.size (clK ls k) (clK ls (k + 1)) w2 (Rd.ofOwn HO3.out) (Rd.ofOwn HO2.out) (Nat.le_refl _) (by omega)).mono ?_
    rw [hq]
    rintro e w3 ⟨rfl, hb3⟩
    have HQ := Lib.hid hq
    have HX3 := Lib.hid (HX2.out.out (Below.new hb3) (fun _ _ _ e => e))
    have HO4 := Lib.hid (own_out HO2.out (Below.new hb3) (fun _ _ e => e))
    have HN3 := Lib.hid (HN2.out.below hb3 HN2.out.lt)
    have hs3 : w.heap.size ≤ w3.heap.size := Nat.le_trans hsz (Nat.le_trans hs2 hb3.size)
    have HB3 := Lib.hid (HB2.out.trans (hb3.mono (Nat.le_trans hsz hs2)))
    clear hb3 hq
    cases q
    · have HNE := Lib.hid (show ∀ j, j < k + 1 → clK ls (j + 1) ≠ clK ls j from fun j hj => by
        by_cases e : j = k
        · subst e
          exact fun e2 => of_decide_eq_false HQ.out e2.symm
        · exact HW.out.1 j (by omega))
      have hk1 : k + 1 ≤ n := by have := round_le HNE.out; rw [HK.out.len] at this; exact this
      go_wp2_with (first | (at_builtin; go_must (refine appList_blk rfl slIntRow rfl (World.ownsRow.alloc HX3.out.own _) rfl (news := [.slice A2 n c2]) ((heap_alloc_at rfl) : Blk _ w3.heap.size _ _) rfl rfl (by simp [Value.oneCell']) (by decide) (by unfold maxLen; omega) (by omega) ?_); intro g8 c8 w8 hown8 hgrow8 hat8; refine Stop7.intro ?_))
      unfold Stop7
      have hO8 : Outside (fun x => (Value.slice (some ⟨gq, 0, none⟩) (k + 1) cq).ownBlock = some x) w3 w8 := ((Outside.refl (fun x => (Value.slice (some ⟨gq, 0, none⟩) (k + 1) cq).ownBlock = some x) w3).alloc (.cells #[.slice A2 n c2] 29)).grown hgrow8 (fun z hz => .inl hz)
      have HX8 := Lib.hid (show RowsZ w8 w.heap.size (.slice (some ⟨g8, 0, none⟩) (k + 1 + 1) c8) (k + 1 + 1) (xs ++ [.slice A2 n c2]) (rndL ls (k + 1)) from by
        rw [rndL_snoc]
        refine HX3.out.snoc hown8 (fun g hg => ?_) hO8 (by rw [show (clK ls (k + 1)).length = n by rw [clK_len, HK.out.len]]; exact HO4.out) HBA.out
        have h1 : g8 = g := by simpa [Value.ownBlock] using hg
        rcases hat8 with h | h
        · exact HX3.out.base g (by rw [← h1]; exact h)
        · simp at h
          omega)
      have HN8 := Lib.hid (HN3.out.out hO8 (fun e => own_apart HX3.out.own HN3.out (by decide) e))
      have HB8 := Lib.hid (HB3.out.trans (hO8.below hs3 (fun g hg e => by simp [Value.ownBlock] at e; omega)))
      clear hO8 hown8 hgrow8 hat8
      go_wp2_with fail
      go_roundg (n - (k + 1))
      case measure => omega
      case rel => exact ⟨k + 1, _, by omega, Lib.hid ⟨HNE.out, HX8.out, HN8.out, HB8.out⟩⟩
    · go_wp2_with fail
      go_ret
      exact ⟨⟨_, k, xs, rfl, ⟨HW.out.1, (of_decide_eq_true HQ.out).symm⟩, HX3.out⟩, HB3.out⟩

end Go.Proofs.Ytmciinikfjfegaa
