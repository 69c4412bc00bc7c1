/- rows that are sorted: slices.SortFunc by compare, by the shelf's contract -/
import Derived.Test.YtonpdclccgpceaaRwQ0
import Derived.Test.YtonpdclccgpceaaRwQ2
namespace Go.Proofs.Ytonpdclccgpceaa
open Go Go.RowKit Go.Shelf Go.Sort
set_option maxHeartbeats 8000000

set_option maxRecDepth 100000 in
theorem compareG_any (a b : Arc) (w : World) : Calls Try.prog 60 #[a.v, b.v] w fun e w' => e = .returned (.int .i64 (arcCmp a b)) ∧ ∃ q os', w' = grow (w.drewN q) os' := by
  obtain ⟨ae, at_⟩ := a
  obtain ⟨be, bt⟩ := b
  have hE : orS (cmpS ae be) (cmpS at_ bt) = arcCmp ⟨ae, at_⟩ ⟨be, bt⟩ := rfl
  obtain ⟨x, hx⟩ : ∃ x, cmpS ae be = x := ⟨_, rfl⟩
  obtain ⟨y, hy⟩ : ∃ y, cmpS at_ bt = y := ⟨_, rfl⟩
  rw [hx, hy] at hE
  have HX := Lib.hid hx
  have HY := Lib.hid hy
  have HE := Lib.hid hE
  have HZ := Lib.hid (show Rd (((w.alloc (.cells #[.int .i64 ae, .int .i64 at_] 55)).alloc (.cells #[.int .i64 be, .int .i64 bt] 55)).alloc (.cells #[.int .i64 x, .int .i64 y] 3)) (w.heap.size + 1 + 1 + 1) 1 (some ⟨w.heap.size + 1 + 1, 0, none⟩) 2 (cellsOf icell [x, y]) by
    exact Rd.ofBlk (k := 1) (n := 2) (t := 3) (heap_alloc_at (by simp)) rfl)
  clear hx hy hE
  go_enter Try.func60, Try.ntmps60
  go_wp2_with (first | ((with_reducible show wpPlan _ _ _ [] _ _ _); refine wpPlan_nil ?_) | ((with_reducible show wpPlan _ _ _ ((_, 0, _) :: _) _ _ _); first | (refine wpPlan_read0 rfl ?hw rfl (fun _ _ _ => ?_); case hw => ((conv => (lhs; whnf)); first | done | with_reducible rfl)) | (refine wpPlan_skip0 rfl ?hw ?_; (case hw => ((conv => (lhs; whnf)); first | done | with_reducible rfl)); (try simp only [List.getElem_toArray, List.getElem_cons_succ, List.getElem_cons_zero, Act.put, List.setIfInBounds_toArray, List.set_cons_zero, List.set_cons_succ]))) | ((with_reducible show wpPlan _ _ _ ((_, 1, _) :: _) _ _ _); first | (refine wpPlan_read1d rfl ?hw rfl rfl (fun _ _ _ => ?_); case hw => ((conv => (lhs; whnf)); first | done | with_reducible rfl)) | (refine wpPlan_skip1d rfl ?hw ?_; (case hw => ((conv => (lhs; whnf)); first | done | with_reducible rfl)); (try simp only [List.getElem_toArray, List.getElem_cons_succ, List.getElem_cons_zero, Act.put, List.setIfInBounds_toArray, List.set_cons_zero, List.set_cons_succ])) | (refine wpPlan_read1 rfl ?hw rfl (fun _ _ _ => ?_); case hw => ((conv => (lhs; whnf)); first | done | with_reducible rfl))) | ((with_reducible show wpPlan _ _ _ ((_, 2, _) :: _) _ _ _); first | (refine wpPlan_eff rfl ?hw (fun _ _ => ?_); case hw => ((conv => (lhs; whnf)); first | done | with_reducible rfl)) | (refine wpPlan_skip2 rfl ?hw ?_; (case hw => ((conv => (lhs; whnf)); first | done | with_reducible rfl)); (try simp only [List.getElem_toArray, List.getElem_cons_succ, List.getElem_cons_zero, Act.put, List.setIfInBounds_toArray, List.set_cons_zero, List.set_cons_succ]))) | ((with_reducible show wpPlan _ _ _ _ _ _ _); refine wpPlan_fork ?_ ?_) | ((with_reducible show Owed _ _ _ [] _ _ _ _ _); refine Owed.none_ ?_) | ((with_reducible show Owed _ _ _ _ [] _ _ _ _); refine Owed.nil_ ?_) | ((with_reducible show Owed _ _ _ _ _ _ _ _ _); first | (refine Owed.miss rfl ?_) | (refine Owed.hit ?_ ?_)) | ((with_reducible show Same _ _ _ _ _); intro _; go_simp; done) | (with_reducible exact True.intro) | ((with_reducible show Code.wp _ (Code.region 1 _ true) _ _ _); refine wp_region_plan [(0, 1, []), (1, 1, []), (2, 1, []), (3, 1, []), (5, 1, []), (6, 1, []), (7, 1, []), (8, 1, []), (4, 2, [5, 6, 7, 8]), (9, 2, []), (10, 2, []), (11, 2, []), (12, 0, [])] (by kernel_rfl) (by kernel_rfl) (by kernel_rfl) ?_))
  refine (cmpC_any ae be _).mono ?_
  rw [HX.out]
  rintro e w1 ⟨rfl, rfl⟩
  go_wp2_with (first | ((with_reducible show wpPlan _ _ _ [] _ _ _); refine wpPlan_nil ?_) | ((with_reducible show wpPlan _ _ _ ((_, 0, _) :: _) _ _ _); first | (refine wpPlan_read0 rfl ?hw rfl (fun _ _ _ => ?_); case hw => ((conv => (lhs; whnf)); first | done | with_reducible rfl)) | (refine wpPlan_skip0 rfl ?hw ?_; (case hw => ((conv => (lhs; whnf)); first | done | with_reducible rfl)); (try simp only [List.getElem_toArray, List.getElem_cons_succ, List.getElem_cons_zero, Act.put, List.setIfInBounds_toArray, List.set_cons_zero, List.set_cons_succ]))) | ((with_reducible show wpPlan _ _ _ ((_, 1, _) :: _) _ _ _); first | (refine wpPlan_read1d rfl ?hw rfl rfl (fun _ _ _ => ?_); case hw => ((conv => (lhs; whnf)); first | done | with_reducible rfl)) | (refine wpPlan_skip1d rfl ?hw ?_; (case hw => ((conv => (lhs; whnf)); first | done | with_reducible rfl)); (try simp only [List.getElem_toArray, List.getElem_cons_succ, List.getElem_cons_zero, Act.put, List.setIfInBounds_toArray, List.set_cons_zero, List.set_cons_succ])) | (refine wpPlan_read1 rfl ?hw rfl (fun _ _ _ => ?_); case hw => ((conv => (lhs; whnf)); first | done | with_reducible rfl))) | ((with_reducible show wpPlan _ _ _ ((_, 2, _) :: _) _ _ _); first | (refine wpPlan_eff rfl ?hw (fun _ _ => ?_); case hw => ((conv => (lhs; whnf)); first | done | with_reducible rfl)) | (refine wpPlan_skip2 rfl ?hw ?_; (case hw => ((conv => (lhs; whnf)); first | done | with_reducible rfl)); (try simp only [List.getElem_toArray, List.getElem_cons_succ, List.getElem_cons_zero, Act.put, List.setIfInBounds_toArray, List.set_cons_zero, List.set_cons_succ]))) | ((with_reducible show wpPlan _ _ _ _ _ _ _); refine wpPlan_fork ?_ ?_) | ((with_reducible show Owed _ _ _ [] _ _ _ _ _); refine Owed.none_ ?_) | ((with_reducible show Owed _ _ _ _ [] _ _ _ _); refine Owed.nil_ ?_) | ((with_reducible show Owed _ _ _ _ _ _ _ _ _); first | (refine Owed.miss rfl ?_) | (refine Owed.hit ?_ ?_)) | ((with_reducible show Same _ _ _ _ _); intro _; go_simp; done) | (with_reducible exact True.intro) | ((with_reducible show Code.wp _ (Code.region 1 _ true) _ _ _); refine wp_region_plan [(0, 1, []), (1, 1, []), (2, 1, []), (3, 1, []), (5, 1, []), (6, 1, []), (7, 1, []), (8, 1, []), (4, 2, [5, 6, 7, 8]), (9, 2, []), (10, 2, []), (11, 2, []), (12, 0, [])] (by kernel_rfl) (by kernel_rfl) (by kernel_rfl) ?_))
  refine (cmpC_any at_ bt _).mono ?_
  rw [HY.out]
  rintro e w1 ⟨rfl, rfl⟩
  go_wp2_with (first | ((with_reducible show wpPlan _ _ _ [] _ _ _); refine wpPlan_nil ?_) | ((with_reducible show wpPlan _ _ _ ((_, 0, _) :: _) _ _ _); first | (refine wpPlan_read0 rfl ?hw rfl (fun _ _ _ => ?_); case hw => ((conv => (lhs; whnf)); first | done | with_reducible rfl)) | (refine wpPlan_skip0 rfl ?hw ?_; (case hw => ((conv => (lhs; whnf)); first | done | with_reducible rfl)); (try simp only [List.getElem_toArray, List.getElem_cons_succ, List.getElem_cons_zero, Act.put, List.setIfInBounds_toArray, List.set_cons_zero, List.set_cons_succ]))) | ((with_reducible show wpPlan _ _ _ ((_, 1, _) :: _) _ _ _); first | (refine wpPlan_read1d rfl ?hw rfl rfl (fun _ _ _ => ?_); case hw => ((conv => (lhs; whnf)); first | done | with_reducible rfl)) | (refine wpPlan_skip1d rfl ?hw ?_; (case hw => ((conv => (lhs; whnf)); first | done | with_reducible rfl)); (try simp only [List.getElem_toArray, List.getElem_cons_succ, List.getElem_cons_zero, Act.put, List.setIfInBounds_toArray, List.set_cons_zero, List.set_cons_succ])) | (refine wpPlan_read1 rfl ?hw rfl (fun _ _ _ => ?_); case hw => ((conv => (lhs; whnf)); first | done | with_reducible rfl))) | ((with_reducible show wpPlan _ _ _ ((_, 2, _) :: _) _ _ _); first | (refine wpPlan_eff rfl ?hw (fun _ _ => ?_); case hw => ((conv => (lhs; whnf)); first | done | with_reducible rfl)) | (refine wpPlan_skip2 rfl ?hw ?_; (case hw => ((conv => (lhs; whnf)); first | done | with_reducible rfl)); (try simp only [List.getElem_toArray, List.getElem_cons_succ, List.getElem_cons_zero, Act.put, List.setIfInBounds_toArray, List.set_cons_zero, List.set_cons_succ]))) | ((with_reducible show wpPlan _ _ _ _ _ _ _); refine wpPlan_fork ?_ ?_) | ((with_reducible show Owed _ _ _ [] _ _ _ _ _); refine Owed.none_ ?_) | ((with_reducible show Owed _ _ _ _ [] _ _ _ _); refine Owed.nil_ ?_) | ((with_reducible show Owed _ _ _ _ _ _ _ _ _); first | (refine Owed.miss rfl ?_) | (refine Owed.hit ?_ ?_)) | ((with_reducible show Same _ _ _ _ _); intro _; go_simp; done) | (with_reducible exact True.intro) | ((with_reducible show Code.wp _ (Code.region 1 _ true) _ _ _); refine wp_region_plan [(0, 1, []), (1, 1, []), (2, 1, []), (3, 1, []), (5, 1, []), (6, 1, []), (7, 1, []), (8, 1, []), (4, 2, [5, 6, 7, 8]), (9, 2, []), (10, 2, []), (11, 2, []), (12, 0, [])] (by kernel_rfl) (by kernel_rfl) (by kernel_rfl) ?_))
  refine (or_any (w.heap.size + 1 + 1 + 1) _ 2 x y _ ?_).mono ?_
  · exact HZ.out
  rw [HE.out]
  rintro e w1 ⟨rfl, rfl⟩
  go_wp2_with (first | ((with_reducible show wpPlan _ _ _ [] _ _ _); refine wpPlan_nil ?_) | ((with_reducible show wpPlan _ _ _ ((_, 0, _) :: _) _ _ _); first | (refine wpPlan_read0 rfl ?hw rfl (fun _ _ _ => ?_); case hw => ((conv => (lhs; whnf)); first | done | with_reducible rfl)) | (refine wpPlan_skip0 rfl ?hw ?_; (case hw => ((conv => (lhs; whnf)); first | done | with_reducible rfl)); (try simp only [List.getElem_toArray, List.getElem_cons_succ, List.getElem_cons_zero, Act.put, List.setIfInBounds_toArray, List.set_cons_zero, List.set_cons_succ]))) | ((with_reducible show wpPlan _ _ _ ((_, 1, _) :: _) _ _ _); first | (refine wpPlan_read1d rfl ?hw rfl rfl (fun _ _ _ => ?_); case hw => ((conv => (lhs; whnf)); first | done | with_reducible rfl)) | (refine wpPlan_skip1d rfl ?hw ?_; (case hw => ((conv => (lhs; whnf)); first | done | with_reducible rfl)); (try simp only [List.getElem_toArray, List.getElem_cons_succ, List.getElem_cons_zero, Act.put, List.setIfInBounds_toArray, List.set_cons_zero, List.set_cons_succ])) | (refine wpPlan_read1 rfl ?hw rfl (fun _ _ _ => ?_); case hw => ((conv => (lhs; whnf)); first | done | with_reducible rfl))) | ((with_reducible show wpPlan _ _ _ ((_, 2, _) :: _) _ _ _); first | (refine wpPlan_eff rfl ?hw (fun _ _ => ?_); case hw => ((conv => (lhs; whnf)); first | done | with_reducible rfl)) | (refine wpPlan_skip2 rfl ?hw ?_; (case hw => ((conv => (lhs; whnf)); first | done | with_reducible rfl)); (try simp only [List.getElem_toArray, List.getElem_cons_succ, List.getElem_cons_zero, Act.put, List.setIfInBounds_toArray, List.set_cons_zero, List.set_cons_succ]))) | ((with_reducible show wpPlan _ _ _ _ _ _ _); refine wpPlan_fork ?_ ?_) | ((with_reducible show Owed _ _ _ [] _ _ _ _ _); refine Owed.none_ ?_) | ((with_reducible show Owed _ _ _ _ [] _ _ _ _); refine Owed.nil_ ?_) | ((with_reducible show Owed _ _ _ _ _ _ _ _ _); first | (refine Owed.miss rfl ?_) | (refine Owed.hit ?_ ?_)) | ((with_reducible show Same _ _ _ _ _); intro _; go_simp; done) | (with_reducible exact True.intro) | ((with_reducible show Code.wp _ (Code.region 1 _ true) _ _ _); refine wp_region_plan [(0, 1, []), (1, 1, []), (2, 1, []), (3, 1, []), (5, 1, []), (6, 1, []), (7, 1, []), (8, 1, []), (4, 2, [5, 6, 7, 8]), (9, 2, []), (10, 2, []), (11, 2, []), (12, 0, [])] (by kernel_rfl) (by kernel_rfl) (by kernel_rfl) ?_))
  go_ret
  refine ⟨rfl, 1, #[.cells #[.int .i64 ae, .int .i64 at_] 55, .cells #[.int .i64 be, .int .i64 bt] 55, .cells #[.int .i64 x, .int .i64 y] 3], ?_⟩
  rw [alloc_eq_grow, alloc_eq_grow, alloc_eq_grow, grow_grow, grow_grow]
  rfl

theorem ltOf_arc : (fun x y : Arc => !ltOf arcCmp y x) = fun x y => !lessB y x := by
  funext x y
  have h := arcCmp_less y x
  unfold ltOf
  congr 1
  rw [Bool.eq_iff_iff, decide_eq_true_eq]
  constructor
  · intro h1
    cases h2 : lessB y x with
    | true => rfl
    | false =>
      rw [h2] at h
      have := of_decide_eq_true h
      omega
  · intro h1
    rw [h1] at h
    have := of_decide_eq_false h
    omega
theorem lt_arc (x y : Arc) : ltOf arcCmp x y = lessB x y := by
  have h := congrFun (congrFun ltOf_arc y) x
  simpa using h
theorem swoArc : SWO (ltOf arcCmp) where
  irrefl x := by rw [lt_arc]; exact lessB_irr x
  trans x y z h1 h2 := by
    rw [lt_arc] at *
    exact lessB_trans h1 h2
  ntrans x y z h1 h2 := by
    rw [lt_arc] at *
    simp only [lessB, decide_eq_false_iff_not] at *
    omega
theorem cells_flat (l : List Arc) {j : Nat} (hj : j < l.length * 2) : (cellsOf Arc.cells l)[j]? = some (flatK Arc.cells 2 l.toArray)[j]! := by
  rw [get_flatK Arc.cells 2 l.toArray j (by simpa using hj)]
  have e : j = j / 2 * 2 + j % 2 := by omega
  conv => lhs; rw [e]
  rw [cellsOf_get Arc.cells_len l (j / 2) (j % 2) (by omega)]
  have hi : j / 2 < l.length := by omega
  rw [List.getElem?_eq_getElem hi]
  have h2 : j % 2 = 0 ∨ j % 2 = 1 := by omega
  rcases h2 with h2 | h2 <;> simp [h2, Arc.cells, hi]
theorem own_holds {w : World} {g n cap : Nat} {l : List Arc} (h : w.ownsRow 0 55 2 (.slice (some ⟨g, 0, none⟩) n cap) n (cellsOf Arc.cells l)) : HoldsK Arc.cells 2 w g 0 l.toArray := by
  have hl : l.length = n := by
    have := h.1
    rw [cellsOf_length Arc.cells_len] at this
    omega
  intro j hj
  have hj2 : j < n * 2 := by
    rw [size_flatK] at hj
    simp at hj
    omega
  rw [Nat.zero_add]
  exact ⟨by rw [h.cellAt j hj2]; exact cells_flat l (by omega), h.frozenAt j⟩
theorem sorted_own {w : World} {g n cap : Nat} {l l2 : List Arc} (h : w.ownsRow 0 55 2 (.slice (some ⟨g, 0, none⟩) n cap) n (cellsOf Arc.cells l)) (hl2 : l2.length = n) (m : Nat) (os : Array Obj) :
    (sortWorldK Arc.cells 2 w g 0 m l2.toArray os).ownsRow 0 55 2 (.slice (some ⟨g, 0, none⟩) n cap) n (cellsOf Arc.cells l2) ∧ Outside (fun k => k = g) w (sortWorldK Arc.cells 2 w g 0 m l2.toArray os) := by
  rcases h.2 with ⟨e, _⟩ | ⟨g', cap', cur, e, hb, hg, hnc, hcm, hcs, htake⟩
  · cases e
  cases e
  have hgl : g < w.heap.size := (Array.getElem?_eq_some_iff.1 hg).1
  have hsz : (mapBlock (Go.Sort.ahead w m) g (putCells id 0 (flatK Arc.cells 2 l2.toArray))).heap.size = w.heap.size := by simp [mapBlock, Go.Sort.ahead]
  have hheap : ∀ k, k < w.heap.size → (sortWorldK Arc.cells 2 w g 0 m l2.toArray os).heap[k]? = (mapBlock (Go.Sort.ahead w m) g (putCells id 0 (flatK Arc.cells 2 l2.toArray))).heap[k]? := fun k hk => by
    show ((mapBlock (Go.Sort.ahead w m) g (putCells id 0 (flatK Arc.cells 2 l2.toArray))).heap ++ os)[k]? = _
    rw [Array.getElem?_append_left (by rw [hsz]; exact hk)]
  refine ⟨⟨by rw [cellsOf_length Arc.cells_len, hl2], .inr ⟨g, cap, putCells id 0 (flatK Arc.cells 2 l2.toArray) cur, rfl, hb, ?_, hnc, hcm, by simp [putCells, hcs], ?_⟩⟩, rfl, rfl, rfl, ?_, fun k hk hR => ?_⟩
  · rw [hheap g hgl]
    simp [mapBlock, Go.Sort.ahead, Array.getElem?_modify, hg, onCells]
  · apply List.ext_getElem?
    intro j
    rw [List.getElem?_take]
    by_cases hj : j < n * 2
    · rw [if_pos hj, cells_flat l2 (by omega)]
      have hjc : j < cur.size := by
        have := Nat.mul_le_mul_right 2 hnc
        omega
      simp [putCells, hjc]
      intro h9
      omega
    · rw [if_neg hj, List.getElem?_eq_none (by rw [cellsOf_length Arc.cells_len]; omega)]
  · show w.heap.size ≤ ((mapBlock (Go.Sort.ahead w m) g (putCells id 0 (flatK Arc.cells 2 l2.toArray))).heap ++ os).size
    rw [Array.size_append, hsz]
    omega
  · rw [hheap k hk]
    have hne : ¬ g = k := fun e => hR e.symm
    simp [mapBlock, Go.Sort.ahead, Array.getElem?_modify, hne]

theorem asort_any (v : Value) (n : Nat) (l : List Arc) (w : World) (h : w.ownsRow 0 55 2 v n (cellsOf Arc.cells l)) (hn : n ≤ 1000000000) :
    Calls Try.prog 59 #[v, .func (.func 60) #[] #[]] w fun e w' => e = .returned (.tuple #[]) ∧ w'.ownsRow 0 55 2 v n (cellsOf Arc.cells (srt l)) ∧ Outside (fun k => v.ownBlock = some k) w w' := by
  have hl : l.length = n := by
    have := h.1
    rw [cellsOf_length Arc.cells_len] at this
    omega
  rcases Nat.eq_zero_or_pos n with h0 | h0
  · subst h0
    obtain ⟨A, c, rfl, _, _⟩ := own_form h
    have hl0 : l = [] := List.eq_nil_of_length_eq_zero hl
    subst hl0
    have hS := Go.Proofs.AnyF.slices_SortFunc_none (P := Try.prog) (ρ := sortL_ren) { sortL with } A c (.func (.func 60) #[] #[]) w
    exact hS.mono fun e w' ⟨he, hw⟩ => ⟨he, by rw [hw, List.eq_nil_of_length_eq_zero (srt_len [])]; exact h, by rw [hw]; exact Outside.refl _ _⟩
  · obtain ⟨g, c, rfl, _, hg⟩ := h.form h0
    have eg : ∀ args w, (callFunc 60 args).run Try.prog w = .ok (.enter 60 args) w := enters_of Try.func60 (by kernel_rfl) rfl
    have hS := Go.Proofs.AnyQ.slices_SortFunc_total sortL 2 Try.isAgg55 Try.sizeOf55 Arc.cells Arc.cells_len (fun x v hv => by
      simp [Arc.cells] at hv
      rcases hv with rfl | rfl <;> rfl) arcCmp swoArc 60 #[] g 0 c l.toArray w eg (fun _ _ _ _ x y => compareG_any x y _) (own_holds h) hg (by simp; omega) (fun x y h1 h2 => by
        rw [lt_arc] at h1 h2
        by_cases e : x = y
        · exact e
        · have := lessB_tot h1 e
          rw [h2] at this
          cases this)
    rw [ltOf_arc] at hS
    have e1 : l.toArray.size = n := by simpa using hl
    rw [e1] at hS
    exact hS.mono fun e w' ⟨he, m, os, hw⟩ => by
      obtain ⟨h1, h2⟩ := sorted_own h (l2 := srt l) (by rw [srt_len]; exact hl) m os
      rw [hw]
      exact ⟨he, h1, h2.mono (fun k _ e => by rw [e]; rfl)⟩

end Go.Proofs.Ytonpdclccgpceaa
