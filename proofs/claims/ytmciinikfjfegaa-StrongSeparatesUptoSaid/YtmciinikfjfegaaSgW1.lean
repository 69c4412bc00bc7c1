/- signatures of states: marks that are sorted, each once -/
import Derived.Test.YtmciinikfjfegaaRwQ3
import Derived.Test.YtmciinikfjfegaaSgN1
namespace Go.Proofs.Ytmciinikfjfegaa
open Go Go.RowKit Go.Sort
set_option maxHeartbeats 8000000

theorem mown_at2 {w : World} {g c n : Nat} {M : List Arc} (h : w.ownsRow 0 120 2 (.slice (some ⟨g, 0, none⟩) n c) n (cellsOf Arc.cells M)) {i : Nat} {a : Arc} (ha : M[i]? = some a) :
    w.cell? ⟨g, i * 2, none⟩ = some (.int .i64 a.ev) ∧ w.cell? ⟨g, i * 2 + 1, none⟩ = some (.int .i64 a.to) := by
  have hl : M.length = n := by
    have := h.1
    rw [cellsOf_length Arc.cells_len] at this
    omega
  have hi := (List.getElem?_eq_some_iff.1 ha).1
  have h0 := h.cellAt (i * 2) (by omega)
  have h1 := h.cellAt (i * 2 + 1) (by omega)
  rw [show i * 2 = i * 2 + 0 from rfl, cellsOf_get Arc.cells_len _ i 0 (by decide), ha] at h0
  rw [cellsOf_get Arc.cells_len _ i 1 (by decide), ha] at h1
  exact ⟨h0, h1⟩

set_option maxRecDepth 100000 in
theorem mcompareG_any (a b : Arc) (w : World) : Calls Try.prog 90 #[a.v, b.v] w fun e w' => e = .returned (.int .i64 (arcCmp a b)) ∧ ∃ q os', w' = grow (w.drewN q) os' := by
  obtain ⟨ae, at_⟩ := a
  obtain ⟨be, bt⟩ := b
  have hE : orS (cmpS ae be) (cmpS at_ bt) = arcCmp ⟨ae, at_⟩ ⟨be, bt⟩ := rfl
  obtain ⟨x, hx⟩ : ∃ x, cmpS ae be = x := ⟨_, rfl⟩
  obtain ⟨y, hy⟩ : ∃ y, cmpS at_ bt = y := ⟨_, rfl⟩
  rw [hx, hy] at hE
  have HX := Lib.hid hx
  have HY := Lib.hid hy
  have HE := Lib.hid hE
  have HZ := Lib.hid (show Rd (((w.alloc (.cells #[.int .i64 ae, .int .i64 at_] 120)).alloc (.cells #[.int .i64 be, .int .i64 bt] 120)).alloc (.cells #[.int .i64 x, .int .i64 y] 3)) (w.heap.size + 1 + 1 + 1) 1 (some ⟨w.heap.size + 1 + 1, 0, none⟩) 2 (cellsOf icell [x, y]) by
    exact Rd.ofBlk (k := 1) (n := 2) (t := 3) (heap_alloc_at (by simp)) rfl)
  clear hx hy hE
  go_enter Try.func90, Try.ntmps90
  go_wp2_with (first | ((with_reducible show wpPlan _ _ _ _ _ (Act.put _ _ _) _); simp only [List.getElem_toArray, List.getElem_cons_succ, List.getElem_cons_zero, Act.put, List.setIfInBounds_toArray, List.set_cons_zero, List.set_cons_succ]) | ((with_reducible show wpPlan _ _ _ _ _ _ _); first | refine wpPlan_nil ?_ | (refine wpPlan_read0 rfl ?hw rfl (fun _ _ _ => ?_); case hw => ((conv => (lhs; whnf)); first | done | with_reducible rfl)) | (refine wpPlan_read1d rfl ?hw rfl rfl (fun _ _ _ => ?_); case hw => ((conv => (lhs; whnf)); first | done | with_reducible rfl)) | (refine wpPlan_eff rfl ?hw (fun _ _ => ?_); case hw => ((conv => (lhs; whnf)); first | done | with_reducible rfl)) | (refine wpPlan_skip0 rfl ?hw ?_; case hw => ((conv => (lhs; whnf)); first | done | with_reducible rfl)) | (refine wpPlan_skip1d rfl ?hw ?_; case hw => ((conv => (lhs; whnf)); first | done | with_reducible rfl)) | (refine wpPlan_skip2 rfl ?hw ?_; case hw => ((conv => (lhs; whnf)); first | done | with_reducible rfl)) | (refine wpPlan_read1 rfl ?hw rfl (fun _ _ _ => ?_); case hw => ((conv => (lhs; whnf)); first | done | with_reducible rfl)) | refine wpPlan_fork ?_ ?_) | ((with_reducible show Owed _ _ _ _ _ _ _ _ _); first | refine Owed.none_ ?_ | refine Owed.nil_ ?_ | refine Owed.miss rfl ?_ | refine Owed.hit ?_ ?_) | ((with_reducible show Same _ _ _ _ _); intro _; go_simp; done) | (with_reducible exact True.intro) | ((with_reducible show Code.wp _ (Code.region 1 _ true) _ _ _); refine wp_region_plan [(0, 1, []), (1, 1, []), (2, 1, []), (3, 1, []), (5, 1, []), (6, 1, []), (7, 1, []), (8, 1, []), (4, 2, [5, 6, 7, 8]), (9, 2, []), (10, 2, []), (11, 2, []), (12, 0, [])] (by kernel_rfl) (by kernel_rfl) (by kernel_rfl) ?_))
  refine (cmpC_any ae be _).mono ?_
  rw [HX.out]
  rintro e w1 ⟨rfl, rfl⟩
  go_wp2_with (first | ((with_reducible show wpPlan _ _ _ _ _ (Act.put _ _ _) _); simp only [List.getElem_toArray, List.getElem_cons_succ, List.getElem_cons_zero, Act.put, List.setIfInBounds_toArray, List.set_cons_zero, List.set_cons_succ]) | ((with_reducible show wpPlan _ _ _ _ _ _ _); first | refine wpPlan_nil ?_ | (refine wpPlan_read0 rfl ?hw rfl (fun _ _ _ => ?_); case hw => ((conv => (lhs; whnf)); first | done | with_reducible rfl)) | (refine wpPlan_read1d rfl ?hw rfl rfl (fun _ _ _ => ?_); case hw => ((conv => (lhs; whnf)); first | done | with_reducible rfl)) | (refine wpPlan_eff rfl ?hw (fun _ _ => ?_); case hw => ((conv => (lhs; whnf)); first | done | with_reducible rfl)) | (refine wpPlan_skip0 rfl ?hw ?_; case hw => ((conv => (lhs; whnf)); first | done | with_reducible rfl)) | (refine wpPlan_skip1d rfl ?hw ?_; case hw => ((conv => (lhs; whnf)); first | done | with_reducible rfl)) | (refine wpPlan_skip2 rfl ?hw ?_; case hw => ((conv => (lhs; whnf)); first | done | with_reducible rfl)) | (refine wpPlan_read1 rfl ?hw rfl (fun _ _ _ => ?_); case hw => ((conv => (lhs; whnf)); first | done | with_reducible rfl)) | refine wpPlan_fork ?_ ?_) | ((with_reducible show Owed _ _ _ _ _ _ _ _ _); first | refine Owed.none_ ?_ | refine Owed.nil_ ?_ | refine Owed.miss rfl ?_ | refine Owed.hit ?_ ?_) | ((with_reducible show Same _ _ _ _ _); intro _; go_simp; done) | (with_reducible exact True.intro) | ((with_reducible show Code.wp _ (Code.region 1 _ true) _ _ _); refine wp_region_plan [(0, 1, []), (1, 1, []), (2, 1, []), (3, 1, []), (5, 1, []), (6, 1, []), (7, 1, []), (8, 1, []), (4, 2, [5, 6, 7, 8]), (9, 2, []), (10, 2, []), (11, 2, []), (12, 0, [])] (by kernel_rfl) (by kernel_rfl) (by kernel_rfl) ?_))
  refine (cmpC_any at_ bt _).mono ?_
  rw [HY.out]
  rintro e w1 ⟨rfl, rfl⟩
  go_wp2_with (first | ((with_reducible show wpPlan _ _ _ _ _ (Act.put _ _ _) _); simp only [List.getElem_toArray, List.getElem_cons_succ, List.getElem_cons_zero, Act.put, List.setIfInBounds_toArray, List.set_cons_zero, List.set_cons_succ]) | ((with_reducible show wpPlan _ _ _ _ _ _ _); first | refine wpPlan_nil ?_ | (refine wpPlan_read0 rfl ?hw rfl (fun _ _ _ => ?_); case hw => ((conv => (lhs; whnf)); first | done | with_reducible rfl)) | (refine wpPlan_read1d rfl ?hw rfl rfl (fun _ _ _ => ?_); case hw => ((conv => (lhs; whnf)); first | done | with_reducible rfl)) | (refine wpPlan_eff rfl ?hw (fun _ _ => ?_); case hw => ((conv => (lhs; whnf)); first | done | with_reducible rfl)) | (refine wpPlan_skip0 rfl ?hw ?_; case hw => ((conv => (lhs; whnf)); first | done | with_reducible rfl)) | (refine wpPlan_skip1d rfl ?hw ?_; case hw => ((conv => (lhs; whnf)); first | done | with_reducible rfl)) | (refine wpPlan_skip2 rfl ?hw ?_; case hw => ((conv => (lhs; whnf)); first | done | with_reducible rfl)) | (refine wpPlan_read1 rfl ?hw rfl (fun _ _ _ => ?_); case hw => ((conv => (lhs; whnf)); first | done | with_reducible rfl)) | refine wpPlan_fork ?_ ?_) | ((with_reducible show Owed _ _ _ _ _ _ _ _ _); first | refine Owed.none_ ?_ | refine Owed.nil_ ?_ | refine Owed.miss rfl ?_ | refine Owed.hit ?_ ?_) | ((with_reducible show Same _ _ _ _ _); intro _; go_simp; done) | (with_reducible exact True.intro) | ((with_reducible show Code.wp _ (Code.region 1 _ true) _ _ _); refine wp_region_plan [(0, 1, []), (1, 1, []), (2, 1, []), (3, 1, []), (5, 1, []), (6, 1, []), (7, 1, []), (8, 1, []), (4, 2, [5, 6, 7, 8]), (9, 2, []), (10, 2, []), (11, 2, []), (12, 0, [])] (by kernel_rfl) (by kernel_rfl) (by kernel_rfl) ?_))
  refine (or_any (w.heap.size + 1 + 1 + 1) _ 2 x y _ ?_).mono ?_
  · exact HZ.out
  rw [HE.out]
  rintro e w1 ⟨rfl, rfl⟩
  go_wp2_with (first | ((with_reducible show wpPlan _ _ _ _ _ (Act.put _ _ _) _); simp only [List.getElem_toArray, List.getElem_cons_succ, List.getElem_cons_zero, Act.put, List.setIfInBounds_toArray, List.set_cons_zero, List.set_cons_succ]) | ((with_reducible show wpPlan _ _ _ _ _ _ _); first | refine wpPlan_nil ?_ | (refine wpPlan_read0 rfl ?hw rfl (fun _ _ _ => ?_); case hw => ((conv => (lhs; whnf)); first | done | with_reducible rfl)) | (refine wpPlan_read1d rfl ?hw rfl rfl (fun _ _ _ => ?_); case hw => ((conv => (lhs; whnf)); first | done | with_reducible rfl)) | (refine wpPlan_eff rfl ?hw (fun _ _ => ?_); case hw => ((conv => (lhs; whnf)); first | done | with_reducible rfl)) | (refine wpPlan_skip0 rfl ?hw ?_; case hw => ((conv => (lhs; whnf)); first | done | with_reducible rfl)) | (refine wpPlan_skip1d rfl ?hw ?_; case hw => ((conv => (lhs; whnf)); first | done | with_reducible rfl)) | (refine wpPlan_skip2 rfl ?hw ?_; case hw => ((conv => (lhs; whnf)); first | done | with_reducible rfl)) | (refine wpPlan_read1 rfl ?hw rfl (fun _ _ _ => ?_); case hw => ((conv => (lhs; whnf)); first | done | with_reducible rfl)) | refine wpPlan_fork ?_ ?_) | ((with_reducible show Owed _ _ _ _ _ _ _ _ _); first | refine Owed.none_ ?_ | refine Owed.nil_ ?_ | refine Owed.miss rfl ?_ | refine Owed.hit ?_ ?_) | ((with_reducible show Same _ _ _ _ _); intro _; go_simp; done) | (with_reducible exact True.intro) | ((with_reducible show Code.wp _ (Code.region 1 _ true) _ _ _); refine wp_region_plan [(0, 1, []), (1, 1, []), (2, 1, []), (3, 1, []), (5, 1, []), (6, 1, []), (7, 1, []), (8, 1, []), (4, 2, [5, 6, 7, 8]), (9, 2, []), (10, 2, []), (11, 2, []), (12, 0, [])] (by kernel_rfl) (by kernel_rfl) (by kernel_rfl) ?_))
  go_ret
  refine ⟨rfl, 1, #[.cells #[.int .i64 ae, .int .i64 at_] 120, .cells #[.int .i64 be, .int .i64 bt] 120, .cells #[.int .i64 x, .int .i64 y] 3], ?_⟩
  rw [alloc_eq_grow, alloc_eq_grow, alloc_eq_grow, grow_grow, grow_grow]
  rfl

theorem mown_holds {w : World} {g n cap : Nat} {l : List Arc} (h : w.ownsRow 0 120 2 (.slice (some ⟨g, 0, none⟩) n cap) n (cellsOf Arc.cells l)) : HoldsK Arc.cells 2 w g 0 l.toArray := by
  have hl : l.length = n := by
    have := h.1
    rw [cellsOf_length Arc.cells_len] at this
    omega
  intro j hj
  have hj2 : j < n * 2 := by
    rw [size_flatK] at hj
    simp at hj
    omega
  rw [Nat.zero_add]
  exact ⟨by rw [h.cellAt j hj2]; exact cells_flat l (by omega), h.frozenAt j⟩

theorem msorted_own {w : World} {g n cap : Nat} {l l2 : List Arc} (h : w.ownsRow 0 120 2 (.slice (some ⟨g, 0, none⟩) n cap) n (cellsOf Arc.cells l)) (hl2 : l2.length = n) (m : Nat) (os : Array Obj) :
    (sortWorldK Arc.cells 2 w g 0 m l2.toArray os).ownsRow 0 120 2 (.slice (some ⟨g, 0, none⟩) n cap) n (cellsOf Arc.cells l2) ∧ Outside (fun k => k = g) w (sortWorldK Arc.cells 2 w g 0 m l2.toArray os) := by
  rcases h.2 with ⟨e, _⟩ | ⟨g', cap', cur, e, hb, hg, hnc, hcm, hcs, htake⟩
  · cases e
  cases e
  have hgl : g < w.heap.size := (Array.getElem?_eq_some_iff.1 hg).1
  have hsz : (mapBlock (Go.Sort.ahead w m) g (putCells id 0 (flatK Arc.cells 2 l2.toArray))).heap.size = w.heap.size := by simp [mapBlock, Go.Sort.ahead]
  have hheap : ∀ k, k < w.heap.size → (sortWorldK Arc.cells 2 w g 0 m l2.toArray os).heap[k]? = (mapBlock (Go.Sort.ahead w m) g (putCells id 0 (flatK Arc.cells 2 l2.toArray))).heap[k]? := fun k hk => by
    show ((mapBlock (Go.Sort.ahead w m) g (putCells id 0 (flatK Arc.cells 2 l2.toArray))).heap ++ os)[k]? = _
    rw [Array.getElem?_append_left (by rw [hsz]; exact hk)]
  refine ⟨⟨by rw [cellsOf_length Arc.cells_len, hl2], .inr ⟨g, cap, putCells id 0 (flatK Arc.cells 2 l2.toArray) cur, rfl, hb, ?_, hnc, hcm, by simp [putCells, hcs], ?_⟩⟩, rfl, rfl, rfl, ?_, fun k hk hR => ?_⟩
  · rw [hheap g hgl]
    simp [mapBlock, Go.Sort.ahead, Array.getElem?_modify, hg, onCells]
  · apply List.ext_getElem?
    intro j
    rw [List.getElem?_take]
    by_cases hj : j < n * 2
    · rw [if_pos hj, cells_flat l2 (by omega)]
      have hjc : j < cur.size := by
        have := Nat.mul_le_mul_right 2 hnc
        omega
      simp [putCells, hjc]
      intro h9
      omega
    · rw [if_neg hj, List.getElem?_eq_none (by rw [cellsOf_length Arc.cells_len]; omega)]
  · show w.heap.size ≤ ((mapBlock (Go.Sort.ahead w m) g (putCells id 0 (flatK Arc.cells 2 l2.toArray))).heap ++ os).size
    rw [Array.size_append, hsz]
    omega
  · rw [hheap k hk]
    have hne : ¬ g = k := fun e => hR e.symm
    simp [mapBlock, Go.Sort.ahead, Array.getElem?_modify, hne]

theorem msort_any (v : Value) (n : Nat) (l : List Arc) (w : World) (h : w.ownsRow 0 120 2 v n (cellsOf Arc.cells l)) (hn : n ≤ 1000000000) :
    Calls Try.prog 89 #[v, .func (.func 90) #[] #[]] w fun e w' => e = .returned (.tuple #[]) ∧ w'.ownsRow 0 120 2 v n (cellsOf Arc.cells (srt l)) ∧ Outside (fun k => v.ownBlock = some k) w w' := by
  have hl : l.length = n := by
    have := h.1
    rw [cellsOf_length Arc.cells_len] at this
    omega
  rcases Nat.eq_zero_or_pos n with h0 | h0
  · subst h0
    obtain ⟨A, c, rfl, _, _⟩ := own_form h
    have hl0 : l = [] := List.eq_nil_of_length_eq_zero hl
    subst hl0
    have hS := Go.Proofs.AnyF.slices_SortFunc_none (P := Try.prog) (ρ := sortM_ren) { sortM with } A c (.func (.func 90) #[] #[]) w
    exact hS.mono fun e w' ⟨he, hw⟩ => ⟨he, by rw [hw, List.eq_nil_of_length_eq_zero (srt_len [])]; exact h, by rw [hw]; exact Outside.refl _ _⟩
  · obtain ⟨g, c, rfl, _, hg⟩ := h.form h0
    have eg : ∀ args w, (callFunc 90 args).run Try.prog w = .ok (.enter 90 args) w := enters_of Try.func90 (by kernel_rfl) rfl
    have hS := Go.Proofs.AnyQ.slices_SortFunc_total sortM 2 Try.isAgg120 Try.sizeOf120 Arc.cells Arc.cells_len (fun x v hv => by
      simp [Arc.cells] at hv
      rcases hv with rfl | rfl <;> rfl) arcCmp swoArc 90 #[] g 0 c l.toArray w eg (fun _ _ _ _ x y => mcompareG_any x y _) (mown_holds h) hg (by simp; omega) (fun x y h1 h2 => by
        rw [lt_arc] at h1 h2
        by_cases e : x = y
        · exact e
        · have := lessB_tot h1 e
          rw [h2] at this
          cases this)
    rw [ltOf_arc] at hS
    have e1 : l.toArray.size = n := by simpa using hl
    rw [e1] at hS
    exact hS.mono fun e w' ⟨he, m, os, hw⟩ => by
      obtain ⟨h1, h2⟩ := msorted_own h (l2 := srt l) (by rw [srt_len]; exact hl) m os
      rw [hw]
      exact ⟨he, h1, h2.mono (fun k _ e => by rw [e]; rfl)⟩

theorem infoMark : (Try.prog.info? 120).map (fun i => (i.zero, i.size, i.bytes)) = some (some (.agg #[.int .i64 0, .int .i64 0]), 2, 16) := by kernel_rfl
theorem slMark : SlT Try.prog 108 120 2 16 := SlT.of Try.underlying108 infoMark rfl (by decide)
theorem cpt_last : ∀ {l : List Arc} {x : Arc}, l.getLast? = some x → (cpt l).getLast? = some x
  | [], _, h => by cases h
  | [a], _, h => h
  | a :: b :: r, x, h => by
    have h1 : (b :: r).getLast? = some x := by simpa using h
    have ih := cpt_last h1
    rw [cpt]
    split
    · exact ih
    · cases hc : cpt (b :: r) with
      | nil => rw [hc] at ih; cases ih
      | cons y ys =>
        rw [hc] at ih
        simpa using ih
theorem cpt_at_last {l : List Arc} {i : Nat} {y : Arc} (h0 : 0 < i) (hy : l[i - 1]? = some y) : (cpt (l.take i))[(cpt (l.take i)).length - 1]? = some y ∧ 1 ≤ (cpt (l.take i)).length := by
  have hlen := (List.getElem?_eq_some_iff.1 hy).1
  have h1 : (l.take i).getLast? = some y := by
    rw [List.getLast?_eq_getElem?, List.length_take, Nat.min_eq_left (by omega), List.getElem?_take, if_pos (by omega)]
    exact hy
  have h2 := cpt_last h1
  rw [List.getLast?_eq_getElem?] at h2
  exact ⟨h2, by have := (List.getElem?_eq_some_iff.1 h2).1; omega⟩
/-- the first arcs of a row -/
theorem Rd.arcPre {w : World} {B n : Nat} {A : Option Addr} {K T : List Arc} (h : Rd w B 2 A n (cellsOf Arc.cells (K ++ T))) : Rd w B 2 A K.length (cellsOf Arc.cells K) := by
  have hl := h.len Arc.cells_len (by decide)
  rw [List.length_append] at hl
  refine ⟨by rw [cellsOf_length Arc.cells_len], fun h0 => ?_⟩
  obtain ⟨b, o, e, hb, hc⟩ := h.2 (by omega)
  refine ⟨b, o, e, hb, fun j u hu => hc j u ?_⟩
  rw [cellsOf_append, List.getElem?_append_left (List.getElem?_eq_some_iff.1 hu).1]
  exact hu

set_option maxRecDepth 100000 in
theorem signature_any (A : Option Addr) (n c : Nat) (l : List Arc) (A' : Option Addr) (n' c' : Nat) (cl : List Nat) (B : Nat) (w : World) (h : Rd w B 2 A n (cellsOf Arc.cells l)) (h' : Rd w B 1 A' n' (cellsOf ncell cl)) (hB : B ≤ w.heap.size) (hn : n ≤ 1000000) (hto : ∀ a ∈ l, 0 ≤ a.to ∧ a.to < cl.length) :
    Calls Try.prog 78 #[.slice A n c, .slice A' n' c'] w fun e w' => (∃ A1 n1 c1, e = .returned (.slice A1 n1 c1) ∧ Rd w' w'.heap.size 2 A1 n1 (cellsOf Arc.cells (sd (l.map (ren (intC cl)))))) ∧ Below w.heap.size w w' := by
  have H := Lib.hid h
  have H' := Lib.hid h'
  have HT := Lib.hid hto
  have HL := Lib.hid (h.len Arc.cells_len (by decide))
  have HL' := Lib.hid (h'.len ncell_len (by decide))
  obtain ⟨R, hR⟩ : ∃ R : Arc → Arc, R = ren (intC cl) := ⟨_, rfl⟩
  have HR := Lib.hid hR
  rw [← hR]
  clear h h' hto hR
  go_enter Try.func78, Try.ntmps78
  go_wp2_with fail
  go_loopw [5, 13] (fun vo vk wr => ∃ k : Nat, k ≤ n ∧ vk = .int .i64 k ∧ Hid (wr.ownsRow 0 120 2 vo k (cellsOf Arc.cells ((l.take k).map R)) ∧ (∀ g, vo.ownBlock = some g → w.heap.size ≤ g) ∧ Below w.heap.size w wr)) (fun _ vk _ => n - (intOf vk).toNat)
  case atStart => exact ⟨0, Nat.zero_le _, rfl, Lib.hid ⟨World.ownsRow_nil _ _ _ _, fun g hg => by simp [Value.ownBlock] at hg, Below.refl _ _⟩⟩
  case round =>
    obtain ⟨k, hk, rfl, HW⟩ := hrel
    have hsz := HW.out.2.2.size
    obtain ⟨A5, c5, rfl, _, _⟩ := own_form HW.out.1
    by_cases hlt : k < n
    · obtain ⟨b1, o1, x, rfl, hb1, hx, c0, c1⟩ := (H.out.keep (w' := wr) (fun p hp => HW.out.2.2.cell (by omega))).arc hlt
      obtain ⟨xe, xt⟩ := x
      have hxt := HT.out _ (List.mem_of_getElem? hx)
      dsimp only at c0 c1 hxt
      obtain ⟨q, rfl⟩ : ∃ q : Nat, xt = q := ⟨xt.toNat, by omega⟩
      have hq : q < n' := by have := HL'.out; omega
      obtain ⟨b2, o2, y, rfl, hb2, hy, d0⟩ := (H'.out.keep (w' := wr) (fun p hp => HW.out.2.2.cell (by omega))).nat hq
      have HRX := Lib.hid (show R ⟨xe, (q : Int)⟩ = ⟨xe, (y : Int)⟩ by
        rw [HR.out, ren, numAt, intC, List.getD_eq_getElem?_getD, List.getElem?_map, Int.toNat_natCast, hy]
        rfl)
      have HTK := Lib.hid (show (l.take (k + 1)).map R = (l.take k).map R ++ [⟨xe, (y : Int)⟩] by
        rw [List.take_add_one, hx, List.map_append, ← HRX.out]
        rfl)
      have HO := Lib.hid (HW.out.1.alloc (.cells #[.int .i64 xe, .int .i64 q] 23))
      have HBW := Lib.hid ((HW.out.2.2.alloc hsz (.cells #[.int .i64 xe, .int .i64 q] 23)).drew.alloc (Nat.le_trans hsz (by simp)) (.cells #[.int .i64 xe, .int .i64 y] 120))
      have hb1l : b1 < wr.heap.size := by omega
      have hb2l : b2 < wr.heap.size := by omega
      clear hx hy hxt
      go_wp2_with (first | ((with_reducible show wpPlan _ _ _ ((10, 2, _) :: _) _ _ _); refine wpPlan_eff rfl rfl (fun _ hK => ?_); refine app_blk slMark rfl (World.ownsRow.alloc HO.out _) rfl (news := [.int .i64 xe, .int .i64 y]) ((heap_alloc_at (by simp)) : Blk _ (wr.heap.size + 1) _ _) rfl rfl (by simp [Value.oneCell']) (by decide) (by unfold maxLen; omega) (by omega) ?_; intro g8 c8 w8 hown8 hgrow8 hat8; refine hK _ _ ?_; refine Stop7.intro ?_) | ((with_reducible show wpPlan _ _ _ _ _ (Act.put _ _ _) _); simp only [List.getElem_toArray, List.getElem_cons_succ, List.getElem_cons_zero, Act.put, List.setIfInBounds_toArray, List.set_cons_zero, List.set_cons_succ]) | ((with_reducible show wpPlan _ _ _ _ _ _ _); first | refine wpPlan_nil ?_ | (refine wpPlan_read0 rfl ?hw rfl (fun _ _ _ => ?_); case hw => ((conv => (lhs; whnf)); first | done | with_reducible rfl)) | (refine wpPlan_read1d rfl ?hw rfl rfl (fun _ _ _ => ?_); case hw => ((conv => (lhs; whnf)); first | done | with_reducible rfl)) | (refine wpPlan_eff rfl ?hw (fun _ _ => ?_); case hw => ((conv => (lhs; whnf)); first | done | with_reducible rfl)) | (refine wpPlan_skip0 rfl ?hw ?_; case hw => ((conv => (lhs; whnf)); first | done | with_reducible rfl)) | (refine wpPlan_skip1d rfl ?hw ?_; case hw => ((conv => (lhs; whnf)); first | done | with_reducible rfl)) | (refine wpPlan_skip2 rfl ?hw ?_; case hw => ((conv => (lhs; whnf)); first | done | with_reducible rfl)) | (refine wpPlan_read1 rfl ?hw rfl (fun _ _ _ => ?_); case hw => ((conv => (lhs; whnf)); first | done | with_reducible rfl)) | refine wpPlan_fork ?_ ?_) | ((with_reducible show Owed _ _ _ _ _ _ _ _ _); first | refine Owed.none_ ?_ | refine Owed.nil_ ?_ | refine Owed.miss rfl ?_ | refine Owed.hit ?_ ?_) | ((with_reducible show Same _ _ _ _ _); intro _; go_simp; done) | (with_reducible exact True.intro) | ((with_reducible show Code.wp _ (Code.region 5 _ true) _ _ _); refine wp_region_plan [(0, 0, []), (1, 1, []), (2, 1, []), (3, 0, []), (4, 1, []), (5, 1, []), (6, 1, []), (7, 1, []), (8, 1, []), (9, 2, []), (10, 2, []), (11, 0, [])] (by kernel_rfl) (by kernel_rfl) (by kernel_rfl) ?_) | ((with_reducible show Code.wp _ (Code.region 12 _ true) _ _ _); refine wp_region_plan [(0, 0, []), (1, 1, []), (2, 0, []), (3, 1, []), (4, 0, []), (5, 0, []), (6, 1, []), (7, 1, []), (8, 1, []), (9, 1, []), (10, 0, [])] (by kernel_rfl) (by kernel_rfl) (by kernel_rfl) ?_))
      unfold Stop7
      have hg8 : (((wr.alloc (.cells #[.int .i64 xe, .int .i64 q] 23)).drew).alloc (.cells #[.int .i64 xe, .int .i64 y] 120)).grownBy w8 (Value.slice A5 k c5).ownBlock := hgrow8
      have HZ := Lib.hid (show w8.ownsRow 0 120 2 (.slice (some ⟨g8, 0, none⟩) (k + 1) c8) (k + 1) (cellsOf Arc.cells ((l.take (k + 1)).map R)) ∧ (∀ g, (Value.slice (some ⟨g8, 0, none⟩) (k + 1) c8).ownBlock = some g → w.heap.size ≤ g) ∧ Below w.heap.size w w8 from by
        refine ⟨by rw [HTK.out, ← arc_snoc]; exact hown8, fun g hg => ?_, HBW.out.grown hg8 HBW.out.size (fun z hz => HW.out.2.1 z hz)⟩
        have h1 : g8 = g := by simpa [Value.ownBlock] using hg
        rcases hat8 with h | h
        · have := HW.out.2.1 g8 h
          omega
        · simp at h
          omega)
      clear hown8 hgrow8 hat8 hg8 c0 c1 d0
      go_wp2_with (first | ((with_reducible show wpPlan _ _ _ _ _ (Act.put _ _ _) _); simp only [List.getElem_toArray, List.getElem_cons_succ, List.getElem_cons_zero, Act.put, List.setIfInBounds_toArray, List.set_cons_zero, List.set_cons_succ]) | ((with_reducible show wpPlan _ _ _ _ _ _ _); first | refine wpPlan_nil ?_ | (refine wpPlan_read0 rfl ?hw rfl (fun _ _ _ => ?_); case hw => ((conv => (lhs; whnf)); first | done | with_reducible rfl)) | (refine wpPlan_read1d rfl ?hw rfl rfl (fun _ _ _ => ?_); case hw => ((conv => (lhs; whnf)); first | done | with_reducible rfl)) | (refine wpPlan_eff rfl ?hw (fun _ _ => ?_); case hw => ((conv => (lhs; whnf)); first | done | with_reducible rfl)) | (refine wpPlan_skip0 rfl ?hw ?_; case hw => ((conv => (lhs; whnf)); first | done | with_reducible rfl)) | (refine wpPlan_skip1d rfl ?hw ?_; case hw => ((conv => (lhs; whnf)); first | done | with_reducible rfl)) | (refine wpPlan_skip2 rfl ?hw ?_; case hw => ((conv => (lhs; whnf)); first | done | with_reducible rfl)) | (refine wpPlan_read1 rfl ?hw rfl (fun _ _ _ => ?_); case hw => ((conv => (lhs; whnf)); first | done | with_reducible rfl)) | refine wpPlan_fork ?_ ?_) | ((with_reducible show Owed _ _ _ _ _ _ _ _ _); first | refine Owed.none_ ?_ | refine Owed.nil_ ?_ | refine Owed.miss rfl ?_ | refine Owed.hit ?_ ?_) | ((with_reducible show Same _ _ _ _ _); intro _; go_simp; done) | (with_reducible exact True.intro) | ((with_reducible show Code.wp _ (Code.region 5 _ true) _ _ _); refine wp_region_plan [(0, 0, []), (1, 1, []), (2, 1, []), (3, 0, []), (4, 1, []), (5, 1, []), (6, 1, []), (7, 1, []), (8, 1, []), (9, 2, []), (10, 2, []), (11, 0, [])] (by kernel_rfl) (by kernel_rfl) (by kernel_rfl) ?_) | ((with_reducible show Code.wp _ (Code.region 12 _ true) _ _ _); refine wp_region_plan [(0, 0, []), (1, 1, []), (2, 0, []), (3, 1, []), (4, 0, []), (5, 0, []), (6, 1, []), (7, 1, []), (8, 1, []), (9, 1, []), (10, 0, [])] (by kernel_rfl) (by kernel_rfl) (by kernel_rfl) ?_))
      go_roundw
      case rel => exact ⟨k + 1, by omega, by go_num, HZ⟩
      case measure => simp [intOf]; omega
    · have hkn : k = n := by omega
      subst hkn
      have HO := Lib.hid (show wr.ownsRow 0 120 2 (.slice A5 k c5) k (cellsOf Arc.cells (l.map R)) by
        have := HW.out.1
        rwa [List.take_of_length_le (by rw [HL.out]; exact Nat.le_refl _)] at this)
      go_wp2_with fail
      refine (msort_any (.slice A5 k c5) k (l.map R) wr HO.out (by omega)).mono ?_
      rintro e w2 ⟨rfl, ho2, hO2⟩
      obtain ⟨S, hS⟩ : ∃ S, srt (l.map R) = S := ⟨_, rfl⟩
      rw [hS] at ho2
      have HS := Lib.hid hS
      have HSL := Lib.hid (show S.length = k by rw [← hS, srt_len, List.length_map, HL.out])
      have HW2 := Lib.hid (show w2.ownsRow 0 120 2 (.slice A5 k c5) k (cellsOf Arc.cells S) ∧ Below w.heap.size w w2 from
        ⟨ho2, HW.out.2.2.trans (hO2.below hsz (fun g hg e => by have := HW.out.2.1 g e; omega))⟩)
      have HBA := Lib.hid HW.out.2.1
      clear ho2 hO2 hS
      go_wp2_with fail
      go_loopw [8, 33] (fun vn vi wr => ∃ i m : Nat, i ≤ k ∧ m ≤ i ∧ vi = .int .i64 i ∧ vn = .int .i64 m ∧ Hid (m = (cpt (S.take i)).length ∧ wr.ownsRow 0 120 2 (.slice A5 k c5) k (cellsOf Arc.cells (cpt (S.take i) ++ S.drop m)) ∧ Below w.heap.size w wr)) (fun _ vi _ => k - (intOf vi).toNat)
      case atStart => exact ⟨0, 0, Nat.zero_le _, Nat.le_refl _, rfl, rfl, Lib.hid ⟨rfl, HW2.out.1, HW2.out.2⟩⟩
      case round =>
        rename World => w3
        obtain ⟨i, m, hi, hm, rfl, rfl, HV⟩ := hrel
        have hs3 := HV.out.2.2.size
        by_cases hlt2 : i < k
        · obtain ⟨g, c9, e9, hkc, hgl⟩ := HV.out.2.1.form (by omega)
          simp only [Value.slice.injEq, true_and] at e9
          obtain ⟨rfl, rfl⟩ := e9
          obtain ⟨x, hx⟩ : ∃ x, S[i]? = some x := ⟨_, List.getElem?_eq_getElem (by rw [HSL.out]; exact hlt2)⟩
          obtain ⟨c0, c1⟩ := mown_at2 HV.out.2.1 (i := i) (by rw [tail_get HV.out.1 hm]; exact hx)
          have hne : ¬ c5 = i := by omega
          have hwg : w.heap.size ≤ g := HBA.out g rfl
          have HSTORE := Lib.hid (show cpt (S.take (i + 1)) = cpt (S.take i) ++ [x] → m + 1 = (cpt (S.take (i + 1))).length ∧
              (((w3.setCell ⟨g, m * 2, none⟩ (.int .i64 x.ev)).setCell ⟨g, m * 2 + 1, none⟩ (.int .i64 x.to)).alloc (.cells #[.int .i64 x.ev, .int .i64 x.to] 120)).drew.ownsRow 0 120 2 (.slice (some ⟨g, 0, none⟩) k c5) k (cellsOf Arc.cells (cpt (S.take (i + 1)) ++ S.drop (m + 1))) ∧
              Below w.heap.size w (((w3.setCell ⟨g, m * 2, none⟩ (.int .i64 x.ev)).setCell ⟨g, m * 2 + 1, none⟩ (.int .i64 x.to)).alloc (.cells #[.int .i64 x.ev, .int .i64 x.to] 120)).drew from fun hc => by
            rw [hc, ← keep_set HV.out.1 (by rw [HSL.out]; omega), ← set2_arc]
            refine ⟨by rw [List.length_append, ← HV.out.1]; rfl, ((own_set2 HV.out.2.1 m _ _).alloc _).drew, (((HV.out.2.2.setCell (p := ⟨g, m * 2, none⟩) hwg _).setCell (p := ⟨g, m * 2 + 1, none⟩) hwg _).alloc (Nat.le_trans hs3 (by simp)) _).drew⟩)
          obtain ⟨V, hV⟩ : ∃ V, S[m]? = some V := ⟨_, List.getElem?_eq_getElem (by rw [HSL.out]; omega)⟩
          obtain ⟨v0, v1⟩ := mown_at2 HV.out.2.1 (i := m) (by rw [tail_get HV.out.1 (Nat.le_refl _)]; exact hV)
          have f0 := HV.out.2.1.frozenAt (m * 2)
          have f1 := HV.out.2.1.frozenAt (m * 2 + 1)
          have hnm : ¬ c5 = m := by omega
          by_cases hi0 : i = 0
          · subst hi0
            have hm0 : m = 0 := by omega
            subst hm0
            have HZ := Lib.hid (HSTORE.out (by rw [List.take_add_one, hx]; rfl))
            clear hx hV
            go_wp2_with (first | ((with_reducible show wpPlan _ _ _ _ _ (Act.put _ _ _) _); simp only [List.getElem_toArray, List.getElem_cons_succ, List.getElem_cons_zero, Act.put, List.setIfInBounds_toArray, List.set_cons_zero, List.set_cons_succ]) | ((with_reducible show wpPlan _ _ _ _ _ _ _); first | refine wpPlan_nil ?_ | (refine wpPlan_read0 rfl ?hw rfl (fun _ _ _ => ?_); case hw => ((conv => (lhs; whnf)); first | done | with_reducible rfl)) | (refine wpPlan_read1d rfl ?hw rfl rfl (fun _ _ _ => ?_); case hw => ((conv => (lhs; whnf)); first | done | with_reducible rfl)) | (refine wpPlan_eff rfl ?hw (fun _ _ => ?_); case hw => ((conv => (lhs; whnf)); first | done | with_reducible rfl)) | (refine wpPlan_skip0 rfl ?hw ?_; case hw => ((conv => (lhs; whnf)); first | done | with_reducible rfl)) | (refine wpPlan_skip1d rfl ?hw ?_; case hw => ((conv => (lhs; whnf)); first | done | with_reducible rfl)) | (refine wpPlan_skip2 rfl ?hw ?_; case hw => ((conv => (lhs; whnf)); first | done | with_reducible rfl)) | (refine wpPlan_read1 rfl ?hw rfl (fun _ _ _ => ?_); case hw => ((conv => (lhs; whnf)); first | done | with_reducible rfl)) | refine wpPlan_fork ?_ ?_) | ((with_reducible show Owed _ _ _ _ _ _ _ _ _); first | refine Owed.none_ ?_ | refine Owed.nil_ ?_ | refine Owed.miss rfl ?_ | refine Owed.hit ?_ ?_) | ((with_reducible show Same _ _ _ _ _); intro _; go_simp; done) | (with_reducible exact True.intro) | ((with_reducible show Code.wp _ (Code.region 5 _ true) _ _ _); refine wp_region_plan [(0, 0, []), (1, 1, []), (2, 1, []), (3, 0, []), (4, 1, []), (5, 1, []), (6, 1, []), (7, 1, []), (8, 1, []), (9, 2, []), (10, 2, []), (11, 0, [])] (by kernel_rfl) (by kernel_rfl) (by kernel_rfl) ?_) | ((with_reducible show Code.wp _ (Code.region 12 _ true) _ _ _); refine wp_region_plan [(0, 0, []), (1, 1, []), (2, 0, []), (3, 1, []), (4, 0, []), (5, 0, []), (6, 1, []), (7, 1, []), (8, 1, []), (9, 1, []), (10, 0, [])] (by kernel_rfl) (by kernel_rfl) (by kernel_rfl) ?_))
            go_roundw
            case rel => exact ⟨1, 1, by omega, Nat.le_refl _, rfl, rfl, HZ⟩
            case measure => simp [intOf]; omega
          · obtain ⟨y, hy⟩ : ∃ y, S[i - 1]? = some y := ⟨_, List.getElem?_eq_getElem (by rw [HSL.out]; omega)⟩
            obtain ⟨hlast, hlen⟩ := cpt_at_last (i := i) (by omega) hy
            rw [← HV.out.1] at hlast hlen
            obtain ⟨p, rfl⟩ : ∃ p, m = p + 1 := ⟨m - 1, by omega⟩
            rw [Nat.add_sub_cancel] at hlast
            obtain ⟨d0, d1⟩ := mown_at2 HV.out.2.1 (i := p) (a := y) (by rw [List.getElem?_append_left (by rw [← HV.out.1]; omega)]; exact hlast)
            have HN := Lib.hid (cpt_next (k := i) (by omega) hx hy)
            have hnp : ¬ c5 = p := by omega
            have hib : ((i : Int) == 0) = false := by simp [hi0]
            by_cases hyx : y = x
            · subst hyx
              have HZ := Lib.hid (show p + 1 = (cpt (S.take (i + 1))).length ∧ (w3.alloc (.cells #[.int .i64 y.ev, .int .i64 y.to] 120)).drew.ownsRow 0 120 2 (.slice (some ⟨g, 0, none⟩) k c5) k (cellsOf Arc.cells (cpt (S.take (i + 1)) ++ S.drop (p + 1))) ∧ Below w.heap.size w (w3.alloc (.cells #[.int .i64 y.ev, .int .i64 y.to] 120)).drew from by
                have e := HN.out
                rw [if_pos rfl] at e
                rw [e]
                exact ⟨HV.out.1, (HV.out.2.1.alloc _).drew, (HV.out.2.2.alloc hs3 _).drew⟩)
              clear hx hy hV hlast HSTORE v0 v1 f0 f1
              go_wp2_with (first | ((with_reducible show wpPlan _ _ _ _ _ (Act.put _ _ _) _); simp only [List.getElem_toArray, List.getElem_cons_succ, List.getElem_cons_zero, Act.put, List.setIfInBounds_toArray, List.set_cons_zero, List.set_cons_succ]) | ((with_reducible show wpPlan _ _ _ _ _ _ _); first | refine wpPlan_nil ?_ | (refine wpPlan_read0 rfl ?hw rfl (fun _ _ _ => ?_); case hw => ((conv => (lhs; whnf)); first | done | with_reducible rfl)) | (refine wpPlan_read1d rfl ?hw rfl rfl (fun _ _ _ => ?_); case hw => ((conv => (lhs; whnf)); first | done | with_reducible rfl)) | (refine wpPlan_eff rfl ?hw (fun _ _ => ?_); case hw => ((conv => (lhs; whnf)); first | done | with_reducible rfl)) | (refine wpPlan_skip0 rfl ?hw ?_; case hw => ((conv => (lhs; whnf)); first | done | with_reducible rfl)) | (refine wpPlan_skip1d rfl ?hw ?_; case hw => ((conv => (lhs; whnf)); first | done | with_reducible rfl)) | (refine wpPlan_skip2 rfl ?hw ?_; case hw => ((conv => (lhs; whnf)); first | done | with_reducible rfl)) | (refine wpPlan_read1 rfl ?hw rfl (fun _ _ _ => ?_); case hw => ((conv => (lhs; whnf)); first | done | with_reducible rfl)) | refine wpPlan_fork ?_ ?_) | ((with_reducible show Owed _ _ _ _ _ _ _ _ _); first | refine Owed.none_ ?_ | refine Owed.nil_ ?_ | refine Owed.miss rfl ?_ | refine Owed.hit ?_ ?_) | ((with_reducible show Same _ _ _ _ _); intro _; go_simp; done) | (with_reducible exact True.intro) | ((with_reducible show Code.wp _ (Code.region 5 _ true) _ _ _); refine wp_region_plan [(0, 0, []), (1, 1, []), (2, 1, []), (3, 0, []), (4, 1, []), (5, 1, []), (6, 1, []), (7, 1, []), (8, 1, []), (9, 2, []), (10, 2, []), (11, 0, [])] (by kernel_rfl) (by kernel_rfl) (by kernel_rfl) ?_) | ((with_reducible show Code.wp _ (Code.region 12 _ true) _ _ _); refine wp_region_plan [(0, 0, []), (1, 1, []), (2, 0, []), (3, 1, []), (4, 0, []), (5, 0, []), (6, 1, []), (7, 1, []), (8, 1, []), (9, 1, []), (10, 0, [])] (by kernel_rfl) (by kernel_rfl) (by kernel_rfl) ?_))
              go_roundw
              case rel => exact ⟨i + 1, p + 1, by omega, by omega, by go_num, rfl, HZ⟩
              case measure => simp [intOf]; omega
            · have HZ := Lib.hid (HSTORE.out (by have e := HN.out; rw [if_neg hyx] at e; exact e))
              clear hx hy hV hlast HSTORE
              by_cases he : x.ev = y.ev
              · have ht : ¬ x.to = y.to := fun h => hyx (by cases x; cases y; simp_all)
                have hee : (x.ev == y.ev) = true := by simp [he]
                have htt : (x.to == y.to) = false := by simp [ht]
                clear he hyx
                go_wp2_with (first | ((with_reducible show wpPlan _ _ _ _ _ (Act.put _ _ _) _); simp only [List.getElem_toArray, List.getElem_cons_succ, List.getElem_cons_zero, Act.put, List.setIfInBounds_toArray, List.set_cons_zero, List.set_cons_succ]) | ((with_reducible show wpPlan _ _ _ _ _ _ _); first | refine wpPlan_nil ?_ | (refine wpPlan_read0 rfl ?hw rfl (fun _ _ _ => ?_); case hw => ((conv => (lhs; whnf)); first | done | with_reducible rfl)) | (refine wpPlan_read1d rfl ?hw rfl rfl (fun _ _ _ => ?_); case hw => ((conv => (lhs; whnf)); first | done | with_reducible rfl)) | (refine wpPlan_eff rfl ?hw (fun _ _ => ?_); case hw => ((conv => (lhs; whnf)); first | done | with_reducible rfl)) | (refine wpPlan_skip0 rfl ?hw ?_; case hw => ((conv => (lhs; whnf)); first | done | with_reducible rfl)) | (refine wpPlan_skip1d rfl ?hw ?_; case hw => ((conv => (lhs; whnf)); first | done | with_reducible rfl)) | (refine wpPlan_skip2 rfl ?hw ?_; case hw => ((conv => (lhs; whnf)); first | done | with_reducible rfl)) | (refine wpPlan_read1 rfl ?hw rfl (fun _ _ _ => ?_); case hw => ((conv => (lhs; whnf)); first | done | with_reducible rfl)) | refine wpPlan_fork ?_ ?_) | ((with_reducible show Owed _ _ _ _ _ _ _ _ _); first | refine Owed.none_ ?_ | refine Owed.nil_ ?_ | refine Owed.miss rfl ?_ | refine Owed.hit ?_ ?_) | ((with_reducible show Same _ _ _ _ _); intro _; go_simp; done) | (with_reducible exact True.intro) | ((with_reducible show Code.wp _ (Code.region 5 _ true) _ _ _); refine wp_region_plan [(0, 0, []), (1, 1, []), (2, 1, []), (3, 0, []), (4, 1, []), (5, 1, []), (6, 1, []), (7, 1, []), (8, 1, []), (9, 2, []), (10, 2, []), (11, 0, [])] (by kernel_rfl) (by kernel_rfl) (by kernel_rfl) ?_) | ((with_reducible show Code.wp _ (Code.region 12 _ true) _ _ _); refine wp_region_plan [(0, 0, []), (1, 1, []), (2, 0, []), (3, 1, []), (4, 0, []), (5, 0, []), (6, 1, []), (7, 1, []), (8, 1, []), (9, 1, []), (10, 0, [])] (by kernel_rfl) (by kernel_rfl) (by kernel_rfl) ?_))
                go_roundw
                case rel => exact ⟨i + 1, p + 1 + 1, by omega, by omega, by go_num, by go_num, HZ⟩
                case measure => simp [intOf]; omega
              · have hee : (x.ev == y.ev) = false := by simp [he]
                clear hyx
                go_wp2_with (first | ((with_reducible show wpPlan _ _ _ _ _ (Act.put _ _ _) _); simp only [List.getElem_toArray, List.getElem_cons_succ, List.getElem_cons_zero, Act.put, List.setIfInBounds_toArray, List.set_cons_zero, List.set_cons_succ]) | ((with_reducible show wpPlan _ _ _ _ _ _ _); first | refine wpPlan_nil ?_ | (refine wpPlan_read0 rfl ?hw rfl (fun _ _ _ => ?_); case hw => ((conv => (lhs; whnf)); first | done | with_reducible rfl)) | (refine wpPlan_read1d rfl ?hw rfl rfl (fun _ _ _ => ?_); case hw => ((conv => (lhs; whnf)); first | done | with_reducible rfl)) | (refine wpPlan_eff rfl ?hw (fun _ _ => ?_); case hw => ((conv => (lhs; whnf)); first | done | with_reducible rfl)) | (refine wpPlan_skip0 rfl ?hw ?_; case hw => ((conv => (lhs; whnf)); first | done | with_reducible rfl)) | (refine wpPlan_skip1d rfl ?hw ?_; case hw => ((conv => (lhs; whnf)); first | done | with_reducible rfl)) | (refine wpPlan_skip2 rfl ?hw ?_; case hw => ((conv => (lhs; whnf)); first | done | with_reducible rfl)) | (refine wpPlan_read1 rfl ?hw rfl (fun _ _ _ => ?_); case hw => ((conv => (lhs; whnf)); first | done | with_reducible rfl)) | refine wpPlan_fork ?_ ?_) | ((with_reducible show Owed _ _ _ _ _ _ _ _ _); first | refine Owed.none_ ?_ | refine Owed.nil_ ?_ | refine Owed.miss rfl ?_ | refine Owed.hit ?_ ?_) | ((with_reducible show Same _ _ _ _ _); intro _; go_simp; done) | (with_reducible exact True.intro) | ((with_reducible show Code.wp _ (Code.region 5 _ true) _ _ _); refine wp_region_plan [(0, 0, []), (1, 1, []), (2, 1, []), (3, 0, []), (4, 1, []), (5, 1, []), (6, 1, []), (7, 1, []), (8, 1, []), (9, 2, []), (10, 2, []), (11, 0, [])] (by kernel_rfl) (by kernel_rfl) (by kernel_rfl) ?_) | ((with_reducible show Code.wp _ (Code.region 12 _ true) _ _ _); refine wp_region_plan [(0, 0, []), (1, 1, []), (2, 0, []), (3, 1, []), (4, 0, []), (5, 0, []), (6, 1, []), (7, 1, []), (8, 1, []), (9, 1, []), (10, 0, [])] (by kernel_rfl) (by kernel_rfl) (by kernel_rfl) ?_))
                go_roundw
                case rel => exact ⟨i + 1, p + 1 + 1, by omega, by omega, by go_num, by go_num, HZ⟩
                case measure => simp [intOf]; omega
        · have hik : i = k := by omega
          subst hik
          have HC := Lib.hid (show cpt (S.take i) = sd (l.map R) by rw [List.take_of_length_le (by rw [HSL.out]; exact Nat.le_refl _), ← HS.out]; exact cpt_srt _)
          have hmc : m ≤ c5 := by
            obtain ⟨_, _, e, h9, _⟩ := own_form HV.out.2.1
            cases e
            omega
          go_wp2_with fail
          go_ret
          refine ⟨⟨A5, m, c5, rfl, ?_⟩, HV.out.2.2⟩
          have h1 := (Rd.ofOwn HV.out.2.1).arcPre
          rw [← HV.out.1, HC.out] at h1
          exact h1

end Go.Proofs.Ytmciinikfjfegaa
