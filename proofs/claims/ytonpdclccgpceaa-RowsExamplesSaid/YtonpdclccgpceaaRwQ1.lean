/- lists of numbers that are equal; rows of arcs that are copied -/
import Derived.Test.YtonpdclccgpceaaRwG3
import Derived.Test.YtonpdclccgpceaaRwSm
import Derived.Lib.SliceRun
namespace Go.Proofs.Ytonpdclccgpceaa
open Go Go.RowKit
set_option maxHeartbeats 4000000

set_option maxRecDepth 100000 in
theorem ints_any (A A' : Option Addr) (n c n' c' B : Nat) (l l' : List Int) (w : World) (h : Rd w B 1 A n (cellsOf icell l)) (h' : Rd w B 1 A' n' (cellsOf icell l')) (hB : B ≤ w.heap.size) (hn : n ≤ 1000000000000) :
    Calls Try.prog 32 #[.slice A n c, .slice A' n' c'] w fun e w' => e = .returned (.bool (decide (l = l'))) ∧ Below w.heap.size w w' := by
  have HL := Lib.hid (h.len icell_len (by decide))
  have HL' := Lib.hid (h'.len icell_len (by decide))
  have H := Lib.hid h
  have H' := Lib.hid h'
  clear h h'
  go_enter Try.func32, Try.ntmps32
  by_cases hne : n = n'
  · subst hne
    go_wp2_with fail
    go_loopw [5] (fun vk wr => ∃ k : Nat, k ≤ n ∧ vk = .int .i64 k ∧ Hid (l.take k = l'.take k ∧ Below w.heap.size w wr)) (fun vk _ => n - (intOf vk).toNat)
    case atStart => exact ⟨0, Nat.zero_le _, rfl, Lib.hid ⟨rfl, Below.refl _ _⟩⟩
    case round =>
      obtain ⟨k, hk, rfl, HW⟩ := hrel
      by_cases hlt : k < n
      · obtain ⟨b1, o1, x, rfl, _, hx, c0⟩ := (H.out.keep (w' := wr) (fun p hp => HW.out.2.cell (by omega))).int hlt
        obtain ⟨b2, o2, y, rfl, _, hy, d0⟩ := (H'.out.keep (w' := wr) (fun p hp => HW.out.2.cell (by omega))).int hlt
        by_cases hxy : x = y
        · subst hxy
          have HT := Lib.hid (take_next HW.out.1 hx hy)
          have HBW := Lib.hid HW.out.2.drew
          go_wp2_with (first | ((with_reducible show wpPlan _ _ _ [] _ _ _); refine wpPlan_nil ?_) | ((with_reducible show wpPlan _ _ _ ((_, 0, _) :: _) _ _ _); first | (refine wpPlan_read0 rfl ?hw rfl (fun _ _ _ => ?_); case hw => ((conv => (lhs; whnf)); first | done | with_reducible rfl)) | (refine wpPlan_skip0 rfl ?hw ?_; (case hw => ((conv => (lhs; whnf)); first | done | with_reducible rfl)); (try simp only [List.getElem_toArray, List.getElem_cons_succ, List.getElem_cons_zero, Act.put, List.setIfInBounds_toArray, List.set_cons_zero, List.set_cons_succ]))) | ((with_reducible show wpPlan _ _ _ ((_, 1, _) :: _) _ _ _); first | (refine wpPlan_read1d rfl ?hw rfl rfl (fun _ _ _ => ?_); case hw => ((conv => (lhs; whnf)); first | done | with_reducible rfl)) | (refine wpPlan_skip1d rfl ?hw ?_; (case hw => ((conv => (lhs; whnf)); first | done | with_reducible rfl)); (try simp only [List.getElem_toArray, List.getElem_cons_succ, List.getElem_cons_zero, Act.put, List.setIfInBounds_toArray, List.set_cons_zero, List.set_cons_succ])) | (refine wpPlan_read1 rfl ?hw rfl (fun _ _ _ => ?_); case hw => ((conv => (lhs; whnf)); first | done | with_reducible rfl))) | ((with_reducible show wpPlan _ _ _ ((_, 2, _) :: _) _ _ _); first | (refine wpPlan_eff rfl ?hw (fun _ _ => ?_); case hw => ((conv => (lhs; whnf)); first | done | with_reducible rfl)) | (refine wpPlan_skip2 rfl ?hw ?_; (case hw => ((conv => (lhs; whnf)); first | done | with_reducible rfl)); (try simp only [List.getElem_toArray, List.getElem_cons_succ, List.getElem_cons_zero, Act.put, List.setIfInBounds_toArray, List.set_cons_zero, List.set_cons_succ]))) | ((with_reducible show wpPlan _ _ _ _ _ _ _); refine wpPlan_fork ?_ ?_) | ((with_reducible show Owed _ _ _ [] _ _ _ _ _); refine Owed.none_ ?_) | ((with_reducible show Owed _ _ _ _ [] _ _ _ _); refine Owed.nil_ ?_) | ((with_reducible show Owed _ _ _ _ _ _ _ _ _); first | (refine Owed.miss rfl ?_) | (refine Owed.hit ?_ ?_)) | ((with_reducible show Same _ _ _ _ _); intro _; go_simp; done) | (with_reducible exact True.intro) | ((with_reducible show Code.wp _ (Code.region 6 _ true) _ _ _); refine wp_region_plan [(0, 0, []), (1, 0, []), (2, 1, []), (3, 1, []), (4, 0, []), (5, 0, []), (6, 1, []), (7, 1, []), (8, 1, [])] (by kernel_rfl) (by kernel_rfl) (by kernel_rfl) ?_))
          go_roundw
          case rel => exact ⟨k + 1, by omega, by go_num, Lib.hid ⟨HT.out, HBW.out⟩⟩
          case measure => simp [intOf]; omega
        · have HNE := Lib.hid (show decide (l = l') = false from decide_eq_false fun e => by
            rw [e, hy] at hx
            exact hxy (Option.some.inj hx).symm)
          have HBW := Lib.hid HW.out.2.drew
          clear hx hy
          go_wp2_with (first | ((with_reducible show wpPlan _ _ _ [] _ _ _); refine wpPlan_nil ?_) | ((with_reducible show wpPlan _ _ _ ((_, 0, _) :: _) _ _ _); first | (refine wpPlan_read0 rfl ?hw rfl (fun _ _ _ => ?_); case hw => ((conv => (lhs; whnf)); first | done | with_reducible rfl)) | (refine wpPlan_skip0 rfl ?hw ?_; (case hw => ((conv => (lhs; whnf)); first | done | with_reducible rfl)); (try simp only [List.getElem_toArray, List.getElem_cons_succ, List.getElem_cons_zero, Act.put, List.setIfInBounds_toArray, List.set_cons_zero, List.set_cons_succ]))) | ((with_reducible show wpPlan _ _ _ ((_, 1, _) :: _) _ _ _); first | (refine wpPlan_read1d rfl ?hw rfl rfl (fun _ _ _ => ?_); case hw => ((conv => (lhs; whnf)); first | done | with_reducible rfl)) | (refine wpPlan_skip1d rfl ?hw ?_; (case hw => ((conv => (lhs; whnf)); first | done | with_reducible rfl)); (try simp only [List.getElem_toArray, List.getElem_cons_succ, List.getElem_cons_zero, Act.put, List.setIfInBounds_toArray, List.set_cons_zero, List.set_cons_succ])) | (refine wpPlan_read1 rfl ?hw rfl (fun _ _ _ => ?_); case hw => ((conv => (lhs; whnf)); first | done | with_reducible rfl))) | ((with_reducible show wpPlan _ _ _ ((_, 2, _) :: _) _ _ _); first | (refine wpPlan_eff rfl ?hw (fun _ _ => ?_); case hw => ((conv => (lhs; whnf)); first | done | with_reducible rfl)) | (refine wpPlan_skip2 rfl ?hw ?_; (case hw => ((conv => (lhs; whnf)); first | done | with_reducible rfl)); (try simp only [List.getElem_toArray, List.getElem_cons_succ, List.getElem_cons_zero, Act.put, List.setIfInBounds_toArray, List.set_cons_zero, List.set_cons_succ]))) | ((with_reducible show wpPlan _ _ _ _ _ _ _); refine wpPlan_fork ?_ ?_) | ((with_reducible show Owed _ _ _ [] _ _ _ _ _); refine Owed.none_ ?_) | ((with_reducible show Owed _ _ _ _ [] _ _ _ _); refine Owed.nil_ ?_) | ((with_reducible show Owed _ _ _ _ _ _ _ _ _); first | (refine Owed.miss rfl ?_) | (refine Owed.hit ?_ ?_)) | ((with_reducible show Same _ _ _ _ _); intro _; go_simp; done) | (with_reducible exact True.intro) | ((with_reducible show Code.wp _ (Code.region 6 _ true) _ _ _); refine wp_region_plan [(0, 0, []), (1, 0, []), (2, 1, []), (3, 1, []), (4, 0, []), (5, 0, []), (6, 1, []), (7, 1, []), (8, 1, [])] (by kernel_rfl) (by kernel_rfl) (by kernel_rfl) ?_))
          go_ret
          exact ⟨ret_bool HNE.out.symm, HBW.out⟩
      · have hkn : k = n := by omega
        subst hkn
        have HD := Lib.hid (show decide (l = l') = true from decide_eq_true (take_eq_all HL.out HL'.out HW.out.1))
        go_wp2_with fail
        go_ret
        exact ⟨ret_bool HD.out.symm, HW.out.2⟩
  · rw [show decide (l = l') = false from decide_eq_false fun e => hne (by rw [← HL.out, ← HL'.out, e])]
    go_wp2_with fail
    go_ret
    exact ⟨rfl, Below.refl _ _⟩

set_option maxRecDepth 100000 in
theorem aclone_any (A : Option Addr) (n c B : Nat) (l : List Arc) (w : World) (h : Rd w B 2 A n (cellsOf Arc.cells l)) (hB : B ≤ w.heap.size) (hn : n ≤ 1000000000) :
    Calls Try.prog 58 #[.slice A n c] w fun e w' => (∃ v, e = .returned v ∧ w'.ownsRow 0 55 2 v n (cellsOf Arc.cells l) ∧ ∀ g, v.ownBlock = some g → w.heap.size ≤ g) ∧ Below w.heap.size w w' := by
  have H := Lib.hid h
  have hown : (w.alloc (Obj.cells #[] 55)).ownsRow 0 55 2 (.slice (some ⟨w.heap.size, 0, none⟩) 0 0) 0 [] :=
    ⟨rfl, .inr ⟨w.heap.size, 0, #[], rfl, Nat.zero_le _, heap_alloc_new w _, Nat.le_refl _, by simp [maxLen], rfl, rfl⟩⟩
  have HOW := Lib.hid hown
  clear h hown
  cases A with
  | none =>
    have hn0 : n = 0 := by
      rcases Nat.eq_zero_or_pos n with e | e
      · exact e
      · obtain ⟨_, _, e, _⟩ := H.out.2 e
        cases e
    subst hn0
    have HC := Lib.hid (show cellsOf Arc.cells l = [] from List.eq_nil_of_length_eq_zero (by simpa using H.out.1))
    go_enter Try.func58, Try.ntmps58
    have ke : (binOp .eql 49 (.slice none 0 c) (.slice none 0 0)).run Try.prog w = .ok (.bool true) w := Lib.run_eql_slice_nil w 49 55 none 0 c 0 0 Try.underlying49
    go_wp2_with fail
    go_ret
    exact ⟨⟨_, rfl, by rw [HC.out]; exact World.ownsRow_nil _ _ _ _, fun g hg => absurd hg (by simp [Value.ownBlock])⟩, Below.refl _ _⟩
  | some ad =>
    have ke : (binOp .eql 49 (.slice (some ad) n c) (.slice none 0 0)).run Try.prog w = .ok (.bool false) w := Lib.run_eql_slice_nil w 49 55 (some ad) n c 0 0 Try.underlying49
    go_enter Try.func58, Try.ntmps58
    go_wp2_with (first
      | (at_builtin; refine appList_opt rfl slArc rfl HOW.out rfl (H.out.alloc hB (Obj.cells #[] 55)) (c := c) rfl (arc_ones l) (by unfold maxLen; omega) (by omega) ?_; intro v7 w7 hown7 hgrow7 hat7; rw [Nat.zero_add, List.nil_append] at hown7; refine Stop7.intro ?_))
    unfold Stop7
    have hO7 : Outside (fun k => k = w.heap.size) w w7 := ((Outside.refl (fun k => k = w.heap.size) w).alloc (.cells #[] 55)).grown hgrow7 (fun z hz => by
      have h1 : w.heap.size = z := by simpa [Value.ownBlock] using hz
      exact .inl h1.symm)
    have HF := Lib.hid (show w7.ownsRow 0 55 2 v7 n (cellsOf Arc.cells l) ∧ Below w.heap.size w w7 ∧ ∀ g, v7.ownBlock = some g → w.heap.size ≤ g from
      ⟨hown7, hO7.below (Nat.le_refl _) (fun k hk e => by omega), fun g hg => by
        rcases hat7 with h1 | h1
        · rw [h1] at hg
          have h2 : w.heap.size = g := by simpa [Value.ownBlock] using hg
          omega
        · rw [h1] at hg
          simp at hg
          omega⟩)
    clear hO7 hown7 hgrow7 hat7
    go_wp2_with fail
    go_ret
    exact ⟨⟨_, rfl, HF.out.1, HF.out.2.2⟩, HF.out.2.1⟩

end Go.Proofs.Ytonpdclccgpceaa
