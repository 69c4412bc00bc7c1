/- lists of numbers that are equal; rows of arcs that are copied; neighbours that are equal are dropped: slices.Compact at arcs; rows that are sorted: slices.SortFunc by compare, by the shelf's contract -/
import Derived.Test.YtmciinikfjfegaaRwG3
import Derived.Test.YtmciinikfjfegaaRwV
import Derived.Lib.SliceRun
import Derived.Test.YtmciinikfjfegaaRwN
import Derived.Test.YtmciinikfjfegaaLaws
import Derived.Test.YtmciinikfjfegaaRwQ0
namespace Go.Proofs.Ytmciinikfjfegaa
open Go Go.RowKit
set_option maxHeartbeats 4000000

set_option maxRecDepth 100000 in
theorem ints_any (A A' : Option Addr) (n c n' c' B : Nat) (l l' : List Int) (w : World) (h : Rd w B 1 A n (cellsOf icell l)) (h' : Rd w B 1 A' n' (cellsOf icell l')) (hB : B ≤ w.heap.size) (hn : n ≤ 1000000000000) :
    Calls Try.prog 10 #[.slice A n c, .slice A' n' c'] w fun e w' => e = .returned (.bool (decide (l = l'))) ∧ Below w.heap.size w w' := by
  have HL := Lib.hid (h.len icell_len (by decide))
  have HL' := Lib.hid (h'.len icell_len (by decide))
  have H := Lib.hid h
  have H' := Lib.hid h'
  clear h h'
  go_enter Try.func10, Try.ntmps10
  by_cases hne : n = n'
  · subst hne
    go_wp2_with fail
    go_loopw [5] (fun vk wr => ∃ k : Nat, k ≤ n ∧ vk = .int .i64 k ∧ Hid (l.take k = l'.take k ∧ Below w.heap.size w wr)) (fun vk _ => n - (intOf vk).toNat)
    case atStart => exact ⟨0, Nat.zero_le _, rfl, Lib.hid ⟨rfl, Below.refl _ _⟩⟩
    case round =>
      obtain ⟨k, hk, rfl, HW⟩ := hrel
      by_cases hlt : k < n
      · obtain ⟨b1, o1, x, rfl, _, hx, c0⟩ := (H.out.keep (w' := wr) (fun p hp => HW.out.2.cell (by omega))).int hlt
        obtain ⟨b2, o2, y, rfl, _, hy, d0⟩ := (H'.out.keep (w' := wr) (fun p hp => HW.out.2.cell (by omega))).int hlt
        by_cases hxy : x = y
        · subst hxy
          have HT := Lib.hid (take_next HW.out.1 hx hy)
          have HBW := Lib.hid HW.out.2.drew
          go_wp2_with (first | ((with_reducible show wpPlan _ _ _ _ _ (Act.put _ _ _) _); simp only [List.getElem_toArray, List.getElem_cons_succ, List.getElem_cons_zero, Act.put, List.setIfInBounds_toArray, List.set_cons_zero, List.set_cons_succ]) | ((with_reducible show wpPlan _ _ _ _ _ _ _); first | refine wpPlan_nil ?_ | (refine wpPlan_read0 rfl ?hw rfl (fun _ _ _ => ?_); case hw => ((conv => (lhs; whnf)); first | done | with_reducible rfl)) | (refine wpPlan_read1d rfl ?hw rfl rfl (fun _ _ _ => ?_); case hw => ((conv => (lhs; whnf)); first | done | with_reducible rfl)) | (refine wpPlan_eff rfl ?hw (fun _ _ => ?_); case hw => ((conv => (lhs; whnf)); first | done | with_reducible rfl)) | (refine wpPlan_skip0 rfl ?hw ?_; case hw => ((conv => (lhs; whnf)); first | done | with_reducible rfl)) | (refine wpPlan_skip1d rfl ?hw ?_; case hw => ((conv => (lhs; whnf)); first | done | with_reducible rfl)) | (refine wpPlan_skip2 rfl ?hw ?_; case hw => ((conv => (lhs; whnf)); first | done | with_reducible rfl)) | (refine wpPlan_read1 rfl ?hw rfl (fun _ _ _ => ?_); case hw => ((conv => (lhs; whnf)); first | done | with_reducible rfl)) | refine wpPlan_fork ?_ ?_) | ((with_reducible show Owed _ _ _ _ _ _ _ _ _); first | refine Owed.none_ ?_ | refine Owed.nil_ ?_ | refine Owed.miss rfl ?_ | refine Owed.hit ?_ ?_) | ((with_reducible show Same _ _ _ _ _); intro _; go_simp; done) | (with_reducible exact True.intro) | ((with_reducible show Code.wp _ (Code.region 6 _ true) _ _ _); refine wp_region_plan [(0, 0, []), (1, 0, []), (2, 1, []), (3, 1, []), (4, 0, []), (5, 0, []), (6, 1, []), (7, 1, []), (8, 1, [])] (by kernel_rfl) (by kernel_rfl) (by kernel_rfl) ?_))
          go_roundw
          case rel => exact ⟨k + 1, by omega, by go_num, Lib.hid ⟨HT.out, HBW.out⟩⟩
          case measure => simp [intOf]; omega
        · have HNE := Lib.hid (show decide (l = l') = false from decide_eq_false fun e => by
            rw [e, hy] at hx
            exact hxy (Option.some.inj hx).symm)
          have HBW := Lib.hid HW.out.2.drew
          clear hx hy
          go_wp2_with (first | ((with_reducible show wpPlan _ _ _ _ _ (Act.put _ _ _) _); simp only [List.getElem_toArray, List.getElem_cons_succ, List.getElem_cons_zero, Act.put, List.setIfInBounds_toArray, List.set_cons_zero, List.set_cons_succ]) | ((with_reducible show wpPlan _ _ _ _ _ _ _); first | refine wpPlan_nil ?_ | (refine wpPlan_read0 rfl ?hw rfl (fun _ _ _ => ?_); case hw => ((conv => (lhs; whnf)); first | done | with_reducible rfl)) | (refine wpPlan_read1d rfl ?hw rfl rfl (fun _ _ _ => ?_); case hw => ((conv => (lhs; whnf)); first | done | with_reducible rfl)) | (refine wpPlan_eff rfl ?hw (fun _ _ => ?_); case hw => ((conv => (lhs; whnf)); first | done | with_reducible rfl)) | (refine wpPlan_skip0 rfl ?hw ?_; case hw => ((conv => (lhs; whnf)); first | done | with_reducible rfl)) | (refine wpPlan_skip1d rfl ?hw ?_; case hw => ((conv => (lhs; whnf)); first | done | with_reducible rfl)) | (refine wpPlan_skip2 rfl ?hw ?_; case hw => ((conv => (lhs; whnf)); first | done | with_reducible rfl)) | (refine wpPlan_read1 rfl ?hw rfl (fun _ _ _ => ?_); case hw => ((conv => (lhs; whnf)); first | done | with_reducible rfl)) | refine wpPlan_fork ?_ ?_) | ((with_reducible show Owed _ _ _ _ _ _ _ _ _); first | refine Owed.none_ ?_ | refine Owed.nil_ ?_ | refine Owed.miss rfl ?_ | refine Owed.hit ?_ ?_) | ((with_reducible show Same _ _ _ _ _); intro _; go_simp; done) | (with_reducible exact True.intro) | ((with_reducible show Code.wp _ (Code.region 6 _ true) _ _ _); refine wp_region_plan [(0, 0, []), (1, 0, []), (2, 1, []), (3, 1, []), (4, 0, []), (5, 0, []), (6, 1, []), (7, 1, []), (8, 1, [])] (by kernel_rfl) (by kernel_rfl) (by kernel_rfl) ?_))
          go_ret
          exact ⟨ret_bool HNE.out.symm, HBW.out⟩
      · have hkn : k = n := by omega
        subst hkn
        have HD := Lib.hid (show decide (l = l') = true from decide_eq_true (take_eq_all HL.out HL'.out HW.out.1))
        go_wp2_with fail
        go_ret
        exact ⟨ret_bool HD.out.symm, HW.out.2⟩
  · rw [show decide (l = l') = false from decide_eq_false fun e => hne (by rw [← HL.out, ← HL'.out, e])]
    go_wp2_with fail
    go_ret
    exact ⟨rfl, Below.refl _ _⟩

set_option maxRecDepth 100000 in
theorem aclone_any (A : Option Addr) (n c B : Nat) (l : List Arc) (w : World) (h : Rd w B 2 A n (cellsOf Arc.cells l)) (hB : B ≤ w.heap.size) (hn : n ≤ 1000000000) :
    Calls Try.prog 49 #[.slice A n c] w fun e w' => (∃ v, e = .returned v ∧ w'.ownsRow 0 23 2 v n (cellsOf Arc.cells l) ∧ ∀ g, v.ownBlock = some g → w.heap.size ≤ g) ∧ Below w.heap.size w w' := by
  have H := Lib.hid h
  have hown : (w.alloc (Obj.cells #[] 23)).ownsRow 0 23 2 (.slice (some ⟨w.heap.size, 0, none⟩) 0 0) 0 [] :=
    ⟨rfl, .inr ⟨w.heap.size, 0, #[], rfl, Nat.zero_le _, heap_alloc_new w _, Nat.le_refl _, by simp [maxLen], rfl, rfl⟩⟩
  have HOW := Lib.hid hown
  clear h hown
  cases A with
  | none =>
    have hn0 : n = 0 := by
      rcases Nat.eq_zero_or_pos n with e | e
      · exact e
      · obtain ⟨_, _, e, _⟩ := H.out.2 e
        cases e
    subst hn0
    have HC := Lib.hid (show cellsOf Arc.cells l = [] from List.eq_nil_of_length_eq_zero (by simpa using H.out.1))
    go_enter Try.func49, Try.ntmps49
    have ke : (binOp .eql 24 (.slice none 0 c) (.slice none 0 0)).run Try.prog w = .ok (.bool true) w := Lib.run_eql_slice_nil w 24 23 none 0 c 0 0 Try.underlying24
    go_wp2_with fail
    go_ret
    exact ⟨⟨_, rfl, by rw [HC.out]; exact World.ownsRow_nil _ _ _ _, fun g hg => absurd hg (by simp [Value.ownBlock])⟩, Below.refl _ _⟩
  | some ad =>
    have ke : (binOp .eql 24 (.slice (some ad) n c) (.slice none 0 0)).run Try.prog w = .ok (.bool false) w := Lib.run_eql_slice_nil w 24 23 (some ad) n c 0 0 Try.underlying24
    go_enter Try.func49, Try.ntmps49
    go_wp2_with (first
      | (at_builtin; refine appList_opt rfl slArc rfl HOW.out rfl (H.out.alloc hB (Obj.cells #[] 23)) (c := c) rfl (arc_ones l) (by unfold maxLen; omega) (by omega) ?_; intro v7 w7 hown7 hgrow7 hat7; rw [Nat.zero_add, List.nil_append] at hown7; refine Stop7.intro ?_))
    unfold Stop7
    have hO7 : Outside (fun k => k = w.heap.size) w w7 := ((Outside.refl (fun k => k = w.heap.size) w).alloc (.cells #[] 23)).grown hgrow7 (fun z hz => by
      have h1 : w.heap.size = z := by simpa [Value.ownBlock] using hz
      exact .inl h1.symm)
    have HF := Lib.hid (show w7.ownsRow 0 23 2 v7 n (cellsOf Arc.cells l) ∧ Below w.heap.size w w7 ∧ ∀ g, v7.ownBlock = some g → w.heap.size ≤ g from
      ⟨hown7, hO7.below (Nat.le_refl _) (fun k hk e => by omega), fun g hg => by
        rcases hat7 with h1 | h1
        · rw [h1] at hg
          have h2 : w.heap.size = g := by simpa [Value.ownBlock] using hg
          omega
        · rw [h1] at hg
          simp at hg
          omega⟩)
    clear hO7 hown7 hgrow7 hat7
    go_wp2_with fail
    go_ret
    exact ⟨⟨_, rfl, HF.out.1, HF.out.2.2⟩, HF.out.2.1⟩

end Go.Proofs.Ytmciinikfjfegaa
namespace Go.Proofs.Ytmciinikfjfegaa
open Go Go.RowKit
set_option maxHeartbeats 8000000

theorem onesArc : ∀ i z, (Try.prog).info? 23 = some i → i.zero = some z → ∀ v ∈ z.cells.toList, v.oneCell' = true := ones_of infoArc (fun v hv => by
  simp [Value.cells] at hv
  rw [hv]
  rfl)
theorem cpt_take_snoc : ∀ (l : List Arc) (x y : Arc), cpt (l ++ [y] ++ [x]) = if y = x then cpt (l ++ [y]) else cpt (l ++ [y]) ++ [x]
  | [], x, y => by
    by_cases h : y = x
    · subst h; simp [cpt]
    · simp [cpt, h]
  | [a], x, y => by
    by_cases h : y = x
    · subst h; by_cases h2 : a = y <;> simp [cpt, h2]
    · by_cases h2 : a = y <;> simp [cpt, h, h2]
  | a :: b :: r, x, y => by
    have ih := cpt_take_snoc (b :: r) x y
    simp only [List.cons_append] at ih ⊢
    rw [cpt, cpt]
    by_cases h2 : a = b
    · rw [if_pos h2, if_pos h2]; exact ih
    · rw [if_neg h2, if_neg h2, ih]
      split <;> rfl
theorem cpt_next {l : List Arc} {k : Nat} {x y : Arc} (h0 : 0 < k) (hx : l[k]? = some x) (hy : l[k - 1]? = some y) : cpt (l.take (k + 1)) = if y = x then cpt (l.take k) else cpt (l.take k) ++ [x] := by
  have e1 : l.take k = l.take (k - 1) ++ [y] := by
    have := List.take_add_one (l := l) (i := k - 1)
    rw [Nat.sub_add_cancel h0, hy] at this
    exact this
  rw [List.take_add_one, hx, e1]
  exact cpt_take_snoc _ _ _
theorem cpt_len (l : List Arc) : (cpt l).length ≤ l.length := by
  induction l using cpt.induct with
  | case1 => simp [cpt]
  | case2 a => simp [cpt]
  | case3 a r ih => rw [cpt, if_pos rfl]; simp at ih ⊢; omega
  | case4 a b r h ih => rw [cpt, if_neg h]; simp at ih ⊢; omega

theorem own_at2 {w : World} {g c n : Nat} {M : List Arc} (h : w.ownsRow 0 23 2 (.slice (some ⟨g, 0, none⟩) n c) n (cellsOf Arc.cells M)) {i : Nat} {a : Arc} (ha : M[i]? = some a) :
    w.cell? ⟨g, i * 2, none⟩ = some (.int .i64 a.ev) ∧ w.cell? ⟨g, i * 2 + 1, none⟩ = some (.int .i64 a.to) := by
  have hl : M.length = n := by
    have := h.1
    rw [cellsOf_length Arc.cells_len] at this
    omega
  have hi := (List.getElem?_eq_some_iff.1 ha).1
  have h0 := h.cellAt (i * 2) (by omega)
  have h1 := h.cellAt (i * 2 + 1) (by omega)
  rw [show i * 2 = i * 2 + 0 from rfl, cellsOf_get Arc.cells_len _ i 0 (by decide), ha] at h0
  rw [cellsOf_get Arc.cells_len _ i 1 (by decide), ha] at h1
  exact ⟨h0, h1⟩
theorem set2_arc (M : List Arc) (i : Nat) (x : Arc) : ((cellsOf Arc.cells M).set (i * 2) (.int .i64 x.ev)).set (i * 2 + 1) (.int .i64 x.to) = cellsOf Arc.cells (M.set i x) := by
  induction M generalizing i with
  | nil => simp [cellsOf]
  | cons y M ih =>
    cases i with
    | zero => rfl
    | succ i =>
      have := ih i
      have e : ∀ (a b : Arc) (L : List Arc), cellsOf Arc.cells (a :: L) = .int .i64 a.ev :: .int .i64 a.to :: cellsOf Arc.cells L := fun a b L => rfl
      rw [List.set_cons_succ, e y y, e y y, show (i + 1) * 2 = i * 2 + 1 + 1 by omega, show i * 2 + 1 + 1 + 1 = i * 2 + 1 + 1 + 1 from rfl, List.set_cons_succ, List.set_cons_succ, List.set_cons_succ, List.set_cons_succ, this]
/-- an arc behind the kept ones -/
theorem tail_get {l K : List Arc} {m i : Nat} (hm : m = K.length) (hi : m ≤ i) : (K ++ l.drop m)[i]? = l[i]? := by
  rw [List.getElem?_append_right (by omega), List.getElem?_drop]
  congr 1
  omega
theorem keep_set {l K : List Arc} {m : Nat} {x : Arc} (hm : m = K.length) (h : m < l.length) : (K ++ l.drop m).set m x = (K ++ [x]) ++ l.drop (m + 1) := by
  rw [List.set_append_right _ _ (by omega), hm, Nat.sub_self, List.drop_eq_getElem_cons (by omega), List.set_cons_zero, List.append_assoc]
  rfl

set_option maxRecDepth 100000 in
theorem compact_any (v : Value) (n : Nat) (l : List Arc) (w : World) (h : w.ownsRow 0 23 2 v n (cellsOf Arc.cells l)) (hn : n ≤ 1000000000) :
    Calls Try.prog 81 #[v] w fun e w' => (∃ v', e = .returned v' ∧ w'.ownsRow 0 23 2 v' (cpt l).length (cellsOf Arc.cells (cpt l)) ∧ v'.ownBlock = v.ownBlock) ∧ Outside (fun k => v.ownBlock = some k) w w' := by
  have hl := (show l.length = n from by
    have := h.1
    rw [cellsOf_length Arc.cells_len] at this
    omega)
  have HO := Lib.hid h
  have HL := Lib.hid hl
  obtain ⟨A, c, rfl, hc, _⟩ := own_form h
  by_cases h2 : (n : Int) < 2
  · have HC := Lib.hid (show cpt l = l from by
      match l, hl with
      | [], _ => rfl
      | [a], _ => rfl
      | a :: b :: r, hl => simp at hl; omega)
    clear h hl
    go_enter Try.func81, Try.ntmps81
    go_wp2_with (first | ((with_reducible show wpPlan _ _ _ _ _ (Act.put _ _ _) _); simp only [List.getElem_toArray, List.getElem_cons_succ, List.getElem_cons_zero, Act.put, List.setIfInBounds_toArray, List.set_cons_zero, List.set_cons_succ]) | ((with_reducible show wpPlan _ _ _ _ _ _ _); first | refine wpPlan_nil ?_ | (refine wpPlan_read0 rfl ?hw rfl (fun _ _ _ => ?_); case hw => ((conv => (lhs; whnf)); first | done | with_reducible rfl)) | (refine wpPlan_read1d rfl ?hw rfl rfl (fun _ _ _ => ?_); case hw => ((conv => (lhs; whnf)); first | done | with_reducible rfl)) | (refine wpPlan_eff rfl ?hw (fun _ _ => ?_); case hw => ((conv => (lhs; whnf)); first | done | with_reducible rfl)) | (refine wpPlan_skip0 rfl ?hw ?_; case hw => ((conv => (lhs; whnf)); first | done | with_reducible rfl)) | (refine wpPlan_skip1d rfl ?hw ?_; case hw => ((conv => (lhs; whnf)); first | done | with_reducible rfl)) | (refine wpPlan_skip2 rfl ?hw ?_; case hw => ((conv => (lhs; whnf)); first | done | with_reducible rfl)) | (refine wpPlan_read1 rfl ?hw rfl (fun _ _ _ => ?_); case hw => ((conv => (lhs; whnf)); first | done | with_reducible rfl)) | refine wpPlan_fork ?_ ?_) | ((with_reducible show Owed _ _ _ _ _ _ _ _ _); first | refine Owed.none_ ?_ | refine Owed.nil_ ?_ | refine Owed.miss rfl ?_ | refine Owed.hit ?_ ?_) | ((with_reducible show Same _ _ _ _ _); intro _; go_simp; done) | (with_reducible exact True.intro) | ((with_reducible show Code.wp _ (Code.region 6 _ true) _ _ _); refine wp_region_plan [(0, 0, []), (1, 0, []), (2, 1, []), (3, 1, []), (4, 0, []), (5, 0, []), (6, 1, []), (7, 1, []), (8, 1, []), (9, 1, [])] (by kernel_rfl) (by kernel_rfl) (by kernel_rfl) ?_) | ((with_reducible show Code.wp _ (Code.region 11 _ true) _ _ _); refine wp_region_plan [(0, 0, []), (1, 0, []), (2, 1, []), (3, 1, []), (4, 0, []), (5, 0, []), (6, 1, []), (7, 1, []), (8, 1, []), (9, 1, [])] (by kernel_rfl) (by kernel_rfl) (by kernel_rfl) ?_))
    go_ret
    exact ⟨⟨_, rfl, by rw [HC.out, HL.out]; exact HO.out, rfl⟩, Outside.refl _ _⟩
  · obtain ⟨g, c', e7, _, hgw⟩ := h.form (by omega)
    simp only [Value.slice.injEq, true_and] at e7
    obtain ⟨rfl, rfl⟩ := e7
    clear h hl
    go_enter Try.func81, Try.ntmps81
    go_wp2_with (first | ((with_reducible show wpPlan _ _ _ _ _ (Act.put _ _ _) _); simp only [List.getElem_toArray, List.getElem_cons_succ, List.getElem_cons_zero, Act.put, List.setIfInBounds_toArray, List.set_cons_zero, List.set_cons_succ]) | ((with_reducible show wpPlan _ _ _ _ _ _ _); first | refine wpPlan_nil ?_ | (refine wpPlan_read0 rfl ?hw rfl (fun _ _ _ => ?_); case hw => ((conv => (lhs; whnf)); first | done | with_reducible rfl)) | (refine wpPlan_read1d rfl ?hw rfl rfl (fun _ _ _ => ?_); case hw => ((conv => (lhs; whnf)); first | done | with_reducible rfl)) | (refine wpPlan_eff rfl ?hw (fun _ _ => ?_); case hw => ((conv => (lhs; whnf)); first | done | with_reducible rfl)) | (refine wpPlan_skip0 rfl ?hw ?_; case hw => ((conv => (lhs; whnf)); first | done | with_reducible rfl)) | (refine wpPlan_skip1d rfl ?hw ?_; case hw => ((conv => (lhs; whnf)); first | done | with_reducible rfl)) | (refine wpPlan_skip2 rfl ?hw ?_; case hw => ((conv => (lhs; whnf)); first | done | with_reducible rfl)) | (refine wpPlan_read1 rfl ?hw rfl (fun _ _ _ => ?_); case hw => ((conv => (lhs; whnf)); first | done | with_reducible rfl)) | refine wpPlan_fork ?_ ?_) | ((with_reducible show Owed _ _ _ _ _ _ _ _ _); first | refine Owed.none_ ?_ | refine Owed.nil_ ?_ | refine Owed.miss rfl ?_ | refine Owed.hit ?_ ?_) | ((with_reducible show Same _ _ _ _ _); intro _; go_simp; done) | (with_reducible exact True.intro) | ((with_reducible show Code.wp _ (Code.region 6 _ true) _ _ _); refine wp_region_plan [(0, 0, []), (1, 0, []), (2, 1, []), (3, 1, []), (4, 0, []), (5, 0, []), (6, 1, []), (7, 1, []), (8, 1, []), (9, 1, [])] (by kernel_rfl) (by kernel_rfl) (by kernel_rfl) ?_) | ((with_reducible show Code.wp _ (Code.region 11 _ true) _ _ _); refine wp_region_plan [(0, 0, []), (1, 0, []), (2, 1, []), (3, 1, []), (4, 0, []), (5, 0, []), (6, 1, []), (7, 1, []), (8, 1, []), (9, 1, [])] (by kernel_rfl) (by kernel_rfl) (by kernel_rfl) ?_))
    go_loopw [3] (fun vk wr => ∃ k : Nat, 1 ≤ k ∧ k ≤ n ∧ vk = .int .i64 k ∧ Hid (cpt (l.take k) = l.take k ∧ wr.ownsRow 0 23 2 (.slice (some ⟨g, 0, none⟩) n c) n (cellsOf Arc.cells l) ∧ Outside (fun x => x = g) w wr)) (fun vk _ => n - (intOf vk).toNat)
    case atStart => exact ⟨1, Nat.le_refl _, by omega, rfl, Lib.hid ⟨by cases l <;> simp [cpt], HO.out, Outside.refl _ _⟩⟩
    case round =>
      obtain ⟨k0, hk1, hk, rfl, HW⟩ := hrel
      obtain ⟨k, rfl⟩ : ∃ k, k0 = k + 1 := ⟨k0 - 1, by omega⟩
      by_cases hlt : k + 1 < n
      · obtain ⟨x, hx⟩ : ∃ x, l[k + 1]? = some x := ⟨_, List.getElem?_eq_getElem (by rw [HL.out]; exact hlt)⟩
        obtain ⟨y, hy⟩ : ∃ y, l[k]? = some y := ⟨_, List.getElem?_eq_getElem (by rw [HL.out]; omega)⟩
        obtain ⟨c0, c1⟩ := own_at2 HW.out.2.1 hx
        obtain ⟨d0, d1⟩ := own_at2 HW.out.2.1 hy
        have HN := Lib.hid (cpt_next (k := k + 1) (by omega) hx hy)
        have HTK := Lib.hid (show l.take (k + 1 + 1) = l.take (k + 1) ++ [x] by rw [List.take_add_one, hx]; rfl)
        have hgl : g < wr.heap.size := by have := HW.out.2.2.size; omega
        have hne : ¬ c = k + 1 := by omega
        clear hx hy
        by_cases hxy : y = x
        · subst hxy
          have HK := Lib.hid (show cpt (l.take (k + 1 + 1)) = l.take (k + 1) by rw [HN.out, if_pos rfl]; exact HW.out.1)
          have HB0 := Lib.hid (show k + 1 = (cpt (l.take (k + 1 + 1))).length ∧ wr.drew.ownsRow 0 23 2 (.slice (some ⟨g, 0, none⟩) n c) n (cellsOf Arc.cells (cpt (l.take (k + 1 + 1)) ++ l.drop (k + 1))) ∧ Outside (fun x => x = g) w wr.drew from
            ⟨by rw [HK.out, List.length_take, HL.out]; omega, by rw [HK.out, List.take_append_drop]; exact HW.out.2.1.drew, HW.out.2.2.drew⟩)
          go_wp2_with (first | ((with_reducible show wpPlan _ _ _ _ _ (Act.put _ _ _) _); simp only [List.getElem_toArray, List.getElem_cons_succ, List.getElem_cons_zero, Act.put, List.setIfInBounds_toArray, List.set_cons_zero, List.set_cons_succ]) | ((with_reducible show wpPlan _ _ _ _ _ _ _); first | refine wpPlan_nil ?_ | (refine wpPlan_read0 rfl ?hw rfl (fun _ _ _ => ?_); case hw => ((conv => (lhs; whnf)); first | done | with_reducible rfl)) | (refine wpPlan_read1d rfl ?hw rfl rfl (fun _ _ _ => ?_); case hw => ((conv => (lhs; whnf)); first | done | with_reducible rfl)) | (refine wpPlan_eff rfl ?hw (fun _ _ => ?_); case hw => ((conv => (lhs; whnf)); first | done | with_reducible rfl)) | (refine wpPlan_skip0 rfl ?hw ?_; case hw => ((conv => (lhs; whnf)); first | done | with_reducible rfl)) | (refine wpPlan_skip1d rfl ?hw ?_; case hw => ((conv => (lhs; whnf)); first | done | with_reducible rfl)) | (refine wpPlan_skip2 rfl ?hw ?_; case hw => ((conv => (lhs; whnf)); first | done | with_reducible rfl)) | (refine wpPlan_read1 rfl ?hw rfl (fun _ _ _ => ?_); case hw => ((conv => (lhs; whnf)); first | done | with_reducible rfl)) | refine wpPlan_fork ?_ ?_) | ((with_reducible show Owed _ _ _ _ _ _ _ _ _); first | refine Owed.none_ ?_ | refine Owed.nil_ ?_ | refine Owed.miss rfl ?_ | refine Owed.hit ?_ ?_) | ((with_reducible show Same _ _ _ _ _); intro _; go_simp; done) | (with_reducible exact True.intro) | ((with_reducible show Code.wp _ (Code.region 6 _ true) _ _ _); refine wp_region_plan [(0, 0, []), (1, 0, []), (2, 1, []), (3, 1, []), (4, 0, []), (5, 0, []), (6, 1, []), (7, 1, []), (8, 1, []), (9, 1, [])] (by kernel_rfl) (by kernel_rfl) (by kernel_rfl) ?_) | ((with_reducible show Code.wp _ (Code.region 11 _ true) _ _ _); refine wp_region_plan [(0, 0, []), (1, 0, []), (2, 1, []), (3, 1, []), (4, 0, []), (5, 0, []), (6, 1, []), (7, 1, []), (8, 1, []), (9, 1, [])] (by kernel_rfl) (by kernel_rfl) (by kernel_rfl) ?_))
          clear c0 c1 d0 d1 HW HK HN HTK
          go_loopw [3, 5] (fun vm vj w2 => ∃ (m j : Nat), k + 1 ≤ m ∧ m ≤ k + j ∧ vm = .int .i64 m ∧ vj = .int .i64 j ∧ 1 ≤ j ∧ k + 1 + j ≤ n ∧ Hid (m = (cpt (l.take (k + 1 + j))).length ∧ w2.ownsRow 0 23 2 (.slice (some ⟨g, 0, none⟩) n c) n (cellsOf Arc.cells (cpt (l.take (k + 1 + j)) ++ l.drop m)) ∧ Outside (fun x => x = g) w w2)) (fun _ vj _ => n - (intOf vj).toNat)
          case atStart => exact ⟨k + 1, 1, Nat.le_refl _, Nat.le_refl _, by go_num, rfl, Nat.le_refl _, by omega, HB0⟩
          case round =>
            rename World => w2
            clear HB0
            obtain ⟨m, j0, hm1, hm2, rfl, rfl, hj1, hjn, HW⟩ := hrel
            obtain ⟨j, rfl⟩ : ∃ j, j0 = j + 1 := ⟨j0 - 1, by omega⟩
            have hgl2 : g < w2.heap.size := by have := HW.out.2.2.size; omega
            have hnm : ¬ c = m := by omega
            by_cases hlt2 : j + 1 < n - (k + 1)
            · obtain ⟨X, hX⟩ : ∃ X, l[k + 1 + (j + 1)]? = some X := ⟨_, List.getElem?_eq_getElem (by rw [HL.out]; omega)⟩
              obtain ⟨Y, hY⟩ : ∃ Y, l[k + 1 + j]? = some Y := ⟨_, List.getElem?_eq_getElem (by rw [HL.out]; omega)⟩
              have c0 : w2.cell? ⟨g, (k + 1) * 2 + (j + 1) * 2, none⟩ = some (.int .i64 X.ev) := by
                rw [← Nat.add_mul]
                exact (own_at2 HW.out.2.1 (by rw [tail_get HW.out.1 (by omega)]; exact hX)).1
              have c1 : w2.cell? ⟨g, (k + 1) * 2 + (j + 1) * 2 + 1, none⟩ = some (.int .i64 X.to) := by
                rw [← Nat.add_mul]
                exact (own_at2 HW.out.2.1 (by rw [tail_get HW.out.1 (by omega)]; exact hX)).2
              have d0 : w2.cell? ⟨g, (k + 1) * 2 + j * 2, none⟩ = some (.int .i64 Y.ev) := by
                rw [← Nat.add_mul]
                exact (own_at2 HW.out.2.1 (by rw [tail_get HW.out.1 (by omega)]; exact hY)).1
              have d1 : w2.cell? ⟨g, (k + 1) * 2 + j * 2 + 1, none⟩ = some (.int .i64 Y.to) := by
                rw [← Nat.add_mul]
                exact (own_at2 HW.out.2.1 (by rw [tail_get HW.out.1 (by omega)]; exact hY)).2
              have HN := Lib.hid (cpt_next (k := k + 1 + (j + 1)) (by omega) hX hY)
              by_cases hXY : Y = X
              · subst hXY
                have HZ := Lib.hid (show m = (cpt (l.take (k + 1 + (j + 1 + 1)))).length ∧ w2.drew.ownsRow 0 23 2 (.slice (some ⟨g, 0, none⟩) n c) n (cellsOf Arc.cells (cpt (l.take (k + 1 + (j + 1 + 1))) ++ l.drop m)) ∧ Outside (fun x => x = g) w w2.drew from by
                  have e := HN.out
                  rw [if_pos rfl] at e
                  rw [show k + 1 + (j + 1 + 1) = k + 1 + (j + 1) + 1 by omega, e]
                  exact ⟨HW.out.1, HW.out.2.1.drew, HW.out.2.2.drew⟩)
                clear hX hY
                go_wp2_with (first | ((with_reducible show wpPlan _ _ _ _ _ (Act.put _ _ _) _); simp only [List.getElem_toArray, List.getElem_cons_succ, List.getElem_cons_zero, Act.put, List.setIfInBounds_toArray, List.set_cons_zero, List.set_cons_succ]) | ((with_reducible show wpPlan _ _ _ _ _ _ _); first | refine wpPlan_nil ?_ | (refine wpPlan_read0 rfl ?hw rfl (fun _ _ _ => ?_); case hw => ((conv => (lhs; whnf)); first | done | with_reducible rfl)) | (refine wpPlan_read1d rfl ?hw rfl rfl (fun _ _ _ => ?_); case hw => ((conv => (lhs; whnf)); first | done | with_reducible rfl)) | (refine wpPlan_eff rfl ?hw (fun _ _ => ?_); case hw => ((conv => (lhs; whnf)); first | done | with_reducible rfl)) | (refine wpPlan_skip0 rfl ?hw ?_; case hw => ((conv => (lhs; whnf)); first | done | with_reducible rfl)) | (refine wpPlan_skip1d rfl ?hw ?_; case hw => ((conv => (lhs; whnf)); first | done | with_reducible rfl)) | (refine wpPlan_skip2 rfl ?hw ?_; case hw => ((conv => (lhs; whnf)); first | done | with_reducible rfl)) | (refine wpPlan_read1 rfl ?hw rfl (fun _ _ _ => ?_); case hw => ((conv => (lhs; whnf)); first | done | with_reducible rfl)) | refine wpPlan_fork ?_ ?_) | ((with_reducible show Owed _ _ _ _ _ _ _ _ _); first | refine Owed.none_ ?_ | refine Owed.nil_ ?_ | refine Owed.miss rfl ?_ | refine Owed.hit ?_ ?_) | ((with_reducible show Same _ _ _ _ _); intro _; go_simp; done) | (with_reducible exact True.intro) | ((with_reducible show Code.wp _ (Code.region 6 _ true) _ _ _); refine wp_region_plan [(0, 0, []), (1, 0, []), (2, 1, []), (3, 1, []), (4, 0, []), (5, 0, []), (6, 1, []), (7, 1, []), (8, 1, []), (9, 1, [])] (by kernel_rfl) (by kernel_rfl) (by kernel_rfl) ?_) | ((with_reducible show Code.wp _ (Code.region 11 _ true) _ _ _); refine wp_region_plan [(0, 0, []), (1, 0, []), (2, 1, []), (3, 1, []), (4, 0, []), (5, 0, []), (6, 1, []), (7, 1, []), (8, 1, []), (9, 1, [])] (by kernel_rfl) (by kernel_rfl) (by kernel_rfl) ?_))
                go_roundw
                case rel => exact ⟨m, j + 1 + 1, hm1, by omega, rfl, by go_num, by omega, by omega, HZ⟩
                case measure => simp [intOf]; omega
              · obtain ⟨V, hV⟩ : ∃ V, l[m]? = some V := ⟨_, List.getElem?_eq_getElem (by rw [HL.out]; omega)⟩
                obtain ⟨v0, v1⟩ := own_at2 HW.out.2.1 (i := m) (by rw [tail_get HW.out.1 (Nat.le_refl _)]; exact hV)
                have f0 := HW.out.2.1.frozenAt (m * 2)
                have f1 := HW.out.2.1.frozenAt (m * 2 + 1)
                have HZ := Lib.hid (show m + 1 = (cpt (l.take (k + 1 + (j + 1 + 1)))).length ∧ ((w2.drew.setCell ⟨g, m * 2, none⟩ (.int .i64 X.ev)).setCell ⟨g, m * 2 + 1, none⟩ (.int .i64 X.to)).ownsRow 0 23 2 (.slice (some ⟨g, 0, none⟩) n c) n (cellsOf Arc.cells (cpt (l.take (k + 1 + (j + 1 + 1))) ++ l.drop (m + 1))) ∧
                    Outside (fun x => x = g) w ((w2.drew.setCell ⟨g, m * 2, none⟩ (.int .i64 X.ev)).setCell ⟨g, m * 2 + 1, none⟩ (.int .i64 X.to)) from by
                  have e := HN.out
                  rw [if_neg hXY] at e
                  rw [show k + 1 + (j + 1 + 1) = k + 1 + (j + 1) + 1 by omega, e, ← keep_set HW.out.1 (by rw [HL.out]; omega), ← set2_arc]
                  exact ⟨by rw [List.length_append, ← HW.out.1]; rfl, own_set2 HW.out.2.1.drew m _ _, ((HW.out.2.2.drew).setCell (p := ⟨g, m * 2, none⟩) (.inl rfl) _).setCell (p := ⟨g, m * 2 + 1, none⟩) (.inl rfl) _⟩)
                clear hX hY hV
                by_cases he : X.ev = Y.ev
                · have ht : ¬ X.to = Y.to := fun h => hXY (by cases X; cases Y; simp_all)
                  have hee : (X.ev == Y.ev) = true := by simp [he]
                  have htt : (X.to == Y.to) = false := by simp [ht]
                  clear he hXY
                  go_wp2_with (first | ((with_reducible show wpPlan _ _ _ _ _ (Act.put _ _ _) _); simp only [List.getElem_toArray, List.getElem_cons_succ, List.getElem_cons_zero, Act.put, List.setIfInBounds_toArray, List.set_cons_zero, List.set_cons_succ]) | ((with_reducible show wpPlan _ _ _ _ _ _ _); first | refine wpPlan_nil ?_ | (refine wpPlan_read0 rfl ?hw rfl (fun _ _ _ => ?_); case hw => ((conv => (lhs; whnf)); first | done | with_reducible rfl)) | (refine wpPlan_read1d rfl ?hw rfl rfl (fun _ _ _ => ?_); case hw => ((conv => (lhs; whnf)); first | done | with_reducible rfl)) | (refine wpPlan_eff rfl ?hw (fun _ _ => ?_); case hw => ((conv => (lhs; whnf)); first | done | with_reducible rfl)) | (refine wpPlan_skip0 rfl ?hw ?_; case hw => ((conv => (lhs; whnf)); first | done | with_reducible rfl)) | (refine wpPlan_skip1d rfl ?hw ?_; case hw => ((conv => (lhs; whnf)); first | done | with_reducible rfl)) | (refine wpPlan_skip2 rfl ?hw ?_; case hw => ((conv => (lhs; whnf)); first | done | with_reducible rfl)) | (refine wpPlan_read1 rfl ?hw rfl (fun _ _ _ => ?_); case hw => ((conv => (lhs; whnf)); first | done | with_reducible rfl)) | refine wpPlan_fork ?_ ?_) | ((with_reducible show Owed _ _ _ _ _ _ _ _ _); first | refine Owed.none_ ?_ | refine Owed.nil_ ?_ | refine Owed.miss rfl ?_ | refine Owed.hit ?_ ?_) | ((with_reducible show Same _ _ _ _ _); intro _; go_simp; done) | (with_reducible exact True.intro) | ((with_reducible show Code.wp _ (Code.region 6 _ true) _ _ _); refine wp_region_plan [(0, 0, []), (1, 0, []), (2, 1, []), (3, 1, []), (4, 0, []), (5, 0, []), (6, 1, []), (7, 1, []), (8, 1, []), (9, 1, [])] (by kernel_rfl) (by kernel_rfl) (by kernel_rfl) ?_) | ((with_reducible show Code.wp _ (Code.region 11 _ true) _ _ _); refine wp_region_plan [(0, 0, []), (1, 0, []), (2, 1, []), (3, 1, []), (4, 0, []), (5, 0, []), (6, 1, []), (7, 1, []), (8, 1, []), (9, 1, [])] (by kernel_rfl) (by kernel_rfl) (by kernel_rfl) ?_))
                  go_roundw
                  case rel => exact ⟨m + 1, j + 1 + 1, by omega, by omega, by go_num, by go_num, by omega, by omega, HZ⟩
                  case measure => simp [intOf]; omega
                · clear hXY
                  go_wp2_with (first | ((with_reducible show wpPlan _ _ _ _ _ (Act.put _ _ _) _); simp only [List.getElem_toArray, List.getElem_cons_succ, List.getElem_cons_zero, Act.put, List.setIfInBounds_toArray, List.set_cons_zero, List.set_cons_succ]) | ((with_reducible show wpPlan _ _ _ _ _ _ _); first | refine wpPlan_nil ?_ | (refine wpPlan_read0 rfl ?hw rfl (fun _ _ _ => ?_); case hw => ((conv => (lhs; whnf)); first | done | with_reducible rfl)) | (refine wpPlan_read1d rfl ?hw rfl rfl (fun _ _ _ => ?_); case hw => ((conv => (lhs; whnf)); first | done | with_reducible rfl)) | (refine wpPlan_eff rfl ?hw (fun _ _ => ?_); case hw => ((conv => (lhs; whnf)); first | done | with_reducible rfl)) | (refine wpPlan_skip0 rfl ?hw ?_; case hw => ((conv => (lhs; whnf)); first | done | with_reducible rfl)) | (refine wpPlan_skip1d rfl ?hw ?_; case hw => ((conv => (lhs; whnf)); first | done | with_reducible rfl)) | (refine wpPlan_skip2 rfl ?hw ?_; case hw => ((conv => (lhs; whnf)); first | done | with_reducible rfl)) | (refine wpPlan_read1 rfl ?hw rfl (fun _ _ _ => ?_); case hw => ((conv => (lhs; whnf)); first | done | with_reducible rfl)) | refine wpPlan_fork ?_ ?_) | ((with_reducible show Owed _ _ _ _ _ _ _ _ _); first | refine Owed.none_ ?_ | refine Owed.nil_ ?_ | refine Owed.miss rfl ?_ | refine Owed.hit ?_ ?_) | ((with_reducible show Same _ _ _ _ _); intro _; go_simp; done) | (with_reducible exact True.intro) | ((with_reducible show Code.wp _ (Code.region 6 _ true) _ _ _); refine wp_region_plan [(0, 0, []), (1, 0, []), (2, 1, []), (3, 1, []), (4, 0, []), (5, 0, []), (6, 1, []), (7, 1, []), (8, 1, []), (9, 1, [])] (by kernel_rfl) (by kernel_rfl) (by kernel_rfl) ?_) | ((with_reducible show Code.wp _ (Code.region 11 _ true) _ _ _); refine wp_region_plan [(0, 0, []), (1, 0, []), (2, 1, []), (3, 1, []), (4, 0, []), (5, 0, []), (6, 1, []), (7, 1, []), (8, 1, []), (9, 1, [])] (by kernel_rfl) (by kernel_rfl) (by kernel_rfl) ?_))
                  go_roundw
                  case rel => exact ⟨m + 1, j + 1 + 1, by omega, by omega, by go_num, by go_num, by omega, by omega, HZ⟩
                  case measure => simp [intOf]; omega
            · have hjn2 : k + 1 + (j + 1) = n := by omega
              have HC := Lib.hid (show l.take (k + 1 + (j + 1)) = l from List.take_of_length_le (by rw [HL.out]; omega))
              go_wp2_with (first | ((with_reducible show wpList _ _ _ ({ dst := none, op := Op.call { callee := Callee.builtin Builtin.clear, args := _, argTypes := _ }, type := _, pos := _, after := _, guard := _ } :: _) _ _); refine wpList_plain rfl fun K hK => ?_; refine clear_own (i := m) slArc rfl rfl onesArc HW.out.2.1 (by rfl) (by omega) (by omega) ?_; intro w3 ho3 hg3; refine hK _ _ ?_; clear hK; have HO3 := Lib.hid ho3; have HG3 := Lib.hid hg3; clear ho3 hg3) | ((with_reducible show wpPlan _ _ _ _ _ (Act.put _ _ _) _); simp only [List.getElem_toArray, List.getElem_cons_succ, List.getElem_cons_zero, Act.put, List.setIfInBounds_toArray, List.set_cons_zero, List.set_cons_succ]) | ((with_reducible show wpPlan _ _ _ _ _ _ _); first | refine wpPlan_nil ?_ | (refine wpPlan_read0 rfl ?hw rfl (fun _ _ _ => ?_); case hw => ((conv => (lhs; whnf)); first | done | with_reducible rfl)) | (refine wpPlan_read1d rfl ?hw rfl rfl (fun _ _ _ => ?_); case hw => ((conv => (lhs; whnf)); first | done | with_reducible rfl)) | (refine wpPlan_eff rfl ?hw (fun _ _ => ?_); case hw => ((conv => (lhs; whnf)); first | done | with_reducible rfl)) | (refine wpPlan_skip0 rfl ?hw ?_; case hw => ((conv => (lhs; whnf)); first | done | with_reducible rfl)) | (refine wpPlan_skip1d rfl ?hw ?_; case hw => ((conv => (lhs; whnf)); first | done | with_reducible rfl)) | (refine wpPlan_skip2 rfl ?hw ?_; case hw => ((conv => (lhs; whnf)); first | done | with_reducible rfl)) | (refine wpPlan_read1 rfl ?hw rfl (fun _ _ _ => ?_); case hw => ((conv => (lhs; whnf)); first | done | with_reducible rfl)) | refine wpPlan_fork ?_ ?_) | ((with_reducible show Owed _ _ _ _ _ _ _ _ _); first | refine Owed.none_ ?_ | refine Owed.nil_ ?_ | refine Owed.miss rfl ?_ | refine Owed.hit ?_ ?_) | ((with_reducible show Same _ _ _ _ _); intro _; go_simp; done) | (with_reducible exact True.intro) | ((with_reducible show Code.wp _ (Code.region 6 _ true) _ _ _); refine wp_region_plan [(0, 0, []), (1, 0, []), (2, 1, []), (3, 1, []), (4, 0, []), (5, 0, []), (6, 1, []), (7, 1, []), (8, 1, []), (9, 1, [])] (by kernel_rfl) (by kernel_rfl) (by kernel_rfl) ?_) | ((with_reducible show Code.wp _ (Code.region 11 _ true) _ _ _); refine wp_region_plan [(0, 0, []), (1, 0, []), (2, 1, []), (3, 1, []), (4, 0, []), (5, 0, []), (6, 1, []), (7, 1, []), (8, 1, []), (9, 1, [])] (by kernel_rfl) (by kernel_rfl) (by kernel_rfl) ?_))
              go_ret
              have h1 := HW.out.1
              rw [HC.out] at h1
              refine ⟨⟨_, rfl, ?_, rfl⟩, (HW.out.2.2.grown HG3.out (fun x h => Or.inl (by cases h; rfl))).mono (fun x _ e => by rw [e]; rfl)⟩
              rw [← h1]
              have h2 := HO3.out
              rw [HC.out, ← cellsOf_take Arc.cells_len, List.take_left' h1.symm] at h2
              exact h2
        · have HK := Lib.hid (show cpt (l.take (k + 1 + 1)) = l.take (k + 1 + 1) by rw [HN.out, if_neg hxy, HTK.out, HW.out.1])
          have HW2 := Lib.hid (And.intro HW.out.2.1.drew HW.out.2.2.drew)
          by_cases he : x.ev = y.ev
          · have ht : ¬ x.to = y.to := fun h => hxy (by cases x; cases y; simp_all)
            rw [he] at c0
            clear he hxy
            go_wp2_with (first | ((with_reducible show wpPlan _ _ _ _ _ (Act.put _ _ _) _); simp only [List.getElem_toArray, List.getElem_cons_succ, List.getElem_cons_zero, Act.put, List.setIfInBounds_toArray, List.set_cons_zero, List.set_cons_succ]) | ((with_reducible show wpPlan _ _ _ _ _ _ _); first | refine wpPlan_nil ?_ | (refine wpPlan_read0 rfl ?hw rfl (fun _ _ _ => ?_); case hw => ((conv => (lhs; whnf)); first | done | with_reducible rfl)) | (refine wpPlan_read1d rfl ?hw rfl rfl (fun _ _ _ => ?_); case hw => ((conv => (lhs; whnf)); first | done | with_reducible rfl)) | (refine wpPlan_eff rfl ?hw (fun _ _ => ?_); case hw => ((conv => (lhs; whnf)); first | done | with_reducible rfl)) | (refine wpPlan_skip0 rfl ?hw ?_; case hw => ((conv => (lhs; whnf)); first | done | with_reducible rfl)) | (refine wpPlan_skip1d rfl ?hw ?_; case hw => ((conv => (lhs; whnf)); first | done | with_reducible rfl)) | (refine wpPlan_skip2 rfl ?hw ?_; case hw => ((conv => (lhs; whnf)); first | done | with_reducible rfl)) | (refine wpPlan_read1 rfl ?hw rfl (fun _ _ _ => ?_); case hw => ((conv => (lhs; whnf)); first | done | with_reducible rfl)) | refine wpPlan_fork ?_ ?_) | ((with_reducible show Owed _ _ _ _ _ _ _ _ _); first | refine Owed.none_ ?_ | refine Owed.nil_ ?_ | refine Owed.miss rfl ?_ | refine Owed.hit ?_ ?_) | ((with_reducible show Same _ _ _ _ _); intro _; go_simp; done) | (with_reducible exact True.intro) | ((with_reducible show Code.wp _ (Code.region 6 _ true) _ _ _); refine wp_region_plan [(0, 0, []), (1, 0, []), (2, 1, []), (3, 1, []), (4, 0, []), (5, 0, []), (6, 1, []), (7, 1, []), (8, 1, []), (9, 1, [])] (by kernel_rfl) (by kernel_rfl) (by kernel_rfl) ?_) | ((with_reducible show Code.wp _ (Code.region 11 _ true) _ _ _); refine wp_region_plan [(0, 0, []), (1, 0, []), (2, 1, []), (3, 1, []), (4, 0, []), (5, 0, []), (6, 1, []), (7, 1, []), (8, 1, []), (9, 1, [])] (by kernel_rfl) (by kernel_rfl) (by kernel_rfl) ?_))
            go_roundw
            case rel => exact ⟨k + 1 + 1, by omega, by omega, by go_num, Lib.hid ⟨HK.out, HW2.out⟩⟩
            case measure => simp [intOf]; omega
          · clear hxy
            go_wp2_with (first | ((with_reducible show wpPlan _ _ _ _ _ (Act.put _ _ _) _); simp only [List.getElem_toArray, List.getElem_cons_succ, List.getElem_cons_zero, Act.put, List.setIfInBounds_toArray, List.set_cons_zero, List.set_cons_succ]) | ((with_reducible show wpPlan _ _ _ _ _ _ _); first | refine wpPlan_nil ?_ | (refine wpPlan_read0 rfl ?hw rfl (fun _ _ _ => ?_); case hw => ((conv => (lhs; whnf)); first | done | with_reducible rfl)) | (refine wpPlan_read1d rfl ?hw rfl rfl (fun _ _ _ => ?_); case hw => ((conv => (lhs; whnf)); first | done | with_reducible rfl)) | (refine wpPlan_eff rfl ?hw (fun _ _ => ?_); case hw => ((conv => (lhs; whnf)); first | done | with_reducible rfl)) | (refine wpPlan_skip0 rfl ?hw ?_; case hw => ((conv => (lhs; whnf)); first | done | with_reducible rfl)) | (refine wpPlan_skip1d rfl ?hw ?_; case hw => ((conv => (lhs; whnf)); first | done | with_reducible rfl)) | (refine wpPlan_skip2 rfl ?hw ?_; case hw => ((conv => (lhs; whnf)); first | done | with_reducible rfl)) | (refine wpPlan_read1 rfl ?hw rfl (fun _ _ _ => ?_); case hw => ((conv => (lhs; whnf)); first | done | with_reducible rfl)) | refine wpPlan_fork ?_ ?_) | ((with_reducible show Owed _ _ _ _ _ _ _ _ _); first | refine Owed.none_ ?_ | refine Owed.nil_ ?_ | refine Owed.miss rfl ?_ | refine Owed.hit ?_ ?_) | ((with_reducible show Same _ _ _ _ _); intro _; go_simp; done) | (with_reducible exact True.intro) | ((with_reducible show Code.wp _ (Code.region 6 _ true) _ _ _); refine wp_region_plan [(0, 0, []), (1, 0, []), (2, 1, []), (3, 1, []), (4, 0, []), (5, 0, []), (6, 1, []), (7, 1, []), (8, 1, []), (9, 1, [])] (by kernel_rfl) (by kernel_rfl) (by kernel_rfl) ?_) | ((with_reducible show Code.wp _ (Code.region 11 _ true) _ _ _); refine wp_region_plan [(0, 0, []), (1, 0, []), (2, 1, []), (3, 1, []), (4, 0, []), (5, 0, []), (6, 1, []), (7, 1, []), (8, 1, []), (9, 1, [])] (by kernel_rfl) (by kernel_rfl) (by kernel_rfl) ?_))
            go_roundw
            case rel => exact ⟨k + 1 + 1, by omega, by omega, by go_num, Lib.hid ⟨HK.out, HW2.out⟩⟩
            case measure => simp [intOf]; omega
      · have hkn : n = k + 1 := by omega
        subst hkn
        have HC := Lib.hid (show cpt l = l by
          have := HW.out.1
          rw [List.take_of_length_le (by rw [HL.out]; exact Nat.le_refl _)] at this
          exact this)
        go_wp2_with (first | ((with_reducible show wpPlan _ _ _ _ _ (Act.put _ _ _) _); simp only [List.getElem_toArray, List.getElem_cons_succ, List.getElem_cons_zero, Act.put, List.setIfInBounds_toArray, List.set_cons_zero, List.set_cons_succ]) | ((with_reducible show wpPlan _ _ _ _ _ _ _); first | refine wpPlan_nil ?_ | (refine wpPlan_read0 rfl ?hw rfl (fun _ _ _ => ?_); case hw => ((conv => (lhs; whnf)); first | done | with_reducible rfl)) | (refine wpPlan_read1d rfl ?hw rfl rfl (fun _ _ _ => ?_); case hw => ((conv => (lhs; whnf)); first | done | with_reducible rfl)) | (refine wpPlan_eff rfl ?hw (fun _ _ => ?_); case hw => ((conv => (lhs; whnf)); first | done | with_reducible rfl)) | (refine wpPlan_skip0 rfl ?hw ?_; case hw => ((conv => (lhs; whnf)); first | done | with_reducible rfl)) | (refine wpPlan_skip1d rfl ?hw ?_; case hw => ((conv => (lhs; whnf)); first | done | with_reducible rfl)) | (refine wpPlan_skip2 rfl ?hw ?_; case hw => ((conv => (lhs; whnf)); first | done | with_reducible rfl)) | (refine wpPlan_read1 rfl ?hw rfl (fun _ _ _ => ?_); case hw => ((conv => (lhs; whnf)); first | done | with_reducible rfl)) | refine wpPlan_fork ?_ ?_) | ((with_reducible show Owed _ _ _ _ _ _ _ _ _); first | refine Owed.none_ ?_ | refine Owed.nil_ ?_ | refine Owed.miss rfl ?_ | refine Owed.hit ?_ ?_) | ((with_reducible show Same _ _ _ _ _); intro _; go_simp; done) | (with_reducible exact True.intro) | ((with_reducible show Code.wp _ (Code.region 6 _ true) _ _ _); refine wp_region_plan [(0, 0, []), (1, 0, []), (2, 1, []), (3, 1, []), (4, 0, []), (5, 0, []), (6, 1, []), (7, 1, []), (8, 1, []), (9, 1, [])] (by kernel_rfl) (by kernel_rfl) (by kernel_rfl) ?_) | ((with_reducible show Code.wp _ (Code.region 11 _ true) _ _ _); refine wp_region_plan [(0, 0, []), (1, 0, []), (2, 1, []), (3, 1, []), (4, 0, []), (5, 0, []), (6, 1, []), (7, 1, []), (8, 1, []), (9, 1, [])] (by kernel_rfl) (by kernel_rfl) (by kernel_rfl) ?_))
        go_ret
        exact ⟨⟨_, rfl, by rw [HC.out, HL.out]; exact HW.out.2.1, rfl⟩, HW.out.2.2.mono (fun x _ e => by rw [e]; rfl)⟩

end Go.Proofs.Ytmciinikfjfegaa
namespace Go.Proofs.Ytmciinikfjfegaa
open Go Go.RowKit Go.Shelf Go.Sort
set_option maxHeartbeats 8000000

set_option maxRecDepth 100000 in
theorem compareG_any (a b : Arc) (w : World) : Calls Try.prog 59 #[a.v, b.v] w fun e w' => e = .returned (.int .i64 (arcCmp a b)) ∧ ∃ q os', w' = grow (w.drewN q) os' := by
  obtain ⟨ae, at_⟩ := a
  obtain ⟨be, bt⟩ := b
  have hE : orS (cmpS ae be) (cmpS at_ bt) = arcCmp ⟨ae, at_⟩ ⟨be, bt⟩ := rfl
  obtain ⟨x, hx⟩ : ∃ x, cmpS ae be = x := ⟨_, rfl⟩
  obtain ⟨y, hy⟩ : ∃ y, cmpS at_ bt = y := ⟨_, rfl⟩
  rw [hx, hy] at hE
  have HX := Lib.hid hx
  have HY := Lib.hid hy
  have HE := Lib.hid hE
  have HZ := Lib.hid (show Rd (((w.alloc (.cells #[.int .i64 ae, .int .i64 at_] 23)).alloc (.cells #[.int .i64 be, .int .i64 bt] 23)).alloc (.cells #[.int .i64 x, .int .i64 y] 3)) (w.heap.size + 1 + 1 + 1) 1 (some ⟨w.heap.size + 1 + 1, 0, none⟩) 2 (cellsOf icell [x, y]) by
    exact Rd.ofBlk (k := 1) (n := 2) (t := 3) (heap_alloc_at (by simp)) rfl)
  clear hx hy hE
  go_enter Try.func59, Try.ntmps59
  go_wp2_with (first | ((with_reducible show wpPlan _ _ _ _ _ (Act.put _ _ _) _); simp only [List.getElem_toArray, List.getElem_cons_succ, List.getElem_cons_zero, Act.put, List.setIfInBounds_toArray, List.set_cons_zero, List.set_cons_succ]) | ((with_reducible show wpPlan _ _ _ _ _ _ _); first | refine wpPlan_nil ?_ | (refine wpPlan_read0 rfl ?hw rfl (fun _ _ _ => ?_); case hw => ((conv => (lhs; whnf)); first | done | with_reducible rfl)) | (refine wpPlan_read1d rfl ?hw rfl rfl (fun _ _ _ => ?_); case hw => ((conv => (lhs; whnf)); first | done | with_reducible rfl)) | (refine wpPlan_eff rfl ?hw (fun _ _ => ?_); case hw => ((conv => (lhs; whnf)); first | done | with_reducible rfl)) | (refine wpPlan_skip0 rfl ?hw ?_; case hw => ((conv => (lhs; whnf)); first | done | with_reducible rfl)) | (refine wpPlan_skip1d rfl ?hw ?_; case hw => ((conv => (lhs; whnf)); first | done | with_reducible rfl)) | (refine wpPlan_skip2 rfl ?hw ?_; case hw => ((conv => (lhs; whnf)); first | done | with_reducible rfl)) | (refine wpPlan_read1 rfl ?hw rfl (fun _ _ _ => ?_); case hw => ((conv => (lhs; whnf)); first | done | with_reducible rfl)) | refine wpPlan_fork ?_ ?_) | ((with_reducible show Owed _ _ _ _ _ _ _ _ _); first | refine Owed.none_ ?_ | refine Owed.nil_ ?_ | refine Owed.miss rfl ?_ | refine Owed.hit ?_ ?_) | ((with_reducible show Same _ _ _ _ _); intro _; go_simp; done) | (with_reducible exact True.intro) | ((with_reducible show Code.wp _ (Code.region 1 _ true) _ _ _); refine wp_region_plan [(0, 1, []), (1, 1, []), (2, 1, []), (3, 1, []), (5, 1, []), (6, 1, []), (7, 1, []), (8, 1, []), (4, 2, [5, 6, 7, 8]), (9, 2, []), (10, 2, []), (11, 2, []), (12, 0, [])] (by kernel_rfl) (by kernel_rfl) (by kernel_rfl) ?_))
  refine (cmpC_any ae be _).mono ?_
  rw [HX.out]
  rintro e w1 ⟨rfl, rfl⟩
  go_wp2_with (first | ((with_reducible show wpPlan _ _ _ _ _ (Act.put _ _ _) _); simp only [List.getElem_toArray, List.getElem_cons_succ, List.getElem_cons_zero, Act.put, List.setIfInBounds_toArray, List.set_cons_zero, List.set_cons_succ]) | ((with_reducible show wpPlan _ _ _ _ _ _ _); first | refine wpPlan_nil ?_ | (refine wpPlan_read0 rfl ?hw rfl (fun _ _ _ => ?_); case hw => ((conv => (lhs; whnf)); first | done | with_reducible rfl)) | (refine wpPlan_read1d rfl ?hw rfl rfl (fun _ _ _ => ?_); case hw => ((conv => (lhs; whnf)); first | done | with_reducible rfl)) | (refine wpPlan_eff rfl ?hw (fun _ _ => ?_); case hw => ((conv => (lhs; whnf)); first | done | with_reducible rfl)) | (refine wpPlan_skip0 rfl ?hw ?_; case hw => ((conv => (lhs; whnf)); first | done | with_reducible rfl)) | (refine wpPlan_skip1d rfl ?hw ?_; case hw => ((conv => (lhs; whnf)); first | done | with_reducible rfl)) | (refine wpPlan_skip2 rfl ?hw ?_; case hw => ((conv => (lhs; whnf)); first | done | with_reducible rfl)) | (refine wpPlan_read1 rfl ?hw rfl (fun _ _ _ => ?_); case hw => ((conv => (lhs; whnf)); first | done | with_reducible rfl)) | refine wpPlan_fork ?_ ?_) | ((with_reducible show Owed _ _ _ _ _ _ _ _ _); first | refine Owed.none_ ?_ | refine Owed.nil_ ?_ | refine Owed.miss rfl ?_ | refine Owed.hit ?_ ?_) | ((with_reducible show Same _ _ _ _ _); intro _; go_simp; done) | (with_reducible exact True.intro) | ((with_reducible show Code.wp _ (Code.region 1 _ true) _ _ _); refine wp_region_plan [(0, 1, []), (1, 1, []), (2, 1, []), (3, 1, []), (5, 1, []), (6, 1, []), (7, 1, []), (8, 1, []), (4, 2, [5, 6, 7, 8]), (9, 2, []), (10, 2, []), (11, 2, []), (12, 0, [])] (by kernel_rfl) (by kernel_rfl) (by kernel_rfl) ?_))
  refine (cmpC_any at_ bt _).mono ?_
  rw [HY.out]
  rintro e w1 ⟨rfl, rfl⟩
  go_wp2_with (first | ((with_reducible show wpPlan _ _ _ _ _ (Act.put _ _ _) _); simp only [List.getElem_toArray, List.getElem_cons_succ, List.getElem_cons_zero, Act.put, List.setIfInBounds_toArray, List.set_cons_zero, List.set_cons_succ]) | ((with_reducible show wpPlan _ _ _ _ _ _ _); first | refine wpPlan_nil ?_ | (refine wpPlan_read0 rfl ?hw rfl (fun _ _ _ => ?_); case hw => ((conv => (lhs; whnf)); first | done | with_reducible rfl)) | (refine wpPlan_read1d rfl ?hw rfl rfl (fun _ _ _ => ?_); case hw => ((conv => (lhs; whnf)); first | done | with_reducible rfl)) | (refine wpPlan_eff rfl ?hw (fun _ _ => ?_); case hw => ((conv => (lhs; whnf)); first | done | with_reducible rfl)) | (refine wpPlan_skip0 rfl ?hw ?_; case hw => ((conv => (lhs; whnf)); first | done | with_reducible rfl)) | (refine wpPlan_skip1d rfl ?hw ?_; case hw => ((conv => (lhs; whnf)); first | done | with_reducible rfl)) | (refine wpPlan_skip2 rfl ?hw ?_; case hw => ((conv => (lhs; whnf)); first | done | with_reducible rfl)) | (refine wpPlan_read1 rfl ?hw rfl (fun _ _ _ => ?_); case hw => ((conv => (lhs; whnf)); first | done | with_reducible rfl)) | refine wpPlan_fork ?_ ?_) | ((with_reducible show Owed _ _ _ _ _ _ _ _ _); first | refine Owed.none_ ?_ | refine Owed.nil_ ?_ | refine Owed.miss rfl ?_ | refine Owed.hit ?_ ?_) | ((with_reducible show Same _ _ _ _ _); intro _; go_simp; done) | (with_reducible exact True.intro) | ((with_reducible show Code.wp _ (Code.region 1 _ true) _ _ _); refine wp_region_plan [(0, 1, []), (1, 1, []), (2, 1, []), (3, 1, []), (5, 1, []), (6, 1, []), (7, 1, []), (8, 1, []), (4, 2, [5, 6, 7, 8]), (9, 2, []), (10, 2, []), (11, 2, []), (12, 0, [])] (by kernel_rfl) (by kernel_rfl) (by kernel_rfl) ?_))
  refine (or_any (w.heap.size + 1 + 1 + 1) _ 2 x y _ ?_).mono ?_
  · exact HZ.out
  rw [HE.out]
  rintro e w1 ⟨rfl, rfl⟩
  go_wp2_with (first | ((with_reducible show wpPlan _ _ _ _ _ (Act.put _ _ _) _); simp only [List.getElem_toArray, List.getElem_cons_succ, List.getElem_cons_zero, Act.put, List.setIfInBounds_toArray, List.set_cons_zero, List.set_cons_succ]) | ((with_reducible show wpPlan _ _ _ _ _ _ _); first | refine wpPlan_nil ?_ | (refine wpPlan_read0 rfl ?hw rfl (fun _ _ _ => ?_); case hw => ((conv => (lhs; whnf)); first | done | with_reducible rfl)) | (refine wpPlan_read1d rfl ?hw rfl rfl (fun _ _ _ => ?_); case hw => ((conv => (lhs; whnf)); first | done | with_reducible rfl)) | (refine wpPlan_eff rfl ?hw (fun _ _ => ?_); case hw => ((conv => (lhs; whnf)); first | done | with_reducible rfl)) | (refine wpPlan_skip0 rfl ?hw ?_; case hw => ((conv => (lhs; whnf)); first | done | with_reducible rfl)) | (refine wpPlan_skip1d rfl ?hw ?_; case hw => ((conv => (lhs; whnf)); first | done | with_reducible rfl)) | (refine wpPlan_skip2 rfl ?hw ?_; case hw => ((conv => (lhs; whnf)); first | done | with_reducible rfl)) | (refine wpPlan_read1 rfl ?hw rfl (fun _ _ _ => ?_); case hw => ((conv => (lhs; whnf)); first | done | with_reducible rfl)) | refine wpPlan_fork ?_ ?_) | ((with_reducible show Owed _ _ _ _ _ _ _ _ _); first | refine Owed.none_ ?_ | refine Owed.nil_ ?_ | refine Owed.miss rfl ?_ | refine Owed.hit ?_ ?_) | ((with_reducible show Same _ _ _ _ _); intro _; go_simp; done) | (with_reducible exact True.intro) | ((with_reducible show Code.wp _ (Code.region 1 _ true) _ _ _); refine wp_region_plan [(0, 1, []), (1, 1, []), (2, 1, []), (3, 1, []), (5, 1, []), (6, 1, []), (7, 1, []), (8, 1, []), (4, 2, [5, 6, 7, 8]), (9, 2, []), (10, 2, []), (11, 2, []), (12, 0, [])] (by kernel_rfl) (by kernel_rfl) (by kernel_rfl) ?_))
  go_ret
  refine ⟨rfl, 1, #[.cells #[.int .i64 ae, .int .i64 at_] 23, .cells #[.int .i64 be, .int .i64 bt] 23, .cells #[.int .i64 x, .int .i64 y] 3], ?_⟩
  rw [alloc_eq_grow, alloc_eq_grow, alloc_eq_grow, grow_grow, grow_grow]
  rfl

theorem ltOf_arc : (fun x y : Arc => !ltOf arcCmp y x) = fun x y => !lessB y x := by
  funext x y
  have h := arcCmp_less y x
  unfold ltOf
  congr 1
  rw [Bool.eq_iff_iff, decide_eq_true_eq]
  constructor
  · intro h1
    cases h2 : lessB y x with
    | true => rfl
    | false =>
      rw [h2] at h
      have := of_decide_eq_true h
      omega
  · intro h1
    rw [h1] at h
    have := of_decide_eq_false h
    omega
theorem lt_arc (x y : Arc) : ltOf arcCmp x y = lessB x y := by
  have h := congrFun (congrFun ltOf_arc y) x
  simpa using h
theorem swoArc : SWO (ltOf arcCmp) where
  irrefl x := by rw [lt_arc]; exact lessB_irr x
  trans x y z h1 h2 := by
    rw [lt_arc] at *
    exact lessB_trans h1 h2
  ntrans x y z h1 h2 := by
    rw [lt_arc] at *
    simp only [lessB, decide_eq_false_iff_not] at *
    omega
theorem cells_flat (l : List Arc) {j : Nat} (hj : j < l.length * 2) : (cellsOf Arc.cells l)[j]? = some (flatK Arc.cells 2 l.toArray)[j]! := by
  rw [get_flatK Arc.cells 2 l.toArray j (by simpa using hj)]
  have e : j = j / 2 * 2 + j % 2 := by omega
  conv => lhs; rw [e]
  rw [cellsOf_get Arc.cells_len l (j / 2) (j % 2) (by omega)]
  have hi : j / 2 < l.length := by omega
  rw [List.getElem?_eq_getElem hi]
  have h2 : j % 2 = 0 ∨ j % 2 = 1 := by omega
  rcases h2 with h2 | h2 <;> simp [h2, Arc.cells, hi]
theorem own_holds {w : World} {g n cap : Nat} {l : List Arc} (h : w.ownsRow 0 23 2 (.slice (some ⟨g, 0, none⟩) n cap) n (cellsOf Arc.cells l)) : HoldsK Arc.cells 2 w g 0 l.toArray := by
  have hl : l.length = n := by
    have := h.1
    rw [cellsOf_length Arc.cells_len] at this
    omega
  intro j hj
  have hj2 : j < n * 2 := by
    rw [size_flatK] at hj
    simp at hj
    omega
  rw [Nat.zero_add]
  exact ⟨by rw [h.cellAt j hj2]; exact cells_flat l (by omega), h.frozenAt j⟩
theorem sorted_own {w : World} {g n cap : Nat} {l l2 : List Arc} (h : w.ownsRow 0 23 2 (.slice (some ⟨g, 0, none⟩) n cap) n (cellsOf Arc.cells l)) (hl2 : l2.length = n) (m : Nat) (os : Array Obj) :
    (sortWorldK Arc.cells 2 w g 0 m l2.toArray os).ownsRow 0 23 2 (.slice (some ⟨g, 0, none⟩) n cap) n (cellsOf Arc.cells l2) ∧ Outside (fun k => k = g) w (sortWorldK Arc.cells 2 w g 0 m l2.toArray os) := by
  rcases h.2 with ⟨e, _⟩ | ⟨g', cap', cur, e, hb, hg, hnc, hcm, hcs, htake⟩
  · cases e
  cases e
  have hgl : g < w.heap.size := (Array.getElem?_eq_some_iff.1 hg).1
  have hsz : (mapBlock (Go.Sort.ahead w m) g (putCells id 0 (flatK Arc.cells 2 l2.toArray))).heap.size = w.heap.size := by simp [mapBlock, Go.Sort.ahead]
  have hheap : ∀ k, k < w.heap.size → (sortWorldK Arc.cells 2 w g 0 m l2.toArray os).heap[k]? = (mapBlock (Go.Sort.ahead w m) g (putCells id 0 (flatK Arc.cells 2 l2.toArray))).heap[k]? := fun k hk => by
    show ((mapBlock (Go.Sort.ahead w m) g (putCells id 0 (flatK Arc.cells 2 l2.toArray))).heap ++ os)[k]? = _
    rw [Array.getElem?_append_left (by rw [hsz]; exact hk)]
  refine ⟨⟨by rw [cellsOf_length Arc.cells_len, hl2], .inr ⟨g, cap, putCells id 0 (flatK Arc.cells 2 l2.toArray) cur, rfl, hb, ?_, hnc, hcm, by simp [putCells, hcs], ?_⟩⟩, rfl, rfl, rfl, ?_, fun k hk hR => ?_⟩
  · rw [hheap g hgl]
    simp [mapBlock, Go.Sort.ahead, Array.getElem?_modify, hg, onCells]
  · apply List.ext_getElem?
    intro j
    rw [List.getElem?_take]
    by_cases hj : j < n * 2
    · rw [if_pos hj, cells_flat l2 (by omega)]
      have hjc : j < cur.size := by
        have := Nat.mul_le_mul_right 2 hnc
        omega
      simp [putCells, hjc]
      intro h9
      omega
    · rw [if_neg hj, List.getElem?_eq_none (by rw [cellsOf_length Arc.cells_len]; omega)]
  · show w.heap.size ≤ ((mapBlock (Go.Sort.ahead w m) g (putCells id 0 (flatK Arc.cells 2 l2.toArray))).heap ++ os).size
    rw [Array.size_append, hsz]
    omega
  · rw [hheap k hk]
    have hne : ¬ g = k := fun e => hR e.symm
    simp [mapBlock, Go.Sort.ahead, Array.getElem?_modify, hne]

theorem asort_any (v : Value) (n : Nat) (l : List Arc) (w : World) (h : w.ownsRow 0 23 2 v n (cellsOf Arc.cells l)) (hn : n ≤ 1000000000) :
    Calls Try.prog 80 #[v, .func (.func 59) #[] #[]] w fun e w' => e = .returned (.tuple #[]) ∧ w'.ownsRow 0 23 2 v n (cellsOf Arc.cells (srt l)) ∧ Outside (fun k => v.ownBlock = some k) w w' := by
  have hl : l.length = n := by
    have := h.1
    rw [cellsOf_length Arc.cells_len] at this
    omega
  rcases Nat.eq_zero_or_pos n with h0 | h0
  · subst h0
    obtain ⟨A, c, rfl, _, _⟩ := own_form h
    have hl0 : l = [] := List.eq_nil_of_length_eq_zero hl
    subst hl0
    have hS := Go.Proofs.AnyF.slices_SortFunc_none (P := Try.prog) (ρ := sortL_ren) { sortL with } A c (.func (.func 59) #[] #[]) w
    exact hS.mono fun e w' ⟨he, hw⟩ => ⟨he, by rw [hw, List.eq_nil_of_length_eq_zero (srt_len [])]; exact h, by rw [hw]; exact Outside.refl _ _⟩
  · obtain ⟨g, c, rfl, _, hg⟩ := h.form h0
    have eg : ∀ args w, (callFunc 59 args).run Try.prog w = .ok (.enter 59 args) w := enters_of Try.func59 (by kernel_rfl) rfl
    have hS := Go.Proofs.AnyQ.slices_SortFunc_total sortL 2 Try.isAgg23 Try.sizeOf23 Arc.cells Arc.cells_len (fun x v hv => by
      simp [Arc.cells] at hv
      rcases hv with rfl | rfl <;> rfl) arcCmp swoArc 59 #[] g 0 c l.toArray w eg (fun _ _ _ _ x y => compareG_any x y _) (own_holds h) hg (by simp; omega) (fun x y h1 h2 => by
        rw [lt_arc] at h1 h2
        by_cases e : x = y
        · exact e
        · have := lessB_tot h1 e
          rw [h2] at this
          cases this)
    rw [ltOf_arc] at hS
    have e1 : l.toArray.size = n := by simpa using hl
    rw [e1] at hS
    exact hS.mono fun e w' ⟨he, m, os, hw⟩ => by
      obtain ⟨h1, h2⟩ := sorted_own h (l2 := srt l) (by rw [srt_len]; exact hl) m os
      rw [hw]
      exact ⟨he, h1, h2.mono (fun k _ e => by rw [e]; rfl)⟩

end Go.Proofs.Ytmciinikfjfegaa
