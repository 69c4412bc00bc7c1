/- the reference: hasArc, covers -/
import Derived.Test.YtmciinikfjfegaaSgW9
namespace Go.Proofs.Ytmciinikfjfegaa
open Go Go.RowKit
set_option maxHeartbeats 8000000

theorem numAt_nat {cl : List Nat} {n : Nat} {a : Int} (hl : cl.length = n) (h0 : 0 ≤ a) (h1 : a < n) : ∃ q y : Nat, a = (q : Int) ∧ q < n ∧ cl[q]? = some y ∧ numAt (intC cl) (q : Int) = (y : Int) := by
  obtain ⟨q, rfl⟩ := Int.eq_ofNat_of_zero_le h0
  have hq : q < cl.length := by omega
  exact ⟨q, cl[q], rfl, by omega, List.getElem?_eq_getElem hq, numAt_some (List.getElem?_eq_getElem hq)⟩

set_option maxRecDepth 100000 in
theorem hasArc_any (A A' : Option Addr) (n c n' c' B : Nat) (l : List Arc) (cl : List Nat) (ev cc : Int) (w : World) (h : Rd w B 2 A n (cellsOf Arc.cells l)) (h' : Rd w B 1 A' n' (cellsOf ncell cl)) (hB : B ≤ w.heap.size) (hn : n ≤ 1000000000000)
    (hto : ∀ a ∈ l, 0 ≤ a.to ∧ a.to < n') :
    Calls Try.prog 82 #[.slice A n c, .slice A' n' c', .int .i64 ev, .int .i64 cc] w fun e w' => e = .returned (.bool (hasB l cl ev cc)) ∧ Below w.heap.size w w' := by
  have HL := Lib.hid (h.len Arc.cells_len (by decide))
  have HL' := Lib.hid (h'.len ncell_len (by decide))
  have H := Lib.hid h
  have H' := Lib.hid h'
  have HT := Lib.hid hto
  clear h h' hto
  go_enter Try.func82, Try.ntmps82
  go_wp2_with fail
  go_loopw [9] (fun vk wr => ∃ k : Nat, k ≤ n ∧ vk = .int .i64 k ∧ Hid (hasB (l.take k) cl ev cc = false ∧ Below w.heap.size w wr)) (fun vk _ => n - (intOf vk).toNat)
  case atStart => exact ⟨0, Nat.zero_le _, rfl, Lib.hid ⟨rfl, Below.refl _ _⟩⟩
  case round =>
    obtain ⟨k, hk, rfl, HW⟩ := hrel
    by_cases hlt : k < n
    · obtain ⟨b1, o1, x, rfl, _, hx, c0, c1⟩ := (H.out.keep (w' := wr) (fun p hp => HW.out.2.cell (by omega))).arc hlt
      obtain ⟨q, y, hxq, hq, hy, hna⟩ := numAt_nat HL'.out (HT.out x (List.mem_of_getElem? hx)).1 (HT.out x (List.mem_of_getElem? hx)).2
      obtain ⟨b2, o2, y', rfl, _, hy', d0⟩ := (H'.out.keep (w' := wr) (fun p hp => HW.out.2.cell (by omega))).nat hq
      obtain rfl : y' = y := Option.some.inj (hy'.symm.trans hy)
      have HB := Lib.hid (show hasB (l.take (k + 1)) cl ev cc = (decide (x.ev = ev) && decide ((y' : Int) = cc)) by
        have h1 := HW.out.1
        rw [hasB] at h1
        rw [hasB, List.take_add_one, hx, List.any_append, h1]
        simp only [Option.toList, List.any_cons, List.any_nil, Bool.or_false, Bool.false_or]
        rw [hxq, hna])
      rw [hxq] at c1
      have HX := Lib.hid hx
      clear hy hy' hna hx
      by_cases he : x.ev = ev
      · by_cases hc : (y' : Int) = cc
        · have HR := Lib.hid (show hasB l cl ev cc = true from by
            have h1 := HB.out
            rw [he, hc] at h1
            simp at h1
            rw [hasB] at h1 ⊢
            rw [List.any_eq_true] at h1 ⊢
            obtain ⟨a, ha, hb⟩ := h1
            exact ⟨a, List.mem_of_mem_take ha, hb⟩)
          subst he hc
          go_wp2_with fail
          go_ret
          exact ⟨ret_bool HR.out.symm, HW.out.2⟩
        · have HR := Lib.hid (show hasB (l.take (k + 1)) cl ev cc = false from by
            rw [HB.out, decide_eq_false hc, Bool.and_false])
          subst he
          go_wp2_with fail
          go_roundw
          case rel => exact ⟨k + 1, by omega, by go_num, Lib.hid ⟨HR.out, HW.out.2⟩⟩
          case measure => simp [intOf]; omega
      · have HR := Lib.hid (show hasB (l.take (k + 1)) cl ev cc = false from by
            rw [HB.out, decide_eq_false he, Bool.false_and])
        go_wp2_with fail
        go_roundw
        case rel => exact ⟨k + 1, by omega, by go_num, Lib.hid ⟨HR.out, HW.out.2⟩⟩
        case measure => simp [intOf]; omega
    · have hkn : k = n := by omega
      subst hkn
      have HD := Lib.hid (show hasB l cl ev cc = false from by
        have h1 := HW.out.1
        rwa [List.take_of_length_le (by rw [HL.out]; exact Nat.le_refl _)] at h1)
      go_wp2_with fail
      go_ret
      exact ⟨ret_bool HD.out.symm, HW.out.2⟩

set_option maxRecDepth 100000 in
theorem covers_any (A A2 A' : Option Addr) (n c n2 c2 n' c' B : Nat) (l l2 : List Arc) (cl : List Nat) (w : World) (h : Rd w B 2 A n (cellsOf Arc.cells l)) (h2 : Rd w B 2 A2 n2 (cellsOf Arc.cells l2)) (h' : Rd w B 1 A' n' (cellsOf ncell cl)) (hB : B ≤ w.heap.size) (hn : n ≤ 1000000000000) (hn2 : n2 ≤ 1000000000000)
    (hto : ∀ a ∈ l, 0 ≤ a.to ∧ a.to < n') (hto2 : ∀ a ∈ l2, 0 ≤ a.to ∧ a.to < n') :
    Calls Try.prog 83 #[.slice A n c, .slice A2 n2 c2, .slice A' n' c'] w fun e w' => e = .returned (.bool (covB l l2 cl)) ∧ Below w.heap.size w w' := by
  have HL := Lib.hid (h.len Arc.cells_len (by decide))
  have HL' := Lib.hid (h'.len ncell_len (by decide))
  have H := Lib.hid h
  have H2 := Lib.hid h2
  have H' := Lib.hid h'
  have HT := Lib.hid hto
  have HT2 := Lib.hid hto2
  clear h h' h2 hto hto2
  go_enter Try.func83, Try.ntmps83
  go_wp2_with fail
  go_loopw [7] (fun vk wr => ∃ k : Nat, k ≤ n ∧ vk = .int .i64 k ∧ Hid (covB (l.take k) l2 cl = true ∧ Below w.heap.size w wr)) (fun vk _ => n - (intOf vk).toNat)
  case atStart => exact ⟨0, Nat.zero_le _, rfl, Lib.hid ⟨rfl, Below.refl _ _⟩⟩
  case round =>
    obtain ⟨k, hk, rfl, HW⟩ := hrel
    by_cases hlt : k < n
    · obtain ⟨b1, o1, x, rfl, _, hx, c0, c1⟩ := (H.out.keep (w' := wr) (fun p hp => HW.out.2.cell (by omega))).arc hlt
      obtain ⟨q, y, hxq, hq, hy, hna⟩ := numAt_nat HL'.out (HT.out x (List.mem_of_getElem? hx)).1 (HT.out x (List.mem_of_getElem? hx)).2
      obtain ⟨b2, o2, y', rfl, _, hy', d0⟩ := (H'.out.keep (w' := wr) (fun p hp => HW.out.2.cell (by omega))).nat hq
      obtain rfl : y' = y := Option.some.inj (hy'.symm.trans hy)
      obtain ⟨r, hr⟩ : ∃ r, hasB l2 cl x.ev (y' : Int) = r := ⟨_, rfl⟩
      have HB := Lib.hid (show covB (l.take (k + 1)) l2 cl = r by
        have h1 := HW.out.1
        rw [covB] at h1
        rw [covB, List.take_add_one, hx, List.all_append, h1]
        simp only [Option.toList, List.all_cons, List.all_nil, Bool.and_true, Bool.true_and]
        rw [hxq, hna, hr])
      rw [hxq] at c1
      have HX := Lib.hid hx
      have HR := Lib.hid hr
      clear hy hy' hna hx hr
      have hsz := HW.out.2.size
      go_wp2_with (first | ((with_reducible show wpPlan _ _ _ _ _ (Act.put _ _ _) _); simp only [List.getElem_toArray, List.getElem_cons_succ, List.getElem_cons_zero, Act.put, List.setIfInBounds_toArray, List.set_cons_zero, List.set_cons_succ]) | ((with_reducible show wpPlan _ _ _ _ _ _ _); first | refine wpPlan_nil ?_ | (refine wpPlan_read0 rfl ?hw rfl (fun _ _ _ => ?_); case hw => ((conv => (lhs; whnf)); first | done | with_reducible rfl)) | (refine wpPlan_read1d rfl ?hw rfl rfl (fun _ _ _ => ?_); case hw => ((conv => (lhs; whnf)); first | done | with_reducible rfl)) | (refine wpPlan_eff rfl ?hw (fun _ _ => ?_); case hw => ((conv => (lhs; whnf)); first | done | with_reducible rfl)) | (refine wpPlan_skip0 rfl ?hw ?_; case hw => ((conv => (lhs; whnf)); first | done | with_reducible rfl)) | (refine wpPlan_skip1d rfl ?hw ?_; case hw => ((conv => (lhs; whnf)); first | done | with_reducible rfl)) | (refine wpPlan_skip2 rfl ?hw ?_; case hw => ((conv => (lhs; whnf)); first | done | with_reducible rfl)) | (refine wpPlan_read1 rfl ?hw rfl (fun _ _ _ => ?_); case hw => ((conv => (lhs; whnf)); first | done | with_reducible rfl)) | refine wpPlan_fork ?_ ?_) | ((with_reducible show Owed _ _ _ _ _ _ _ _ _); first | refine Owed.none_ ?_ | refine Owed.nil_ ?_ | refine Owed.miss rfl ?_ | refine Owed.hit ?_ ?_) | ((with_reducible show Same _ _ _ _ _); intro _; go_simp; done) | (with_reducible exact True.intro) | ((with_reducible show Code.wp _ (Code.region 4 _ true) _ _ _); refine wp_region_plan [(0, 0, []), (1, 0, []), (2, 0, []), (3, 0, []), (4, 1, []), (5, 1, []), (6, 1, []), (7, 0, []), (8, 0, []), (9, 0, []), (10, 1, []), (11, 1, []), (12, 1, []), (13, 1, []), (14, 1, []), (15, 2, []), (16, 1, [])] (by kernel_rfl) (by kernel_rfl) (by kernel_rfl) ?_))
      refine (hasArc_any A2 _ n2 c2 n' c' B l2 cl x.ev y' _ ((H2.out.below (HW.out.2.mono hB)).drewN 1) ((H'.out.below (HW.out.2.mono hB)).drewN 1) (Nat.le_trans hB hsz) hn2 HT2.out).mono ?_
      rw [HR.out]
      rintro e w2 ⟨rfl, hb2⟩
      have HBW := Lib.hid (HW.out.2.drew.trans (hb2.mono hsz))
      clear hb2 c0 c1 d0
      cases r
      · have HE := Lib.hid (show covB l l2 cl = false from by
          have h1 := HB.out
          rw [covB] at h1 ⊢
          rw [List.all_eq_false] at h1 ⊢
          obtain ⟨a, ha, hb⟩ := h1
          exact ⟨a, List.mem_of_mem_take ha, hb⟩)
        go_wp2_with (first | ((with_reducible show wpPlan _ _ _ _ _ (Act.put _ _ _) _); simp only [List.getElem_toArray, List.getElem_cons_succ, List.getElem_cons_zero, Act.put, List.setIfInBounds_toArray, List.set_cons_zero, List.set_cons_succ]) | ((with_reducible show wpPlan _ _ _ _ _ _ _); first | refine wpPlan_nil ?_ | (refine wpPlan_read0 rfl ?hw rfl (fun _ _ _ => ?_); case hw => ((conv => (lhs; whnf)); first | done | with_reducible rfl)) | (refine wpPlan_read1d rfl ?hw rfl rfl (fun _ _ _ => ?_); case hw => ((conv => (lhs; whnf)); first | done | with_reducible rfl)) | (refine wpPlan_eff rfl ?hw (fun _ _ => ?_); case hw => ((conv => (lhs; whnf)); first | done | with_reducible rfl)) | (refine wpPlan_skip0 rfl ?hw ?_; case hw => ((conv => (lhs; whnf)); first | done | with_reducible rfl)) | (refine wpPlan_skip1d rfl ?hw ?_; case hw => ((conv => (lhs; whnf)); first | done | with_reducible rfl)) | (refine wpPlan_skip2 rfl ?hw ?_; case hw => ((conv => (lhs; whnf)); first | done | with_reducible rfl)) | (refine wpPlan_read1 rfl ?hw rfl (fun _ _ _ => ?_); case hw => ((conv => (lhs; whnf)); first | done | with_reducible rfl)) | refine wpPlan_fork ?_ ?_) | ((with_reducible show Owed _ _ _ _ _ _ _ _ _); first | refine Owed.none_ ?_ | refine Owed.nil_ ?_ | refine Owed.miss rfl ?_ | refine Owed.hit ?_ ?_) | ((with_reducible show Same _ _ _ _ _); intro _; go_simp; done) | (with_reducible exact True.intro) | ((with_reducible show Code.wp _ (Code.region 4 _ true) _ _ _); refine wp_region_plan [(0, 0, []), (1, 0, []), (2, 0, []), (3, 0, []), (4, 1, []), (5, 1, []), (6, 1, []), (7, 0, []), (8, 0, []), (9, 0, []), (10, 1, []), (11, 1, []), (12, 1, []), (13, 1, []), (14, 1, []), (15, 2, []), (16, 1, [])] (by kernel_rfl) (by kernel_rfl) (by kernel_rfl) ?_))
        go_ret
        exact ⟨ret_bool HE.out.symm, HBW.out⟩
      · go_wp2_with (first | ((with_reducible show wpPlan _ _ _ _ _ (Act.put _ _ _) _); simp only [List.getElem_toArray, List.getElem_cons_succ, List.getElem_cons_zero, Act.put, List.setIfInBounds_toArray, List.set_cons_zero, List.set_cons_succ]) | ((with_reducible show wpPlan _ _ _ _ _ _ _); first | refine wpPlan_nil ?_ | (refine wpPlan_read0 rfl ?hw rfl (fun _ _ _ => ?_); case hw => ((conv => (lhs; whnf)); first | done | with_reducible rfl)) | (refine wpPlan_read1d rfl ?hw rfl rfl (fun _ _ _ => ?_); case hw => ((conv => (lhs; whnf)); first | done | with_reducible rfl)) | (refine wpPlan_eff rfl ?hw (fun _ _ => ?_); case hw => ((conv => (lhs; whnf)); first | done | with_reducible rfl)) | (refine wpPlan_skip0 rfl ?hw ?_; case hw => ((conv => (lhs; whnf)); first | done | with_reducible rfl)) | (refine wpPlan_skip1d rfl ?hw ?_; case hw => ((conv => (lhs; whnf)); first | done | with_reducible rfl)) | (refine wpPlan_skip2 rfl ?hw ?_; case hw => ((conv => (lhs; whnf)); first | done | with_reducible rfl)) | (refine wpPlan_read1 rfl ?hw rfl (fun _ _ _ => ?_); case hw => ((conv => (lhs; whnf)); first | done | with_reducible rfl)) | refine wpPlan_fork ?_ ?_) | ((with_reducible show Owed _ _ _ _ _ _ _ _ _); first | refine Owed.none_ ?_ | refine Owed.nil_ ?_ | refine Owed.miss rfl ?_ | refine Owed.hit ?_ ?_) | ((with_reducible show Same _ _ _ _ _); intro _; go_simp; done) | (with_reducible exact True.intro) | ((with_reducible show Code.wp _ (Code.region 4 _ true) _ _ _); refine wp_region_plan [(0, 0, []), (1, 0, []), (2, 0, []), (3, 0, []), (4, 1, []), (5, 1, []), (6, 1, []), (7, 0, []), (8, 0, []), (9, 0, []), (10, 1, []), (11, 1, []), (12, 1, []), (13, 1, []), (14, 1, []), (15, 2, []), (16, 1, [])] (by kernel_rfl) (by kernel_rfl) (by kernel_rfl) ?_))
        go_roundw
        case rel => exact ⟨k + 1, by omega, by go_num, Lib.hid ⟨HB.out, HBW.out⟩⟩
        case measure => simp [intOf]; omega
    · have hkn : k = n := by omega
      subst hkn
      have HD := Lib.hid (show covB l l2 cl = true from by
        have h1 := HW.out.1
        rwa [List.take_of_length_le (by rw [HL.out]; exact Nat.le_refl _)] at h1)
      go_wp2_with fail
      go_ret
      exact ⟨ret_bool HD.out.symm, HW.out.2⟩

end Go.Proofs.Ytmciinikfjfegaa
