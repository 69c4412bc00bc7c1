/- loose and valid systems: the reference's -/
import Derived.Test.YtonpdclccgpceaaRwV2
namespace Go.Proofs.Ytonpdclccgpceaa
open Go Go.RowKit
set_option maxHeartbeats 4000000

set_option maxRecDepth 100000 in
theorem rlooseL_any (A : Option Addr) (n c B : Nat) (ls : List (List Arc)) (w : World) (h : RdL w B A n ls) (hB : B ≤ w.heap.size) (hn : n ≤ 9223372036854775807) (hs : ∀ l ∈ ls, l.length ≤ 1000000000000) :
    Calls Try.prog 38 #[lts A n c] w fun e w' => e = .returned (.bool (looseB ls)) ∧ Below w.heap.size w w' := by
  have HL := Lib.hid h.len
  have H := Lib.hid h
  have HS := Lib.hid hs
  have HB0 := Lib.hid ((Below.refl w.heap.size w).alloc (Nat.le_refl _) (.cells #[.slice A n c] 25))
  have HN0 := Lib.hid (Blk.new w 25 #[.slice A n c])
  obtain ⟨r, hr⟩ : ∃ r, looseB ls = r := ⟨_, rfl⟩
  rw [hr]
  have HR := Lib.hid hr
  clear h hr hs
  by_cases hn1 : n < 1
  · have hf : r = false := HR.out ▸ loose_len (by rw [HL.out]; omega)
    subst hf
    go_enter Try.func38, Try.ntmps38
    go_wp2
    go_ret
    exact ⟨rfl, HB0.out⟩
  by_cases hn2 : 16384 < n
  · have hf : r = false := HR.out ▸ loose_len (by rw [HL.out]; omega)
    subst hf
    go_enter Try.func38, Try.ntmps38
    go_wp2
    go_ret
    exact ⟨rfl, HB0.out⟩
  go_enter Try.func38, Try.ntmps38
  go_wp2
  go_loopw [4, 5] (fun vm vk wr => ∃ (k m : Nat), k ≤ n ∧ vk = .int .i64 k ∧ vm = .int .i64 m ∧ Hid (m = total (ls.take k)) ∧ m ≤ 262144 ∧ Hid ((ls.take k).all (fun l => l.all (okA ls.length)) = true ∧ Blk wr w.heap.size 25 #[.slice A n c] ∧ Below w.heap.size w wr)) (fun _ vk _ => n - (intOf vk).toNat)
  case atStart => exact ⟨0, 0, Nat.zero_le _, rfl, rfl, Lib.hid (by simp [total]), by omega, Lib.hid ⟨by simp, HN0.out, HB0.out⟩⟩
  case round =>
    obtain ⟨k, m, hk, rfl, rfl, HM, hm2, HW⟩ := hrel
    have hNc := HW.out.2.1.cell
    have hNl := HW.out.2.1.lt
    by_cases hlt : k < n
    · obtain ⟨b1, o1, l, A', n', c', rfl, hb1, hl, hln, e0, hrow⟩ := (H.out.keep (w' := wr) (fun p hp => HW.out.2.2.cell (by omega))).row hlt
      have HROW := Lib.hid hrow
      have HLL := Lib.hid hl
      have HE0 := Lib.hid e0
      have HTT := Lib.hid (total_take ls k l hl)
      have hll := HS.out l (List.mem_of_getElem? hl)
      have hb1l : b1 < wr.heap.size := by have := HW.out.2.2.size; omega
      clear hrow hl
      by_cases hbig : 262144 < m + n'
      · have hf : r = false := HR.out ▸ loose_total (k := k + 1) (by have := HM.out; have := HTT.out; omega)
        subst hf
        go_wp2
        go_ret
        exact ⟨rfl, HW.out.2.2⟩
      · go_wp2
        go_loopw [6] (fun vj wr' => ∃ (j : Nat), j ≤ n' ∧ vj = .int .i64 j ∧ Hid ((l.take j).all (okA ls.length) = true ∧ Blk wr' w.heap.size 25 #[.slice (some ⟨b1, o1, none⟩) n c] ∧ Below w.heap.size wr wr')) (fun vj _ => n' - (intOf vj).toNat)
        case atStart => exact ⟨0, Nat.zero_le _, rfl, Lib.hid ⟨by simp, HW.out.2.1, Below.refl _ _⟩⟩
        case round =>
          clear hNc hNl
          obtain ⟨j, hj, rfl, HV⟩ := hrel
          have hNc := HV.out.2.1.cell
          have hNl := HV.out.2.1.lt
          have e1 := (HV.out.2.2.cell (p := ⟨b1, o1 + k, none⟩) (by dsimp only; omega)).trans HE0.out
          have hb1l2 : b1 < wr.heap.size := by have := HV.out.2.2.size; omega
          by_cases hlt2 : j < n'
          · obtain ⟨b2, o2, a, rfl, hb2, ha, d0, d1⟩ := (HROW.out.keep (w' := wr) (fun p hp => HV.out.2.2.cell (by omega))).arc hlt2
            obtain ⟨ae, at_⟩ := a
            have HA := Lib.hid ha
            have HBQ := Lib.hid (HW.out.2.2.trans HV.out.2.2)
            have HBA := Lib.hid (HV.out.2.2.alloc HBQ.out.size (.cells #[.int .i64 ae, .int .i64 at_] 55))
            have HBB := Lib.hid (HBQ.out.alloc HBQ.out.size (.cells #[.int .i64 ae, .int .i64 at_] 55))
            have HNA := Lib.hid (HV.out.2.1.alloc (.cells #[.int .i64 ae, .int .i64 at_] 55))
            have hb2l : b2 < wr.heap.size := by have := HBQ.out.size; omega
            clear ha
            dsimp only at d0 d1
            have hls := HL.out
            by_cases hok : (0 ≤ ae ∧ ae ≤ 1025) ∧ 0 ≤ at_ ∧ at_ < n
            · have HO := Lib.hid (show okA ls.length ⟨ae, at_⟩ = true by
                unfold okA
                rw [Bool.and_eq_true, decide_eq_true_eq, decide_eq_true_eq, hls]
                exact hok)
              obtain ⟨⟨q1, q2⟩, q3, q4⟩ := hok
              clear hls
              go_wp2
              go_roundw
              case rel => exact ⟨j + 1, by omega, by go_num, Lib.hid ⟨all_take HA.out HO.out HV.out.1, HNA.out, HBA.out⟩⟩
              case measure => simp [intOf]; omega
            · have HO := Lib.hid (show r = false from HR.out ▸ loose_bad HLL.out HA.out (by
                unfold okA
                rw [Bool.and_eq_false_iff, decide_eq_false_iff_not, decide_eq_false_iff_not, hls]
                dsimp only
                omega))
              clear hls
              have h4 : ae < 0 ∨ (0 ≤ ae ∧ 1025 < ae) ∨ ((0 ≤ ae ∧ ae ≤ 1025) ∧ at_ < 0) ∨ ((0 ≤ ae ∧ ae ≤ 1025) ∧ 0 ≤ at_ ∧ (n : Int) ≤ at_) := by omega
              clear hok
              rcases h4 with q1 | ⟨q1, q2⟩ | ⟨⟨q1, q2⟩, q3⟩ | ⟨⟨q1, q2⟩, q3, q4⟩
              all_goals (go_wp2; go_ret; exact ⟨ret_bool HO.out.symm, HBB.out⟩)
          · have hj2 : l.take j = l := List.take_of_length_le (by omega)
            have HA := Lib.hid (hj2 ▸ HV.out.1)
            have HBQ := Lib.hid (HW.out.2.2.trans HV.out.2.2)
            clear hj2
            go_wp2
            go_roundw
            case rel => exact ⟨k + 1, m + n', by omega, by go_num, by go_num, Lib.hid (by have := HM.out; have := HTT.out; omega), by omega, Lib.hid ⟨all_take HLL.out HA.out HW.out.1, HV.out.2.1, HBQ.out⟩⟩
            case measure => simp [intOf]; omega
    · have hk2 : ls.take k = ls := List.take_of_length_le (by rw [HL.out]; omega)
      have hA := HW.out.1
      rw [hk2] at hA
      have hm := HM.out
      rw [hk2] at hm
      have HO := Lib.hid (show r = true from HR.out ▸ loose_ok (by rw [HL.out]; omega) (by rw [HL.out]; omega) (by omega) hA)
      clear hk2 hA hm
      go_wp2
      go_ret
      exact ⟨ret_bool HO.out.symm, HW.out.2.2⟩

set_option maxRecDepth 100000 in
theorem rvalidL_any (A : Option Addr) (n c B : Nat) (ls : List (List Arc)) (w : World) (h : RdL w B A n ls) (hB : B ≤ w.heap.size) (hn : n ≤ 9223372036854775807) (hs : ∀ l ∈ ls, l.length ≤ 1000000000000) :
    Calls Try.prog 42 #[lts A n c] w fun e w' => e = .returned (.bool (validB ls)) ∧ Below w.heap.size w w' := by
  have HL := Lib.hid h.len
  have H := Lib.hid h
  have HS := Lib.hid hs
  have HB0 := Lib.hid ((Below.refl w.heap.size w).alloc (Nat.le_refl _) (.cells #[.slice A n c] 25))
  have HN0 := Lib.hid (Blk.new w 25 #[.slice A n c])
  have HR0 := Lib.hid (h.alloc hB (.cells #[.slice A n c] 25))
  obtain ⟨r, hr⟩ : ∃ r, validB ls = r := ⟨_, rfl⟩
  obtain ⟨q, hq⟩ : ∃ q, looseB ls = q := ⟨_, rfl⟩
  rw [hr]
  have HR := Lib.hid hr
  have HQ := Lib.hid hq
  clear h hr hq hs
  go_enter Try.func42, Try.ntmps42
  go_wp2_with fail
  refine (rlooseL_any A n c B ls _ HR0.out (by simp; omega) hn HS.out).mono ?_
  rw [HQ.out]
  rintro e w1 ⟨rfl, hb1⟩
  have HB1 := Lib.hid (HB0.out.trans (hb1.mono (by simp)))
  have HN1 := Lib.hid (HN0.out.below hb1 HN0.out.lt)
  clear hb1 HN0 HR0
  cases q
  · have HF := Lib.hid (show r = false from HR.out ▸ valid_loose HQ.out)
    go_wp2_with fail
    go_ret
    exact ⟨ret_bool HF.out.symm, HB1.out⟩
  · go_wp2_with fail
    go_loopw [3] (fun vk wr => ∃ k : Nat, k ≤ n ∧ vk = .int .i64 k ∧ Hid ((ls.take k).all ascB = true ∧ Blk wr w.heap.size 25 #[.slice A n c] ∧ Below w.heap.size w wr)) (fun vk _ => n - (intOf vk).toNat)
    case atStart => exact ⟨0, Nat.zero_le _, rfl, Lib.hid ⟨by simp, HN1.out, HB1.out⟩⟩
    case round =>
      obtain ⟨k, hk, rfl, HW⟩ := hrel
      have hNc := HW.out.2.1.cell
      have hNl := HW.out.2.1.lt
      by_cases hlt : k < n
      · obtain ⟨b1, o1, l, A', n', c', rfl, hb1, hl, hln, e0, hrow⟩ := (H.out.keep (w' := wr) (fun p hp => HW.out.2.2.cell (by omega))).row hlt
        have HROW := Lib.hid hrow
        have HLL := Lib.hid hl
        have HE0 := Lib.hid e0
        have hll := HS.out l (List.mem_of_getElem? hl)
        clear hrow hl e0
        go_wp2_with fail
        go_loopw [4] (fun vi wr' => ∃ (i : Nat), 1 ≤ i ∧ i ≤ n' + 1 ∧ vi = .int .i64 i ∧ Hid (ascB (l.take i) = true ∧ Blk wr' w.heap.size 25 #[.slice (some ⟨b1, o1, none⟩) n c] ∧ Below w.heap.size wr wr')) (fun vi _ => n' + 1 - (intOf vi).toNat)
        case atStart => exact ⟨1, Nat.le_refl _, by omega, rfl, Lib.hid ⟨by cases l <;> simp [ascB], HW.out.2.1, Below.refl _ _⟩⟩
        case round =>
          clear hNc hNl
          obtain ⟨i, hi1, hi, rfl, HV⟩ := hrel
          have hNc := HV.out.2.1.cell
          have hNl := HV.out.2.1.lt
          have e1 := (HV.out.2.2.cell (p := ⟨b1, o1 + k, none⟩) (by dsimp only; omega)).trans HE0.out
          have hb1l2 : b1 < wr.heap.size := by have := HV.out.2.2.size; have := HW.out.2.2.size; omega
          by_cases hlt2 : i < n'
          · obtain ⟨b2, o2, a, rfl, hb2, ha, d0, d1⟩ := (HROW.out.keep (w' := wr) (fun p hp => HV.out.2.2.cell (by omega))).arc (i := i - 1) (by omega)
            obtain ⟨b3, o3, b, hab, hb3, hbb, f0, f1⟩ := (HROW.out.keep (w' := wr) (fun p hp => HV.out.2.2.cell (by omega))).arc hlt2
            obtain ⟨rfl, rfl⟩ : b2 = b3 ∧ o2 = o3 := by simpa using hab
            obtain ⟨ae, at_⟩ := a
            obtain ⟨be, bt⟩ := b
            have HA := Lib.hid ha
            have HBB := Lib.hid hbb
            obtain ⟨j, rfl⟩ : ∃ j, i = j + 1 := ⟨i - 1, by omega⟩
            have HBQ := Lib.hid (HW.out.2.2.trans HV.out.2.2)
            dsimp only at d0 d1 f0 f1
            simp only [Nat.add_sub_cancel] at d0 d1
            obtain ⟨x, hx⟩ : ∃ x, lessB ⟨ae, at_⟩ ⟨be, bt⟩ = x := ⟨_, rfl⟩
            have HX := Lib.hid hx
            clear ha hbb hab hx
            have hlt3 : b2 < wr.heap.size := by have := HBQ.out.size; omega
            go_wp2_with (first | ((with_reducible show wpPlan _ _ _ [] _ _ _); refine wpPlan_nil ?_) | ((with_reducible show wpPlan _ _ _ ((_, 0, _) :: _) _ _ _); first | (refine wpPlan_read0 rfl ?hw rfl (fun _ _ _ => ?_); case hw => ((conv => (lhs; whnf)); first | done | with_reducible rfl)) | (refine wpPlan_skip0 rfl ?hw ?_; (case hw => ((conv => (lhs; whnf)); first | done | with_reducible rfl)); (try simp only [List.getElem_toArray, List.getElem_cons_succ, List.getElem_cons_zero, Act.put, List.setIfInBounds_toArray, List.set_cons_zero, List.set_cons_succ]))) | ((with_reducible show wpPlan _ _ _ ((_, 1, _) :: _) _ _ _); first | (refine wpPlan_read1d rfl ?hw rfl rfl (fun _ _ _ => ?_); case hw => ((conv => (lhs; whnf)); first | done | with_reducible rfl)) | (refine wpPlan_skip1d rfl ?hw ?_; (case hw => ((conv => (lhs; whnf)); first | done | with_reducible rfl)); (try simp only [List.getElem_toArray, List.getElem_cons_succ, List.getElem_cons_zero, Act.put, List.setIfInBounds_toArray, List.set_cons_zero, List.set_cons_succ])) | (refine wpPlan_read1 rfl ?hw rfl (fun _ _ _ => ?_); case hw => ((conv => (lhs; whnf)); first | done | with_reducible rfl))) | ((with_reducible show wpPlan _ _ _ ((_, 2, _) :: _) _ _ _); first | (refine wpPlan_eff rfl ?hw (fun _ _ => ?_); case hw => ((conv => (lhs; whnf)); first | done | with_reducible rfl)) | (refine wpPlan_skip2 rfl ?hw ?_; (case hw => ((conv => (lhs; whnf)); first | done | with_reducible rfl)); (try simp only [List.getElem_toArray, List.getElem_cons_succ, List.getElem_cons_zero, Act.put, List.setIfInBounds_toArray, List.set_cons_zero, List.set_cons_succ]))) | ((with_reducible show wpPlan _ _ _ _ _ _ _); refine wpPlan_fork ?_ ?_) | ((with_reducible show Owed _ _ _ [] _ _ _ _ _); refine Owed.none_ ?_) | ((with_reducible show Owed _ _ _ _ [] _ _ _ _); refine Owed.nil_ ?_) | ((with_reducible show Owed _ _ _ _ _ _ _ _ _); first | (refine Owed.miss rfl ?_) | (refine Owed.hit ?_ ?_)) | ((with_reducible show Same _ _ _ _ _); intro _; go_simp; done) | (with_reducible exact True.intro) | ((with_reducible show Code.wp _ (Code.region 9 _ true) _ _ _); refine wp_region_plan [(0, 1, []), (1, 1, []), (2, 0, []), (3, 1, []), (4, 1, []), (5, 0, []), (6, 1, []), (7, 1, []), (8, 1, []), (9, 1, []), (10, 1, []), (11, 0, []), (12, 1, []), (13, 1, []), (14, 0, []), (15, 1, []), (16, 1, []), (17, 2, []), (18, 1, [])] (by kernel_rfl) (by kernel_rfl) (by kernel_rfl) ?_))
            refine (less_any ⟨ae, at_⟩ ⟨be, bt⟩ _).mono ?_
            rw [HX.out]
            rintro e w3 ⟨rfl, hb3⟩
            have hbb3 : Below wr.heap.size wr w3 := (below_drewN (Below.refl wr.heap.size wr) 1).trans hb3
            have HB3 := Lib.hid (HV.out.2.2.trans (hbb3.mono HBQ.out.size))
            have HBQ3 := Lib.hid (HBQ.out.trans (hbb3.mono HBQ.out.size))
            have HN3 := Lib.hid (HV.out.2.1.below hbb3 HV.out.2.1.lt)
            clear hb3 hbb3 d0 d1 f0 f1 hlt3 e1 hNc hNl
            cases x
            · have HF := Lib.hid (show r = false from HR.out ▸ valid_bad HLL.out (asc_bad (i := j + 1) (by omega) (by simpa using HA.out) HBB.out HX.out))
              go_wp2_with (first | ((with_reducible show wpPlan _ _ _ [] _ _ _); refine wpPlan_nil ?_) | ((with_reducible show wpPlan _ _ _ ((_, 0, _) :: _) _ _ _); first | (refine wpPlan_read0 rfl ?hw rfl (fun _ _ _ => ?_); case hw => ((conv => (lhs; whnf)); first | done | with_reducible rfl)) | (refine wpPlan_skip0 rfl ?hw ?_; (case hw => ((conv => (lhs; whnf)); first | done | with_reducible rfl)); (try simp only [List.getElem_toArray, List.getElem_cons_succ, List.getElem_cons_zero, Act.put, List.setIfInBounds_toArray, List.set_cons_zero, List.set_cons_succ]))) | ((with_reducible show wpPlan _ _ _ ((_, 1, _) :: _) _ _ _); first | (refine wpPlan_read1d rfl ?hw rfl rfl (fun _ _ _ => ?_); case hw => ((conv => (lhs; whnf)); first | done | with_reducible rfl)) | (refine wpPlan_skip1d rfl ?hw ?_; (case hw => ((conv => (lhs; whnf)); first | done | with_reducible rfl)); (try simp only [List.getElem_toArray, List.getElem_cons_succ, List.getElem_cons_zero, Act.put, List.setIfInBounds_toArray, List.set_cons_zero, List.set_cons_succ])) | (refine wpPlan_read1 rfl ?hw rfl (fun _ _ _ => ?_); case hw => ((conv => (lhs; whnf)); first | done | with_reducible rfl))) | ((with_reducible show wpPlan _ _ _ ((_, 2, _) :: _) _ _ _); first | (refine wpPlan_eff rfl ?hw (fun _ _ => ?_); case hw => ((conv => (lhs; whnf)); first | done | with_reducible rfl)) | (refine wpPlan_skip2 rfl ?hw ?_; (case hw => ((conv => (lhs; whnf)); first | done | with_reducible rfl)); (try simp only [List.getElem_toArray, List.getElem_cons_succ, List.getElem_cons_zero, Act.put, List.setIfInBounds_toArray, List.set_cons_zero, List.set_cons_succ]))) | ((with_reducible show wpPlan _ _ _ _ _ _ _); refine wpPlan_fork ?_ ?_) | ((with_reducible show Owed _ _ _ [] _ _ _ _ _); refine Owed.none_ ?_) | ((with_reducible show Owed _ _ _ _ [] _ _ _ _); refine Owed.nil_ ?_) | ((with_reducible show Owed _ _ _ _ _ _ _ _ _); first | (refine Owed.miss rfl ?_) | (refine Owed.hit ?_ ?_)) | ((with_reducible show Same _ _ _ _ _); intro _; go_simp; done) | (with_reducible exact True.intro) | ((with_reducible show Code.wp _ (Code.region 9 _ true) _ _ _); refine wp_region_plan [(0, 1, []), (1, 1, []), (2, 0, []), (3, 1, []), (4, 1, []), (5, 0, []), (6, 1, []), (7, 1, []), (8, 1, []), (9, 1, []), (10, 1, []), (11, 0, []), (12, 1, []), (13, 1, []), (14, 0, []), (15, 1, []), (16, 1, []), (17, 2, []), (18, 1, [])] (by kernel_rfl) (by kernel_rfl) (by kernel_rfl) ?_))
              go_ret
              exact ⟨ret_bool HF.out.symm, HBQ3.out⟩
            · have HF := Lib.hid (show ascB (l.take (j + 1 + 1)) = true by rw [asc_next (i := j + 1) (by omega) (by simpa using HA.out) HBB.out, HV.out.1, HX.out]; rfl)
              go_wp2_with (first | ((with_reducible show wpPlan _ _ _ [] _ _ _); refine wpPlan_nil ?_) | ((with_reducible show wpPlan _ _ _ ((_, 0, _) :: _) _ _ _); first | (refine wpPlan_read0 rfl ?hw rfl (fun _ _ _ => ?_); case hw => ((conv => (lhs; whnf)); first | done | with_reducible rfl)) | (refine wpPlan_skip0 rfl ?hw ?_; (case hw => ((conv => (lhs; whnf)); first | done | with_reducible rfl)); (try simp only [List.getElem_toArray, List.getElem_cons_succ, List.getElem_cons_zero, Act.put, List.setIfInBounds_toArray, List.set_cons_zero, List.set_cons_succ]))) | ((with_reducible show wpPlan _ _ _ ((_, 1, _) :: _) _ _ _); first | (refine wpPlan_read1d rfl ?hw rfl rfl (fun _ _ _ => ?_); case hw => ((conv => (lhs; whnf)); first | done | with_reducible rfl)) | (refine wpPlan_skip1d rfl ?hw ?_; (case hw => ((conv => (lhs; whnf)); first | done | with_reducible rfl)); (try simp only [List.getElem_toArray, List.getElem_cons_succ, List.getElem_cons_zero, Act.put, List.setIfInBounds_toArray, List.set_cons_zero, List.set_cons_succ])) | (refine wpPlan_read1 rfl ?hw rfl (fun _ _ _ => ?_); case hw => ((conv => (lhs; whnf)); first | done | with_reducible rfl))) | ((with_reducible show wpPlan _ _ _ ((_, 2, _) :: _) _ _ _); first | (refine wpPlan_eff rfl ?hw (fun _ _ => ?_); case hw => ((conv => (lhs; whnf)); first | done | with_reducible rfl)) | (refine wpPlan_skip2 rfl ?hw ?_; (case hw => ((conv => (lhs; whnf)); first | done | with_reducible rfl)); (try simp only [List.getElem_toArray, List.getElem_cons_succ, List.getElem_cons_zero, Act.put, List.setIfInBounds_toArray, List.set_cons_zero, List.set_cons_succ]))) | ((with_reducible show wpPlan _ _ _ _ _ _ _); refine wpPlan_fork ?_ ?_) | ((with_reducible show Owed _ _ _ [] _ _ _ _ _); refine Owed.none_ ?_) | ((with_reducible show Owed _ _ _ _ [] _ _ _ _); refine Owed.nil_ ?_) | ((with_reducible show Owed _ _ _ _ _ _ _ _ _); first | (refine Owed.miss rfl ?_) | (refine Owed.hit ?_ ?_)) | ((with_reducible show Same _ _ _ _ _); intro _; go_simp; done) | (with_reducible exact True.intro) | ((with_reducible show Code.wp _ (Code.region 9 _ true) _ _ _); refine wp_region_plan [(0, 1, []), (1, 1, []), (2, 0, []), (3, 1, []), (4, 1, []), (5, 0, []), (6, 1, []), (7, 1, []), (8, 1, []), (9, 1, []), (10, 1, []), (11, 0, []), (12, 1, []), (13, 1, []), (14, 0, []), (15, 1, []), (16, 1, []), (17, 2, []), (18, 1, [])] (by kernel_rfl) (by kernel_rfl) (by kernel_rfl) ?_))
              go_roundw
              case rel => exact ⟨j + 2, by omega, by omega, by go_num, Lib.hid ⟨HF.out, HN3.out, HB3.out⟩⟩
              case measure => simp [intOf]; omega
          · have hj2 : l.take i = l := List.take_of_length_le (by omega)
            have HA := Lib.hid (hj2 ▸ HV.out.1)
            have HBQ := Lib.hid (HW.out.2.2.trans HV.out.2.2)
            clear hj2
            go_wp2_with fail
            go_roundw
            case rel => exact ⟨k + 1, by omega, by go_num, Lib.hid ⟨all_take HLL.out HA.out HW.out.1, HV.out.2.1, HBQ.out⟩⟩
            case measure => simp [intOf]; omega
      · have hk2 : ls.take k = ls := List.take_of_length_le (by rw [HL.out]; omega)
        have HF := Lib.hid (show r = true from HR.out ▸ valid_ok HQ.out (hk2 ▸ HW.out.1))
        clear hk2
        go_wp2_with fail
        go_ret
        exact ⟨ret_bool HF.out.symm, HW.out.2.2⟩

end Go.Proofs.Ytonpdclccgpceaa
