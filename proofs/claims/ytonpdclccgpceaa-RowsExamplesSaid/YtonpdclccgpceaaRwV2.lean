/- valid systems: the program's Valid, the reference's Loose and Valid -/
import Derived.Test.YtonpdclccgpceaaRwV
namespace Go.Proofs.Ytonpdclccgpceaa
open Go Go.RowKit
set_option maxHeartbeats 4000000

theorem ascB_snoc : ∀ (l : List Arc) (a b : Arc), ascB (l ++ [a, b]) = (ascB (l ++ [a]) && lessB a b)
  | [], a, b => by simp [ascB]
  | [x], a, b => by simp [ascB]
  | x :: y :: r, a, b => by
    have h := ascB_snoc (y :: r) a b
    rw [List.cons_append, List.cons_append] at h
    show (lessB x y && ascB (y :: (r ++ [a, b]))) = ((lessB x y && ascB (y :: (r ++ [a]))) && lessB a b)
    rw [h, Bool.and_assoc]
theorem ascB_take : ∀ (l : List Arc) (k : Nat), ascB l = true → ascB (l.take k) = true
  | [], k, _ => by simp [ascB]
  | [a], k, _ => by cases k <;> simp [ascB]
  | a :: b :: r, 0, _ => rfl
  | a :: b :: r, 1, _ => rfl
  | a :: b :: r, k + 2, h => by
    rw [ascB, Bool.and_eq_true] at h
    have h2 := ascB_take (b :: r) (k + 1) h.2
    show (lessB a b && ascB ((b :: r).take (k + 1))) = true
    rw [h.1, h2]
    rfl
theorem asc_next {l : List Arc} {i : Nat} {a b : Arc} (hi : 1 ≤ i) (ha : l[i - 1]? = some a) (hb : l[i]? = some b) : ascB (l.take (i + 1)) = (ascB (l.take i) && lessB a b) := by
  obtain ⟨h1, e1⟩ := List.getElem?_eq_some_iff.1 ha
  obtain ⟨h2, e2⟩ := List.getElem?_eq_some_iff.1 hb
  obtain ⟨j, rfl⟩ : ∃ j, i = j + 1 := ⟨i - 1, by omega⟩
  have t1 : l.take (j + 1) = l.take j ++ [a] := by
    rw [List.take_succ_eq_append_getElem (by omega)]
    congr 2
  rw [List.take_succ_eq_append_getElem h2, e2, t1, List.append_assoc]
  exact ascB_snoc _ _ _
theorem asc_bad {l : List Arc} {i : Nat} {a b : Arc} (hi : 1 ≤ i) (ha : l[i - 1]? = some a) (hb : l[i]? = some b) (h : lessB a b = false) : ascB l = false := by
  cases hq : ascB l with
  | false => rfl
  | true =>
    have h1 := ascB_take l (i + 1) hq
    rw [asc_next hi ha hb, h, Bool.and_false] at h1
    cases h1
theorem valid_loose {ls : List (List Arc)} (h : looseB ls = false) : validB ls = false := by rw [validB, h]; rfl
theorem valid_bad {ls : List (List Arc)} {k : Nat} {l : List Arc} (h : ls[k]? = some l) (hl : ascB l = false) : validB ls = false := by
  rw [validB, Bool.and_eq_false_iff]
  right
  rw [Bool.eq_false_iff]
  intro h2
  have h3 := List.all_eq_true.1 h2 l (List.mem_of_getElem? h)
  rw [hl] at h3
  cases h3
theorem valid_ok {ls : List (List Arc)} (h1 : looseB ls = true) (h2 : ls.all ascB = true) : validB ls = true := by rw [validB, h1, h2]; rfl

set_option maxRecDepth 100000 in
theorem less_any (a b : Arc) (w : World) : Calls Try.prog 63 #[a.v, b.v] w fun e w' => e = .returned (.bool (lessB a b)) ∧ Below w.heap.size w w' := by
  obtain ⟨ae, at_⟩ := a
  obtain ⟨be, bt⟩ := b
  have HB := Lib.hid (((Below.refl w.heap.size w).alloc (Nat.le_refl _) (.cells #[.int .i64 ae, .int .i64 at_] 55)).alloc (by simp) (.cells #[.int .i64 be, .int .i64 bt] 55))
  obtain ⟨r, hr⟩ : ∃ r, lessB ⟨ae, at_⟩ ⟨be, bt⟩ = r := ⟨_, rfl⟩
  rw [hr]
  unfold lessB at hr
  dsimp only at hr
  by_cases h1 : ae < be
  · have HR := Lib.hid (show true = r by rw [← hr]; simp [h1])
    clear hr
    go_enter Try.func63, Try.ntmps63
    go_wp2
    go_ret
    exact ⟨ret_bool HR.out, HB.out⟩
  · by_cases h2 : ae = be
    · subst h2
      by_cases h3 : at_ < bt
      · have HR := Lib.hid (show true = r by rw [← hr]; simp [h3])
        clear hr
        go_enter Try.func63, Try.ntmps63
        go_wp2
        go_ret
        exact ⟨ret_bool HR.out, HB.out⟩
      · have HR := Lib.hid (show false = r by rw [← hr]; simp [h3])
        clear hr
        go_enter Try.func63, Try.ntmps63
        go_wp2
        go_ret
        exact ⟨ret_bool HR.out, HB.out⟩
    · have h2b : (ae == be) = false := beq_eq_false_iff_ne.2 h2
      have HR := Lib.hid (show false = r by rw [← hr]; simp [h1, h2])
      clear hr
      go_enter Try.func63, Try.ntmps63
      go_wp2
      go_ret
      exact ⟨ret_bool HR.out, HB.out⟩

set_option maxRecDepth 100000 in
theorem validL_any (A : Option Addr) (n c B : Nat) (ls : List (List Arc)) (w : World) (h : RdL w B A n ls) (hB : B ≤ w.heap.size) (hn : n ≤ 9223372036854775807) (hs : ∀ l ∈ ls, l.length ≤ 1000000000000) :
    Calls Try.prog 44 #[lts A n c] w fun e w' => e = .returned (.bool (validB ls)) ∧ Below w.heap.size w w' := by
  have HL := Lib.hid h.len
  have H := Lib.hid h
  have HS := Lib.hid hs
  have HB0 := Lib.hid ((Below.refl w.heap.size w).alloc (Nat.le_refl _) (.cells #[.slice A n c] 25))
  have HN0 := Lib.hid (Blk.new w 25 #[.slice A n c])
  have HR0 := Lib.hid (h.alloc hB (.cells #[.slice A n c] 25))
  obtain ⟨r, hr⟩ : ∃ r, validB ls = r := ⟨_, rfl⟩
  obtain ⟨q, hq⟩ : ∃ q, looseB ls = q := ⟨_, rfl⟩
  rw [hr]
  have HR := Lib.hid hr
  have HQ := Lib.hid hq
  clear h hr hq hs
  go_enter Try.func44, Try.ntmps44
  go_wp2_with fail
  refine (loose_any A n c B ls _ HR0.out (by simp; omega) hn).mono ?_
  rw [HQ.out]
  rintro e w1 ⟨rfl, hb1⟩
  have HB1 := Lib.hid (HB0.out.trans (hb1.mono (by simp)))
  have hN1 := HN0.out.below hb1 HN0.out.lt
  have hN1c := hN1.cell
  have hN1l := hN1.lt
  clear hb1 hN1 HN0 HR0
  cases q
  · have HF := Lib.hid (show r = false from HR.out ▸ valid_loose HQ.out)
    go_wp2_with fail
    go_ret
    exact ⟨ret_bool HF.out.symm, HB1.out⟩
  · go_wp2_with fail
    go_loopw [12] (fun vk wr => ∃ k : Nat, k ≤ n ∧ vk = .int .i64 k ∧ Hid ((ls.take k).all ascB = true ∧ Below w.heap.size w wr)) (fun vk _ => n - (intOf vk).toNat)
    case atStart => exact ⟨0, Nat.zero_le _, rfl, Lib.hid ⟨by simp, HB1.out⟩⟩
    case round =>
      obtain ⟨k, hk, rfl, HW⟩ := hrel
      clear hN1c hN1l
      by_cases hlt : k < n
      · obtain ⟨b1, o1, l, A', n', c', rfl, hb1, hl, hln, e0, hrow⟩ := (H.out.keep (w' := wr) (fun p hp => HW.out.2.cell (by omega))).row hlt
        have HROW := Lib.hid hrow
        have HLL := Lib.hid hl
        have hll := HS.out l (List.mem_of_getElem? hl)
        clear hrow hl
        go_wp2_with fail
        go_loopw [5] (fun vi wr' => ∃ (i : Nat), 1 ≤ i ∧ i ≤ n' + 1 ∧ vi = .int .i64 i ∧ Hid (ascB (l.take i) = true ∧ Below w.heap.size wr wr')) (fun vi _ => n' + 1 - (intOf vi).toNat)
        case atStart => exact ⟨1, Nat.le_refl _, by omega, rfl, Lib.hid ⟨by cases l <;> simp [ascB], Below.refl _ _⟩⟩
        case round =>
          obtain ⟨i, hi1, hi, rfl, HV⟩ := hrel
          by_cases hlt2 : i < n'
          · obtain ⟨b2, o2, a, rfl, hb2, ha, d0, d1⟩ := (HROW.out.keep (w' := wr) (fun p hp => HV.out.2.cell (by omega))).arc (i := i - 1) (by omega)
            obtain ⟨b3, o3, b, hab, hb3, hbb, f0, f1⟩ := (HROW.out.keep (w' := wr) (fun p hp => HV.out.2.cell (by omega))).arc hlt2
            obtain ⟨rfl, rfl⟩ : b2 = b3 ∧ o2 = o3 := by simpa using hab
            obtain ⟨ae, at_⟩ := a
            obtain ⟨be, bt⟩ := b
            have HA := Lib.hid ha
            have HBB := Lib.hid hbb
            obtain ⟨j, rfl⟩ : ∃ j, i = j + 1 := ⟨i - 1, by omega⟩
            have hBQ := HW.out.2.trans HV.out.2
            have HBQ := Lib.hid hBQ
            dsimp only at d0 d1 f0 f1
            simp only [Nat.add_sub_cancel] at d0 d1
            have hcm := arcCmp_less ⟨ae, at_⟩ ⟨be, bt⟩
            obtain ⟨x, hx⟩ : ∃ x, arcCmp ⟨ae, at_⟩ ⟨be, bt⟩ = x := ⟨_, rfl⟩
            rw [hx] at hcm
            have HX := Lib.hid hx
            have HCM := Lib.hid hcm
            clear ha hbb hab hBQ hx hcm
            have hlt3 : b2 < wr.heap.size := by have := HBQ.out.size; omega
            go_wp2_with (first | ((with_reducible show wpPlan _ _ _ [] _ _ _); refine wpPlan_nil ?_) | ((with_reducible show wpPlan _ _ _ ((_, 0, _) :: _) _ _ _); first | (refine wpPlan_read0 rfl ?hw rfl (fun _ _ _ => ?_); case hw => ((conv => (lhs; whnf)); first | done | with_reducible rfl)) | (refine wpPlan_skip0 rfl ?hw ?_; (case hw => ((conv => (lhs; whnf)); first | done | with_reducible rfl)); (try simp only [List.getElem_toArray, List.getElem_cons_succ, List.getElem_cons_zero, Act.put, List.setIfInBounds_toArray, List.set_cons_zero, List.set_cons_succ]))) | ((with_reducible show wpPlan _ _ _ ((_, 1, _) :: _) _ _ _); first | (refine wpPlan_read1d rfl ?hw rfl rfl (fun _ _ _ => ?_); case hw => ((conv => (lhs; whnf)); first | done | with_reducible rfl)) | (refine wpPlan_skip1d rfl ?hw ?_; (case hw => ((conv => (lhs; whnf)); first | done | with_reducible rfl)); (try simp only [List.getElem_toArray, List.getElem_cons_succ, List.getElem_cons_zero, Act.put, List.setIfInBounds_toArray, List.set_cons_zero, List.set_cons_succ])) | (refine wpPlan_read1 rfl ?hw rfl (fun _ _ _ => ?_); case hw => ((conv => (lhs; whnf)); first | done | with_reducible rfl))) | ((with_reducible show wpPlan _ _ _ ((_, 2, _) :: _) _ _ _); first | (refine wpPlan_eff rfl ?hw (fun _ _ => ?_); case hw => ((conv => (lhs; whnf)); first | done | with_reducible rfl)) | (refine wpPlan_skip2 rfl ?hw ?_; (case hw => ((conv => (lhs; whnf)); first | done | with_reducible rfl)); (try simp only [List.getElem_toArray, List.getElem_cons_succ, List.getElem_cons_zero, Act.put, List.setIfInBounds_toArray, List.set_cons_zero, List.set_cons_succ]))) | ((with_reducible show wpPlan _ _ _ _ _ _ _); refine wpPlan_fork ?_ ?_) | ((with_reducible show Owed _ _ _ [] _ _ _ _ _); refine Owed.none_ ?_) | ((with_reducible show Owed _ _ _ _ [] _ _ _ _); refine Owed.nil_ ?_) | ((with_reducible show Owed _ _ _ _ _ _ _ _ _); first | (refine Owed.miss rfl ?_) | (refine Owed.hit ?_ ?_)) | ((with_reducible show Same _ _ _ _ _); intro _; go_simp; done) | (with_reducible exact True.intro) | ((with_reducible show Code.wp _ (Code.region 9 _ true) _ _ _); refine wp_region_plan [(0, 0, []), (1, 0, []), (2, 1, []), (3, 1, []), (4, 1, []), (5, 0, []), (6, 0, []), (7, 1, []), (8, 1, []), (9, 2, []), (10, 1, [])] (by kernel_rfl) (by kernel_rfl) (by kernel_rfl) ?_))
            refine (compare_any ⟨ae, at_⟩ ⟨be, bt⟩ _).mono ?_
            rw [HX.out]
            rintro e w3 ⟨rfl, hb3⟩
            have hbb3 : Below wr.heap.size wr w3 := (below_drewN (Below.refl wr.heap.size wr) 1).trans hb3
            have HB3 := Lib.hid (HV.out.2.trans (hbb3.mono HBQ.out.size))
            have HBQ3 := Lib.hid (HBQ.out.trans (hbb3.mono HBQ.out.size))
            clear hb3 hbb3 d0 d1 f0 f1 hlt3
            by_cases h0 : 0 ≤ x
            · have hle : lessB ⟨ae, at_⟩ ⟨be, bt⟩ = false := by
                have := HCM.out
                rw [decide_eq_true h0] at this
                simpa using this.symm
              have HF := Lib.hid (show r = false from HR.out ▸ valid_bad HLL.out (asc_bad (i := j + 1) (by omega) (by simpa using HA.out) HBB.out hle))
              clear hle
              go_wp2_with (first | ((with_reducible show wpPlan _ _ _ [] _ _ _); refine wpPlan_nil ?_) | ((with_reducible show wpPlan _ _ _ ((_, 0, _) :: _) _ _ _); first | (refine wpPlan_read0 rfl ?hw rfl (fun _ _ _ => ?_); case hw => ((conv => (lhs; whnf)); first | done | with_reducible rfl)) | (refine wpPlan_skip0 rfl ?hw ?_; (case hw => ((conv => (lhs; whnf)); first | done | with_reducible rfl)); (try simp only [List.getElem_toArray, List.getElem_cons_succ, List.getElem_cons_zero, Act.put, List.setIfInBounds_toArray, List.set_cons_zero, List.set_cons_succ]))) | ((with_reducible show wpPlan _ _ _ ((_, 1, _) :: _) _ _ _); first | (refine wpPlan_read1d rfl ?hw rfl rfl (fun _ _ _ => ?_); case hw => ((conv => (lhs; whnf)); first | done | with_reducible rfl)) | (refine wpPlan_skip1d rfl ?hw ?_; (case hw => ((conv => (lhs; whnf)); first | done | with_reducible rfl)); (try simp only [List.getElem_toArray, List.getElem_cons_succ, List.getElem_cons_zero, Act.put, List.setIfInBounds_toArray, List.set_cons_zero, List.set_cons_succ])) | (refine wpPlan_read1 rfl ?hw rfl (fun _ _ _ => ?_); case hw => ((conv => (lhs; whnf)); first | done | with_reducible rfl))) | ((with_reducible show wpPlan _ _ _ ((_, 2, _) :: _) _ _ _); first | (refine wpPlan_eff rfl ?hw (fun _ _ => ?_); case hw => ((conv => (lhs; whnf)); first | done | with_reducible rfl)) | (refine wpPlan_skip2 rfl ?hw ?_; (case hw => ((conv => (lhs; whnf)); first | done | with_reducible rfl)); (try simp only [List.getElem_toArray, List.getElem_cons_succ, List.getElem_cons_zero, Act.put, List.setIfInBounds_toArray, List.set_cons_zero, List.set_cons_succ]))) | ((with_reducible show wpPlan _ _ _ _ _ _ _); refine wpPlan_fork ?_ ?_) | ((with_reducible show Owed _ _ _ [] _ _ _ _ _); refine Owed.none_ ?_) | ((with_reducible show Owed _ _ _ _ [] _ _ _ _); refine Owed.nil_ ?_) | ((with_reducible show Owed _ _ _ _ _ _ _ _ _); first | (refine Owed.miss rfl ?_) | (refine Owed.hit ?_ ?_)) | ((with_reducible show Same _ _ _ _ _); intro _; go_simp; done) | (with_reducible exact True.intro) | ((with_reducible show Code.wp _ (Code.region 9 _ true) _ _ _); refine wp_region_plan [(0, 0, []), (1, 0, []), (2, 1, []), (3, 1, []), (4, 1, []), (5, 0, []), (6, 0, []), (7, 1, []), (8, 1, []), (9, 2, []), (10, 1, [])] (by kernel_rfl) (by kernel_rfl) (by kernel_rfl) ?_))
              go_ret
              exact ⟨ret_bool HF.out.symm, HBQ3.out⟩
            · have hle : lessB ⟨ae, at_⟩ ⟨be, bt⟩ = true := by
                have := HCM.out
                rw [decide_eq_false h0] at this
                simpa using this.symm
              have HF := Lib.hid (show ascB (l.take (j + 1 + 1)) = true by rw [asc_next (i := j + 1) (by omega) (by simpa using HA.out) HBB.out, HV.out.1, hle]; rfl)
              clear hle
              go_wp2_with (first | ((with_reducible show wpPlan _ _ _ [] _ _ _); refine wpPlan_nil ?_) | ((with_reducible show wpPlan _ _ _ ((_, 0, _) :: _) _ _ _); first | (refine wpPlan_read0 rfl ?hw rfl (fun _ _ _ => ?_); case hw => ((conv => (lhs; whnf)); first | done | with_reducible rfl)) | (refine wpPlan_skip0 rfl ?hw ?_; (case hw => ((conv => (lhs; whnf)); first | done | with_reducible rfl)); (try simp only [List.getElem_toArray, List.getElem_cons_succ, List.getElem_cons_zero, Act.put, List.setIfInBounds_toArray, List.set_cons_zero, List.set_cons_succ]))) | ((with_reducible show wpPlan _ _ _ ((_, 1, _) :: _) _ _ _); first | (refine wpPlan_read1d rfl ?hw rfl rfl (fun _ _ _ => ?_); case hw => ((conv => (lhs; whnf)); first | done | with_reducible rfl)) | (refine wpPlan_skip1d rfl ?hw ?_; (case hw => ((conv => (lhs; whnf)); first | done | with_reducible rfl)); (try simp only [List.getElem_toArray, List.getElem_cons_succ, List.getElem_cons_zero, Act.put, List.setIfInBounds_toArray, List.set_cons_zero, List.set_cons_succ])) | (refine wpPlan_read1 rfl ?hw rfl (fun _ _ _ => ?_); case hw => ((conv => (lhs; whnf)); first | done | with_reducible rfl))) | ((with_reducible show wpPlan _ _ _ ((_, 2, _) :: _) _ _ _); first | (refine wpPlan_eff rfl ?hw (fun _ _ => ?_); case hw => ((conv => (lhs; whnf)); first | done | with_reducible rfl)) | (refine wpPlan_skip2 rfl ?hw ?_; (case hw => ((conv => (lhs; whnf)); first | done | with_reducible rfl)); (try simp only [List.getElem_toArray, List.getElem_cons_succ, List.getElem_cons_zero, Act.put, List.setIfInBounds_toArray, List.set_cons_zero, List.set_cons_succ]))) | ((with_reducible show wpPlan _ _ _ _ _ _ _); refine wpPlan_fork ?_ ?_) | ((with_reducible show Owed _ _ _ [] _ _ _ _ _); refine Owed.none_ ?_) | ((with_reducible show Owed _ _ _ _ [] _ _ _ _); refine Owed.nil_ ?_) | ((with_reducible show Owed _ _ _ _ _ _ _ _ _); first | (refine Owed.miss rfl ?_) | (refine Owed.hit ?_ ?_)) | ((with_reducible show Same _ _ _ _ _); intro _; go_simp; done) | (with_reducible exact True.intro) | ((with_reducible show Code.wp _ (Code.region 9 _ true) _ _ _); refine wp_region_plan [(0, 0, []), (1, 0, []), (2, 1, []), (3, 1, []), (4, 1, []), (5, 0, []), (6, 0, []), (7, 1, []), (8, 1, []), (9, 2, []), (10, 1, [])] (by kernel_rfl) (by kernel_rfl) (by kernel_rfl) ?_))
              go_roundw
              case rel => exact ⟨j + 2, by omega, by omega, by go_num, Lib.hid ⟨HF.out, HB3.out⟩⟩
              case measure => simp [intOf]; omega
          · have hj2 : l.take i = l := List.take_of_length_le (by omega)
            have HA := Lib.hid (hj2 ▸ HV.out.1)
            have HBQ := Lib.hid (HW.out.2.trans HV.out.2)
            clear hj2
            go_wp2_with fail
            go_roundw
            case rel => exact ⟨k + 1, by omega, by go_num, Lib.hid ⟨all_take HLL.out HA.out HW.out.1, HBQ.out⟩⟩
            case measure => simp [intOf]; omega
      · have hk2 : ls.take k = ls := List.take_of_length_le (by rw [HL.out]; omega)
        have HF := Lib.hid (show r = true from HR.out ▸ valid_ok HQ.out (hk2 ▸ HW.out.1))
        clear hk2
        go_wp2_with fail
        go_ret
        exact ⟨ret_bool HF.out.symm, HW.out.2⟩

end Go.Proofs.Ytonpdclccgpceaa
