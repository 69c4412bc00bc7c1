/- the generator's writer of sources: sequence, set, local, expr (printed by wip/tools/wr3gen.py) -/
import Derived.Test.YtgfhkaamkodpjaaDoorWr3
namespace Go.Proofs.YtgfhkaamkodpjaaDoor
open Go Go.RowKit
set_option maxHeartbeats 8000000

section
variable {d : Nat} {B : Nat} {R : Nat → Prop} {b wb : Nat} {A : Option Addr} {n c : Nat} {zs : List Int} {fu : Int} {k fr : Nat} {w : World}
theorem wsequence_any (IH : ExprOk d) (h : WrAt w B R b wb A n c zs fu k fr) (hn : n ≤ 1000000000000) (hk : k + (d + 1) ≤ 100000) (hfr : fr + mS (d + 1) ≤ 1000000) (q : Int) (hq : q = (d : Int) + 1) :
    Calls Tryd.prog 69 #[.pointer (some ⟨wb, 0, none⟩), .int .i64 q] w (WPost B R b wb A n c zs fu k fr (mS (d + 1)) w) := by
  have HH := Lib.hid h
  have HO0 := Lib.hid (Outside.refl R w)
  have hm : mS (d + 1) = 3 * mS d + 40 := rfl
  have hm12 := mS_ge d
  have hm0 : mS 0 = 12 := rfl
  have hc := h.c0
  have hl := h.lt
  clear h
  go_enter Tryd.func69, Tryd.ntmps69
  go_wp2_with fail
  refine (wnext_any _ _ _ _ _ _ _ _ _ _ _ _ HH.out 7 (by omega) (by omega) hn).mono ?_
  rintro e w1 ⟨⟨r1, rfl, hr1⟩, hW1, hO1⟩
  have HW1 := Lib.hid hW1
  have HO1 := Lib.hid (HO0.out.trans (hO1))
  have hc1 := hW1.c0
  have hl1 := hW1.lt
  clear hW1 hO1
  have hr0 : (0 : Int) ≤ r1 := by omega
  generalize hz : (r1 : Int) = z at hr1 hr0 ⊢
  clear hz
  rcases (show z = 0 ∨ z = 1 ∨ z = 2 ∨ z = 3 ∨ z = 4 ∨ z = 5 ∨ z = 6 by omega) with rfl | rfl | rfl | rfl | rfl | rfl | rfl
  · go_wp2_with fail
    refine (IH _ _ _ _ _ _ _ _ _ _ _ _ _ _ HW1.out hn (by omega) (by omega) (by omega) (by omega) (by omega)).mono ?_
    rintro e w2 ⟨s2, f2, rfl, hs2, hW2, hf2, hO2⟩
    have HW2 := Lib.hid hW2
    have HO2 := Lib.hid (HO1.out.trans (hO2))
    have hc2 := hW2.c0
    have hl2 := hW2.lt
    clear hW2 hO2
    go_wp2_with fail
    refine (IH _ _ _ _ _ _ _ _ _ _ _ _ _ _ HW2.out hn (by omega) (by omega) (by omega) (by omega) (by omega)).mono ?_
    rintro e w3 ⟨s3, f3, rfl, hs3, hW3, hf3, hO3⟩
    have HW3 := Lib.hid hW3
    have HO3 := Lib.hid (HO2.out.trans (hO3))
    have hc3 := hW3.c0
    have hl3 := hW3.lt
    clear hW3 hO3
    go_wp2_with fail
    go_ret
    exact ⟨_, _, rfl, (by simp [ByteArray.size_append, lit_size]; omega), HW3.out, by omega, HO3.out⟩
  · go_wp2_with fail
    refine (IH _ _ _ _ _ _ _ _ _ _ _ _ _ _ HW1.out hn (by omega) (by omega) (by omega) (by omega) (by omega)).mono ?_
    rintro e w4 ⟨s4, f4, rfl, hs4, hW4, hf4, hO4⟩
    have HW4 := Lib.hid hW4
    have HO4 := Lib.hid (HO1.out.trans (hO4))
    have hc4 := hW4.c0
    have hl4 := hW4.lt
    clear hW4 hO4
    go_wp2_with fail
    refine (IH _ _ _ _ _ _ _ _ _ _ _ _ _ _ HW4.out hn (by omega) (by omega) (by omega) (by omega) (by omega)).mono ?_
    rintro e w5 ⟨s5, f5, rfl, hs5, hW5, hf5, hO5⟩
    have HW5 := Lib.hid hW5
    have HO5 := Lib.hid (HO4.out.trans (hO5))
    have hc5 := hW5.c0
    have hl5 := hW5.lt
    clear hW5 hO5
    go_wp2_with fail
    go_ret
    exact ⟨_, _, rfl, (by simp [ByteArray.size_append, lit_size]; omega), HW5.out, by omega, HO5.out⟩
  · go_wp2_with fail
    refine (IH _ _ _ _ _ _ _ _ _ _ _ _ _ _ HW1.out hn (by omega) (by omega) (by omega) (by omega) (by omega)).mono ?_
    rintro e w6 ⟨s6, f6, rfl, hs6, hW6, hf6, hO6⟩
    have HW6 := Lib.hid hW6
    have HO6 := Lib.hid (HO1.out.trans (hO6))
    have hc6 := hW6.c0
    have hl6 := hW6.lt
    clear hW6 hO6
    go_wp2_with fail
    go_ret
    exact ⟨_, _, rfl, (by simp [ByteArray.size_append, lit_size]; omega), HW6.out, by omega, HO6.out⟩
  · go_wp2_with fail
    refine (IH _ _ _ _ _ _ _ _ _ _ _ _ _ _ HW1.out hn (by omega) (by omega) (by omega) (by omega) (by omega)).mono ?_
    rintro e w7 ⟨s7, f7, rfl, hs7, hW7, hf7, hO7⟩
    have HW7 := Lib.hid hW7
    have HO7 := Lib.hid (HO1.out.trans (hO7))
    have hc7 := hW7.c0
    have hl7 := hW7.lt
    clear hW7 hO7
    go_wp2_with fail
    refine (mark_any _ _ _ _ _ _ _ _ _ _ _ _ HW7.out).mono ?_
    rintro e w8 ⟨rfl, rfl⟩
    go_wp2_with fail
    refine (bind_any _ _ _ _ _ _ _ _ _ _ _ _ HW7.out _ (by omega) (by omega)).mono ?_
    rintro e w9 ⟨⟨s9, rfl, hs9⟩, hW9, hO9⟩
    have HW9 := Lib.hid hW9
    have HO9 := Lib.hid (HO7.out.trans (hO9))
    have hc9 := hW9.c0
    have hl9 := hW9.lt
    clear hW9 hO9
    go_wp2_with fail
    refine (IH _ _ _ _ _ _ _ _ _ _ _ _ _ _ HW9.out hn (by omega) (by omega) (by omega) (by omega) (by omega)).mono ?_
    rintro e w10 ⟨s10, f10, rfl, hs10, hW10, hf10, hO10⟩
    have HW10 := Lib.hid hW10
    have HO10 := Lib.hid (HO9.out.trans (hO10))
    have hc10 := hW10.c0
    have hl10 := hW10.lt
    clear hW10 hO10
    go_wp2_with fail
    refine (IH _ _ _ _ _ _ _ _ _ _ _ _ _ _ HW10.out hn (by omega) (by omega) (by omega) (by omega) (by omega)).mono ?_
    rintro e w11 ⟨s11, f11, rfl, hs11, hW11, hf11, hO11⟩
    have HW11 := Lib.hid hW11
    have HO11 := Lib.hid (HO10.out.trans (hO11))
    have hc11 := hW11.c0
    have hl11 := hW11.lt
    clear hW11 hO11
    go_wp2_with fail
    refine (reset_any _ _ _ _ _ _ _ _ _ _ _ _ HW11.out k (by omega) (by omega)).mono ?_
    rintro e w12 ⟨rfl, hW12, hO12⟩
    have HW12 := Lib.hid hW12
    have HO12 := Lib.hid (HO11.out.trans (hO12))
    have hc12 := hW12.c0
    have hl12 := hW12.lt
    clear hW12 hO12
    go_wp2_with fail
    go_ret
    exact ⟨_, _, rfl, (by simp [ByteArray.size_append, lit_size]; omega), HW12.out, by omega, HO12.out⟩
  · go_wp2_with (first | ((with_reducible show wpPlan _ _ _ _ _ (Act.put _ _ _) _); simp only [List.getElem_toArray, List.getElem_cons_succ, List.getElem_cons_zero, Act.put, List.setIfInBounds_toArray, List.set_cons_zero, List.set_cons_succ]) | ((with_reducible show wpPlan _ _ _ _ _ _ _); first | refine wpPlan_nil ?_ | (refine wpPlan_read0 rfl ?hw rfl (fun _ _ _ => ?_); case hw => ((conv => (lhs; whnf)); first | done | with_reducible rfl)) | (refine wpPlan_read1d rfl ?hw rfl rfl (fun _ _ _ => ?_); case hw => ((conv => (lhs; whnf)); first | done | with_reducible rfl)) | (refine wpPlan_eff rfl ?hw (fun _ _ => ?_); case hw => ((conv => (lhs; whnf)); first | done | with_reducible rfl)) | (refine wpPlan_skip0 rfl ?hw ?_; case hw => ((conv => (lhs; whnf)); first | done | with_reducible rfl)) | (refine wpPlan_skip1d rfl ?hw ?_; case hw => ((conv => (lhs; whnf)); first | done | with_reducible rfl)) | (refine wpPlan_skip2 rfl ?hw ?_; case hw => ((conv => (lhs; whnf)); first | done | with_reducible rfl)) | (refine wpPlan_read1 rfl ?hw rfl (fun _ _ _ => ?_); case hw => ((conv => (lhs; whnf)); first | done | with_reducible rfl)) | refine wpPlan_fork ?_ ?_) | ((with_reducible show Owed _ _ _ _ _ _ _ _ _); first | refine Owed.none_ ?_ | refine Owed.nil_ ?_ | refine Owed.miss rfl ?_ | refine Owed.hit ?_ ?_) | ((with_reducible show Same _ _ _ _ _); intro _; go_simp; done) | (with_reducible exact True.intro) | ((with_reducible show Code.wp _ (Code.region 16 _ true) _ _ _); refine wp_region_plan [(0, 0, []), (1, 1, []), (2, 1, []), (3, 1, []), (8, 0, []), (9, 1, []), (10, 1, []), (11, 1, []), (4, 2, [9, 10, 11]), (5, 2, [9, 10, 11]), (6, 1, []), (7, 1, []), (12, 2, [6, 7]), (13, 2, [6, 7]), (14, 1, []), (15, 1, []), (16, 0, [])] (by kernel_rfl) (by kernel_rfl) (by kernel_rfl) ?_))
    refine (wnext_any _ _ _ _ _ _ _ _ _ _ _ _ HW1.out.drew 4 (by omega) (by omega) hn).mono ?_
    rintro e w13 ⟨⟨r13, rfl, hr13⟩, hW13, hO13⟩
    have HW13 := Lib.hid hW13
    have HO13 := Lib.hid (HO1.out.drew.trans (hO13))
    have hc13 := hW13.c0
    have hl13 := hW13.lt
    clear hW13 hO13
    go_wp2_with (first | ((with_reducible show wpPlan _ _ _ _ _ (Act.put _ _ _) _); simp only [List.getElem_toArray, List.getElem_cons_succ, List.getElem_cons_zero, Act.put, List.setIfInBounds_toArray, List.set_cons_zero, List.set_cons_succ]) | ((with_reducible show wpPlan _ _ _ _ _ _ _); first | refine wpPlan_nil ?_ | (refine wpPlan_read0 rfl ?hw rfl (fun _ _ _ => ?_); case hw => ((conv => (lhs; whnf)); first | done | with_reducible rfl)) | (refine wpPlan_read1d rfl ?hw rfl rfl (fun _ _ _ => ?_); case hw => ((conv => (lhs; whnf)); first | done | with_reducible rfl)) | (refine wpPlan_eff rfl ?hw (fun _ _ => ?_); case hw => ((conv => (lhs; whnf)); first | done | with_reducible rfl)) | (refine wpPlan_skip0 rfl ?hw ?_; case hw => ((conv => (lhs; whnf)); first | done | with_reducible rfl)) | (refine wpPlan_skip1d rfl ?hw ?_; case hw => ((conv => (lhs; whnf)); first | done | with_reducible rfl)) | (refine wpPlan_skip2 rfl ?hw ?_; case hw => ((conv => (lhs; whnf)); first | done | with_reducible rfl)) | (refine wpPlan_read1 rfl ?hw rfl (fun _ _ _ => ?_); case hw => ((conv => (lhs; whnf)); first | done | with_reducible rfl)) | refine wpPlan_fork ?_ ?_) | ((with_reducible show Owed _ _ _ _ _ _ _ _ _); first | refine Owed.none_ ?_ | refine Owed.nil_ ?_ | refine Owed.miss rfl ?_ | refine Owed.hit ?_ ?_) | ((with_reducible show Same _ _ _ _ _); intro _; go_simp; done) | (with_reducible exact True.intro))
    refine (gdigit_any _ _ (by omega) (by omega)).mono ?_
    rintro e w14 ⟨⟨s14, rfl, hs14⟩, rfl⟩
    go_wp2_with (first | ((with_reducible show wpPlan _ _ _ _ _ (Act.put _ _ _) _); simp only [List.getElem_toArray, List.getElem_cons_succ, List.getElem_cons_zero, Act.put, List.setIfInBounds_toArray, List.set_cons_zero, List.set_cons_succ]) | ((with_reducible show wpPlan _ _ _ _ _ _ _); first | refine wpPlan_nil ?_ | (refine wpPlan_read0 rfl ?hw rfl (fun _ _ _ => ?_); case hw => ((conv => (lhs; whnf)); first | done | with_reducible rfl)) | (refine wpPlan_read1d rfl ?hw rfl rfl (fun _ _ _ => ?_); case hw => ((conv => (lhs; whnf)); first | done | with_reducible rfl)) | (refine wpPlan_eff rfl ?hw (fun _ _ => ?_); case hw => ((conv => (lhs; whnf)); first | done | with_reducible rfl)) | (refine wpPlan_skip0 rfl ?hw ?_; case hw => ((conv => (lhs; whnf)); first | done | with_reducible rfl)) | (refine wpPlan_skip1d rfl ?hw ?_; case hw => ((conv => (lhs; whnf)); first | done | with_reducible rfl)) | (refine wpPlan_skip2 rfl ?hw ?_; case hw => ((conv => (lhs; whnf)); first | done | with_reducible rfl)) | (refine wpPlan_read1 rfl ?hw rfl (fun _ _ _ => ?_); case hw => ((conv => (lhs; whnf)); first | done | with_reducible rfl)) | refine wpPlan_fork ?_ ?_) | ((with_reducible show Owed _ _ _ _ _ _ _ _ _); first | refine Owed.none_ ?_ | refine Owed.nil_ ?_ | refine Owed.miss rfl ?_ | refine Owed.hit ?_ ?_) | ((with_reducible show Same _ _ _ _ _); intro _; go_simp; done) | (with_reducible exact True.intro))
    refine (wnext_any _ _ _ _ _ _ _ _ _ _ _ _ HW13.out 4 (by omega) (by omega) hn).mono ?_
    rintro e w15 ⟨⟨r15, rfl, hr15⟩, hW15, hO15⟩
    have HW15 := Lib.hid hW15
    have HO15 := Lib.hid (HO13.out.trans (hO15))
    have hc15 := hW15.c0
    have hl15 := hW15.lt
    clear hW15 hO15
    go_wp2_with (first | ((with_reducible show wpPlan _ _ _ _ _ (Act.put _ _ _) _); simp only [List.getElem_toArray, List.getElem_cons_succ, List.getElem_cons_zero, Act.put, List.setIfInBounds_toArray, List.set_cons_zero, List.set_cons_succ]) | ((with_reducible show wpPlan _ _ _ _ _ _ _); first | refine wpPlan_nil ?_ | (refine wpPlan_read0 rfl ?hw rfl (fun _ _ _ => ?_); case hw => ((conv => (lhs; whnf)); first | done | with_reducible rfl)) | (refine wpPlan_read1d rfl ?hw rfl rfl (fun _ _ _ => ?_); case hw => ((conv => (lhs; whnf)); first | done | with_reducible rfl)) | (refine wpPlan_eff rfl ?hw (fun _ _ => ?_); case hw => ((conv => (lhs; whnf)); first | done | with_reducible rfl)) | (refine wpPlan_skip0 rfl ?hw ?_; case hw => ((conv => (lhs; whnf)); first | done | with_reducible rfl)) | (refine wpPlan_skip1d rfl ?hw ?_; case hw => ((conv => (lhs; whnf)); first | done | with_reducible rfl)) | (refine wpPlan_skip2 rfl ?hw ?_; case hw => ((conv => (lhs; whnf)); first | done | with_reducible rfl)) | (refine wpPlan_read1 rfl ?hw rfl (fun _ _ _ => ?_); case hw => ((conv => (lhs; whnf)); first | done | with_reducible rfl)) | refine wpPlan_fork ?_ ?_) | ((with_reducible show Owed _ _ _ _ _ _ _ _ _); first | refine Owed.none_ ?_ | refine Owed.nil_ ?_ | refine Owed.miss rfl ?_ | refine Owed.hit ?_ ?_) | ((with_reducible show Same _ _ _ _ _); intro _; go_simp; done) | (with_reducible exact True.intro))
    refine (gdigit_any _ _ (by omega) (by omega)).mono ?_
    rintro e w16 ⟨⟨s16, rfl, hs16⟩, rfl⟩
    go_wp2_with (first | ((with_reducible show wpPlan _ _ _ _ _ (Act.put _ _ _) _); simp only [List.getElem_toArray, List.getElem_cons_succ, List.getElem_cons_zero, Act.put, List.setIfInBounds_toArray, List.set_cons_zero, List.set_cons_succ]) | ((with_reducible show wpPlan _ _ _ _ _ _ _); first | refine wpPlan_nil ?_ | (refine wpPlan_read0 rfl ?hw rfl (fun _ _ _ => ?_); case hw => ((conv => (lhs; whnf)); first | done | with_reducible rfl)) | (refine wpPlan_read1d rfl ?hw rfl rfl (fun _ _ _ => ?_); case hw => ((conv => (lhs; whnf)); first | done | with_reducible rfl)) | (refine wpPlan_eff rfl ?hw (fun _ _ => ?_); case hw => ((conv => (lhs; whnf)); first | done | with_reducible rfl)) | (refine wpPlan_skip0 rfl ?hw ?_; case hw => ((conv => (lhs; whnf)); first | done | with_reducible rfl)) | (refine wpPlan_skip1d rfl ?hw ?_; case hw => ((conv => (lhs; whnf)); first | done | with_reducible rfl)) | (refine wpPlan_skip2 rfl ?hw ?_; case hw => ((conv => (lhs; whnf)); first | done | with_reducible rfl)) | (refine wpPlan_read1 rfl ?hw rfl (fun _ _ _ => ?_); case hw => ((conv => (lhs; whnf)); first | done | with_reducible rfl)) | refine wpPlan_fork ?_ ?_) | ((with_reducible show Owed _ _ _ _ _ _ _ _ _); first | refine Owed.none_ ?_ | refine Owed.nil_ ?_ | refine Owed.miss rfl ?_ | refine Owed.hit ?_ ?_) | ((with_reducible show Same _ _ _ _ _); intro _; go_simp; done) | (with_reducible exact True.intro))
    go_ret
    exact ⟨_, _, rfl, (by simp [ByteArray.size_append, lit_size]; omega), HW15.out, by omega, HO15.out⟩
  · go_wp2_with fail
    refine (IH _ _ _ _ _ _ _ _ _ _ _ _ _ _ HW1.out hn (by omega) (by omega) (by omega) (by omega) (by omega)).mono ?_
    rintro e w17 ⟨s17, f17, rfl, hs17, hW17, hf17, hO17⟩
    have HW17 := Lib.hid hW17
    have HO17 := Lib.hid (HO1.out.trans (hO17))
    have hc17 := hW17.c0
    have hl17 := hW17.lt
    clear hW17 hO17
    go_wp2_with fail
    go_ret
    exact ⟨_, _, rfl, (by simp [ByteArray.size_append, lit_size]; omega), HW17.out, by omega, HO17.out⟩
  · go_wp2_with fail
    refine (IH _ _ _ _ _ _ _ _ _ _ _ _ _ _ HW1.out hn (by omega) (by omega) (by omega) (by omega) (by omega)).mono ?_
    rintro e w18 ⟨s18, f18, rfl, hs18, hW18, hf18, hO18⟩
    have HW18 := Lib.hid hW18
    have HO18 := Lib.hid (HO1.out.trans (hO18))
    have hc18 := hW18.c0
    have hl18 := hW18.lt
    clear hW18 hO18
    go_wp2_with fail
    refine (IH _ _ _ _ _ _ _ _ _ _ _ _ _ _ HW18.out hn (by omega) (by omega) (by omega) (by omega) (by omega)).mono ?_
    rintro e w19 ⟨s19, f19, rfl, hs19, hW19, hf19, hO19⟩
    have HW19 := Lib.hid hW19
    have HO19 := Lib.hid (HO18.out.trans (hO19))
    have hc19 := hW19.c0
    have hl19 := hW19.lt
    clear hW19 hO19
    go_wp2_with fail
    go_ret
    exact ⟨_, _, rfl, (by simp [ByteArray.size_append, lit_size]; omega), HW19.out, by omega, HO19.out⟩

theorem wset_any (IH : ExprOk d) (IH0 : ExprOk 0) (h : WrAt w B R b wb A n c zs fu k fr) (hn : n ≤ 1000000000000) (hk : k + (d + 1) ≤ 100000) (hfr : fr + mS (d + 1) ≤ 1000000) (q : Int) (hq : q = (d : Int) + 1) :
    Calls Tryd.prog 70 #[.pointer (some ⟨wb, 0, none⟩), .int .i64 q] w (WPost B R b wb A n c zs fu k fr (mS (d + 1)) w) := by
  have HH := Lib.hid h
  have HO0 := Lib.hid (Outside.refl R w)
  have hm : mS (d + 1) = 3 * mS d + 40 := rfl
  have hm12 := mS_ge d
  have hm0 : mS 0 = 12 := rfl
  have hc := h.c0
  have hl := h.lt
  clear h
  go_enter Tryd.func70, Tryd.ntmps70
  go_wp2_with fail
  refine (wnext_any _ _ _ _ _ _ _ _ _ _ _ _ HH.out 5 (by omega) (by omega) hn).mono ?_
  rintro e w1 ⟨⟨r1, rfl, hr1⟩, hW1, hO1⟩
  have HW1 := Lib.hid hW1
  have HO1 := Lib.hid (HO0.out.trans (hO1))
  have hc1 := hW1.c0
  have hl1 := hW1.lt
  clear hW1 hO1
  have hr0 : (0 : Int) ≤ r1 := by omega
  generalize hz : (r1 : Int) = z at hr1 hr0 ⊢
  clear hz
  rcases (show z = 0 ∨ z = 1 ∨ z = 2 ∨ z = 3 ∨ z = 4 by omega) with rfl | rfl | rfl | rfl | rfl
  · go_wp2_with fail
    refine (IH _ _ _ _ _ _ _ _ _ _ _ _ _ _ HW1.out hn (by omega) (by omega) (by omega) (by omega) (by omega)).mono ?_
    rintro e w2 ⟨s2, f2, rfl, hs2, hW2, hf2, hO2⟩
    have HW2 := Lib.hid hW2
    have HO2 := Lib.hid (HO1.out.trans (hO2))
    have hc2 := hW2.c0
    have hl2 := hW2.lt
    clear hW2 hO2
    go_wp2_with fail
    refine (IH _ _ _ _ _ _ _ _ _ _ _ _ _ _ HW2.out hn (by omega) (by omega) (by omega) (by omega) (by omega)).mono ?_
    rintro e w3 ⟨s3, f3, rfl, hs3, hW3, hf3, hO3⟩
    have HW3 := Lib.hid hW3
    have HO3 := Lib.hid (HO2.out.trans (hO3))
    have hc3 := hW3.c0
    have hl3 := hW3.lt
    clear hW3 hO3
    go_wp2_with fail
    go_ret
    exact ⟨_, _, rfl, (by simp [ByteArray.size_append, lit_size]; omega), HW3.out, by omega, HO3.out⟩
  · go_wp2_with (first | ((with_reducible show wpTree _ _ _ _ _ (Act.put _ _ _) _); simp only [List.getElem_toArray, List.getElem_cons_succ, List.getElem_cons_zero, Act.put, List.setIfInBounds_toArray, List.set_cons_zero, List.set_cons_succ]) | ((with_reducible show wpTree _ _ _ _ _ _ _); first | refine wpTree_line ?_ | refine wpTree_alt ?_ ?_ | (refine wpTree_read0 rfl ?hw rfl (fun _ _ _ => ?_); case hw => ((conv => (lhs; whnf)); first | done | with_reducible rfl)) | (refine wpTree_read1 rfl ?hw rfl (fun _ _ _ => ?_); case hw => ((conv => (lhs; whnf)); first | done | with_reducible rfl)) | (refine wpTree_eff rfl ?hw (fun _ _ => ?_); case hw => ((conv => (lhs; whnf)); first | done | with_reducible rfl)) | (refine wpTree_skip0 rfl ?hw ?_; case hw => ((conv => (lhs; whnf)); first | done | with_reducible rfl)) | (refine wpTree_skip1 rfl ?hw ?_; case hw => ((conv => (lhs; whnf)); first | done | with_reducible rfl)) | (refine wpTree_skip2 rfl ?hw ?_; case hw => ((conv => (lhs; whnf)); first | done | with_reducible rfl))) | ((with_reducible show OwedT _ _ _ _ _ _ _ _ _); first | refine OwedT.none_ ?_ | refine OwedT.nil_ ?_ | refine OwedT.miss rfl ?_ | refine OwedT.hit ?_ ?_) | ((with_reducible show wpPlan _ _ _ _ _ (Act.put _ _ _) _); simp only [List.getElem_toArray, List.getElem_cons_succ, List.getElem_cons_zero, Act.put, List.setIfInBounds_toArray, List.set_cons_zero, List.set_cons_succ]) | ((with_reducible show wpPlan _ _ _ _ _ _ _); first | refine wpPlan_nil ?_ | (refine wpPlan_read0 rfl ?hw rfl (fun _ _ _ => ?_); case hw => ((conv => (lhs; whnf)); first | done | with_reducible rfl)) | (refine wpPlan_read1d rfl ?hw rfl rfl (fun _ _ _ => ?_); case hw => ((conv => (lhs; whnf)); first | done | with_reducible rfl)) | (refine wpPlan_eff rfl ?hw (fun _ _ => ?_); case hw => ((conv => (lhs; whnf)); first | done | with_reducible rfl)) | (refine wpPlan_skip0 rfl ?hw ?_; case hw => ((conv => (lhs; whnf)); first | done | with_reducible rfl)) | (refine wpPlan_skip1d rfl ?hw ?_; case hw => ((conv => (lhs; whnf)); first | done | with_reducible rfl)) | (refine wpPlan_skip2 rfl ?hw ?_; case hw => ((conv => (lhs; whnf)); first | done | with_reducible rfl)) | (refine wpPlan_read1 rfl ?hw rfl (fun _ _ _ => ?_); case hw => ((conv => (lhs; whnf)); first | done | with_reducible rfl)) | refine wpPlan_fork ?_ ?_) | ((with_reducible show Owed _ _ _ _ _ _ _ _ _); first | refine Owed.none_ ?_ | refine Owed.nil_ ?_ | refine Owed.miss rfl ?_ | refine Owed.hit ?_ ?_) | ((with_reducible show Same _ _ _ _ _); intro _; go_simp; done) | (with_reducible exact True.intro) | ((with_reducible show Code.wp _ (Code.region 5 _ true) _ _ _); refine wp_region_tree (Tree.read 1 0 (Tree.read 2 1 (Tree.read 3 1 (Tree.read 4 1 (Tree.read 9 0 (Tree.read 10 0 (Tree.read 11 1 (Tree.read 15 0 (Tree.read 16 0 (Tree.read 17 1 (Tree.alt (Tree.eff 0 [2, 3, 4, 11, 17] (Tree.line [(5, 2, [11, 17]), (6, 1, []), (7, 1, []), (8, 1, []), (12, 2, [17, 6, 7, 8]), (13, 1, []), (14, 1, []), (18, 2, [6, 7, 8, 13, 14]), (19, 1, []), (20, 1, []), (21, 0, [])])) (Tree.eff 5 [11, 17] (Tree.alt (Tree.eff 0 [2, 3, 4, 11, 17] (Tree.line [(6, 1, []), (7, 1, []), (8, 1, []), (12, 2, [17, 6, 7, 8]), (13, 1, []), (14, 1, []), (18, 2, [6, 7, 8, 13, 14]), (19, 1, []), (20, 1, []), (21, 0, [])])) (Tree.eff 12 [17] (Tree.alt (Tree.eff 0 [2, 3, 4, 11, 17] (Tree.line [(6, 1, []), (7, 1, []), (8, 1, []), (13, 1, []), (14, 1, []), (18, 2, [6, 7, 8, 13, 14]), (19, 1, []), (20, 1, []), (21, 0, [])])) (Tree.eff 18 [] (Tree.line [(0, 2, [2, 3, 4, 11, 17]), (6, 1, []), (7, 1, []), (8, 1, []), (13, 1, []), (14, 1, []), (19, 1, []), (20, 1, []), (21, 0, [])]))))))))))))))))) (by kernel_rfl) (by kernel_rfl) (by kernel_rfl) ?_))
    · have HN4 := Lib.hid (Blk.newAt (w := w1) (t := 9) (cs := (cellsOf scell [⟨#[117, 110, 105, 111, 110]⟩, ⟨#[105, 110, 116, 101, 114]⟩, ⟨#[100, 105, 102, 102]⟩]).toArray) (g := w1.heap.size) rfl)
      have HW4 := Lib.hid (HW1.out.lit (.cells (cellsOf scell [⟨#[117, 110, 105, 111, 110]⟩, ⟨#[105, 110, 116, 101, 114]⟩, ⟨#[100, 105, 102, 102]⟩]).toArray 9))
      have HO4 := Lib.hid (HO1.out.alloc (.cells (cellsOf scell [⟨#[117, 110, 105, 111, 110]⟩, ⟨#[105, 110, 116, 101, 114]⟩, ⟨#[100, 105, 102, 102]⟩]).toArray 9))
      have hc4 := HW4.out.c0
      have hl4 := HW4.out.lt
      refine (wnext_any _ _ _ _ _ _ _ _ _ _ _ _ HW4.out.drew 3 (by omega) (by omega) hn).mono ?_
      rintro e w5 ⟨⟨r5, rfl, hr5⟩, hW5, hO5⟩
      have HW5 := Lib.hid hW5
      have HO5 := Lib.hid (HO4.out.drew.trans (hO5.mono (fun j _ h => h.1)))
      have hc5 := hW5.c0
      have hl5 := hW5.lt
      have HN5 := Lib.hid (HN4.out.drew.out hO5 (fun h => h.2 rfl))
      clear hW5 hO5
      obtain ⟨x6, hx6, hxs6⟩ := pick_at HN5.out r5 (by simp; omega) 5 (by decide)
      have hlx6 := HN5.out.lt
      go_wp2_with (first | ((with_reducible show wpPlan _ _ _ _ _ (Act.put _ _ _) _); simp only [List.getElem_toArray, List.getElem_cons_succ, List.getElem_cons_zero, Act.put, List.setIfInBounds_toArray, List.set_cons_zero, List.set_cons_succ]) | ((with_reducible show wpPlan _ _ _ _ _ _ _); first | refine wpPlan_nil ?_ | (refine wpPlan_read0 rfl ?hw rfl (fun _ _ _ => ?_); case hw => ((conv => (lhs; whnf)); first | done | with_reducible rfl)) | (refine wpPlan_read1d rfl ?hw rfl rfl (fun _ _ _ => ?_); case hw => ((conv => (lhs; whnf)); first | done | with_reducible rfl)) | (refine wpPlan_eff rfl ?hw (fun _ _ => ?_); case hw => ((conv => (lhs; whnf)); first | done | with_reducible rfl)) | (refine wpPlan_skip0 rfl ?hw ?_; case hw => ((conv => (lhs; whnf)); first | done | with_reducible rfl)) | (refine wpPlan_skip1d rfl ?hw ?_; case hw => ((conv => (lhs; whnf)); first | done | with_reducible rfl)) | (refine wpPlan_skip2 rfl ?hw ?_; case hw => ((conv => (lhs; whnf)); first | done | with_reducible rfl)) | (refine wpPlan_read1 rfl ?hw rfl (fun _ _ _ => ?_); case hw => ((conv => (lhs; whnf)); first | done | with_reducible rfl)) | refine wpPlan_fork ?_ ?_) | ((with_reducible show Owed _ _ _ _ _ _ _ _ _); first | refine Owed.none_ ?_ | refine Owed.nil_ ?_ | refine Owed.miss rfl ?_ | refine Owed.hit ?_ ?_) | ((with_reducible show Same _ _ _ _ _); intro _; go_simp; done) | (with_reducible exact True.intro))
      refine (IH _ _ _ _ _ _ _ _ _ _ _ _ _ _ HW5.out hn (by omega) (by omega) (by omega) (by omega) (by omega)).mono ?_
      rintro e w7 ⟨s7, f7, rfl, hs7, hW7, hf7, hO7⟩
      have HW7 := Lib.hid hW7
      have HO7 := Lib.hid (HO5.out.trans (hO7.mono (fun j _ h => h.1)))
      have hc7 := hW7.c0
      have hl7 := hW7.lt
      have HN7 := Lib.hid (HN5.out.out hO7 (fun h => h.2 rfl))
      have hx7 := hO7.cell hx6 (fun h => h.2 rfl)
      clear hW7 hO7
      go_wp2_with (first | ((with_reducible show wpPlan _ _ _ _ _ (Act.put _ _ _) _); simp only [List.getElem_toArray, List.getElem_cons_succ, List.getElem_cons_zero, Act.put, List.setIfInBounds_toArray, List.set_cons_zero, List.set_cons_succ]) | ((with_reducible show wpPlan _ _ _ _ _ _ _); first | refine wpPlan_nil ?_ | (refine wpPlan_read0 rfl ?hw rfl (fun _ _ _ => ?_); case hw => ((conv => (lhs; whnf)); first | done | with_reducible rfl)) | (refine wpPlan_read1d rfl ?hw rfl rfl (fun _ _ _ => ?_); case hw => ((conv => (lhs; whnf)); first | done | with_reducible rfl)) | (refine wpPlan_eff rfl ?hw (fun _ _ => ?_); case hw => ((conv => (lhs; whnf)); first | done | with_reducible rfl)) | (refine wpPlan_skip0 rfl ?hw ?_; case hw => ((conv => (lhs; whnf)); first | done | with_reducible rfl)) | (refine wpPlan_skip1d rfl ?hw ?_; case hw => ((conv => (lhs; whnf)); first | done | with_reducible rfl)) | (refine wpPlan_skip2 rfl ?hw ?_; case hw => ((conv => (lhs; whnf)); first | done | with_reducible rfl)) | (refine wpPlan_read1 rfl ?hw rfl (fun _ _ _ => ?_); case hw => ((conv => (lhs; whnf)); first | done | with_reducible rfl)) | refine wpPlan_fork ?_ ?_) | ((with_reducible show Owed _ _ _ _ _ _ _ _ _); first | refine Owed.none_ ?_ | refine Owed.nil_ ?_ | refine Owed.miss rfl ?_ | refine Owed.hit ?_ ?_) | ((with_reducible show Same _ _ _ _ _); intro _; go_simp; done) | (with_reducible exact True.intro))
      refine (IH _ _ _ _ _ _ _ _ _ _ _ _ _ _ HW7.out hn (by omega) (by omega) (by omega) (by omega) (by omega)).mono ?_
      rintro e w8 ⟨s8, f8, rfl, hs8, hW8, hf8, hO8⟩
      have HW8 := Lib.hid hW8
      have HO8 := Lib.hid (HO7.out.trans (hO8.mono (fun j _ h => h.1)))
      have hc8 := hW8.c0
      have hl8 := hW8.lt
      have HN8 := Lib.hid (HN7.out.out hO8 (fun h => h.2 rfl))
      have hx8 := hO8.cell hx7 (fun h => h.2 rfl)
      clear hW8 hO8
      go_wp2_with (first | ((with_reducible show wpPlan _ _ _ _ _ (Act.put _ _ _) _); simp only [List.getElem_toArray, List.getElem_cons_succ, List.getElem_cons_zero, Act.put, List.setIfInBounds_toArray, List.set_cons_zero, List.set_cons_succ]) | ((with_reducible show wpPlan _ _ _ _ _ _ _); first | refine wpPlan_nil ?_ | (refine wpPlan_read0 rfl ?hw rfl (fun _ _ _ => ?_); case hw => ((conv => (lhs; whnf)); first | done | with_reducible rfl)) | (refine wpPlan_read1d rfl ?hw rfl rfl (fun _ _ _ => ?_); case hw => ((conv => (lhs; whnf)); first | done | with_reducible rfl)) | (refine wpPlan_eff rfl ?hw (fun _ _ => ?_); case hw => ((conv => (lhs; whnf)); first | done | with_reducible rfl)) | (refine wpPlan_skip0 rfl ?hw ?_; case hw => ((conv => (lhs; whnf)); first | done | with_reducible rfl)) | (refine wpPlan_skip1d rfl ?hw ?_; case hw => ((conv => (lhs; whnf)); first | done | with_reducible rfl)) | (refine wpPlan_skip2 rfl ?hw ?_; case hw => ((conv => (lhs; whnf)); first | done | with_reducible rfl)) | (refine wpPlan_read1 rfl ?hw rfl (fun _ _ _ => ?_); case hw => ((conv => (lhs; whnf)); first | done | with_reducible rfl)) | refine wpPlan_fork ?_ ?_) | ((with_reducible show Owed _ _ _ _ _ _ _ _ _); first | refine Owed.none_ ?_ | refine Owed.nil_ ?_ | refine Owed.miss rfl ?_ | refine Owed.hit ?_ ?_) | ((with_reducible show Same _ _ _ _ _); intro _; go_simp; done) | (with_reducible exact True.intro))
      go_ret
      exact ⟨_, _, rfl, (by simp [ByteArray.size_append, lit_size]; omega), HW8.out.weak (fun j h => h.1) HH.out.lo, by omega, HO8.out⟩
    · refine (wnext_any _ _ _ _ _ _ _ _ _ _ _ _ HW1.out.drew 3 (by omega) (by omega) hn).mono ?_
      rintro e w9 ⟨⟨r9, rfl, hr9⟩, hW9, hO9⟩
      have HW9 := Lib.hid hW9
      have HO9 := Lib.hid (HO1.out.drew.trans (hO9))
      have hc9 := hW9.c0
      have hl9 := hW9.lt
      clear hW9 hO9
      obtain ⟨x10, hx10, hxs10⟩ := pick_at (Blk.newAt (w := w9) (t := 9) (cs := (cellsOf scell [⟨#[117, 110, 105, 111, 110]⟩, ⟨#[105, 110, 116, 101, 114]⟩, ⟨#[100, 105, 102, 102]⟩]).toArray) (g := w9.heap.size) rfl) r9 (by simp; omega) 5 (by decide)
      have hy10 : (w9.alloc (.cells #[.string ⟨#[117, 110, 105, 111, 110]⟩, .string ⟨#[105, 110, 116, 101, 114]⟩, .string ⟨#[100, 105, 102, 102]⟩] 9)).cell? ⟨w9.heap.size, r9, none⟩ = some (.string x10) := hx10
      clear hx10
      go_wp2_with (first | ((with_reducible show wpTree _ _ _ _ _ (Act.put _ _ _) _); simp only [List.getElem_toArray, List.getElem_cons_succ, List.getElem_cons_zero, Act.put, List.setIfInBounds_toArray, List.set_cons_zero, List.set_cons_succ]) | ((with_reducible show wpTree _ _ _ _ _ _ _); first | refine wpTree_line ?_ | refine wpTree_alt ?_ ?_ | (refine wpTree_read0 rfl ?hw rfl (fun _ _ _ => ?_); case hw => ((conv => (lhs; whnf)); first | done | with_reducible rfl)) | (refine wpTree_read1 rfl ?hw rfl (fun _ _ _ => ?_); case hw => ((conv => (lhs; whnf)); first | done | with_reducible rfl)) | (refine wpTree_eff rfl ?hw (fun _ _ => ?_); case hw => ((conv => (lhs; whnf)); first | done | with_reducible rfl)) | (refine wpTree_skip0 rfl ?hw ?_; case hw => ((conv => (lhs; whnf)); first | done | with_reducible rfl)) | (refine wpTree_skip1 rfl ?hw ?_; case hw => ((conv => (lhs; whnf)); first | done | with_reducible rfl)) | (refine wpTree_skip2 rfl ?hw ?_; case hw => ((conv => (lhs; whnf)); first | done | with_reducible rfl))) | ((with_reducible show OwedT _ _ _ _ _ _ _ _ _); first | refine OwedT.none_ ?_ | refine OwedT.nil_ ?_ | refine OwedT.miss rfl ?_ | refine OwedT.hit ?_ ?_) | ((with_reducible show wpPlan _ _ _ _ _ (Act.put _ _ _) _); simp only [List.getElem_toArray, List.getElem_cons_succ, List.getElem_cons_zero, Act.put, List.setIfInBounds_toArray, List.set_cons_zero, List.set_cons_succ]) | ((with_reducible show wpPlan _ _ _ _ _ _ _); first | refine wpPlan_nil ?_ | (refine wpPlan_read0 rfl ?hw rfl (fun _ _ _ => ?_); case hw => ((conv => (lhs; whnf)); first | done | with_reducible rfl)) | (refine wpPlan_read1d rfl ?hw rfl rfl (fun _ _ _ => ?_); case hw => ((conv => (lhs; whnf)); first | done | with_reducible rfl)) | (refine wpPlan_eff rfl ?hw (fun _ _ => ?_); case hw => ((conv => (lhs; whnf)); first | done | with_reducible rfl)) | (refine wpPlan_skip0 rfl ?hw ?_; case hw => ((conv => (lhs; whnf)); first | done | with_reducible rfl)) | (refine wpPlan_skip1d rfl ?hw ?_; case hw => ((conv => (lhs; whnf)); first | done | with_reducible rfl)) | (refine wpPlan_skip2 rfl ?hw ?_; case hw => ((conv => (lhs; whnf)); first | done | with_reducible rfl)) | (refine wpPlan_read1 rfl ?hw rfl (fun _ _ _ => ?_); case hw => ((conv => (lhs; whnf)); first | done | with_reducible rfl)) | refine wpPlan_fork ?_ ?_) | ((with_reducible show Owed _ _ _ _ _ _ _ _ _); first | refine Owed.none_ ?_ | refine Owed.nil_ ?_ | refine Owed.miss rfl ?_ | refine Owed.hit ?_ ?_) | ((with_reducible show Same _ _ _ _ _); intro _; go_simp; done) | (with_reducible exact True.intro))
      · have HN11 := Lib.hid (Blk.newAt (w := w9) (t := 9) (cs := (cellsOf scell [⟨#[117, 110, 105, 111, 110]⟩, ⟨#[105, 110, 116, 101, 114]⟩, ⟨#[100, 105, 102, 102]⟩]).toArray) (g := w9.heap.size) rfl)
        have HW11 := Lib.hid (HW9.out.lit (.cells (cellsOf scell [⟨#[117, 110, 105, 111, 110]⟩, ⟨#[105, 110, 116, 101, 114]⟩, ⟨#[100, 105, 102, 102]⟩]).toArray 9))
        have HO11 := Lib.hid (HO9.out.alloc (.cells (cellsOf scell [⟨#[117, 110, 105, 111, 110]⟩, ⟨#[105, 110, 116, 101, 114]⟩, ⟨#[100, 105, 102, 102]⟩]).toArray 9))
        have hc11 := HW11.out.c0
        have hl11 := HW11.out.lt
        refine (IH _ _ _ _ _ _ _ _ _ _ _ _ _ _ HW11.out hn (by omega) (by omega) (by omega) (by omega) (by omega)).mono ?_
        rintro e w12 ⟨s12, f12, rfl, hs12, hW12, hf12, hO12⟩
        have HW12 := Lib.hid hW12
        have HO12 := Lib.hid (HO11.out.trans (hO12.mono (fun j _ h => h.1)))
        have hc12 := hW12.c0
        have hl12 := hW12.lt
        have HN12 := Lib.hid (HN11.out.out hO12 (fun h => h.2 rfl))
        have hx12 := hO12.cell hy10 (fun h => h.2 rfl)
        clear hW12 hO12
        go_wp2_with (first | ((with_reducible show wpPlan _ _ _ _ _ (Act.put _ _ _) _); simp only [List.getElem_toArray, List.getElem_cons_succ, List.getElem_cons_zero, Act.put, List.setIfInBounds_toArray, List.set_cons_zero, List.set_cons_succ]) | ((with_reducible show wpPlan _ _ _ _ _ _ _); first | refine wpPlan_nil ?_ | (refine wpPlan_read0 rfl ?hw rfl (fun _ _ _ => ?_); case hw => ((conv => (lhs; whnf)); first | done | with_reducible rfl)) | (refine wpPlan_read1d rfl ?hw rfl rfl (fun _ _ _ => ?_); case hw => ((conv => (lhs; whnf)); first | done | with_reducible rfl)) | (refine wpPlan_eff rfl ?hw (fun _ _ => ?_); case hw => ((conv => (lhs; whnf)); first | done | with_reducible rfl)) | (refine wpPlan_skip0 rfl ?hw ?_; case hw => ((conv => (lhs; whnf)); first | done | with_reducible rfl)) | (refine wpPlan_skip1d rfl ?hw ?_; case hw => ((conv => (lhs; whnf)); first | done | with_reducible rfl)) | (refine wpPlan_skip2 rfl ?hw ?_; case hw => ((conv => (lhs; whnf)); first | done | with_reducible rfl)) | (refine wpPlan_read1 rfl ?hw rfl (fun _ _ _ => ?_); case hw => ((conv => (lhs; whnf)); first | done | with_reducible rfl)) | refine wpPlan_fork ?_ ?_) | ((with_reducible show Owed _ _ _ _ _ _ _ _ _); first | refine Owed.none_ ?_ | refine Owed.nil_ ?_ | refine Owed.miss rfl ?_ | refine Owed.hit ?_ ?_) | ((with_reducible show Same _ _ _ _ _); intro _; go_simp; done) | (with_reducible exact True.intro))
        refine (IH _ _ _ _ _ _ _ _ _ _ _ _ _ _ HW12.out hn (by omega) (by omega) (by omega) (by omega) (by omega)).mono ?_
        rintro e w13 ⟨s13, f13, rfl, hs13, hW13, hf13, hO13⟩
        have HW13 := Lib.hid hW13
        have HO13 := Lib.hid (HO12.out.trans (hO13.mono (fun j _ h => h.1)))
        have hc13 := hW13.c0
        have hl13 := hW13.lt
        have HN13 := Lib.hid (HN12.out.out hO13 (fun h => h.2 rfl))
        have hx13 := hO13.cell hx12 (fun h => h.2 rfl)
        clear hW13 hO13
        go_wp2_with (first | ((with_reducible show wpPlan _ _ _ _ _ (Act.put _ _ _) _); simp only [List.getElem_toArray, List.getElem_cons_succ, List.getElem_cons_zero, Act.put, List.setIfInBounds_toArray, List.set_cons_zero, List.set_cons_succ]) | ((with_reducible show wpPlan _ _ _ _ _ _ _); first | refine wpPlan_nil ?_ | (refine wpPlan_read0 rfl ?hw rfl (fun _ _ _ => ?_); case hw => ((conv => (lhs; whnf)); first | done | with_reducible rfl)) | (refine wpPlan_read1d rfl ?hw rfl rfl (fun _ _ _ => ?_); case hw => ((conv => (lhs; whnf)); first | done | with_reducible rfl)) | (refine wpPlan_eff rfl ?hw (fun _ _ => ?_); case hw => ((conv => (lhs; whnf)); first | done | with_reducible rfl)) | (refine wpPlan_skip0 rfl ?hw ?_; case hw => ((conv => (lhs; whnf)); first | done | with_reducible rfl)) | (refine wpPlan_skip1d rfl ?hw ?_; case hw => ((conv => (lhs; whnf)); first | done | with_reducible rfl)) | (refine wpPlan_skip2 rfl ?hw ?_; case hw => ((conv => (lhs; whnf)); first | done | with_reducible rfl)) | (refine wpPlan_read1 rfl ?hw rfl (fun _ _ _ => ?_); case hw => ((conv => (lhs; whnf)); first | done | with_reducible rfl)) | refine wpPlan_fork ?_ ?_) | ((with_reducible show Owed _ _ _ _ _ _ _ _ _); first | refine Owed.none_ ?_ | refine Owed.nil_ ?_ | refine Owed.miss rfl ?_ | refine Owed.hit ?_ ?_) | ((with_reducible show Same _ _ _ _ _); intro _; go_simp; done) | (with_reducible exact True.intro))
        go_ret
        exact ⟨_, _, rfl, (by simp [ByteArray.size_append, lit_size]; omega), HW13.out.weak (fun j h => h.1) HH.out.lo, by omega, HO13.out⟩
      · refine (IH _ _ _ _ _ _ _ _ _ _ _ _ _ _ HW9.out hn (by omega) (by omega) (by omega) (by omega) (by omega)).mono ?_
        rintro e w14 ⟨s14, f14, rfl, hs14, hW14, hf14, hO14⟩
        have HW14 := Lib.hid hW14
        have HO14 := Lib.hid (HO9.out.trans (hO14))
        have hc14 := hW14.c0
        have hl14 := hW14.lt
        clear hW14 hO14
        obtain ⟨x15, hx15, hxs15⟩ := pick_at (Blk.newAt (w := w14) (t := 9) (cs := (cellsOf scell [⟨#[117, 110, 105, 111, 110]⟩, ⟨#[105, 110, 116, 101, 114]⟩, ⟨#[100, 105, 102, 102]⟩]).toArray) (g := w14.heap.size) rfl) r9 (by simp; omega) 5 (by decide)
        have hy15 : (w14.alloc (.cells #[.string ⟨#[117, 110, 105, 111, 110]⟩, .string ⟨#[105, 110, 116, 101, 114]⟩, .string ⟨#[100, 105, 102, 102]⟩] 9)).cell? ⟨w14.heap.size, r9, none⟩ = some (.string x15) := hx15
        clear hx15
        go_wp2_with (first | ((with_reducible show wpTree _ _ _ _ _ (Act.put _ _ _) _); simp only [List.getElem_toArray, List.getElem_cons_succ, List.getElem_cons_zero, Act.put, List.setIfInBounds_toArray, List.set_cons_zero, List.set_cons_succ]) | ((with_reducible show wpTree _ _ _ _ _ _ _); first | refine wpTree_line ?_ | refine wpTree_alt ?_ ?_ | (refine wpTree_read0 rfl ?hw rfl (fun _ _ _ => ?_); case hw => ((conv => (lhs; whnf)); first | done | with_reducible rfl)) | (refine wpTree_read1 rfl ?hw rfl (fun _ _ _ => ?_); case hw => ((conv => (lhs; whnf)); first | done | with_reducible rfl)) | (refine wpTree_eff rfl ?hw (fun _ _ => ?_); case hw => ((conv => (lhs; whnf)); first | done | with_reducible rfl)) | (refine wpTree_skip0 rfl ?hw ?_; case hw => ((conv => (lhs; whnf)); first | done | with_reducible rfl)) | (refine wpTree_skip1 rfl ?hw ?_; case hw => ((conv => (lhs; whnf)); first | done | with_reducible rfl)) | (refine wpTree_skip2 rfl ?hw ?_; case hw => ((conv => (lhs; whnf)); first | done | with_reducible rfl))) | ((with_reducible show OwedT _ _ _ _ _ _ _ _ _); first | refine OwedT.none_ ?_ | refine OwedT.nil_ ?_ | refine OwedT.miss rfl ?_ | refine OwedT.hit ?_ ?_) | ((with_reducible show wpPlan _ _ _ _ _ (Act.put _ _ _) _); simp only [List.getElem_toArray, List.getElem_cons_succ, List.getElem_cons_zero, Act.put, List.setIfInBounds_toArray, List.set_cons_zero, List.set_cons_succ]) | ((with_reducible show wpPlan _ _ _ _ _ _ _); first | refine wpPlan_nil ?_ | (refine wpPlan_read0 rfl ?hw rfl (fun _ _ _ => ?_); case hw => ((conv => (lhs; whnf)); first | done | with_reducible rfl)) | (refine wpPlan_read1d rfl ?hw rfl rfl (fun _ _ _ => ?_); case hw => ((conv => (lhs; whnf)); first | done | with_reducible rfl)) | (refine wpPlan_eff rfl ?hw (fun _ _ => ?_); case hw => ((conv => (lhs; whnf)); first | done | with_reducible rfl)) | (refine wpPlan_skip0 rfl ?hw ?_; case hw => ((conv => (lhs; whnf)); first | done | with_reducible rfl)) | (refine wpPlan_skip1d rfl ?hw ?_; case hw => ((conv => (lhs; whnf)); first | done | with_reducible rfl)) | (refine wpPlan_skip2 rfl ?hw ?_; case hw => ((conv => (lhs; whnf)); first | done | with_reducible rfl)) | (refine wpPlan_read1 rfl ?hw rfl (fun _ _ _ => ?_); case hw => ((conv => (lhs; whnf)); first | done | with_reducible rfl)) | refine wpPlan_fork ?_ ?_) | ((with_reducible show Owed _ _ _ _ _ _ _ _ _); first | refine Owed.none_ ?_ | refine Owed.nil_ ?_ | refine Owed.miss rfl ?_ | refine Owed.hit ?_ ?_) | ((with_reducible show Same _ _ _ _ _); intro _; go_simp; done) | (with_reducible exact True.intro))
        · have HN16 := Lib.hid (Blk.newAt (w := w14) (t := 9) (cs := (cellsOf scell [⟨#[117, 110, 105, 111, 110]⟩, ⟨#[105, 110, 116, 101, 114]⟩, ⟨#[100, 105, 102, 102]⟩]).toArray) (g := w14.heap.size) rfl)
          have HW16 := Lib.hid (HW14.out.lit (.cells (cellsOf scell [⟨#[117, 110, 105, 111, 110]⟩, ⟨#[105, 110, 116, 101, 114]⟩, ⟨#[100, 105, 102, 102]⟩]).toArray 9))
          have HO16 := Lib.hid (HO14.out.alloc (.cells (cellsOf scell [⟨#[117, 110, 105, 111, 110]⟩, ⟨#[105, 110, 116, 101, 114]⟩, ⟨#[100, 105, 102, 102]⟩]).toArray 9))
          have hc16 := HW16.out.c0
          have hl16 := HW16.out.lt
          refine (IH _ _ _ _ _ _ _ _ _ _ _ _ _ _ HW16.out hn (by omega) (by omega) (by omega) (by omega) (by omega)).mono ?_
          rintro e w17 ⟨s17, f17, rfl, hs17, hW17, hf17, hO17⟩
          have HW17 := Lib.hid hW17
          have HO17 := Lib.hid (HO16.out.trans (hO17.mono (fun j _ h => h.1)))
          have hc17 := hW17.c0
          have hl17 := hW17.lt
          have HN17 := Lib.hid (HN16.out.out hO17 (fun h => h.2 rfl))
          have hx17 := hO17.cell hy15 (fun h => h.2 rfl)
          clear hW17 hO17
          go_wp2_with (first | ((with_reducible show wpPlan _ _ _ _ _ (Act.put _ _ _) _); simp only [List.getElem_toArray, List.getElem_cons_succ, List.getElem_cons_zero, Act.put, List.setIfInBounds_toArray, List.set_cons_zero, List.set_cons_succ]) | ((with_reducible show wpPlan _ _ _ _ _ _ _); first | refine wpPlan_nil ?_ | (refine wpPlan_read0 rfl ?hw rfl (fun _ _ _ => ?_); case hw => ((conv => (lhs; whnf)); first | done | with_reducible rfl)) | (refine wpPlan_read1d rfl ?hw rfl rfl (fun _ _ _ => ?_); case hw => ((conv => (lhs; whnf)); first | done | with_reducible rfl)) | (refine wpPlan_eff rfl ?hw (fun _ _ => ?_); case hw => ((conv => (lhs; whnf)); first | done | with_reducible rfl)) | (refine wpPlan_skip0 rfl ?hw ?_; case hw => ((conv => (lhs; whnf)); first | done | with_reducible rfl)) | (refine wpPlan_skip1d rfl ?hw ?_; case hw => ((conv => (lhs; whnf)); first | done | with_reducible rfl)) | (refine wpPlan_skip2 rfl ?hw ?_; case hw => ((conv => (lhs; whnf)); first | done | with_reducible rfl)) | (refine wpPlan_read1 rfl ?hw rfl (fun _ _ _ => ?_); case hw => ((conv => (lhs; whnf)); first | done | with_reducible rfl)) | refine wpPlan_fork ?_ ?_) | ((with_reducible show Owed _ _ _ _ _ _ _ _ _); first | refine Owed.none_ ?_ | refine Owed.nil_ ?_ | refine Owed.miss rfl ?_ | refine Owed.hit ?_ ?_) | ((with_reducible show Same _ _ _ _ _); intro _; go_simp; done) | (with_reducible exact True.intro))
          go_ret
          exact ⟨_, _, rfl, (by simp [ByteArray.size_append, lit_size]; omega), HW17.out.weak (fun j h => h.1) HH.out.lo, by omega, HO17.out⟩
        · refine (IH _ _ _ _ _ _ _ _ _ _ _ _ _ _ HW14.out hn (by omega) (by omega) (by omega) (by omega) (by omega)).mono ?_
          rintro e w18 ⟨s18, f18, rfl, hs18, hW18, hf18, hO18⟩
          have HW18 := Lib.hid hW18
          have HO18 := Lib.hid (HO14.out.trans (hO18))
          have hc18 := hW18.c0
          have hl18 := hW18.lt
          clear hW18 hO18
          obtain ⟨x19, hx19, hxs19⟩ := pick_at (Blk.newAt (w := w18) (t := 9) (cs := (cellsOf scell [⟨#[117, 110, 105, 111, 110]⟩, ⟨#[105, 110, 116, 101, 114]⟩, ⟨#[100, 105, 102, 102]⟩]).toArray) (g := w18.heap.size) rfl) r9 (by simp; omega) 5 (by decide)
          have hy19 : (w18.alloc (.cells #[.string ⟨#[117, 110, 105, 111, 110]⟩, .string ⟨#[105, 110, 116, 101, 114]⟩, .string ⟨#[100, 105, 102, 102]⟩] 9)).cell? ⟨w18.heap.size, r9, none⟩ = some (.string x19) := hx19
          clear hx19
          go_wp2_with (first | ((with_reducible show wpTree _ _ _ _ _ (Act.put _ _ _) _); simp only [List.getElem_toArray, List.getElem_cons_succ, List.getElem_cons_zero, Act.put, List.setIfInBounds_toArray, List.set_cons_zero, List.set_cons_succ]) | ((with_reducible show wpTree _ _ _ _ _ _ _); first | refine wpTree_line ?_ | refine wpTree_alt ?_ ?_ | (refine wpTree_read0 rfl ?hw rfl (fun _ _ _ => ?_); case hw => ((conv => (lhs; whnf)); first | done | with_reducible rfl)) | (refine wpTree_read1 rfl ?hw rfl (fun _ _ _ => ?_); case hw => ((conv => (lhs; whnf)); first | done | with_reducible rfl)) | (refine wpTree_eff rfl ?hw (fun _ _ => ?_); case hw => ((conv => (lhs; whnf)); first | done | with_reducible rfl)) | (refine wpTree_skip0 rfl ?hw ?_; case hw => ((conv => (lhs; whnf)); first | done | with_reducible rfl)) | (refine wpTree_skip1 rfl ?hw ?_; case hw => ((conv => (lhs; whnf)); first | done | with_reducible rfl)) | (refine wpTree_skip2 rfl ?hw ?_; case hw => ((conv => (lhs; whnf)); first | done | with_reducible rfl))) | ((with_reducible show OwedT _ _ _ _ _ _ _ _ _); first | refine OwedT.none_ ?_ | refine OwedT.nil_ ?_ | refine OwedT.miss rfl ?_ | refine OwedT.hit ?_ ?_) | ((with_reducible show wpPlan _ _ _ _ _ (Act.put _ _ _) _); simp only [List.getElem_toArray, List.getElem_cons_succ, List.getElem_cons_zero, Act.put, List.setIfInBounds_toArray, List.set_cons_zero, List.set_cons_succ]) | ((with_reducible show wpPlan _ _ _ _ _ _ _); first | refine wpPlan_nil ?_ | (refine wpPlan_read0 rfl ?hw rfl (fun _ _ _ => ?_); case hw => ((conv => (lhs; whnf)); first | done | with_reducible rfl)) | (refine wpPlan_read1d rfl ?hw rfl rfl (fun _ _ _ => ?_); case hw => ((conv => (lhs; whnf)); first | done | with_reducible rfl)) | (refine wpPlan_eff rfl ?hw (fun _ _ => ?_); case hw => ((conv => (lhs; whnf)); first | done | with_reducible rfl)) | (refine wpPlan_skip0 rfl ?hw ?_; case hw => ((conv => (lhs; whnf)); first | done | with_reducible rfl)) | (refine wpPlan_skip1d rfl ?hw ?_; case hw => ((conv => (lhs; whnf)); first | done | with_reducible rfl)) | (refine wpPlan_skip2 rfl ?hw ?_; case hw => ((conv => (lhs; whnf)); first | done | with_reducible rfl)) | (refine wpPlan_read1 rfl ?hw rfl (fun _ _ _ => ?_); case hw => ((conv => (lhs; whnf)); first | done | with_reducible rfl)) | refine wpPlan_fork ?_ ?_) | ((with_reducible show Owed _ _ _ _ _ _ _ _ _); first | refine Owed.none_ ?_ | refine Owed.nil_ ?_ | refine Owed.miss rfl ?_ | refine Owed.hit ?_ ?_) | ((with_reducible show Same _ _ _ _ _); intro _; go_simp; done) | (with_reducible exact True.intro))
          go_ret
          exact ⟨_, _, rfl, (by simp [ByteArray.size_append, lit_size]; omega), HW18.out.alloc _, by omega, HO18.out.alloc _⟩
  · go_wp2_with fail
    refine (IH _ _ _ _ _ _ _ _ _ _ _ _ _ _ HW1.out hn (by omega) (by omega) (by omega) (by omega) (by omega)).mono ?_
    rintro e w20 ⟨s20, f20, rfl, hs20, hW20, hf20, hO20⟩
    have HW20 := Lib.hid hW20
    have HO20 := Lib.hid (HO1.out.trans (hO20))
    have hc20 := hW20.c0
    have hl20 := hW20.lt
    clear hW20 hO20
    go_wp2_with fail
    refine (mark_any _ _ _ _ _ _ _ _ _ _ _ _ HW20.out).mono ?_
    rintro e w21 ⟨rfl, rfl⟩
    go_wp2_with fail
    refine (bind_any _ _ _ _ _ _ _ _ _ _ _ _ HW20.out _ (by omega) (by omega)).mono ?_
    rintro e w22 ⟨⟨s22, rfl, hs22⟩, hW22, hO22⟩
    have HW22 := Lib.hid hW22
    have HO22 := Lib.hid (HO20.out.trans (hO22))
    have hc22 := hW22.c0
    have hl22 := hW22.lt
    clear hW22 hO22
    go_wp2_with fail
    refine (IH _ _ _ _ _ _ _ _ _ _ _ _ _ _ HW22.out hn (by omega) (by omega) (by omega) (by omega) (by omega)).mono ?_
    rintro e w23 ⟨s23, f23, rfl, hs23, hW23, hf23, hO23⟩
    have HW23 := Lib.hid hW23
    have HO23 := Lib.hid (HO22.out.trans (hO23))
    have hc23 := hW23.c0
    have hl23 := hW23.lt
    clear hW23 hO23
    go_wp2_with fail
    refine (IH _ _ _ _ _ _ _ _ _ _ _ _ _ _ HW23.out hn (by omega) (by omega) (by omega) (by omega) (by omega)).mono ?_
    rintro e w24 ⟨s24, f24, rfl, hs24, hW24, hf24, hO24⟩
    have HW24 := Lib.hid hW24
    have HO24 := Lib.hid (HO23.out.trans (hO24))
    have hc24 := hW24.c0
    have hl24 := hW24.lt
    clear hW24 hO24
    go_wp2_with fail
    refine (reset_any _ _ _ _ _ _ _ _ _ _ _ _ HW24.out k (by omega) (by omega)).mono ?_
    rintro e w25 ⟨rfl, hW25, hO25⟩
    have HW25 := Lib.hid hW25
    have HO25 := Lib.hid (HO24.out.trans (hO25))
    have hc25 := hW25.c0
    have hl25 := hW25.lt
    clear hW25 hO25
    go_wp2_with fail
    go_ret
    exact ⟨_, _, rfl, (by simp [ByteArray.size_append, lit_size]; omega), HW25.out, by omega, HO25.out⟩
  · go_wp2_with fail
    refine (IH _ _ _ _ _ _ _ _ _ _ _ _ _ _ HW1.out hn (by omega) (by omega) (by omega) (by omega) (by omega)).mono ?_
    rintro e w26 ⟨s26, f26, rfl, hs26, hW26, hf26, hO26⟩
    have HW26 := Lib.hid hW26
    have HO26 := Lib.hid (HO1.out.trans (hO26))
    have hc26 := hW26.c0
    have hl26 := hW26.lt
    clear hW26 hO26
    go_wp2_with fail
    go_ret
    exact ⟨_, _, rfl, (by simp [ByteArray.size_append, lit_size]; omega), HW26.out, by omega, HO26.out⟩
  · go_wp2_with fail
    refine (IH0 _ _ _ _ _ _ _ _ _ _ _ _ _ _ HW1.out hn (by omega) (by omega) (by omega) (by omega) (by omega)).mono ?_
    rintro e w27 ⟨s27, f27, rfl, hs27, hW27, hf27, hO27⟩
    have HW27 := Lib.hid hW27
    have HO27 := Lib.hid (HO1.out.trans (hO27))
    have hc27 := hW27.c0
    have hl27 := hW27.lt
    clear hW27 hO27
    go_wp2_with fail
    go_ret
    exact ⟨_, _, rfl, (by simp [ByteArray.size_append, lit_size]; omega), HW27.out, by omega, HO27.out⟩

theorem wlocal_any (IH : ExprOk d) (h : WrAt w B R b wb A n c zs fu k fr) (hn : n ≤ 1000000000000) (hk : k + (d + 1) ≤ 100000) (hfr : fr + mS (d + 1) ≤ 1000000) (t : Int) (ht : 0 ≤ t) (ht6 : t < 6) (q : Int) (hq : q = (d : Int) + 1) :
    Calls Tryd.prog 66 #[.pointer (some ⟨wb, 0, none⟩), .int .i64 t, .int .i64 q] w (WPost B R b wb A n c zs fu k fr (mS (d + 1)) w) := by
  have HH := Lib.hid h
  have HO0 := Lib.hid (Outside.refl R w)
  have hm : mS (d + 1) = 3 * mS d + 40 := rfl
  have hm12 := mS_ge d
  have hm0 : mS 0 = 12 := rfl
  have hc := h.c0
  have hl := h.lt
  clear h
  go_enter Tryd.func66, Tryd.ntmps66
  go_wp2_with fail
  refine (wnext_any _ _ _ _ _ _ _ _ _ _ _ _ HH.out 6 (by omega) (by omega) hn).mono ?_
  rintro e w1 ⟨⟨r1, rfl, hr1⟩, hW1, hO1⟩
  have HW1 := Lib.hid hW1
  have HO1 := Lib.hid (HO0.out.trans (hO1))
  have hc1 := hW1.c0
  have hl1 := hW1.lt
  clear hW1 hO1
  go_wp2_with fail
  refine (IH _ _ _ _ _ _ _ _ _ _ _ _ _ _ HW1.out hn (by omega) (by omega) (by omega) (by omega) (by omega)).mono ?_
  rintro e w2 ⟨s2, f2, rfl, hs2, hW2, hf2, hO2⟩
  have HW2 := Lib.hid hW2
  have HO2 := Lib.hid (HO1.out.trans (hO2))
  have hc2 := hW2.c0
  have hl2 := hW2.lt
  clear hW2 hO2
  go_wp2_with fail
  refine (mark_any _ _ _ _ _ _ _ _ _ _ _ _ HW2.out).mono ?_
  rintro e w3 ⟨rfl, rfl⟩
  go_wp2_with fail
  refine (bind_any _ _ _ _ _ _ _ _ _ _ _ _ HW2.out _ (by omega) (by omega)).mono ?_
  rintro e w4 ⟨⟨s4, rfl, hs4⟩, hW4, hO4⟩
  have HW4 := Lib.hid hW4
  have HO4 := Lib.hid (HO2.out.trans (hO4))
  have hc4 := hW4.c0
  have hl4 := hW4.lt
  clear hW4 hO4
  go_wp2_with fail
  refine (IH _ _ _ _ _ _ _ _ _ _ _ _ _ _ HW4.out hn (by omega) (by omega) (by omega) (by omega) (by omega)).mono ?_
  rintro e w5 ⟨s5, f5, rfl, hs5, hW5, hf5, hO5⟩
  have HW5 := Lib.hid hW5
  have HO5 := Lib.hid (HO4.out.trans (hO5))
  have hc5 := hW5.c0
  have hl5 := hW5.lt
  clear hW5 hO5
  go_wp2_with fail
  refine (reset_any _ _ _ _ _ _ _ _ _ _ _ _ HW5.out k (by omega) (by omega)).mono ?_
  rintro e w6 ⟨rfl, hW6, hO6⟩
  have HW6 := Lib.hid hW6
  have HO6 := Lib.hid (HO5.out.trans (hO6))
  have hc6 := hW6.c0
  have hl6 := hW6.lt
  clear hW6 hO6
  go_wp2_with fail
  go_ret
  exact ⟨_, _, rfl, (by simp [ByteArray.size_append, lit_size]; omega), HW6.out, by omega, HO6.out⟩
end

theorem WPost.mono {B : Nat} {R : Nat → Prop} {b wb : Nat} {A : Option Addr} {n c : Nat} {zs : List Int} {fu : Int} {k fr fr' m m' : Nat} {w w0 : World} {e : Ending} {w' : World} (h : WPost B R b wb A n c zs fu k fr' m w0 e w') (hO : Outside R w w0) (hm : m ≤ m') (hf : fr' + m ≤ fr + m') : WPost B R b wb A n c zs fu k fr m' w e w' := by
  obtain ⟨s, f, h1, h2, h3, h4, h5⟩ := h
  exact ⟨s, f, h1, by omega, h3, by omega, hO.trans h5⟩

end Go.Proofs.YtgfhkaamkodpjaaDoor
