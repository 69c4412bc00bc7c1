/- the generator's writer of sources: process (printed by wip/tools/wr3gen.py) -/
import Derived.Test.YtgfhkaamkodpjaaDoorWr5
namespace Go.Proofs.YtgfhkaamkodpjaaDoor
open Go Go.RowKit
set_option maxHeartbeats 60000000

theorem WrAt.c3 {w : World} {B b wb n c k fr : Nat} {A : Option Addr} {zs : List Int} {fu : Int} {R : Nat → Prop} (h : WrAt w B R b wb A n c zs fu k fr) : w.cell? ⟨wb, 3, none⟩ = some (.int .i64 fu) := by
  obtain ⟨vn, vt, ns, ts, h1, _⟩ := h.st
  exact (h1.cell 3).trans rfl

def pS : Nat → Nat
  | 0 => 20
  | d + 1 => 2 * pS d + 160

/-- Processes of depth d are as they should be. -/
def ProcOk (d : Nat) : Prop :=
  ∀ (B : Nat) (R : Nat → Prop) (b wb : Nat) (A : Option Addr) (n c : Nat) (zs : List Int) (fu : Int) (k fr : Nat) (w : World) (q : Int),
    WrAt w B R b wb A n c zs fu k fr → n ≤ 1000000000000 → 1 ≤ fu → fu ≤ 10 → k + d + 10 ≤ 100000 → fr + pS d ≤ 1000000 → q = (d : Int) →
    Calls Tryd.prog 38 #[.pointer (some ⟨wb, 0, none⟩), .int .i64 q] w (WPost B R b wb A n c zs fu k fr (pS d) w)

set_option maxRecDepth 100000 in
theorem proc_zero : ProcOk 0 := by
  intro B R b wb A n c zs fu k fr w q h hn hu1 hu2 hk hfr hq
  obtain rfl : q = 0 := by omega
  clear hq
  have hp0 : pS 0 = 20 := rfl
  have hm0 : mS 0 = 12 := rfl
  have hm1 : mS 1 = 76 := rfl
  have HH := Lib.hid h
  have HO0 := Lib.hid (Outside.refl R w)
  have hc := h.c0
  have hl := h.lt
  clear h
  go_enter Tryd.func38, Tryd.ntmps38
  go_wp2_with fail
  refine (wnext_any _ _ _ _ _ _ _ _ _ _ _ _ HH.out 16 (by omega) (by omega) hn).mono ?_
  rintro e w1 ⟨⟨r1, rfl, hr1⟩, hW1, hO1⟩
  have HW1 := Lib.hid hW1
  have HO1 := Lib.hid (HO0.out.trans (hO1))
  have hc1 := hW1.c0
  have hl1 := hW1.lt
  clear hW1 hO1
  have hr0 : (0 : Int) ≤ r1 := by omega
  generalize hz : (r1 : Int) = z at hr1 hr0 ⊢
  clear hz
  have hc3 := HW1.out.c3
  rcases (show z = 0 ∨ z = 1 ∨ z = 2 ∨ z = 3 ∨ z = 4 ∨ z = 5 ∨ z = 6 ∨ z = 7 ∨ z = 8 ∨ z = 9 ∨ z = 10 ∨ z = 11 ∨ z = 12 ∨ z = 13 ∨ z = 14 ∨ z = 15 by omega) with rfl | rfl | rfl | rfl | rfl | rfl | rfl | rfl | rfl | rfl | rfl | rfl | rfl | rfl | rfl | rfl
  · go_wp2_with fail
    go_ret
    exact ⟨_, _, rfl, (by simp [lit_size]; omega), HW1.out, by omega, HO1.out⟩
  · go_wp2_with fail
    go_ret
    exact ⟨_, _, rfl, (by simp [lit_size]; omega), HW1.out, by omega, HO1.out⟩
  · go_wp2_with (first | ((with_reducible show wpPlan _ _ _ _ _ (Act.put _ _ _) _); simp only [List.getElem_toArray, List.getElem_cons_succ, List.getElem_cons_zero, Act.put, List.setIfInBounds_toArray, List.set_cons_zero, List.set_cons_succ]) | ((with_reducible show wpPlan _ _ _ _ _ _ _); first | refine wpPlan_nil ?_ | (refine wpPlan_read0 rfl ?hw rfl (fun _ _ _ => ?_); case hw => ((conv => (lhs; whnf)); first | done | with_reducible rfl)) | (refine wpPlan_read1d rfl ?hw rfl rfl (fun _ _ _ => ?_); case hw => ((conv => (lhs; whnf)); first | done | with_reducible rfl)) | (refine wpPlan_eff rfl ?hw (fun _ _ => ?_); case hw => ((conv => (lhs; whnf)); first | done | with_reducible rfl)) | (refine wpPlan_skip0 rfl ?hw ?_; case hw => ((conv => (lhs; whnf)); first | done | with_reducible rfl)) | (refine wpPlan_skip1d rfl ?hw ?_; case hw => ((conv => (lhs; whnf)); first | done | with_reducible rfl)) | (refine wpPlan_skip2 rfl ?hw ?_; case hw => ((conv => (lhs; whnf)); first | done | with_reducible rfl)) | (refine wpPlan_read1 rfl ?hw rfl (fun _ _ _ => ?_); case hw => ((conv => (lhs; whnf)); first | done | with_reducible rfl)) | refine wpPlan_fork ?_ ?_) | ((with_reducible show Owed _ _ _ _ _ _ _ _ _); first | refine Owed.none_ ?_ | refine Owed.nil_ ?_ | refine Owed.miss rfl ?_ | refine Owed.hit ?_ ?_) | ((with_reducible show Same _ _ _ _ _); intro _; go_simp; done) | (with_reducible exact True.intro) | ((with_reducible show Code.wp _ (Code.region 10 _ true) _ _ _); refine wp_region_plan [(0, 0, []), (1, 1, []), (2, 1, []), (3, 1, []), (4, 0, []), (5, 1, []), (6, 1, []), (7, 1, []), (8, 2, []), (9, 2, []), (10, 1, []), (11, 0, [])] (by kernel_rfl) (by kernel_rfl) (by kernel_rfl) ?_))
    refine (wnext_any _ _ _ _ _ _ _ _ _ _ _ _ HW1.out.drew fu (by omega) (by omega) hn).mono ?_
    rintro e w2 ⟨⟨r2, rfl, hr2⟩, hW2, hO2⟩
    have HW2 := Lib.hid hW2
    have HO2 := Lib.hid (HO1.out.drew.trans (hO2))
    have hc2 := hW2.c0
    have hl2 := hW2.lt
    clear hW2 hO2
    go_wp2_with (first | ((with_reducible show wpPlan _ _ _ _ _ (Act.put _ _ _) _); simp only [List.getElem_toArray, List.getElem_cons_succ, List.getElem_cons_zero, Act.put, List.setIfInBounds_toArray, List.set_cons_zero, List.set_cons_succ]) | ((with_reducible show wpPlan _ _ _ _ _ _ _); first | refine wpPlan_nil ?_ | (refine wpPlan_read0 rfl ?hw rfl (fun _ _ _ => ?_); case hw => ((conv => (lhs; whnf)); first | done | with_reducible rfl)) | (refine wpPlan_read1d rfl ?hw rfl rfl (fun _ _ _ => ?_); case hw => ((conv => (lhs; whnf)); first | done | with_reducible rfl)) | (refine wpPlan_eff rfl ?hw (fun _ _ => ?_); case hw => ((conv => (lhs; whnf)); first | done | with_reducible rfl)) | (refine wpPlan_skip0 rfl ?hw ?_; case hw => ((conv => (lhs; whnf)); first | done | with_reducible rfl)) | (refine wpPlan_skip1d rfl ?hw ?_; case hw => ((conv => (lhs; whnf)); first | done | with_reducible rfl)) | (refine wpPlan_skip2 rfl ?hw ?_; case hw => ((conv => (lhs; whnf)); first | done | with_reducible rfl)) | (refine wpPlan_read1 rfl ?hw rfl (fun _ _ _ => ?_); case hw => ((conv => (lhs; whnf)); first | done | with_reducible rfl)) | refine wpPlan_fork ?_ ?_) | ((with_reducible show Owed _ _ _ _ _ _ _ _ _); first | refine Owed.none_ ?_ | refine Owed.nil_ ?_ | refine Owed.miss rfl ?_ | refine Owed.hit ?_ ?_) | ((with_reducible show Same _ _ _ _ _); intro _; go_simp; done) | (with_reducible exact True.intro))
    refine (gdigit_any _ _ (by omega) (by omega)).mono ?_
    rintro e w3 ⟨⟨s3, rfl, hs3⟩, rfl⟩
    go_wp2_with (first | ((with_reducible show wpPlan _ _ _ _ _ (Act.put _ _ _) _); simp only [List.getElem_toArray, List.getElem_cons_succ, List.getElem_cons_zero, Act.put, List.setIfInBounds_toArray, List.set_cons_zero, List.set_cons_succ]) | ((with_reducible show wpPlan _ _ _ _ _ _ _); first | refine wpPlan_nil ?_ | (refine wpPlan_read0 rfl ?hw rfl (fun _ _ _ => ?_); case hw => ((conv => (lhs; whnf)); first | done | with_reducible rfl)) | (refine wpPlan_read1d rfl ?hw rfl rfl (fun _ _ _ => ?_); case hw => ((conv => (lhs; whnf)); first | done | with_reducible rfl)) | (refine wpPlan_eff rfl ?hw (fun _ _ => ?_); case hw => ((conv => (lhs; whnf)); first | done | with_reducible rfl)) | (refine wpPlan_skip0 rfl ?hw ?_; case hw => ((conv => (lhs; whnf)); first | done | with_reducible rfl)) | (refine wpPlan_skip1d rfl ?hw ?_; case hw => ((conv => (lhs; whnf)); first | done | with_reducible rfl)) | (refine wpPlan_skip2 rfl ?hw ?_; case hw => ((conv => (lhs; whnf)); first | done | with_reducible rfl)) | (refine wpPlan_read1 rfl ?hw rfl (fun _ _ _ => ?_); case hw => ((conv => (lhs; whnf)); first | done | with_reducible rfl)) | refine wpPlan_fork ?_ ?_) | ((with_reducible show Owed _ _ _ _ _ _ _ _ _); first | refine Owed.none_ ?_ | refine Owed.nil_ ?_ | refine Owed.miss rfl ?_ | refine Owed.hit ?_ ?_) | ((with_reducible show Same _ _ _ _ _); intro _; go_simp; done) | (with_reducible exact True.intro))
    go_ret
    exact ⟨_, _, rfl, (by simp [ByteArray.size_append, lit_size]; omega), HW2.out, by omega, HO2.out⟩
  · go_wp2_with fail
    refine ((expr_all 0) _ _ _ _ _ _ _ _ _ _ _ _ _ _ HW1.out hn (by omega) (by omega) (by omega) (by omega) (by omega)).mono ?_
    rintro e w4 ⟨s4, f4, rfl, hs4, hW4, hf4, hO4⟩
    have HW4 := Lib.hid hW4
    have HO4 := Lib.hid (HO1.out.trans (hO4))
    have hc4 := hW4.c0
    have hl4 := hW4.lt
    clear hW4 hO4
    go_wp2_with fail
    go_ret
    exact ⟨_, _, rfl, (by simp [ByteArray.size_append, lit_size]; omega), HW4.out, by omega, HO4.out⟩
  · go_wp2_with fail
    go_ret
    exact ⟨_, _, rfl, (by simp [lit_size]; omega), HW1.out, by omega, HO1.out⟩
  · go_wp2_with fail
    go_ret
    exact ⟨_, _, rfl, (by simp [lit_size]; omega), HW1.out, by omega, HO1.out⟩
  · go_wp2_with (first | ((with_reducible show wpPlan _ _ _ _ _ (Act.put _ _ _) _); simp only [List.getElem_toArray, List.getElem_cons_succ, List.getElem_cons_zero, Act.put, List.setIfInBounds_toArray, List.set_cons_zero, List.set_cons_succ]) | ((with_reducible show wpPlan _ _ _ _ _ _ _); first | refine wpPlan_nil ?_ | (refine wpPlan_read0 rfl ?hw rfl (fun _ _ _ => ?_); case hw => ((conv => (lhs; whnf)); first | done | with_reducible rfl)) | (refine wpPlan_read1d rfl ?hw rfl rfl (fun _ _ _ => ?_); case hw => ((conv => (lhs; whnf)); first | done | with_reducible rfl)) | (refine wpPlan_eff rfl ?hw (fun _ _ => ?_); case hw => ((conv => (lhs; whnf)); first | done | with_reducible rfl)) | (refine wpPlan_skip0 rfl ?hw ?_; case hw => ((conv => (lhs; whnf)); first | done | with_reducible rfl)) | (refine wpPlan_skip1d rfl ?hw ?_; case hw => ((conv => (lhs; whnf)); first | done | with_reducible rfl)) | (refine wpPlan_skip2 rfl ?hw ?_; case hw => ((conv => (lhs; whnf)); first | done | with_reducible rfl)) | (refine wpPlan_read1 rfl ?hw rfl (fun _ _ _ => ?_); case hw => ((conv => (lhs; whnf)); first | done | with_reducible rfl)) | refine wpPlan_fork ?_ ?_) | ((with_reducible show Owed _ _ _ _ _ _ _ _ _); first | refine Owed.none_ ?_ | refine Owed.nil_ ?_ | refine Owed.miss rfl ?_ | refine Owed.hit ?_ ?_) | ((with_reducible show Same _ _ _ _ _); intro _; go_simp; done) | (with_reducible exact True.intro) | ((with_reducible show Code.wp _ (Code.region 10 _ true) _ _ _); refine wp_region_plan [(0, 0, []), (1, 1, []), (2, 1, []), (3, 1, []), (4, 0, []), (5, 1, []), (6, 1, []), (7, 1, []), (8, 2, []), (9, 2, []), (10, 1, []), (11, 0, [])] (by kernel_rfl) (by kernel_rfl) (by kernel_rfl) ?_))
    refine (wnext_any _ _ _ _ _ _ _ _ _ _ _ _ HW1.out.drew fu (by omega) (by omega) hn).mono ?_
    rintro e w5 ⟨⟨r5, rfl, hr5⟩, hW5, hO5⟩
    have HW5 := Lib.hid hW5
    have HO5 := Lib.hid (HO1.out.drew.trans (hO5))
    have hc5 := hW5.c0
    have hl5 := hW5.lt
    clear hW5 hO5
    go_wp2_with (first | ((with_reducible show wpPlan _ _ _ _ _ (Act.put _ _ _) _); simp only [List.getElem_toArray, List.getElem_cons_succ, List.getElem_cons_zero, Act.put, List.setIfInBounds_toArray, List.set_cons_zero, List.set_cons_succ]) | ((with_reducible show wpPlan _ _ _ _ _ _ _); first | refine wpPlan_nil ?_ | (refine wpPlan_read0 rfl ?hw rfl (fun _ _ _ => ?_); case hw => ((conv => (lhs; whnf)); first | done | with_reducible rfl)) | (refine wpPlan_read1d rfl ?hw rfl rfl (fun _ _ _ => ?_); case hw => ((conv => (lhs; whnf)); first | done | with_reducible rfl)) | (refine wpPlan_eff rfl ?hw (fun _ _ => ?_); case hw => ((conv => (lhs; whnf)); first | done | with_reducible rfl)) | (refine wpPlan_skip0 rfl ?hw ?_; case hw => ((conv => (lhs; whnf)); first | done | with_reducible rfl)) | (refine wpPlan_skip1d rfl ?hw ?_; case hw => ((conv => (lhs; whnf)); first | done | with_reducible rfl)) | (refine wpPlan_skip2 rfl ?hw ?_; case hw => ((conv => (lhs; whnf)); first | done | with_reducible rfl)) | (refine wpPlan_read1 rfl ?hw rfl (fun _ _ _ => ?_); case hw => ((conv => (lhs; whnf)); first | done | with_reducible rfl)) | refine wpPlan_fork ?_ ?_) | ((with_reducible show Owed _ _ _ _ _ _ _ _ _); first | refine Owed.none_ ?_ | refine Owed.nil_ ?_ | refine Owed.miss rfl ?_ | refine Owed.hit ?_ ?_) | ((with_reducible show Same _ _ _ _ _); intro _; go_simp; done) | (with_reducible exact True.intro))
    refine (gdigit_any _ _ (by omega) (by omega)).mono ?_
    rintro e w6 ⟨⟨s6, rfl, hs6⟩, rfl⟩
    go_wp2_with (first | ((with_reducible show wpPlan _ _ _ _ _ (Act.put _ _ _) _); simp only [List.getElem_toArray, List.getElem_cons_succ, List.getElem_cons_zero, Act.put, List.setIfInBounds_toArray, List.set_cons_zero, List.set_cons_succ]) | ((with_reducible show wpPlan _ _ _ _ _ _ _); first | refine wpPlan_nil ?_ | (refine wpPlan_read0 rfl ?hw rfl (fun _ _ _ => ?_); case hw => ((conv => (lhs; whnf)); first | done | with_reducible rfl)) | (refine wpPlan_read1d rfl ?hw rfl rfl (fun _ _ _ => ?_); case hw => ((conv => (lhs; whnf)); first | done | with_reducible rfl)) | (refine wpPlan_eff rfl ?hw (fun _ _ => ?_); case hw => ((conv => (lhs; whnf)); first | done | with_reducible rfl)) | (refine wpPlan_skip0 rfl ?hw ?_; case hw => ((conv => (lhs; whnf)); first | done | with_reducible rfl)) | (refine wpPlan_skip1d rfl ?hw ?_; case hw => ((conv => (lhs; whnf)); first | done | with_reducible rfl)) | (refine wpPlan_skip2 rfl ?hw ?_; case hw => ((conv => (lhs; whnf)); first | done | with_reducible rfl)) | (refine wpPlan_read1 rfl ?hw rfl (fun _ _ _ => ?_); case hw => ((conv => (lhs; whnf)); first | done | with_reducible rfl)) | refine wpPlan_fork ?_ ?_) | ((with_reducible show Owed _ _ _ _ _ _ _ _ _); first | refine Owed.none_ ?_ | refine Owed.nil_ ?_ | refine Owed.miss rfl ?_ | refine Owed.hit ?_ ?_) | ((with_reducible show Same _ _ _ _ _); intro _; go_simp; done) | (with_reducible exact True.intro))
    go_ret
    exact ⟨_, _, rfl, (by simp [ByteArray.size_append, lit_size]; omega), HW5.out, by omega, HO5.out⟩
  · go_wp2_with fail
    refine ((expr_all 0) _ _ _ _ _ _ _ _ _ _ _ _ _ _ HW1.out hn (by omega) (by omega) (by omega) (by omega) (by omega)).mono ?_
    rintro e w7 ⟨s7, f7, rfl, hs7, hW7, hf7, hO7⟩
    have HW7 := Lib.hid hW7
    have HO7 := Lib.hid (HO1.out.trans (hO7))
    have hc7 := hW7.c0
    have hl7 := hW7.lt
    clear hW7 hO7
    go_wp2_with fail
    go_ret
    exact ⟨_, _, rfl, (by simp [ByteArray.size_append, lit_size]; omega), HW7.out, by omega, HO7.out⟩
  · go_wp2_with fail
    go_ret
    exact ⟨_, _, rfl, (by simp [lit_size]; omega), HW1.out, by omega, HO1.out⟩
  · go_wp2_with fail
    go_ret
    exact ⟨_, _, rfl, (by simp [lit_size]; omega), HW1.out, by omega, HO1.out⟩
  · go_wp2_with (first | ((with_reducible show wpPlan _ _ _ _ _ (Act.put _ _ _) _); simp only [List.getElem_toArray, List.getElem_cons_succ, List.getElem_cons_zero, Act.put, List.setIfInBounds_toArray, List.set_cons_zero, List.set_cons_succ]) | ((with_reducible show wpPlan _ _ _ _ _ _ _); first | refine wpPlan_nil ?_ | (refine wpPlan_read0 rfl ?hw rfl (fun _ _ _ => ?_); case hw => ((conv => (lhs; whnf)); first | done | with_reducible rfl)) | (refine wpPlan_read1d rfl ?hw rfl rfl (fun _ _ _ => ?_); case hw => ((conv => (lhs; whnf)); first | done | with_reducible rfl)) | (refine wpPlan_eff rfl ?hw (fun _ _ => ?_); case hw => ((conv => (lhs; whnf)); first | done | with_reducible rfl)) | (refine wpPlan_skip0 rfl ?hw ?_; case hw => ((conv => (lhs; whnf)); first | done | with_reducible rfl)) | (refine wpPlan_skip1d rfl ?hw ?_; case hw => ((conv => (lhs; whnf)); first | done | with_reducible rfl)) | (refine wpPlan_skip2 rfl ?hw ?_; case hw => ((conv => (lhs; whnf)); first | done | with_reducible rfl)) | (refine wpPlan_read1 rfl ?hw rfl (fun _ _ _ => ?_); case hw => ((conv => (lhs; whnf)); first | done | with_reducible rfl)) | refine wpPlan_fork ?_ ?_) | ((with_reducible show Owed _ _ _ _ _ _ _ _ _); first | refine Owed.none_ ?_ | refine Owed.nil_ ?_ | refine Owed.miss rfl ?_ | refine Owed.hit ?_ ?_) | ((with_reducible show Same _ _ _ _ _); intro _; go_simp; done) | (with_reducible exact True.intro) | ((with_reducible show Code.wp _ (Code.region 10 _ true) _ _ _); refine wp_region_plan [(0, 0, []), (1, 1, []), (2, 1, []), (3, 1, []), (4, 0, []), (5, 1, []), (6, 1, []), (7, 1, []), (8, 2, []), (9, 2, []), (10, 1, []), (11, 0, [])] (by kernel_rfl) (by kernel_rfl) (by kernel_rfl) ?_))
    refine (wnext_any _ _ _ _ _ _ _ _ _ _ _ _ HW1.out.drew fu (by omega) (by omega) hn).mono ?_
    rintro e w8 ⟨⟨r8, rfl, hr8⟩, hW8, hO8⟩
    have HW8 := Lib.hid hW8
    have HO8 := Lib.hid (HO1.out.drew.trans (hO8))
    have hc8 := hW8.c0
    have hl8 := hW8.lt
    clear hW8 hO8
    go_wp2_with (first | ((with_reducible show wpPlan _ _ _ _ _ (Act.put _ _ _) _); simp only [List.getElem_toArray, List.getElem_cons_succ, List.getElem_cons_zero, Act.put, List.setIfInBounds_toArray, List.set_cons_zero, List.set_cons_succ]) | ((with_reducible show wpPlan _ _ _ _ _ _ _); first | refine wpPlan_nil ?_ | (refine wpPlan_read0 rfl ?hw rfl (fun _ _ _ => ?_); case hw => ((conv => (lhs; whnf)); first | done | with_reducible rfl)) | (refine wpPlan_read1d rfl ?hw rfl rfl (fun _ _ _ => ?_); case hw => ((conv => (lhs; whnf)); first | done | with_reducible rfl)) | (refine wpPlan_eff rfl ?hw (fun _ _ => ?_); case hw => ((conv => (lhs; whnf)); first | done | with_reducible rfl)) | (refine wpPlan_skip0 rfl ?hw ?_; case hw => ((conv => (lhs; whnf)); first | done | with_reducible rfl)) | (refine wpPlan_skip1d rfl ?hw ?_; case hw => ((conv => (lhs; whnf)); first | done | with_reducible rfl)) | (refine wpPlan_skip2 rfl ?hw ?_; case hw => ((conv => (lhs; whnf)); first | done | with_reducible rfl)) | (refine wpPlan_read1 rfl ?hw rfl (fun _ _ _ => ?_); case hw => ((conv => (lhs; whnf)); first | done | with_reducible rfl)) | refine wpPlan_fork ?_ ?_) | ((with_reducible show Owed _ _ _ _ _ _ _ _ _); first | refine Owed.none_ ?_ | refine Owed.nil_ ?_ | refine Owed.miss rfl ?_ | refine Owed.hit ?_ ?_) | ((with_reducible show Same _ _ _ _ _); intro _; go_simp; done) | (with_reducible exact True.intro))
    refine (gdigit_any _ _ (by omega) (by omega)).mono ?_
    rintro e w9 ⟨⟨s9, rfl, hs9⟩, rfl⟩
    go_wp2_with (first | ((with_reducible show wpPlan _ _ _ _ _ (Act.put _ _ _) _); simp only [List.getElem_toArray, List.getElem_cons_succ, List.getElem_cons_zero, Act.put, List.setIfInBounds_toArray, List.set_cons_zero, List.set_cons_succ]) | ((with_reducible show wpPlan _ _ _ _ _ _ _); first | refine wpPlan_nil ?_ | (refine wpPlan_read0 rfl ?hw rfl (fun _ _ _ => ?_); case hw => ((conv => (lhs; whnf)); first | done | with_reducible rfl)) | (refine wpPlan_read1d rfl ?hw rfl rfl (fun _ _ _ => ?_); case hw => ((conv => (lhs; whnf)); first | done | with_reducible rfl)) | (refine wpPlan_eff rfl ?hw (fun _ _ => ?_); case hw => ((conv => (lhs; whnf)); first | done | with_reducible rfl)) | (refine wpPlan_skip0 rfl ?hw ?_; case hw => ((conv => (lhs; whnf)); first | done | with_reducible rfl)) | (refine wpPlan_skip1d rfl ?hw ?_; case hw => ((conv => (lhs; whnf)); first | done | with_reducible rfl)) | (refine wpPlan_skip2 rfl ?hw ?_; case hw => ((conv => (lhs; whnf)); first | done | with_reducible rfl)) | (refine wpPlan_read1 rfl ?hw rfl (fun _ _ _ => ?_); case hw => ((conv => (lhs; whnf)); first | done | with_reducible rfl)) | refine wpPlan_fork ?_ ?_) | ((with_reducible show Owed _ _ _ _ _ _ _ _ _); first | refine Owed.none_ ?_ | refine Owed.nil_ ?_ | refine Owed.miss rfl ?_ | refine Owed.hit ?_ ?_) | ((with_reducible show Same _ _ _ _ _); intro _; go_simp; done) | (with_reducible exact True.intro))
    go_ret
    exact ⟨_, _, rfl, (by simp [ByteArray.size_append, lit_size]; omega), HW8.out, by omega, HO8.out⟩
  · go_wp2_with fail
    refine ((expr_all 0) _ _ _ _ _ _ _ _ _ _ _ _ _ _ HW1.out hn (by omega) (by omega) (by omega) (by omega) (by omega)).mono ?_
    rintro e w10 ⟨s10, f10, rfl, hs10, hW10, hf10, hO10⟩
    have HW10 := Lib.hid hW10
    have HO10 := Lib.hid (HO1.out.trans (hO10))
    have hc10 := hW10.c0
    have hl10 := hW10.lt
    clear hW10 hO10
    go_wp2_with fail
    go_ret
    exact ⟨_, _, rfl, (by simp [ByteArray.size_append, lit_size]; omega), HW10.out, by omega, HO10.out⟩
  · go_wp2_with fail
    go_ret
    exact ⟨_, _, rfl, (by simp [lit_size]; omega), HW1.out, by omega, HO1.out⟩
  · go_wp2_with fail
    go_ret
    exact ⟨_, _, rfl, (by simp [lit_size]; omega), HW1.out, by omega, HO1.out⟩
  · go_wp2_with (first | ((with_reducible show wpPlan _ _ _ _ _ (Act.put _ _ _) _); simp only [List.getElem_toArray, List.getElem_cons_succ, List.getElem_cons_zero, Act.put, List.setIfInBounds_toArray, List.set_cons_zero, List.set_cons_succ]) | ((with_reducible show wpPlan _ _ _ _ _ _ _); first | refine wpPlan_nil ?_ | (refine wpPlan_read0 rfl ?hw rfl (fun _ _ _ => ?_); case hw => ((conv => (lhs; whnf)); first | done | with_reducible rfl)) | (refine wpPlan_read1d rfl ?hw rfl rfl (fun _ _ _ => ?_); case hw => ((conv => (lhs; whnf)); first | done | with_reducible rfl)) | (refine wpPlan_eff rfl ?hw (fun _ _ => ?_); case hw => ((conv => (lhs; whnf)); first | done | with_reducible rfl)) | (refine wpPlan_skip0 rfl ?hw ?_; case hw => ((conv => (lhs; whnf)); first | done | with_reducible rfl)) | (refine wpPlan_skip1d rfl ?hw ?_; case hw => ((conv => (lhs; whnf)); first | done | with_reducible rfl)) | (refine wpPlan_skip2 rfl ?hw ?_; case hw => ((conv => (lhs; whnf)); first | done | with_reducible rfl)) | (refine wpPlan_read1 rfl ?hw rfl (fun _ _ _ => ?_); case hw => ((conv => (lhs; whnf)); first | done | with_reducible rfl)) | refine wpPlan_fork ?_ ?_) | ((with_reducible show Owed _ _ _ _ _ _ _ _ _); first | refine Owed.none_ ?_ | refine Owed.nil_ ?_ | refine Owed.miss rfl ?_ | refine Owed.hit ?_ ?_) | ((with_reducible show Same _ _ _ _ _); intro _; go_simp; done) | (with_reducible exact True.intro) | ((with_reducible show Code.wp _ (Code.region 10 _ true) _ _ _); refine wp_region_plan [(0, 0, []), (1, 1, []), (2, 1, []), (3, 1, []), (4, 0, []), (5, 1, []), (6, 1, []), (7, 1, []), (8, 2, []), (9, 2, []), (10, 1, []), (11, 0, [])] (by kernel_rfl) (by kernel_rfl) (by kernel_rfl) ?_))
    refine (wnext_any _ _ _ _ _ _ _ _ _ _ _ _ HW1.out.drew fu (by omega) (by omega) hn).mono ?_
    rintro e w11 ⟨⟨r11, rfl, hr11⟩, hW11, hO11⟩
    have HW11 := Lib.hid hW11
    have HO11 := Lib.hid (HO1.out.drew.trans (hO11))
    have hc11 := hW11.c0
    have hl11 := hW11.lt
    clear hW11 hO11
    go_wp2_with (first | ((with_reducible show wpPlan _ _ _ _ _ (Act.put _ _ _) _); simp only [List.getElem_toArray, List.getElem_cons_succ, List.getElem_cons_zero, Act.put, List.setIfInBounds_toArray, List.set_cons_zero, List.set_cons_succ]) | ((with_reducible show wpPlan _ _ _ _ _ _ _); first | refine wpPlan_nil ?_ | (refine wpPlan_read0 rfl ?hw rfl (fun _ _ _ => ?_); case hw => ((conv => (lhs; whnf)); first | done | with_reducible rfl)) | (refine wpPlan_read1d rfl ?hw rfl rfl (fun _ _ _ => ?_); case hw => ((conv => (lhs; whnf)); first | done | with_reducible rfl)) | (refine wpPlan_eff rfl ?hw (fun _ _ => ?_); case hw => ((conv => (lhs; whnf)); first | done | with_reducible rfl)) | (refine wpPlan_skip0 rfl ?hw ?_; case hw => ((conv => (lhs; whnf)); first | done | with_reducible rfl)) | (refine wpPlan_skip1d rfl ?hw ?_; case hw => ((conv => (lhs; whnf)); first | done | with_reducible rfl)) | (refine wpPlan_skip2 rfl ?hw ?_; case hw => ((conv => (lhs; whnf)); first | done | with_reducible rfl)) | (refine wpPlan_read1 rfl ?hw rfl (fun _ _ _ => ?_); case hw => ((conv => (lhs; whnf)); first | done | with_reducible rfl)) | refine wpPlan_fork ?_ ?_) | ((with_reducible show Owed _ _ _ _ _ _ _ _ _); first | refine Owed.none_ ?_ | refine Owed.nil_ ?_ | refine Owed.miss rfl ?_ | refine Owed.hit ?_ ?_) | ((with_reducible show Same _ _ _ _ _); intro _; go_simp; done) | (with_reducible exact True.intro))
    refine (gdigit_any _ _ (by omega) (by omega)).mono ?_
    rintro e w12 ⟨⟨s12, rfl, hs12⟩, rfl⟩
    go_wp2_with (first | ((with_reducible show wpPlan _ _ _ _ _ (Act.put _ _ _) _); simp only [List.getElem_toArray, List.getElem_cons_succ, List.getElem_cons_zero, Act.put, List.setIfInBounds_toArray, List.set_cons_zero, List.set_cons_succ]) | ((with_reducible show wpPlan _ _ _ _ _ _ _); first | refine wpPlan_nil ?_ | (refine wpPlan_read0 rfl ?hw rfl (fun _ _ _ => ?_); case hw => ((conv => (lhs; whnf)); first | done | with_reducible rfl)) | (refine wpPlan_read1d rfl ?hw rfl rfl (fun _ _ _ => ?_); case hw => ((conv => (lhs; whnf)); first | done | with_reducible rfl)) | (refine wpPlan_eff rfl ?hw (fun _ _ => ?_); case hw => ((conv => (lhs; whnf)); first | done | with_reducible rfl)) | (refine wpPlan_skip0 rfl ?hw ?_; case hw => ((conv => (lhs; whnf)); first | done | with_reducible rfl)) | (refine wpPlan_skip1d rfl ?hw ?_; case hw => ((conv => (lhs; whnf)); first | done | with_reducible rfl)) | (refine wpPlan_skip2 rfl ?hw ?_; case hw => ((conv => (lhs; whnf)); first | done | with_reducible rfl)) | (refine wpPlan_read1 rfl ?hw rfl (fun _ _ _ => ?_); case hw => ((conv => (lhs; whnf)); first | done | with_reducible rfl)) | refine wpPlan_fork ?_ ?_) | ((with_reducible show Owed _ _ _ _ _ _ _ _ _); first | refine Owed.none_ ?_ | refine Owed.nil_ ?_ | refine Owed.miss rfl ?_ | refine Owed.hit ?_ ?_) | ((with_reducible show Same _ _ _ _ _); intro _; go_simp; done) | (with_reducible exact True.intro))
    go_ret
    exact ⟨_, _, rfl, (by simp [ByteArray.size_append, lit_size]; omega), HW11.out, by omega, HO11.out⟩
  · go_wp2_with fail
    refine ((expr_all 0) _ _ _ _ _ _ _ _ _ _ _ _ _ _ HW1.out hn (by omega) (by omega) (by omega) (by omega) (by omega)).mono ?_
    rintro e w13 ⟨s13, f13, rfl, hs13, hW13, hf13, hO13⟩
    have HW13 := Lib.hid hW13
    have HO13 := Lib.hid (HO1.out.trans (hO13))
    have hc13 := hW13.c0
    have hl13 := hW13.lt
    clear hW13 hO13
    go_wp2_with fail
    go_ret
    exact ⟨_, _, rfl, (by simp [ByteArray.size_append, lit_size]; omega), HW13.out, by omega, HO13.out⟩

set_option maxRecDepth 100000 in
theorem proc_succ (d : Nat) (IH : ProcOk d) : ProcOk (d + 1) := by
  intro B R b wb A n c zs fu k fr w q h hn hu1 hu2 hk hfr hq
  have hp0 : pS (d + 1) = 2 * pS d + 160 := rfl
  have hq2 : q = (d : Int) + 1 := by omega
  have hqb : decide (q ≤ 0) = false := decide_eq_false (by omega)
  clear hq
  have hm0 : mS 0 = 12 := rfl
  have hm1 : mS 1 = 76 := rfl
  have HH := Lib.hid h
  have HO0 := Lib.hid (Outside.refl R w)
  have hc := h.c0
  have hl := h.lt
  clear h
  go_enter Tryd.func38, Tryd.ntmps38
  go_wp2_with fail
  refine (wnext_any _ _ _ _ _ _ _ _ _ _ _ _ HH.out 16 (by omega) (by omega) hn).mono ?_
  rintro e w1 ⟨⟨r1, rfl, hr1⟩, hW1, hO1⟩
  have HW1 := Lib.hid hW1
  have HO1 := Lib.hid (HO0.out.trans (hO1))
  have hc1 := hW1.c0
  have hl1 := hW1.lt
  clear hW1 hO1
  have hr0 : (0 : Int) ≤ r1 := by omega
  generalize hz : (r1 : Int) = z at hr1 hr0 ⊢
  clear hz
  have hc3 := HW1.out.c3
  rcases (show z = 0 ∨ z = 1 ∨ z = 2 ∨ z = 3 ∨ z = 4 ∨ z = 5 ∨ z = 6 ∨ z = 7 ∨ z = 8 ∨ z = 9 ∨ z = 10 ∨ z = 11 ∨ z = 12 ∨ z = 13 ∨ z = 14 ∨ z = 15 by omega) with rfl | rfl | rfl | rfl | rfl | rfl | rfl | rfl | rfl | rfl | rfl | rfl | rfl | rfl | rfl | rfl
  · go_wp2_with fail
    go_ret
    exact ⟨_, _, rfl, (by simp [lit_size]; omega), HW1.out, by omega, HO1.out⟩
  · go_wp2_with fail
    go_ret
    exact ⟨_, _, rfl, (by simp [lit_size]; omega), HW1.out, by omega, HO1.out⟩
  · go_wp2_with (first | ((with_reducible show wpPlan _ _ _ _ _ (Act.put _ _ _) _); simp only [List.getElem_toArray, List.getElem_cons_succ, List.getElem_cons_zero, Act.put, List.setIfInBounds_toArray, List.set_cons_zero, List.set_cons_succ]) | ((with_reducible show wpPlan _ _ _ _ _ _ _); first | refine wpPlan_nil ?_ | (refine wpPlan_read0 rfl ?hw rfl (fun _ _ _ => ?_); case hw => ((conv => (lhs; whnf)); first | done | with_reducible rfl)) | (refine wpPlan_read1d rfl ?hw rfl rfl (fun _ _ _ => ?_); case hw => ((conv => (lhs; whnf)); first | done | with_reducible rfl)) | (refine wpPlan_eff rfl ?hw (fun _ _ => ?_); case hw => ((conv => (lhs; whnf)); first | done | with_reducible rfl)) | (refine wpPlan_skip0 rfl ?hw ?_; case hw => ((conv => (lhs; whnf)); first | done | with_reducible rfl)) | (refine wpPlan_skip1d rfl ?hw ?_; case hw => ((conv => (lhs; whnf)); first | done | with_reducible rfl)) | (refine wpPlan_skip2 rfl ?hw ?_; case hw => ((conv => (lhs; whnf)); first | done | with_reducible rfl)) | (refine wpPlan_read1 rfl ?hw rfl (fun _ _ _ => ?_); case hw => ((conv => (lhs; whnf)); first | done | with_reducible rfl)) | refine wpPlan_fork ?_ ?_) | ((with_reducible show Owed _ _ _ _ _ _ _ _ _); first | refine Owed.none_ ?_ | refine Owed.nil_ ?_ | refine Owed.miss rfl ?_ | refine Owed.hit ?_ ?_) | ((with_reducible show Same _ _ _ _ _); intro _; go_simp; done) | (with_reducible exact True.intro) | ((with_reducible show Code.wp _ (Code.region 10 _ true) _ _ _); refine wp_region_plan [(0, 0, []), (1, 1, []), (2, 1, []), (3, 1, []), (4, 0, []), (5, 1, []), (6, 1, []), (7, 1, []), (8, 2, []), (9, 2, []), (10, 1, []), (11, 0, [])] (by kernel_rfl) (by kernel_rfl) (by kernel_rfl) ?_))
    refine (wnext_any _ _ _ _ _ _ _ _ _ _ _ _ HW1.out.drew fu (by omega) (by omega) hn).mono ?_
    rintro e w2 ⟨⟨r2, rfl, hr2⟩, hW2, hO2⟩
    have HW2 := Lib.hid hW2
    have HO2 := Lib.hid (HO1.out.drew.trans (hO2))
    have hc2 := hW2.c0
    have hl2 := hW2.lt
    clear hW2 hO2
    go_wp2_with (first | ((with_reducible show wpPlan _ _ _ _ _ (Act.put _ _ _) _); simp only [List.getElem_toArray, List.getElem_cons_succ, List.getElem_cons_zero, Act.put, List.setIfInBounds_toArray, List.set_cons_zero, List.set_cons_succ]) | ((with_reducible show wpPlan _ _ _ _ _ _ _); first | refine wpPlan_nil ?_ | (refine wpPlan_read0 rfl ?hw rfl (fun _ _ _ => ?_); case hw => ((conv => (lhs; whnf)); first | done | with_reducible rfl)) | (refine wpPlan_read1d rfl ?hw rfl rfl (fun _ _ _ => ?_); case hw => ((conv => (lhs; whnf)); first | done | with_reducible rfl)) | (refine wpPlan_eff rfl ?hw (fun _ _ => ?_); case hw => ((conv => (lhs; whnf)); first | done | with_reducible rfl)) | (refine wpPlan_skip0 rfl ?hw ?_; case hw => ((conv => (lhs; whnf)); first | done | with_reducible rfl)) | (refine wpPlan_skip1d rfl ?hw ?_; case hw => ((conv => (lhs; whnf)); first | done | with_reducible rfl)) | (refine wpPlan_skip2 rfl ?hw ?_; case hw => ((conv => (lhs; whnf)); first | done | with_reducible rfl)) | (refine wpPlan_read1 rfl ?hw rfl (fun _ _ _ => ?_); case hw => ((conv => (lhs; whnf)); first | done | with_reducible rfl)) | refine wpPlan_fork ?_ ?_) | ((with_reducible show Owed _ _ _ _ _ _ _ _ _); first | refine Owed.none_ ?_ | refine Owed.nil_ ?_ | refine Owed.miss rfl ?_ | refine Owed.hit ?_ ?_) | ((with_reducible show Same _ _ _ _ _); intro _; go_simp; done) | (with_reducible exact True.intro))
    refine (gdigit_any _ _ (by omega) (by omega)).mono ?_
    rintro e w3 ⟨⟨s3, rfl, hs3⟩, rfl⟩
    go_wp2_with (first | ((with_reducible show wpPlan _ _ _ _ _ (Act.put _ _ _) _); simp only [List.getElem_toArray, List.getElem_cons_succ, List.getElem_cons_zero, Act.put, List.setIfInBounds_toArray, List.set_cons_zero, List.set_cons_succ]) | ((with_reducible show wpPlan _ _ _ _ _ _ _); first | refine wpPlan_nil ?_ | (refine wpPlan_read0 rfl ?hw rfl (fun _ _ _ => ?_); case hw => ((conv => (lhs; whnf)); first | done | with_reducible rfl)) | (refine wpPlan_read1d rfl ?hw rfl rfl (fun _ _ _ => ?_); case hw => ((conv => (lhs; whnf)); first | done | with_reducible rfl)) | (refine wpPlan_eff rfl ?hw (fun _ _ => ?_); case hw => ((conv => (lhs; whnf)); first | done | with_reducible rfl)) | (refine wpPlan_skip0 rfl ?hw ?_; case hw => ((conv => (lhs; whnf)); first | done | with_reducible rfl)) | (refine wpPlan_skip1d rfl ?hw ?_; case hw => ((conv => (lhs; whnf)); first | done | with_reducible rfl)) | (refine wpPlan_skip2 rfl ?hw ?_; case hw => ((conv => (lhs; whnf)); first | done | with_reducible rfl)) | (refine wpPlan_read1 rfl ?hw rfl (fun _ _ _ => ?_); case hw => ((conv => (lhs; whnf)); first | done | with_reducible rfl)) | refine wpPlan_fork ?_ ?_) | ((with_reducible show Owed _ _ _ _ _ _ _ _ _); first | refine Owed.none_ ?_ | refine Owed.nil_ ?_ | refine Owed.miss rfl ?_ | refine Owed.hit ?_ ?_) | ((with_reducible show Same _ _ _ _ _); intro _; go_simp; done) | (with_reducible exact True.intro))
    go_ret
    exact ⟨_, _, rfl, (by simp [ByteArray.size_append, lit_size]; omega), HW2.out, by omega, HO2.out⟩
  · go_wp2_with fail
    refine ((expr_all 0) _ _ _ _ _ _ _ _ _ _ _ _ _ _ HW1.out hn (by omega) (by omega) (by omega) (by omega) (by omega)).mono ?_
    rintro e w4 ⟨s4, f4, rfl, hs4, hW4, hf4, hO4⟩
    have HW4 := Lib.hid hW4
    have HO4 := Lib.hid (HO1.out.trans (hO4))
    have hc4 := hW4.c0
    have hl4 := hW4.lt
    clear hW4 hO4
    go_wp2_with fail
    go_ret
    exact ⟨_, _, rfl, (by simp [ByteArray.size_append, lit_size]; omega), HW4.out, by omega, HO4.out⟩
  · go_wp2_with fail
    refine (event_any _ _ _ _ _ _ _ _ _ _ _ _ HW1.out hn).mono ?_
    rintro e w5 ⟨s5, f5, rfl, hs5, hW5, hf5, hO5⟩
    have HW5 := Lib.hid hW5
    have HO5 := Lib.hid (HO1.out.trans (hO5))
    have hc5 := hW5.c0
    have hl5 := hW5.lt
    clear hW5 hO5
    go_wp2_with fail
    refine (IH _ _ _ _ _ _ _ _ _ _ _ _ _ HW5.out hn (by omega) (by omega) (by omega) (by omega) (by omega)).mono ?_
    rintro e w6 ⟨s6, f6, rfl, hs6, hW6, hf6, hO6⟩
    have HW6 := Lib.hid hW6
    have HO6 := Lib.hid (HO5.out.trans (hO6))
    have hc6 := hW6.c0
    have hl6 := hW6.lt
    clear hW6 hO6
    go_wp2_with fail
    go_ret
    exact ⟨_, _, rfl, (by simp [ByteArray.size_append, lit_size]; omega), HW6.out, by omega, HO6.out⟩
  · go_wp2_with fail
    refine (event_any _ _ _ _ _ _ _ _ _ _ _ _ HW1.out hn).mono ?_
    rintro e w7 ⟨s7, f7, rfl, hs7, hW7, hf7, hO7⟩
    have HW7 := Lib.hid hW7
    have HO7 := Lib.hid (HO1.out.trans (hO7))
    have hc7 := hW7.c0
    have hl7 := hW7.lt
    clear hW7 hO7
    go_wp2_with fail
    refine (IH _ _ _ _ _ _ _ _ _ _ _ _ _ HW7.out hn (by omega) (by omega) (by omega) (by omega) (by omega)).mono ?_
    rintro e w8 ⟨s8, f8, rfl, hs8, hW8, hf8, hO8⟩
    have HW8 := Lib.hid hW8
    have HO8 := Lib.hid (HO7.out.trans (hO8))
    have hc8 := hW8.c0
    have hl8 := hW8.lt
    clear hW8 hO8
    go_wp2_with fail
    go_ret
    exact ⟨_, _, rfl, (by simp [ByteArray.size_append, lit_size]; omega), HW8.out, by omega, HO8.out⟩
  · go_wp2_with fail
    refine (mark_any _ _ _ _ _ _ _ _ _ _ _ _ HW1.out).mono ?_
    rintro e w9 ⟨rfl, rfl⟩
    go_wp2_with fail
    refine (bind_any _ _ _ _ _ _ _ _ _ _ _ _ HW1.out _ (by omega) (by omega)).mono ?_
    rintro e w10 ⟨⟨s10, rfl, hs10⟩, hW10, hO10⟩
    have HW10 := Lib.hid hW10
    have HO10 := Lib.hid (HO1.out.trans (hO10))
    have hc10 := hW10.c0
    have hl10 := hW10.lt
    clear hW10 hO10
    go_wp2_with fail
    refine (IH _ _ _ _ _ _ _ _ _ _ _ _ _ HW10.out hn (by omega) (by omega) (by omega) (by omega) (by omega)).mono ?_
    rintro e w11 ⟨s11, f11, rfl, hs11, hW11, hf11, hO11⟩
    have HW11 := Lib.hid hW11
    have HO11 := Lib.hid (HO10.out.trans (hO11))
    have hc11 := hW11.c0
    have hl11 := hW11.lt
    clear hW11 hO11
    go_wp2_with fail
    refine (reset_any _ _ _ _ _ _ _ _ _ _ _ _ HW11.out k (by omega) (by omega)).mono ?_
    rintro e w12 ⟨rfl, hW12, hO12⟩
    have HW12 := Lib.hid hW12
    have HO12 := Lib.hid (HO11.out.trans (hO12))
    have hc12 := hW12.c0
    have hl12 := hW12.lt
    clear hW12 hO12
    go_wp2_with fail
    go_ret
    exact ⟨_, _, rfl, (by simp [ByteArray.size_append, lit_size]; omega), HW12.out, by omega, HO12.out⟩
  · go_wp2_with fail
    refine (wnext_any _ _ _ _ _ _ _ _ _ _ _ _ HW1.out 3 (by omega) (by omega) hn).mono ?_
    rintro e w13 ⟨⟨r13, rfl, hr13⟩, hW13, hO13⟩
    have HW13 := Lib.hid hW13
    have HO13 := Lib.hid (HO1.out.trans (hO13))
    have hc13 := hW13.c0
    have hl13 := hW13.lt
    clear hW13 hO13
    go_wp2_with fail
    refine (gdigit_any _ _ (by omega) (by omega)).mono ?_
    rintro e w14 ⟨⟨s14, rfl, hs14⟩, rfl⟩
    go_wp2_with fail
    refine (IH _ _ _ _ _ _ _ _ _ _ _ _ _ HW13.out hn (by omega) (by omega) (by omega) (by omega) (by omega)).mono ?_
    rintro e w15 ⟨s15, f15, rfl, hs15, hW15, hf15, hO15⟩
    have HW15 := Lib.hid hW15
    have HO15 := Lib.hid (HO13.out.trans (hO15))
    have hc15 := hW15.c0
    have hl15 := hW15.lt
    clear hW15 hO15
    go_wp2_with fail
    go_ret
    exact ⟨_, _, rfl, (by simp [ByteArray.size_append, lit_size]; omega), HW15.out, by omega, HO15.out⟩
  · go_wp2_with (first | ((with_reducible show wpTree _ _ _ _ _ (Act.put _ _ _) _); simp only [List.getElem_toArray, List.getElem_cons_succ, List.getElem_cons_zero, Act.put, List.setIfInBounds_toArray, List.set_cons_zero, List.set_cons_succ]) | ((with_reducible show wpTree _ _ _ _ _ _ _); first | refine wpTree_line ?_ | refine wpTree_alt ?_ ?_ | (refine wpTree_read0 rfl ?hw rfl (fun _ _ _ => ?_); case hw => ((conv => (lhs; whnf)); first | done | with_reducible rfl)) | (refine wpTree_read1 rfl ?hw rfl (fun _ _ _ => ?_); case hw => ((conv => (lhs; whnf)); first | done | with_reducible rfl)) | (refine wpTree_eff rfl ?hw (fun _ _ => ?_); case hw => ((conv => (lhs; whnf)); first | done | with_reducible rfl)) | (refine wpTree_skip0 rfl ?hw ?_; case hw => ((conv => (lhs; whnf)); first | done | with_reducible rfl)) | (refine wpTree_skip1 rfl ?hw ?_; case hw => ((conv => (lhs; whnf)); first | done | with_reducible rfl)) | (refine wpTree_skip2 rfl ?hw ?_; case hw => ((conv => (lhs; whnf)); first | done | with_reducible rfl))) | ((with_reducible show OwedT _ _ _ _ _ _ _ _ _); first | refine OwedT.none_ ?_ | refine OwedT.nil_ ?_ | refine OwedT.miss rfl ?_ | refine OwedT.hit ?_ ?_) | ((with_reducible show wpPlan _ _ _ _ _ (Act.put _ _ _) _); simp only [List.getElem_toArray, List.getElem_cons_succ, List.getElem_cons_zero, Act.put, List.setIfInBounds_toArray, List.set_cons_zero, List.set_cons_succ]) | ((with_reducible show wpPlan _ _ _ _ _ _ _); first | refine wpPlan_nil ?_ | (refine wpPlan_read0 rfl ?hw rfl (fun _ _ _ => ?_); case hw => ((conv => (lhs; whnf)); first | done | with_reducible rfl)) | (refine wpPlan_read1d rfl ?hw rfl rfl (fun _ _ _ => ?_); case hw => ((conv => (lhs; whnf)); first | done | with_reducible rfl)) | (refine wpPlan_eff rfl ?hw (fun _ _ => ?_); case hw => ((conv => (lhs; whnf)); first | done | with_reducible rfl)) | (refine wpPlan_skip0 rfl ?hw ?_; case hw => ((conv => (lhs; whnf)); first | done | with_reducible rfl)) | (refine wpPlan_skip1d rfl ?hw ?_; case hw => ((conv => (lhs; whnf)); first | done | with_reducible rfl)) | (refine wpPlan_skip2 rfl ?hw ?_; case hw => ((conv => (lhs; whnf)); first | done | with_reducible rfl)) | (refine wpPlan_read1 rfl ?hw rfl (fun _ _ _ => ?_); case hw => ((conv => (lhs; whnf)); first | done | with_reducible rfl)) | refine wpPlan_fork ?_ ?_) | ((with_reducible show Owed _ _ _ _ _ _ _ _ _); first | refine Owed.none_ ?_ | refine Owed.nil_ ?_ | refine Owed.miss rfl ?_ | refine Owed.hit ?_ ?_) | ((with_reducible show Same _ _ _ _ _); intro _; go_simp; done) | (with_reducible exact True.intro) | ((with_reducible show Code.wp _ (Code.region 10 _ true) _ _ _); refine wp_region_plan [(0, 0, []), (1, 1, []), (2, 1, []), (3, 1, []), (4, 0, []), (5, 1, []), (6, 1, []), (7, 1, []), (8, 2, []), (9, 2, []), (10, 1, []), (11, 0, [])] (by kernel_rfl) (by kernel_rfl) (by kernel_rfl) ?_) | ((with_reducible show Code.wp _ (Code.region 26 _ true) _ _ _); refine wp_region_tree (Tree.read 0 0 (Tree.read 1 0 (Tree.read 2 1 (Tree.read 6 0 (Tree.read 7 1 (Tree.read 8 1 (Tree.read 9 1 (Tree.read 14 0 (Tree.read 15 0 (Tree.read 16 1 (Tree.alt (Tree.eff 3 [7, 8, 9, 16] (Tree.read 4 1 (Tree.alt (Tree.eff 5 [2, 7, 8, 9, 16, 4] (Tree.line [(10, 2, [16, 4]), (11, 1, []), (12, 1, []), (13, 1, []), (17, 2, [4, 11, 12, 13]), (18, 1, []), (19, 1, []), (20, 0, [])])) (Tree.eff 10 [16, 4] (Tree.alt (Tree.eff 5 [2, 7, 8, 9, 16, 4] (Tree.line [(11, 1, []), (12, 1, []), (13, 1, []), (17, 2, [4, 11, 12, 13]), (18, 1, []), (19, 1, []), (20, 0, [])])) (Tree.eff 17 [4] (Tree.line [(5, 2, [2, 7, 8, 9, 16, 4]), (11, 1, []), (12, 1, []), (13, 1, []), (18, 1, []), (19, 1, []), (20, 0, [])]))))))) (Tree.eff 5 [2, 7, 8, 9, 16] (Tree.line [(3, 2, [7, 8, 9, 16]), (4, 1, []), (10, 2, [16, 4]), (11, 1, []), (12, 1, []), (13, 1, []), (17, 2, [4, 11, 12, 13]), (18, 1, []), (19, 1, []), (20, 0, [])]))))))))))))) (by kernel_rfl) (by kernel_rfl) (by kernel_rfl) ?_))
    · refine (IH _ _ _ _ _ _ _ _ _ _ _ _ _ HW1.out.drew hn (by omega) (by omega) (by omega) (by omega) (by omega)).mono ?_
      rintro e w16 ⟨s16, f16, rfl, hs16, hW16, hf16, hO16⟩
      have HW16 := Lib.hid hW16
      have HO16 := Lib.hid (HO1.out.drew.trans (hO16))
      have hc16 := hW16.c0
      have hl16 := hW16.lt
      clear hW16 hO16
      go_wp2_with (first | ((with_reducible show wpTree _ _ _ _ _ (Act.put _ _ _) _); simp only [List.getElem_toArray, List.getElem_cons_succ, List.getElem_cons_zero, Act.put, List.setIfInBounds_toArray, List.set_cons_zero, List.set_cons_succ]) | ((with_reducible show wpTree _ _ _ _ _ _ _); first | refine wpTree_line ?_ | refine wpTree_alt ?_ ?_ | (refine wpTree_read0 rfl ?hw rfl (fun _ _ _ => ?_); case hw => ((conv => (lhs; whnf)); first | done | with_reducible rfl)) | (refine wpTree_read1 rfl ?hw rfl (fun _ _ _ => ?_); case hw => ((conv => (lhs; whnf)); first | done | with_reducible rfl)) | (refine wpTree_eff rfl ?hw (fun _ _ => ?_); case hw => ((conv => (lhs; whnf)); first | done | with_reducible rfl)) | (refine wpTree_skip0 rfl ?hw ?_; case hw => ((conv => (lhs; whnf)); first | done | with_reducible rfl)) | (refine wpTree_skip1 rfl ?hw ?_; case hw => ((conv => (lhs; whnf)); first | done | with_reducible rfl)) | (refine wpTree_skip2 rfl ?hw ?_; case hw => ((conv => (lhs; whnf)); first | done | with_reducible rfl))) | ((with_reducible show OwedT _ _ _ _ _ _ _ _ _); first | refine OwedT.none_ ?_ | refine OwedT.nil_ ?_ | refine OwedT.miss rfl ?_ | refine OwedT.hit ?_ ?_) | ((with_reducible show wpPlan _ _ _ _ _ (Act.put _ _ _) _); simp only [List.getElem_toArray, List.getElem_cons_succ, List.getElem_cons_zero, Act.put, List.setIfInBounds_toArray, List.set_cons_zero, List.set_cons_succ]) | ((with_reducible show wpPlan _ _ _ _ _ _ _); first | refine wpPlan_nil ?_ | (refine wpPlan_read0 rfl ?hw rfl (fun _ _ _ => ?_); case hw => ((conv => (lhs; whnf)); first | done | with_reducible rfl)) | (refine wpPlan_read1d rfl ?hw rfl rfl (fun _ _ _ => ?_); case hw => ((conv => (lhs; whnf)); first | done | with_reducible rfl)) | (refine wpPlan_eff rfl ?hw (fun _ _ => ?_); case hw => ((conv => (lhs; whnf)); first | done | with_reducible rfl)) | (refine wpPlan_skip0 rfl ?hw ?_; case hw => ((conv => (lhs; whnf)); first | done | with_reducible rfl)) | (refine wpPlan_skip1d rfl ?hw ?_; case hw => ((conv => (lhs; whnf)); first | done | with_reducible rfl)) | (refine wpPlan_skip2 rfl ?hw ?_; case hw => ((conv => (lhs; whnf)); first | done | with_reducible rfl)) | (refine wpPlan_read1 rfl ?hw rfl (fun _ _ _ => ?_); case hw => ((conv => (lhs; whnf)); first | done | with_reducible rfl)) | refine wpPlan_fork ?_ ?_) | ((with_reducible show Owed _ _ _ _ _ _ _ _ _); first | refine Owed.none_ ?_ | refine Owed.nil_ ?_ | refine Owed.miss rfl ?_ | refine Owed.hit ?_ ?_) | ((with_reducible show Same _ _ _ _ _); intro _; go_simp; done) | (with_reducible exact True.intro))
      · have HN17 := Lib.hid (Blk.newAt (w := w16) (t := 9) (cs := (cellsOf scell [⟨#[32, 91, 93, 32]⟩, ⟨#[32, 124, 126, 124, 32]⟩, ⟨#[32, 59, 32]⟩, ⟨#[32, 47, 92, 32]⟩, ⟨#[32, 91, 62, 32]⟩, ⟨#[32, 124, 124, 124, 32]⟩]).toArray) (g := w16.heap.size) rfl)
        have HW17 := Lib.hid (HW16.out.lit (.cells (cellsOf scell [⟨#[32, 91, 93, 32]⟩, ⟨#[32, 124, 126, 124, 32]⟩, ⟨#[32, 59, 32]⟩, ⟨#[32, 47, 92, 32]⟩, ⟨#[32, 91, 62, 32]⟩, ⟨#[32, 124, 124, 124, 32]⟩]).toArray 9))
        have HO17 := Lib.hid (HO16.out.alloc (.cells (cellsOf scell [⟨#[32, 91, 93, 32]⟩, ⟨#[32, 124, 126, 124, 32]⟩, ⟨#[32, 59, 32]⟩, ⟨#[32, 47, 92, 32]⟩, ⟨#[32, 91, 62, 32]⟩, ⟨#[32, 124, 124, 124, 32]⟩]).toArray 9))
        have hc17 := HW17.out.c0
        have hl17 := HW17.out.lt
        refine (wnext_any _ _ _ _ _ _ _ _ _ _ _ _ HW17.out 6 (by omega) (by omega) hn).mono ?_
        rintro e w18 ⟨⟨r18, rfl, hr18⟩, hW18, hO18⟩
        have HW18 := Lib.hid hW18
        have HO18 := Lib.hid (HO17.out.trans (hO18.mono (fun j _ h => h.1)))
        have hc18 := hW18.c0
        have hl18 := hW18.lt
        have HN18 := Lib.hid (HN17.out.out hO18 (fun h => h.2 rfl))
        clear hW18 hO18
        obtain ⟨x19, hx19, hxs19⟩ := pick_at HN18.out r18 (by simp; omega) 5 (by decide)
        have hlx19 := HN18.out.lt
        go_wp2_with (first | ((with_reducible show wpPlan _ _ _ _ _ (Act.put _ _ _) _); simp only [List.getElem_toArray, List.getElem_cons_succ, List.getElem_cons_zero, Act.put, List.setIfInBounds_toArray, List.set_cons_zero, List.set_cons_succ]) | ((with_reducible show wpPlan _ _ _ _ _ _ _); first | refine wpPlan_nil ?_ | (refine wpPlan_read0 rfl ?hw rfl (fun _ _ _ => ?_); case hw => ((conv => (lhs; whnf)); first | done | with_reducible rfl)) | (refine wpPlan_read1d rfl ?hw rfl rfl (fun _ _ _ => ?_); case hw => ((conv => (lhs; whnf)); first | done | with_reducible rfl)) | (refine wpPlan_eff rfl ?hw (fun _ _ => ?_); case hw => ((conv => (lhs; whnf)); first | done | with_reducible rfl)) | (refine wpPlan_skip0 rfl ?hw ?_; case hw => ((conv => (lhs; whnf)); first | done | with_reducible rfl)) | (refine wpPlan_skip1d rfl ?hw ?_; case hw => ((conv => (lhs; whnf)); first | done | with_reducible rfl)) | (refine wpPlan_skip2 rfl ?hw ?_; case hw => ((conv => (lhs; whnf)); first | done | with_reducible rfl)) | (refine wpPlan_read1 rfl ?hw rfl (fun _ _ _ => ?_); case hw => ((conv => (lhs; whnf)); first | done | with_reducible rfl)) | refine wpPlan_fork ?_ ?_) | ((with_reducible show Owed _ _ _ _ _ _ _ _ _); first | refine Owed.none_ ?_ | refine Owed.nil_ ?_ | refine Owed.miss rfl ?_ | refine Owed.hit ?_ ?_) | ((with_reducible show Same _ _ _ _ _); intro _; go_simp; done) | (with_reducible exact True.intro))
        refine (IH _ _ _ _ _ _ _ _ _ _ _ _ _ HW18.out hn (by omega) (by omega) (by omega) (by omega) (by omega)).mono ?_
        rintro e w20 ⟨s20, f20, rfl, hs20, hW20, hf20, hO20⟩
        have HW20 := Lib.hid hW20
        have HO20 := Lib.hid (HO18.out.trans (hO20.mono (fun j _ h => h.1)))
        have hc20 := hW20.c0
        have hl20 := hW20.lt
        have HN20 := Lib.hid (HN18.out.out hO20 (fun h => h.2 rfl))
        have hx20 := hO20.cell hx19 (fun h => h.2 rfl)
        clear hW20 hO20
        go_wp2_with (first | ((with_reducible show wpPlan _ _ _ _ _ (Act.put _ _ _) _); simp only [List.getElem_toArray, List.getElem_cons_succ, List.getElem_cons_zero, Act.put, List.setIfInBounds_toArray, List.set_cons_zero, List.set_cons_succ]) | ((with_reducible show wpPlan _ _ _ _ _ _ _); first | refine wpPlan_nil ?_ | (refine wpPlan_read0 rfl ?hw rfl (fun _ _ _ => ?_); case hw => ((conv => (lhs; whnf)); first | done | with_reducible rfl)) | (refine wpPlan_read1d rfl ?hw rfl rfl (fun _ _ _ => ?_); case hw => ((conv => (lhs; whnf)); first | done | with_reducible rfl)) | (refine wpPlan_eff rfl ?hw (fun _ _ => ?_); case hw => ((conv => (lhs; whnf)); first | done | with_reducible rfl)) | (refine wpPlan_skip0 rfl ?hw ?_; case hw => ((conv => (lhs; whnf)); first | done | with_reducible rfl)) | (refine wpPlan_skip1d rfl ?hw ?_; case hw => ((conv => (lhs; whnf)); first | done | with_reducible rfl)) | (refine wpPlan_skip2 rfl ?hw ?_; case hw => ((conv => (lhs; whnf)); first | done | with_reducible rfl)) | (refine wpPlan_read1 rfl ?hw rfl (fun _ _ _ => ?_); case hw => ((conv => (lhs; whnf)); first | done | with_reducible rfl)) | refine wpPlan_fork ?_ ?_) | ((with_reducible show Owed _ _ _ _ _ _ _ _ _); first | refine Owed.none_ ?_ | refine Owed.nil_ ?_ | refine Owed.miss rfl ?_ | refine Owed.hit ?_ ?_) | ((with_reducible show Same _ _ _ _ _); intro _; go_simp; done) | (with_reducible exact True.intro))
        go_ret
        exact ⟨_, _, rfl, (by simp [ByteArray.size_append, lit_size]; omega), HW20.out.weak (fun j h => h.1) HH.out.lo, by omega, HO20.out⟩
      · refine (wnext_any _ _ _ _ _ _ _ _ _ _ _ _ HW16.out 6 (by omega) (by omega) hn).mono ?_
        rintro e w21 ⟨⟨r21, rfl, hr21⟩, hW21, hO21⟩
        have HW21 := Lib.hid hW21
        have HO21 := Lib.hid (HO16.out.trans (hO21))
        have hc21 := hW21.c0
        have hl21 := hW21.lt
        clear hW21 hO21
        obtain ⟨x22, hx22, hxs22⟩ := pick_at (Blk.newAt (w := w21) (t := 9) (cs := (cellsOf scell [⟨#[32, 91, 93, 32]⟩, ⟨#[32, 124, 126, 124, 32]⟩, ⟨#[32, 59, 32]⟩, ⟨#[32, 47, 92, 32]⟩, ⟨#[32, 91, 62, 32]⟩, ⟨#[32, 124, 124, 124, 32]⟩]).toArray) (g := w21.heap.size) rfl) r21 (by simp; omega) 5 (by decide)
        have hy22 : (w21.alloc (.cells #[.string ⟨#[32, 91, 93, 32]⟩, .string ⟨#[32, 124, 126, 124, 32]⟩, .string ⟨#[32, 59, 32]⟩, .string ⟨#[32, 47, 92, 32]⟩, .string ⟨#[32, 91, 62, 32]⟩, .string ⟨#[32, 124, 124, 124, 32]⟩] 9)).cell? ⟨w21.heap.size, r21, none⟩ = some (.string x22) := hx22
        clear hx22
        go_wp2_with (first | ((with_reducible show wpTree _ _ _ _ _ (Act.put _ _ _) _); simp only [List.getElem_toArray, List.getElem_cons_succ, List.getElem_cons_zero, Act.put, List.setIfInBounds_toArray, List.set_cons_zero, List.set_cons_succ]) | ((with_reducible show wpTree _ _ _ _ _ _ _); first | refine wpTree_line ?_ | refine wpTree_alt ?_ ?_ | (refine wpTree_read0 rfl ?hw rfl (fun _ _ _ => ?_); case hw => ((conv => (lhs; whnf)); first | done | with_reducible rfl)) | (refine wpTree_read1 rfl ?hw rfl (fun _ _ _ => ?_); case hw => ((conv => (lhs; whnf)); first | done | with_reducible rfl)) | (refine wpTree_eff rfl ?hw (fun _ _ => ?_); case hw => ((conv => (lhs; whnf)); first | done | with_reducible rfl)) | (refine wpTree_skip0 rfl ?hw ?_; case hw => ((conv => (lhs; whnf)); first | done | with_reducible rfl)) | (refine wpTree_skip1 rfl ?hw ?_; case hw => ((conv => (lhs; whnf)); first | done | with_reducible rfl)) | (refine wpTree_skip2 rfl ?hw ?_; case hw => ((conv => (lhs; whnf)); first | done | with_reducible rfl))) | ((with_reducible show OwedT _ _ _ _ _ _ _ _ _); first | refine OwedT.none_ ?_ | refine OwedT.nil_ ?_ | refine OwedT.miss rfl ?_ | refine OwedT.hit ?_ ?_) | ((with_reducible show wpPlan _ _ _ _ _ (Act.put _ _ _) _); simp only [List.getElem_toArray, List.getElem_cons_succ, List.getElem_cons_zero, Act.put, List.setIfInBounds_toArray, List.set_cons_zero, List.set_cons_succ]) | ((with_reducible show wpPlan _ _ _ _ _ _ _); first | refine wpPlan_nil ?_ | (refine wpPlan_read0 rfl ?hw rfl (fun _ _ _ => ?_); case hw => ((conv => (lhs; whnf)); first | done | with_reducible rfl)) | (refine wpPlan_read1d rfl ?hw rfl rfl (fun _ _ _ => ?_); case hw => ((conv => (lhs; whnf)); first | done | with_reducible rfl)) | (refine wpPlan_eff rfl ?hw (fun _ _ => ?_); case hw => ((conv => (lhs; whnf)); first | done | with_reducible rfl)) | (refine wpPlan_skip0 rfl ?hw ?_; case hw => ((conv => (lhs; whnf)); first | done | with_reducible rfl)) | (refine wpPlan_skip1d rfl ?hw ?_; case hw => ((conv => (lhs; whnf)); first | done | with_reducible rfl)) | (refine wpPlan_skip2 rfl ?hw ?_; case hw => ((conv => (lhs; whnf)); first | done | with_reducible rfl)) | (refine wpPlan_read1 rfl ?hw rfl (fun _ _ _ => ?_); case hw => ((conv => (lhs; whnf)); first | done | with_reducible rfl)) | refine wpPlan_fork ?_ ?_) | ((with_reducible show Owed _ _ _ _ _ _ _ _ _); first | refine Owed.none_ ?_ | refine Owed.nil_ ?_ | refine Owed.miss rfl ?_ | refine Owed.hit ?_ ?_) | ((with_reducible show Same _ _ _ _ _); intro _; go_simp; done) | (with_reducible exact True.intro))
        · have HN23 := Lib.hid (Blk.newAt (w := w21) (t := 9) (cs := (cellsOf scell [⟨#[32, 91, 93, 32]⟩, ⟨#[32, 124, 126, 124, 32]⟩, ⟨#[32, 59, 32]⟩, ⟨#[32, 47, 92, 32]⟩, ⟨#[32, 91, 62, 32]⟩, ⟨#[32, 124, 124, 124, 32]⟩]).toArray) (g := w21.heap.size) rfl)
          have HW23 := Lib.hid (HW21.out.lit (.cells (cellsOf scell [⟨#[32, 91, 93, 32]⟩, ⟨#[32, 124, 126, 124, 32]⟩, ⟨#[32, 59, 32]⟩, ⟨#[32, 47, 92, 32]⟩, ⟨#[32, 91, 62, 32]⟩, ⟨#[32, 124, 124, 124, 32]⟩]).toArray 9))
          have HO23 := Lib.hid (HO21.out.alloc (.cells (cellsOf scell [⟨#[32, 91, 93, 32]⟩, ⟨#[32, 124, 126, 124, 32]⟩, ⟨#[32, 59, 32]⟩, ⟨#[32, 47, 92, 32]⟩, ⟨#[32, 91, 62, 32]⟩, ⟨#[32, 124, 124, 124, 32]⟩]).toArray 9))
          have hc23 := HW23.out.c0
          have hl23 := HW23.out.lt
          refine (IH _ _ _ _ _ _ _ _ _ _ _ _ _ HW23.out hn (by omega) (by omega) (by omega) (by omega) (by omega)).mono ?_
          rintro e w24 ⟨s24, f24, rfl, hs24, hW24, hf24, hO24⟩
          have HW24 := Lib.hid hW24
          have HO24 := Lib.hid (HO23.out.trans (hO24.mono (fun j _ h => h.1)))
          have hc24 := hW24.c0
          have hl24 := hW24.lt
          have HN24 := Lib.hid (HN23.out.out hO24 (fun h => h.2 rfl))
          have hx24 := hO24.cell hy22 (fun h => h.2 rfl)
          clear hW24 hO24
          go_wp2_with (first | ((with_reducible show wpPlan _ _ _ _ _ (Act.put _ _ _) _); simp only [List.getElem_toArray, List.getElem_cons_succ, List.getElem_cons_zero, Act.put, List.setIfInBounds_toArray, List.set_cons_zero, List.set_cons_succ]) | ((with_reducible show wpPlan _ _ _ _ _ _ _); first | refine wpPlan_nil ?_ | (refine wpPlan_read0 rfl ?hw rfl (fun _ _ _ => ?_); case hw => ((conv => (lhs; whnf)); first | done | with_reducible rfl)) | (refine wpPlan_read1d rfl ?hw rfl rfl (fun _ _ _ => ?_); case hw => ((conv => (lhs; whnf)); first | done | with_reducible rfl)) | (refine wpPlan_eff rfl ?hw (fun _ _ => ?_); case hw => ((conv => (lhs; whnf)); first | done | with_reducible rfl)) | (refine wpPlan_skip0 rfl ?hw ?_; case hw => ((conv => (lhs; whnf)); first | done | with_reducible rfl)) | (refine wpPlan_skip1d rfl ?hw ?_; case hw => ((conv => (lhs; whnf)); first | done | with_reducible rfl)) | (refine wpPlan_skip2 rfl ?hw ?_; case hw => ((conv => (lhs; whnf)); first | done | with_reducible rfl)) | (refine wpPlan_read1 rfl ?hw rfl (fun _ _ _ => ?_); case hw => ((conv => (lhs; whnf)); first | done | with_reducible rfl)) | refine wpPlan_fork ?_ ?_) | ((with_reducible show Owed _ _ _ _ _ _ _ _ _); first | refine Owed.none_ ?_ | refine Owed.nil_ ?_ | refine Owed.miss rfl ?_ | refine Owed.hit ?_ ?_) | ((with_reducible show Same _ _ _ _ _); intro _; go_simp; done) | (with_reducible exact True.intro))
          go_ret
          exact ⟨_, _, rfl, (by simp [ByteArray.size_append, lit_size]; omega), HW24.out.weak (fun j h => h.1) HH.out.lo, by omega, HO24.out⟩
        · refine (IH _ _ _ _ _ _ _ _ _ _ _ _ _ HW21.out hn (by omega) (by omega) (by omega) (by omega) (by omega)).mono ?_
          rintro e w25 ⟨s25, f25, rfl, hs25, hW25, hf25, hO25⟩
          have HW25 := Lib.hid hW25
          have HO25 := Lib.hid (HO21.out.trans (hO25))
          have hc25 := hW25.c0
          have hl25 := hW25.lt
          clear hW25 hO25
          obtain ⟨x26, hx26, hxs26⟩ := pick_at (Blk.newAt (w := w25) (t := 9) (cs := (cellsOf scell [⟨#[32, 91, 93, 32]⟩, ⟨#[32, 124, 126, 124, 32]⟩, ⟨#[32, 59, 32]⟩, ⟨#[32, 47, 92, 32]⟩, ⟨#[32, 91, 62, 32]⟩, ⟨#[32, 124, 124, 124, 32]⟩]).toArray) (g := w25.heap.size) rfl) r21 (by simp; omega) 5 (by decide)
          have hy26 : (w25.alloc (.cells #[.string ⟨#[32, 91, 93, 32]⟩, .string ⟨#[32, 124, 126, 124, 32]⟩, .string ⟨#[32, 59, 32]⟩, .string ⟨#[32, 47, 92, 32]⟩, .string ⟨#[32, 91, 62, 32]⟩, .string ⟨#[32, 124, 124, 124, 32]⟩] 9)).cell? ⟨w25.heap.size, r21, none⟩ = some (.string x26) := hx26
          clear hx26
          go_wp2_with (first | ((with_reducible show wpTree _ _ _ _ _ (Act.put _ _ _) _); simp only [List.getElem_toArray, List.getElem_cons_succ, List.getElem_cons_zero, Act.put, List.setIfInBounds_toArray, List.set_cons_zero, List.set_cons_succ]) | ((with_reducible show wpTree _ _ _ _ _ _ _); first | refine wpTree_line ?_ | refine wpTree_alt ?_ ?_ | (refine wpTree_read0 rfl ?hw rfl (fun _ _ _ => ?_); case hw => ((conv => (lhs; whnf)); first | done | with_reducible rfl)) | (refine wpTree_read1 rfl ?hw rfl (fun _ _ _ => ?_); case hw => ((conv => (lhs; whnf)); first | done | with_reducible rfl)) | (refine wpTree_eff rfl ?hw (fun _ _ => ?_); case hw => ((conv => (lhs; whnf)); first | done | with_reducible rfl)) | (refine wpTree_skip0 rfl ?hw ?_; case hw => ((conv => (lhs; whnf)); first | done | with_reducible rfl)) | (refine wpTree_skip1 rfl ?hw ?_; case hw => ((conv => (lhs; whnf)); first | done | with_reducible rfl)) | (refine wpTree_skip2 rfl ?hw ?_; case hw => ((conv => (lhs; whnf)); first | done | with_reducible rfl))) | ((with_reducible show OwedT _ _ _ _ _ _ _ _ _); first | refine OwedT.none_ ?_ | refine OwedT.nil_ ?_ | refine OwedT.miss rfl ?_ | refine OwedT.hit ?_ ?_) | ((with_reducible show wpPlan _ _ _ _ _ (Act.put _ _ _) _); simp only [List.getElem_toArray, List.getElem_cons_succ, List.getElem_cons_zero, Act.put, List.setIfInBounds_toArray, List.set_cons_zero, List.set_cons_succ]) | ((with_reducible show wpPlan _ _ _ _ _ _ _); first | refine wpPlan_nil ?_ | (refine wpPlan_read0 rfl ?hw rfl (fun _ _ _ => ?_); case hw => ((conv => (lhs; whnf)); first | done | with_reducible rfl)) | (refine wpPlan_read1d rfl ?hw rfl rfl (fun _ _ _ => ?_); case hw => ((conv => (lhs; whnf)); first | done | with_reducible rfl)) | (refine wpPlan_eff rfl ?hw (fun _ _ => ?_); case hw => ((conv => (lhs; whnf)); first | done | with_reducible rfl)) | (refine wpPlan_skip0 rfl ?hw ?_; case hw => ((conv => (lhs; whnf)); first | done | with_reducible rfl)) | (refine wpPlan_skip1d rfl ?hw ?_; case hw => ((conv => (lhs; whnf)); first | done | with_reducible rfl)) | (refine wpPlan_skip2 rfl ?hw ?_; case hw => ((conv => (lhs; whnf)); first | done | with_reducible rfl)) | (refine wpPlan_read1 rfl ?hw rfl (fun _ _ _ => ?_); case hw => ((conv => (lhs; whnf)); first | done | with_reducible rfl)) | refine wpPlan_fork ?_ ?_) | ((with_reducible show Owed _ _ _ _ _ _ _ _ _); first | refine Owed.none_ ?_ | refine Owed.nil_ ?_ | refine Owed.miss rfl ?_ | refine Owed.hit ?_ ?_) | ((with_reducible show Same _ _ _ _ _); intro _; go_simp; done) | (with_reducible exact True.intro))
          go_ret
          exact ⟨_, _, rfl, (by simp [ByteArray.size_append, lit_size]; omega), HW25.out.alloc _, by omega, HO25.out.alloc _⟩
    · have HN27 := Lib.hid (Blk.newAt (w := w1) (t := 9) (cs := (cellsOf scell [⟨#[32, 91, 93, 32]⟩, ⟨#[32, 124, 126, 124, 32]⟩, ⟨#[32, 59, 32]⟩, ⟨#[32, 47, 92, 32]⟩, ⟨#[32, 91, 62, 32]⟩, ⟨#[32, 124, 124, 124, 32]⟩]).toArray) (g := w1.heap.size) rfl)
      have HW27 := Lib.hid (HW1.out.lit (.cells (cellsOf scell [⟨#[32, 91, 93, 32]⟩, ⟨#[32, 124, 126, 124, 32]⟩, ⟨#[32, 59, 32]⟩, ⟨#[32, 47, 92, 32]⟩, ⟨#[32, 91, 62, 32]⟩, ⟨#[32, 124, 124, 124, 32]⟩]).toArray 9))
      have HO27 := Lib.hid (HO1.out.alloc (.cells (cellsOf scell [⟨#[32, 91, 93, 32]⟩, ⟨#[32, 124, 126, 124, 32]⟩, ⟨#[32, 59, 32]⟩, ⟨#[32, 47, 92, 32]⟩, ⟨#[32, 91, 62, 32]⟩, ⟨#[32, 124, 124, 124, 32]⟩]).toArray 9))
      have hc27 := HW27.out.c0
      have hl27 := HW27.out.lt
      refine (IH _ _ _ _ _ _ _ _ _ _ _ _ _ HW27.out.drew hn (by omega) (by omega) (by omega) (by omega) (by omega)).mono ?_
      rintro e w28 ⟨s28, f28, rfl, hs28, hW28, hf28, hO28⟩
      have HW28 := Lib.hid hW28
      have HO28 := Lib.hid (HO27.out.drew.trans (hO28.mono (fun j _ h => h.1)))
      have hc28 := hW28.c0
      have hl28 := hW28.lt
      have HN28 := Lib.hid (HN27.out.drew.out hO28 (fun h => h.2 rfl))
      clear hW28 hO28
      go_wp2_with (first | ((with_reducible show wpPlan _ _ _ _ _ (Act.put _ _ _) _); simp only [List.getElem_toArray, List.getElem_cons_succ, List.getElem_cons_zero, Act.put, List.setIfInBounds_toArray, List.set_cons_zero, List.set_cons_succ]) | ((with_reducible show wpPlan _ _ _ _ _ _ _); first | refine wpPlan_nil ?_ | (refine wpPlan_read0 rfl ?hw rfl (fun _ _ _ => ?_); case hw => ((conv => (lhs; whnf)); first | done | with_reducible rfl)) | (refine wpPlan_read1d rfl ?hw rfl rfl (fun _ _ _ => ?_); case hw => ((conv => (lhs; whnf)); first | done | with_reducible rfl)) | (refine wpPlan_eff rfl ?hw (fun _ _ => ?_); case hw => ((conv => (lhs; whnf)); first | done | with_reducible rfl)) | (refine wpPlan_skip0 rfl ?hw ?_; case hw => ((conv => (lhs; whnf)); first | done | with_reducible rfl)) | (refine wpPlan_skip1d rfl ?hw ?_; case hw => ((conv => (lhs; whnf)); first | done | with_reducible rfl)) | (refine wpPlan_skip2 rfl ?hw ?_; case hw => ((conv => (lhs; whnf)); first | done | with_reducible rfl)) | (refine wpPlan_read1 rfl ?hw rfl (fun _ _ _ => ?_); case hw => ((conv => (lhs; whnf)); first | done | with_reducible rfl)) | refine wpPlan_fork ?_ ?_) | ((with_reducible show Owed _ _ _ _ _ _ _ _ _); first | refine Owed.none_ ?_ | refine Owed.nil_ ?_ | refine Owed.miss rfl ?_ | refine Owed.hit ?_ ?_) | ((with_reducible show Same _ _ _ _ _); intro _; go_simp; done) | (with_reducible exact True.intro))
      refine (wnext_any _ _ _ _ _ _ _ _ _ _ _ _ HW28.out 6 (by omega) (by omega) hn).mono ?_
      rintro e w29 ⟨⟨r29, rfl, hr29⟩, hW29, hO29⟩
      have HW29 := Lib.hid hW29
      have HO29 := Lib.hid (HO28.out.trans (hO29.mono (fun j _ h => h.1)))
      have hc29 := hW29.c0
      have hl29 := hW29.lt
      have HN29 := Lib.hid (HN28.out.out hO29 (fun h => h.2 rfl))
      clear hW29 hO29
      obtain ⟨x30, hx30, hxs30⟩ := pick_at HN29.out r29 (by simp; omega) 5 (by decide)
      have hlx30 := HN29.out.lt
      go_wp2_with (first | ((with_reducible show wpPlan _ _ _ _ _ (Act.put _ _ _) _); simp only [List.getElem_toArray, List.getElem_cons_succ, List.getElem_cons_zero, Act.put, List.setIfInBounds_toArray, List.set_cons_zero, List.set_cons_succ]) | ((with_reducible show wpPlan _ _ _ _ _ _ _); first | refine wpPlan_nil ?_ | (refine wpPlan_read0 rfl ?hw rfl (fun _ _ _ => ?_); case hw => ((conv => (lhs; whnf)); first | done | with_reducible rfl)) | (refine wpPlan_read1d rfl ?hw rfl rfl (fun _ _ _ => ?_); case hw => ((conv => (lhs; whnf)); first | done | with_reducible rfl)) | (refine wpPlan_eff rfl ?hw (fun _ _ => ?_); case hw => ((conv => (lhs; whnf)); first | done | with_reducible rfl)) | (refine wpPlan_skip0 rfl ?hw ?_; case hw => ((conv => (lhs; whnf)); first | done | with_reducible rfl)) | (refine wpPlan_skip1d rfl ?hw ?_; case hw => ((conv => (lhs; whnf)); first | done | with_reducible rfl)) | (refine wpPlan_skip2 rfl ?hw ?_; case hw => ((conv => (lhs; whnf)); first | done | with_reducible rfl)) | (refine wpPlan_read1 rfl ?hw rfl (fun _ _ _ => ?_); case hw => ((conv => (lhs; whnf)); first | done | with_reducible rfl)) | refine wpPlan_fork ?_ ?_) | ((with_reducible show Owed _ _ _ _ _ _ _ _ _); first | refine Owed.none_ ?_ | refine Owed.nil_ ?_ | refine Owed.miss rfl ?_ | refine Owed.hit ?_ ?_) | ((with_reducible show Same _ _ _ _ _); intro _; go_simp; done) | (with_reducible exact True.intro))
      refine (IH _ _ _ _ _ _ _ _ _ _ _ _ _ HW29.out hn (by omega) (by omega) (by omega) (by omega) (by omega)).mono ?_
      rintro e w31 ⟨s31, f31, rfl, hs31, hW31, hf31, hO31⟩
      have HW31 := Lib.hid hW31
      have HO31 := Lib.hid (HO29.out.trans (hO31.mono (fun j _ h => h.1)))
      have hc31 := hW31.c0
      have hl31 := hW31.lt
      have HN31 := Lib.hid (HN29.out.out hO31 (fun h => h.2 rfl))
      have hx31 := hO31.cell hx30 (fun h => h.2 rfl)
      clear hW31 hO31
      go_wp2_with (first | ((with_reducible show wpPlan _ _ _ _ _ (Act.put _ _ _) _); simp only [List.getElem_toArray, List.getElem_cons_succ, List.getElem_cons_zero, Act.put, List.setIfInBounds_toArray, List.set_cons_zero, List.set_cons_succ]) | ((with_reducible show wpPlan _ _ _ _ _ _ _); first | refine wpPlan_nil ?_ | (refine wpPlan_read0 rfl ?hw rfl (fun _ _ _ => ?_); case hw => ((conv => (lhs; whnf)); first | done | with_reducible rfl)) | (refine wpPlan_read1d rfl ?hw rfl rfl (fun _ _ _ => ?_); case hw => ((conv => (lhs; whnf)); first | done | with_reducible rfl)) | (refine wpPlan_eff rfl ?hw (fun _ _ => ?_); case hw => ((conv => (lhs; whnf)); first | done | with_reducible rfl)) | (refine wpPlan_skip0 rfl ?hw ?_; case hw => ((conv => (lhs; whnf)); first | done | with_reducible rfl)) | (refine wpPlan_skip1d rfl ?hw ?_; case hw => ((conv => (lhs; whnf)); first | done | with_reducible rfl)) | (refine wpPlan_skip2 rfl ?hw ?_; case hw => ((conv => (lhs; whnf)); first | done | with_reducible rfl)) | (refine wpPlan_read1 rfl ?hw rfl (fun _ _ _ => ?_); case hw => ((conv => (lhs; whnf)); first | done | with_reducible rfl)) | refine wpPlan_fork ?_ ?_) | ((with_reducible show Owed _ _ _ _ _ _ _ _ _); first | refine Owed.none_ ?_ | refine Owed.nil_ ?_ | refine Owed.miss rfl ?_ | refine Owed.hit ?_ ?_) | ((with_reducible show Same _ _ _ _ _); intro _; go_simp; done) | (with_reducible exact True.intro))
      go_ret
      exact ⟨_, _, rfl, (by simp [ByteArray.size_append, lit_size]; omega), HW31.out.weak (fun j h => h.1) HH.out.lo, by omega, HO31.out⟩
  · go_wp2_with (first | ((with_reducible show wpTree _ _ _ _ _ (Act.put _ _ _) _); simp only [List.getElem_toArray, List.getElem_cons_succ, List.getElem_cons_zero, Act.put, List.setIfInBounds_toArray, List.set_cons_zero, List.set_cons_succ]) | ((with_reducible show wpTree _ _ _ _ _ _ _); first | refine wpTree_line ?_ | refine wpTree_alt ?_ ?_ | (refine wpTree_read0 rfl ?hw rfl (fun _ _ _ => ?_); case hw => ((conv => (lhs; whnf)); first | done | with_reducible rfl)) | (refine wpTree_read1 rfl ?hw rfl (fun _ _ _ => ?_); case hw => ((conv => (lhs; whnf)); first | done | with_reducible rfl)) | (refine wpTree_eff rfl ?hw (fun _ _ => ?_); case hw => ((conv => (lhs; whnf)); first | done | with_reducible rfl)) | (refine wpTree_skip0 rfl ?hw ?_; case hw => ((conv => (lhs; whnf)); first | done | with_reducible rfl)) | (refine wpTree_skip1 rfl ?hw ?_; case hw => ((conv => (lhs; whnf)); first | done | with_reducible rfl)) | (refine wpTree_skip2 rfl ?hw ?_; case hw => ((conv => (lhs; whnf)); first | done | with_reducible rfl))) | ((with_reducible show OwedT _ _ _ _ _ _ _ _ _); first | refine OwedT.none_ ?_ | refine OwedT.nil_ ?_ | refine OwedT.miss rfl ?_ | refine OwedT.hit ?_ ?_) | ((with_reducible show wpPlan _ _ _ _ _ (Act.put _ _ _) _); simp only [List.getElem_toArray, List.getElem_cons_succ, List.getElem_cons_zero, Act.put, List.setIfInBounds_toArray, List.set_cons_zero, List.set_cons_succ]) | ((with_reducible show wpPlan _ _ _ _ _ _ _); first | refine wpPlan_nil ?_ | (refine wpPlan_read0 rfl ?hw rfl (fun _ _ _ => ?_); case hw => ((conv => (lhs; whnf)); first | done | with_reducible rfl)) | (refine wpPlan_read1d rfl ?hw rfl rfl (fun _ _ _ => ?_); case hw => ((conv => (lhs; whnf)); first | done | with_reducible rfl)) | (refine wpPlan_eff rfl ?hw (fun _ _ => ?_); case hw => ((conv => (lhs; whnf)); first | done | with_reducible rfl)) | (refine wpPlan_skip0 rfl ?hw ?_; case hw => ((conv => (lhs; whnf)); first | done | with_reducible rfl)) | (refine wpPlan_skip1d rfl ?hw ?_; case hw => ((conv => (lhs; whnf)); first | done | with_reducible rfl)) | (refine wpPlan_skip2 rfl ?hw ?_; case hw => ((conv => (lhs; whnf)); first | done | with_reducible rfl)) | (refine wpPlan_read1 rfl ?hw rfl (fun _ _ _ => ?_); case hw => ((conv => (lhs; whnf)); first | done | with_reducible rfl)) | refine wpPlan_fork ?_ ?_) | ((with_reducible show Owed _ _ _ _ _ _ _ _ _); first | refine Owed.none_ ?_ | refine Owed.nil_ ?_ | refine Owed.miss rfl ?_ | refine Owed.hit ?_ ?_) | ((with_reducible show Same _ _ _ _ _); intro _; go_simp; done) | (with_reducible exact True.intro) | ((with_reducible show Code.wp _ (Code.region 10 _ true) _ _ _); refine wp_region_plan [(0, 0, []), (1, 1, []), (2, 1, []), (3, 1, []), (4, 0, []), (5, 1, []), (6, 1, []), (7, 1, []), (8, 2, []), (9, 2, []), (10, 1, []), (11, 0, [])] (by kernel_rfl) (by kernel_rfl) (by kernel_rfl) ?_) | ((with_reducible show Code.wp _ (Code.region 26 _ true) _ _ _); refine wp_region_tree (Tree.read 0 0 (Tree.read 1 0 (Tree.read 2 1 (Tree.read 6 0 (Tree.read 7 1 (Tree.read 8 1 (Tree.read 9 1 (Tree.read 14 0 (Tree.read 15 0 (Tree.read 16 1 (Tree.alt (Tree.eff 3 [7, 8, 9, 16] (Tree.read 4 1 (Tree.alt (Tree.eff 5 [2, 7, 8, 9, 16, 4] (Tree.line [(10, 2, [16, 4]), (11, 1, []), (12, 1, []), (13, 1, []), (17, 2, [4, 11, 12, 13]), (18, 1, []), (19, 1, []), (20, 0, [])])) (Tree.eff 10 [16, 4] (Tree.alt (Tree.eff 5 [2, 7, 8, 9, 16, 4] (Tree.line [(11, 1, []), (12, 1, []), (13, 1, []), (17, 2, [4, 11, 12, 13]), (18, 1, []), (19, 1, []), (20, 0, [])])) (Tree.eff 17 [4] (Tree.line [(5, 2, [2, 7, 8, 9, 16, 4]), (11, 1, []), (12, 1, []), (13, 1, []), (18, 1, []), (19, 1, []), (20, 0, [])]))))))) (Tree.eff 5 [2, 7, 8, 9, 16] (Tree.line [(3, 2, [7, 8, 9, 16]), (4, 1, []), (10, 2, [16, 4]), (11, 1, []), (12, 1, []), (13, 1, []), (17, 2, [4, 11, 12, 13]), (18, 1, []), (19, 1, []), (20, 0, [])]))))))))))))) (by kernel_rfl) (by kernel_rfl) (by kernel_rfl) ?_))
    · refine (IH _ _ _ _ _ _ _ _ _ _ _ _ _ HW1.out.drew hn (by omega) (by omega) (by omega) (by omega) (by omega)).mono ?_
      rintro e w32 ⟨s32, f32, rfl, hs32, hW32, hf32, hO32⟩
      have HW32 := Lib.hid hW32
      have HO32 := Lib.hid (HO1.out.drew.trans (hO32))
      have hc32 := hW32.c0
      have hl32 := hW32.lt
      clear hW32 hO32
      go_wp2_with (first | ((with_reducible show wpTree _ _ _ _ _ (Act.put _ _ _) _); simp only [List.getElem_toArray, List.getElem_cons_succ, List.getElem_cons_zero, Act.put, List.setIfInBounds_toArray, List.set_cons_zero, List.set_cons_succ]) | ((with_reducible show wpTree _ _ _ _ _ _ _); first | refine wpTree_line ?_ | refine wpTree_alt ?_ ?_ | (refine wpTree_read0 rfl ?hw rfl (fun _ _ _ => ?_); case hw => ((conv => (lhs; whnf)); first | done | with_reducible rfl)) | (refine wpTree_read1 rfl ?hw rfl (fun _ _ _ => ?_); case hw => ((conv => (lhs; whnf)); first | done | with_reducible rfl)) | (refine wpTree_eff rfl ?hw (fun _ _ => ?_); case hw => ((conv => (lhs; whnf)); first | done | with_reducible rfl)) | (refine wpTree_skip0 rfl ?hw ?_; case hw => ((conv => (lhs; whnf)); first | done | with_reducible rfl)) | (refine wpTree_skip1 rfl ?hw ?_; case hw => ((conv => (lhs; whnf)); first | done | with_reducible rfl)) | (refine wpTree_skip2 rfl ?hw ?_; case hw => ((conv => (lhs; whnf)); first | done | with_reducible rfl))) | ((with_reducible show OwedT _ _ _ _ _ _ _ _ _); first | refine OwedT.none_ ?_ | refine OwedT.nil_ ?_ | refine OwedT.miss rfl ?_ | refine OwedT.hit ?_ ?_) | ((with_reducible show wpPlan _ _ _ _ _ (Act.put _ _ _) _); simp only [List.getElem_toArray, List.getElem_cons_succ, List.getElem_cons_zero, Act.put, List.setIfInBounds_toArray, List.set_cons_zero, List.set_cons_succ]) | ((with_reducible show wpPlan _ _ _ _ _ _ _); first | refine wpPlan_nil ?_ | (refine wpPlan_read0 rfl ?hw rfl (fun _ _ _ => ?_); case hw => ((conv => (lhs; whnf)); first | done | with_reducible rfl)) | (refine wpPlan_read1d rfl ?hw rfl rfl (fun _ _ _ => ?_); case hw => ((conv => (lhs; whnf)); first | done | with_reducible rfl)) | (refine wpPlan_eff rfl ?hw (fun _ _ => ?_); case hw => ((conv => (lhs; whnf)); first | done | with_reducible rfl)) | (refine wpPlan_skip0 rfl ?hw ?_; case hw => ((conv => (lhs; whnf)); first | done | with_reducible rfl)) | (refine wpPlan_skip1d rfl ?hw ?_; case hw => ((conv => (lhs; whnf)); first | done | with_reducible rfl)) | (refine wpPlan_skip2 rfl ?hw ?_; case hw => ((conv => (lhs; whnf)); first | done | with_reducible rfl)) | (refine wpPlan_read1 rfl ?hw rfl (fun _ _ _ => ?_); case hw => ((conv => (lhs; whnf)); first | done | with_reducible rfl)) | refine wpPlan_fork ?_ ?_) | ((with_reducible show Owed _ _ _ _ _ _ _ _ _); first | refine Owed.none_ ?_ | refine Owed.nil_ ?_ | refine Owed.miss rfl ?_ | refine Owed.hit ?_ ?_) | ((with_reducible show Same _ _ _ _ _); intro _; go_simp; done) | (with_reducible exact True.intro))
      · have HN33 := Lib.hid (Blk.newAt (w := w32) (t := 9) (cs := (cellsOf scell [⟨#[32, 91, 93, 32]⟩, ⟨#[32, 124, 126, 124, 32]⟩, ⟨#[32, 59, 32]⟩, ⟨#[32, 47, 92, 32]⟩, ⟨#[32, 91, 62, 32]⟩, ⟨#[32, 124, 124, 124, 32]⟩]).toArray) (g := w32.heap.size) rfl)
        have HW33 := Lib.hid (HW32.out.lit (.cells (cellsOf scell [⟨#[32, 91, 93, 32]⟩, ⟨#[32, 124, 126, 124, 32]⟩, ⟨#[32, 59, 32]⟩, ⟨#[32, 47, 92, 32]⟩, ⟨#[32, 91, 62, 32]⟩, ⟨#[32, 124, 124, 124, 32]⟩]).toArray 9))
        have HO33 := Lib.hid (HO32.out.alloc (.cells (cellsOf scell [⟨#[32, 91, 93, 32]⟩, ⟨#[32, 124, 126, 124, 32]⟩, ⟨#[32, 59, 32]⟩, ⟨#[32, 47, 92, 32]⟩, ⟨#[32, 91, 62, 32]⟩, ⟨#[32, 124, 124, 124, 32]⟩]).toArray 9))
        have hc33 := HW33.out.c0
        have hl33 := HW33.out.lt
        refine (wnext_any _ _ _ _ _ _ _ _ _ _ _ _ HW33.out 6 (by omega) (by omega) hn).mono ?_
        rintro e w34 ⟨⟨r34, rfl, hr34⟩, hW34, hO34⟩
        have HW34 := Lib.hid hW34
        have HO34 := Lib.hid (HO33.out.trans (hO34.mono (fun j _ h => h.1)))
        have hc34 := hW34.c0
        have hl34 := hW34.lt
        have HN34 := Lib.hid (HN33.out.out hO34 (fun h => h.2 rfl))
        clear hW34 hO34
        obtain ⟨x35, hx35, hxs35⟩ := pick_at HN34.out r34 (by simp; omega) 5 (by decide)
        have hlx35 := HN34.out.lt
        go_wp2_with (first | ((with_reducible show wpPlan _ _ _ _ _ (Act.put _ _ _) _); simp only [List.getElem_toArray, List.getElem_cons_succ, List.getElem_cons_zero, Act.put, List.setIfInBounds_toArray, List.set_cons_zero, List.set_cons_succ]) | ((with_reducible show wpPlan _ _ _ _ _ _ _); first | refine wpPlan_nil ?_ | (refine wpPlan_read0 rfl ?hw rfl (fun _ _ _ => ?_); case hw => ((conv => (lhs; whnf)); first | done | with_reducible rfl)) | (refine wpPlan_read1d rfl ?hw rfl rfl (fun _ _ _ => ?_); case hw => ((conv => (lhs; whnf)); first | done | with_reducible rfl)) | (refine wpPlan_eff rfl ?hw (fun _ _ => ?_); case hw => ((conv => (lhs; whnf)); first | done | with_reducible rfl)) | (refine wpPlan_skip0 rfl ?hw ?_; case hw => ((conv => (lhs; whnf)); first | done | with_reducible rfl)) | (refine wpPlan_skip1d rfl ?hw ?_; case hw => ((conv => (lhs; whnf)); first | done | with_reducible rfl)) | (refine wpPlan_skip2 rfl ?hw ?_; case hw => ((conv => (lhs; whnf)); first | done | with_reducible rfl)) | (refine wpPlan_read1 rfl ?hw rfl (fun _ _ _ => ?_); case hw => ((conv => (lhs; whnf)); first | done | with_reducible rfl)) | refine wpPlan_fork ?_ ?_) | ((with_reducible show Owed _ _ _ _ _ _ _ _ _); first | refine Owed.none_ ?_ | refine Owed.nil_ ?_ | refine Owed.miss rfl ?_ | refine Owed.hit ?_ ?_) | ((with_reducible show Same _ _ _ _ _); intro _; go_simp; done) | (with_reducible exact True.intro))
        refine (IH _ _ _ _ _ _ _ _ _ _ _ _ _ HW34.out hn (by omega) (by omega) (by omega) (by omega) (by omega)).mono ?_
        rintro e w36 ⟨s36, f36, rfl, hs36, hW36, hf36, hO36⟩
        have HW36 := Lib.hid hW36
        have HO36 := Lib.hid (HO34.out.trans (hO36.mono (fun j _ h => h.1)))
        have hc36 := hW36.c0
        have hl36 := hW36.lt
        have HN36 := Lib.hid (HN34.out.out hO36 (fun h => h.2 rfl))
        have hx36 := hO36.cell hx35 (fun h => h.2 rfl)
        clear hW36 hO36
        go_wp2_with (first | ((with_reducible show wpPlan _ _ _ _ _ (Act.put _ _ _) _); simp only [List.getElem_toArray, List.getElem_cons_succ, List.getElem_cons_zero, Act.put, List.setIfInBounds_toArray, List.set_cons_zero, List.set_cons_succ]) | ((with_reducible show wpPlan _ _ _ _ _ _ _); first | refine wpPlan_nil ?_ | (refine wpPlan_read0 rfl ?hw rfl (fun _ _ _ => ?_); case hw => ((conv => (lhs; whnf)); first | done | with_reducible rfl)) | (refine wpPlan_read1d rfl ?hw rfl rfl (fun _ _ _ => ?_); case hw => ((conv => (lhs; whnf)); first | done | with_reducible rfl)) | (refine wpPlan_eff rfl ?hw (fun _ _ => ?_); case hw => ((conv => (lhs; whnf)); first | done | with_reducible rfl)) | (refine wpPlan_skip0 rfl ?hw ?_; case hw => ((conv => (lhs; whnf)); first | done | with_reducible rfl)) | (refine wpPlan_skip1d rfl ?hw ?_; case hw => ((conv => (lhs; whnf)); first | done | with_reducible rfl)) | (refine wpPlan_skip2 rfl ?hw ?_; case hw => ((conv => (lhs; whnf)); first | done | with_reducible rfl)) | (refine wpPlan_read1 rfl ?hw rfl (fun _ _ _ => ?_); case hw => ((conv => (lhs; whnf)); first | done | with_reducible rfl)) | refine wpPlan_fork ?_ ?_) | ((with_reducible show Owed _ _ _ _ _ _ _ _ _); first | refine Owed.none_ ?_ | refine Owed.nil_ ?_ | refine Owed.miss rfl ?_ | refine Owed.hit ?_ ?_) | ((with_reducible show Same _ _ _ _ _); intro _; go_simp; done) | (with_reducible exact True.intro))
        go_ret
        exact ⟨_, _, rfl, (by simp [ByteArray.size_append, lit_size]; omega), HW36.out.weak (fun j h => h.1) HH.out.lo, by omega, HO36.out⟩
      · refine (wnext_any _ _ _ _ _ _ _ _ _ _ _ _ HW32.out 6 (by omega) (by omega) hn).mono ?_
        rintro e w37 ⟨⟨r37, rfl, hr37⟩, hW37, hO37⟩
        have HW37 := Lib.hid hW37
        have HO37 := Lib.hid (HO32.out.trans (hO37))
        have hc37 := hW37.c0
        have hl37 := hW37.lt
        clear hW37 hO37
        obtain ⟨x38, hx38, hxs38⟩ := pick_at (Blk.newAt (w := w37) (t := 9) (cs := (cellsOf scell [⟨#[32, 91, 93, 32]⟩, ⟨#[32, 124, 126, 124, 32]⟩, ⟨#[32, 59, 32]⟩, ⟨#[32, 47, 92, 32]⟩, ⟨#[32, 91, 62, 32]⟩, ⟨#[32, 124, 124, 124, 32]⟩]).toArray) (g := w37.heap.size) rfl) r37 (by simp; omega) 5 (by decide)
        have hy38 : (w37.alloc (.cells #[.string ⟨#[32, 91, 93, 32]⟩, .string ⟨#[32, 124, 126, 124, 32]⟩, .string ⟨#[32, 59, 32]⟩, .string ⟨#[32, 47, 92, 32]⟩, .string ⟨#[32, 91, 62, 32]⟩, .string ⟨#[32, 124, 124, 124, 32]⟩] 9)).cell? ⟨w37.heap.size, r37, none⟩ = some (.string x38) := hx38
        clear hx38
        go_wp2_with (first | ((with_reducible show wpTree _ _ _ _ _ (Act.put _ _ _) _); simp only [List.getElem_toArray, List.getElem_cons_succ, List.getElem_cons_zero, Act.put, List.setIfInBounds_toArray, List.set_cons_zero, List.set_cons_succ]) | ((with_reducible show wpTree _ _ _ _ _ _ _); first | refine wpTree_line ?_ | refine wpTree_alt ?_ ?_ | (refine wpTree_read0 rfl ?hw rfl (fun _ _ _ => ?_); case hw => ((conv => (lhs; whnf)); first | done | with_reducible rfl)) | (refine wpTree_read1 rfl ?hw rfl (fun _ _ _ => ?_); case hw => ((conv => (lhs; whnf)); first | done | with_reducible rfl)) | (refine wpTree_eff rfl ?hw (fun _ _ => ?_); case hw => ((conv => (lhs; whnf)); first | done | with_reducible rfl)) | (refine wpTree_skip0 rfl ?hw ?_; case hw => ((conv => (lhs; whnf)); first | done | with_reducible rfl)) | (refine wpTree_skip1 rfl ?hw ?_; case hw => ((conv => (lhs; whnf)); first | done | with_reducible rfl)) | (refine wpTree_skip2 rfl ?hw ?_; case hw => ((conv => (lhs; whnf)); first | done | with_reducible rfl))) | ((with_reducible show OwedT _ _ _ _ _ _ _ _ _); first | refine OwedT.none_ ?_ | refine OwedT.nil_ ?_ | refine OwedT.miss rfl ?_ | refine OwedT.hit ?_ ?_) | ((with_reducible show wpPlan _ _ _ _ _ (Act.put _ _ _) _); simp only [List.getElem_toArray, List.getElem_cons_succ, List.getElem_cons_zero, Act.put, List.setIfInBounds_toArray, List.set_cons_zero, List.set_cons_succ]) | ((with_reducible show wpPlan _ _ _ _ _ _ _); first | refine wpPlan_nil ?_ | (refine wpPlan_read0 rfl ?hw rfl (fun _ _ _ => ?_); case hw => ((conv => (lhs; whnf)); first | done | with_reducible rfl)) | (refine wpPlan_read1d rfl ?hw rfl rfl (fun _ _ _ => ?_); case hw => ((conv => (lhs; whnf)); first | done | with_reducible rfl)) | (refine wpPlan_eff rfl ?hw (fun _ _ => ?_); case hw => ((conv => (lhs; whnf)); first | done | with_reducible rfl)) | (refine wpPlan_skip0 rfl ?hw ?_; case hw => ((conv => (lhs; whnf)); first | done | with_reducible rfl)) | (refine wpPlan_skip1d rfl ?hw ?_; case hw => ((conv => (lhs; whnf)); first | done | with_reducible rfl)) | (refine wpPlan_skip2 rfl ?hw ?_; case hw => ((conv => (lhs; whnf)); first | done | with_reducible rfl)) | (refine wpPlan_read1 rfl ?hw rfl (fun _ _ _ => ?_); case hw => ((conv => (lhs; whnf)); first | done | with_reducible rfl)) | refine wpPlan_fork ?_ ?_) | ((with_reducible show Owed _ _ _ _ _ _ _ _ _); first | refine Owed.none_ ?_ | refine Owed.nil_ ?_ | refine Owed.miss rfl ?_ | refine Owed.hit ?_ ?_) | ((with_reducible show Same _ _ _ _ _); intro _; go_simp; done) | (with_reducible exact True.intro))
        · have HN39 := Lib.hid (Blk.newAt (w := w37) (t := 9) (cs := (cellsOf scell [⟨#[32, 91, 93, 32]⟩, ⟨#[32, 124, 126, 124, 32]⟩, ⟨#[32, 59, 32]⟩, ⟨#[32, 47, 92, 32]⟩, ⟨#[32, 91, 62, 32]⟩, ⟨#[32, 124, 124, 124, 32]⟩]).toArray) (g := w37.heap.size) rfl)
          have HW39 := Lib.hid (HW37.out.lit (.cells (cellsOf scell [⟨#[32, 91, 93, 32]⟩, ⟨#[32, 124, 126, 124, 32]⟩, ⟨#[32, 59, 32]⟩, ⟨#[32, 47, 92, 32]⟩, ⟨#[32, 91, 62, 32]⟩, ⟨#[32, 124, 124, 124, 32]⟩]).toArray 9))
          have HO39 := Lib.hid (HO37.out.alloc (.cells (cellsOf scell [⟨#[32, 91, 93, 32]⟩, ⟨#[32, 124, 126, 124, 32]⟩, ⟨#[32, 59, 32]⟩, ⟨#[32, 47, 92, 32]⟩, ⟨#[32, 91, 62, 32]⟩, ⟨#[32, 124, 124, 124, 32]⟩]).toArray 9))
          have hc39 := HW39.out.c0
          have hl39 := HW39.out.lt
          refine (IH _ _ _ _ _ _ _ _ _ _ _ _ _ HW39.out hn (by omega) (by omega) (by omega) (by omega) (by omega)).mono ?_
          rintro e w40 ⟨s40, f40, rfl, hs40, hW40, hf40, hO40⟩
          have HW40 := Lib.hid hW40
          have HO40 := Lib.hid (HO39.out.trans (hO40.mono (fun j _ h => h.1)))
          have hc40 := hW40.c0
          have hl40 := hW40.lt
          have HN40 := Lib.hid (HN39.out.out hO40 (fun h => h.2 rfl))
          have hx40 := hO40.cell hy38 (fun h => h.2 rfl)
          clear hW40 hO40
          go_wp2_with (first | ((with_reducible show wpPlan _ _ _ _ _ (Act.put _ _ _) _); simp only [List.getElem_toArray, List.getElem_cons_succ, List.getElem_cons_zero, Act.put, List.setIfInBounds_toArray, List.set_cons_zero, List.set_cons_succ]) | ((with_reducible show wpPlan _ _ _ _ _ _ _); first | refine wpPlan_nil ?_ | (refine wpPlan_read0 rfl ?hw rfl (fun _ _ _ => ?_); case hw => ((conv => (lhs; whnf)); first | done | with_reducible rfl)) | (refine wpPlan_read1d rfl ?hw rfl rfl (fun _ _ _ => ?_); case hw => ((conv => (lhs; whnf)); first | done | with_reducible rfl)) | (refine wpPlan_eff rfl ?hw (fun _ _ => ?_); case hw => ((conv => (lhs; whnf)); first | done | with_reducible rfl)) | (refine wpPlan_skip0 rfl ?hw ?_; case hw => ((conv => (lhs; whnf)); first | done | with_reducible rfl)) | (refine wpPlan_skip1d rfl ?hw ?_; case hw => ((conv => (lhs; whnf)); first | done | with_reducible rfl)) | (refine wpPlan_skip2 rfl ?hw ?_; case hw => ((conv => (lhs; whnf)); first | done | with_reducible rfl)) | (refine wpPlan_read1 rfl ?hw rfl (fun _ _ _ => ?_); case hw => ((conv => (lhs; whnf)); first | done | with_reducible rfl)) | refine wpPlan_fork ?_ ?_) | ((with_reducible show Owed _ _ _ _ _ _ _ _ _); first | refine Owed.none_ ?_ | refine Owed.nil_ ?_ | refine Owed.miss rfl ?_ | refine Owed.hit ?_ ?_) | ((with_reducible show Same _ _ _ _ _); intro _; go_simp; done) | (with_reducible exact True.intro))
          go_ret
          exact ⟨_, _, rfl, (by simp [ByteArray.size_append, lit_size]; omega), HW40.out.weak (fun j h => h.1) HH.out.lo, by omega, HO40.out⟩
        · refine (IH _ _ _ _ _ _ _ _ _ _ _ _ _ HW37.out hn (by omega) (by omega) (by omega) (by omega) (by omega)).mono ?_
          rintro e w41 ⟨s41, f41, rfl, hs41, hW41, hf41, hO41⟩
          have HW41 := Lib.hid hW41
          have HO41 := Lib.hid (HO37.out.trans (hO41))
          have hc41 := hW41.c0
          have hl41 := hW41.lt
          clear hW41 hO41
          obtain ⟨x42, hx42, hxs42⟩ := pick_at (Blk.newAt (w := w41) (t := 9) (cs := (cellsOf scell [⟨#[32, 91, 93, 32]⟩, ⟨#[32, 124, 126, 124, 32]⟩, ⟨#[32, 59, 32]⟩, ⟨#[32, 47, 92, 32]⟩, ⟨#[32, 91, 62, 32]⟩, ⟨#[32, 124, 124, 124, 32]⟩]).toArray) (g := w41.heap.size) rfl) r37 (by simp; omega) 5 (by decide)
          have hy42 : (w41.alloc (.cells #[.string ⟨#[32, 91, 93, 32]⟩, .string ⟨#[32, 124, 126, 124, 32]⟩, .string ⟨#[32, 59, 32]⟩, .string ⟨#[32, 47, 92, 32]⟩, .string ⟨#[32, 91, 62, 32]⟩, .string ⟨#[32, 124, 124, 124, 32]⟩] 9)).cell? ⟨w41.heap.size, r37, none⟩ = some (.string x42) := hx42
          clear hx42
          go_wp2_with (first | ((with_reducible show wpTree _ _ _ _ _ (Act.put _ _ _) _); simp only [List.getElem_toArray, List.getElem_cons_succ, List.getElem_cons_zero, Act.put, List.setIfInBounds_toArray, List.set_cons_zero, List.set_cons_succ]) | ((with_reducible show wpTree _ _ _ _ _ _ _); first | refine wpTree_line ?_ | refine wpTree_alt ?_ ?_ | (refine wpTree_read0 rfl ?hw rfl (fun _ _ _ => ?_); case hw => ((conv => (lhs; whnf)); first | done | with_reducible rfl)) | (refine wpTree_read1 rfl ?hw rfl (fun _ _ _ => ?_); case hw => ((conv => (lhs; whnf)); first | done | with_reducible rfl)) | (refine wpTree_eff rfl ?hw (fun _ _ => ?_); case hw => ((conv => (lhs; whnf)); first | done | with_reducible rfl)) | (refine wpTree_skip0 rfl ?hw ?_; case hw => ((conv => (lhs; whnf)); first | done | with_reducible rfl)) | (refine wpTree_skip1 rfl ?hw ?_; case hw => ((conv => (lhs; whnf)); first | done | with_reducible rfl)) | (refine wpTree_skip2 rfl ?hw ?_; case hw => ((conv => (lhs; whnf)); first | done | with_reducible rfl))) | ((with_reducible show OwedT _ _ _ _ _ _ _ _ _); first | refine OwedT.none_ ?_ | refine OwedT.nil_ ?_ | refine OwedT.miss rfl ?_ | refine OwedT.hit ?_ ?_) | ((with_reducible show wpPlan _ _ _ _ _ (Act.put _ _ _) _); simp only [List.getElem_toArray, List.getElem_cons_succ, List.getElem_cons_zero, Act.put, List.setIfInBounds_toArray, List.set_cons_zero, List.set_cons_succ]) | ((with_reducible show wpPlan _ _ _ _ _ _ _); first | refine wpPlan_nil ?_ | (refine wpPlan_read0 rfl ?hw rfl (fun _ _ _ => ?_); case hw => ((conv => (lhs; whnf)); first | done | with_reducible rfl)) | (refine wpPlan_read1d rfl ?hw rfl rfl (fun _ _ _ => ?_); case hw => ((conv => (lhs; whnf)); first | done | with_reducible rfl)) | (refine wpPlan_eff rfl ?hw (fun _ _ => ?_); case hw => ((conv => (lhs; whnf)); first | done | with_reducible rfl)) | (refine wpPlan_skip0 rfl ?hw ?_; case hw => ((conv => (lhs; whnf)); first | done | with_reducible rfl)) | (refine wpPlan_skip1d rfl ?hw ?_; case hw => ((conv => (lhs; whnf)); first | done | with_reducible rfl)) | (refine wpPlan_skip2 rfl ?hw ?_; case hw => ((conv => (lhs; whnf)); first | done | with_reducible rfl)) | (refine wpPlan_read1 rfl ?hw rfl (fun _ _ _ => ?_); case hw => ((conv => (lhs; whnf)); first | done | with_reducible rfl)) | refine wpPlan_fork ?_ ?_) | ((with_reducible show Owed _ _ _ _ _ _ _ _ _); first | refine Owed.none_ ?_ | refine Owed.nil_ ?_ | refine Owed.miss rfl ?_ | refine Owed.hit ?_ ?_) | ((with_reducible show Same _ _ _ _ _); intro _; go_simp; done) | (with_reducible exact True.intro))
          go_ret
          exact ⟨_, _, rfl, (by simp [ByteArray.size_append, lit_size]; omega), HW41.out.alloc _, by omega, HO41.out.alloc _⟩
    · have HN43 := Lib.hid (Blk.newAt (w := w1) (t := 9) (cs := (cellsOf scell [⟨#[32, 91, 93, 32]⟩, ⟨#[32, 124, 126, 124, 32]⟩, ⟨#[32, 59, 32]⟩, ⟨#[32, 47, 92, 32]⟩, ⟨#[32, 91, 62, 32]⟩, ⟨#[32, 124, 124, 124, 32]⟩]).toArray) (g := w1.heap.size) rfl)
      have HW43 := Lib.hid (HW1.out.lit (.cells (cellsOf scell [⟨#[32, 91, 93, 32]⟩, ⟨#[32, 124, 126, 124, 32]⟩, ⟨#[32, 59, 32]⟩, ⟨#[32, 47, 92, 32]⟩, ⟨#[32, 91, 62, 32]⟩, ⟨#[32, 124, 124, 124, 32]⟩]).toArray 9))
      have HO43 := Lib.hid (HO1.out.alloc (.cells (cellsOf scell [⟨#[32, 91, 93, 32]⟩, ⟨#[32, 124, 126, 124, 32]⟩, ⟨#[32, 59, 32]⟩, ⟨#[32, 47, 92, 32]⟩, ⟨#[32, 91, 62, 32]⟩, ⟨#[32, 124, 124, 124, 32]⟩]).toArray 9))
      have hc43 := HW43.out.c0
      have hl43 := HW43.out.lt
      refine (IH _ _ _ _ _ _ _ _ _ _ _ _ _ HW43.out.drew hn (by omega) (by omega) (by omega) (by omega) (by omega)).mono ?_
      rintro e w44 ⟨s44, f44, rfl, hs44, hW44, hf44, hO44⟩
      have HW44 := Lib.hid hW44
      have HO44 := Lib.hid (HO43.out.drew.trans (hO44.mono (fun j _ h => h.1)))
      have hc44 := hW44.c0
      have hl44 := hW44.lt
      have HN44 := Lib.hid (HN43.out.drew.out hO44 (fun h => h.2 rfl))
      clear hW44 hO44
      go_wp2_with (first | ((with_reducible show wpPlan _ _ _ _ _ (Act.put _ _ _) _); simp only [List.getElem_toArray, List.getElem_cons_succ, List.getElem_cons_zero, Act.put, List.setIfInBounds_toArray, List.set_cons_zero, List.set_cons_succ]) | ((with_reducible show wpPlan _ _ _ _ _ _ _); first | refine wpPlan_nil ?_ | (refine wpPlan_read0 rfl ?hw rfl (fun _ _ _ => ?_); case hw => ((conv => (lhs; whnf)); first | done | with_reducible rfl)) | (refine wpPlan_read1d rfl ?hw rfl rfl (fun _ _ _ => ?_); case hw => ((conv => (lhs; whnf)); first | done | with_reducible rfl)) | (refine wpPlan_eff rfl ?hw (fun _ _ => ?_); case hw => ((conv => (lhs; whnf)); first | done | with_reducible rfl)) | (refine wpPlan_skip0 rfl ?hw ?_; case hw => ((conv => (lhs; whnf)); first | done | with_reducible rfl)) | (refine wpPlan_skip1d rfl ?hw ?_; case hw => ((conv => (lhs; whnf)); first | done | with_reducible rfl)) | (refine wpPlan_skip2 rfl ?hw ?_; case hw => ((conv => (lhs; whnf)); first | done | with_reducible rfl)) | (refine wpPlan_read1 rfl ?hw rfl (fun _ _ _ => ?_); case hw => ((conv => (lhs; whnf)); first | done | with_reducible rfl)) | refine wpPlan_fork ?_ ?_) | ((with_reducible show Owed _ _ _ _ _ _ _ _ _); first | refine Owed.none_ ?_ | refine Owed.nil_ ?_ | refine Owed.miss rfl ?_ | refine Owed.hit ?_ ?_) | ((with_reducible show Same _ _ _ _ _); intro _; go_simp; done) | (with_reducible exact True.intro))
      refine (wnext_any _ _ _ _ _ _ _ _ _ _ _ _ HW44.out 6 (by omega) (by omega) hn).mono ?_
      rintro e w45 ⟨⟨r45, rfl, hr45⟩, hW45, hO45⟩
      have HW45 := Lib.hid hW45
      have HO45 := Lib.hid (HO44.out.trans (hO45.mono (fun j _ h => h.1)))
      have hc45 := hW45.c0
      have hl45 := hW45.lt
      have HN45 := Lib.hid (HN44.out.out hO45 (fun h => h.2 rfl))
      clear hW45 hO45
      obtain ⟨x46, hx46, hxs46⟩ := pick_at HN45.out r45 (by simp; omega) 5 (by decide)
      have hlx46 := HN45.out.lt
      go_wp2_with (first | ((with_reducible show wpPlan _ _ _ _ _ (Act.put _ _ _) _); simp only [List.getElem_toArray, List.getElem_cons_succ, List.getElem_cons_zero, Act.put, List.setIfInBounds_toArray, List.set_cons_zero, List.set_cons_succ]) | ((with_reducible show wpPlan _ _ _ _ _ _ _); first | refine wpPlan_nil ?_ | (refine wpPlan_read0 rfl ?hw rfl (fun _ _ _ => ?_); case hw => ((conv => (lhs; whnf)); first | done | with_reducible rfl)) | (refine wpPlan_read1d rfl ?hw rfl rfl (fun _ _ _ => ?_); case hw => ((conv => (lhs; whnf)); first | done | with_reducible rfl)) | (refine wpPlan_eff rfl ?hw (fun _ _ => ?_); case hw => ((conv => (lhs; whnf)); first | done | with_reducible rfl)) | (refine wpPlan_skip0 rfl ?hw ?_; case hw => ((conv => (lhs; whnf)); first | done | with_reducible rfl)) | (refine wpPlan_skip1d rfl ?hw ?_; case hw => ((conv => (lhs; whnf)); first | done | with_reducible rfl)) | (refine wpPlan_skip2 rfl ?hw ?_; case hw => ((conv => (lhs; whnf)); first | done | with_reducible rfl)) | (refine wpPlan_read1 rfl ?hw rfl (fun _ _ _ => ?_); case hw => ((conv => (lhs; whnf)); first | done | with_reducible rfl)) | refine wpPlan_fork ?_ ?_) | ((with_reducible show Owed _ _ _ _ _ _ _ _ _); first | refine Owed.none_ ?_ | refine Owed.nil_ ?_ | refine Owed.miss rfl ?_ | refine Owed.hit ?_ ?_) | ((with_reducible show Same _ _ _ _ _); intro _; go_simp; done) | (with_reducible exact True.intro))
      refine (IH _ _ _ _ _ _ _ _ _ _ _ _ _ HW45.out hn (by omega) (by omega) (by omega) (by omega) (by omega)).mono ?_
      rintro e w47 ⟨s47, f47, rfl, hs47, hW47, hf47, hO47⟩
      have HW47 := Lib.hid hW47
      have HO47 := Lib.hid (HO45.out.trans (hO47.mono (fun j _ h => h.1)))
      have hc47 := hW47.c0
      have hl47 := hW47.lt
      have HN47 := Lib.hid (HN45.out.out hO47 (fun h => h.2 rfl))
      have hx47 := hO47.cell hx46 (fun h => h.2 rfl)
      clear hW47 hO47
      go_wp2_with (first | ((with_reducible show wpPlan _ _ _ _ _ (Act.put _ _ _) _); simp only [List.getElem_toArray, List.getElem_cons_succ, List.getElem_cons_zero, Act.put, List.setIfInBounds_toArray, List.set_cons_zero, List.set_cons_succ]) | ((with_reducible show wpPlan _ _ _ _ _ _ _); first | refine wpPlan_nil ?_ | (refine wpPlan_read0 rfl ?hw rfl (fun _ _ _ => ?_); case hw => ((conv => (lhs; whnf)); first | done | with_reducible rfl)) | (refine wpPlan_read1d rfl ?hw rfl rfl (fun _ _ _ => ?_); case hw => ((conv => (lhs; whnf)); first | done | with_reducible rfl)) | (refine wpPlan_eff rfl ?hw (fun _ _ => ?_); case hw => ((conv => (lhs; whnf)); first | done | with_reducible rfl)) | (refine wpPlan_skip0 rfl ?hw ?_; case hw => ((conv => (lhs; whnf)); first | done | with_reducible rfl)) | (refine wpPlan_skip1d rfl ?hw ?_; case hw => ((conv => (lhs; whnf)); first | done | with_reducible rfl)) | (refine wpPlan_skip2 rfl ?hw ?_; case hw => ((conv => (lhs; whnf)); first | done | with_reducible rfl)) | (refine wpPlan_read1 rfl ?hw rfl (fun _ _ _ => ?_); case hw => ((conv => (lhs; whnf)); first | done | with_reducible rfl)) | refine wpPlan_fork ?_ ?_) | ((with_reducible show Owed _ _ _ _ _ _ _ _ _); first | refine Owed.none_ ?_ | refine Owed.nil_ ?_ | refine Owed.miss rfl ?_ | refine Owed.hit ?_ ?_) | ((with_reducible show Same _ _ _ _ _); intro _; go_simp; done) | (with_reducible exact True.intro))
      go_ret
      exact ⟨_, _, rfl, (by simp [ByteArray.size_append, lit_size]; omega), HW47.out.weak (fun j h => h.1) HH.out.lo, by omega, HO47.out⟩
  · go_wp2_with fail
    refine (IH _ _ _ _ _ _ _ _ _ _ _ _ _ HW1.out hn (by omega) (by omega) (by omega) (by omega) (by omega)).mono ?_
    rintro e w48 ⟨s48, f48, rfl, hs48, hW48, hf48, hO48⟩
    have HW48 := Lib.hid hW48
    have HO48 := Lib.hid (HO1.out.trans (hO48))
    have hc48 := hW48.c0
    have hl48 := hW48.lt
    clear hW48 hO48
    go_wp2_with fail
    refine (events_any _ _ _ _ _ _ _ _ _ _ _ _ HW48.out hn).mono ?_
    rintro e w49 ⟨s49, f49, rfl, hs49, hW49, hf49, hO49⟩
    have HW49 := Lib.hid hW49
    have HO49 := Lib.hid (HO48.out.trans (hO49))
    have hc49 := hW49.c0
    have hl49 := hW49.lt
    clear hW49 hO49
    go_wp2_with fail
    refine (IH _ _ _ _ _ _ _ _ _ _ _ _ _ HW49.out hn (by omega) (by omega) (by omega) (by omega) (by omega)).mono ?_
    rintro e w50 ⟨s50, f50, rfl, hs50, hW50, hf50, hO50⟩
    have HW50 := Lib.hid hW50
    have HO50 := Lib.hid (HO49.out.trans (hO50))
    have hc50 := hW50.c0
    have hl50 := hW50.lt
    clear hW50 hO50
    go_wp2_with fail
    go_ret
    exact ⟨_, _, rfl, (by simp [ByteArray.size_append, lit_size]; omega), HW50.out, by omega, HO50.out⟩
  · go_wp2_with fail
    refine (IH _ _ _ _ _ _ _ _ _ _ _ _ _ HW1.out hn (by omega) (by omega) (by omega) (by omega) (by omega)).mono ?_
    rintro e w51 ⟨s51, f51, rfl, hs51, hW51, hf51, hO51⟩
    have HW51 := Lib.hid hW51
    have HO51 := Lib.hid (HO1.out.trans (hO51))
    have hc51 := hW51.c0
    have hl51 := hW51.lt
    clear hW51 hO51
    go_wp2_with fail
    refine (events_any _ _ _ _ _ _ _ _ _ _ _ _ HW51.out hn).mono ?_
    rintro e w52 ⟨s52, f52, rfl, hs52, hW52, hf52, hO52⟩
    have HW52 := Lib.hid hW52
    have HO52 := Lib.hid (HO51.out.trans (hO52))
    have hc52 := hW52.c0
    have hl52 := hW52.lt
    clear hW52 hO52
    go_wp2_with fail
    go_ret
    exact ⟨_, _, rfl, (by simp [ByteArray.size_append, lit_size]; omega), HW52.out, by omega, HO52.out⟩
  · go_wp2_with fail
    refine (IH _ _ _ _ _ _ _ _ _ _ _ _ _ HW1.out hn (by omega) (by omega) (by omega) (by omega) (by omega)).mono ?_
    rintro e w53 ⟨s53, f53, rfl, hs53, hW53, hf53, hO53⟩
    have HW53 := Lib.hid hW53
    have HO53 := Lib.hid (HO1.out.trans (hO53))
    have hc53 := hW53.c0
    have hl53 := hW53.lt
    clear hW53 hO53
    go_wp2_with fail
    go_ret
    exact ⟨_, _, rfl, (by simp [ByteArray.size_append, lit_size]; omega), HW53.out, by omega, HO53.out⟩
  · go_wp2_with fail
    refine ((expr_all 1) _ _ _ _ _ _ _ _ _ _ _ _ _ _ HW1.out hn (by omega) (by omega) (by omega) (by omega) (by omega)).mono ?_
    rintro e w54 ⟨s54, f54, rfl, hs54, hW54, hf54, hO54⟩
    have HW54 := Lib.hid hW54
    have HO54 := Lib.hid (HO1.out.trans (hO54))
    have hc54 := hW54.c0
    have hl54 := hW54.lt
    clear hW54 hO54
    go_wp2_with fail
    refine (IH _ _ _ _ _ _ _ _ _ _ _ _ _ HW54.out hn (by omega) (by omega) (by omega) (by omega) (by omega)).mono ?_
    rintro e w55 ⟨s55, f55, rfl, hs55, hW55, hf55, hO55⟩
    have HW55 := Lib.hid hW55
    have HO55 := Lib.hid (HO54.out.trans (hO55))
    have hc55 := hW55.c0
    have hl55 := hW55.lt
    clear hW55 hO55
    go_wp2_with fail
    go_ret
    exact ⟨_, _, rfl, (by simp [ByteArray.size_append, lit_size]; omega), HW55.out, by omega, HO55.out⟩
  · go_wp2_with fail
    refine (mark_any _ _ _ _ _ _ _ _ _ _ _ _ HW1.out).mono ?_
    rintro e w56 ⟨rfl, rfl⟩
    go_wp2_with fail
    refine (bind_any _ _ _ _ _ _ _ _ _ _ _ _ HW1.out _ (by omega) (by omega)).mono ?_
    rintro e w57 ⟨⟨s57, rfl, hs57⟩, hW57, hO57⟩
    have HW57 := Lib.hid hW57
    have HO57 := Lib.hid (HO1.out.trans (hO57))
    have hc57 := hW57.c0
    have hl57 := hW57.lt
    clear hW57 hO57
    go_wp2_with fail
    refine (IH _ _ _ _ _ _ _ _ _ _ _ _ _ HW57.out hn (by omega) (by omega) (by omega) (by omega) (by omega)).mono ?_
    rintro e w58 ⟨s58, f58, rfl, hs58, hW58, hf58, hO58⟩
    have HW58 := Lib.hid hW58
    have HO58 := Lib.hid (HO57.out.trans (hO58))
    have hc58 := hW58.c0
    have hl58 := hW58.lt
    clear hW58 hO58
    go_wp2_with fail
    refine (reset_any _ _ _ _ _ _ _ _ _ _ _ _ HW58.out k (by omega) (by omega)).mono ?_
    rintro e w59 ⟨rfl, hW59, hO59⟩
    have HW59 := Lib.hid hW59
    have HO59 := Lib.hid (HO58.out.trans (hO59))
    have hc59 := hW59.c0
    have hl59 := hW59.lt
    clear hW59 hO59
    go_wp2_with fail
    go_ret
    exact ⟨_, _, rfl, (by simp [ByteArray.size_append, lit_size]; omega), HW59.out, by omega, HO59.out⟩
  · go_wp2_with fail
    refine ((expr_all 1) _ _ _ _ _ _ _ _ _ _ _ _ _ _ HW1.out hn (by omega) (by omega) (by omega) (by omega) (by omega)).mono ?_
    rintro e w60 ⟨s60, f60, rfl, hs60, hW60, hf60, hO60⟩
    have HW60 := Lib.hid hW60
    have HO60 := Lib.hid (HO1.out.trans (hO60))
    have hc60 := hW60.c0
    have hl60 := hW60.lt
    clear hW60 hO60
    go_wp2_with fail
    refine (IH _ _ _ _ _ _ _ _ _ _ _ _ _ HW60.out hn (by omega) (by omega) (by omega) (by omega) (by omega)).mono ?_
    rintro e w61 ⟨s61, f61, rfl, hs61, hW61, hf61, hO61⟩
    have HW61 := Lib.hid hW61
    have HO61 := Lib.hid (HO60.out.trans (hO61))
    have hc61 := hW61.c0
    have hl61 := hW61.lt
    clear hW61 hO61
    go_wp2_with fail
    refine (IH _ _ _ _ _ _ _ _ _ _ _ _ _ HW61.out hn (by omega) (by omega) (by omega) (by omega) (by omega)).mono ?_
    rintro e w62 ⟨s62, f62, rfl, hs62, hW62, hf62, hO62⟩
    have HW62 := Lib.hid hW62
    have HO62 := Lib.hid (HO61.out.trans (hO62))
    have hc62 := hW62.c0
    have hl62 := hW62.lt
    clear hW62 hO62
    go_wp2_with fail
    go_ret
    exact ⟨_, _, rfl, (by simp [ByteArray.size_append, lit_size]; omega), HW62.out, by omega, HO62.out⟩

theorem proc_all : ∀ d : Nat, ProcOk d
  | 0 => proc_zero
  | d + 1 => proc_succ d (proc_all d)

end Go.Proofs.YtgfhkaamkodpjaaDoor
