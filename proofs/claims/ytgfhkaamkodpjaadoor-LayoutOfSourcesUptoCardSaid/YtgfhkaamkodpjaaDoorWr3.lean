/- the generator's writer of sources: integer, truth (printed by wip/tools/wr3gen.py) -/
import Derived.Test.YtgfhkaamkodpjaaDoorWr2
namespace Go.Proofs.YtgfhkaamkodpjaaDoor
open Go Go.RowKit
set_option maxHeartbeats 8000000

def mS : Nat → Nat
  | 0 => 12
  | d + 1 => 3 * mS d + 40
theorem mS_ge (d : Nat) : 12 ≤ mS d := by
  cases d with
  | zero => exact Nat.le_refl _
  | succ d => show 12 ≤ 3 * mS d + 40; omega

/-- Expressions of depth d are as they should be. -/
def ExprOk (d : Nat) : Prop :=
  ∀ (B : Nat) (R : Nat → Prop) (b wb : Nat) (A : Option Addr) (n c : Nat) (zs : List Int) (fu : Int) (k fr : Nat) (w : World) (t q : Int),
    WrAt w B R b wb A n c zs fu k fr → n ≤ 1000000000000 → k + d ≤ 100000 → fr + mS d ≤ 1000000 → 0 ≤ t → t < 6 → q = (d : Int) →
    Calls Tryd.prog 35 #[.pointer (some ⟨wb, 0, none⟩), .int .i64 t, .int .i64 q] w (WPost B R b wb A n c zs fu k fr (mS d) w)

section
variable {d : Nat} {B : Nat} {R : Nat → Prop} {b wb : Nat} {A : Option Addr} {n c : Nat} {zs : List Int} {fu : Int} {k fr : Nat} {w : World}
theorem winteger_any (IH : ExprOk d) (h : WrAt w B R b wb A n c zs fu k fr) (hn : n ≤ 1000000000000) (hk : k + (d + 1) ≤ 100000) (hfr : fr + mS (d + 1) ≤ 1000000) (q : Int) (hq : q = (d : Int) + 1) :
    Calls Tryd.prog 67 #[.pointer (some ⟨wb, 0, none⟩), .int .i64 q] w (WPost B R b wb A n c zs fu k fr (mS (d + 1)) w) := by
  have HH := Lib.hid h
  have HO0 := Lib.hid (Outside.refl R w)
  have hm : mS (d + 1) = 3 * mS d + 40 := rfl
  have hm12 := mS_ge d
  have hm0 : mS 0 = 12 := rfl
  have hc := h.c0
  have hl := h.lt
  clear h
  go_enter Tryd.func67, Tryd.ntmps67
  go_wp2_with fail
  refine (wnext_any _ _ _ _ _ _ _ _ _ _ _ _ HH.out 10 (by omega) (by omega) hn).mono ?_
  rintro e w1 ⟨⟨r1, rfl, hr1⟩, hW1, hO1⟩
  have HW1 := Lib.hid hW1
  have HO1 := Lib.hid (HO0.out.trans (hO1))
  have hc1 := hW1.c0
  have hl1 := hW1.lt
  clear hW1 hO1
  have hr0 : (0 : Int) ≤ r1 := by omega
  generalize hz : (r1 : Int) = z at hr1 hr0 ⊢
  clear hz
  rcases (show z = 0 ∨ z = 1 ∨ z = 2 ∨ z = 3 ∨ z = 4 ∨ z = 5 ∨ z = 6 ∨ z = 7 ∨ z = 8 ∨ z = 9 by omega) with rfl | rfl | rfl | rfl | rfl | rfl | rfl | rfl | rfl | rfl
  · go_wp2_with (first | ((with_reducible show wpTree _ _ _ _ _ (Act.put _ _ _) _); simp only [List.getElem_toArray, List.getElem_cons_succ, List.getElem_cons_zero, Act.put, List.setIfInBounds_toArray, List.set_cons_zero, List.set_cons_succ]) | ((with_reducible show wpTree _ _ _ _ _ _ _); first | refine wpTree_line ?_ | refine wpTree_alt ?_ ?_ | (refine wpTree_read0 rfl ?hw rfl (fun _ _ _ => ?_); case hw => ((conv => (lhs; whnf)); first | done | with_reducible rfl)) | (refine wpTree_read1 rfl ?hw rfl (fun _ _ _ => ?_); case hw => ((conv => (lhs; whnf)); first | done | with_reducible rfl)) | (refine wpTree_eff rfl ?hw (fun _ _ => ?_); case hw => ((conv => (lhs; whnf)); first | done | with_reducible rfl)) | (refine wpTree_skip0 rfl ?hw ?_; case hw => ((conv => (lhs; whnf)); first | done | with_reducible rfl)) | (refine wpTree_skip1 rfl ?hw ?_; case hw => ((conv => (lhs; whnf)); first | done | with_reducible rfl)) | (refine wpTree_skip2 rfl ?hw ?_; case hw => ((conv => (lhs; whnf)); first | done | with_reducible rfl))) | ((with_reducible show OwedT _ _ _ _ _ _ _ _ _); first | refine OwedT.none_ ?_ | refine OwedT.nil_ ?_ | refine OwedT.miss rfl ?_ | refine OwedT.hit ?_ ?_) | ((with_reducible show wpPlan _ _ _ _ _ (Act.put _ _ _) _); simp only [List.getElem_toArray, List.getElem_cons_succ, List.getElem_cons_zero, Act.put, List.setIfInBounds_toArray, List.set_cons_zero, List.set_cons_succ]) | ((with_reducible show wpPlan _ _ _ _ _ _ _); first | refine wpPlan_nil ?_ | (refine wpPlan_read0 rfl ?hw rfl (fun _ _ _ => ?_); case hw => ((conv => (lhs; whnf)); first | done | with_reducible rfl)) | (refine wpPlan_read1d rfl ?hw rfl rfl (fun _ _ _ => ?_); case hw => ((conv => (lhs; whnf)); first | done | with_reducible rfl)) | (refine wpPlan_eff rfl ?hw (fun _ _ => ?_); case hw => ((conv => (lhs; whnf)); first | done | with_reducible rfl)) | (refine wpPlan_skip0 rfl ?hw ?_; case hw => ((conv => (lhs; whnf)); first | done | with_reducible rfl)) | (refine wpPlan_skip1d rfl ?hw ?_; case hw => ((conv => (lhs; whnf)); first | done | with_reducible rfl)) | (refine wpPlan_skip2 rfl ?hw ?_; case hw => ((conv => (lhs; whnf)); first | done | with_reducible rfl)) | (refine wpPlan_read1 rfl ?hw rfl (fun _ _ _ => ?_); case hw => ((conv => (lhs; whnf)); first | done | with_reducible rfl)) | refine wpPlan_fork ?_ ?_) | ((with_reducible show Owed _ _ _ _ _ _ _ _ _); first | refine Owed.none_ ?_ | refine Owed.nil_ ?_ | refine Owed.miss rfl ?_ | refine Owed.hit ?_ ?_) | ((with_reducible show Same _ _ _ _ _); intro _; go_simp; done) | (with_reducible exact True.intro) | ((with_reducible show Code.wp _ (Code.region 4 _ true) _ _ _); refine wp_region_tree (Tree.read 0 0 (Tree.read 1 0 (Tree.read 2 1 (Tree.read 6 0 (Tree.read 7 1 (Tree.read 8 1 (Tree.read 9 1 (Tree.read 14 0 (Tree.read 15 0 (Tree.read 16 1 (Tree.alt (Tree.eff 3 [7, 8, 9, 16] (Tree.read 4 1 (Tree.alt (Tree.eff 5 [2, 7, 8, 9, 16, 4] (Tree.line [(10, 2, [16, 4]), (11, 1, []), (12, 1, []), (13, 1, []), (17, 2, [4, 11, 12, 13]), (18, 1, []), (19, 1, []), (20, 0, [])])) (Tree.eff 10 [16, 4] (Tree.alt (Tree.eff 5 [2, 7, 8, 9, 16, 4] (Tree.line [(11, 1, []), (12, 1, []), (13, 1, []), (17, 2, [4, 11, 12, 13]), (18, 1, []), (19, 1, []), (20, 0, [])])) (Tree.eff 17 [4] (Tree.line [(5, 2, [2, 7, 8, 9, 16, 4]), (11, 1, []), (12, 1, []), (13, 1, []), (18, 1, []), (19, 1, []), (20, 0, [])]))))))) (Tree.eff 5 [2, 7, 8, 9, 16] (Tree.line [(3, 2, [7, 8, 9, 16]), (4, 1, []), (10, 2, [16, 4]), (11, 1, []), (12, 1, []), (13, 1, []), (17, 2, [4, 11, 12, 13]), (18, 1, []), (19, 1, []), (20, 0, [])]))))))))))))) (by kernel_rfl) (by kernel_rfl) (by kernel_rfl) ?_) | ((with_reducible show Code.wp _ (Code.region 6 _ true) _ _ _); refine wp_region_tree (Tree.read 0 0 (Tree.read 1 0 (Tree.read 2 1 (Tree.read 6 0 (Tree.read 7 1 (Tree.read 8 1 (Tree.read 9 1 (Tree.read 14 0 (Tree.read 15 0 (Tree.read 16 1 (Tree.alt (Tree.eff 3 [7, 8, 9, 16] (Tree.read 4 1 (Tree.alt (Tree.eff 5 [2, 7, 8, 9, 16, 4] (Tree.line [(10, 2, [16, 4]), (11, 1, []), (12, 1, []), (13, 1, []), (17, 2, [4, 11, 12, 13]), (18, 1, []), (19, 1, []), (20, 0, [])])) (Tree.eff 10 [16, 4] (Tree.alt (Tree.eff 5 [2, 7, 8, 9, 16, 4] (Tree.line [(11, 1, []), (12, 1, []), (13, 1, []), (17, 2, [4, 11, 12, 13]), (18, 1, []), (19, 1, []), (20, 0, [])])) (Tree.eff 17 [4] (Tree.line [(5, 2, [2, 7, 8, 9, 16, 4]), (11, 1, []), (12, 1, []), (13, 1, []), (18, 1, []), (19, 1, []), (20, 0, [])]))))))) (Tree.eff 5 [2, 7, 8, 9, 16] (Tree.line [(3, 2, [7, 8, 9, 16]), (4, 1, []), (10, 2, [16, 4]), (11, 1, []), (12, 1, []), (13, 1, []), (17, 2, [4, 11, 12, 13]), (18, 1, []), (19, 1, []), (20, 0, [])]))))))))))))) (by kernel_rfl) (by kernel_rfl) (by kernel_rfl) ?_))
    · refine (IH _ _ _ _ _ _ _ _ _ _ _ _ _ _ HW1.out.drew hn (by omega) (by omega) (by omega) (by omega) (by omega)).mono ?_
      rintro e w2 ⟨s2, f2, rfl, hs2, hW2, hf2, hO2⟩
      have HW2 := Lib.hid hW2
      have HO2 := Lib.hid (HO1.out.drew.trans (hO2))
      have hc2 := hW2.c0
      have hl2 := hW2.lt
      clear hW2 hO2
      go_wp2_with (first | ((with_reducible show wpTree _ _ _ _ _ (Act.put _ _ _) _); simp only [List.getElem_toArray, List.getElem_cons_succ, List.getElem_cons_zero, Act.put, List.setIfInBounds_toArray, List.set_cons_zero, List.set_cons_succ]) | ((with_reducible show wpTree _ _ _ _ _ _ _); first | refine wpTree_line ?_ | refine wpTree_alt ?_ ?_ | (refine wpTree_read0 rfl ?hw rfl (fun _ _ _ => ?_); case hw => ((conv => (lhs; whnf)); first | done | with_reducible rfl)) | (refine wpTree_read1 rfl ?hw rfl (fun _ _ _ => ?_); case hw => ((conv => (lhs; whnf)); first | done | with_reducible rfl)) | (refine wpTree_eff rfl ?hw (fun _ _ => ?_); case hw => ((conv => (lhs; whnf)); first | done | with_reducible rfl)) | (refine wpTree_skip0 rfl ?hw ?_; case hw => ((conv => (lhs; whnf)); first | done | with_reducible rfl)) | (refine wpTree_skip1 rfl ?hw ?_; case hw => ((conv => (lhs; whnf)); first | done | with_reducible rfl)) | (refine wpTree_skip2 rfl ?hw ?_; case hw => ((conv => (lhs; whnf)); first | done | with_reducible rfl))) | ((with_reducible show OwedT _ _ _ _ _ _ _ _ _); first | refine OwedT.none_ ?_ | refine OwedT.nil_ ?_ | refine OwedT.miss rfl ?_ | refine OwedT.hit ?_ ?_) | ((with_reducible show wpPlan _ _ _ _ _ (Act.put _ _ _) _); simp only [List.getElem_toArray, List.getElem_cons_succ, List.getElem_cons_zero, Act.put, List.setIfInBounds_toArray, List.set_cons_zero, List.set_cons_succ]) | ((with_reducible show wpPlan _ _ _ _ _ _ _); first | refine wpPlan_nil ?_ | (refine wpPlan_read0 rfl ?hw rfl (fun _ _ _ => ?_); case hw => ((conv => (lhs; whnf)); first | done | with_reducible rfl)) | (refine wpPlan_read1d rfl ?hw rfl rfl (fun _ _ _ => ?_); case hw => ((conv => (lhs; whnf)); first | done | with_reducible rfl)) | (refine wpPlan_eff rfl ?hw (fun _ _ => ?_); case hw => ((conv => (lhs; whnf)); first | done | with_reducible rfl)) | (refine wpPlan_skip0 rfl ?hw ?_; case hw => ((conv => (lhs; whnf)); first | done | with_reducible rfl)) | (refine wpPlan_skip1d rfl ?hw ?_; case hw => ((conv => (lhs; whnf)); first | done | with_reducible rfl)) | (refine wpPlan_skip2 rfl ?hw ?_; case hw => ((conv => (lhs; whnf)); first | done | with_reducible rfl)) | (refine wpPlan_read1 rfl ?hw rfl (fun _ _ _ => ?_); case hw => ((conv => (lhs; whnf)); first | done | with_reducible rfl)) | refine wpPlan_fork ?_ ?_) | ((with_reducible show Owed _ _ _ _ _ _ _ _ _); first | refine Owed.none_ ?_ | refine Owed.nil_ ?_ | refine Owed.miss rfl ?_ | refine Owed.hit ?_ ?_) | ((with_reducible show Same _ _ _ _ _); intro _; go_simp; done) | (with_reducible exact True.intro))
      · have HN3 := Lib.hid (Blk.newAt (w := w2) (t := 9) (cs := (cellsOf scell [⟨#[32, 43, 32]⟩, ⟨#[32, 45, 32]⟩, ⟨#[32, 42, 32]⟩]).toArray) (g := w2.heap.size) rfl)
        have HW3 := Lib.hid (HW2.out.lit (.cells (cellsOf scell [⟨#[32, 43, 32]⟩, ⟨#[32, 45, 32]⟩, ⟨#[32, 42, 32]⟩]).toArray 9))
        have HO3 := Lib.hid (HO2.out.alloc (.cells (cellsOf scell [⟨#[32, 43, 32]⟩, ⟨#[32, 45, 32]⟩, ⟨#[32, 42, 32]⟩]).toArray 9))
        have hc3 := HW3.out.c0
        have hl3 := HW3.out.lt
        refine (wnext_any _ _ _ _ _ _ _ _ _ _ _ _ HW3.out 3 (by omega) (by omega) hn).mono ?_
        rintro e w4 ⟨⟨r4, rfl, hr4⟩, hW4, hO4⟩
        have HW4 := Lib.hid hW4
        have HO4 := Lib.hid (HO3.out.trans (hO4.mono (fun j _ h => h.1)))
        have hc4 := hW4.c0
        have hl4 := hW4.lt
        have HN4 := Lib.hid (HN3.out.out hO4 (fun h => h.2 rfl))
        clear hW4 hO4
        obtain ⟨x5, hx5, hxs5⟩ := pick_at HN4.out r4 (by simp; omega) 3 (by decide)
        have hlx5 := HN4.out.lt
        go_wp2_with (first | ((with_reducible show wpPlan _ _ _ _ _ (Act.put _ _ _) _); simp only [List.getElem_toArray, List.getElem_cons_succ, List.getElem_cons_zero, Act.put, List.setIfInBounds_toArray, List.set_cons_zero, List.set_cons_succ]) | ((with_reducible show wpPlan _ _ _ _ _ _ _); first | refine wpPlan_nil ?_ | (refine wpPlan_read0 rfl ?hw rfl (fun _ _ _ => ?_); case hw => ((conv => (lhs; whnf)); first | done | with_reducible rfl)) | (refine wpPlan_read1d rfl ?hw rfl rfl (fun _ _ _ => ?_); case hw => ((conv => (lhs; whnf)); first | done | with_reducible rfl)) | (refine wpPlan_eff rfl ?hw (fun _ _ => ?_); case hw => ((conv => (lhs; whnf)); first | done | with_reducible rfl)) | (refine wpPlan_skip0 rfl ?hw ?_; case hw => ((conv => (lhs; whnf)); first | done | with_reducible rfl)) | (refine wpPlan_skip1d rfl ?hw ?_; case hw => ((conv => (lhs; whnf)); first | done | with_reducible rfl)) | (refine wpPlan_skip2 rfl ?hw ?_; case hw => ((conv => (lhs; whnf)); first | done | with_reducible rfl)) | (refine wpPlan_read1 rfl ?hw rfl (fun _ _ _ => ?_); case hw => ((conv => (lhs; whnf)); first | done | with_reducible rfl)) | refine wpPlan_fork ?_ ?_) | ((with_reducible show Owed _ _ _ _ _ _ _ _ _); first | refine Owed.none_ ?_ | refine Owed.nil_ ?_ | refine Owed.miss rfl ?_ | refine Owed.hit ?_ ?_) | ((with_reducible show Same _ _ _ _ _); intro _; go_simp; done) | (with_reducible exact True.intro))
        refine (IH _ _ _ _ _ _ _ _ _ _ _ _ _ _ HW4.out hn (by omega) (by omega) (by omega) (by omega) (by omega)).mono ?_
        rintro e w6 ⟨s6, f6, rfl, hs6, hW6, hf6, hO6⟩
        have HW6 := Lib.hid hW6
        have HO6 := Lib.hid (HO4.out.trans (hO6.mono (fun j _ h => h.1)))
        have hc6 := hW6.c0
        have hl6 := hW6.lt
        have HN6 := Lib.hid (HN4.out.out hO6 (fun h => h.2 rfl))
        have hx6 := hO6.cell hx5 (fun h => h.2 rfl)
        clear hW6 hO6
        go_wp2_with (first | ((with_reducible show wpPlan _ _ _ _ _ (Act.put _ _ _) _); simp only [List.getElem_toArray, List.getElem_cons_succ, List.getElem_cons_zero, Act.put, List.setIfInBounds_toArray, List.set_cons_zero, List.set_cons_succ]) | ((with_reducible show wpPlan _ _ _ _ _ _ _); first | refine wpPlan_nil ?_ | (refine wpPlan_read0 rfl ?hw rfl (fun _ _ _ => ?_); case hw => ((conv => (lhs; whnf)); first | done | with_reducible rfl)) | (refine wpPlan_read1d rfl ?hw rfl rfl (fun _ _ _ => ?_); case hw => ((conv => (lhs; whnf)); first | done | with_reducible rfl)) | (refine wpPlan_eff rfl ?hw (fun _ _ => ?_); case hw => ((conv => (lhs; whnf)); first | done | with_reducible rfl)) | (refine wpPlan_skip0 rfl ?hw ?_; case hw => ((conv => (lhs; whnf)); first | done | with_reducible rfl)) | (refine wpPlan_skip1d rfl ?hw ?_; case hw => ((conv => (lhs; whnf)); first | done | with_reducible rfl)) | (refine wpPlan_skip2 rfl ?hw ?_; case hw => ((conv => (lhs; whnf)); first | done | with_reducible rfl)) | (refine wpPlan_read1 rfl ?hw rfl (fun _ _ _ => ?_); case hw => ((conv => (lhs; whnf)); first | done | with_reducible rfl)) | refine wpPlan_fork ?_ ?_) | ((with_reducible show Owed _ _ _ _ _ _ _ _ _); first | refine Owed.none_ ?_ | refine Owed.nil_ ?_ | refine Owed.miss rfl ?_ | refine Owed.hit ?_ ?_) | ((with_reducible show Same _ _ _ _ _); intro _; go_simp; done) | (with_reducible exact True.intro))
        go_ret
        exact ⟨_, _, rfl, (by simp [ByteArray.size_append, lit_size]; omega), HW6.out.weak (fun j h => h.1) HH.out.lo, by omega, HO6.out⟩
      · refine (wnext_any _ _ _ _ _ _ _ _ _ _ _ _ HW2.out 3 (by omega) (by omega) hn).mono ?_
        rintro e w7 ⟨⟨r7, rfl, hr7⟩, hW7, hO7⟩
        have HW7 := Lib.hid hW7
        have HO7 := Lib.hid (HO2.out.trans (hO7))
        have hc7 := hW7.c0
        have hl7 := hW7.lt
        clear hW7 hO7
        obtain ⟨x8, hx8, hxs8⟩ := pick_at (Blk.newAt (w := w7) (t := 9) (cs := (cellsOf scell [⟨#[32, 43, 32]⟩, ⟨#[32, 45, 32]⟩, ⟨#[32, 42, 32]⟩]).toArray) (g := w7.heap.size) rfl) r7 (by simp; omega) 3 (by decide)
        have hy8 : (w7.alloc (.cells #[.string ⟨#[32, 43, 32]⟩, .string ⟨#[32, 45, 32]⟩, .string ⟨#[32, 42, 32]⟩] 9)).cell? ⟨w7.heap.size, r7, none⟩ = some (.string x8) := hx8
        clear hx8
        go_wp2_with (first | ((with_reducible show wpTree _ _ _ _ _ (Act.put _ _ _) _); simp only [List.getElem_toArray, List.getElem_cons_succ, List.getElem_cons_zero, Act.put, List.setIfInBounds_toArray, List.set_cons_zero, List.set_cons_succ]) | ((with_reducible show wpTree _ _ _ _ _ _ _); first | refine wpTree_line ?_ | refine wpTree_alt ?_ ?_ | (refine wpTree_read0 rfl ?hw rfl (fun _ _ _ => ?_); case hw => ((conv => (lhs; whnf)); first | done | with_reducible rfl)) | (refine wpTree_read1 rfl ?hw rfl (fun _ _ _ => ?_); case hw => ((conv => (lhs; whnf)); first | done | with_reducible rfl)) | (refine wpTree_eff rfl ?hw (fun _ _ => ?_); case hw => ((conv => (lhs; whnf)); first | done | with_reducible rfl)) | (refine wpTree_skip0 rfl ?hw ?_; case hw => ((conv => (lhs; whnf)); first | done | with_reducible rfl)) | (refine wpTree_skip1 rfl ?hw ?_; case hw => ((conv => (lhs; whnf)); first | done | with_reducible rfl)) | (refine wpTree_skip2 rfl ?hw ?_; case hw => ((conv => (lhs; whnf)); first | done | with_reducible rfl))) | ((with_reducible show OwedT _ _ _ _ _ _ _ _ _); first | refine OwedT.none_ ?_ | refine OwedT.nil_ ?_ | refine OwedT.miss rfl ?_ | refine OwedT.hit ?_ ?_) | ((with_reducible show wpPlan _ _ _ _ _ (Act.put _ _ _) _); simp only [List.getElem_toArray, List.getElem_cons_succ, List.getElem_cons_zero, Act.put, List.setIfInBounds_toArray, List.set_cons_zero, List.set_cons_succ]) | ((with_reducible show wpPlan _ _ _ _ _ _ _); first | refine wpPlan_nil ?_ | (refine wpPlan_read0 rfl ?hw rfl (fun _ _ _ => ?_); case hw => ((conv => (lhs; whnf)); first | done | with_reducible rfl)) | (refine wpPlan_read1d rfl ?hw rfl rfl (fun _ _ _ => ?_); case hw => ((conv => (lhs; whnf)); first | done | with_reducible rfl)) | (refine wpPlan_eff rfl ?hw (fun _ _ => ?_); case hw => ((conv => (lhs; whnf)); first | done | with_reducible rfl)) | (refine wpPlan_skip0 rfl ?hw ?_; case hw => ((conv => (lhs; whnf)); first | done | with_reducible rfl)) | (refine wpPlan_skip1d rfl ?hw ?_; case hw => ((conv => (lhs; whnf)); first | done | with_reducible rfl)) | (refine wpPlan_skip2 rfl ?hw ?_; case hw => ((conv => (lhs; whnf)); first | done | with_reducible rfl)) | (refine wpPlan_read1 rfl ?hw rfl (fun _ _ _ => ?_); case hw => ((conv => (lhs; whnf)); first | done | with_reducible rfl)) | refine wpPlan_fork ?_ ?_) | ((with_reducible show Owed _ _ _ _ _ _ _ _ _); first | refine Owed.none_ ?_ | refine Owed.nil_ ?_ | refine Owed.miss rfl ?_ | refine Owed.hit ?_ ?_) | ((with_reducible show Same _ _ _ _ _); intro _; go_simp; done) | (with_reducible exact True.intro))
        · have HN9 := Lib.hid (Blk.newAt (w := w7) (t := 9) (cs := (cellsOf scell [⟨#[32, 43, 32]⟩, ⟨#[32, 45, 32]⟩, ⟨#[32, 42, 32]⟩]).toArray) (g := w7.heap.size) rfl)
          have HW9 := Lib.hid (HW7.out.lit (.cells (cellsOf scell [⟨#[32, 43, 32]⟩, ⟨#[32, 45, 32]⟩, ⟨#[32, 42, 32]⟩]).toArray 9))
          have HO9 := Lib.hid (HO7.out.alloc (.cells (cellsOf scell [⟨#[32, 43, 32]⟩, ⟨#[32, 45, 32]⟩, ⟨#[32, 42, 32]⟩]).toArray 9))
          have hc9 := HW9.out.c0
          have hl9 := HW9.out.lt
          refine (IH _ _ _ _ _ _ _ _ _ _ _ _ _ _ HW9.out hn (by omega) (by omega) (by omega) (by omega) (by omega)).mono ?_
          rintro e w10 ⟨s10, f10, rfl, hs10, hW10, hf10, hO10⟩
          have HW10 := Lib.hid hW10
          have HO10 := Lib.hid (HO9.out.trans (hO10.mono (fun j _ h => h.1)))
          have hc10 := hW10.c0
          have hl10 := hW10.lt
          have HN10 := Lib.hid (HN9.out.out hO10 (fun h => h.2 rfl))
          have hx10 := hO10.cell hy8 (fun h => h.2 rfl)
          clear hW10 hO10
          go_wp2_with (first | ((with_reducible show wpPlan _ _ _ _ _ (Act.put _ _ _) _); simp only [List.getElem_toArray, List.getElem_cons_succ, List.getElem_cons_zero, Act.put, List.setIfInBounds_toArray, List.set_cons_zero, List.set_cons_succ]) | ((with_reducible show wpPlan _ _ _ _ _ _ _); first | refine wpPlan_nil ?_ | (refine wpPlan_read0 rfl ?hw rfl (fun _ _ _ => ?_); case hw => ((conv => (lhs; whnf)); first | done | with_reducible rfl)) | (refine wpPlan_read1d rfl ?hw rfl rfl (fun _ _ _ => ?_); case hw => ((conv => (lhs; whnf)); first | done | with_reducible rfl)) | (refine wpPlan_eff rfl ?hw (fun _ _ => ?_); case hw => ((conv => (lhs; whnf)); first | done | with_reducible rfl)) | (refine wpPlan_skip0 rfl ?hw ?_; case hw => ((conv => (lhs; whnf)); first | done | with_reducible rfl)) | (refine wpPlan_skip1d rfl ?hw ?_; case hw => ((conv => (lhs; whnf)); first | done | with_reducible rfl)) | (refine wpPlan_skip2 rfl ?hw ?_; case hw => ((conv => (lhs; whnf)); first | done | with_reducible rfl)) | (refine wpPlan_read1 rfl ?hw rfl (fun _ _ _ => ?_); case hw => ((conv => (lhs; whnf)); first | done | with_reducible rfl)) | refine wpPlan_fork ?_ ?_) | ((with_reducible show Owed _ _ _ _ _ _ _ _ _); first | refine Owed.none_ ?_ | refine Owed.nil_ ?_ | refine Owed.miss rfl ?_ | refine Owed.hit ?_ ?_) | ((with_reducible show Same _ _ _ _ _); intro _; go_simp; done) | (with_reducible exact True.intro))
          go_ret
          exact ⟨_, _, rfl, (by simp [ByteArray.size_append, lit_size]; omega), HW10.out.weak (fun j h => h.1) HH.out.lo, by omega, HO10.out⟩
        · refine (IH _ _ _ _ _ _ _ _ _ _ _ _ _ _ HW7.out hn (by omega) (by omega) (by omega) (by omega) (by omega)).mono ?_
          rintro e w11 ⟨s11, f11, rfl, hs11, hW11, hf11, hO11⟩
          have HW11 := Lib.hid hW11
          have HO11 := Lib.hid (HO7.out.trans (hO11))
          have hc11 := hW11.c0
          have hl11 := hW11.lt
          clear hW11 hO11
          obtain ⟨x12, hx12, hxs12⟩ := pick_at (Blk.newAt (w := w11) (t := 9) (cs := (cellsOf scell [⟨#[32, 43, 32]⟩, ⟨#[32, 45, 32]⟩, ⟨#[32, 42, 32]⟩]).toArray) (g := w11.heap.size) rfl) r7 (by simp; omega) 3 (by decide)
          have hy12 : (w11.alloc (.cells #[.string ⟨#[32, 43, 32]⟩, .string ⟨#[32, 45, 32]⟩, .string ⟨#[32, 42, 32]⟩] 9)).cell? ⟨w11.heap.size, r7, none⟩ = some (.string x12) := hx12
          clear hx12
          go_wp2_with (first | ((with_reducible show wpTree _ _ _ _ _ (Act.put _ _ _) _); simp only [List.getElem_toArray, List.getElem_cons_succ, List.getElem_cons_zero, Act.put, List.setIfInBounds_toArray, List.set_cons_zero, List.set_cons_succ]) | ((with_reducible show wpTree _ _ _ _ _ _ _); first | refine wpTree_line ?_ | refine wpTree_alt ?_ ?_ | (refine wpTree_read0 rfl ?hw rfl (fun _ _ _ => ?_); case hw => ((conv => (lhs; whnf)); first | done | with_reducible rfl)) | (refine wpTree_read1 rfl ?hw rfl (fun _ _ _ => ?_); case hw => ((conv => (lhs; whnf)); first | done | with_reducible rfl)) | (refine wpTree_eff rfl ?hw (fun _ _ => ?_); case hw => ((conv => (lhs; whnf)); first | done | with_reducible rfl)) | (refine wpTree_skip0 rfl ?hw ?_; case hw => ((conv => (lhs; whnf)); first | done | with_reducible rfl)) | (refine wpTree_skip1 rfl ?hw ?_; case hw => ((conv => (lhs; whnf)); first | done | with_reducible rfl)) | (refine wpTree_skip2 rfl ?hw ?_; case hw => ((conv => (lhs; whnf)); first | done | with_reducible rfl))) | ((with_reducible show OwedT _ _ _ _ _ _ _ _ _); first | refine OwedT.none_ ?_ | refine OwedT.nil_ ?_ | refine OwedT.miss rfl ?_ | refine OwedT.hit ?_ ?_) | ((with_reducible show wpPlan _ _ _ _ _ (Act.put _ _ _) _); simp only [List.getElem_toArray, List.getElem_cons_succ, List.getElem_cons_zero, Act.put, List.setIfInBounds_toArray, List.set_cons_zero, List.set_cons_succ]) | ((with_reducible show wpPlan _ _ _ _ _ _ _); first | refine wpPlan_nil ?_ | (refine wpPlan_read0 rfl ?hw rfl (fun _ _ _ => ?_); case hw => ((conv => (lhs; whnf)); first | done | with_reducible rfl)) | (refine wpPlan_read1d rfl ?hw rfl rfl (fun _ _ _ => ?_); case hw => ((conv => (lhs; whnf)); first | done | with_reducible rfl)) | (refine wpPlan_eff rfl ?hw (fun _ _ => ?_); case hw => ((conv => (lhs; whnf)); first | done | with_reducible rfl)) | (refine wpPlan_skip0 rfl ?hw ?_; case hw => ((conv => (lhs; whnf)); first | done | with_reducible rfl)) | (refine wpPlan_skip1d rfl ?hw ?_; case hw => ((conv => (lhs; whnf)); first | done | with_reducible rfl)) | (refine wpPlan_skip2 rfl ?hw ?_; case hw => ((conv => (lhs; whnf)); first | done | with_reducible rfl)) | (refine wpPlan_read1 rfl ?hw rfl (fun _ _ _ => ?_); case hw => ((conv => (lhs; whnf)); first | done | with_reducible rfl)) | refine wpPlan_fork ?_ ?_) | ((with_reducible show Owed _ _ _ _ _ _ _ _ _); first | refine Owed.none_ ?_ | refine Owed.nil_ ?_ | refine Owed.miss rfl ?_ | refine Owed.hit ?_ ?_) | ((with_reducible show Same _ _ _ _ _); intro _; go_simp; done) | (with_reducible exact True.intro))
          go_ret
          exact ⟨_, _, rfl, (by simp [ByteArray.size_append, lit_size]; omega), HW11.out.alloc _, by omega, HO11.out.alloc _⟩
    · have HN13 := Lib.hid (Blk.newAt (w := w1) (t := 9) (cs := (cellsOf scell [⟨#[32, 43, 32]⟩, ⟨#[32, 45, 32]⟩, ⟨#[32, 42, 32]⟩]).toArray) (g := w1.heap.size) rfl)
      have HW13 := Lib.hid (HW1.out.lit (.cells (cellsOf scell [⟨#[32, 43, 32]⟩, ⟨#[32, 45, 32]⟩, ⟨#[32, 42, 32]⟩]).toArray 9))
      have HO13 := Lib.hid (HO1.out.alloc (.cells (cellsOf scell [⟨#[32, 43, 32]⟩, ⟨#[32, 45, 32]⟩, ⟨#[32, 42, 32]⟩]).toArray 9))
      have hc13 := HW13.out.c0
      have hl13 := HW13.out.lt
      refine (IH _ _ _ _ _ _ _ _ _ _ _ _ _ _ HW13.out.drew hn (by omega) (by omega) (by omega) (by omega) (by omega)).mono ?_
      rintro e w14 ⟨s14, f14, rfl, hs14, hW14, hf14, hO14⟩
      have HW14 := Lib.hid hW14
      have HO14 := Lib.hid (HO13.out.drew.trans (hO14.mono (fun j _ h => h.1)))
      have hc14 := hW14.c0
      have hl14 := hW14.lt
      have HN14 := Lib.hid (HN13.out.drew.out hO14 (fun h => h.2 rfl))
      clear hW14 hO14
      go_wp2_with (first | ((with_reducible show wpPlan _ _ _ _ _ (Act.put _ _ _) _); simp only [List.getElem_toArray, List.getElem_cons_succ, List.getElem_cons_zero, Act.put, List.setIfInBounds_toArray, List.set_cons_zero, List.set_cons_succ]) | ((with_reducible show wpPlan _ _ _ _ _ _ _); first | refine wpPlan_nil ?_ | (refine wpPlan_read0 rfl ?hw rfl (fun _ _ _ => ?_); case hw => ((conv => (lhs; whnf)); first | done | with_reducible rfl)) | (refine wpPlan_read1d rfl ?hw rfl rfl (fun _ _ _ => ?_); case hw => ((conv => (lhs; whnf)); first | done | with_reducible rfl)) | (refine wpPlan_eff rfl ?hw (fun _ _ => ?_); case hw => ((conv => (lhs; whnf)); first | done | with_reducible rfl)) | (refine wpPlan_skip0 rfl ?hw ?_; case hw => ((conv => (lhs; whnf)); first | done | with_reducible rfl)) | (refine wpPlan_skip1d rfl ?hw ?_; case hw => ((conv => (lhs; whnf)); first | done | with_reducible rfl)) | (refine wpPlan_skip2 rfl ?hw ?_; case hw => ((conv => (lhs; whnf)); first | done | with_reducible rfl)) | (refine wpPlan_read1 rfl ?hw rfl (fun _ _ _ => ?_); case hw => ((conv => (lhs; whnf)); first | done | with_reducible rfl)) | refine wpPlan_fork ?_ ?_) | ((with_reducible show Owed _ _ _ _ _ _ _ _ _); first | refine Owed.none_ ?_ | refine Owed.nil_ ?_ | refine Owed.miss rfl ?_ | refine Owed.hit ?_ ?_) | ((with_reducible show Same _ _ _ _ _); intro _; go_simp; done) | (with_reducible exact True.intro))
      refine (wnext_any _ _ _ _ _ _ _ _ _ _ _ _ HW14.out 3 (by omega) (by omega) hn).mono ?_
      rintro e w15 ⟨⟨r15, rfl, hr15⟩, hW15, hO15⟩
      have HW15 := Lib.hid hW15
      have HO15 := Lib.hid (HO14.out.trans (hO15.mono (fun j _ h => h.1)))
      have hc15 := hW15.c0
      have hl15 := hW15.lt
      have HN15 := Lib.hid (HN14.out.out hO15 (fun h => h.2 rfl))
      clear hW15 hO15
      obtain ⟨x16, hx16, hxs16⟩ := pick_at HN15.out r15 (by simp; omega) 3 (by decide)
      have hlx16 := HN15.out.lt
      go_wp2_with (first | ((with_reducible show wpPlan _ _ _ _ _ (Act.put _ _ _) _); simp only [List.getElem_toArray, List.getElem_cons_succ, List.getElem_cons_zero, Act.put, List.setIfInBounds_toArray, List.set_cons_zero, List.set_cons_succ]) | ((with_reducible show wpPlan _ _ _ _ _ _ _); first | refine wpPlan_nil ?_ | (refine wpPlan_read0 rfl ?hw rfl (fun _ _ _ => ?_); case hw => ((conv => (lhs; whnf)); first | done | with_reducible rfl)) | (refine wpPlan_read1d rfl ?hw rfl rfl (fun _ _ _ => ?_); case hw => ((conv => (lhs; whnf)); first | done | with_reducible rfl)) | (refine wpPlan_eff rfl ?hw (fun _ _ => ?_); case hw => ((conv => (lhs; whnf)); first | done | with_reducible rfl)) | (refine wpPlan_skip0 rfl ?hw ?_; case hw => ((conv => (lhs; whnf)); first | done | with_reducible rfl)) | (refine wpPlan_skip1d rfl ?hw ?_; case hw => ((conv => (lhs; whnf)); first | done | with_reducible rfl)) | (refine wpPlan_skip2 rfl ?hw ?_; case hw => ((conv => (lhs; whnf)); first | done | with_reducible rfl)) | (refine wpPlan_read1 rfl ?hw rfl (fun _ _ _ => ?_); case hw => ((conv => (lhs; whnf)); first | done | with_reducible rfl)) | refine wpPlan_fork ?_ ?_) | ((with_reducible show Owed _ _ _ _ _ _ _ _ _); first | refine Owed.none_ ?_ | refine Owed.nil_ ?_ | refine Owed.miss rfl ?_ | refine Owed.hit ?_ ?_) | ((with_reducible show Same _ _ _ _ _); intro _; go_simp; done) | (with_reducible exact True.intro))
      refine (IH _ _ _ _ _ _ _ _ _ _ _ _ _ _ HW15.out hn (by omega) (by omega) (by omega) (by omega) (by omega)).mono ?_
      rintro e w17 ⟨s17, f17, rfl, hs17, hW17, hf17, hO17⟩
      have HW17 := Lib.hid hW17
      have HO17 := Lib.hid (HO15.out.trans (hO17.mono (fun j _ h => h.1)))
      have hc17 := hW17.c0
      have hl17 := hW17.lt
      have HN17 := Lib.hid (HN15.out.out hO17 (fun h => h.2 rfl))
      have hx17 := hO17.cell hx16 (fun h => h.2 rfl)
      clear hW17 hO17
      go_wp2_with (first | ((with_reducible show wpPlan _ _ _ _ _ (Act.put _ _ _) _); simp only [List.getElem_toArray, List.getElem_cons_succ, List.getElem_cons_zero, Act.put, List.setIfInBounds_toArray, List.set_cons_zero, List.set_cons_succ]) | ((with_reducible show wpPlan _ _ _ _ _ _ _); first | refine wpPlan_nil ?_ | (refine wpPlan_read0 rfl ?hw rfl (fun _ _ _ => ?_); case hw => ((conv => (lhs; whnf)); first | done | with_reducible rfl)) | (refine wpPlan_read1d rfl ?hw rfl rfl (fun _ _ _ => ?_); case hw => ((conv => (lhs; whnf)); first | done | with_reducible rfl)) | (refine wpPlan_eff rfl ?hw (fun _ _ => ?_); case hw => ((conv => (lhs; whnf)); first | done | with_reducible rfl)) | (refine wpPlan_skip0 rfl ?hw ?_; case hw => ((conv => (lhs; whnf)); first | done | with_reducible rfl)) | (refine wpPlan_skip1d rfl ?hw ?_; case hw => ((conv => (lhs; whnf)); first | done | with_reducible rfl)) | (refine wpPlan_skip2 rfl ?hw ?_; case hw => ((conv => (lhs; whnf)); first | done | with_reducible rfl)) | (refine wpPlan_read1 rfl ?hw rfl (fun _ _ _ => ?_); case hw => ((conv => (lhs; whnf)); first | done | with_reducible rfl)) | refine wpPlan_fork ?_ ?_) | ((with_reducible show Owed _ _ _ _ _ _ _ _ _); first | refine Owed.none_ ?_ | refine Owed.nil_ ?_ | refine Owed.miss rfl ?_ | refine Owed.hit ?_ ?_) | ((with_reducible show Same _ _ _ _ _); intro _; go_simp; done) | (with_reducible exact True.intro))
      go_ret
      exact ⟨_, _, rfl, (by simp [ByteArray.size_append, lit_size]; omega), HW17.out.weak (fun j h => h.1) HH.out.lo, by omega, HO17.out⟩
  · go_wp2_with (first | ((with_reducible show wpTree _ _ _ _ _ (Act.put _ _ _) _); simp only [List.getElem_toArray, List.getElem_cons_succ, List.getElem_cons_zero, Act.put, List.setIfInBounds_toArray, List.set_cons_zero, List.set_cons_succ]) | ((with_reducible show wpTree _ _ _ _ _ _ _); first | refine wpTree_line ?_ | refine wpTree_alt ?_ ?_ | (refine wpTree_read0 rfl ?hw rfl (fun _ _ _ => ?_); case hw => ((conv => (lhs; whnf)); first | done | with_reducible rfl)) | (refine wpTree_read1 rfl ?hw rfl (fun _ _ _ => ?_); case hw => ((conv => (lhs; whnf)); first | done | with_reducible rfl)) | (refine wpTree_eff rfl ?hw (fun _ _ => ?_); case hw => ((conv => (lhs; whnf)); first | done | with_reducible rfl)) | (refine wpTree_skip0 rfl ?hw ?_; case hw => ((conv => (lhs; whnf)); first | done | with_reducible rfl)) | (refine wpTree_skip1 rfl ?hw ?_; case hw => ((conv => (lhs; whnf)); first | done | with_reducible rfl)) | (refine wpTree_skip2 rfl ?hw ?_; case hw => ((conv => (lhs; whnf)); first | done | with_reducible rfl))) | ((with_reducible show OwedT _ _ _ _ _ _ _ _ _); first | refine OwedT.none_ ?_ | refine OwedT.nil_ ?_ | refine OwedT.miss rfl ?_ | refine OwedT.hit ?_ ?_) | ((with_reducible show wpPlan _ _ _ _ _ (Act.put _ _ _) _); simp only [List.getElem_toArray, List.getElem_cons_succ, List.getElem_cons_zero, Act.put, List.setIfInBounds_toArray, List.set_cons_zero, List.set_cons_succ]) | ((with_reducible show wpPlan _ _ _ _ _ _ _); first | refine wpPlan_nil ?_ | (refine wpPlan_read0 rfl ?hw rfl (fun _ _ _ => ?_); case hw => ((conv => (lhs; whnf)); first | done | with_reducible rfl)) | (refine wpPlan_read1d rfl ?hw rfl rfl (fun _ _ _ => ?_); case hw => ((conv => (lhs; whnf)); first | done | with_reducible rfl)) | (refine wpPlan_eff rfl ?hw (fun _ _ => ?_); case hw => ((conv => (lhs; whnf)); first | done | with_reducible rfl)) | (refine wpPlan_skip0 rfl ?hw ?_; case hw => ((conv => (lhs; whnf)); first | done | with_reducible rfl)) | (refine wpPlan_skip1d rfl ?hw ?_; case hw => ((conv => (lhs; whnf)); first | done | with_reducible rfl)) | (refine wpPlan_skip2 rfl ?hw ?_; case hw => ((conv => (lhs; whnf)); first | done | with_reducible rfl)) | (refine wpPlan_read1 rfl ?hw rfl (fun _ _ _ => ?_); case hw => ((conv => (lhs; whnf)); first | done | with_reducible rfl)) | refine wpPlan_fork ?_ ?_) | ((with_reducible show Owed _ _ _ _ _ _ _ _ _); first | refine Owed.none_ ?_ | refine Owed.nil_ ?_ | refine Owed.miss rfl ?_ | refine Owed.hit ?_ ?_) | ((with_reducible show Same _ _ _ _ _); intro _; go_simp; done) | (with_reducible exact True.intro) | ((with_reducible show Code.wp _ (Code.region 4 _ true) _ _ _); refine wp_region_tree (Tree.read 0 0 (Tree.read 1 0 (Tree.read 2 1 (Tree.read 6 0 (Tree.read 7 1 (Tree.read 8 1 (Tree.read 9 1 (Tree.read 14 0 (Tree.read 15 0 (Tree.read 16 1 (Tree.alt (Tree.eff 3 [7, 8, 9, 16] (Tree.read 4 1 (Tree.alt (Tree.eff 5 [2, 7, 8, 9, 16, 4] (Tree.line [(10, 2, [16, 4]), (11, 1, []), (12, 1, []), (13, 1, []), (17, 2, [4, 11, 12, 13]), (18, 1, []), (19, 1, []), (20, 0, [])])) (Tree.eff 10 [16, 4] (Tree.alt (Tree.eff 5 [2, 7, 8, 9, 16, 4] (Tree.line [(11, 1, []), (12, 1, []), (13, 1, []), (17, 2, [4, 11, 12, 13]), (18, 1, []), (19, 1, []), (20, 0, [])])) (Tree.eff 17 [4] (Tree.line [(5, 2, [2, 7, 8, 9, 16, 4]), (11, 1, []), (12, 1, []), (13, 1, []), (18, 1, []), (19, 1, []), (20, 0, [])]))))))) (Tree.eff 5 [2, 7, 8, 9, 16] (Tree.line [(3, 2, [7, 8, 9, 16]), (4, 1, []), (10, 2, [16, 4]), (11, 1, []), (12, 1, []), (13, 1, []), (17, 2, [4, 11, 12, 13]), (18, 1, []), (19, 1, []), (20, 0, [])]))))))))))))) (by kernel_rfl) (by kernel_rfl) (by kernel_rfl) ?_) | ((with_reducible show Code.wp _ (Code.region 6 _ true) _ _ _); refine wp_region_tree (Tree.read 0 0 (Tree.read 1 0 (Tree.read 2 1 (Tree.read 6 0 (Tree.read 7 1 (Tree.read 8 1 (Tree.read 9 1 (Tree.read 14 0 (Tree.read 15 0 (Tree.read 16 1 (Tree.alt (Tree.eff 3 [7, 8, 9, 16] (Tree.read 4 1 (Tree.alt (Tree.eff 5 [2, 7, 8, 9, 16, 4] (Tree.line [(10, 2, [16, 4]), (11, 1, []), (12, 1, []), (13, 1, []), (17, 2, [4, 11, 12, 13]), (18, 1, []), (19, 1, []), (20, 0, [])])) (Tree.eff 10 [16, 4] (Tree.alt (Tree.eff 5 [2, 7, 8, 9, 16, 4] (Tree.line [(11, 1, []), (12, 1, []), (13, 1, []), (17, 2, [4, 11, 12, 13]), (18, 1, []), (19, 1, []), (20, 0, [])])) (Tree.eff 17 [4] (Tree.line [(5, 2, [2, 7, 8, 9, 16, 4]), (11, 1, []), (12, 1, []), (13, 1, []), (18, 1, []), (19, 1, []), (20, 0, [])]))))))) (Tree.eff 5 [2, 7, 8, 9, 16] (Tree.line [(3, 2, [7, 8, 9, 16]), (4, 1, []), (10, 2, [16, 4]), (11, 1, []), (12, 1, []), (13, 1, []), (17, 2, [4, 11, 12, 13]), (18, 1, []), (19, 1, []), (20, 0, [])]))))))))))))) (by kernel_rfl) (by kernel_rfl) (by kernel_rfl) ?_))
    · refine (IH _ _ _ _ _ _ _ _ _ _ _ _ _ _ HW1.out.drew hn (by omega) (by omega) (by omega) (by omega) (by omega)).mono ?_
      rintro e w18 ⟨s18, f18, rfl, hs18, hW18, hf18, hO18⟩
      have HW18 := Lib.hid hW18
      have HO18 := Lib.hid (HO1.out.drew.trans (hO18))
      have hc18 := hW18.c0
      have hl18 := hW18.lt
      clear hW18 hO18
      go_wp2_with (first | ((with_reducible show wpTree _ _ _ _ _ (Act.put _ _ _) _); simp only [List.getElem_toArray, List.getElem_cons_succ, List.getElem_cons_zero, Act.put, List.setIfInBounds_toArray, List.set_cons_zero, List.set_cons_succ]) | ((with_reducible show wpTree _ _ _ _ _ _ _); first | refine wpTree_line ?_ | refine wpTree_alt ?_ ?_ | (refine wpTree_read0 rfl ?hw rfl (fun _ _ _ => ?_); case hw => ((conv => (lhs; whnf)); first | done | with_reducible rfl)) | (refine wpTree_read1 rfl ?hw rfl (fun _ _ _ => ?_); case hw => ((conv => (lhs; whnf)); first | done | with_reducible rfl)) | (refine wpTree_eff rfl ?hw (fun _ _ => ?_); case hw => ((conv => (lhs; whnf)); first | done | with_reducible rfl)) | (refine wpTree_skip0 rfl ?hw ?_; case hw => ((conv => (lhs; whnf)); first | done | with_reducible rfl)) | (refine wpTree_skip1 rfl ?hw ?_; case hw => ((conv => (lhs; whnf)); first | done | with_reducible rfl)) | (refine wpTree_skip2 rfl ?hw ?_; case hw => ((conv => (lhs; whnf)); first | done | with_reducible rfl))) | ((with_reducible show OwedT _ _ _ _ _ _ _ _ _); first | refine OwedT.none_ ?_ | refine OwedT.nil_ ?_ | refine OwedT.miss rfl ?_ | refine OwedT.hit ?_ ?_) | ((with_reducible show wpPlan _ _ _ _ _ (Act.put _ _ _) _); simp only [List.getElem_toArray, List.getElem_cons_succ, List.getElem_cons_zero, Act.put, List.setIfInBounds_toArray, List.set_cons_zero, List.set_cons_succ]) | ((with_reducible show wpPlan _ _ _ _ _ _ _); first | refine wpPlan_nil ?_ | (refine wpPlan_read0 rfl ?hw rfl (fun _ _ _ => ?_); case hw => ((conv => (lhs; whnf)); first | done | with_reducible rfl)) | (refine wpPlan_read1d rfl ?hw rfl rfl (fun _ _ _ => ?_); case hw => ((conv => (lhs; whnf)); first | done | with_reducible rfl)) | (refine wpPlan_eff rfl ?hw (fun _ _ => ?_); case hw => ((conv => (lhs; whnf)); first | done | with_reducible rfl)) | (refine wpPlan_skip0 rfl ?hw ?_; case hw => ((conv => (lhs; whnf)); first | done | with_reducible rfl)) | (refine wpPlan_skip1d rfl ?hw ?_; case hw => ((conv => (lhs; whnf)); first | done | with_reducible rfl)) | (refine wpPlan_skip2 rfl ?hw ?_; case hw => ((conv => (lhs; whnf)); first | done | with_reducible rfl)) | (refine wpPlan_read1 rfl ?hw rfl (fun _ _ _ => ?_); case hw => ((conv => (lhs; whnf)); first | done | with_reducible rfl)) | refine wpPlan_fork ?_ ?_) | ((with_reducible show Owed _ _ _ _ _ _ _ _ _); first | refine Owed.none_ ?_ | refine Owed.nil_ ?_ | refine Owed.miss rfl ?_ | refine Owed.hit ?_ ?_) | ((with_reducible show Same _ _ _ _ _); intro _; go_simp; done) | (with_reducible exact True.intro))
      · have HN19 := Lib.hid (Blk.newAt (w := w18) (t := 9) (cs := (cellsOf scell [⟨#[32, 43, 32]⟩, ⟨#[32, 45, 32]⟩, ⟨#[32, 42, 32]⟩]).toArray) (g := w18.heap.size) rfl)
        have HW19 := Lib.hid (HW18.out.lit (.cells (cellsOf scell [⟨#[32, 43, 32]⟩, ⟨#[32, 45, 32]⟩, ⟨#[32, 42, 32]⟩]).toArray 9))
        have HO19 := Lib.hid (HO18.out.alloc (.cells (cellsOf scell [⟨#[32, 43, 32]⟩, ⟨#[32, 45, 32]⟩, ⟨#[32, 42, 32]⟩]).toArray 9))
        have hc19 := HW19.out.c0
        have hl19 := HW19.out.lt
        refine (wnext_any _ _ _ _ _ _ _ _ _ _ _ _ HW19.out 3 (by omega) (by omega) hn).mono ?_
        rintro e w20 ⟨⟨r20, rfl, hr20⟩, hW20, hO20⟩
        have HW20 := Lib.hid hW20
        have HO20 := Lib.hid (HO19.out.trans (hO20.mono (fun j _ h => h.1)))
        have hc20 := hW20.c0
        have hl20 := hW20.lt
        have HN20 := Lib.hid (HN19.out.out hO20 (fun h => h.2 rfl))
        clear hW20 hO20
        obtain ⟨x21, hx21, hxs21⟩ := pick_at HN20.out r20 (by simp; omega) 3 (by decide)
        have hlx21 := HN20.out.lt
        go_wp2_with (first | ((with_reducible show wpPlan _ _ _ _ _ (Act.put _ _ _) _); simp only [List.getElem_toArray, List.getElem_cons_succ, List.getElem_cons_zero, Act.put, List.setIfInBounds_toArray, List.set_cons_zero, List.set_cons_succ]) | ((with_reducible show wpPlan _ _ _ _ _ _ _); first | refine wpPlan_nil ?_ | (refine wpPlan_read0 rfl ?hw rfl (fun _ _ _ => ?_); case hw => ((conv => (lhs; whnf)); first | done | with_reducible rfl)) | (refine wpPlan_read1d rfl ?hw rfl rfl (fun _ _ _ => ?_); case hw => ((conv => (lhs; whnf)); first | done | with_reducible rfl)) | (refine wpPlan_eff rfl ?hw (fun _ _ => ?_); case hw => ((conv => (lhs; whnf)); first | done | with_reducible rfl)) | (refine wpPlan_skip0 rfl ?hw ?_; case hw => ((conv => (lhs; whnf)); first | done | with_reducible rfl)) | (refine wpPlan_skip1d rfl ?hw ?_; case hw => ((conv => (lhs; whnf)); first | done | with_reducible rfl)) | (refine wpPlan_skip2 rfl ?hw ?_; case hw => ((conv => (lhs; whnf)); first | done | with_reducible rfl)) | (refine wpPlan_read1 rfl ?hw rfl (fun _ _ _ => ?_); case hw => ((conv => (lhs; whnf)); first | done | with_reducible rfl)) | refine wpPlan_fork ?_ ?_) | ((with_reducible show Owed _ _ _ _ _ _ _ _ _); first | refine Owed.none_ ?_ | refine Owed.nil_ ?_ | refine Owed.miss rfl ?_ | refine Owed.hit ?_ ?_) | ((with_reducible show Same _ _ _ _ _); intro _; go_simp; done) | (with_reducible exact True.intro))
        refine (IH _ _ _ _ _ _ _ _ _ _ _ _ _ _ HW20.out hn (by omega) (by omega) (by omega) (by omega) (by omega)).mono ?_
        rintro e w22 ⟨s22, f22, rfl, hs22, hW22, hf22, hO22⟩
        have HW22 := Lib.hid hW22
        have HO22 := Lib.hid (HO20.out.trans (hO22.mono (fun j _ h => h.1)))
        have hc22 := hW22.c0
        have hl22 := hW22.lt
        have HN22 := Lib.hid (HN20.out.out hO22 (fun h => h.2 rfl))
        have hx22 := hO22.cell hx21 (fun h => h.2 rfl)
        clear hW22 hO22
        go_wp2_with (first | ((with_reducible show wpPlan _ _ _ _ _ (Act.put _ _ _) _); simp only [List.getElem_toArray, List.getElem_cons_succ, List.getElem_cons_zero, Act.put, List.setIfInBounds_toArray, List.set_cons_zero, List.set_cons_succ]) | ((with_reducible show wpPlan _ _ _ _ _ _ _); first | refine wpPlan_nil ?_ | (refine wpPlan_read0 rfl ?hw rfl (fun _ _ _ => ?_); case hw => ((conv => (lhs; whnf)); first | done | with_reducible rfl)) | (refine wpPlan_read1d rfl ?hw rfl rfl (fun _ _ _ => ?_); case hw => ((conv => (lhs; whnf)); first | done | with_reducible rfl)) | (refine wpPlan_eff rfl ?hw (fun _ _ => ?_); case hw => ((conv => (lhs; whnf)); first | done | with_reducible rfl)) | (refine wpPlan_skip0 rfl ?hw ?_; case hw => ((conv => (lhs; whnf)); first | done | with_reducible rfl)) | (refine wpPlan_skip1d rfl ?hw ?_; case hw => ((conv => (lhs; whnf)); first | done | with_reducible rfl)) | (refine wpPlan_skip2 rfl ?hw ?_; case hw => ((conv => (lhs; whnf)); first | done | with_reducible rfl)) | (refine wpPlan_read1 rfl ?hw rfl (fun _ _ _ => ?_); case hw => ((conv => (lhs; whnf)); first | done | with_reducible rfl)) | refine wpPlan_fork ?_ ?_) | ((with_reducible show Owed _ _ _ _ _ _ _ _ _); first | refine Owed.none_ ?_ | refine Owed.nil_ ?_ | refine Owed.miss rfl ?_ | refine Owed.hit ?_ ?_) | ((with_reducible show Same _ _ _ _ _); intro _; go_simp; done) | (with_reducible exact True.intro))
        go_ret
        exact ⟨_, _, rfl, (by simp [ByteArray.size_append, lit_size]; omega), HW22.out.weak (fun j h => h.1) HH.out.lo, by omega, HO22.out⟩
      · refine (wnext_any _ _ _ _ _ _ _ _ _ _ _ _ HW18.out 3 (by omega) (by omega) hn).mono ?_
        rintro e w23 ⟨⟨r23, rfl, hr23⟩, hW23, hO23⟩
        have HW23 := Lib.hid hW23
        have HO23 := Lib.hid (HO18.out.trans (hO23))
        have hc23 := hW23.c0
        have hl23 := hW23.lt
        clear hW23 hO23
        obtain ⟨x24, hx24, hxs24⟩ := pick_at (Blk.newAt (w := w23) (t := 9) (cs := (cellsOf scell [⟨#[32, 43, 32]⟩, ⟨#[32, 45, 32]⟩, ⟨#[32, 42, 32]⟩]).toArray) (g := w23.heap.size) rfl) r23 (by simp; omega) 3 (by decide)
        have hy24 : (w23.alloc (.cells #[.string ⟨#[32, 43, 32]⟩, .string ⟨#[32, 45, 32]⟩, .string ⟨#[32, 42, 32]⟩] 9)).cell? ⟨w23.heap.size, r23, none⟩ = some (.string x24) := hx24
        clear hx24
        go_wp2_with (first | ((with_reducible show wpTree _ _ _ _ _ (Act.put _ _ _) _); simp only [List.getElem_toArray, List.getElem_cons_succ, List.getElem_cons_zero, Act.put, List.setIfInBounds_toArray, List.set_cons_zero, List.set_cons_succ]) | ((with_reducible show wpTree _ _ _ _ _ _ _); first | refine wpTree_line ?_ | refine wpTree_alt ?_ ?_ | (refine wpTree_read0 rfl ?hw rfl (fun _ _ _ => ?_); case hw => ((conv => (lhs; whnf)); first | done | with_reducible rfl)) | (refine wpTree_read1 rfl ?hw rfl (fun _ _ _ => ?_); case hw => ((conv => (lhs; whnf)); first | done | with_reducible rfl)) | (refine wpTree_eff rfl ?hw (fun _ _ => ?_); case hw => ((conv => (lhs; whnf)); first | done | with_reducible rfl)) | (refine wpTree_skip0 rfl ?hw ?_; case hw => ((conv => (lhs; whnf)); first | done | with_reducible rfl)) | (refine wpTree_skip1 rfl ?hw ?_; case hw => ((conv => (lhs; whnf)); first | done | with_reducible rfl)) | (refine wpTree_skip2 rfl ?hw ?_; case hw => ((conv => (lhs; whnf)); first | done | with_reducible rfl))) | ((with_reducible show OwedT _ _ _ _ _ _ _ _ _); first | refine OwedT.none_ ?_ | refine OwedT.nil_ ?_ | refine OwedT.miss rfl ?_ | refine OwedT.hit ?_ ?_) | ((with_reducible show wpPlan _ _ _ _ _ (Act.put _ _ _) _); simp only [List.getElem_toArray, List.getElem_cons_succ, List.getElem_cons_zero, Act.put, List.setIfInBounds_toArray, List.set_cons_zero, List.set_cons_succ]) | ((with_reducible show wpPlan _ _ _ _ _ _ _); first | refine wpPlan_nil ?_ | (refine wpPlan_read0 rfl ?hw rfl (fun _ _ _ => ?_); case hw => ((conv => (lhs; whnf)); first | done | with_reducible rfl)) | (refine wpPlan_read1d rfl ?hw rfl rfl (fun _ _ _ => ?_); case hw => ((conv => (lhs; whnf)); first | done | with_reducible rfl)) | (refine wpPlan_eff rfl ?hw (fun _ _ => ?_); case hw => ((conv => (lhs; whnf)); first | done | with_reducible rfl)) | (refine wpPlan_skip0 rfl ?hw ?_; case hw => ((conv => (lhs; whnf)); first | done | with_reducible rfl)) | (refine wpPlan_skip1d rfl ?hw ?_; case hw => ((conv => (lhs; whnf)); first | done | with_reducible rfl)) | (refine wpPlan_skip2 rfl ?hw ?_; case hw => ((conv => (lhs; whnf)); first | done | with_reducible rfl)) | (refine wpPlan_read1 rfl ?hw rfl (fun _ _ _ => ?_); case hw => ((conv => (lhs; whnf)); first | done | with_reducible rfl)) | refine wpPlan_fork ?_ ?_) | ((with_reducible show Owed _ _ _ _ _ _ _ _ _); first | refine Owed.none_ ?_ | refine Owed.nil_ ?_ | refine Owed.miss rfl ?_ | refine Owed.hit ?_ ?_) | ((with_reducible show Same _ _ _ _ _); intro _; go_simp; done) | (with_reducible exact True.intro))
        · have HN25 := Lib.hid (Blk.newAt (w := w23) (t := 9) (cs := (cellsOf scell [⟨#[32, 43, 32]⟩, ⟨#[32, 45, 32]⟩, ⟨#[32, 42, 32]⟩]).toArray) (g := w23.heap.size) rfl)
          have HW25 := Lib.hid (HW23.out.lit (.cells (cellsOf scell [⟨#[32, 43, 32]⟩, ⟨#[32, 45, 32]⟩, ⟨#[32, 42, 32]⟩]).toArray 9))
          have HO25 := Lib.hid (HO23.out.alloc (.cells (cellsOf scell [⟨#[32, 43, 32]⟩, ⟨#[32, 45, 32]⟩, ⟨#[32, 42, 32]⟩]).toArray 9))
          have hc25 := HW25.out.c0
          have hl25 := HW25.out.lt
          refine (IH _ _ _ _ _ _ _ _ _ _ _ _ _ _ HW25.out hn (by omega) (by omega) (by omega) (by omega) (by omega)).mono ?_
          rintro e w26 ⟨s26, f26, rfl, hs26, hW26, hf26, hO26⟩
          have HW26 := Lib.hid hW26
          have HO26 := Lib.hid (HO25.out.trans (hO26.mono (fun j _ h => h.1)))
          have hc26 := hW26.c0
          have hl26 := hW26.lt
          have HN26 := Lib.hid (HN25.out.out hO26 (fun h => h.2 rfl))
          have hx26 := hO26.cell hy24 (fun h => h.2 rfl)
          clear hW26 hO26
          go_wp2_with (first | ((with_reducible show wpPlan _ _ _ _ _ (Act.put _ _ _) _); simp only [List.getElem_toArray, List.getElem_cons_succ, List.getElem_cons_zero, Act.put, List.setIfInBounds_toArray, List.set_cons_zero, List.set_cons_succ]) | ((with_reducible show wpPlan _ _ _ _ _ _ _); first | refine wpPlan_nil ?_ | (refine wpPlan_read0 rfl ?hw rfl (fun _ _ _ => ?_); case hw => ((conv => (lhs; whnf)); first | done | with_reducible rfl)) | (refine wpPlan_read1d rfl ?hw rfl rfl (fun _ _ _ => ?_); case hw => ((conv => (lhs; whnf)); first | done | with_reducible rfl)) | (refine wpPlan_eff rfl ?hw (fun _ _ => ?_); case hw => ((conv => (lhs; whnf)); first | done | with_reducible rfl)) | (refine wpPlan_skip0 rfl ?hw ?_; case hw => ((conv => (lhs; whnf)); first | done | with_reducible rfl)) | (refine wpPlan_skip1d rfl ?hw ?_; case hw => ((conv => (lhs; whnf)); first | done | with_reducible rfl)) | (refine wpPlan_skip2 rfl ?hw ?_; case hw => ((conv => (lhs; whnf)); first | done | with_reducible rfl)) | (refine wpPlan_read1 rfl ?hw rfl (fun _ _ _ => ?_); case hw => ((conv => (lhs; whnf)); first | done | with_reducible rfl)) | refine wpPlan_fork ?_ ?_) | ((with_reducible show Owed _ _ _ _ _ _ _ _ _); first | refine Owed.none_ ?_ | refine Owed.nil_ ?_ | refine Owed.miss rfl ?_ | refine Owed.hit ?_ ?_) | ((with_reducible show Same _ _ _ _ _); intro _; go_simp; done) | (with_reducible exact True.intro))
          go_ret
          exact ⟨_, _, rfl, (by simp [ByteArray.size_append, lit_size]; omega), HW26.out.weak (fun j h => h.1) HH.out.lo, by omega, HO26.out⟩
        · refine (IH _ _ _ _ _ _ _ _ _ _ _ _ _ _ HW23.out hn (by omega) (by omega) (by omega) (by omega) (by omega)).mono ?_
          rintro e w27 ⟨s27, f27, rfl, hs27, hW27, hf27, hO27⟩
          have HW27 := Lib.hid hW27
          have HO27 := Lib.hid (HO23.out.trans (hO27))
          have hc27 := hW27.c0
          have hl27 := hW27.lt
          clear hW27 hO27
          obtain ⟨x28, hx28, hxs28⟩ := pick_at (Blk.newAt (w := w27) (t := 9) (cs := (cellsOf scell [⟨#[32, 43, 32]⟩, ⟨#[32, 45, 32]⟩, ⟨#[32, 42, 32]⟩]).toArray) (g := w27.heap.size) rfl) r23 (by simp; omega) 3 (by decide)
          have hy28 : (w27.alloc (.cells #[.string ⟨#[32, 43, 32]⟩, .string ⟨#[32, 45, 32]⟩, .string ⟨#[32, 42, 32]⟩] 9)).cell? ⟨w27.heap.size, r23, none⟩ = some (.string x28) := hx28
          clear hx28
          go_wp2_with (first | ((with_reducible show wpTree _ _ _ _ _ (Act.put _ _ _) _); simp only [List.getElem_toArray, List.getElem_cons_succ, List.getElem_cons_zero, Act.put, List.setIfInBounds_toArray, List.set_cons_zero, List.set_cons_succ]) | ((with_reducible show wpTree _ _ _ _ _ _ _); first | refine wpTree_line ?_ | refine wpTree_alt ?_ ?_ | (refine wpTree_read0 rfl ?hw rfl (fun _ _ _ => ?_); case hw => ((conv => (lhs; whnf)); first | done | with_reducible rfl)) | (refine wpTree_read1 rfl ?hw rfl (fun _ _ _ => ?_); case hw => ((conv => (lhs; whnf)); first | done | with_reducible rfl)) | (refine wpTree_eff rfl ?hw (fun _ _ => ?_); case hw => ((conv => (lhs; whnf)); first | done | with_reducible rfl)) | (refine wpTree_skip0 rfl ?hw ?_; case hw => ((conv => (lhs; whnf)); first | done | with_reducible rfl)) | (refine wpTree_skip1 rfl ?hw ?_; case hw => ((conv => (lhs; whnf)); first | done | with_reducible rfl)) | (refine wpTree_skip2 rfl ?hw ?_; case hw => ((conv => (lhs; whnf)); first | done | with_reducible rfl))) | ((with_reducible show OwedT _ _ _ _ _ _ _ _ _); first | refine OwedT.none_ ?_ | refine OwedT.nil_ ?_ | refine OwedT.miss rfl ?_ | refine OwedT.hit ?_ ?_) | ((with_reducible show wpPlan _ _ _ _ _ (Act.put _ _ _) _); simp only [List.getElem_toArray, List.getElem_cons_succ, List.getElem_cons_zero, Act.put, List.setIfInBounds_toArray, List.set_cons_zero, List.set_cons_succ]) | ((with_reducible show wpPlan _ _ _ _ _ _ _); first | refine wpPlan_nil ?_ | (refine wpPlan_read0 rfl ?hw rfl (fun _ _ _ => ?_); case hw => ((conv => (lhs; whnf)); first | done | with_reducible rfl)) | (refine wpPlan_read1d rfl ?hw rfl rfl (fun _ _ _ => ?_); case hw => ((conv => (lhs; whnf)); first | done | with_reducible rfl)) | (refine wpPlan_eff rfl ?hw (fun _ _ => ?_); case hw => ((conv => (lhs; whnf)); first | done | with_reducible rfl)) | (refine wpPlan_skip0 rfl ?hw ?_; case hw => ((conv => (lhs; whnf)); first | done | with_reducible rfl)) | (refine wpPlan_skip1d rfl ?hw ?_; case hw => ((conv => (lhs; whnf)); first | done | with_reducible rfl)) | (refine wpPlan_skip2 rfl ?hw ?_; case hw => ((conv => (lhs; whnf)); first | done | with_reducible rfl)) | (refine wpPlan_read1 rfl ?hw rfl (fun _ _ _ => ?_); case hw => ((conv => (lhs; whnf)); first | done | with_reducible rfl)) | refine wpPlan_fork ?_ ?_) | ((with_reducible show Owed _ _ _ _ _ _ _ _ _); first | refine Owed.none_ ?_ | refine Owed.nil_ ?_ | refine Owed.miss rfl ?_ | refine Owed.hit ?_ ?_) | ((with_reducible show Same _ _ _ _ _); intro _; go_simp; done) | (with_reducible exact True.intro))
          go_ret
          exact ⟨_, _, rfl, (by simp [ByteArray.size_append, lit_size]; omega), HW27.out.alloc _, by omega, HO27.out.alloc _⟩
    · have HN29 := Lib.hid (Blk.newAt (w := w1) (t := 9) (cs := (cellsOf scell [⟨#[32, 43, 32]⟩, ⟨#[32, 45, 32]⟩, ⟨#[32, 42, 32]⟩]).toArray) (g := w1.heap.size) rfl)
      have HW29 := Lib.hid (HW1.out.lit (.cells (cellsOf scell [⟨#[32, 43, 32]⟩, ⟨#[32, 45, 32]⟩, ⟨#[32, 42, 32]⟩]).toArray 9))
      have HO29 := Lib.hid (HO1.out.alloc (.cells (cellsOf scell [⟨#[32, 43, 32]⟩, ⟨#[32, 45, 32]⟩, ⟨#[32, 42, 32]⟩]).toArray 9))
      have hc29 := HW29.out.c0
      have hl29 := HW29.out.lt
      refine (IH _ _ _ _ _ _ _ _ _ _ _ _ _ _ HW29.out.drew hn (by omega) (by omega) (by omega) (by omega) (by omega)).mono ?_
      rintro e w30 ⟨s30, f30, rfl, hs30, hW30, hf30, hO30⟩
      have HW30 := Lib.hid hW30
      have HO30 := Lib.hid (HO29.out.drew.trans (hO30.mono (fun j _ h => h.1)))
      have hc30 := hW30.c0
      have hl30 := hW30.lt
      have HN30 := Lib.hid (HN29.out.drew.out hO30 (fun h => h.2 rfl))
      clear hW30 hO30
      go_wp2_with (first | ((with_reducible show wpPlan _ _ _ _ _ (Act.put _ _ _) _); simp only [List.getElem_toArray, List.getElem_cons_succ, List.getElem_cons_zero, Act.put, List.setIfInBounds_toArray, List.set_cons_zero, List.set_cons_succ]) | ((with_reducible show wpPlan _ _ _ _ _ _ _); first | refine wpPlan_nil ?_ | (refine wpPlan_read0 rfl ?hw rfl (fun _ _ _ => ?_); case hw => ((conv => (lhs; whnf)); first | done | with_reducible rfl)) | (refine wpPlan_read1d rfl ?hw rfl rfl (fun _ _ _ => ?_); case hw => ((conv => (lhs; whnf)); first | done | with_reducible rfl)) | (refine wpPlan_eff rfl ?hw (fun _ _ => ?_); case hw => ((conv => (lhs; whnf)); first | done | with_reducible rfl)) | (refine wpPlan_skip0 rfl ?hw ?_; case hw => ((conv => (lhs; whnf)); first | done | with_reducible rfl)) | (refine wpPlan_skip1d rfl ?hw ?_; case hw => ((conv => (lhs; whnf)); first | done | with_reducible rfl)) | (refine wpPlan_skip2 rfl ?hw ?_; case hw => ((conv => (lhs; whnf)); first | done | with_reducible rfl)) | (refine wpPlan_read1 rfl ?hw rfl (fun _ _ _ => ?_); case hw => ((conv => (lhs; whnf)); first | done | with_reducible rfl)) | refine wpPlan_fork ?_ ?_) | ((with_reducible show Owed _ _ _ _ _ _ _ _ _); first | refine Owed.none_ ?_ | refine Owed.nil_ ?_ | refine Owed.miss rfl ?_ | refine Owed.hit ?_ ?_) | ((with_reducible show Same _ _ _ _ _); intro _; go_simp; done) | (with_reducible exact True.intro))
      refine (wnext_any _ _ _ _ _ _ _ _ _ _ _ _ HW30.out 3 (by omega) (by omega) hn).mono ?_
      rintro e w31 ⟨⟨r31, rfl, hr31⟩, hW31, hO31⟩
      have HW31 := Lib.hid hW31
      have HO31 := Lib.hid (HO30.out.trans (hO31.mono (fun j _ h => h.1)))
      have hc31 := hW31.c0
      have hl31 := hW31.lt
      have HN31 := Lib.hid (HN30.out.out hO31 (fun h => h.2 rfl))
      clear hW31 hO31
      obtain ⟨x32, hx32, hxs32⟩ := pick_at HN31.out r31 (by simp; omega) 3 (by decide)
      have hlx32 := HN31.out.lt
      go_wp2_with (first | ((with_reducible show wpPlan _ _ _ _ _ (Act.put _ _ _) _); simp only [List.getElem_toArray, List.getElem_cons_succ, List.getElem_cons_zero, Act.put, List.setIfInBounds_toArray, List.set_cons_zero, List.set_cons_succ]) | ((with_reducible show wpPlan _ _ _ _ _ _ _); first | refine wpPlan_nil ?_ | (refine wpPlan_read0 rfl ?hw rfl (fun _ _ _ => ?_); case hw => ((conv => (lhs; whnf)); first | done | with_reducible rfl)) | (refine wpPlan_read1d rfl ?hw rfl rfl (fun _ _ _ => ?_); case hw => ((conv => (lhs; whnf)); first | done | with_reducible rfl)) | (refine wpPlan_eff rfl ?hw (fun _ _ => ?_); case hw => ((conv => (lhs; whnf)); first | done | with_reducible rfl)) | (refine wpPlan_skip0 rfl ?hw ?_; case hw => ((conv => (lhs; whnf)); first | done | with_reducible rfl)) | (refine wpPlan_skip1d rfl ?hw ?_; case hw => ((conv => (lhs; whnf)); first | done | with_reducible rfl)) | (refine wpPlan_skip2 rfl ?hw ?_; case hw => ((conv => (lhs; whnf)); first | done | with_reducible rfl)) | (refine wpPlan_read1 rfl ?hw rfl (fun _ _ _ => ?_); case hw => ((conv => (lhs; whnf)); first | done | with_reducible rfl)) | refine wpPlan_fork ?_ ?_) | ((with_reducible show Owed _ _ _ _ _ _ _ _ _); first | refine Owed.none_ ?_ | refine Owed.nil_ ?_ | refine Owed.miss rfl ?_ | refine Owed.hit ?_ ?_) | ((with_reducible show Same _ _ _ _ _); intro _; go_simp; done) | (with_reducible exact True.intro))
      refine (IH _ _ _ _ _ _ _ _ _ _ _ _ _ _ HW31.out hn (by omega) (by omega) (by omega) (by omega) (by omega)).mono ?_
      rintro e w33 ⟨s33, f33, rfl, hs33, hW33, hf33, hO33⟩
      have HW33 := Lib.hid hW33
      have HO33 := Lib.hid (HO31.out.trans (hO33.mono (fun j _ h => h.1)))
      have hc33 := hW33.c0
      have hl33 := hW33.lt
      have HN33 := Lib.hid (HN31.out.out hO33 (fun h => h.2 rfl))
      have hx33 := hO33.cell hx32 (fun h => h.2 rfl)
      clear hW33 hO33
      go_wp2_with (first | ((with_reducible show wpPlan _ _ _ _ _ (Act.put _ _ _) _); simp only [List.getElem_toArray, List.getElem_cons_succ, List.getElem_cons_zero, Act.put, List.setIfInBounds_toArray, List.set_cons_zero, List.set_cons_succ]) | ((with_reducible show wpPlan _ _ _ _ _ _ _); first | refine wpPlan_nil ?_ | (refine wpPlan_read0 rfl ?hw rfl (fun _ _ _ => ?_); case hw => ((conv => (lhs; whnf)); first | done | with_reducible rfl)) | (refine wpPlan_read1d rfl ?hw rfl rfl (fun _ _ _ => ?_); case hw => ((conv => (lhs; whnf)); first | done | with_reducible rfl)) | (refine wpPlan_eff rfl ?hw (fun _ _ => ?_); case hw => ((conv => (lhs; whnf)); first | done | with_reducible rfl)) | (refine wpPlan_skip0 rfl ?hw ?_; case hw => ((conv => (lhs; whnf)); first | done | with_reducible rfl)) | (refine wpPlan_skip1d rfl ?hw ?_; case hw => ((conv => (lhs; whnf)); first | done | with_reducible rfl)) | (refine wpPlan_skip2 rfl ?hw ?_; case hw => ((conv => (lhs; whnf)); first | done | with_reducible rfl)) | (refine wpPlan_read1 rfl ?hw rfl (fun _ _ _ => ?_); case hw => ((conv => (lhs; whnf)); first | done | with_reducible rfl)) | refine wpPlan_fork ?_ ?_) | ((with_reducible show Owed _ _ _ _ _ _ _ _ _); first | refine Owed.none_ ?_ | refine Owed.nil_ ?_ | refine Owed.miss rfl ?_ | refine Owed.hit ?_ ?_) | ((with_reducible show Same _ _ _ _ _); intro _; go_simp; done) | (with_reducible exact True.intro))
      go_ret
      exact ⟨_, _, rfl, (by simp [ByteArray.size_append, lit_size]; omega), HW33.out.weak (fun j h => h.1) HH.out.lo, by omega, HO33.out⟩
  · go_wp2_with (first | ((with_reducible show wpTree _ _ _ _ _ (Act.put _ _ _) _); simp only [List.getElem_toArray, List.getElem_cons_succ, List.getElem_cons_zero, Act.put, List.setIfInBounds_toArray, List.set_cons_zero, List.set_cons_succ]) | ((with_reducible show wpTree _ _ _ _ _ _ _); first | refine wpTree_line ?_ | refine wpTree_alt ?_ ?_ | (refine wpTree_read0 rfl ?hw rfl (fun _ _ _ => ?_); case hw => ((conv => (lhs; whnf)); first | done | with_reducible rfl)) | (refine wpTree_read1 rfl ?hw rfl (fun _ _ _ => ?_); case hw => ((conv => (lhs; whnf)); first | done | with_reducible rfl)) | (refine wpTree_eff rfl ?hw (fun _ _ => ?_); case hw => ((conv => (lhs; whnf)); first | done | with_reducible rfl)) | (refine wpTree_skip0 rfl ?hw ?_; case hw => ((conv => (lhs; whnf)); first | done | with_reducible rfl)) | (refine wpTree_skip1 rfl ?hw ?_; case hw => ((conv => (lhs; whnf)); first | done | with_reducible rfl)) | (refine wpTree_skip2 rfl ?hw ?_; case hw => ((conv => (lhs; whnf)); first | done | with_reducible rfl))) | ((with_reducible show OwedT _ _ _ _ _ _ _ _ _); first | refine OwedT.none_ ?_ | refine OwedT.nil_ ?_ | refine OwedT.miss rfl ?_ | refine OwedT.hit ?_ ?_) | ((with_reducible show wpPlan _ _ _ _ _ (Act.put _ _ _) _); simp only [List.getElem_toArray, List.getElem_cons_succ, List.getElem_cons_zero, Act.put, List.setIfInBounds_toArray, List.set_cons_zero, List.set_cons_succ]) | ((with_reducible show wpPlan _ _ _ _ _ _ _); first | refine wpPlan_nil ?_ | (refine wpPlan_read0 rfl ?hw rfl (fun _ _ _ => ?_); case hw => ((conv => (lhs; whnf)); first | done | with_reducible rfl)) | (refine wpPlan_read1d rfl ?hw rfl rfl (fun _ _ _ => ?_); case hw => ((conv => (lhs; whnf)); first | done | with_reducible rfl)) | (refine wpPlan_eff rfl ?hw (fun _ _ => ?_); case hw => ((conv => (lhs; whnf)); first | done | with_reducible rfl)) | (refine wpPlan_skip0 rfl ?hw ?_; case hw => ((conv => (lhs; whnf)); first | done | with_reducible rfl)) | (refine wpPlan_skip1d rfl ?hw ?_; case hw => ((conv => (lhs; whnf)); first | done | with_reducible rfl)) | (refine wpPlan_skip2 rfl ?hw ?_; case hw => ((conv => (lhs; whnf)); first | done | with_reducible rfl)) | (refine wpPlan_read1 rfl ?hw rfl (fun _ _ _ => ?_); case hw => ((conv => (lhs; whnf)); first | done | with_reducible rfl)) | refine wpPlan_fork ?_ ?_) | ((with_reducible show Owed _ _ _ _ _ _ _ _ _); first | refine Owed.none_ ?_ | refine Owed.nil_ ?_ | refine Owed.miss rfl ?_ | refine Owed.hit ?_ ?_) | ((with_reducible show Same _ _ _ _ _); intro _; go_simp; done) | (with_reducible exact True.intro) | ((with_reducible show Code.wp _ (Code.region 4 _ true) _ _ _); refine wp_region_tree (Tree.read 0 0 (Tree.read 1 0 (Tree.read 2 1 (Tree.read 6 0 (Tree.read 7 1 (Tree.read 8 1 (Tree.read 9 1 (Tree.read 14 0 (Tree.read 15 0 (Tree.read 16 1 (Tree.alt (Tree.eff 3 [7, 8, 9, 16] (Tree.read 4 1 (Tree.alt (Tree.eff 5 [2, 7, 8, 9, 16, 4] (Tree.line [(10, 2, [16, 4]), (11, 1, []), (12, 1, []), (13, 1, []), (17, 2, [4, 11, 12, 13]), (18, 1, []), (19, 1, []), (20, 0, [])])) (Tree.eff 10 [16, 4] (Tree.alt (Tree.eff 5 [2, 7, 8, 9, 16, 4] (Tree.line [(11, 1, []), (12, 1, []), (13, 1, []), (17, 2, [4, 11, 12, 13]), (18, 1, []), (19, 1, []), (20, 0, [])])) (Tree.eff 17 [4] (Tree.line [(5, 2, [2, 7, 8, 9, 16, 4]), (11, 1, []), (12, 1, []), (13, 1, []), (18, 1, []), (19, 1, []), (20, 0, [])]))))))) (Tree.eff 5 [2, 7, 8, 9, 16] (Tree.line [(3, 2, [7, 8, 9, 16]), (4, 1, []), (10, 2, [16, 4]), (11, 1, []), (12, 1, []), (13, 1, []), (17, 2, [4, 11, 12, 13]), (18, 1, []), (19, 1, []), (20, 0, [])]))))))))))))) (by kernel_rfl) (by kernel_rfl) (by kernel_rfl) ?_) | ((with_reducible show Code.wp _ (Code.region 6 _ true) _ _ _); refine wp_region_tree (Tree.read 0 0 (Tree.read 1 0 (Tree.read 2 1 (Tree.read 6 0 (Tree.read 7 1 (Tree.read 8 1 (Tree.read 9 1 (Tree.read 14 0 (Tree.read 15 0 (Tree.read 16 1 (Tree.alt (Tree.eff 3 [7, 8, 9, 16] (Tree.read 4 1 (Tree.alt (Tree.eff 5 [2, 7, 8, 9, 16, 4] (Tree.line [(10, 2, [16, 4]), (11, 1, []), (12, 1, []), (13, 1, []), (17, 2, [4, 11, 12, 13]), (18, 1, []), (19, 1, []), (20, 0, [])])) (Tree.eff 10 [16, 4] (Tree.alt (Tree.eff 5 [2, 7, 8, 9, 16, 4] (Tree.line [(11, 1, []), (12, 1, []), (13, 1, []), (17, 2, [4, 11, 12, 13]), (18, 1, []), (19, 1, []), (20, 0, [])])) (Tree.eff 17 [4] (Tree.line [(5, 2, [2, 7, 8, 9, 16, 4]), (11, 1, []), (12, 1, []), (13, 1, []), (18, 1, []), (19, 1, []), (20, 0, [])]))))))) (Tree.eff 5 [2, 7, 8, 9, 16] (Tree.line [(3, 2, [7, 8, 9, 16]), (4, 1, []), (10, 2, [16, 4]), (11, 1, []), (12, 1, []), (13, 1, []), (17, 2, [4, 11, 12, 13]), (18, 1, []), (19, 1, []), (20, 0, [])]))))))))))))) (by kernel_rfl) (by kernel_rfl) (by kernel_rfl) ?_))
    · refine (IH _ _ _ _ _ _ _ _ _ _ _ _ _ _ HW1.out.drew hn (by omega) (by omega) (by omega) (by omega) (by omega)).mono ?_
      rintro e w34 ⟨s34, f34, rfl, hs34, hW34, hf34, hO34⟩
      have HW34 := Lib.hid hW34
      have HO34 := Lib.hid (HO1.out.drew.trans (hO34))
      have hc34 := hW34.c0
      have hl34 := hW34.lt
      clear hW34 hO34
      go_wp2_with (first | ((with_reducible show wpTree _ _ _ _ _ (Act.put _ _ _) _); simp only [List.getElem_toArray, List.getElem_cons_succ, List.getElem_cons_zero, Act.put, List.setIfInBounds_toArray, List.set_cons_zero, List.set_cons_succ]) | ((with_reducible show wpTree _ _ _ _ _ _ _); first | refine wpTree_line ?_ | refine wpTree_alt ?_ ?_ | (refine wpTree_read0 rfl ?hw rfl (fun _ _ _ => ?_); case hw => ((conv => (lhs; whnf)); first | done | with_reducible rfl)) | (refine wpTree_read1 rfl ?hw rfl (fun _ _ _ => ?_); case hw => ((conv => (lhs; whnf)); first | done | with_reducible rfl)) | (refine wpTree_eff rfl ?hw (fun _ _ => ?_); case hw => ((conv => (lhs; whnf)); first | done | with_reducible rfl)) | (refine wpTree_skip0 rfl ?hw ?_; case hw => ((conv => (lhs; whnf)); first | done | with_reducible rfl)) | (refine wpTree_skip1 rfl ?hw ?_; case hw => ((conv => (lhs; whnf)); first | done | with_reducible rfl)) | (refine wpTree_skip2 rfl ?hw ?_; case hw => ((conv => (lhs; whnf)); first | done | with_reducible rfl))) | ((with_reducible show OwedT _ _ _ _ _ _ _ _ _); first | refine OwedT.none_ ?_ | refine OwedT.nil_ ?_ | refine OwedT.miss rfl ?_ | refine OwedT.hit ?_ ?_) | ((with_reducible show wpPlan _ _ _ _ _ (Act.put _ _ _) _); simp only [List.getElem_toArray, List.getElem_cons_succ, List.getElem_cons_zero, Act.put, List.setIfInBounds_toArray, List.set_cons_zero, List.set_cons_succ]) | ((with_reducible show wpPlan _ _ _ _ _ _ _); first | refine wpPlan_nil ?_ | (refine wpPlan_read0 rfl ?hw rfl (fun _ _ _ => ?_); case hw => ((conv => (lhs; whnf)); first | done | with_reducible rfl)) | (refine wpPlan_read1d rfl ?hw rfl rfl (fun _ _ _ => ?_); case hw => ((conv => (lhs; whnf)); first | done | with_reducible rfl)) | (refine wpPlan_eff rfl ?hw (fun _ _ => ?_); case hw => ((conv => (lhs; whnf)); first | done | with_reducible rfl)) | (refine wpPlan_skip0 rfl ?hw ?_; case hw => ((conv => (lhs; whnf)); first | done | with_reducible rfl)) | (refine wpPlan_skip1d rfl ?hw ?_; case hw => ((conv => (lhs; whnf)); first | done | with_reducible rfl)) | (refine wpPlan_skip2 rfl ?hw ?_; case hw => ((conv => (lhs; whnf)); first | done | with_reducible rfl)) | (refine wpPlan_read1 rfl ?hw rfl (fun _ _ _ => ?_); case hw => ((conv => (lhs; whnf)); first | done | with_reducible rfl)) | refine wpPlan_fork ?_ ?_) | ((with_reducible show Owed _ _ _ _ _ _ _ _ _); first | refine Owed.none_ ?_ | refine Owed.nil_ ?_ | refine Owed.miss rfl ?_ | refine Owed.hit ?_ ?_) | ((with_reducible show Same _ _ _ _ _); intro _; go_simp; done) | (with_reducible exact True.intro))
      · have HN35 := Lib.hid (Blk.newAt (w := w34) (t := 9) (cs := (cellsOf scell [⟨#[32, 47, 32]⟩, ⟨#[32, 37, 32]⟩]).toArray) (g := w34.heap.size) rfl)
        have HW35 := Lib.hid (HW34.out.lit (.cells (cellsOf scell [⟨#[32, 47, 32]⟩, ⟨#[32, 37, 32]⟩]).toArray 9))
        have HO35 := Lib.hid (HO34.out.alloc (.cells (cellsOf scell [⟨#[32, 47, 32]⟩, ⟨#[32, 37, 32]⟩]).toArray 9))
        have hc35 := HW35.out.c0
        have hl35 := HW35.out.lt
        refine (wnext_any _ _ _ _ _ _ _ _ _ _ _ _ HW35.out 2 (by omega) (by omega) hn).mono ?_
        rintro e w36 ⟨⟨r36, rfl, hr36⟩, hW36, hO36⟩
        have HW36 := Lib.hid hW36
        have HO36 := Lib.hid (HO35.out.trans (hO36.mono (fun j _ h => h.1)))
        have hc36 := hW36.c0
        have hl36 := hW36.lt
        have HN36 := Lib.hid (HN35.out.out hO36 (fun h => h.2 rfl))
        clear hW36 hO36
        obtain ⟨x37, hx37, hxs37⟩ := pick_at HN36.out r36 (by simp; omega) 3 (by decide)
        have hlx37 := HN36.out.lt
        go_wp2_with (first | ((with_reducible show wpPlan _ _ _ _ _ (Act.put _ _ _) _); simp only [List.getElem_toArray, List.getElem_cons_succ, List.getElem_cons_zero, Act.put, List.setIfInBounds_toArray, List.set_cons_zero, List.set_cons_succ]) | ((with_reducible show wpPlan _ _ _ _ _ _ _); first | refine wpPlan_nil ?_ | (refine wpPlan_read0 rfl ?hw rfl (fun _ _ _ => ?_); case hw => ((conv => (lhs; whnf)); first | done | with_reducible rfl)) | (refine wpPlan_read1d rfl ?hw rfl rfl (fun _ _ _ => ?_); case hw => ((conv => (lhs; whnf)); first | done | with_reducible rfl)) | (refine wpPlan_eff rfl ?hw (fun _ _ => ?_); case hw => ((conv => (lhs; whnf)); first | done | with_reducible rfl)) | (refine wpPlan_skip0 rfl ?hw ?_; case hw => ((conv => (lhs; whnf)); first | done | with_reducible rfl)) | (refine wpPlan_skip1d rfl ?hw ?_; case hw => ((conv => (lhs; whnf)); first | done | with_reducible rfl)) | (refine wpPlan_skip2 rfl ?hw ?_; case hw => ((conv => (lhs; whnf)); first | done | with_reducible rfl)) | (refine wpPlan_read1 rfl ?hw rfl (fun _ _ _ => ?_); case hw => ((conv => (lhs; whnf)); first | done | with_reducible rfl)) | refine wpPlan_fork ?_ ?_) | ((with_reducible show Owed _ _ _ _ _ _ _ _ _); first | refine Owed.none_ ?_ | refine Owed.nil_ ?_ | refine Owed.miss rfl ?_ | refine Owed.hit ?_ ?_) | ((with_reducible show Same _ _ _ _ _); intro _; go_simp; done) | (with_reducible exact True.intro))
        refine (IH _ _ _ _ _ _ _ _ _ _ _ _ _ _ HW36.out hn (by omega) (by omega) (by omega) (by omega) (by omega)).mono ?_
        rintro e w38 ⟨s38, f38, rfl, hs38, hW38, hf38, hO38⟩
        have HW38 := Lib.hid hW38
        have HO38 := Lib.hid (HO36.out.trans (hO38.mono (fun j _ h => h.1)))
        have hc38 := hW38.c0
        have hl38 := hW38.lt
        have HN38 := Lib.hid (HN36.out.out hO38 (fun h => h.2 rfl))
        have hx38 := hO38.cell hx37 (fun h => h.2 rfl)
        clear hW38 hO38
        go_wp2_with (first | ((with_reducible show wpPlan _ _ _ _ _ (Act.put _ _ _) _); simp only [List.getElem_toArray, List.getElem_cons_succ, List.getElem_cons_zero, Act.put, List.setIfInBounds_toArray, List.set_cons_zero, List.set_cons_succ]) | ((with_reducible show wpPlan _ _ _ _ _ _ _); first | refine wpPlan_nil ?_ | (refine wpPlan_read0 rfl ?hw rfl (fun _ _ _ => ?_); case hw => ((conv => (lhs; whnf)); first | done | with_reducible rfl)) | (refine wpPlan_read1d rfl ?hw rfl rfl (fun _ _ _ => ?_); case hw => ((conv => (lhs; whnf)); first | done | with_reducible rfl)) | (refine wpPlan_eff rfl ?hw (fun _ _ => ?_); case hw => ((conv => (lhs; whnf)); first | done | with_reducible rfl)) | (refine wpPlan_skip0 rfl ?hw ?_; case hw => ((conv => (lhs; whnf)); first | done | with_reducible rfl)) | (refine wpPlan_skip1d rfl ?hw ?_; case hw => ((conv => (lhs; whnf)); first | done | with_reducible rfl)) | (refine wpPlan_skip2 rfl ?hw ?_; case hw => ((conv => (lhs; whnf)); first | done | with_reducible rfl)) | (refine wpPlan_read1 rfl ?hw rfl (fun _ _ _ => ?_); case hw => ((conv => (lhs; whnf)); first | done | with_reducible rfl)) | refine wpPlan_fork ?_ ?_) | ((with_reducible show Owed _ _ _ _ _ _ _ _ _); first | refine Owed.none_ ?_ | refine Owed.nil_ ?_ | refine Owed.miss rfl ?_ | refine Owed.hit ?_ ?_) | ((with_reducible show Same _ _ _ _ _); intro _; go_simp; done) | (with_reducible exact True.intro))
        go_ret
        exact ⟨_, _, rfl, (by simp [ByteArray.size_append, lit_size]; omega), HW38.out.weak (fun j h => h.1) HH.out.lo, by omega, HO38.out⟩
      · refine (wnext_any _ _ _ _ _ _ _ _ _ _ _ _ HW34.out 2 (by omega) (by omega) hn).mono ?_
        rintro e w39 ⟨⟨r39, rfl, hr39⟩, hW39, hO39⟩
        have HW39 := Lib.hid hW39
        have HO39 := Lib.hid (HO34.out.trans (hO39))
        have hc39 := hW39.c0
        have hl39 := hW39.lt
        clear hW39 hO39
        obtain ⟨x40, hx40, hxs40⟩ := pick_at (Blk.newAt (w := w39) (t := 9) (cs := (cellsOf scell [⟨#[32, 47, 32]⟩, ⟨#[32, 37, 32]⟩]).toArray) (g := w39.heap.size) rfl) r39 (by simp; omega) 3 (by decide)
        have hy40 : (w39.alloc (.cells #[.string ⟨#[32, 47, 32]⟩, .string ⟨#[32, 37, 32]⟩] 9)).cell? ⟨w39.heap.size, r39, none⟩ = some (.string x40) := hx40
        clear hx40
        go_wp2_with (first | ((with_reducible show wpTree _ _ _ _ _ (Act.put _ _ _) _); simp only [List.getElem_toArray, List.getElem_cons_succ, List.getElem_cons_zero, Act.put, List.setIfInBounds_toArray, List.set_cons_zero, List.set_cons_succ]) | ((with_reducible show wpTree _ _ _ _ _ _ _); first | refine wpTree_line ?_ | refine wpTree_alt ?_ ?_ | (refine wpTree_read0 rfl ?hw rfl (fun _ _ _ => ?_); case hw => ((conv => (lhs; whnf)); first | done | with_reducible rfl)) | (refine wpTree_read1 rfl ?hw rfl (fun _ _ _ => ?_); case hw => ((conv => (lhs; whnf)); first | done | with_reducible rfl)) | (refine wpTree_eff rfl ?hw (fun _ _ => ?_); case hw => ((conv => (lhs; whnf)); first | done | with_reducible rfl)) | (refine wpTree_skip0 rfl ?hw ?_; case hw => ((conv => (lhs; whnf)); first | done | with_reducible rfl)) | (refine wpTree_skip1 rfl ?hw ?_; case hw => ((conv => (lhs; whnf)); first | done | with_reducible rfl)) | (refine wpTree_skip2 rfl ?hw ?_; case hw => ((conv => (lhs; whnf)); first | done | with_reducible rfl))) | ((with_reducible show OwedT _ _ _ _ _ _ _ _ _); first | refine OwedT.none_ ?_ | refine OwedT.nil_ ?_ | refine OwedT.miss rfl ?_ | refine OwedT.hit ?_ ?_) | ((with_reducible show wpPlan _ _ _ _ _ (Act.put _ _ _) _); simp only [List.getElem_toArray, List.getElem_cons_succ, List.getElem_cons_zero, Act.put, List.setIfInBounds_toArray, List.set_cons_zero, List.set_cons_succ]) | ((with_reducible show wpPlan _ _ _ _ _ _ _); first | refine wpPlan_nil ?_ | (refine wpPlan_read0 rfl ?hw rfl (fun _ _ _ => ?_); case hw => ((conv => (lhs; whnf)); first | done | with_reducible rfl)) | (refine wpPlan_read1d rfl ?hw rfl rfl (fun _ _ _ => ?_); case hw => ((conv => (lhs; whnf)); first | done | with_reducible rfl)) | (refine wpPlan_eff rfl ?hw (fun _ _ => ?_); case hw => ((conv => (lhs; whnf)); first | done | with_reducible rfl)) | (refine wpPlan_skip0 rfl ?hw ?_; case hw => ((conv => (lhs; whnf)); first | done | with_reducible rfl)) | (refine wpPlan_skip1d rfl ?hw ?_; case hw => ((conv => (lhs; whnf)); first | done | with_reducible rfl)) | (refine wpPlan_skip2 rfl ?hw ?_; case hw => ((conv => (lhs; whnf)); first | done | with_reducible rfl)) | (refine wpPlan_read1 rfl ?hw rfl (fun _ _ _ => ?_); case hw => ((conv => (lhs; whnf)); first | done | with_reducible rfl)) | refine wpPlan_fork ?_ ?_) | ((with_reducible show Owed _ _ _ _ _ _ _ _ _); first | refine Owed.none_ ?_ | refine Owed.nil_ ?_ | refine Owed.miss rfl ?_ | refine Owed.hit ?_ ?_) | ((with_reducible show Same _ _ _ _ _); intro _; go_simp; done) | (with_reducible exact True.intro))
        · have HN41 := Lib.hid (Blk.newAt (w := w39) (t := 9) (cs := (cellsOf scell [⟨#[32, 47, 32]⟩, ⟨#[32, 37, 32]⟩]).toArray) (g := w39.heap.size) rfl)
          have HW41 := Lib.hid (HW39.out.lit (.cells (cellsOf scell [⟨#[32, 47, 32]⟩, ⟨#[32, 37, 32]⟩]).toArray 9))
          have HO41 := Lib.hid (HO39.out.alloc (.cells (cellsOf scell [⟨#[32, 47, 32]⟩, ⟨#[32, 37, 32]⟩]).toArray 9))
          have hc41 := HW41.out.c0
          have hl41 := HW41.out.lt
          refine (IH _ _ _ _ _ _ _ _ _ _ _ _ _ _ HW41.out hn (by omega) (by omega) (by omega) (by omega) (by omega)).mono ?_
          rintro e w42 ⟨s42, f42, rfl, hs42, hW42, hf42, hO42⟩
          have HW42 := Lib.hid hW42
          have HO42 := Lib.hid (HO41.out.trans (hO42.mono (fun j _ h => h.1)))
          have hc42 := hW42.c0
          have hl42 := hW42.lt
          have HN42 := Lib.hid (HN41.out.out hO42 (fun h => h.2 rfl))
          have hx42 := hO42.cell hy40 (fun h => h.2 rfl)
          clear hW42 hO42
          go_wp2_with (first | ((with_reducible show wpPlan _ _ _ _ _ (Act.put _ _ _) _); simp only [List.getElem_toArray, List.getElem_cons_succ, List.getElem_cons_zero, Act.put, List.setIfInBounds_toArray, List.set_cons_zero, List.set_cons_succ]) | ((with_reducible show wpPlan _ _ _ _ _ _ _); first | refine wpPlan_nil ?_ | (refine wpPlan_read0 rfl ?hw rfl (fun _ _ _ => ?_); case hw => ((conv => (lhs; whnf)); first | done | with_reducible rfl)) | (refine wpPlan_read1d rfl ?hw rfl rfl (fun _ _ _ => ?_); case hw => ((conv => (lhs; whnf)); first | done | with_reducible rfl)) | (refine wpPlan_eff rfl ?hw (fun _ _ => ?_); case hw => ((conv => (lhs; whnf)); first | done | with_reducible rfl)) | (refine wpPlan_skip0 rfl ?hw ?_; case hw => ((conv => (lhs; whnf)); first | done | with_reducible rfl)) | (refine wpPlan_skip1d rfl ?hw ?_; case hw => ((conv => (lhs; whnf)); first | done | with_reducible rfl)) | (refine wpPlan_skip2 rfl ?hw ?_; case hw => ((conv => (lhs; whnf)); first | done | with_reducible rfl)) | (refine wpPlan_read1 rfl ?hw rfl (fun _ _ _ => ?_); case hw => ((conv => (lhs; whnf)); first | done | with_reducible rfl)) | refine wpPlan_fork ?_ ?_) | ((with_reducible show Owed _ _ _ _ _ _ _ _ _); first | refine Owed.none_ ?_ | refine Owed.nil_ ?_ | refine Owed.miss rfl ?_ | refine Owed.hit ?_ ?_) | ((with_reducible show Same _ _ _ _ _); intro _; go_simp; done) | (with_reducible exact True.intro))
          go_ret
          exact ⟨_, _, rfl, (by simp [ByteArray.size_append, lit_size]; omega), HW42.out.weak (fun j h => h.1) HH.out.lo, by omega, HO42.out⟩
        · refine (IH _ _ _ _ _ _ _ _ _ _ _ _ _ _ HW39.out hn (by omega) (by omega) (by omega) (by omega) (by omega)).mono ?_
          rintro e w43 ⟨s43, f43, rfl, hs43, hW43, hf43, hO43⟩
          have HW43 := Lib.hid hW43
          have HO43 := Lib.hid (HO39.out.trans (hO43))
          have hc43 := hW43.c0
          have hl43 := hW43.lt
          clear hW43 hO43
          obtain ⟨x44, hx44, hxs44⟩ := pick_at (Blk.newAt (w := w43) (t := 9) (cs := (cellsOf scell [⟨#[32, 47, 32]⟩, ⟨#[32, 37, 32]⟩]).toArray) (g := w43.heap.size) rfl) r39 (by simp; omega) 3 (by decide)
          have hy44 : (w43.alloc (.cells #[.string ⟨#[32, 47, 32]⟩, .string ⟨#[32, 37, 32]⟩] 9)).cell? ⟨w43.heap.size, r39, none⟩ = some (.string x44) := hx44
          clear hx44
          go_wp2_with (first | ((with_reducible show wpTree _ _ _ _ _ (Act.put _ _ _) _); simp only [List.getElem_toArray, List.getElem_cons_succ, List.getElem_cons_zero, Act.put, List.setIfInBounds_toArray, List.set_cons_zero, List.set_cons_succ]) | ((with_reducible show wpTree _ _ _ _ _ _ _); first | refine wpTree_line ?_ | refine wpTree_alt ?_ ?_ | (refine wpTree_read0 rfl ?hw rfl (fun _ _ _ => ?_); case hw => ((conv => (lhs; whnf)); first | done | with_reducible rfl)) | (refine wpTree_read1 rfl ?hw rfl (fun _ _ _ => ?_); case hw => ((conv => (lhs; whnf)); first | done | with_reducible rfl)) | (refine wpTree_eff rfl ?hw (fun _ _ => ?_); case hw => ((conv => (lhs; whnf)); first | done | with_reducible rfl)) | (refine wpTree_skip0 rfl ?hw ?_; case hw => ((conv => (lhs; whnf)); first | done | with_reducible rfl)) | (refine wpTree_skip1 rfl ?hw ?_; case hw => ((conv => (lhs; whnf)); first | done | with_reducible rfl)) | (refine wpTree_skip2 rfl ?hw ?_; case hw => ((conv => (lhs; whnf)); first | done | with_reducible rfl))) | ((with_reducible show OwedT _ _ _ _ _ _ _ _ _); first | refine OwedT.none_ ?_ | refine OwedT.nil_ ?_ | refine OwedT.miss rfl ?_ | refine OwedT.hit ?_ ?_) | ((with_reducible show wpPlan _ _ _ _ _ (Act.put _ _ _) _); simp only [List.getElem_toArray, List.getElem_cons_succ, List.getElem_cons_zero, Act.put, List.setIfInBounds_toArray, List.set_cons_zero, List.set_cons_succ]) | ((with_reducible show wpPlan _ _ _ _ _ _ _); first | refine wpPlan_nil ?_ | (refine wpPlan_read0 rfl ?hw rfl (fun _ _ _ => ?_); case hw => ((conv => (lhs; whnf)); first | done | with_reducible rfl)) | (refine wpPlan_read1d rfl ?hw rfl rfl (fun _ _ _ => ?_); case hw => ((conv => (lhs; whnf)); first | done | with_reducible rfl)) | (refine wpPlan_eff rfl ?hw (fun _ _ => ?_); case hw => ((conv => (lhs; whnf)); first | done | with_reducible rfl)) | (refine wpPlan_skip0 rfl ?hw ?_; case hw => ((conv => (lhs; whnf)); first | done | with_reducible rfl)) | (refine wpPlan_skip1d rfl ?hw ?_; case hw => ((conv => (lhs; whnf)); first | done | with_reducible rfl)) | (refine wpPlan_skip2 rfl ?hw ?_; case hw => ((conv => (lhs; whnf)); first | done | with_reducible rfl)) | (refine wpPlan_read1 rfl ?hw rfl (fun _ _ _ => ?_); case hw => ((conv => (lhs; whnf)); first | done | with_reducible rfl)) | refine wpPlan_fork ?_ ?_) | ((with_reducible show Owed _ _ _ _ _ _ _ _ _); first | refine Owed.none_ ?_ | refine Owed.nil_ ?_ | refine Owed.miss rfl ?_ | refine Owed.hit ?_ ?_) | ((with_reducible show Same _ _ _ _ _); intro _; go_simp; done) | (with_reducible exact True.intro))
          go_ret
          exact ⟨_, _, rfl, (by simp [ByteArray.size_append, lit_size]; omega), HW43.out.alloc _, by omega, HO43.out.alloc _⟩
    · have HN45 := Lib.hid (Blk.newAt (w := w1) (t := 9) (cs := (cellsOf scell [⟨#[32, 47, 32]⟩, ⟨#[32, 37, 32]⟩]).toArray) (g := w1.heap.size) rfl)
      have HW45 := Lib.hid (HW1.out.lit (.cells (cellsOf scell [⟨#[32, 47, 32]⟩, ⟨#[32, 37, 32]⟩]).toArray 9))
      have HO45 := Lib.hid (HO1.out.alloc (.cells (cellsOf scell [⟨#[32, 47, 32]⟩, ⟨#[32, 37, 32]⟩]).toArray 9))
      have hc45 := HW45.out.c0
      have hl45 := HW45.out.lt
      refine (IH _ _ _ _ _ _ _ _ _ _ _ _ _ _ HW45.out.drew hn (by omega) (by omega) (by omega) (by omega) (by omega)).mono ?_
      rintro e w46 ⟨s46, f46, rfl, hs46, hW46, hf46, hO46⟩
      have HW46 := Lib.hid hW46
      have HO46 := Lib.hid (HO45.out.drew.trans (hO46.mono (fun j _ h => h.1)))
      have hc46 := hW46.c0
      have hl46 := hW46.lt
      have HN46 := Lib.hid (HN45.out.drew.out hO46 (fun h => h.2 rfl))
      clear hW46 hO46
      go_wp2_with (first | ((with_reducible show wpPlan _ _ _ _ _ (Act.put _ _ _) _); simp only [List.getElem_toArray, List.getElem_cons_succ, List.getElem_cons_zero, Act.put, List.setIfInBounds_toArray, List.set_cons_zero, List.set_cons_succ]) | ((with_reducible show wpPlan _ _ _ _ _ _ _); first | refine wpPlan_nil ?_ | (refine wpPlan_read0 rfl ?hw rfl (fun _ _ _ => ?_); case hw => ((conv => (lhs; whnf)); first | done | with_reducible rfl)) | (refine wpPlan_read1d rfl ?hw rfl rfl (fun _ _ _ => ?_); case hw => ((conv => (lhs; whnf)); first | done | with_reducible rfl)) | (refine wpPlan_eff rfl ?hw (fun _ _ => ?_); case hw => ((conv => (lhs; whnf)); first | done | with_reducible rfl)) | (refine wpPlan_skip0 rfl ?hw ?_; case hw => ((conv => (lhs; whnf)); first | done | with_reducible rfl)) | (refine wpPlan_skip1d rfl ?hw ?_; case hw => ((conv => (lhs; whnf)); first | done | with_reducible rfl)) | (refine wpPlan_skip2 rfl ?hw ?_; case hw => ((conv => (lhs; whnf)); first | done | with_reducible rfl)) | (refine wpPlan_read1 rfl ?hw rfl (fun _ _ _ => ?_); case hw => ((conv => (lhs; whnf)); first | done | with_reducible rfl)) | refine wpPlan_fork ?_ ?_) | ((with_reducible show Owed _ _ _ _ _ _ _ _ _); first | refine Owed.none_ ?_ | refine Owed.nil_ ?_ | refine Owed.miss rfl ?_ | refine Owed.hit ?_ ?_) | ((with_reducible show Same _ _ _ _ _); intro _; go_simp; done) | (with_reducible exact True.intro))
      refine (wnext_any _ _ _ _ _ _ _ _ _ _ _ _ HW46.out 2 (by omega) (by omega) hn).mono ?_
      rintro e w47 ⟨⟨r47, rfl, hr47⟩, hW47, hO47⟩
      have HW47 := Lib.hid hW47
      have HO47 := Lib.hid (HO46.out.trans (hO47.mono (fun j _ h => h.1)))
      have hc47 := hW47.c0
      have hl47 := hW47.lt
      have HN47 := Lib.hid (HN46.out.out hO47 (fun h => h.2 rfl))
      clear hW47 hO47
      obtain ⟨x48, hx48, hxs48⟩ := pick_at HN47.out r47 (by simp; omega) 3 (by decide)
      have hlx48 := HN47.out.lt
      go_wp2_with (first | ((with_reducible show wpPlan _ _ _ _ _ (Act.put _ _ _) _); simp only [List.getElem_toArray, List.getElem_cons_succ, List.getElem_cons_zero, Act.put, List.setIfInBounds_toArray, List.set_cons_zero, List.set_cons_succ]) | ((with_reducible show wpPlan _ _ _ _ _ _ _); first | refine wpPlan_nil ?_ | (refine wpPlan_read0 rfl ?hw rfl (fun _ _ _ => ?_); case hw => ((conv => (lhs; whnf)); first | done | with_reducible rfl)) | (refine wpPlan_read1d rfl ?hw rfl rfl (fun _ _ _ => ?_); case hw => ((conv => (lhs; whnf)); first | done | with_reducible rfl)) | (refine wpPlan_eff rfl ?hw (fun _ _ => ?_); case hw => ((conv => (lhs; whnf)); first | done | with_reducible rfl)) | (refine wpPlan_skip0 rfl ?hw ?_; case hw => ((conv => (lhs; whnf)); first | done | with_reducible rfl)) | (refine wpPlan_skip1d rfl ?hw ?_; case hw => ((conv => (lhs; whnf)); first | done | with_reducible rfl)) | (refine wpPlan_skip2 rfl ?hw ?_; case hw => ((conv => (lhs; whnf)); first | done | with_reducible rfl)) | (refine wpPlan_read1 rfl ?hw rfl (fun _ _ _ => ?_); case hw => ((conv => (lhs; whnf)); first | done | with_reducible rfl)) | refine wpPlan_fork ?_ ?_) | ((with_reducible show Owed _ _ _ _ _ _ _ _ _); first | refine Owed.none_ ?_ | refine Owed.nil_ ?_ | refine Owed.miss rfl ?_ | refine Owed.hit ?_ ?_) | ((with_reducible show Same _ _ _ _ _); intro _; go_simp; done) | (with_reducible exact True.intro))
      refine (IH _ _ _ _ _ _ _ _ _ _ _ _ _ _ HW47.out hn (by omega) (by omega) (by omega) (by omega) (by omega)).mono ?_
      rintro e w49 ⟨s49, f49, rfl, hs49, hW49, hf49, hO49⟩
      have HW49 := Lib.hid hW49
      have HO49 := Lib.hid (HO47.out.trans (hO49.mono (fun j _ h => h.1)))
      have hc49 := hW49.c0
      have hl49 := hW49.lt
      have HN49 := Lib.hid (HN47.out.out hO49 (fun h => h.2 rfl))
      have hx49 := hO49.cell hx48 (fun h => h.2 rfl)
      clear hW49 hO49
      go_wp2_with (first | ((with_reducible show wpPlan _ _ _ _ _ (Act.put _ _ _) _); simp only [List.getElem_toArray, List.getElem_cons_succ, List.getElem_cons_zero, Act.put, List.setIfInBounds_toArray, List.set_cons_zero, List.set_cons_succ]) | ((with_reducible show wpPlan _ _ _ _ _ _ _); first | refine wpPlan_nil ?_ | (refine wpPlan_read0 rfl ?hw rfl (fun _ _ _ => ?_); case hw => ((conv => (lhs; whnf)); first | done | with_reducible rfl)) | (refine wpPlan_read1d rfl ?hw rfl rfl (fun _ _ _ => ?_); case hw => ((conv => (lhs; whnf)); first | done | with_reducible rfl)) | (refine wpPlan_eff rfl ?hw (fun _ _ => ?_); case hw => ((conv => (lhs; whnf)); first | done | with_reducible rfl)) | (refine wpPlan_skip0 rfl ?hw ?_; case hw => ((conv => (lhs; whnf)); first | done | with_reducible rfl)) | (refine wpPlan_skip1d rfl ?hw ?_; case hw => ((conv => (lhs; whnf)); first | done | with_reducible rfl)) | (refine wpPlan_skip2 rfl ?hw ?_; case hw => ((conv => (lhs; whnf)); first | done | with_reducible rfl)) | (refine wpPlan_read1 rfl ?hw rfl (fun _ _ _ => ?_); case hw => ((conv => (lhs; whnf)); first | done | with_reducible rfl)) | refine wpPlan_fork ?_ ?_) | ((with_reducible show Owed _ _ _ _ _ _ _ _ _); first | refine Owed.none_ ?_ | refine Owed.nil_ ?_ | refine Owed.miss rfl ?_ | refine Owed.hit ?_ ?_) | ((with_reducible show Same _ _ _ _ _); intro _; go_simp; done) | (with_reducible exact True.intro))
      go_ret
      exact ⟨_, _, rfl, (by simp [ByteArray.size_append, lit_size]; omega), HW49.out.weak (fun j h => h.1) HH.out.lo, by omega, HO49.out⟩
  · go_wp2_with fail
    refine (IH _ _ _ _ _ _ _ _ _ _ _ _ _ _ HW1.out hn (by omega) (by omega) (by omega) (by omega) (by omega)).mono ?_
    rintro e w50 ⟨s50, f50, rfl, hs50, hW50, hf50, hO50⟩
    have HW50 := Lib.hid hW50
    have HO50 := Lib.hid (HO1.out.trans (hO50))
    have hc50 := hW50.c0
    have hl50 := hW50.lt
    clear hW50 hO50
    go_wp2_with fail
    go_ret
    exact ⟨_, _, rfl, (by simp [ByteArray.size_append, lit_size]; omega), HW50.out, by omega, HO50.out⟩
  · go_wp2_with fail
    refine (IH _ _ _ _ _ _ _ _ _ _ _ _ _ _ HW1.out hn (by omega) (by omega) (by omega) (by omega) (by omega)).mono ?_
    rintro e w51 ⟨s51, f51, rfl, hs51, hW51, hf51, hO51⟩
    have HW51 := Lib.hid hW51
    have HO51 := Lib.hid (HO1.out.trans (hO51))
    have hc51 := hW51.c0
    have hl51 := hW51.lt
    clear hW51 hO51
    go_wp2_with fail
    go_ret
    exact ⟨_, _, rfl, (by simp [ByteArray.size_append, lit_size]; omega), HW51.out, by omega, HO51.out⟩
  · go_wp2_with fail
    refine (IH _ _ _ _ _ _ _ _ _ _ _ _ _ _ HW1.out hn (by omega) (by omega) (by omega) (by omega) (by omega)).mono ?_
    rintro e w52 ⟨s52, f52, rfl, hs52, hW52, hf52, hO52⟩
    have HW52 := Lib.hid hW52
    have HO52 := Lib.hid (HO1.out.trans (hO52))
    have hc52 := hW52.c0
    have hl52 := hW52.lt
    clear hW52 hO52
    go_wp2_with fail
    go_ret
    exact ⟨_, _, rfl, (by simp [ByteArray.size_append, lit_size]; omega), HW52.out, by omega, HO52.out⟩
  · go_wp2_with fail
    refine (IH _ _ _ _ _ _ _ _ _ _ _ _ _ _ HW1.out hn (by omega) (by omega) (by omega) (by omega) (by omega)).mono ?_
    rintro e w53 ⟨s53, f53, rfl, hs53, hW53, hf53, hO53⟩
    have HW53 := Lib.hid hW53
    have HO53 := Lib.hid (HO1.out.trans (hO53))
    have hc53 := hW53.c0
    have hl53 := hW53.lt
    clear hW53 hO53
    go_wp2_with fail
    go_ret
    exact ⟨_, _, rfl, (by simp [ByteArray.size_append, lit_size]; omega), HW53.out, by omega, HO53.out⟩
  · go_wp2_with fail
    refine (IH _ _ _ _ _ _ _ _ _ _ _ _ _ _ HW1.out hn (by omega) (by omega) (by omega) (by omega) (by omega)).mono ?_
    rintro e w54 ⟨s54, f54, rfl, hs54, hW54, hf54, hO54⟩
    have HW54 := Lib.hid hW54
    have HO54 := Lib.hid (HO1.out.trans (hO54))
    have hc54 := hW54.c0
    have hl54 := hW54.lt
    clear hW54 hO54
    go_wp2_with fail
    go_ret
    exact ⟨_, _, rfl, (by simp [ByteArray.size_append, lit_size]; omega), HW54.out, by omega, HO54.out⟩
  · go_wp2_with fail
    refine (IH _ _ _ _ _ _ _ _ _ _ _ _ _ _ HW1.out hn (by omega) (by omega) (by omega) (by omega) (by omega)).mono ?_
    rintro e w55 ⟨s55, f55, rfl, hs55, hW55, hf55, hO55⟩
    have HW55 := Lib.hid hW55
    have HO55 := Lib.hid (HO1.out.trans (hO55))
    have hc55 := hW55.c0
    have hl55 := hW55.lt
    clear hW55 hO55
    go_wp2_with fail
    go_ret
    exact ⟨_, _, rfl, (by simp [ByteArray.size_append, lit_size]; omega), HW55.out, by omega, HO55.out⟩
  · go_wp2_with fail
    refine (IH _ _ _ _ _ _ _ _ _ _ _ _ _ _ HW1.out hn (by omega) (by omega) (by omega) (by omega) (by omega)).mono ?_
    rintro e w56 ⟨s56, f56, rfl, hs56, hW56, hf56, hO56⟩
    have HW56 := Lib.hid hW56
    have HO56 := Lib.hid (HO1.out.trans (hO56))
    have hc56 := hW56.c0
    have hl56 := hW56.lt
    clear hW56 hO56
    go_wp2_with fail
    go_ret
    exact ⟨_, _, rfl, (by simp [ByteArray.size_append, lit_size]; omega), HW56.out, by omega, HO56.out⟩

theorem wtruth_any (IH : ExprOk d) (h : WrAt w B R b wb A n c zs fu k fr) (hn : n ≤ 1000000000000) (hk : k + (d + 1) ≤ 100000) (hfr : fr + mS (d + 1) ≤ 1000000) (q : Int) (hq : q = (d : Int) + 1) :
    Calls Tryd.prog 68 #[.pointer (some ⟨wb, 0, none⟩), .int .i64 q] w (WPost B R b wb A n c zs fu k fr (mS (d + 1)) w) := by
  have HH := Lib.hid h
  have HO0 := Lib.hid (Outside.refl R w)
  have hm : mS (d + 1) = 3 * mS d + 40 := rfl
  have hm12 := mS_ge d
  have hm0 : mS 0 = 12 := rfl
  have hc := h.c0
  have hl := h.lt
  clear h
  go_enter Tryd.func68, Tryd.ntmps68
  go_wp2_with fail
  refine (wnext_any _ _ _ _ _ _ _ _ _ _ _ _ HH.out 7 (by omega) (by omega) hn).mono ?_
  rintro e w1 ⟨⟨r1, rfl, hr1⟩, hW1, hO1⟩
  have HW1 := Lib.hid hW1
  have HO1 := Lib.hid (HO0.out.trans (hO1))
  have hc1 := hW1.c0
  have hl1 := hW1.lt
  clear hW1 hO1
  have hr0 : (0 : Int) ≤ r1 := by omega
  generalize hz : (r1 : Int) = z at hr1 hr0 ⊢
  clear hz
  rcases (show z = 0 ∨ z = 1 ∨ z = 2 ∨ z = 3 ∨ z = 4 ∨ z = 5 ∨ z = 6 by omega) with rfl | rfl | rfl | rfl | rfl | rfl | rfl
  · go_wp2_with (first | ((with_reducible show wpTree _ _ _ _ _ (Act.put _ _ _) _); simp only [List.getElem_toArray, List.getElem_cons_succ, List.getElem_cons_zero, Act.put, List.setIfInBounds_toArray, List.set_cons_zero, List.set_cons_succ]) | ((with_reducible show wpTree _ _ _ _ _ _ _); first | refine wpTree_line ?_ | refine wpTree_alt ?_ ?_ | (refine wpTree_read0 rfl ?hw rfl (fun _ _ _ => ?_); case hw => ((conv => (lhs; whnf)); first | done | with_reducible rfl)) | (refine wpTree_read1 rfl ?hw rfl (fun _ _ _ => ?_); case hw => ((conv => (lhs; whnf)); first | done | with_reducible rfl)) | (refine wpTree_eff rfl ?hw (fun _ _ => ?_); case hw => ((conv => (lhs; whnf)); first | done | with_reducible rfl)) | (refine wpTree_skip0 rfl ?hw ?_; case hw => ((conv => (lhs; whnf)); first | done | with_reducible rfl)) | (refine wpTree_skip1 rfl ?hw ?_; case hw => ((conv => (lhs; whnf)); first | done | with_reducible rfl)) | (refine wpTree_skip2 rfl ?hw ?_; case hw => ((conv => (lhs; whnf)); first | done | with_reducible rfl))) | ((with_reducible show OwedT _ _ _ _ _ _ _ _ _); first | refine OwedT.none_ ?_ | refine OwedT.nil_ ?_ | refine OwedT.miss rfl ?_ | refine OwedT.hit ?_ ?_) | ((with_reducible show wpPlan _ _ _ _ _ (Act.put _ _ _) _); simp only [List.getElem_toArray, List.getElem_cons_succ, List.getElem_cons_zero, Act.put, List.setIfInBounds_toArray, List.set_cons_zero, List.set_cons_succ]) | ((with_reducible show wpPlan _ _ _ _ _ _ _); first | refine wpPlan_nil ?_ | (refine wpPlan_read0 rfl ?hw rfl (fun _ _ _ => ?_); case hw => ((conv => (lhs; whnf)); first | done | with_reducible rfl)) | (refine wpPlan_read1d rfl ?hw rfl rfl (fun _ _ _ => ?_); case hw => ((conv => (lhs; whnf)); first | done | with_reducible rfl)) | (refine wpPlan_eff rfl ?hw (fun _ _ => ?_); case hw => ((conv => (lhs; whnf)); first | done | with_reducible rfl)) | (refine wpPlan_skip0 rfl ?hw ?_; case hw => ((conv => (lhs; whnf)); first | done | with_reducible rfl)) | (refine wpPlan_skip1d rfl ?hw ?_; case hw => ((conv => (lhs; whnf)); first | done | with_reducible rfl)) | (refine wpPlan_skip2 rfl ?hw ?_; case hw => ((conv => (lhs; whnf)); first | done | with_reducible rfl)) | (refine wpPlan_read1 rfl ?hw rfl (fun _ _ _ => ?_); case hw => ((conv => (lhs; whnf)); first | done | with_reducible rfl)) | refine wpPlan_fork ?_ ?_) | ((with_reducible show Owed _ _ _ _ _ _ _ _ _); first | refine Owed.none_ ?_ | refine Owed.nil_ ?_ | refine Owed.miss rfl ?_ | refine Owed.hit ?_ ?_) | ((with_reducible show Same _ _ _ _ _); intro _; go_simp; done) | (with_reducible exact True.intro) | ((with_reducible show Code.wp _ (Code.region 4 _ true) _ _ _); refine wp_region_tree (Tree.read 0 0 (Tree.read 1 0 (Tree.read 2 1 (Tree.read 6 0 (Tree.read 7 1 (Tree.read 8 1 (Tree.read 9 1 (Tree.read 14 0 (Tree.read 15 0 (Tree.read 16 1 (Tree.alt (Tree.eff 3 [7, 8, 9, 16] (Tree.read 4 1 (Tree.alt (Tree.eff 5 [2, 7, 8, 9, 16, 4] (Tree.line [(10, 2, [16, 4]), (11, 1, []), (12, 1, []), (13, 1, []), (17, 2, [4, 11, 12, 13]), (18, 1, []), (19, 1, []), (20, 0, [])])) (Tree.eff 10 [16, 4] (Tree.alt (Tree.eff 5 [2, 7, 8, 9, 16, 4] (Tree.line [(11, 1, []), (12, 1, []), (13, 1, []), (17, 2, [4, 11, 12, 13]), (18, 1, []), (19, 1, []), (20, 0, [])])) (Tree.eff 17 [4] (Tree.line [(5, 2, [2, 7, 8, 9, 16, 4]), (11, 1, []), (12, 1, []), (13, 1, []), (18, 1, []), (19, 1, []), (20, 0, [])]))))))) (Tree.eff 5 [2, 7, 8, 9, 16] (Tree.line [(3, 2, [7, 8, 9, 16]), (4, 1, []), (10, 2, [16, 4]), (11, 1, []), (12, 1, []), (13, 1, []), (17, 2, [4, 11, 12, 13]), (18, 1, []), (19, 1, []), (20, 0, [])]))))))))))))) (by kernel_rfl) (by kernel_rfl) (by kernel_rfl) ?_) | ((with_reducible show Code.wp _ (Code.region 6 _ true) _ _ _); refine wp_region_tree (Tree.read 0 0 (Tree.read 1 0 (Tree.read 2 1 (Tree.read 6 0 (Tree.read 7 1 (Tree.read 8 1 (Tree.read 9 1 (Tree.read 14 0 (Tree.read 15 0 (Tree.read 16 1 (Tree.alt (Tree.eff 3 [7, 8, 9, 16] (Tree.read 4 1 (Tree.alt (Tree.eff 5 [2, 7, 8, 9, 16, 4] (Tree.line [(10, 2, [16, 4]), (11, 1, []), (12, 1, []), (13, 1, []), (17, 2, [4, 11, 12, 13]), (18, 1, []), (19, 1, []), (20, 0, [])])) (Tree.eff 10 [16, 4] (Tree.alt (Tree.eff 5 [2, 7, 8, 9, 16, 4] (Tree.line [(11, 1, []), (12, 1, []), (13, 1, []), (17, 2, [4, 11, 12, 13]), (18, 1, []), (19, 1, []), (20, 0, [])])) (Tree.eff 17 [4] (Tree.line [(5, 2, [2, 7, 8, 9, 16, 4]), (11, 1, []), (12, 1, []), (13, 1, []), (18, 1, []), (19, 1, []), (20, 0, [])]))))))) (Tree.eff 5 [2, 7, 8, 9, 16] (Tree.line [(3, 2, [7, 8, 9, 16]), (4, 1, []), (10, 2, [16, 4]), (11, 1, []), (12, 1, []), (13, 1, []), (17, 2, [4, 11, 12, 13]), (18, 1, []), (19, 1, []), (20, 0, [])]))))))))))))) (by kernel_rfl) (by kernel_rfl) (by kernel_rfl) ?_))
    · refine (IH _ _ _ _ _ _ _ _ _ _ _ _ _ _ HW1.out.drew hn (by omega) (by omega) (by omega) (by omega) (by omega)).mono ?_
      rintro e w2 ⟨s2, f2, rfl, hs2, hW2, hf2, hO2⟩
      have HW2 := Lib.hid hW2
      have HO2 := Lib.hid (HO1.out.drew.trans (hO2))
      have hc2 := hW2.c0
      have hl2 := hW2.lt
      clear hW2 hO2
      go_wp2_with (first | ((with_reducible show wpTree _ _ _ _ _ (Act.put _ _ _) _); simp only [List.getElem_toArray, List.getElem_cons_succ, List.getElem_cons_zero, Act.put, List.setIfInBounds_toArray, List.set_cons_zero, List.set_cons_succ]) | ((with_reducible show wpTree _ _ _ _ _ _ _); first | refine wpTree_line ?_ | refine wpTree_alt ?_ ?_ | (refine wpTree_read0 rfl ?hw rfl (fun _ _ _ => ?_); case hw => ((conv => (lhs; whnf)); first | done | with_reducible rfl)) | (refine wpTree_read1 rfl ?hw rfl (fun _ _ _ => ?_); case hw => ((conv => (lhs; whnf)); first | done | with_reducible rfl)) | (refine wpTree_eff rfl ?hw (fun _ _ => ?_); case hw => ((conv => (lhs; whnf)); first | done | with_reducible rfl)) | (refine wpTree_skip0 rfl ?hw ?_; case hw => ((conv => (lhs; whnf)); first | done | with_reducible rfl)) | (refine wpTree_skip1 rfl ?hw ?_; case hw => ((conv => (lhs; whnf)); first | done | with_reducible rfl)) | (refine wpTree_skip2 rfl ?hw ?_; case hw => ((conv => (lhs; whnf)); first | done | with_reducible rfl))) | ((with_reducible show OwedT _ _ _ _ _ _ _ _ _); first | refine OwedT.none_ ?_ | refine OwedT.nil_ ?_ | refine OwedT.miss rfl ?_ | refine OwedT.hit ?_ ?_) | ((with_reducible show wpPlan _ _ _ _ _ (Act.put _ _ _) _); simp only [List.getElem_toArray, List.getElem_cons_succ, List.getElem_cons_zero, Act.put, List.setIfInBounds_toArray, List.set_cons_zero, List.set_cons_succ]) | ((with_reducible show wpPlan _ _ _ _ _ _ _); first | refine wpPlan_nil ?_ | (refine wpPlan_read0 rfl ?hw rfl (fun _ _ _ => ?_); case hw => ((conv => (lhs; whnf)); first | done | with_reducible rfl)) | (refine wpPlan_read1d rfl ?hw rfl rfl (fun _ _ _ => ?_); case hw => ((conv => (lhs; whnf)); first | done | with_reducible rfl)) | (refine wpPlan_eff rfl ?hw (fun _ _ => ?_); case hw => ((conv => (lhs; whnf)); first | done | with_reducible rfl)) | (refine wpPlan_skip0 rfl ?hw ?_; case hw => ((conv => (lhs; whnf)); first | done | with_reducible rfl)) | (refine wpPlan_skip1d rfl ?hw ?_; case hw => ((conv => (lhs; whnf)); first | done | with_reducible rfl)) | (refine wpPlan_skip2 rfl ?hw ?_; case hw => ((conv => (lhs; whnf)); first | done | with_reducible rfl)) | (refine wpPlan_read1 rfl ?hw rfl (fun _ _ _ => ?_); case hw => ((conv => (lhs; whnf)); first | done | with_reducible rfl)) | refine wpPlan_fork ?_ ?_) | ((with_reducible show Owed _ _ _ _ _ _ _ _ _); first | refine Owed.none_ ?_ | refine Owed.nil_ ?_ | refine Owed.miss rfl ?_ | refine Owed.hit ?_ ?_) | ((with_reducible show Same _ _ _ _ _); intro _; go_simp; done) | (with_reducible exact True.intro))
      · have HN3 := Lib.hid (Blk.newAt (w := w2) (t := 9) (cs := (cellsOf scell [⟨#[32, 60, 32]⟩, ⟨#[32, 60, 61, 32]⟩, ⟨#[32, 61, 61, 32]⟩, ⟨#[32, 33, 61, 32]⟩, ⟨#[32, 62, 61, 32]⟩]).toArray) (g := w2.heap.size) rfl)
        have HW3 := Lib.hid (HW2.out.lit (.cells (cellsOf scell [⟨#[32, 60, 32]⟩, ⟨#[32, 60, 61, 32]⟩, ⟨#[32, 61, 61, 32]⟩, ⟨#[32, 33, 61, 32]⟩, ⟨#[32, 62, 61, 32]⟩]).toArray 9))
        have HO3 := Lib.hid (HO2.out.alloc (.cells (cellsOf scell [⟨#[32, 60, 32]⟩, ⟨#[32, 60, 61, 32]⟩, ⟨#[32, 61, 61, 32]⟩, ⟨#[32, 33, 61, 32]⟩, ⟨#[32, 62, 61, 32]⟩]).toArray 9))
        have hc3 := HW3.out.c0
        have hl3 := HW3.out.lt
        refine (wnext_any _ _ _ _ _ _ _ _ _ _ _ _ HW3.out 5 (by omega) (by omega) hn).mono ?_
        rintro e w4 ⟨⟨r4, rfl, hr4⟩, hW4, hO4⟩
        have HW4 := Lib.hid hW4
        have HO4 := Lib.hid (HO3.out.trans (hO4.mono (fun j _ h => h.1)))
        have hc4 := hW4.c0
        have hl4 := hW4.lt
        have HN4 := Lib.hid (HN3.out.out hO4 (fun h => h.2 rfl))
        clear hW4 hO4
        obtain ⟨x5, hx5, hxs5⟩ := pick_at HN4.out r4 (by simp; omega) 4 (by decide)
        have hlx5 := HN4.out.lt
        go_wp2_with (first | ((with_reducible show wpPlan _ _ _ _ _ (Act.put _ _ _) _); simp only [List.getElem_toArray, List.getElem_cons_succ, List.getElem_cons_zero, Act.put, List.setIfInBounds_toArray, List.set_cons_zero, List.set_cons_succ]) | ((with_reducible show wpPlan _ _ _ _ _ _ _); first | refine wpPlan_nil ?_ | (refine wpPlan_read0 rfl ?hw rfl (fun _ _ _ => ?_); case hw => ((conv => (lhs; whnf)); first | done | with_reducible rfl)) | (refine wpPlan_read1d rfl ?hw rfl rfl (fun _ _ _ => ?_); case hw => ((conv => (lhs; whnf)); first | done | with_reducible rfl)) | (refine wpPlan_eff rfl ?hw (fun _ _ => ?_); case hw => ((conv => (lhs; whnf)); first | done | with_reducible rfl)) | (refine wpPlan_skip0 rfl ?hw ?_; case hw => ((conv => (lhs; whnf)); first | done | with_reducible rfl)) | (refine wpPlan_skip1d rfl ?hw ?_; case hw => ((conv => (lhs; whnf)); first | done | with_reducible rfl)) | (refine wpPlan_skip2 rfl ?hw ?_; case hw => ((conv => (lhs; whnf)); first | done | with_reducible rfl)) | (refine wpPlan_read1 rfl ?hw rfl (fun _ _ _ => ?_); case hw => ((conv => (lhs; whnf)); first | done | with_reducible rfl)) | refine wpPlan_fork ?_ ?_) | ((with_reducible show Owed _ _ _ _ _ _ _ _ _); first | refine Owed.none_ ?_ | refine Owed.nil_ ?_ | refine Owed.miss rfl ?_ | refine Owed.hit ?_ ?_) | ((with_reducible show Same _ _ _ _ _); intro _; go_simp; done) | (with_reducible exact True.intro))
        refine (IH _ _ _ _ _ _ _ _ _ _ _ _ _ _ HW4.out hn (by omega) (by omega) (by omega) (by omega) (by omega)).mono ?_
        rintro e w6 ⟨s6, f6, rfl, hs6, hW6, hf6, hO6⟩
        have HW6 := Lib.hid hW6
        have HO6 := Lib.hid (HO4.out.trans (hO6.mono (fun j _ h => h.1)))
        have hc6 := hW6.c0
        have hl6 := hW6.lt
        have HN6 := Lib.hid (HN4.out.out hO6 (fun h => h.2 rfl))
        have hx6 := hO6.cell hx5 (fun h => h.2 rfl)
        clear hW6 hO6
        go_wp2_with (first | ((with_reducible show wpPlan _ _ _ _ _ (Act.put _ _ _) _); simp only [List.getElem_toArray, List.getElem_cons_succ, List.getElem_cons_zero, Act.put, List.setIfInBounds_toArray, List.set_cons_zero, List.set_cons_succ]) | ((with_reducible show wpPlan _ _ _ _ _ _ _); first | refine wpPlan_nil ?_ | (refine wpPlan_read0 rfl ?hw rfl (fun _ _ _ => ?_); case hw => ((conv => (lhs; whnf)); first | done | with_reducible rfl)) | (refine wpPlan_read1d rfl ?hw rfl rfl (fun _ _ _ => ?_); case hw => ((conv => (lhs; whnf)); first | done | with_reducible rfl)) | (refine wpPlan_eff rfl ?hw (fun _ _ => ?_); case hw => ((conv => (lhs; whnf)); first | done | with_reducible rfl)) | (refine wpPlan_skip0 rfl ?hw ?_; case hw => ((conv => (lhs; whnf)); first | done | with_reducible rfl)) | (refine wpPlan_skip1d rfl ?hw ?_; case hw => ((conv => (lhs; whnf)); first | done | with_reducible rfl)) | (refine wpPlan_skip2 rfl ?hw ?_; case hw => ((conv => (lhs; whnf)); first | done | with_reducible rfl)) | (refine wpPlan_read1 rfl ?hw rfl (fun _ _ _ => ?_); case hw => ((conv => (lhs; whnf)); first | done | with_reducible rfl)) | refine wpPlan_fork ?_ ?_) | ((with_reducible show Owed _ _ _ _ _ _ _ _ _); first | refine Owed.none_ ?_ | refine Owed.nil_ ?_ | refine Owed.miss rfl ?_ | refine Owed.hit ?_ ?_) | ((with_reducible show Same _ _ _ _ _); intro _; go_simp; done) | (with_reducible exact True.intro))
        go_ret
        exact ⟨_, _, rfl, (by simp [ByteArray.size_append, lit_size]; omega), HW6.out.weak (fun j h => h.1) HH.out.lo, by omega, HO6.out⟩
      · refine (wnext_any _ _ _ _ _ _ _ _ _ _ _ _ HW2.out 5 (by omega) (by omega) hn).mono ?_
        rintro e w7 ⟨⟨r7, rfl, hr7⟩, hW7, hO7⟩
        have HW7 := Lib.hid hW7
        have HO7 := Lib.hid (HO2.out.trans (hO7))
        have hc7 := hW7.c0
        have hl7 := hW7.lt
        clear hW7 hO7
        obtain ⟨x8, hx8, hxs8⟩ := pick_at (Blk.newAt (w := w7) (t := 9) (cs := (cellsOf scell [⟨#[32, 60, 32]⟩, ⟨#[32, 60, 61, 32]⟩, ⟨#[32, 61, 61, 32]⟩, ⟨#[32, 33, 61, 32]⟩, ⟨#[32, 62, 61, 32]⟩]).toArray) (g := w7.heap.size) rfl) r7 (by simp; omega) 4 (by decide)
        have hy8 : (w7.alloc (.cells #[.string ⟨#[32, 60, 32]⟩, .string ⟨#[32, 60, 61, 32]⟩, .string ⟨#[32, 61, 61, 32]⟩, .string ⟨#[32, 33, 61, 32]⟩, .string ⟨#[32, 62, 61, 32]⟩] 9)).cell? ⟨w7.heap.size, r7, none⟩ = some (.string x8) := hx8
        clear hx8
        go_wp2_with (first | ((with_reducible show wpTree _ _ _ _ _ (Act.put _ _ _) _); simp only [List.getElem_toArray, List.getElem_cons_succ, List.getElem_cons_zero, Act.put, List.setIfInBounds_toArray, List.set_cons_zero, List.set_cons_succ]) | ((with_reducible show wpTree _ _ _ _ _ _ _); first | refine wpTree_line ?_ | refine wpTree_alt ?_ ?_ | (refine wpTree_read0 rfl ?hw rfl (fun _ _ _ => ?_); case hw => ((conv => (lhs; whnf)); first | done | with_reducible rfl)) | (refine wpTree_read1 rfl ?hw rfl (fun _ _ _ => ?_); case hw => ((conv => (lhs; whnf)); first | done | with_reducible rfl)) | (refine wpTree_eff rfl ?hw (fun _ _ => ?_); case hw => ((conv => (lhs; whnf)); first | done | with_reducible rfl)) | (refine wpTree_skip0 rfl ?hw ?_; case hw => ((conv => (lhs; whnf)); first | done | with_reducible rfl)) | (refine wpTree_skip1 rfl ?hw ?_; case hw => ((conv => (lhs; whnf)); first | done | with_reducible rfl)) | (refine wpTree_skip2 rfl ?hw ?_; case hw => ((conv => (lhs; whnf)); first | done | with_reducible rfl))) | ((with_reducible show OwedT _ _ _ _ _ _ _ _ _); first | refine OwedT.none_ ?_ | refine OwedT.nil_ ?_ | refine OwedT.miss rfl ?_ | refine OwedT.hit ?_ ?_) | ((with_reducible show wpPlan _ _ _ _ _ (Act.put _ _ _) _); simp only [List.getElem_toArray, List.getElem_cons_succ, List.getElem_cons_zero, Act.put, List.setIfInBounds_toArray, List.set_cons_zero, List.set_cons_succ]) | ((with_reducible show wpPlan _ _ _ _ _ _ _); first | refine wpPlan_nil ?_ | (refine wpPlan_read0 rfl ?hw rfl (fun _ _ _ => ?_); case hw => ((conv => (lhs; whnf)); first | done | with_reducible rfl)) | (refine wpPlan_read1d rfl ?hw rfl rfl (fun _ _ _ => ?_); case hw => ((conv => (lhs; whnf)); first | done | with_reducible rfl)) | (refine wpPlan_eff rfl ?hw (fun _ _ => ?_); case hw => ((conv => (lhs; whnf)); first | done | with_reducible rfl)) | (refine wpPlan_skip0 rfl ?hw ?_; case hw => ((conv => (lhs; whnf)); first | done | with_reducible rfl)) | (refine wpPlan_skip1d rfl ?hw ?_; case hw => ((conv => (lhs; whnf)); first | done | with_reducible rfl)) | (refine wpPlan_skip2 rfl ?hw ?_; case hw => ((conv => (lhs; whnf)); first | done | with_reducible rfl)) | (refine wpPlan_read1 rfl ?hw rfl (fun _ _ _ => ?_); case hw => ((conv => (lhs; whnf)); first | done | with_reducible rfl)) | refine wpPlan_fork ?_ ?_) | ((with_reducible show Owed _ _ _ _ _ _ _ _ _); first | refine Owed.none_ ?_ | refine Owed.nil_ ?_ | refine Owed.miss rfl ?_ | refine Owed.hit ?_ ?_) | ((with_reducible show Same _ _ _ _ _); intro _; go_simp; done) | (with_reducible exact True.intro))
        · have HN9 := Lib.hid (Blk.newAt (w := w7) (t := 9) (cs := (cellsOf scell [⟨#[32, 60, 32]⟩, ⟨#[32, 60, 61, 32]⟩, ⟨#[32, 61, 61, 32]⟩, ⟨#[32, 33, 61, 32]⟩, ⟨#[32, 62, 61, 32]⟩]).toArray) (g := w7.heap.size) rfl)
          have HW9 := Lib.hid (HW7.out.lit (.cells (cellsOf scell [⟨#[32, 60, 32]⟩, ⟨#[32, 60, 61, 32]⟩, ⟨#[32, 61, 61, 32]⟩, ⟨#[32, 33, 61, 32]⟩, ⟨#[32, 62, 61, 32]⟩]).toArray 9))
          have HO9 := Lib.hid (HO7.out.alloc (.cells (cellsOf scell [⟨#[32, 60, 32]⟩, ⟨#[32, 60, 61, 32]⟩, ⟨#[32, 61, 61, 32]⟩, ⟨#[32, 33, 61, 32]⟩, ⟨#[32, 62, 61, 32]⟩]).toArray 9))
          have hc9 := HW9.out.c0
          have hl9 := HW9.out.lt
          refine (IH _ _ _ _ _ _ _ _ _ _ _ _ _ _ HW9.out hn (by omega) (by omega) (by omega) (by omega) (by omega)).mono ?_
          rintro e w10 ⟨s10, f10, rfl, hs10, hW10, hf10, hO10⟩
          have HW10 := Lib.hid hW10
          have HO10 := Lib.hid (HO9.out.trans (hO10.mono (fun j _ h => h.1)))
          have hc10 := hW10.c0
          have hl10 := hW10.lt
          have HN10 := Lib.hid (HN9.out.out hO10 (fun h => h.2 rfl))
          have hx10 := hO10.cell hy8 (fun h => h.2 rfl)
          clear hW10 hO10
          go_wp2_with (first | ((with_reducible show wpPlan _ _ _ _ _ (Act.put _ _ _) _); simp only [List.getElem_toArray, List.getElem_cons_succ, List.getElem_cons_zero, Act.put, List.setIfInBounds_toArray, List.set_cons_zero, List.set_cons_succ]) | ((with_reducible show wpPlan _ _ _ _ _ _ _); first | refine wpPlan_nil ?_ | (refine wpPlan_read0 rfl ?hw rfl (fun _ _ _ => ?_); case hw => ((conv => (lhs; whnf)); first | done | with_reducible rfl)) | (refine wpPlan_read1d rfl ?hw rfl rfl (fun _ _ _ => ?_); case hw => ((conv => (lhs; whnf)); first | done | with_reducible rfl)) | (refine wpPlan_eff rfl ?hw (fun _ _ => ?_); case hw => ((conv => (lhs; whnf)); first | done | with_reducible rfl)) | (refine wpPlan_skip0 rfl ?hw ?_; case hw => ((conv => (lhs; whnf)); first | done | with_reducible rfl)) | (refine wpPlan_skip1d rfl ?hw ?_; case hw => ((conv => (lhs; whnf)); first | done | with_reducible rfl)) | (refine wpPlan_skip2 rfl ?hw ?_; case hw => ((conv => (lhs; whnf)); first | done | with_reducible rfl)) | (refine wpPlan_read1 rfl ?hw rfl (fun _ _ _ => ?_); case hw => ((conv => (lhs; whnf)); first | done | with_reducible rfl)) | refine wpPlan_fork ?_ ?_) | ((with_reducible show Owed _ _ _ _ _ _ _ _ _); first | refine Owed.none_ ?_ | refine Owed.nil_ ?_ | refine Owed.miss rfl ?_ | refine Owed.hit ?_ ?_) | ((with_reducible show Same _ _ _ _ _); intro _; go_simp; done) | (with_reducible exact True.intro))
          go_ret
          exact ⟨_, _, rfl, (by simp [ByteArray.size_append, lit_size]; omega), HW10.out.weak (fun j h => h.1) HH.out.lo, by omega, HO10.out⟩
        · refine (IH _ _ _ _ _ _ _ _ _ _ _ _ _ _ HW7.out hn (by omega) (by omega) (by omega) (by omega) (by omega)).mono ?_
          rintro e w11 ⟨s11, f11, rfl, hs11, hW11, hf11, hO11⟩
          have HW11 := Lib.hid hW11
          have HO11 := Lib.hid (HO7.out.trans (hO11))
          have hc11 := hW11.c0
          have hl11 := hW11.lt
          clear hW11 hO11
          obtain ⟨x12, hx12, hxs12⟩ := pick_at (Blk.newAt (w := w11) (t := 9) (cs := (cellsOf scell [⟨#[32, 60, 32]⟩, ⟨#[32, 60, 61, 32]⟩, ⟨#[32, 61, 61, 32]⟩, ⟨#[32, 33, 61, 32]⟩, ⟨#[32, 62, 61, 32]⟩]).toArray) (g := w11.heap.size) rfl) r7 (by simp; omega) 4 (by decide)
          have hy12 : (w11.alloc (.cells #[.string ⟨#[32, 60, 32]⟩, .string ⟨#[32, 60, 61, 32]⟩, .string ⟨#[32, 61, 61, 32]⟩, .string ⟨#[32, 33, 61, 32]⟩, .string ⟨#[32, 62, 61, 32]⟩] 9)).cell? ⟨w11.heap.size, r7, none⟩ = some (.string x12) := hx12
          clear hx12
          go_wp2_with (first | ((with_reducible show wpTree _ _ _ _ _ (Act.put _ _ _) _); simp only [List.getElem_toArray, List.getElem_cons_succ, List.getElem_cons_zero, Act.put, List.setIfInBounds_toArray, List.set_cons_zero, List.set_cons_succ]) | ((with_reducible show wpTree _ _ _ _ _ _ _); first | refine wpTree_line ?_ | refine wpTree_alt ?_ ?_ | (refine wpTree_read0 rfl ?hw rfl (fun _ _ _ => ?_); case hw => ((conv => (lhs; whnf)); first | done | with_reducible rfl)) | (refine wpTree_read1 rfl ?hw rfl (fun _ _ _ => ?_); case hw => ((conv => (lhs; whnf)); first | done | with_reducible rfl)) | (refine wpTree_eff rfl ?hw (fun _ _ => ?_); case hw => ((conv => (lhs; whnf)); first | done | with_reducible rfl)) | (refine wpTree_skip0 rfl ?hw ?_; case hw => ((conv => (lhs; whnf)); first | done | with_reducible rfl)) | (refine wpTree_skip1 rfl ?hw ?_; case hw => ((conv => (lhs; whnf)); first | done | with_reducible rfl)) | (refine wpTree_skip2 rfl ?hw ?_; case hw => ((conv => (lhs; whnf)); first | done | with_reducible rfl))) | ((with_reducible show OwedT _ _ _ _ _ _ _ _ _); first | refine OwedT.none_ ?_ | refine OwedT.nil_ ?_ | refine OwedT.miss rfl ?_ | refine OwedT.hit ?_ ?_) | ((with_reducible show wpPlan _ _ _ _ _ (Act.put _ _ _) _); simp only [List.getElem_toArray, List.getElem_cons_succ, List.getElem_cons_zero, Act.put, List.setIfInBounds_toArray, List.set_cons_zero, List.set_cons_succ]) | ((with_reducible show wpPlan _ _ _ _ _ _ _); first | refine wpPlan_nil ?_ | (refine wpPlan_read0 rfl ?hw rfl (fun _ _ _ => ?_); case hw => ((conv => (lhs; whnf)); first | done | with_reducible rfl)) | (refine wpPlan_read1d rfl ?hw rfl rfl (fun _ _ _ => ?_); case hw => ((conv => (lhs; whnf)); first | done | with_reducible rfl)) | (refine wpPlan_eff rfl ?hw (fun _ _ => ?_); case hw => ((conv => (lhs; whnf)); first | done | with_reducible rfl)) | (refine wpPlan_skip0 rfl ?hw ?_; case hw => ((conv => (lhs; whnf)); first | done | with_reducible rfl)) | (refine wpPlan_skip1d rfl ?hw ?_; case hw => ((conv => (lhs; whnf)); first | done | with_reducible rfl)) | (refine wpPlan_skip2 rfl ?hw ?_; case hw => ((conv => (lhs; whnf)); first | done | with_reducible rfl)) | (refine wpPlan_read1 rfl ?hw rfl (fun _ _ _ => ?_); case hw => ((conv => (lhs; whnf)); first | done | with_reducible rfl)) | refine wpPlan_fork ?_ ?_) | ((with_reducible show Owed _ _ _ _ _ _ _ _ _); first | refine Owed.none_ ?_ | refine Owed.nil_ ?_ | refine Owed.miss rfl ?_ | refine Owed.hit ?_ ?_) | ((with_reducible show Same _ _ _ _ _); intro _; go_simp; done) | (with_reducible exact True.intro))
          go_ret
          exact ⟨_, _, rfl, (by simp [ByteArray.size_append, lit_size]; omega), HW11.out.alloc _, by omega, HO11.out.alloc _⟩
    · have HN13 := Lib.hid (Blk.newAt (w := w1) (t := 9) (cs := (cellsOf scell [⟨#[32, 60, 32]⟩, ⟨#[32, 60, 61, 32]⟩, ⟨#[32, 61, 61, 32]⟩, ⟨#[32, 33, 61, 32]⟩, ⟨#[32, 62, 61, 32]⟩]).toArray) (g := w1.heap.size) rfl)
      have HW13 := Lib.hid (HW1.out.lit (.cells (cellsOf scell [⟨#[32, 60, 32]⟩, ⟨#[32, 60, 61, 32]⟩, ⟨#[32, 61, 61, 32]⟩, ⟨#[32, 33, 61, 32]⟩, ⟨#[32, 62, 61, 32]⟩]).toArray 9))
      have HO13 := Lib.hid (HO1.out.alloc (.cells (cellsOf scell [⟨#[32, 60, 32]⟩, ⟨#[32, 60, 61, 32]⟩, ⟨#[32, 61, 61, 32]⟩, ⟨#[32, 33, 61, 32]⟩, ⟨#[32, 62, 61, 32]⟩]).toArray 9))
      have hc13 := HW13.out.c0
      have hl13 := HW13.out.lt
      refine (IH _ _ _ _ _ _ _ _ _ _ _ _ _ _ HW13.out.drew hn (by omega) (by omega) (by omega) (by omega) (by omega)).mono ?_
      rintro e w14 ⟨s14, f14, rfl, hs14, hW14, hf14, hO14⟩
      have HW14 := Lib.hid hW14
      have HO14 := Lib.hid (HO13.out.drew.trans (hO14.mono (fun j _ h => h.1)))
      have hc14 := hW14.c0
      have hl14 := hW14.lt
      have HN14 := Lib.hid (HN13.out.drew.out hO14 (fun h => h.2 rfl))
      clear hW14 hO14
      go_wp2_with (first | ((with_reducible show wpPlan _ _ _ _ _ (Act.put _ _ _) _); simp only [List.getElem_toArray, List.getElem_cons_succ, List.getElem_cons_zero, Act.put, List.setIfInBounds_toArray, List.set_cons_zero, List.set_cons_succ]) | ((with_reducible show wpPlan _ _ _ _ _ _ _); first | refine wpPlan_nil ?_ | (refine wpPlan_read0 rfl ?hw rfl (fun _ _ _ => ?_); case hw => ((conv => (lhs; whnf)); first | done | with_reducible rfl)) | (refine wpPlan_read1d rfl ?hw rfl rfl (fun _ _ _ => ?_); case hw => ((conv => (lhs; whnf)); first | done | with_reducible rfl)) | (refine wpPlan_eff rfl ?hw (fun _ _ => ?_); case hw => ((conv => (lhs; whnf)); first | done | with_reducible rfl)) | (refine wpPlan_skip0 rfl ?hw ?_; case hw => ((conv => (lhs; whnf)); first | done | with_reducible rfl)) | (refine wpPlan_skip1d rfl ?hw ?_; case hw => ((conv => (lhs; whnf)); first | done | with_reducible rfl)) | (refine wpPlan_skip2 rfl ?hw ?_; case hw => ((conv => (lhs; whnf)); first | done | with_reducible rfl)) | (refine wpPlan_read1 rfl ?hw rfl (fun _ _ _ => ?_); case hw => ((conv => (lhs; whnf)); first | done | with_reducible rfl)) | refine wpPlan_fork ?_ ?_) | ((with_reducible show Owed _ _ _ _ _ _ _ _ _); first | refine Owed.none_ ?_ | refine Owed.nil_ ?_ | refine Owed.miss rfl ?_ | refine Owed.hit ?_ ?_) | ((with_reducible show Same _ _ _ _ _); intro _; go_simp; done) | (with_reducible exact True.intro))
      refine (wnext_any _ _ _ _ _ _ _ _ _ _ _ _ HW14.out 5 (by omega) (by omega) hn).mono ?_
      rintro e w15 ⟨⟨r15, rfl, hr15⟩, hW15, hO15⟩
      have HW15 := Lib.hid hW15
      have HO15 := Lib.hid (HO14.out.trans (hO15.mono (fun j _ h => h.1)))
      have hc15 := hW15.c0
      have hl15 := hW15.lt
      have HN15 := Lib.hid (HN14.out.out hO15 (fun h => h.2 rfl))
      clear hW15 hO15
      obtain ⟨x16, hx16, hxs16⟩ := pick_at HN15.out r15 (by simp; omega) 4 (by decide)
      have hlx16 := HN15.out.lt
      go_wp2_with (first | ((with_reducible show wpPlan _ _ _ _ _ (Act.put _ _ _) _); simp only [List.getElem_toArray, List.getElem_cons_succ, List.getElem_cons_zero, Act.put, List.setIfInBounds_toArray, List.set_cons_zero, List.set_cons_succ]) | ((with_reducible show wpPlan _ _ _ _ _ _ _); first | refine wpPlan_nil ?_ | (refine wpPlan_read0 rfl ?hw rfl (fun _ _ _ => ?_); case hw => ((conv => (lhs; whnf)); first | done | with_reducible rfl)) | (refine wpPlan_read1d rfl ?hw rfl rfl (fun _ _ _ => ?_); case hw => ((conv => (lhs; whnf)); first | done | with_reducible rfl)) | (refine wpPlan_eff rfl ?hw (fun _ _ => ?_); case hw => ((conv => (lhs; whnf)); first | done | with_reducible rfl)) | (refine wpPlan_skip0 rfl ?hw ?_; case hw => ((conv => (lhs; whnf)); first | done | with_reducible rfl)) | (refine wpPlan_skip1d rfl ?hw ?_; case hw => ((conv => (lhs; whnf)); first | done | with_reducible rfl)) | (refine wpPlan_skip2 rfl ?hw ?_; case hw => ((conv => (lhs; whnf)); first | done | with_reducible rfl)) | (refine wpPlan_read1 rfl ?hw rfl (fun _ _ _ => ?_); case hw => ((conv => (lhs; whnf)); first | done | with_reducible rfl)) | refine wpPlan_fork ?_ ?_) | ((with_reducible show Owed _ _ _ _ _ _ _ _ _); first | refine Owed.none_ ?_ | refine Owed.nil_ ?_ | refine Owed.miss rfl ?_ | refine Owed.hit ?_ ?_) | ((with_reducible show Same _ _ _ _ _); intro _; go_simp; done) | (with_reducible exact True.intro))
      refine (IH _ _ _ _ _ _ _ _ _ _ _ _ _ _ HW15.out hn (by omega) (by omega) (by omega) (by omega) (by omega)).mono ?_
      rintro e w17 ⟨s17, f17, rfl, hs17, hW17, hf17, hO17⟩
      have HW17 := Lib.hid hW17
      have HO17 := Lib.hid (HO15.out.trans (hO17.mono (fun j _ h => h.1)))
      have hc17 := hW17.c0
      have hl17 := hW17.lt
      have HN17 := Lib.hid (HN15.out.out hO17 (fun h => h.2 rfl))
      have hx17 := hO17.cell hx16 (fun h => h.2 rfl)
      clear hW17 hO17
      go_wp2_with (first | ((with_reducible show wpPlan _ _ _ _ _ (Act.put _ _ _) _); simp only [List.getElem_toArray, List.getElem_cons_succ, List.getElem_cons_zero, Act.put, List.setIfInBounds_toArray, List.set_cons_zero, List.set_cons_succ]) | ((with_reducible show wpPlan _ _ _ _ _ _ _); first | refine wpPlan_nil ?_ | (refine wpPlan_read0 rfl ?hw rfl (fun _ _ _ => ?_); case hw => ((conv => (lhs; whnf)); first | done | with_reducible rfl)) | (refine wpPlan_read1d rfl ?hw rfl rfl (fun _ _ _ => ?_); case hw => ((conv => (lhs; whnf)); first | done | with_reducible rfl)) | (refine wpPlan_eff rfl ?hw (fun _ _ => ?_); case hw => ((conv => (lhs; whnf)); first | done | with_reducible rfl)) | (refine wpPlan_skip0 rfl ?hw ?_; case hw => ((conv => (lhs; whnf)); first | done | with_reducible rfl)) | (refine wpPlan_skip1d rfl ?hw ?_; case hw => ((conv => (lhs; whnf)); first | done | with_reducible rfl)) | (refine wpPlan_skip2 rfl ?hw ?_; case hw => ((conv => (lhs; whnf)); first | done | with_reducible rfl)) | (refine wpPlan_read1 rfl ?hw rfl (fun _ _ _ => ?_); case hw => ((conv => (lhs; whnf)); first | done | with_reducible rfl)) | refine wpPlan_fork ?_ ?_) | ((with_reducible show Owed _ _ _ _ _ _ _ _ _); first | refine Owed.none_ ?_ | refine Owed.nil_ ?_ | refine Owed.miss rfl ?_ | refine Owed.hit ?_ ?_) | ((with_reducible show Same _ _ _ _ _); intro _; go_simp; done) | (with_reducible exact True.intro))
      go_ret
      exact ⟨_, _, rfl, (by simp [ByteArray.size_append, lit_size]; omega), HW17.out.weak (fun j h => h.1) HH.out.lo, by omega, HO17.out⟩
  · go_wp2_with (first | ((with_reducible show wpTree _ _ _ _ _ (Act.put _ _ _) _); simp only [List.getElem_toArray, List.getElem_cons_succ, List.getElem_cons_zero, Act.put, List.setIfInBounds_toArray, List.set_cons_zero, List.set_cons_succ]) | ((with_reducible show wpTree _ _ _ _ _ _ _); first | refine wpTree_line ?_ | refine wpTree_alt ?_ ?_ | (refine wpTree_read0 rfl ?hw rfl (fun _ _ _ => ?_); case hw => ((conv => (lhs; whnf)); first | done | with_reducible rfl)) | (refine wpTree_read1 rfl ?hw rfl (fun _ _ _ => ?_); case hw => ((conv => (lhs; whnf)); first | done | with_reducible rfl)) | (refine wpTree_eff rfl ?hw (fun _ _ => ?_); case hw => ((conv => (lhs; whnf)); first | done | with_reducible rfl)) | (refine wpTree_skip0 rfl ?hw ?_; case hw => ((conv => (lhs; whnf)); first | done | with_reducible rfl)) | (refine wpTree_skip1 rfl ?hw ?_; case hw => ((conv => (lhs; whnf)); first | done | with_reducible rfl)) | (refine wpTree_skip2 rfl ?hw ?_; case hw => ((conv => (lhs; whnf)); first | done | with_reducible rfl))) | ((with_reducible show OwedT _ _ _ _ _ _ _ _ _); first | refine OwedT.none_ ?_ | refine OwedT.nil_ ?_ | refine OwedT.miss rfl ?_ | refine OwedT.hit ?_ ?_) | ((with_reducible show wpPlan _ _ _ _ _ (Act.put _ _ _) _); simp only [List.getElem_toArray, List.getElem_cons_succ, List.getElem_cons_zero, Act.put, List.setIfInBounds_toArray, List.set_cons_zero, List.set_cons_succ]) | ((with_reducible show wpPlan _ _ _ _ _ _ _); first | refine wpPlan_nil ?_ | (refine wpPlan_read0 rfl ?hw rfl (fun _ _ _ => ?_); case hw => ((conv => (lhs; whnf)); first | done | with_reducible rfl)) | (refine wpPlan_read1d rfl ?hw rfl rfl (fun _ _ _ => ?_); case hw => ((conv => (lhs; whnf)); first | done | with_reducible rfl)) | (refine wpPlan_eff rfl ?hw (fun _ _ => ?_); case hw => ((conv => (lhs; whnf)); first | done | with_reducible rfl)) | (refine wpPlan_skip0 rfl ?hw ?_; case hw => ((conv => (lhs; whnf)); first | done | with_reducible rfl)) | (refine wpPlan_skip1d rfl ?hw ?_; case hw => ((conv => (lhs; whnf)); first | done | with_reducible rfl)) | (refine wpPlan_skip2 rfl ?hw ?_; case hw => ((conv => (lhs; whnf)); first | done | with_reducible rfl)) | (refine wpPlan_read1 rfl ?hw rfl (fun _ _ _ => ?_); case hw => ((conv => (lhs; whnf)); first | done | with_reducible rfl)) | refine wpPlan_fork ?_ ?_) | ((with_reducible show Owed _ _ _ _ _ _ _ _ _); first | refine Owed.none_ ?_ | refine Owed.nil_ ?_ | refine Owed.miss rfl ?_ | refine Owed.hit ?_ ?_) | ((with_reducible show Same _ _ _ _ _); intro _; go_simp; done) | (with_reducible exact True.intro) | ((with_reducible show Code.wp _ (Code.region 4 _ true) _ _ _); refine wp_region_tree (Tree.read 0 0 (Tree.read 1 0 (Tree.read 2 1 (Tree.read 6 0 (Tree.read 7 1 (Tree.read 8 1 (Tree.read 9 1 (Tree.read 14 0 (Tree.read 15 0 (Tree.read 16 1 (Tree.alt (Tree.eff 3 [7, 8, 9, 16] (Tree.read 4 1 (Tree.alt (Tree.eff 5 [2, 7, 8, 9, 16, 4] (Tree.line [(10, 2, [16, 4]), (11, 1, []), (12, 1, []), (13, 1, []), (17, 2, [4, 11, 12, 13]), (18, 1, []), (19, 1, []), (20, 0, [])])) (Tree.eff 10 [16, 4] (Tree.alt (Tree.eff 5 [2, 7, 8, 9, 16, 4] (Tree.line [(11, 1, []), (12, 1, []), (13, 1, []), (17, 2, [4, 11, 12, 13]), (18, 1, []), (19, 1, []), (20, 0, [])])) (Tree.eff 17 [4] (Tree.line [(5, 2, [2, 7, 8, 9, 16, 4]), (11, 1, []), (12, 1, []), (13, 1, []), (18, 1, []), (19, 1, []), (20, 0, [])]))))))) (Tree.eff 5 [2, 7, 8, 9, 16] (Tree.line [(3, 2, [7, 8, 9, 16]), (4, 1, []), (10, 2, [16, 4]), (11, 1, []), (12, 1, []), (13, 1, []), (17, 2, [4, 11, 12, 13]), (18, 1, []), (19, 1, []), (20, 0, [])]))))))))))))) (by kernel_rfl) (by kernel_rfl) (by kernel_rfl) ?_) | ((with_reducible show Code.wp _ (Code.region 6 _ true) _ _ _); refine wp_region_tree (Tree.read 0 0 (Tree.read 1 0 (Tree.read 2 1 (Tree.read 6 0 (Tree.read 7 1 (Tree.read 8 1 (Tree.read 9 1 (Tree.read 14 0 (Tree.read 15 0 (Tree.read 16 1 (Tree.alt (Tree.eff 3 [7, 8, 9, 16] (Tree.read 4 1 (Tree.alt (Tree.eff 5 [2, 7, 8, 9, 16, 4] (Tree.line [(10, 2, [16, 4]), (11, 1, []), (12, 1, []), (13, 1, []), (17, 2, [4, 11, 12, 13]), (18, 1, []), (19, 1, []), (20, 0, [])])) (Tree.eff 10 [16, 4] (Tree.alt (Tree.eff 5 [2, 7, 8, 9, 16, 4] (Tree.line [(11, 1, []), (12, 1, []), (13, 1, []), (17, 2, [4, 11, 12, 13]), (18, 1, []), (19, 1, []), (20, 0, [])])) (Tree.eff 17 [4] (Tree.line [(5, 2, [2, 7, 8, 9, 16, 4]), (11, 1, []), (12, 1, []), (13, 1, []), (18, 1, []), (19, 1, []), (20, 0, [])]))))))) (Tree.eff 5 [2, 7, 8, 9, 16] (Tree.line [(3, 2, [7, 8, 9, 16]), (4, 1, []), (10, 2, [16, 4]), (11, 1, []), (12, 1, []), (13, 1, []), (17, 2, [4, 11, 12, 13]), (18, 1, []), (19, 1, []), (20, 0, [])]))))))))))))) (by kernel_rfl) (by kernel_rfl) (by kernel_rfl) ?_))
    · refine (IH _ _ _ _ _ _ _ _ _ _ _ _ _ _ HW1.out.drew hn (by omega) (by omega) (by omega) (by omega) (by omega)).mono ?_
      rintro e w18 ⟨s18, f18, rfl, hs18, hW18, hf18, hO18⟩
      have HW18 := Lib.hid hW18
      have HO18 := Lib.hid (HO1.out.drew.trans (hO18))
      have hc18 := hW18.c0
      have hl18 := hW18.lt
      clear hW18 hO18
      go_wp2_with (first | ((with_reducible show wpTree _ _ _ _ _ (Act.put _ _ _) _); simp only [List.getElem_toArray, List.getElem_cons_succ, List.getElem_cons_zero, Act.put, List.setIfInBounds_toArray, List.set_cons_zero, List.set_cons_succ]) | ((with_reducible show wpTree _ _ _ _ _ _ _); first | refine wpTree_line ?_ | refine wpTree_alt ?_ ?_ | (refine wpTree_read0 rfl ?hw rfl (fun _ _ _ => ?_); case hw => ((conv => (lhs; whnf)); first | done | with_reducible rfl)) | (refine wpTree_read1 rfl ?hw rfl (fun _ _ _ => ?_); case hw => ((conv => (lhs; whnf)); first | done | with_reducible rfl)) | (refine wpTree_eff rfl ?hw (fun _ _ => ?_); case hw => ((conv => (lhs; whnf)); first | done | with_reducible rfl)) | (refine wpTree_skip0 rfl ?hw ?_; case hw => ((conv => (lhs; whnf)); first | done | with_reducible rfl)) | (refine wpTree_skip1 rfl ?hw ?_; case hw => ((conv => (lhs; whnf)); first | done | with_reducible rfl)) | (refine wpTree_skip2 rfl ?hw ?_; case hw => ((conv => (lhs; whnf)); first | done | with_reducible rfl))) | ((with_reducible show OwedT _ _ _ _ _ _ _ _ _); first | refine OwedT.none_ ?_ | refine OwedT.nil_ ?_ | refine OwedT.miss rfl ?_ | refine OwedT.hit ?_ ?_) | ((with_reducible show wpPlan _ _ _ _ _ (Act.put _ _ _) _); simp only [List.getElem_toArray, List.getElem_cons_succ, List.getElem_cons_zero, Act.put, List.setIfInBounds_toArray, List.set_cons_zero, List.set_cons_succ]) | ((with_reducible show wpPlan _ _ _ _ _ _ _); first | refine wpPlan_nil ?_ | (refine wpPlan_read0 rfl ?hw rfl (fun _ _ _ => ?_); case hw => ((conv => (lhs; whnf)); first | done | with_reducible rfl)) | (refine wpPlan_read1d rfl ?hw rfl rfl (fun _ _ _ => ?_); case hw => ((conv => (lhs; whnf)); first | done | with_reducible rfl)) | (refine wpPlan_eff rfl ?hw (fun _ _ => ?_); case hw => ((conv => (lhs; whnf)); first | done | with_reducible rfl)) | (refine wpPlan_skip0 rfl ?hw ?_; case hw => ((conv => (lhs; whnf)); first | done | with_reducible rfl)) | (refine wpPlan_skip1d rfl ?hw ?_; case hw => ((conv => (lhs; whnf)); first | done | with_reducible rfl)) | (refine wpPlan_skip2 rfl ?hw ?_; case hw => ((conv => (lhs; whnf)); first | done | with_reducible rfl)) | (refine wpPlan_read1 rfl ?hw rfl (fun _ _ _ => ?_); case hw => ((conv => (lhs; whnf)); first | done | with_reducible rfl)) | refine wpPlan_fork ?_ ?_) | ((with_reducible show Owed _ _ _ _ _ _ _ _ _); first | refine Owed.none_ ?_ | refine Owed.nil_ ?_ | refine Owed.miss rfl ?_ | refine Owed.hit ?_ ?_) | ((with_reducible show Same _ _ _ _ _); intro _; go_simp; done) | (with_reducible exact True.intro))
      · have HN19 := Lib.hid (Blk.newAt (w := w18) (t := 9) (cs := (cellsOf scell [⟨#[32, 60, 32]⟩, ⟨#[32, 60, 61, 32]⟩, ⟨#[32, 61, 61, 32]⟩, ⟨#[32, 33, 61, 32]⟩, ⟨#[32, 62, 61, 32]⟩]).toArray) (g := w18.heap.size) rfl)
        have HW19 := Lib.hid (HW18.out.lit (.cells (cellsOf scell [⟨#[32, 60, 32]⟩, ⟨#[32, 60, 61, 32]⟩, ⟨#[32, 61, 61, 32]⟩, ⟨#[32, 33, 61, 32]⟩, ⟨#[32, 62, 61, 32]⟩]).toArray 9))
        have HO19 := Lib.hid (HO18.out.alloc (.cells (cellsOf scell [⟨#[32, 60, 32]⟩, ⟨#[32, 60, 61, 32]⟩, ⟨#[32, 61, 61, 32]⟩, ⟨#[32, 33, 61, 32]⟩, ⟨#[32, 62, 61, 32]⟩]).toArray 9))
        have hc19 := HW19.out.c0
        have hl19 := HW19.out.lt
        refine (wnext_any _ _ _ _ _ _ _ _ _ _ _ _ HW19.out 5 (by omega) (by omega) hn).mono ?_
        rintro e w20 ⟨⟨r20, rfl, hr20⟩, hW20, hO20⟩
        have HW20 := Lib.hid hW20
        have HO20 := Lib.hid (HO19.out.trans (hO20.mono (fun j _ h => h.1)))
        have hc20 := hW20.c0
        have hl20 := hW20.lt
        have HN20 := Lib.hid (HN19.out.out hO20 (fun h => h.2 rfl))
        clear hW20 hO20
        obtain ⟨x21, hx21, hxs21⟩ := pick_at HN20.out r20 (by simp; omega) 4 (by decide)
        have hlx21 := HN20.out.lt
        go_wp2_with (first | ((with_reducible show wpPlan _ _ _ _ _ (Act.put _ _ _) _); simp only [List.getElem_toArray, List.getElem_cons_succ, List.getElem_cons_zero, Act.put, List.setIfInBounds_toArray, List.set_cons_zero, List.set_cons_succ]) | ((with_reducible show wpPlan _ _ _ _ _ _ _); first | refine wpPlan_nil ?_ | (refine wpPlan_read0 rfl ?hw rfl (fun _ _ _ => ?_); case hw => ((conv => (lhs; whnf)); first | done | with_reducible rfl)) | (refine wpPlan_read1d rfl ?hw rfl rfl (fun _ _ _ => ?_); case hw => ((conv => (lhs; whnf)); first | done | with_reducible rfl)) | (refine wpPlan_eff rfl ?hw (fun _ _ => ?_); case hw => ((conv => (lhs; whnf)); first | done | with_reducible rfl)) | (refine wpPlan_skip0 rfl ?hw ?_; case hw => ((conv => (lhs; whnf)); first | done | with_reducible rfl)) | (refine wpPlan_skip1d rfl ?hw ?_; case hw => ((conv => (lhs; whnf)); first | done | with_reducible rfl)) | (refine wpPlan_skip2 rfl ?hw ?_; case hw => ((conv => (lhs; whnf)); first | done | with_reducible rfl)) | (refine wpPlan_read1 rfl ?hw rfl (fun _ _ _ => ?_); case hw => ((conv => (lhs; whnf)); first | done | with_reducible rfl)) | refine wpPlan_fork ?_ ?_) | ((with_reducible show Owed _ _ _ _ _ _ _ _ _); first | refine Owed.none_ ?_ | refine Owed.nil_ ?_ | refine Owed.miss rfl ?_ | refine Owed.hit ?_ ?_) | ((with_reducible show Same _ _ _ _ _); intro _; go_simp; done) | (with_reducible exact True.intro))
        refine (IH _ _ _ _ _ _ _ _ _ _ _ _ _ _ HW20.out hn (by omega) (by omega) (by omega) (by omega) (by omega)).mono ?_
        rintro e w22 ⟨s22, f22, rfl, hs22, hW22, hf22, hO22⟩
        have HW22 := Lib.hid hW22
        have HO22 := Lib.hid (HO20.out.trans (hO22.mono (fun j _ h => h.1)))
        have hc22 := hW22.c0
        have hl22 := hW22.lt
        have HN22 := Lib.hid (HN20.out.out hO22 (fun h => h.2 rfl))
        have hx22 := hO22.cell hx21 (fun h => h.2 rfl)
        clear hW22 hO22
        go_wp2_with (first | ((with_reducible show wpPlan _ _ _ _ _ (Act.put _ _ _) _); simp only [List.getElem_toArray, List.getElem_cons_succ, List.getElem_cons_zero, Act.put, List.setIfInBounds_toArray, List.set_cons_zero, List.set_cons_succ]) | ((with_reducible show wpPlan _ _ _ _ _ _ _); first | refine wpPlan_nil ?_ | (refine wpPlan_read0 rfl ?hw rfl (fun _ _ _ => ?_); case hw => ((conv => (lhs; whnf)); first | done | with_reducible rfl)) | (refine wpPlan_read1d rfl ?hw rfl rfl (fun _ _ _ => ?_); case hw => ((conv => (lhs; whnf)); first | done | with_reducible rfl)) | (refine wpPlan_eff rfl ?hw (fun _ _ => ?_); case hw => ((conv => (lhs; whnf)); first | done | with_reducible rfl)) | (refine wpPlan_skip0 rfl ?hw ?_; case hw => ((conv => (lhs; whnf)); first | done | with_reducible rfl)) | (refine wpPlan_skip1d rfl ?hw ?_; case hw => ((conv => (lhs; whnf)); first | done | with_reducible rfl)) | (refine wpPlan_skip2 rfl ?hw ?_; case hw => ((conv => (lhs; whnf)); first | done | with_reducible rfl)) | (refine wpPlan_read1 rfl ?hw rfl (fun _ _ _ => ?_); case hw => ((conv => (lhs; whnf)); first | done | with_reducible rfl)) | refine wpPlan_fork ?_ ?_) | ((with_reducible show Owed _ _ _ _ _ _ _ _ _); first | refine Owed.none_ ?_ | refine Owed.nil_ ?_ | refine Owed.miss rfl ?_ | refine Owed.hit ?_ ?_) | ((with_reducible show Same _ _ _ _ _); intro _; go_simp; done) | (with_reducible exact True.intro))
        go_ret
        exact ⟨_, _, rfl, (by simp [ByteArray.size_append, lit_size]; omega), HW22.out.weak (fun j h => h.1) HH.out.lo, by omega, HO22.out⟩
      · refine (wnext_any _ _ _ _ _ _ _ _ _ _ _ _ HW18.out 5 (by omega) (by omega) hn).mono ?_
        rintro e w23 ⟨⟨r23, rfl, hr23⟩, hW23, hO23⟩
        have HW23 := Lib.hid hW23
        have HO23 := Lib.hid (HO18.out.trans (hO23))
        have hc23 := hW23.c0
        have hl23 := hW23.lt
        clear hW23 hO23
        obtain ⟨x24, hx24, hxs24⟩ := pick_at (Blk.newAt (w := w23) (t := 9) (cs := (cellsOf scell [⟨#[32, 60, 32]⟩, ⟨#[32, 60, 61, 32]⟩, ⟨#[32, 61, 61, 32]⟩, ⟨#[32, 33, 61, 32]⟩, ⟨#[32, 62, 61, 32]⟩]).toArray) (g := w23.heap.size) rfl) r23 (by simp; omega) 4 (by decide)
        have hy24 : (w23.alloc (.cells #[.string ⟨#[32, 60, 32]⟩, .string ⟨#[32, 60, 61, 32]⟩, .string ⟨#[32, 61, 61, 32]⟩, .string ⟨#[32, 33, 61, 32]⟩, .string ⟨#[32, 62, 61, 32]⟩] 9)).cell? ⟨w23.heap.size, r23, none⟩ = some (.string x24) := hx24
        clear hx24
        go_wp2_with (first | ((with_reducible show wpTree _ _ _ _ _ (Act.put _ _ _) _); simp only [List.getElem_toArray, List.getElem_cons_succ, List.getElem_cons_zero, Act.put, List.setIfInBounds_toArray, List.set_cons_zero, List.set_cons_succ]) | ((with_reducible show wpTree _ _ _ _ _ _ _); first | refine wpTree_line ?_ | refine wpTree_alt ?_ ?_ | (refine wpTree_read0 rfl ?hw rfl (fun _ _ _ => ?_); case hw => ((conv => (lhs; whnf)); first | done | with_reducible rfl)) | (refine wpTree_read1 rfl ?hw rfl (fun _ _ _ => ?_); case hw => ((conv => (lhs; whnf)); first | done | with_reducible rfl)) | (refine wpTree_eff rfl ?hw (fun _ _ => ?_); case hw => ((conv => (lhs; whnf)); first | done | with_reducible rfl)) | (refine wpTree_skip0 rfl ?hw ?_; case hw => ((conv => (lhs; whnf)); first | done | with_reducible rfl)) | (refine wpTree_skip1 rfl ?hw ?_; case hw => ((conv => (lhs; whnf)); first | done | with_reducible rfl)) | (refine wpTree_skip2 rfl ?hw ?_; case hw => ((conv => (lhs; whnf)); first | done | with_reducible rfl))) | ((with_reducible show OwedT _ _ _ _ _ _ _ _ _); first | refine OwedT.none_ ?_ | refine OwedT.nil_ ?_ | refine OwedT.miss rfl ?_ | refine OwedT.hit ?_ ?_) | ((with_reducible show wpPlan _ _ _ _ _ (Act.put _ _ _) _); simp only [List.getElem_toArray, List.getElem_cons_succ, List.getElem_cons_zero, Act.put, List.setIfInBounds_toArray, List.set_cons_zero, List.set_cons_succ]) | ((with_reducible show wpPlan _ _ _ _ _ _ _); first | refine wpPlan_nil ?_ | (refine wpPlan_read0 rfl ?hw rfl (fun _ _ _ => ?_); case hw => ((conv => (lhs; whnf)); first | done | with_reducible rfl)) | (refine wpPlan_read1d rfl ?hw rfl rfl (fun _ _ _ => ?_); case hw => ((conv => (lhs; whnf)); first | done | with_reducible rfl)) | (refine wpPlan_eff rfl ?hw (fun _ _ => ?_); case hw => ((conv => (lhs; whnf)); first | done | with_reducible rfl)) | (refine wpPlan_skip0 rfl ?hw ?_; case hw => ((conv => (lhs; whnf)); first | done | with_reducible rfl)) | (refine wpPlan_skip1d rfl ?hw ?_; case hw => ((conv => (lhs; whnf)); first | done | with_reducible rfl)) | (refine wpPlan_skip2 rfl ?hw ?_; case hw => ((conv => (lhs; whnf)); first | done | with_reducible rfl)) | (refine wpPlan_read1 rfl ?hw rfl (fun _ _ _ => ?_); case hw => ((conv => (lhs; whnf)); first | done | with_reducible rfl)) | refine wpPlan_fork ?_ ?_) | ((with_reducible show Owed _ _ _ _ _ _ _ _ _); first | refine Owed.none_ ?_ | refine Owed.nil_ ?_ | refine Owed.miss rfl ?_ | refine Owed.hit ?_ ?_) | ((with_reducible show Same _ _ _ _ _); intro _; go_simp; done) | (with_reducible exact True.intro))
        · have HN25 := Lib.hid (Blk.newAt (w := w23) (t := 9) (cs := (cellsOf scell [⟨#[32, 60, 32]⟩, ⟨#[32, 60, 61, 32]⟩, ⟨#[32, 61, 61, 32]⟩, ⟨#[32, 33, 61, 32]⟩, ⟨#[32, 62, 61, 32]⟩]).toArray) (g := w23.heap.size) rfl)
          have HW25 := Lib.hid (HW23.out.lit (.cells (cellsOf scell [⟨#[32, 60, 32]⟩, ⟨#[32, 60, 61, 32]⟩, ⟨#[32, 61, 61, 32]⟩, ⟨#[32, 33, 61, 32]⟩, ⟨#[32, 62, 61, 32]⟩]).toArray 9))
          have HO25 := Lib.hid (HO23.out.alloc (.cells (cellsOf scell [⟨#[32, 60, 32]⟩, ⟨#[32, 60, 61, 32]⟩, ⟨#[32, 61, 61, 32]⟩, ⟨#[32, 33, 61, 32]⟩, ⟨#[32, 62, 61, 32]⟩]).toArray 9))
          have hc25 := HW25.out.c0
          have hl25 := HW25.out.lt
          refine (IH _ _ _ _ _ _ _ _ _ _ _ _ _ _ HW25.out hn (by omega) (by omega) (by omega) (by omega) (by omega)).mono ?_
          rintro e w26 ⟨s26, f26, rfl, hs26, hW26, hf26, hO26⟩
          have HW26 := Lib.hid hW26
          have HO26 := Lib.hid (HO25.out.trans (hO26.mono (fun j _ h => h.1)))
          have hc26 := hW26.c0
          have hl26 := hW26.lt
          have HN26 := Lib.hid (HN25.out.out hO26 (fun h => h.2 rfl))
          have hx26 := hO26.cell hy24 (fun h => h.2 rfl)
          clear hW26 hO26
          go_wp2_with (first | ((with_reducible show wpPlan _ _ _ _ _ (Act.put _ _ _) _); simp only [List.getElem_toArray, List.getElem_cons_succ, List.getElem_cons_zero, Act.put, List.setIfInBounds_toArray, List.set_cons_zero, List.set_cons_succ]) | ((with_reducible show wpPlan _ _ _ _ _ _ _); first | refine wpPlan_nil ?_ | (refine wpPlan_read0 rfl ?hw rfl (fun _ _ _ => ?_); case hw => ((conv => (lhs; whnf)); first | done | with_reducible rfl)) | (refine wpPlan_read1d rfl ?hw rfl rfl (fun _ _ _ => ?_); case hw => ((conv => (lhs; whnf)); first | done | with_reducible rfl)) | (refine wpPlan_eff rfl ?hw (fun _ _ => ?_); case hw => ((conv => (lhs; whnf)); first | done | with_reducible rfl)) | (refine wpPlan_skip0 rfl ?hw ?_; case hw => ((conv => (lhs; whnf)); first | done | with_reducible rfl)) | (refine wpPlan_skip1d rfl ?hw ?_; case hw => ((conv => (lhs; whnf)); first | done | with_reducible rfl)) | (refine wpPlan_skip2 rfl ?hw ?_; case hw => ((conv => (lhs; whnf)); first | done | with_reducible rfl)) | (refine wpPlan_read1 rfl ?hw rfl (fun _ _ _ => ?_); case hw => ((conv => (lhs; whnf)); first | done | with_reducible rfl)) | refine wpPlan_fork ?_ ?_) | ((with_reducible show Owed _ _ _ _ _ _ _ _ _); first | refine Owed.none_ ?_ | refine Owed.nil_ ?_ | refine Owed.miss rfl ?_ | refine Owed.hit ?_ ?_) | ((with_reducible show Same _ _ _ _ _); intro _; go_simp; done) | (with_reducible exact True.intro))
          go_ret
          exact ⟨_, _, rfl, (by simp [ByteArray.size_append, lit_size]; omega), HW26.out.weak (fun j h => h.1) HH.out.lo, by omega, HO26.out⟩
        · refine (IH _ _ _ _ _ _ _ _ _ _ _ _ _ _ HW23.out hn (by omega) (by omega) (by omega) (by omega) (by omega)).mono ?_
          rintro e w27 ⟨s27, f27, rfl, hs27, hW27, hf27, hO27⟩
          have HW27 := Lib.hid hW27
          have HO27 := Lib.hid (HO23.out.trans (hO27))
          have hc27 := hW27.c0
          have hl27 := hW27.lt
          clear hW27 hO27
          obtain ⟨x28, hx28, hxs28⟩ := pick_at (Blk.newAt (w := w27) (t := 9) (cs := (cellsOf scell [⟨#[32, 60, 32]⟩, ⟨#[32, 60, 61, 32]⟩, ⟨#[32, 61, 61, 32]⟩, ⟨#[32, 33, 61, 32]⟩, ⟨#[32, 62, 61, 32]⟩]).toArray) (g := w27.heap.size) rfl) r23 (by simp; omega) 4 (by decide)
          have hy28 : (w27.alloc (.cells #[.string ⟨#[32, 60, 32]⟩, .string ⟨#[32, 60, 61, 32]⟩, .string ⟨#[32, 61, 61, 32]⟩, .string ⟨#[32, 33, 61, 32]⟩, .string ⟨#[32, 62, 61, 32]⟩] 9)).cell? ⟨w27.heap.size, r23, none⟩ = some (.string x28) := hx28
          clear hx28
          go_wp2_with (first | ((with_reducible show wpTree _ _ _ _ _ (Act.put _ _ _) _); simp only [List.getElem_toArray, List.getElem_cons_succ, List.getElem_cons_zero, Act.put, List.setIfInBounds_toArray, List.set_cons_zero, List.set_cons_succ]) | ((with_reducible show wpTree _ _ _ _ _ _ _); first | refine wpTree_line ?_ | refine wpTree_alt ?_ ?_ | (refine wpTree_read0 rfl ?hw rfl (fun _ _ _ => ?_); case hw => ((conv => (lhs; whnf)); first | done | with_reducible rfl)) | (refine wpTree_read1 rfl ?hw rfl (fun _ _ _ => ?_); case hw => ((conv => (lhs; whnf)); first | done | with_reducible rfl)) | (refine wpTree_eff rfl ?hw (fun _ _ => ?_); case hw => ((conv => (lhs; whnf)); first | done | with_reducible rfl)) | (refine wpTree_skip0 rfl ?hw ?_; case hw => ((conv => (lhs; whnf)); first | done | with_reducible rfl)) | (refine wpTree_skip1 rfl ?hw ?_; case hw => ((conv => (lhs; whnf)); first | done | with_reducible rfl)) | (refine wpTree_skip2 rfl ?hw ?_; case hw => ((conv => (lhs; whnf)); first | done | with_reducible rfl))) | ((with_reducible show OwedT _ _ _ _ _ _ _ _ _); first | refine OwedT.none_ ?_ | refine OwedT.nil_ ?_ | refine OwedT.miss rfl ?_ | refine OwedT.hit ?_ ?_) | ((with_reducible show wpPlan _ _ _ _ _ (Act.put _ _ _) _); simp only [List.getElem_toArray, List.getElem_cons_succ, List.getElem_cons_zero, Act.put, List.setIfInBounds_toArray, List.set_cons_zero, List.set_cons_succ]) | ((with_reducible show wpPlan _ _ _ _ _ _ _); first | refine wpPlan_nil ?_ | (refine wpPlan_read0 rfl ?hw rfl (fun _ _ _ => ?_); case hw => ((conv => (lhs; whnf)); first | done | with_reducible rfl)) | (refine wpPlan_read1d rfl ?hw rfl rfl (fun _ _ _ => ?_); case hw => ((conv => (lhs; whnf)); first | done | with_reducible rfl)) | (refine wpPlan_eff rfl ?hw (fun _ _ => ?_); case hw => ((conv => (lhs; whnf)); first | done | with_reducible rfl)) | (refine wpPlan_skip0 rfl ?hw ?_; case hw => ((conv => (lhs; whnf)); first | done | with_reducible rfl)) | (refine wpPlan_skip1d rfl ?hw ?_; case hw => ((conv => (lhs; whnf)); first | done | with_reducible rfl)) | (refine wpPlan_skip2 rfl ?hw ?_; case hw => ((conv => (lhs; whnf)); first | done | with_reducible rfl)) | (refine wpPlan_read1 rfl ?hw rfl (fun _ _ _ => ?_); case hw => ((conv => (lhs; whnf)); first | done | with_reducible rfl)) | refine wpPlan_fork ?_ ?_) | ((with_reducible show Owed _ _ _ _ _ _ _ _ _); first | refine Owed.none_ ?_ | refine Owed.nil_ ?_ | refine Owed.miss rfl ?_ | refine Owed.hit ?_ ?_) | ((with_reducible show Same _ _ _ _ _); intro _; go_simp; done) | (with_reducible exact True.intro))
          go_ret
          exact ⟨_, _, rfl, (by simp [ByteArray.size_append, lit_size]; omega), HW27.out.alloc _, by omega, HO27.out.alloc _⟩
    · have HN29 := Lib.hid (Blk.newAt (w := w1) (t := 9) (cs := (cellsOf scell [⟨#[32, 60, 32]⟩, ⟨#[32, 60, 61, 32]⟩, ⟨#[32, 61, 61, 32]⟩, ⟨#[32, 33, 61, 32]⟩, ⟨#[32, 62, 61, 32]⟩]).toArray) (g := w1.heap.size) rfl)
      have HW29 := Lib.hid (HW1.out.lit (.cells (cellsOf scell [⟨#[32, 60, 32]⟩, ⟨#[32, 60, 61, 32]⟩, ⟨#[32, 61, 61, 32]⟩, ⟨#[32, 33, 61, 32]⟩, ⟨#[32, 62, 61, 32]⟩]).toArray 9))
      have HO29 := Lib.hid (HO1.out.alloc (.cells (cellsOf scell [⟨#[32, 60, 32]⟩, ⟨#[32, 60, 61, 32]⟩, ⟨#[32, 61, 61, 32]⟩, ⟨#[32, 33, 61, 32]⟩, ⟨#[32, 62, 61, 32]⟩]).toArray 9))
      have hc29 := HW29.out.c0
      have hl29 := HW29.out.lt
      refine (IH _ _ _ _ _ _ _ _ _ _ _ _ _ _ HW29.out.drew hn (by omega) (by omega) (by omega) (by omega) (by omega)).mono ?_
      rintro e w30 ⟨s30, f30, rfl, hs30, hW30, hf30, hO30⟩
      have HW30 := Lib.hid hW30
      have HO30 := Lib.hid (HO29.out.drew.trans (hO30.mono (fun j _ h => h.1)))
      have hc30 := hW30.c0
      have hl30 := hW30.lt
      have HN30 := Lib.hid (HN29.out.drew.out hO30 (fun h => h.2 rfl))
      clear hW30 hO30
      go_wp2_with (first | ((with_reducible show wpPlan _ _ _ _ _ (Act.put _ _ _) _); simp only [List.getElem_toArray, List.getElem_cons_succ, List.getElem_cons_zero, Act.put, List.setIfInBounds_toArray, List.set_cons_zero, List.set_cons_succ]) | ((with_reducible show wpPlan _ _ _ _ _ _ _); first | refine wpPlan_nil ?_ | (refine wpPlan_read0 rfl ?hw rfl (fun _ _ _ => ?_); case hw => ((conv => (lhs; whnf)); first | done | with_reducible rfl)) | (refine wpPlan_read1d rfl ?hw rfl rfl (fun _ _ _ => ?_); case hw => ((conv => (lhs; whnf)); first | done | with_reducible rfl)) | (refine wpPlan_eff rfl ?hw (fun _ _ => ?_); case hw => ((conv => (lhs; whnf)); first | done | with_reducible rfl)) | (refine wpPlan_skip0 rfl ?hw ?_; case hw => ((conv => (lhs; whnf)); first | done | with_reducible rfl)) | (refine wpPlan_skip1d rfl ?hw ?_; case hw => ((conv => (lhs; whnf)); first | done | with_reducible rfl)) | (refine wpPlan_skip2 rfl ?hw ?_; case hw => ((conv => (lhs; whnf)); first | done | with_reducible rfl)) | (refine wpPlan_read1 rfl ?hw rfl (fun _ _ _ => ?_); case hw => ((conv => (lhs; whnf)); first | done | with_reducible rfl)) | refine wpPlan_fork ?_ ?_) | ((with_reducible show Owed _ _ _ _ _ _ _ _ _); first | refine Owed.none_ ?_ | refine Owed.nil_ ?_ | refine Owed.miss rfl ?_ | refine Owed.hit ?_ ?_) | ((with_reducible show Same _ _ _ _ _); intro _; go_simp; done) | (with_reducible exact True.intro))
      refine (wnext_any _ _ _ _ _ _ _ _ _ _ _ _ HW30.out 5 (by omega) (by omega) hn).mono ?_
      rintro e w31 ⟨⟨r31, rfl, hr31⟩, hW31, hO31⟩
      have HW31 := Lib.hid hW31
      have HO31 := Lib.hid (HO30.out.trans (hO31.mono (fun j _ h => h.1)))
      have hc31 := hW31.c0
      have hl31 := hW31.lt
      have HN31 := Lib.hid (HN30.out.out hO31 (fun h => h.2 rfl))
      clear hW31 hO31
      obtain ⟨x32, hx32, hxs32⟩ := pick_at HN31.out r31 (by simp; omega) 4 (by decide)
      have hlx32 := HN31.out.lt
      go_wp2_with (first | ((with_reducible show wpPlan _ _ _ _ _ (Act.put _ _ _) _); simp only [List.getElem_toArray, List.getElem_cons_succ, List.getElem_cons_zero, Act.put, List.setIfInBounds_toArray, List.set_cons_zero, List.set_cons_succ]) | ((with_reducible show wpPlan _ _ _ _ _ _ _); first | refine wpPlan_nil ?_ | (refine wpPlan_read0 rfl ?hw rfl (fun _ _ _ => ?_); case hw => ((conv => (lhs; whnf)); first | done | with_reducible rfl)) | (refine wpPlan_read1d rfl ?hw rfl rfl (fun _ _ _ => ?_); case hw => ((conv => (lhs; whnf)); first | done | with_reducible rfl)) | (refine wpPlan_eff rfl ?hw (fun _ _ => ?_); case hw => ((conv => (lhs; whnf)); first | done | with_reducible rfl)) | (refine wpPlan_skip0 rfl ?hw ?_; case hw => ((conv => (lhs; whnf)); first | done | with_reducible rfl)) | (refine wpPlan_skip1d rfl ?hw ?_; case hw => ((conv => (lhs; whnf)); first | done | with_reducible rfl)) | (refine wpPlan_skip2 rfl ?hw ?_; case hw => ((conv => (lhs; whnf)); first | done | with_reducible rfl)) | (refine wpPlan_read1 rfl ?hw rfl (fun _ _ _ => ?_); case hw => ((conv => (lhs; whnf)); first | done | with_reducible rfl)) | refine wpPlan_fork ?_ ?_) | ((with_reducible show Owed _ _ _ _ _ _ _ _ _); first | refine Owed.none_ ?_ | refine Owed.nil_ ?_ | refine Owed.miss rfl ?_ | refine Owed.hit ?_ ?_) | ((with_reducible show Same _ _ _ _ _); intro _; go_simp; done) | (with_reducible exact True.intro))
      refine (IH _ _ _ _ _ _ _ _ _ _ _ _ _ _ HW31.out hn (by omega) (by omega) (by omega) (by omega) (by omega)).mono ?_
      rintro e w33 ⟨s33, f33, rfl, hs33, hW33, hf33, hO33⟩
      have HW33 := Lib.hid hW33
      have HO33 := Lib.hid (HO31.out.trans (hO33.mono (fun j _ h => h.1)))
      have hc33 := hW33.c0
      have hl33 := hW33.lt
      have HN33 := Lib.hid (HN31.out.out hO33 (fun h => h.2 rfl))
      have hx33 := hO33.cell hx32 (fun h => h.2 rfl)
      clear hW33 hO33
      go_wp2_with (first | ((with_reducible show wpPlan _ _ _ _ _ (Act.put _ _ _) _); simp only [List.getElem_toArray, List.getElem_cons_succ, List.getElem_cons_zero, Act.put, List.setIfInBounds_toArray, List.set_cons_zero, List.set_cons_succ]) | ((with_reducible show wpPlan _ _ _ _ _ _ _); first | refine wpPlan_nil ?_ | (refine wpPlan_read0 rfl ?hw rfl (fun _ _ _ => ?_); case hw => ((conv => (lhs; whnf)); first | done | with_reducible rfl)) | (refine wpPlan_read1d rfl ?hw rfl rfl (fun _ _ _ => ?_); case hw => ((conv => (lhs; whnf)); first | done | with_reducible rfl)) | (refine wpPlan_eff rfl ?hw (fun _ _ => ?_); case hw => ((conv => (lhs; whnf)); first | done | with_reducible rfl)) | (refine wpPlan_skip0 rfl ?hw ?_; case hw => ((conv => (lhs; whnf)); first | done | with_reducible rfl)) | (refine wpPlan_skip1d rfl ?hw ?_; case hw => ((conv => (lhs; whnf)); first | done | with_reducible rfl)) | (refine wpPlan_skip2 rfl ?hw ?_; case hw => ((conv => (lhs; whnf)); first | done | with_reducible rfl)) | (refine wpPlan_read1 rfl ?hw rfl (fun _ _ _ => ?_); case hw => ((conv => (lhs; whnf)); first | done | with_reducible rfl)) | refine wpPlan_fork ?_ ?_) | ((with_reducible show Owed _ _ _ _ _ _ _ _ _); first | refine Owed.none_ ?_ | refine Owed.nil_ ?_ | refine Owed.miss rfl ?_ | refine Owed.hit ?_ ?_) | ((with_reducible show Same _ _ _ _ _); intro _; go_simp; done) | (with_reducible exact True.intro))
      go_ret
      exact ⟨_, _, rfl, (by simp [ByteArray.size_append, lit_size]; omega), HW33.out.weak (fun j h => h.1) HH.out.lo, by omega, HO33.out⟩
  · go_wp2_with (first | ((with_reducible show wpTree _ _ _ _ _ (Act.put _ _ _) _); simp only [List.getElem_toArray, List.getElem_cons_succ, List.getElem_cons_zero, Act.put, List.setIfInBounds_toArray, List.set_cons_zero, List.set_cons_succ]) | ((with_reducible show wpTree _ _ _ _ _ _ _); first | refine wpTree_line ?_ | refine wpTree_alt ?_ ?_ | (refine wpTree_read0 rfl ?hw rfl (fun _ _ _ => ?_); case hw => ((conv => (lhs; whnf)); first | done | with_reducible rfl)) | (refine wpTree_read1 rfl ?hw rfl (fun _ _ _ => ?_); case hw => ((conv => (lhs; whnf)); first | done | with_reducible rfl)) | (refine wpTree_eff rfl ?hw (fun _ _ => ?_); case hw => ((conv => (lhs; whnf)); first | done | with_reducible rfl)) | (refine wpTree_skip0 rfl ?hw ?_; case hw => ((conv => (lhs; whnf)); first | done | with_reducible rfl)) | (refine wpTree_skip1 rfl ?hw ?_; case hw => ((conv => (lhs; whnf)); first | done | with_reducible rfl)) | (refine wpTree_skip2 rfl ?hw ?_; case hw => ((conv => (lhs; whnf)); first | done | with_reducible rfl))) | ((with_reducible show OwedT _ _ _ _ _ _ _ _ _); first | refine OwedT.none_ ?_ | refine OwedT.nil_ ?_ | refine OwedT.miss rfl ?_ | refine OwedT.hit ?_ ?_) | ((with_reducible show wpPlan _ _ _ _ _ (Act.put _ _ _) _); simp only [List.getElem_toArray, List.getElem_cons_succ, List.getElem_cons_zero, Act.put, List.setIfInBounds_toArray, List.set_cons_zero, List.set_cons_succ]) | ((with_reducible show wpPlan _ _ _ _ _ _ _); first | refine wpPlan_nil ?_ | (refine wpPlan_read0 rfl ?hw rfl (fun _ _ _ => ?_); case hw => ((conv => (lhs; whnf)); first | done | with_reducible rfl)) | (refine wpPlan_read1d rfl ?hw rfl rfl (fun _ _ _ => ?_); case hw => ((conv => (lhs; whnf)); first | done | with_reducible rfl)) | (refine wpPlan_eff rfl ?hw (fun _ _ => ?_); case hw => ((conv => (lhs; whnf)); first | done | with_reducible rfl)) | (refine wpPlan_skip0 rfl ?hw ?_; case hw => ((conv => (lhs; whnf)); first | done | with_reducible rfl)) | (refine wpPlan_skip1d rfl ?hw ?_; case hw => ((conv => (lhs; whnf)); first | done | with_reducible rfl)) | (refine wpPlan_skip2 rfl ?hw ?_; case hw => ((conv => (lhs; whnf)); first | done | with_reducible rfl)) | (refine wpPlan_read1 rfl ?hw rfl (fun _ _ _ => ?_); case hw => ((conv => (lhs; whnf)); first | done | with_reducible rfl)) | refine wpPlan_fork ?_ ?_) | ((with_reducible show Owed _ _ _ _ _ _ _ _ _); first | refine Owed.none_ ?_ | refine Owed.nil_ ?_ | refine Owed.miss rfl ?_ | refine Owed.hit ?_ ?_) | ((with_reducible show Same _ _ _ _ _); intro _; go_simp; done) | (with_reducible exact True.intro) | ((with_reducible show Code.wp _ (Code.region 4 _ true) _ _ _); refine wp_region_tree (Tree.read 0 0 (Tree.read 1 0 (Tree.read 2 1 (Tree.read 6 0 (Tree.read 7 1 (Tree.read 8 1 (Tree.read 9 1 (Tree.read 14 0 (Tree.read 15 0 (Tree.read 16 1 (Tree.alt (Tree.eff 3 [7, 8, 9, 16] (Tree.read 4 1 (Tree.alt (Tree.eff 5 [2, 7, 8, 9, 16, 4] (Tree.line [(10, 2, [16, 4]), (11, 1, []), (12, 1, []), (13, 1, []), (17, 2, [4, 11, 12, 13]), (18, 1, []), (19, 1, []), (20, 0, [])])) (Tree.eff 10 [16, 4] (Tree.alt (Tree.eff 5 [2, 7, 8, 9, 16, 4] (Tree.line [(11, 1, []), (12, 1, []), (13, 1, []), (17, 2, [4, 11, 12, 13]), (18, 1, []), (19, 1, []), (20, 0, [])])) (Tree.eff 17 [4] (Tree.line [(5, 2, [2, 7, 8, 9, 16, 4]), (11, 1, []), (12, 1, []), (13, 1, []), (18, 1, []), (19, 1, []), (20, 0, [])]))))))) (Tree.eff 5 [2, 7, 8, 9, 16] (Tree.line [(3, 2, [7, 8, 9, 16]), (4, 1, []), (10, 2, [16, 4]), (11, 1, []), (12, 1, []), (13, 1, []), (17, 2, [4, 11, 12, 13]), (18, 1, []), (19, 1, []), (20, 0, [])]))))))))))))) (by kernel_rfl) (by kernel_rfl) (by kernel_rfl) ?_) | ((with_reducible show Code.wp _ (Code.region 6 _ true) _ _ _); refine wp_region_tree (Tree.read 0 0 (Tree.read 1 0 (Tree.read 2 1 (Tree.read 6 0 (Tree.read 7 1 (Tree.read 8 1 (Tree.read 9 1 (Tree.read 14 0 (Tree.read 15 0 (Tree.read 16 1 (Tree.alt (Tree.eff 3 [7, 8, 9, 16] (Tree.read 4 1 (Tree.alt (Tree.eff 5 [2, 7, 8, 9, 16, 4] (Tree.line [(10, 2, [16, 4]), (11, 1, []), (12, 1, []), (13, 1, []), (17, 2, [4, 11, 12, 13]), (18, 1, []), (19, 1, []), (20, 0, [])])) (Tree.eff 10 [16, 4] (Tree.alt (Tree.eff 5 [2, 7, 8, 9, 16, 4] (Tree.line [(11, 1, []), (12, 1, []), (13, 1, []), (17, 2, [4, 11, 12, 13]), (18, 1, []), (19, 1, []), (20, 0, [])])) (Tree.eff 17 [4] (Tree.line [(5, 2, [2, 7, 8, 9, 16, 4]), (11, 1, []), (12, 1, []), (13, 1, []), (18, 1, []), (19, 1, []), (20, 0, [])]))))))) (Tree.eff 5 [2, 7, 8, 9, 16] (Tree.line [(3, 2, [7, 8, 9, 16]), (4, 1, []), (10, 2, [16, 4]), (11, 1, []), (12, 1, []), (13, 1, []), (17, 2, [4, 11, 12, 13]), (18, 1, []), (19, 1, []), (20, 0, [])]))))))))))))) (by kernel_rfl) (by kernel_rfl) (by kernel_rfl) ?_))
    · refine (IH _ _ _ _ _ _ _ _ _ _ _ _ _ _ HW1.out.drew hn (by omega) (by omega) (by omega) (by omega) (by omega)).mono ?_
      rintro e w34 ⟨s34, f34, rfl, hs34, hW34, hf34, hO34⟩
      have HW34 := Lib.hid hW34
      have HO34 := Lib.hid (HO1.out.drew.trans (hO34))
      have hc34 := hW34.c0
      have hl34 := hW34.lt
      clear hW34 hO34
      go_wp2_with (first | ((with_reducible show wpTree _ _ _ _ _ (Act.put _ _ _) _); simp only [List.getElem_toArray, List.getElem_cons_succ, List.getElem_cons_zero, Act.put, List.setIfInBounds_toArray, List.set_cons_zero, List.set_cons_succ]) | ((with_reducible show wpTree _ _ _ _ _ _ _); first | refine wpTree_line ?_ | refine wpTree_alt ?_ ?_ | (refine wpTree_read0 rfl ?hw rfl (fun _ _ _ => ?_); case hw => ((conv => (lhs; whnf)); first | done | with_reducible rfl)) | (refine wpTree_read1 rfl ?hw rfl (fun _ _ _ => ?_); case hw => ((conv => (lhs; whnf)); first | done | with_reducible rfl)) | (refine wpTree_eff rfl ?hw (fun _ _ => ?_); case hw => ((conv => (lhs; whnf)); first | done | with_reducible rfl)) | (refine wpTree_skip0 rfl ?hw ?_; case hw => ((conv => (lhs; whnf)); first | done | with_reducible rfl)) | (refine wpTree_skip1 rfl ?hw ?_; case hw => ((conv => (lhs; whnf)); first | done | with_reducible rfl)) | (refine wpTree_skip2 rfl ?hw ?_; case hw => ((conv => (lhs; whnf)); first | done | with_reducible rfl))) | ((with_reducible show OwedT _ _ _ _ _ _ _ _ _); first | refine OwedT.none_ ?_ | refine OwedT.nil_ ?_ | refine OwedT.miss rfl ?_ | refine OwedT.hit ?_ ?_) | ((with_reducible show wpPlan _ _ _ _ _ (Act.put _ _ _) _); simp only [List.getElem_toArray, List.getElem_cons_succ, List.getElem_cons_zero, Act.put, List.setIfInBounds_toArray, List.set_cons_zero, List.set_cons_succ]) | ((with_reducible show wpPlan _ _ _ _ _ _ _); first | refine wpPlan_nil ?_ | (refine wpPlan_read0 rfl ?hw rfl (fun _ _ _ => ?_); case hw => ((conv => (lhs; whnf)); first | done | with_reducible rfl)) | (refine wpPlan_read1d rfl ?hw rfl rfl (fun _ _ _ => ?_); case hw => ((conv => (lhs; whnf)); first | done | with_reducible rfl)) | (refine wpPlan_eff rfl ?hw (fun _ _ => ?_); case hw => ((conv => (lhs; whnf)); first | done | with_reducible rfl)) | (refine wpPlan_skip0 rfl ?hw ?_; case hw => ((conv => (lhs; whnf)); first | done | with_reducible rfl)) | (refine wpPlan_skip1d rfl ?hw ?_; case hw => ((conv => (lhs; whnf)); first | done | with_reducible rfl)) | (refine wpPlan_skip2 rfl ?hw ?_; case hw => ((conv => (lhs; whnf)); first | done | with_reducible rfl)) | (refine wpPlan_read1 rfl ?hw rfl (fun _ _ _ => ?_); case hw => ((conv => (lhs; whnf)); first | done | with_reducible rfl)) | refine wpPlan_fork ?_ ?_) | ((with_reducible show Owed _ _ _ _ _ _ _ _ _); first | refine Owed.none_ ?_ | refine Owed.nil_ ?_ | refine Owed.miss rfl ?_ | refine Owed.hit ?_ ?_) | ((with_reducible show Same _ _ _ _ _); intro _; go_simp; done) | (with_reducible exact True.intro))
      · have HN35 := Lib.hid (Blk.newAt (w := w34) (t := 9) (cs := (cellsOf scell [⟨#[32, 97, 110, 100, 32]⟩, ⟨#[32, 111, 114, 32]⟩]).toArray) (g := w34.heap.size) rfl)
        have HW35 := Lib.hid (HW34.out.lit (.cells (cellsOf scell [⟨#[32, 97, 110, 100, 32]⟩, ⟨#[32, 111, 114, 32]⟩]).toArray 9))
        have HO35 := Lib.hid (HO34.out.alloc (.cells (cellsOf scell [⟨#[32, 97, 110, 100, 32]⟩, ⟨#[32, 111, 114, 32]⟩]).toArray 9))
        have hc35 := HW35.out.c0
        have hl35 := HW35.out.lt
        refine (wnext_any _ _ _ _ _ _ _ _ _ _ _ _ HW35.out 2 (by omega) (by omega) hn).mono ?_
        rintro e w36 ⟨⟨r36, rfl, hr36⟩, hW36, hO36⟩
        have HW36 := Lib.hid hW36
        have HO36 := Lib.hid (HO35.out.trans (hO36.mono (fun j _ h => h.1)))
        have hc36 := hW36.c0
        have hl36 := hW36.lt
        have HN36 := Lib.hid (HN35.out.out hO36 (fun h => h.2 rfl))
        clear hW36 hO36
        obtain ⟨x37, hx37, hxs37⟩ := pick_at HN36.out r36 (by simp; omega) 5 (by decide)
        have hlx37 := HN36.out.lt
        go_wp2_with (first | ((with_reducible show wpPlan _ _ _ _ _ (Act.put _ _ _) _); simp only [List.getElem_toArray, List.getElem_cons_succ, List.getElem_cons_zero, Act.put, List.setIfInBounds_toArray, List.set_cons_zero, List.set_cons_succ]) | ((with_reducible show wpPlan _ _ _ _ _ _ _); first | refine wpPlan_nil ?_ | (refine wpPlan_read0 rfl ?hw rfl (fun _ _ _ => ?_); case hw => ((conv => (lhs; whnf)); first | done | with_reducible rfl)) | (refine wpPlan_read1d rfl ?hw rfl rfl (fun _ _ _ => ?_); case hw => ((conv => (lhs; whnf)); first | done | with_reducible rfl)) | (refine wpPlan_eff rfl ?hw (fun _ _ => ?_); case hw => ((conv => (lhs; whnf)); first | done | with_reducible rfl)) | (refine wpPlan_skip0 rfl ?hw ?_; case hw => ((conv => (lhs; whnf)); first | done | with_reducible rfl)) | (refine wpPlan_skip1d rfl ?hw ?_; case hw => ((conv => (lhs; whnf)); first | done | with_reducible rfl)) | (refine wpPlan_skip2 rfl ?hw ?_; case hw => ((conv => (lhs; whnf)); first | done | with_reducible rfl)) | (refine wpPlan_read1 rfl ?hw rfl (fun _ _ _ => ?_); case hw => ((conv => (lhs; whnf)); first | done | with_reducible rfl)) | refine wpPlan_fork ?_ ?_) | ((with_reducible show Owed _ _ _ _ _ _ _ _ _); first | refine Owed.none_ ?_ | refine Owed.nil_ ?_ | refine Owed.miss rfl ?_ | refine Owed.hit ?_ ?_) | ((with_reducible show Same _ _ _ _ _); intro _; go_simp; done) | (with_reducible exact True.intro))
        refine (IH _ _ _ _ _ _ _ _ _ _ _ _ _ _ HW36.out hn (by omega) (by omega) (by omega) (by omega) (by omega)).mono ?_
        rintro e w38 ⟨s38, f38, rfl, hs38, hW38, hf38, hO38⟩
        have HW38 := Lib.hid hW38
        have HO38 := Lib.hid (HO36.out.trans (hO38.mono (fun j _ h => h.1)))
        have hc38 := hW38.c0
        have hl38 := hW38.lt
        have HN38 := Lib.hid (HN36.out.out hO38 (fun h => h.2 rfl))
        have hx38 := hO38.cell hx37 (fun h => h.2 rfl)
        clear hW38 hO38
        go_wp2_with (first | ((with_reducible show wpPlan _ _ _ _ _ (Act.put _ _ _) _); simp only [List.getElem_toArray, List.getElem_cons_succ, List.getElem_cons_zero, Act.put, List.setIfInBounds_toArray, List.set_cons_zero, List.set_cons_succ]) | ((with_reducible show wpPlan _ _ _ _ _ _ _); first | refine wpPlan_nil ?_ | (refine wpPlan_read0 rfl ?hw rfl (fun _ _ _ => ?_); case hw => ((conv => (lhs; whnf)); first | done | with_reducible rfl)) | (refine wpPlan_read1d rfl ?hw rfl rfl (fun _ _ _ => ?_); case hw => ((conv => (lhs; whnf)); first | done | with_reducible rfl)) | (refine wpPlan_eff rfl ?hw (fun _ _ => ?_); case hw => ((conv => (lhs; whnf)); first | done | with_reducible rfl)) | (refine wpPlan_skip0 rfl ?hw ?_; case hw => ((conv => (lhs; whnf)); first | done | with_reducible rfl)) | (refine wpPlan_skip1d rfl ?hw ?_; case hw => ((conv => (lhs; whnf)); first | done | with_reducible rfl)) | (refine wpPlan_skip2 rfl ?hw ?_; case hw => ((conv => (lhs; whnf)); first | done | with_reducible rfl)) | (refine wpPlan_read1 rfl ?hw rfl (fun _ _ _ => ?_); case hw => ((conv => (lhs; whnf)); first | done | with_reducible rfl)) | refine wpPlan_fork ?_ ?_) | ((with_reducible show Owed _ _ _ _ _ _ _ _ _); first | refine Owed.none_ ?_ | refine Owed.nil_ ?_ | refine Owed.miss rfl ?_ | refine Owed.hit ?_ ?_) | ((with_reducible show Same _ _ _ _ _); intro _; go_simp; done) | (with_reducible exact True.intro))
        go_ret
        exact ⟨_, _, rfl, (by simp [ByteArray.size_append, lit_size]; omega), HW38.out.weak (fun j h => h.1) HH.out.lo, by omega, HO38.out⟩
      · refine (wnext_any _ _ _ _ _ _ _ _ _ _ _ _ HW34.out 2 (by omega) (by omega) hn).mono ?_
        rintro e w39 ⟨⟨r39, rfl, hr39⟩, hW39, hO39⟩
        have HW39 := Lib.hid hW39
        have HO39 := Lib.hid (HO34.out.trans (hO39))
        have hc39 := hW39.c0
        have hl39 := hW39.lt
        clear hW39 hO39
        obtain ⟨x40, hx40, hxs40⟩ := pick_at (Blk.newAt (w := w39) (t := 9) (cs := (cellsOf scell [⟨#[32, 97, 110, 100, 32]⟩, ⟨#[32, 111, 114, 32]⟩]).toArray) (g := w39.heap.size) rfl) r39 (by simp; omega) 5 (by decide)
        have hy40 : (w39.alloc (.cells #[.string ⟨#[32, 97, 110, 100, 32]⟩, .string ⟨#[32, 111, 114, 32]⟩] 9)).cell? ⟨w39.heap.size, r39, none⟩ = some (.string x40) := hx40
        clear hx40
        go_wp2_with (first | ((with_reducible show wpTree _ _ _ _ _ (Act.put _ _ _) _); simp only [List.getElem_toArray, List.getElem_cons_succ, List.getElem_cons_zero, Act.put, List.setIfInBounds_toArray, List.set_cons_zero, List.set_cons_succ]) | ((with_reducible show wpTree _ _ _ _ _ _ _); first | refine wpTree_line ?_ | refine wpTree_alt ?_ ?_ | (refine wpTree_read0 rfl ?hw rfl (fun _ _ _ => ?_); case hw => ((conv => (lhs; whnf)); first | done | with_reducible rfl)) | (refine wpTree_read1 rfl ?hw rfl (fun _ _ _ => ?_); case hw => ((conv => (lhs; whnf)); first | done | with_reducible rfl)) | (refine wpTree_eff rfl ?hw (fun _ _ => ?_); case hw => ((conv => (lhs; whnf)); first | done | with_reducible rfl)) | (refine wpTree_skip0 rfl ?hw ?_; case hw => ((conv => (lhs; whnf)); first | done | with_reducible rfl)) | (refine wpTree_skip1 rfl ?hw ?_; case hw => ((conv => (lhs; whnf)); first | done | with_reducible rfl)) | (refine wpTree_skip2 rfl ?hw ?_; case hw => ((conv => (lhs; whnf)); first | done | with_reducible rfl))) | ((with_reducible show OwedT _ _ _ _ _ _ _ _ _); first | refine OwedT.none_ ?_ | refine OwedT.nil_ ?_ | refine OwedT.miss rfl ?_ | refine OwedT.hit ?_ ?_) | ((with_reducible show wpPlan _ _ _ _ _ (Act.put _ _ _) _); simp only [List.getElem_toArray, List.getElem_cons_succ, List.getElem_cons_zero, Act.put, List.setIfInBounds_toArray, List.set_cons_zero, List.set_cons_succ]) | ((with_reducible show wpPlan _ _ _ _ _ _ _); first | refine wpPlan_nil ?_ | (refine wpPlan_read0 rfl ?hw rfl (fun _ _ _ => ?_); case hw => ((conv => (lhs; whnf)); first | done | with_reducible rfl)) | (refine wpPlan_read1d rfl ?hw rfl rfl (fun _ _ _ => ?_); case hw => ((conv => (lhs; whnf)); first | done | with_reducible rfl)) | (refine wpPlan_eff rfl ?hw (fun _ _ => ?_); case hw => ((conv => (lhs; whnf)); first | done | with_reducible rfl)) | (refine wpPlan_skip0 rfl ?hw ?_; case hw => ((conv => (lhs; whnf)); first | done | with_reducible rfl)) | (refine wpPlan_skip1d rfl ?hw ?_; case hw => ((conv => (lhs; whnf)); first | done | with_reducible rfl)) | (refine wpPlan_skip2 rfl ?hw ?_; case hw => ((conv => (lhs; whnf)); first | done | with_reducible rfl)) | (refine wpPlan_read1 rfl ?hw rfl (fun _ _ _ => ?_); case hw => ((conv => (lhs; whnf)); first | done | with_reducible rfl)) | refine wpPlan_fork ?_ ?_) | ((with_reducible show Owed _ _ _ _ _ _ _ _ _); first | refine Owed.none_ ?_ | refine Owed.nil_ ?_ | refine Owed.miss rfl ?_ | refine Owed.hit ?_ ?_) | ((with_reducible show Same _ _ _ _ _); intro _; go_simp; done) | (with_reducible exact True.intro))
        · have HN41 := Lib.hid (Blk.newAt (w := w39) (t := 9) (cs := (cellsOf scell [⟨#[32, 97, 110, 100, 32]⟩, ⟨#[32, 111, 114, 32]⟩]).toArray) (g := w39.heap.size) rfl)
          have HW41 := Lib.hid (HW39.out.lit (.cells (cellsOf scell [⟨#[32, 97, 110, 100, 32]⟩, ⟨#[32, 111, 114, 32]⟩]).toArray 9))
          have HO41 := Lib.hid (HO39.out.alloc (.cells (cellsOf scell [⟨#[32, 97, 110, 100, 32]⟩, ⟨#[32, 111, 114, 32]⟩]).toArray 9))
          have hc41 := HW41.out.c0
          have hl41 := HW41.out.lt
          refine (IH _ _ _ _ _ _ _ _ _ _ _ _ _ _ HW41.out hn (by omega) (by omega) (by omega) (by omega) (by omega)).mono ?_
          rintro e w42 ⟨s42, f42, rfl, hs42, hW42, hf42, hO42⟩
          have HW42 := Lib.hid hW42
          have HO42 := Lib.hid (HO41.out.trans (hO42.mono (fun j _ h => h.1)))
          have hc42 := hW42.c0
          have hl42 := hW42.lt
          have HN42 := Lib.hid (HN41.out.out hO42 (fun h => h.2 rfl))
          have hx42 := hO42.cell hy40 (fun h => h.2 rfl)
          clear hW42 hO42
          go_wp2_with (first | ((with_reducible show wpPlan _ _ _ _ _ (Act.put _ _ _) _); simp only [List.getElem_toArray, List.getElem_cons_succ, List.getElem_cons_zero, Act.put, List.setIfInBounds_toArray, List.set_cons_zero, List.set_cons_succ]) | ((with_reducible show wpPlan _ _ _ _ _ _ _); first | refine wpPlan_nil ?_ | (refine wpPlan_read0 rfl ?hw rfl (fun _ _ _ => ?_); case hw => ((conv => (lhs; whnf)); first | done | with_reducible rfl)) | (refine wpPlan_read1d rfl ?hw rfl rfl (fun _ _ _ => ?_); case hw => ((conv => (lhs; whnf)); first | done | with_reducible rfl)) | (refine wpPlan_eff rfl ?hw (fun _ _ => ?_); case hw => ((conv => (lhs; whnf)); first | done | with_reducible rfl)) | (refine wpPlan_skip0 rfl ?hw ?_; case hw => ((conv => (lhs; whnf)); first | done | with_reducible rfl)) | (refine wpPlan_skip1d rfl ?hw ?_; case hw => ((conv => (lhs; whnf)); first | done | with_reducible rfl)) | (refine wpPlan_skip2 rfl ?hw ?_; case hw => ((conv => (lhs; whnf)); first | done | with_reducible rfl)) | (refine wpPlan_read1 rfl ?hw rfl (fun _ _ _ => ?_); case hw => ((conv => (lhs; whnf)); first | done | with_reducible rfl)) | refine wpPlan_fork ?_ ?_) | ((with_reducible show Owed _ _ _ _ _ _ _ _ _); first | refine Owed.none_ ?_ | refine Owed.nil_ ?_ | refine Owed.miss rfl ?_ | refine Owed.hit ?_ ?_) | ((with_reducible show Same _ _ _ _ _); intro _; go_simp; done) | (with_reducible exact True.intro))
          go_ret
          exact ⟨_, _, rfl, (by simp [ByteArray.size_append, lit_size]; omega), HW42.out.weak (fun j h => h.1) HH.out.lo, by omega, HO42.out⟩
        · refine (IH _ _ _ _ _ _ _ _ _ _ _ _ _ _ HW39.out hn (by omega) (by omega) (by omega) (by omega) (by omega)).mono ?_
          rintro e w43 ⟨s43, f43, rfl, hs43, hW43, hf43, hO43⟩
          have HW43 := Lib.hid hW43
          have HO43 := Lib.hid (HO39.out.trans (hO43))
          have hc43 := hW43.c0
          have hl43 := hW43.lt
          clear hW43 hO43
          obtain ⟨x44, hx44, hxs44⟩ := pick_at (Blk.newAt (w := w43) (t := 9) (cs := (cellsOf scell [⟨#[32, 97, 110, 100, 32]⟩, ⟨#[32, 111, 114, 32]⟩]).toArray) (g := w43.heap.size) rfl) r39 (by simp; omega) 5 (by decide)
          have hy44 : (w43.alloc (.cells #[.string ⟨#[32, 97, 110, 100, 32]⟩, .string ⟨#[32, 111, 114, 32]⟩] 9)).cell? ⟨w43.heap.size, r39, none⟩ = some (.string x44) := hx44
          clear hx44
          go_wp2_with (first | ((with_reducible show wpTree _ _ _ _ _ (Act.put _ _ _) _); simp only [List.getElem_toArray, List.getElem_cons_succ, List.getElem_cons_zero, Act.put, List.setIfInBounds_toArray, List.set_cons_zero, List.set_cons_succ]) | ((with_reducible show wpTree _ _ _ _ _ _ _); first | refine wpTree_line ?_ | refine wpTree_alt ?_ ?_ | (refine wpTree_read0 rfl ?hw rfl (fun _ _ _ => ?_); case hw => ((conv => (lhs; whnf)); first | done | with_reducible rfl)) | (refine wpTree_read1 rfl ?hw rfl (fun _ _ _ => ?_); case hw => ((conv => (lhs; whnf)); first | done | with_reducible rfl)) | (refine wpTree_eff rfl ?hw (fun _ _ => ?_); case hw => ((conv => (lhs; whnf)); first | done | with_reducible rfl)) | (refine wpTree_skip0 rfl ?hw ?_; case hw => ((conv => (lhs; whnf)); first | done | with_reducible rfl)) | (refine wpTree_skip1 rfl ?hw ?_; case hw => ((conv => (lhs; whnf)); first | done | with_reducible rfl)) | (refine wpTree_skip2 rfl ?hw ?_; case hw => ((conv => (lhs; whnf)); first | done | with_reducible rfl))) | ((with_reducible show OwedT _ _ _ _ _ _ _ _ _); first | refine OwedT.none_ ?_ | refine OwedT.nil_ ?_ | refine OwedT.miss rfl ?_ | refine OwedT.hit ?_ ?_) | ((with_reducible show wpPlan _ _ _ _ _ (Act.put _ _ _) _); simp only [List.getElem_toArray, List.getElem_cons_succ, List.getElem_cons_zero, Act.put, List.setIfInBounds_toArray, List.set_cons_zero, List.set_cons_succ]) | ((with_reducible show wpPlan _ _ _ _ _ _ _); first | refine wpPlan_nil ?_ | (refine wpPlan_read0 rfl ?hw rfl (fun _ _ _ => ?_); case hw => ((conv => (lhs; whnf)); first | done | with_reducible rfl)) | (refine wpPlan_read1d rfl ?hw rfl rfl (fun _ _ _ => ?_); case hw => ((conv => (lhs; whnf)); first | done | with_reducible rfl)) | (refine wpPlan_eff rfl ?hw (fun _ _ => ?_); case hw => ((conv => (lhs; whnf)); first | done | with_reducible rfl)) | (refine wpPlan_skip0 rfl ?hw ?_; case hw => ((conv => (lhs; whnf)); first | done | with_reducible rfl)) | (refine wpPlan_skip1d rfl ?hw ?_; case hw => ((conv => (lhs; whnf)); first | done | with_reducible rfl)) | (refine wpPlan_skip2 rfl ?hw ?_; case hw => ((conv => (lhs; whnf)); first | done | with_reducible rfl)) | (refine wpPlan_read1 rfl ?hw rfl (fun _ _ _ => ?_); case hw => ((conv => (lhs; whnf)); first | done | with_reducible rfl)) | refine wpPlan_fork ?_ ?_) | ((with_reducible show Owed _ _ _ _ _ _ _ _ _); first | refine Owed.none_ ?_ | refine Owed.nil_ ?_ | refine Owed.miss rfl ?_ | refine Owed.hit ?_ ?_) | ((with_reducible show Same _ _ _ _ _); intro _; go_simp; done) | (with_reducible exact True.intro))
          go_ret
          exact ⟨_, _, rfl, (by simp [ByteArray.size_append, lit_size]; omega), HW43.out.alloc _, by omega, HO43.out.alloc _⟩
    · have HN45 := Lib.hid (Blk.newAt (w := w1) (t := 9) (cs := (cellsOf scell [⟨#[32, 97, 110, 100, 32]⟩, ⟨#[32, 111, 114, 32]⟩]).toArray) (g := w1.heap.size) rfl)
      have HW45 := Lib.hid (HW1.out.lit (.cells (cellsOf scell [⟨#[32, 97, 110, 100, 32]⟩, ⟨#[32, 111, 114, 32]⟩]).toArray 9))
      have HO45 := Lib.hid (HO1.out.alloc (.cells (cellsOf scell [⟨#[32, 97, 110, 100, 32]⟩, ⟨#[32, 111, 114, 32]⟩]).toArray 9))
      have hc45 := HW45.out.c0
      have hl45 := HW45.out.lt
      refine (IH _ _ _ _ _ _ _ _ _ _ _ _ _ _ HW45.out.drew hn (by omega) (by omega) (by omega) (by omega) (by omega)).mono ?_
      rintro e w46 ⟨s46, f46, rfl, hs46, hW46, hf46, hO46⟩
      have HW46 := Lib.hid hW46
      have HO46 := Lib.hid (HO45.out.drew.trans (hO46.mono (fun j _ h => h.1)))
      have hc46 := hW46.c0
      have hl46 := hW46.lt
      have HN46 := Lib.hid (HN45.out.drew.out hO46 (fun h => h.2 rfl))
      clear hW46 hO46
      go_wp2_with (first | ((with_reducible show wpPlan _ _ _ _ _ (Act.put _ _ _) _); simp only [List.getElem_toArray, List.getElem_cons_succ, List.getElem_cons_zero, Act.put, List.setIfInBounds_toArray, List.set_cons_zero, List.set_cons_succ]) | ((with_reducible show wpPlan _ _ _ _ _ _ _); first | refine wpPlan_nil ?_ | (refine wpPlan_read0 rfl ?hw rfl (fun _ _ _ => ?_); case hw => ((conv => (lhs; whnf)); first | done | with_reducible rfl)) | (refine wpPlan_read1d rfl ?hw rfl rfl (fun _ _ _ => ?_); case hw => ((conv => (lhs; whnf)); first | done | with_reducible rfl)) | (refine wpPlan_eff rfl ?hw (fun _ _ => ?_); case hw => ((conv => (lhs; whnf)); first | done | with_reducible rfl)) | (refine wpPlan_skip0 rfl ?hw ?_; case hw => ((conv => (lhs; whnf)); first | done | with_reducible rfl)) | (refine wpPlan_skip1d rfl ?hw ?_; case hw => ((conv => (lhs; whnf)); first | done | with_reducible rfl)) | (refine wpPlan_skip2 rfl ?hw ?_; case hw => ((conv => (lhs; whnf)); first | done | with_reducible rfl)) | (refine wpPlan_read1 rfl ?hw rfl (fun _ _ _ => ?_); case hw => ((conv => (lhs; whnf)); first | done | with_reducible rfl)) | refine wpPlan_fork ?_ ?_) | ((with_reducible show Owed _ _ _ _ _ _ _ _ _); first | refine Owed.none_ ?_ | refine Owed.nil_ ?_ | refine Owed.miss rfl ?_ | refine Owed.hit ?_ ?_) | ((with_reducible show Same _ _ _ _ _); intro _; go_simp; done) | (with_reducible exact True.intro))
      refine (wnext_any _ _ _ _ _ _ _ _ _ _ _ _ HW46.out 2 (by omega) (by omega) hn).mono ?_
      rintro e w47 ⟨⟨r47, rfl, hr47⟩, hW47, hO47⟩
      have HW47 := Lib.hid hW47
      have HO47 := Lib.hid (HO46.out.trans (hO47.mono (fun j _ h => h.1)))
      have hc47 := hW47.c0
      have hl47 := hW47.lt
      have HN47 := Lib.hid (HN46.out.out hO47 (fun h => h.2 rfl))
      clear hW47 hO47
      obtain ⟨x48, hx48, hxs48⟩ := pick_at HN47.out r47 (by simp; omega) 5 (by decide)
      have hlx48 := HN47.out.lt
      go_wp2_with (first | ((with_reducible show wpPlan _ _ _ _ _ (Act.put _ _ _) _); simp only [List.getElem_toArray, List.getElem_cons_succ, List.getElem_cons_zero, Act.put, List.setIfInBounds_toArray, List.set_cons_zero, List.set_cons_succ]) | ((with_reducible show wpPlan _ _ _ _ _ _ _); first | refine wpPlan_nil ?_ | (refine wpPlan_read0 rfl ?hw rfl (fun _ _ _ => ?_); case hw => ((conv => (lhs; whnf)); first | done | with_reducible rfl)) | (refine wpPlan_read1d rfl ?hw rfl rfl (fun _ _ _ => ?_); case hw => ((conv => (lhs; whnf)); first | done | with_reducible rfl)) | (refine wpPlan_eff rfl ?hw (fun _ _ => ?_); case hw => ((conv => (lhs; whnf)); first | done | with_reducible rfl)) | (refine wpPlan_skip0 rfl ?hw ?_; case hw => ((conv => (lhs; whnf)); first | done | with_reducible rfl)) | (refine wpPlan_skip1d rfl ?hw ?_; case hw => ((conv => (lhs; whnf)); first | done | with_reducible rfl)) | (refine wpPlan_skip2 rfl ?hw ?_; case hw => ((conv => (lhs; whnf)); first | done | with_reducible rfl)) | (refine wpPlan_read1 rfl ?hw rfl (fun _ _ _ => ?_); case hw => ((conv => (lhs; whnf)); first | done | with_reducible rfl)) | refine wpPlan_fork ?_ ?_) | ((with_reducible show Owed _ _ _ _ _ _ _ _ _); first | refine Owed.none_ ?_ | refine Owed.nil_ ?_ | refine Owed.miss rfl ?_ | refine Owed.hit ?_ ?_) | ((with_reducible show Same _ _ _ _ _); intro _; go_simp; done) | (with_reducible exact True.intro))
      refine (IH _ _ _ _ _ _ _ _ _ _ _ _ _ _ HW47.out hn (by omega) (by omega) (by omega) (by omega) (by omega)).mono ?_
      rintro e w49 ⟨s49, f49, rfl, hs49, hW49, hf49, hO49⟩
      have HW49 := Lib.hid hW49
      have HO49 := Lib.hid (HO47.out.trans (hO49.mono (fun j _ h => h.1)))
      have hc49 := hW49.c0
      have hl49 := hW49.lt
      have HN49 := Lib.hid (HN47.out.out hO49 (fun h => h.2 rfl))
      have hx49 := hO49.cell hx48 (fun h => h.2 rfl)
      clear hW49 hO49
      go_wp2_with (first | ((with_reducible show wpPlan _ _ _ _ _ (Act.put _ _ _) _); simp only [List.getElem_toArray, List.getElem_cons_succ, List.getElem_cons_zero, Act.put, List.setIfInBounds_toArray, List.set_cons_zero, List.set_cons_succ]) | ((with_reducible show wpPlan _ _ _ _ _ _ _); first | refine wpPlan_nil ?_ | (refine wpPlan_read0 rfl ?hw rfl (fun _ _ _ => ?_); case hw => ((conv => (lhs; whnf)); first | done | with_reducible rfl)) | (refine wpPlan_read1d rfl ?hw rfl rfl (fun _ _ _ => ?_); case hw => ((conv => (lhs; whnf)); first | done | with_reducible rfl)) | (refine wpPlan_eff rfl ?hw (fun _ _ => ?_); case hw => ((conv => (lhs; whnf)); first | done | with_reducible rfl)) | (refine wpPlan_skip0 rfl ?hw ?_; case hw => ((conv => (lhs; whnf)); first | done | with_reducible rfl)) | (refine wpPlan_skip1d rfl ?hw ?_; case hw => ((conv => (lhs; whnf)); first | done | with_reducible rfl)) | (refine wpPlan_skip2 rfl ?hw ?_; case hw => ((conv => (lhs; whnf)); first | done | with_reducible rfl)) | (refine wpPlan_read1 rfl ?hw rfl (fun _ _ _ => ?_); case hw => ((conv => (lhs; whnf)); first | done | with_reducible rfl)) | refine wpPlan_fork ?_ ?_) | ((with_reducible show Owed _ _ _ _ _ _ _ _ _); first | refine Owed.none_ ?_ | refine Owed.nil_ ?_ | refine Owed.miss rfl ?_ | refine Owed.hit ?_ ?_) | ((with_reducible show Same _ _ _ _ _); intro _; go_simp; done) | (with_reducible exact True.intro))
      go_ret
      exact ⟨_, _, rfl, (by simp [ByteArray.size_append, lit_size]; omega), HW49.out.weak (fun j h => h.1) HH.out.lo, by omega, HO49.out⟩
  · go_wp2_with fail
    refine (IH _ _ _ _ _ _ _ _ _ _ _ _ _ _ HW1.out hn (by omega) (by omega) (by omega) (by omega) (by omega)).mono ?_
    rintro e w50 ⟨s50, f50, rfl, hs50, hW50, hf50, hO50⟩
    have HW50 := Lib.hid hW50
    have HO50 := Lib.hid (HO1.out.trans (hO50))
    have hc50 := hW50.c0
    have hl50 := hW50.lt
    clear hW50 hO50
    go_wp2_with fail
    refine (IH _ _ _ _ _ _ _ _ _ _ _ _ _ _ HW50.out hn (by omega) (by omega) (by omega) (by omega) (by omega)).mono ?_
    rintro e w51 ⟨s51, f51, rfl, hs51, hW51, hf51, hO51⟩
    have HW51 := Lib.hid hW51
    have HO51 := Lib.hid (HO50.out.trans (hO51))
    have hc51 := hW51.c0
    have hl51 := hW51.lt
    clear hW51 hO51
    go_wp2_with fail
    go_ret
    exact ⟨_, _, rfl, (by simp [ByteArray.size_append, lit_size]; omega), HW51.out, by omega, HO51.out⟩
  · go_wp2_with fail
    refine (IH _ _ _ _ _ _ _ _ _ _ _ _ _ _ HW1.out hn (by omega) (by omega) (by omega) (by omega) (by omega)).mono ?_
    rintro e w52 ⟨s52, f52, rfl, hs52, hW52, hf52, hO52⟩
    have HW52 := Lib.hid hW52
    have HO52 := Lib.hid (HO1.out.trans (hO52))
    have hc52 := hW52.c0
    have hl52 := hW52.lt
    clear hW52 hO52
    go_wp2_with fail
    go_ret
    exact ⟨_, _, rfl, (by simp [ByteArray.size_append, lit_size]; omega), HW52.out, by omega, HO52.out⟩
  · go_wp2_with fail
    refine (wnext_any _ _ _ _ _ _ _ _ _ _ _ _ HW1.out 6 (by omega) (by omega) hn).mono ?_
    rintro e w53 ⟨⟨r53, rfl, hr53⟩, hW53, hO53⟩
    have HW53 := Lib.hid hW53
    have HO53 := Lib.hid (HO1.out.trans (hO53))
    have hc53 := hW53.c0
    have hl53 := hW53.lt
    clear hW53 hO53
    go_wp2_with fail
    refine (IH _ _ _ _ _ _ _ _ _ _ _ _ _ _ HW53.out hn (by omega) (by omega) (by omega) (by omega) (by omega)).mono ?_
    rintro e w54 ⟨s54, f54, rfl, hs54, hW54, hf54, hO54⟩
    have HW54 := Lib.hid hW54
    have HO54 := Lib.hid (HO53.out.trans (hO54))
    have hc54 := hW54.c0
    have hl54 := hW54.lt
    clear hW54 hO54
    go_wp2_with fail
    refine (IH _ _ _ _ _ _ _ _ _ _ _ _ _ _ HW54.out hn (by omega) (by omega) (by omega) (by omega) (by omega)).mono ?_
    rintro e w55 ⟨s55, f55, rfl, hs55, hW55, hf55, hO55⟩
    have HW55 := Lib.hid hW55
    have HO55 := Lib.hid (HO54.out.trans (hO55))
    have hc55 := hW55.c0
    have hl55 := hW55.lt
    clear hW55 hO55
    go_wp2_with fail
    go_ret
    exact ⟨_, _, rfl, (by simp [ByteArray.size_append, lit_size]; omega), HW55.out, by omega, HO55.out⟩
  · go_wp2_with fail
    refine (IH _ _ _ _ _ _ _ _ _ _ _ _ _ _ HW1.out hn (by omega) (by omega) (by omega) (by omega) (by omega)).mono ?_
    rintro e w56 ⟨s56, f56, rfl, hs56, hW56, hf56, hO56⟩
    have HW56 := Lib.hid hW56
    have HO56 := Lib.hid (HO1.out.trans (hO56))
    have hc56 := hW56.c0
    have hl56 := hW56.lt
    clear hW56 hO56
    go_wp2_with fail
    go_ret
    exact ⟨_, _, rfl, (by simp [ByteArray.size_append, lit_size]; omega), HW56.out, by omega, HO56.out⟩

end
end Go.Proofs.YtgfhkaamkodpjaaDoor
