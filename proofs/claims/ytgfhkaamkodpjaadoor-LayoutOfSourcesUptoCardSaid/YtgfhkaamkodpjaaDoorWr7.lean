/- the generator's writer of sources: Source returns some string that is not long, and turns nothing (printed by wip/tools/wr7gen.py) -/
import Derived.Test.YtgfhkaamkodpjaaDoorWr6
import Derived.Deep.DeepCutAuto
namespace Go.Proofs.YtgfhkaamkodpjaaDoor
open Go Go.RowKit
set_option maxHeartbeats 40000000

/-- A round of Source: i rounds are done, the text s. -/
def SrcRel (W : World) (B b wb : Nat) (A : Option Addr) (n c : Nat) (zs : List Int) (a m : Nat) (vi vs : Value) (wr : World) : Prop :=
  ∃ (i : Nat) (s : ByteArray) (f : Nat), i ≤ 2 ∧ vi = .int .i64 i ∧ vs = .string s ∧ s.size ≤ a + i * m ∧ f ≤ a + i * m ∧ WrAt wr B (fun j => W.heap.size ≤ j) b wb A n c zs 2 0 f ∧ Below W.heap.size W wr

theorem wr_below {W w w' : World} (hb : Below W.heap.size W w) (ho : Outside (fun j => W.heap.size ≤ j) w w') : Below W.heap.size W w' := hb.trans (ho.below hb.size (fun z hz e => by omega))

set_option maxRecDepth 100000 in
theorem source_any (B : Nat) (A : Option Addr) (n c : Nat) (zs : List Int) (w : World) (h : Rd w B 1 A n (cellsOf icell zs)) (hB : B ≤ w.heap.size) (hn : n ≤ 1000000000000) :
    Calls Tryd.prog 16 #[.slice A n c] w fun e w' => (∃ s : ByteArray, e = .returned (.string s) ∧ s.size ≤ 4000) ∧ Below w.heap.size w w' := by
  have HR := Lib.hid h
  have hm0 : mS 0 = 12 := rfl
  have hm2 : mS 2 = 268 := rfl
  have hp1 : pS 1 = 200 := rfl
  have hp2 : pS 2 = 560 := rfl
  clear h
  go_enter Tryd.func16, Tryd.ntmps16
  go_wp2_with fail
  refine (new_any B A n c zs _ HR.out hB).mono ?_
  rintro e w1 ⟨rfl, hch, hb1, hz1⟩
  have hlt : w.heap.size < w1.heap.size := hch.blk.lt
  have HW0 := Lib.hid (show WrAt (w1.alloc (.cells #[.pointer (some ⟨w.heap.size, 0, none⟩), .slice none 0 0, .slice none 0 0, .int .i64 2, .int .i64 (0 : Nat)] 60)) B (fun j => w.heap.size ≤ j) w.heap.size (w.heap.size + 1) A n c zs 2 0 0 from
    ⟨⟨0, hch.below ((Below.refl _ _).alloc (Nat.le_refl _) _)⟩, ⟨.slice none 0 0, .slice none 0 0, [], [], Blk.newAt hz1.symm, World.ownsRow_nil _ _ _ _, World.ownsRow_nil _ _ _ _, fun g hg => (by cases hg), fun g hg => (by cases hg), fun s hs => (by cases hs)⟩,
      Nat.le_refl _, Nat.le_succ _, fun j hj => Nat.le_trans hB hj, fun j hj => (by simp at hj; show w.heap.size ≤ j; omega)⟩)
  have HB0 := Lib.hid (hb1.alloc hb1.size (.cells #[.pointer (some ⟨w.heap.size, 0, none⟩), .slice none 0 0, .slice none 0 0, .int .i64 2, .int .i64 (0 : Nat)] 60))
  clear hch hb1
  go_wp2_with fail
  go_loopw [5, 4] (fun vi vs wr => SrcRel w B w.heap.size (w.heap.size + 1) A n c zs 650 300 vi vs wr) (fun vi _ _ => 2 - (intOf vi).toNat)
  case atStart => exact ⟨0, _, 0, by decide, rfl, rfl, (by decide), by decide, HW0.out, HB0.out⟩
  case round =>
    obtain ⟨i, s, f, hi, rfl, rfl, hs, hf, hW, hBl⟩ := hrel
    have HH := Lib.hid hW
    have HBL := Lib.hid hBl
    have HO0 := Lib.hid (Outside.refl (fun j => w.heap.size ≤ j) wr)
    have hc := hW.c0
    have hl := hW.lt
    clear hW hBl
    go_wp2_with fail
    refine (wnext_any _ _ _ _ _ _ _ _ _ _ _ _ HH.out 2 (by omega) (by omega) hn).mono ?_
    rintro e w1 ⟨⟨r1, rfl, hr1⟩, hW1, hO1⟩
    have HW1 := Lib.hid hW1
    have HO1 := Lib.hid (HO0.out.trans (hO1))
    have hc1 := hW1.c0
    have hl1 := hW1.lt
    clear hW1 hO1
    by_cases hlt2 : i < 1 + r1
    · have hltb : decide ((i : Int) < 1 + r1) = true := decide_eq_true (by omega)
      go_wp2_with fail
      refine (mark_any _ _ _ _ _ _ _ _ _ _ _ _ HW1.out).mono ?_
      rintro e w0 ⟨rfl, rfl⟩
      go_wp2_with fail
      refine (wnext_any _ _ _ _ _ _ _ _ _ _ _ _ HW1.out 6 (by omega) (by omega) hn).mono ?_
      rintro e w2 ⟨⟨r2, rfl, hr2⟩, hW2, hO2⟩
      have HW2 := Lib.hid hW2
      have HO2 := Lib.hid (HO1.out.trans (hO2))
      have hc2 := hW2.c0
      have hl2 := hW2.lt
      clear hW2 hO2
      go_wp2_with fail
      refine (bind_any _ _ _ _ _ _ _ _ _ _ _ _ HW2.out _ (by omega) (by omega)).mono ?_
      rintro e w3 ⟨⟨s3, rfl, hs3⟩, hW3, hO3⟩
      have HW3 := Lib.hid hW3
      have HO3 := Lib.hid (HO2.out.trans (hO3))
      have hc3 := hW3.c0
      have hl3 := hW3.lt
      clear hW3 hO3
      go_wp2_with (first | ((with_reducible show wpPlan _ _ _ _ _ (Act.put _ _ _) _); simp only [List.getElem_toArray, List.getElem_cons_succ, List.getElem_cons_zero, Act.put, List.setIfInBounds_toArray, List.set_cons_zero, List.set_cons_succ]) | ((with_reducible show wpPlan _ _ _ _ _ _ _); first | refine wpPlan_nil ?_ | (refine wpPlan_read0 rfl ?hw rfl (fun _ _ _ => ?_); case hw => ((conv => (lhs; whnf)); first | done | with_reducible rfl)) | (refine wpPlan_read1d rfl ?hw rfl rfl (fun _ _ _ => ?_); case hw => ((conv => (lhs; whnf)); first | done | with_reducible rfl)) | (refine wpPlan_eff rfl ?hw (fun _ _ => ?_); case hw => ((conv => (lhs; whnf)); first | done | with_reducible rfl)) | (refine wpPlan_skip0 rfl ?hw ?_; case hw => ((conv => (lhs; whnf)); first | done | with_reducible rfl)) | (refine wpPlan_skip1d rfl ?hw ?_; case hw => ((conv => (lhs; whnf)); first | done | with_reducible rfl)) | (refine wpPlan_skip2 rfl ?hw ?_; case hw => ((conv => (lhs; whnf)); first | done | with_reducible rfl)) | (refine wpPlan_read1 rfl ?hw rfl (fun _ _ _ => ?_); case hw => ((conv => (lhs; whnf)); first | done | with_reducible rfl)) | refine wpPlan_fork ?_ ?_) | ((with_reducible show Owed _ _ _ _ _ _ _ _ _); first | refine Owed.none_ ?_ | refine Owed.nil_ ?_ | refine Owed.miss rfl ?_ | refine Owed.hit ?_ ?_) | ((with_reducible show Same _ _ _ _ _); intro _; go_simp; done) | (with_reducible exact True.intro) | ((with_reducible show Code.wp _ (Code.region 9 _ true) _ _ _); refine wp_region_plan [(0, 0, []), (1, 0, []), (5, 0, []), (8, 0, []), (9, 0, []), (10, 1, []), (11, 1, []), (12, 1, []), (2, 2, [10, 11, 12]), (3, 1, []), (4, 1, []), (6, 1, []), (7, 1, []), (13, 2, [3, 4, 6, 7]), (14, 2, [3, 4, 6, 7]), (15, 1, []), (16, 1, []), (17, 1, []), (18, 0, [])] (by kernel_rfl) (by kernel_rfl) (by kernel_rfl) ?_))
      refine (gdigit_any _ _ (by omega) (by omega)).mono ?_
      rintro e w4 ⟨⟨s4, rfl, hs4⟩, rfl⟩
      go_wp2_with (first | ((with_reducible show wpPlan _ _ _ _ _ (Act.put _ _ _) _); simp only [List.getElem_toArray, List.getElem_cons_succ, List.getElem_cons_zero, Act.put, List.setIfInBounds_toArray, List.set_cons_zero, List.set_cons_succ]) | ((with_reducible show wpPlan _ _ _ _ _ _ _); first | refine wpPlan_nil ?_ | (refine wpPlan_read0 rfl ?hw rfl (fun _ _ _ => ?_); case hw => ((conv => (lhs; whnf)); first | done | with_reducible rfl)) | (refine wpPlan_read1d rfl ?hw rfl rfl (fun _ _ _ => ?_); case hw => ((conv => (lhs; whnf)); first | done | with_reducible rfl)) | (refine wpPlan_eff rfl ?hw (fun _ _ => ?_); case hw => ((conv => (lhs; whnf)); first | done | with_reducible rfl)) | (refine wpPlan_skip0 rfl ?hw ?_; case hw => ((conv => (lhs; whnf)); first | done | with_reducible rfl)) | (refine wpPlan_skip1d rfl ?hw ?_; case hw => ((conv => (lhs; whnf)); first | done | with_reducible rfl)) | (refine wpPlan_skip2 rfl ?hw ?_; case hw => ((conv => (lhs; whnf)); first | done | with_reducible rfl)) | (refine wpPlan_read1 rfl ?hw rfl (fun _ _ _ => ?_); case hw => ((conv => (lhs; whnf)); first | done | with_reducible rfl)) | refine wpPlan_fork ?_ ?_) | ((with_reducible show Owed _ _ _ _ _ _ _ _ _); first | refine Owed.none_ ?_ | refine Owed.nil_ ?_ | refine Owed.miss rfl ?_ | refine Owed.hit ?_ ?_) | ((with_reducible show Same _ _ _ _ _); intro _; go_simp; done) | (with_reducible exact True.intro) | ((with_reducible show Code.wp _ (Code.region 9 _ true) _ _ _); refine wp_region_plan [(0, 0, []), (1, 0, []), (5, 0, []), (8, 0, []), (9, 0, []), (10, 1, []), (11, 1, []), (12, 1, []), (2, 2, [10, 11, 12]), (3, 1, []), (4, 1, []), (6, 1, []), (7, 1, []), (13, 2, [3, 4, 6, 7]), (14, 2, [3, 4, 6, 7]), (15, 1, []), (16, 1, []), (17, 1, []), (18, 0, [])] (by kernel_rfl) (by kernel_rfl) (by kernel_rfl) ?_))
      refine (wnext_any _ _ _ _ _ _ _ _ _ _ _ _ HW3.out.drew 6 (by omega) (by omega) hn).mono ?_
      rintro e w5 ⟨⟨r5, rfl, hr5⟩, hW5, hO5⟩
      have HW5 := Lib.hid hW5
      have HO5 := Lib.hid (HO3.out.drew.trans (hO5))
      have hc5 := hW5.c0
      have hl5 := hW5.lt
      clear hW5 hO5
      go_wp2_with (first | ((with_reducible show wpPlan _ _ _ _ _ (Act.put _ _ _) _); simp only [List.getElem_toArray, List.getElem_cons_succ, List.getElem_cons_zero, Act.put, List.setIfInBounds_toArray, List.set_cons_zero, List.set_cons_succ]) | ((with_reducible show wpPlan _ _ _ _ _ _ _); first | refine wpPlan_nil ?_ | (refine wpPlan_read0 rfl ?hw rfl (fun _ _ _ => ?_); case hw => ((conv => (lhs; whnf)); first | done | with_reducible rfl)) | (refine wpPlan_read1d rfl ?hw rfl rfl (fun _ _ _ => ?_); case hw => ((conv => (lhs; whnf)); first | done | with_reducible rfl)) | (refine wpPlan_eff rfl ?hw (fun _ _ => ?_); case hw => ((conv => (lhs; whnf)); first | done | with_reducible rfl)) | (refine wpPlan_skip0 rfl ?hw ?_; case hw => ((conv => (lhs; whnf)); first | done | with_reducible rfl)) | (refine wpPlan_skip1d rfl ?hw ?_; case hw => ((conv => (lhs; whnf)); first | done | with_reducible rfl)) | (refine wpPlan_skip2 rfl ?hw ?_; case hw => ((conv => (lhs; whnf)); first | done | with_reducible rfl)) | (refine wpPlan_read1 rfl ?hw rfl (fun _ _ _ => ?_); case hw => ((conv => (lhs; whnf)); first | done | with_reducible rfl)) | refine wpPlan_fork ?_ ?_) | ((with_reducible show Owed _ _ _ _ _ _ _ _ _); first | refine Owed.none_ ?_ | refine Owed.nil_ ?_ | refine Owed.miss rfl ?_ | refine Owed.hit ?_ ?_) | ((with_reducible show Same _ _ _ _ _); intro _; go_simp; done) | (with_reducible exact True.intro) | ((with_reducible show Code.wp _ (Code.region 9 _ true) _ _ _); refine wp_region_plan [(0, 0, []), (1, 0, []), (5, 0, []), (8, 0, []), (9, 0, []), (10, 1, []), (11, 1, []), (12, 1, []), (2, 2, [10, 11, 12]), (3, 1, []), (4, 1, []), (6, 1, []), (7, 1, []), (13, 2, [3, 4, 6, 7]), (14, 2, [3, 4, 6, 7]), (15, 1, []), (16, 1, []), (17, 1, []), (18, 0, [])] (by kernel_rfl) (by kernel_rfl) (by kernel_rfl) ?_))
      refine ((expr_all 2) _ _ _ _ _ _ _ _ _ _ _ _ _ _ HW5.out hn (by omega) (by omega) (by omega) (by omega) (by omega)).mono ?_
      rintro e w6 ⟨s6, f6, rfl, hs6, hW6, hf6, hO6⟩
      have HW6 := Lib.hid hW6
      have HO6 := Lib.hid (HO5.out.trans (hO6))
      have hc6 := hW6.c0
      have hl6 := hW6.lt
      clear hW6 hO6
      go_wp2_with (first | ((with_reducible show wpPlan _ _ _ _ _ (Act.put _ _ _) _); simp only [List.getElem_toArray, List.getElem_cons_succ, List.getElem_cons_zero, Act.put, List.setIfInBounds_toArray, List.set_cons_zero, List.set_cons_succ]) | ((with_reducible show wpPlan _ _ _ _ _ _ _); first | refine wpPlan_nil ?_ | (refine wpPlan_read0 rfl ?hw rfl (fun _ _ _ => ?_); case hw => ((conv => (lhs; whnf)); first | done | with_reducible rfl)) | (refine wpPlan_read1d rfl ?hw rfl rfl (fun _ _ _ => ?_); case hw => ((conv => (lhs; whnf)); first | done | with_reducible rfl)) | (refine wpPlan_eff rfl ?hw (fun _ _ => ?_); case hw => ((conv => (lhs; whnf)); first | done | with_reducible rfl)) | (refine wpPlan_skip0 rfl ?hw ?_; case hw => ((conv => (lhs; whnf)); first | done | with_reducible rfl)) | (refine wpPlan_skip1d rfl ?hw ?_; case hw => ((conv => (lhs; whnf)); first | done | with_reducible rfl)) | (refine wpPlan_skip2 rfl ?hw ?_; case hw => ((conv => (lhs; whnf)); first | done | with_reducible rfl)) | (refine wpPlan_read1 rfl ?hw rfl (fun _ _ _ => ?_); case hw => ((conv => (lhs; whnf)); first | done | with_reducible rfl)) | refine wpPlan_fork ?_ ?_) | ((with_reducible show Owed _ _ _ _ _ _ _ _ _); first | refine Owed.none_ ?_ | refine Owed.nil_ ?_ | refine Owed.miss rfl ?_ | refine Owed.hit ?_ ?_) | ((with_reducible show Same _ _ _ _ _); intro _; go_simp; done) | (with_reducible exact True.intro) | ((with_reducible show Code.wp _ (Code.region 9 _ true) _ _ _); refine wp_region_plan [(0, 0, []), (1, 0, []), (5, 0, []), (8, 0, []), (9, 0, []), (10, 1, []), (11, 1, []), (12, 1, []), (2, 2, [10, 11, 12]), (3, 1, []), (4, 1, []), (6, 1, []), (7, 1, []), (13, 2, [3, 4, 6, 7]), (14, 2, [3, 4, 6, 7]), (15, 1, []), (16, 1, []), (17, 1, []), (18, 0, [])] (by kernel_rfl) (by kernel_rfl) (by kernel_rfl) ?_))
      refine (reset_any _ _ _ _ _ _ _ _ _ _ _ _ HW6.out 0 (by omega) (by omega)).mono ?_
      rintro e w7 ⟨rfl, hW7, hO7⟩
      have HB7 := Lib.hid (wr_below HBL.out (HO6.out.trans hO7))
      have HW7 := Lib.hid hW7
      clear hW7 hO7
      go_wp2_with fail
      go_roundw
      case rel => exact ⟨i + 1, _, _, by omega, by go_num, rfl, (by simp [ByteArray.size_append, lit_size]; omega), by omega, HW7.out, HB7.out⟩
      case measure => simp [intOf]; omega
    · have hltb : decide ((i : Int) < 1 + r1) = false := decide_eq_false (by omega)
      have HBx := Lib.hid (wr_below HBL.out HO1.out)
      have hs2 : s.size ≤ 1250 := by omega
      have hf2 : f ≤ 1250 := by omega
      go_wp2_with fail
      clear hs hf hlt2 hltb hi
      go_loopw [9, 4] (fun vi vs wr => SrcRel w B w.heap.size (w.heap.size + 1) A n c zs 2500 600 vi vs wr) (fun vi _ _ => 2 - (intOf vi).toNat)
      case atStart => exact ⟨0, s, _, by decide, rfl, rfl, by omega, by omega, HW1.out, HBx.out⟩
      case round =>
        rename World => wq
        obtain ⟨i2, s2, f2, hi2, rfl, rfl, hs3, hf3, hW, hBl⟩ := hrel
        have HHb := Lib.hid hW
        have HBLb := Lib.hid hBl
        have HO0b := Lib.hid (Outside.refl (fun j => w.heap.size ≤ j) wq)
        have hcb := hW.c0
        have hc3 := hW.c3
        have hlb := hW.lt
        clear hW hBl
        by_cases hlt2 : i2 < 2
        · go_wp2_with fail
          refine (gdigit_any _ _ (by omega) (by omega)).mono ?_
          rintro e w8 ⟨⟨s8, rfl, hs8⟩, rfl⟩
          go_wp2_with fail
          refine (event_any _ _ _ _ _ _ _ _ _ _ _ _ HHb.out hn).mono ?_
          rintro e w9 ⟨s9, f9, rfl, hs9, hW9, hf9, hO9⟩
          have HW9 := Lib.hid hW9
          have HO9 := Lib.hid (HO0b.out.trans (hO9))
          have hc9 := hW9.c0
          have hl9 := hW9.lt
          clear hW9 hO9
          go_wp2_with fail
          refine ((proc_all 2) _ _ _ _ _ _ _ _ _ _ _ _ _ HW9.out hn (by omega) (by omega) (by omega) (by omega) (by omega)).mono ?_
          rintro e w10 ⟨s10, f10, rfl, hs10, hW10, hf10, hO10⟩
          have HW10 := Lib.hid hW10
          have HO10 := Lib.hid (HO9.out.trans (hO10))
          have hc10 := hW10.c0
          have hl10 := hW10.lt
          clear hW10 hO10
          go_wp2_with fail
          have HBz := Lib.hid (wr_below HBLb.out HO10.out)
          go_roundw
          case rel => exact ⟨i2 + 1, _, _, by omega, by go_num, rfl, (by simp [ByteArray.size_append, lit_size]; omega), by omega, HW10.out, HBz.out⟩
          case measure => simp [intOf]; omega
        · go_wp2_with fail
          refine (mark_any _ _ _ _ _ _ _ _ _ _ _ _ HHb.out).mono ?_
          rintro e w0 ⟨rfl, rfl⟩
          go_wp2_with fail
          refine (bind_any _ _ _ _ _ _ _ _ _ _ _ _ HHb.out _ (by omega) (by omega)).mono ?_
          rintro e w11 ⟨⟨s11, rfl, hs11⟩, hW11, hO11⟩
          have HW11 := Lib.hid hW11
          have HO11 := Lib.hid (HO0b.out.trans (hO11))
          have hc11 := hW11.c0
          have hl11 := hW11.lt
          clear hW11 hO11
          go_wp2_with fail
          refine ((proc_all 1) _ _ _ _ _ _ _ _ _ _ _ _ _ HW11.out hn (by omega) (by omega) (by omega) (by omega) (by omega)).mono ?_
          rintro e w12 ⟨s12, f12, rfl, hs12, hW12, hf12, hO12⟩
          have HW12 := Lib.hid hW12
          have HO12 := Lib.hid (HO11.out.trans (hO12))
          have hc12 := hW12.c0
          have hl12 := hW12.lt
          clear hW12 hO12
          go_wp2_with fail
          refine (reset_any _ _ _ _ _ _ _ _ _ _ _ _ HW12.out 0 (by omega) (by omega)).mono ?_
          rintro e w13 ⟨rfl, hW13, hO13⟩
          have HB13 := Lib.hid (wr_below HBLb.out (HO12.out.trans hO13))
          clear hW13 hO13
          go_wp2_with fail
          go_ret
          exact ⟨⟨_, rfl, (by simp [ByteArray.size_append, lit_size]; omega)⟩, HB13.out⟩

end Go.Proofs.YtgfhkaamkodpjaaDoor
