/- the generator's writer of sources: expr (printed by wip/tools/wr3gen.py) -/
import Derived.Test.YtgfhkaamkodpjaaDoorWr4
namespace Go.Proofs.YtgfhkaamkodpjaaDoor
open Go Go.RowKit
set_option maxHeartbeats 40000000
set_option maxRecDepth 100000 in
theorem expr_zero : ExprOk 0 := by
  intro B R b wb A n c zs fu k fr w t q h hn hk hfr ht ht6 hq
  obtain rfl : q = 0 := by omega
  clear hq
  have HH := Lib.hid h
  have HO0 := Lib.hid (Outside.refl R w)
  have hc := h.c0
  have hl := h.lt
  clear h
  go_enter Tryd.func35, Tryd.ntmps35
  go_wp2_with fail
  refine (variable_any _ _ _ _ _ _ _ _ _ _ _ _ HH.out hn t (by omega)).mono ?_
  rintro e w1 ⟨⟨s1, rfl, hs1⟩, hW1, hO1⟩
  have HW1 := Lib.hid hW1
  have HO1 := Lib.hid (HO0.out.trans hO1)
  have hc1 := hW1.c0
  have hl1 := hW1.lt
  clear hW1 hO1
  obtain ⟨qe, hqe⟩ : ∃ qe, s1.toList.isEmpty = qe := ⟨_, rfl⟩
  cases qe
  · go_wp2_with fail
    go_ret
    exact ⟨s1, fr, rfl, by have h0 : mS 0 = 12 := rfl; omega, HW1.out, by have h0 : mS 0 = 12 := rfl; omega, HO1.out⟩
  · go_wp2_with fail
    refine (leaf_any _ _ _ _ _ _ _ _ _ _ _ _ HW1.out hn t ht ht6).mono ?_
    rintro e w9 ⟨s9, f9, rfl, hs9, hW9, hf9, hO9⟩
    have HW9 := Lib.hid hW9
    have HO9 := Lib.hid (HO1.out.trans hO9)
    clear hW9 hO9
    go_wp2_with fail
    go_ret
    exact ⟨s9, f9, rfl, Nat.le_trans hs9 (by decide), HW9.out, by have h0 : mS 0 = 12 := rfl; omega, HO9.out⟩

set_option maxRecDepth 100000 in
theorem expr_succ (d : Nat) (IH : ExprOk d) (IH0 : ExprOk 0) : ExprOk (d + 1) := by
  intro B R b wb A n c zs fu k fr w t q h hn hk hfr ht ht6 hq
  have hm : mS (d + 1) = 3 * mS d + 40 := rfl
  have hm12 := mS_ge d
  obtain rfl : q = (d : Int) + 1 := by omega
  have hqb : decide ((d : Int) + 1 ≤ 0) = false := decide_eq_false (by omega)
  clear hq
  have HH := Lib.hid h
  have HO0 := Lib.hid (Outside.refl R w)
  have hc := h.c0
  have hl := h.lt
  clear h
  go_enter Tryd.func35, Tryd.ntmps35
  go_wp2_with fail
  refine (variable_any _ _ _ _ _ _ _ _ _ _ _ _ HH.out hn t (by omega)).mono ?_
  rintro e w1 ⟨⟨s1, rfl, hs1⟩, hW1, hO1⟩
  have HW1 := Lib.hid hW1
  have HO1 := Lib.hid (HO0.out.trans hO1)
  have hc1 := hW1.c0
  have hl1 := hW1.lt
  clear hW1 hO1
  obtain ⟨qe, hqe⟩ : ∃ qe, s1.toList.isEmpty = qe := ⟨_, rfl⟩
  cases qe
  · go_wp2_with fail
    refine (wnext_any _ _ _ _ _ _ _ _ _ _ _ _ HW1.out 3 (by omega) (by omega) hn).mono ?_
    rintro e w1 ⟨⟨r1, rfl, hr1⟩, hW1, hO1⟩
    have HW1 := Lib.hid hW1
    have HO1 := Lib.hid (HO1.out.trans (hO1))
    have hc1 := hW1.c0
    have hl1 := hW1.lt
    clear hW1 hO1
    by_cases hzr1 : r1 = 0
    · subst hzr1
      go_wp2_with fail
      go_ret
      exact ⟨s1, _, rfl, by omega, HW1.out, by omega, HO1.out⟩
    · have hzbr1 : (((r1 : Nat) : Int) == 0) = false := by simp; omega
      go_wp2_with fail
      refine (wnext_any _ _ _ _ _ _ _ _ _ _ _ _ HW1.out 8 (by omega) (by omega) hn).mono ?_
      rintro e w2 ⟨⟨r2, rfl, hr2⟩, hW2, hO2⟩
      have HW2 := Lib.hid hW2
      have HO2 := Lib.hid (HO1.out.trans (hO2))
      have hc2 := hW2.c0
      have hl2 := hW2.lt
      clear hW2 hO2
      by_cases hzr2 : r2 = 7
      · subst hzr2
        go_wp2_with fail
        refine (IH _ _ _ _ _ _ _ _ _ _ _ _ _ _ HW2.out hn (by omega) (by omega) (by omega) (by omega) (by omega)).mono ?_
        rintro e w3 ⟨s3, f3, rfl, hs3, hW3, hf3, hO3⟩
        have HW3 := Lib.hid hW3
        have HO3 := Lib.hid (HO2.out.trans (hO3))
        have hc3 := hW3.c0
        have hl3 := hW3.lt
        clear hW3 hO3
        go_wp2_with fail
        refine (IH _ _ _ _ _ _ _ _ _ _ _ _ _ _ HW3.out hn (by omega) (by omega) (by omega) (by omega) (by omega)).mono ?_
        rintro e w4 ⟨s4, f4, rfl, hs4, hW4, hf4, hO4⟩
        have HW4 := Lib.hid hW4
        have HO4 := Lib.hid (HO3.out.trans (hO4))
        have hc4 := hW4.c0
        have hl4 := hW4.lt
        clear hW4 hO4
        go_wp2_with fail
        refine (IH _ _ _ _ _ _ _ _ _ _ _ _ _ _ HW4.out hn (by omega) (by omega) (by omega) (by omega) (by omega)).mono ?_
        rintro e w5 ⟨s5, f5, rfl, hs5, hW5, hf5, hO5⟩
        have HW5 := Lib.hid hW5
        have HO5 := Lib.hid (HO4.out.trans (hO5))
        have hc5 := hW5.c0
        have hl5 := hW5.lt
        clear hW5 hO5
        go_wp2_with fail
        go_ret
        exact ⟨_, _, rfl, (by simp [ByteArray.size_append, lit_size]; omega), HW5.out, by omega, HO5.out⟩
      · have hzbr2 : (((r2 : Nat) : Int) == 7) = false := by simp; omega
        go_wp2_with fail
        refine (wnext_any _ _ _ _ _ _ _ _ _ _ _ _ HW2.out 10 (by omega) (by omega) hn).mono ?_
        rintro e w6 ⟨⟨r6, rfl, hr6⟩, hW6, hO6⟩
        have HW6 := Lib.hid hW6
        have HO6 := Lib.hid (HO2.out.trans (hO6))
        have hc6 := hW6.c0
        have hl6 := hW6.lt
        clear hW6 hO6
        by_cases hzr6 : r6 = 9
        · subst hzr6
          go_wp2_with fail
          refine (wlocal_any IH HW6.out hn (by omega) (by omega) t ht ht6 _ rfl).mono ?_
          rintro e w9 ⟨s9, f9, rfl, hs9, hW9, hf9, hO9⟩
          have HW9 := Lib.hid hW9
          have HO9 := Lib.hid (HO6.out.trans hO9)
          clear hW9 hO9
          go_wp2_with fail
          go_ret
          exact ⟨s9, f9, rfl, by omega, HW9.out, by omega, HO9.out⟩
        · have hzbr6 : (((r6 : Nat) : Int) == 9) = false := by simp; omega
          rcases (show t = 0 ∨ t = 1 ∨ t = 2 ∨ t = 3 ∨ t = 4 ∨ t = 5 by omega) with rfl | rfl | rfl | rfl | rfl | rfl
          · go_wp2_with fail
            refine (winteger_any IH HW6.out hn (by omega) (by omega) _ rfl).mono ?_
            rintro e w9 ⟨s9, f9, rfl, hs9, hW9, hf9, hO9⟩
            have HW9 := Lib.hid hW9
            have HO9 := Lib.hid (HO6.out.trans hO9)
            clear hW9 hO9
            go_wp2_with fail
            go_ret
            exact ⟨s9, f9, rfl, by omega, HW9.out, by omega, HO9.out⟩
          · go_wp2_with fail
            refine (wtruth_any IH HW6.out hn (by omega) (by omega) _ rfl).mono ?_
            rintro e w9 ⟨s9, f9, rfl, hs9, hW9, hf9, hO9⟩
            have HW9 := Lib.hid hW9
            have HO9 := Lib.hid (HO6.out.trans hO9)
            clear hW9 hO9
            go_wp2_with fail
            go_ret
            exact ⟨s9, f9, rfl, by omega, HW9.out, by omega, HO9.out⟩
          · go_wp2_with fail
            refine (wsequence_any IH HW6.out hn (by omega) (by omega) _ rfl).mono ?_
            rintro e w9 ⟨s9, f9, rfl, hs9, hW9, hf9, hO9⟩
            have HW9 := Lib.hid hW9
            have HO9 := Lib.hid (HO6.out.trans hO9)
            clear hW9 hO9
            go_wp2_with fail
            go_ret
            exact ⟨s9, f9, rfl, by omega, HW9.out, by omega, HO9.out⟩
          · go_wp2_with fail
            refine (wset_any IH IH0 HW6.out hn (by omega) (by omega) _ rfl).mono ?_
            rintro e w9 ⟨s9, f9, rfl, hs9, hW9, hf9, hO9⟩
            have HW9 := Lib.hid hW9
            have HO9 := Lib.hid (HO6.out.trans hO9)
            clear hW9 hO9
            go_wp2_with fail
            go_ret
            exact ⟨s9, f9, rfl, by omega, HW9.out, by omega, HO9.out⟩
          · go_wp2_with fail
            refine (IH _ _ _ _ _ _ _ _ _ _ _ _ _ _ HW6.out hn (by omega) (by omega) (by omega) (by omega) (by omega)).mono ?_
            rintro e w12 ⟨s12, f12, rfl, hs12, hW12, hf12, hO12⟩
            have HW12 := Lib.hid hW12
            have HO12 := Lib.hid (HO6.out.trans (hO12))
            have hc12 := hW12.c0
            have hl12 := hW12.lt
            clear hW12 hO12
            go_wp2_with fail
            refine (IH _ _ _ _ _ _ _ _ _ _ _ _ _ _ HW12.out hn (by omega) (by omega) (by omega) (by omega) (by omega)).mono ?_
            rintro e w13 ⟨s13, f13, rfl, hs13, hW13, hf13, hO13⟩
            have HW13 := Lib.hid hW13
            have HO13 := Lib.hid (HO12.out.trans (hO13))
            have hc13 := hW13.c0
            have hl13 := hW13.lt
            clear hW13 hO13
            go_wp2_with fail
            go_ret
            exact ⟨_, _, rfl, (by simp [ByteArray.size_append, lit_size]; omega), HW13.out, by omega, HO13.out⟩
          · go_wp2_with fail
            refine (leaf_any _ _ _ _ _ _ _ _ _ _ _ _ HW6.out hn 5 (by omega) (by omega)).mono ?_
            rintro e w9 ⟨s9, f9, rfl, hs9, hW9, hf9, hO9⟩
            have HW9 := Lib.hid hW9
            have HO9 := Lib.hid (HO6.out.trans hO9)
            clear hW9 hO9
            go_wp2_with fail
            go_ret
            exact ⟨s9, f9, rfl, by omega, HW9.out, by omega, HO9.out⟩
  · go_wp2_with fail
    refine (wnext_any _ _ _ _ _ _ _ _ _ _ _ _ HW1.out 8 (by omega) (by omega) hn).mono ?_
    rintro e w15 ⟨⟨r15, rfl, hr15⟩, hW15, hO15⟩
    have HW15 := Lib.hid hW15
    have HO15 := Lib.hid (HO1.out.trans (hO15))
    have hc15 := hW15.c0
    have hl15 := hW15.lt
    clear hW15 hO15
    by_cases hzr15 : r15 = 7
    · subst hzr15
      go_wp2_with fail
      refine (IH _ _ _ _ _ _ _ _ _ _ _ _ _ _ HW15.out hn (by omega) (by omega) (by omega) (by omega) (by omega)).mono ?_
      rintro e w16 ⟨s16, f16, rfl, hs16, hW16, hf16, hO16⟩
      have HW16 := Lib.hid hW16
      have HO16 := Lib.hid (HO15.out.trans (hO16))
      have hc16 := hW16.c0
      have hl16 := hW16.lt
      clear hW16 hO16
      go_wp2_with fail
      refine (IH _ _ _ _ _ _ _ _ _ _ _ _ _ _ HW16.out hn (by omega) (by omega) (by omega) (by omega) (by omega)).mono ?_
      rintro e w17 ⟨s17, f17, rfl, hs17, hW17, hf17, hO17⟩
      have HW17 := Lib.hid hW17
      have HO17 := Lib.hid (HO16.out.trans (hO17))
      have hc17 := hW17.c0
      have hl17 := hW17.lt
      clear hW17 hO17
      go_wp2_with fail
      refine (IH _ _ _ _ _ _ _ _ _ _ _ _ _ _ HW17.out hn (by omega) (by omega) (by omega) (by omega) (by omega)).mono ?_
      rintro e w18 ⟨s18, f18, rfl, hs18, hW18, hf18, hO18⟩
      have HW18 := Lib.hid hW18
      have HO18 := Lib.hid (HO17.out.trans (hO18))
      have hc18 := hW18.c0
      have hl18 := hW18.lt
      clear hW18 hO18
      go_wp2_with fail
      go_ret
      exact ⟨_, _, rfl, (by simp [ByteArray.size_append, lit_size]; omega), HW18.out, by omega, HO18.out⟩
    · have hzbr15 : (((r15 : Nat) : Int) == 7) = false := by simp; omega
      go_wp2_with fail
      refine (wnext_any _ _ _ _ _ _ _ _ _ _ _ _ HW15.out 10 (by omega) (by omega) hn).mono ?_
      rintro e w19 ⟨⟨r19, rfl, hr19⟩, hW19, hO19⟩
      have HW19 := Lib.hid hW19
      have HO19 := Lib.hid (HO15.out.trans (hO19))
      have hc19 := hW19.c0
      have hl19 := hW19.lt
      clear hW19 hO19
      by_cases hzr19 : r19 = 9
      · subst hzr19
        go_wp2_with fail
        refine (wlocal_any IH HW19.out hn (by omega) (by omega) t ht ht6 _ rfl).mono ?_
        rintro e w9 ⟨s9, f9, rfl, hs9, hW9, hf9, hO9⟩
        have HW9 := Lib.hid hW9
        have HO9 := Lib.hid (HO19.out.trans hO9)
        clear hW9 hO9
        go_wp2_with fail
        go_ret
        exact ⟨s9, f9, rfl, by omega, HW9.out, by omega, HO9.out⟩
      · have hzbr19 : (((r19 : Nat) : Int) == 9) = false := by simp; omega
        rcases (show t = 0 ∨ t = 1 ∨ t = 2 ∨ t = 3 ∨ t = 4 ∨ t = 5 by omega) with rfl | rfl | rfl | rfl | rfl | rfl
        · go_wp2_with fail
          refine (winteger_any IH HW19.out hn (by omega) (by omega) _ rfl).mono ?_
          rintro e w9 ⟨s9, f9, rfl, hs9, hW9, hf9, hO9⟩
          have HW9 := Lib.hid hW9
          have HO9 := Lib.hid (HO19.out.trans hO9)
          clear hW9 hO9
          go_wp2_with fail
          go_ret
          exact ⟨s9, f9, rfl, by omega, HW9.out, by omega, HO9.out⟩
        · go_wp2_with fail
          refine (wtruth_any IH HW19.out hn (by omega) (by omega) _ rfl).mono ?_
          rintro e w9 ⟨s9, f9, rfl, hs9, hW9, hf9, hO9⟩
          have HW9 := Lib.hid hW9
          have HO9 := Lib.hid (HO19.out.trans hO9)
          clear hW9 hO9
          go_wp2_with fail
          go_ret
          exact ⟨s9, f9, rfl, by omega, HW9.out, by omega, HO9.out⟩
        · go_wp2_with fail
          refine (wsequence_any IH HW19.out hn (by omega) (by omega) _ rfl).mono ?_
          rintro e w9 ⟨s9, f9, rfl, hs9, hW9, hf9, hO9⟩
          have HW9 := Lib.hid hW9
          have HO9 := Lib.hid (HO19.out.trans hO9)
          clear hW9 hO9
          go_wp2_with fail
          go_ret
          exact ⟨s9, f9, rfl, by omega, HW9.out, by omega, HO9.out⟩
        · go_wp2_with fail
          refine (wset_any IH IH0 HW19.out hn (by omega) (by omega) _ rfl).mono ?_
          rintro e w9 ⟨s9, f9, rfl, hs9, hW9, hf9, hO9⟩
          have HW9 := Lib.hid hW9
          have HO9 := Lib.hid (HO19.out.trans hO9)
          clear hW9 hO9
          go_wp2_with fail
          go_ret
          exact ⟨s9, f9, rfl, by omega, HW9.out, by omega, HO9.out⟩
        · go_wp2_with fail
          refine (IH _ _ _ _ _ _ _ _ _ _ _ _ _ _ HW19.out hn (by omega) (by omega) (by omega) (by omega) (by omega)).mono ?_
          rintro e w25 ⟨s25, f25, rfl, hs25, hW25, hf25, hO25⟩
          have HW25 := Lib.hid hW25
          have HO25 := Lib.hid (HO19.out.trans (hO25))
          have hc25 := hW25.c0
          have hl25 := hW25.lt
          clear hW25 hO25
          go_wp2_with fail
          refine (IH _ _ _ _ _ _ _ _ _ _ _ _ _ _ HW25.out hn (by omega) (by omega) (by omega) (by omega) (by omega)).mono ?_
          rintro e w26 ⟨s26, f26, rfl, hs26, hW26, hf26, hO26⟩
          have HW26 := Lib.hid hW26
          have HO26 := Lib.hid (HO25.out.trans (hO26))
          have hc26 := hW26.c0
          have hl26 := hW26.lt
          clear hW26 hO26
          go_wp2_with fail
          go_ret
          exact ⟨_, _, rfl, (by simp [ByteArray.size_append, lit_size]; omega), HW26.out, by omega, HO26.out⟩
        · go_wp2_with fail
          refine (leaf_any _ _ _ _ _ _ _ _ _ _ _ _ HW19.out hn 5 (by omega) (by omega)).mono ?_
          rintro e w9 ⟨s9, f9, rfl, hs9, hW9, hf9, hO9⟩
          have HW9 := Lib.hid hW9
          have HO9 := Lib.hid (HO19.out.trans hO9)
          clear hW9 hO9
          go_wp2_with fail
          go_ret
          exact ⟨s9, f9, rfl, by omega, HW9.out, by omega, HO9.out⟩


theorem expr_all : ∀ d : Nat, ExprOk d
  | 0 => expr_zero
  | d + 1 => expr_succ d (expr_all d) expr_zero

end Go.Proofs.YtgfhkaamkodpjaaDoor
