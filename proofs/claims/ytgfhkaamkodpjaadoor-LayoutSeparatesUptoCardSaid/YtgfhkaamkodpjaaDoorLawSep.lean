/- LayoutSeparates: the law's walk -/
import Derived.Test.YtgfhkaamkodpjaaDoorLawNest
import Derived.Test.YtgfhkaamkodpjaaDoorTxt3
namespace Go.Proofs.YtgfhkaamkodpjaaDoor
open Go Go.RowKit
set_option maxHeartbeats 8000000
attribute [local irreducible] kwB syB clB

theorem str_sp (k : Nat) (h : k ≤ 7) : (⟨#[32, 32, 32, 32, 32, 32, 32]⟩ : ByteArray).extract 0 k = bstr (List.replicate k 32) := by
  have : ∀ k ≤ 7, (⟨#[32, 32, 32, 32, 32, 32, 32]⟩ : ByteArray).extract 0 k = bstr (List.replicate k 32) := by decide
  exact this k h

set_option maxRecDepth 100000 in
theorem layoutSeparates_law (w : World) (hG : Glob w.heap.size w) (a0 : Option Addr) (n0 c0 : Nat) (l0 : List Nat) (hR0 : Rd w w.heap.size 1 a0 n0 (cellsOf bcell l0)) (_hn0 : n0 ≤ 1048576) (hs0 : ∀ y ∈ l0, y < 256) :
    Calls Tryd.prog 5 #[.slice a0 n0 c0] w fun e w' => e = .returned (.bool true) ∧ Below w.heap.size w w' := by
  have H0 := Lib.hid hR0
  have HG := Lib.hid hG
  have HL0 := Lib.hid (hR0.len bcell_len (by decide))
  have HS0 := Lib.hid hs0
  clear hR0 hG hs0
  go_enter Tryd.func5, Tryd.ntmps5
  go_wp2
  go_loop [3, 4, 5] (fun vs vw vk => ∃ k : Nat, k ≤ n0 ∧ k ≤ 30 ∧ vk = .int .i64 k ∧ vs = .string (bstr (120 :: sText (l0.take k))) ∧ vw = .string (bstr (79 :: 46 :: sWant (l0.take k)))) (fun _ _ vk => n0 - (intOf vk).toNat)
  case atStart => exact ⟨0, Nat.zero_le _, by decide, rfl, rfl, rfl⟩
  case round =>
    obtain ⟨k, hk, hk30, rfl, rfl, rfl⟩ := hrel
    have hl1 := sText_len (l0.take k)
    have hl2 := sWant_len (l0.take k)
    rw [List.length_take] at hl1 hl2
    have HZ : Hid ((bstr (120 :: sText (l0.take k))).size ≤ 1000) := Lib.hid (by rw [bstr_size, List.length_cons]; omega)
    have HZ2 : Hid ((bstr (79 :: 46 :: sWant (l0.take k))).size ≤ 1000) := Lib.hid (by rw [bstr_size, List.length_cons, List.length_cons]; omega)
    obtain ⟨sk, hsk⟩ : ∃ x, bstr (120 :: sText (l0.take k)) = x := ⟨_, rfl⟩
    obtain ⟨sw, hsw⟩ : ∃ x, bstr (79 :: 46 :: sWant (l0.take k)) = x := ⟨_, rfl⟩
    have HS := Lib.hid hsk
    have HSW := Lib.hid hsw
    have hz := HZ.out
    have hz2 := HZ2.out
    rw [hsk] at hz
    rw [hsw] at hz2
    rw [hsk, hsw]
    clear hsk hsw
    by_cases hlt : k < n0 ∧ k < 30
    · obtain ⟨hlt1, hlt2⟩ := hlt
      obtain ⟨b1, o1, y, rfl, hb1, hy, c0'⟩ := H0.out.byte hlt1
      have hy256 := HS0.out y (List.mem_of_getElem? hy)
      have HT : Hid (l0.take (k + 1) = l0.take k ++ [y]) := Lib.hid (by rw [List.take_add_one, hy]; rfl)
      clear hy hl1 hl2
      by_cases h3 : y % 3 = 0
      · have h3i : ((y : Int) % 3 == 0) = true := by rw [beq_iff_eq]; omega
        have HX : Hid (sk ++ ⟨#[10, 120]⟩ = bstr (120 :: sText (l0.take (k + 1)))) := Lib.hid (by rw [← HS.out, HT.out, sText_snoc, show mOf y = 0 by simp [mOf, h3]]; exact bstr_app _ [10, 120])
        have HX2 : Hid (sw ++ ⟨#[83, 46]⟩ = bstr (79 :: 46 :: sWant (l0.take (k + 1)))) := Lib.hid (by rw [← HSW.out, HT.out, sWant_snoc, if_pos h3]; exact bstr_app _ [83, 46])
        clear h3
        go_wp2_with fail
        go_round
        case rel => exact ⟨k + 1, by omega, by omega, by go_num, by rw [← HX.out], by rw [← HX2.out]⟩
        case measure => simp [intOf]; omega
      · have h3i : ((y : Int) % 3 == 0) = false := by rw [beq_eq_false_iff_ne]; omega
        have HX2 : Hid (sw ++ ⟨#[46]⟩ = bstr (79 :: 46 :: sWant (l0.take (k + 1)))) := Lib.hid (by rw [← HSW.out, HT.out, sWant_snoc, if_neg h3]; exact bstr_app _ [46])
        have HM : Hid (mOf y = 1 + y % 6) := Lib.hid (by simp [mOf, h3])
        clear h3
        go_wp2_with fail
        refine ⟨⟨k + 1, by omega, by omega, by go_num, ?_, by rw [← HX2.out]⟩, by simp [intOf]; omega⟩
        rw [str_sp (1 + y % 6) (by omega), ← HS.out, HT.out, sText_snoc, HM.out]
        congr 1
    · by_cases h1 : k < n0
      · have h2 : ¬ k < 30 := fun h => hlt ⟨h1, h⟩
        go_wp2_with fail
        rw [← HS.out]
        refine (lines_any _ _ _ HG.out (by rw [bstr_size, List.length_cons]; omega)).mono ?_; rw [bstr_list]; obtain ⟨ol, op, hol, hw⟩ := sep_lines (l0.take k) (by simp; omega); rw [hol]; rintro e w1 ⟨⟨A1, n1, rfl, hR1⟩, hb1⟩; have HR1 := Lib.hid hR1; have hlen1 : n1 ≤ 1000 := (by have h1 := hR1.len Tok.cells_len (by decide); have h2 := congrArg List.length hw; simp at h2; dsimp only at h1; omega); have HB1 := Lib.hid hb1; have HG1 := Lib.hid (HG.out.below (hb1.mono HG.out.size)); have HW := Lib.hid hw; clear hR1 hb1 hol hw; dsimp only [Pos.v]; go_wp2_with fail; have HBa := Lib.hid (HB1.out.alloc HB1.out.size (Obj.cells #[.int .i64 op.line, .int .i64 op.col] 29)); refine (awake_any w.heap.size _ (HG1.out.alloc _)).mono ?_; rintro e w2 ⟨rfl, hb2⟩; have HB2 := Lib.hid (HBa.out.trans (hb2.mono HBa.out.size)); have HR2 := Lib.hid ((HR1.out.alloc (Nat.le_refl _) (Obj.cells #[.int .i64 op.line, .int .i64 op.col] 29)).below (hb2.mono (by simp))); clear hb2; go_wp2_with fail; refine (kinds_any A1 _ _ _ ol _ HR2.out (by omega)).mono ?_; rw [HW.out]; obtain ⟨ww, hww⟩ : ∃ x, bstr (79 :: 46 :: (sWant (l0.take k) ++ [67])) = x := ⟨_, rfl⟩; rw [hww]; have HWW := Lib.hid hww; clear hww; rintro e w3 ⟨rfl, rfl⟩; have hz3 : (sw ++ ⟨#[67]⟩ : ByteArray) = ww := (by rw [← HSW.out, ← HWW.out]; exact bstr_app _ [67]); have HZ3 := Lib.hid hz3; clear hz3; go_wp2_with fail; rw [HZ3.out]; go_ret; exact ⟨ret_bool (by simp), HB2.out⟩
      · go_wp2_with fail
        rw [← HS.out]
        refine (lines_any _ _ _ HG.out (by rw [bstr_size, List.length_cons]; omega)).mono ?_; rw [bstr_list]; obtain ⟨ol, op, hol, hw⟩ := sep_lines (l0.take k) (by simp; omega); rw [hol]; rintro e w1 ⟨⟨A1, n1, rfl, hR1⟩, hb1⟩; have HR1 := Lib.hid hR1; have hlen1 : n1 ≤ 1000 := (by have h1 := hR1.len Tok.cells_len (by decide); have h2 := congrArg List.length hw; simp at h2; dsimp only at h1; omega); have HB1 := Lib.hid hb1; have HG1 := Lib.hid (HG.out.below (hb1.mono HG.out.size)); have HW := Lib.hid hw; clear hR1 hb1 hol hw; dsimp only [Pos.v]; go_wp2_with fail; have HBa := Lib.hid (HB1.out.alloc HB1.out.size (Obj.cells #[.int .i64 op.line, .int .i64 op.col] 29)); refine (awake_any w.heap.size _ (HG1.out.alloc _)).mono ?_; rintro e w2 ⟨rfl, hb2⟩; have HB2 := Lib.hid (HBa.out.trans (hb2.mono HBa.out.size)); have HR2 := Lib.hid ((HR1.out.alloc (Nat.le_refl _) (Obj.cells #[.int .i64 op.line, .int .i64 op.col] 29)).below (hb2.mono (by simp))); clear hb2; go_wp2_with fail; refine (kinds_any A1 _ _ _ ol _ HR2.out (by omega)).mono ?_; rw [HW.out]; obtain ⟨ww, hww⟩ : ∃ x, bstr (79 :: 46 :: (sWant (l0.take k) ++ [67])) = x := ⟨_, rfl⟩; rw [hww]; have HWW := Lib.hid hww; clear hww; rintro e w3 ⟨rfl, rfl⟩; have hz3 : (sw ++ ⟨#[67]⟩ : ByteArray) = ww := (by rw [← HSW.out, ← HWW.out]; exact bstr_app _ [67]); have HZ3 := Lib.hid hz3; clear hz3; go_wp2_with fail; rw [HZ3.out]; go_ret; exact ⟨ret_bool (by simp), HB2.out⟩

end Go.Proofs.YtgfhkaamkodpjaaDoor
