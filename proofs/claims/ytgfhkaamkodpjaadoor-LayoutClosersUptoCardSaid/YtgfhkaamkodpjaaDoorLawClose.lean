/- LayoutClosers: the law's walk -/
import Derived.Test.YtgfhkaamkodpjaaDoorLawNest
namespace Go.Proofs.YtgfhkaamkodpjaaDoor
open Go Go.RowKit
set_option maxHeartbeats 8000000
attribute [local irreducible] kwB syB clB

def wantA (k : Nat) : List UInt8 := [79, 46, 46] ++ (List.replicate k [46, 79, 46, 46]).flatten
def wantB (k j : Nat) : List UInt8 := wantA k ++ [46] ++ (List.replicate j [67, 46, 46]).flatten
theorem wantA_len (k : Nat) : (wantA k).length = 3 + 4 * k := by simp [wantA, List.length_flatten]; omega
theorem wantA_succ (k : Nat) : wantA (k + 1) = wantA k ++ [46, 79, 46, 46] := by simp [wantA, List.replicate_succ']
theorem wantB_len (k j : Nat) : (wantB k j).length = 4 + 4 * k + 3 * j := by simp [wantB, wantA_len, List.length_flatten]; omega
theorem wantB_succ (k j : Nat) : wantB k (j + 1) = wantB k j ++ [67, 46, 46] := by simp [wantB, List.replicate_succ']
theorem wantC_eq (k : Nat) (b : Bool) : wantC k b = wantB k k ++ (if b then [83, 46] else []) ++ [67] := by simp [wantC, wantB, wantA]
theorem close_lines (k : Nat) (h : k < 20) (b : Bool) : ∃ ol op, linesS (closeT k k ++ lineN b) = (ol, op, 0) ∧ ol.map kindB = wantC k b := by
  have h1 := scan_close k k (by omega) (by omega) b
  have h4 := close_all k h b
  unfold closeOk at h4
  unfold linesS
  rw [h1]
  generalize insS (nestToks k k ++ lineT b) = X at h4 ⊢
  obtain ⟨ol, op, oe⟩ := X
  dsimp only at h4
  simp only [Bool.and_eq_true, decide_eq_true_eq] at h4
  exact ⟨ol, op, by rw [h4.1], h4.2⟩


set_option maxRecDepth 100000 in
theorem layoutClosers_law (w : World) (hG : Glob w.heap.size w) (b : Nat) (hb : b < 256) (B : Bool) :
    Calls Tryd.prog 6 #[.int .u8 b, .bool B] w fun e w' => e = .returned (.bool true) ∧ Below w.heap.size w w' := by
  have HG := Lib.hid hG
  clear hG
  go_enter Tryd.func6, Tryd.ntmps6
  go_wp2
  go_loop [6, 7, 8] (fun vs vw vk => ∃ k : Nat, k ≤ b % 20 ∧ vk = .int .i64 k ∧ vs = .string (bstr (preN k)) ∧ vw = .string (bstr (wantA k))) (fun _ _ vk => b % 20 - (intOf vk).toNat)
  case atStart => exact ⟨0, Nat.zero_le _, rfl, rfl, rfl⟩
  case round =>
    obtain ⟨k, hk, rfl, rfl, rfl⟩ := hrel
    have hk20 : k < 20 := by omega
    have HZ : Hid ((bstr (preN k)).size ≤ 1000) := Lib.hid (by rw [bstr_size, preN_len]; omega)
    have HZ2 : Hid ((bstr (wantA k)).size ≤ 1000) := Lib.hid (by rw [bstr_size, wantA_len]; omega)
    obtain ⟨sk, hsk⟩ : ∃ x, bstr (preN k) = x := ⟨_, rfl⟩
    obtain ⟨sw, hsw⟩ : ∃ x, bstr (wantA k) = x := ⟨_, rfl⟩
    have HS := Lib.hid hsk
    have HSW := Lib.hid hsw
    have hz := HZ.out
    have hz2 := HZ2.out
    rw [hsk] at hz
    rw [hsw] at hz2
    rw [hsk, hsw]
    clear hsk hsw
    by_cases hlt : k < b % 20
    · have HX : Hid (sk ++ ⟨#[108, 101, 116, 32, 121, 32, 61, 32]⟩ = bstr (preN (k + 1))) := Lib.hid (by rw [← HS.out, preN_succ, ← bstr_app]; rfl)
      have HX2 : Hid (sw ++ ⟨#[46, 79, 46, 46]⟩ = bstr (wantA (k + 1))) := Lib.hid (by rw [← HSW.out, wantA_succ, ← bstr_app]; rfl)
      go_wp2
      go_round
      case rel => exact ⟨k + 1, by omega, by go_num, by rw [← HX.out], by rw [← HX2.out]⟩
      case measure => simp [intOf]; omega
    · have hkb : b % 20 = k := by omega
      have HX : Hid (sk ++ ⟨#[122]⟩ = bstr (closeT k 0)) := Lib.hid (by rw [← HS.out, show closeT k 0 = preN k ++ [122] by simp [closeT, nestT], ← bstr_app]; rfl)
      have HX2 : Hid (sw ++ ⟨#[46]⟩ = bstr (wantB k 0)) := Lib.hid (by rw [← HSW.out, show wantB k 0 = wantA k ++ [46] by simp [wantB], ← bstr_app]; rfl)
      go_wp2_with fail
      rw [HX.out, HX2.out]
      go_loop [6, 7, 9] (fun vs vw vk => ∃ j : Nat, j ≤ k ∧ vk = .int .i64 j ∧ vs = .string (bstr (closeT k j)) ∧ vw = .string (bstr (wantB k j))) (fun _ _ vk => k - (intOf vk).toNat)
      case atStart => exact ⟨0, Nat.zero_le _, rfl, rfl, rfl⟩
      case round =>
        obtain ⟨j, hj, rfl, rfl, rfl⟩ := hrel
        clear HX HX2 HS HSW HZ HZ2 hz hz2
        have HZ : Hid ((bstr (closeT k j)).size ≤ 1000) := Lib.hid (by rw [bstr_size, closeT_len]; omega)
        have HZ2 : Hid ((bstr (wantB k j)).size ≤ 1000) := Lib.hid (by rw [bstr_size, wantB_len]; omega)
        obtain ⟨tk, htk⟩ : ∃ x, bstr (closeT k j) = x := ⟨_, rfl⟩
        obtain ⟨tw, htw⟩ : ∃ x, bstr (wantB k j) = x := ⟨_, rfl⟩
        have HS := Lib.hid htk
        have HSW := Lib.hid htw
        have hz := HZ.out
        have hz2 := HZ2.out
        rw [htk] at hz
        rw [htw] at hz2
        rw [htk, htw]
        clear htk htw
        by_cases hlt2 : j < k
        · have HX : Hid (tk ++ ⟨#[32, 119, 105, 116, 104, 105, 110, 32, 121]⟩ = bstr (closeT k (j + 1))) := Lib.hid (by rw [← HS.out, closeT_succ, ← bstr_app]; rfl)
          have HX2 : Hid (tw ++ ⟨#[67, 46, 46]⟩ = bstr (wantB k (j + 1))) := Lib.hid (by rw [← HSW.out, wantB_succ, ← bstr_app]; rfl)
          go_wp2
          go_round
          case rel => exact ⟨j + 1, by omega, by go_num, by rw [← HX.out], by rw [← HX2.out]⟩
          case measure => simp [intOf]; omega
        · obtain rfl : j = k := by omega
          cases B with
          | false =>
            have HX : Hid (tk = bstr (closeT j j ++ lineN false)) := Lib.hid (by rw [← HS.out]; simp [lineN])
            have HX2 : Hid (tw ++ ⟨#[67]⟩ = bstr (wantC j false)) := Lib.hid (by rw [← HSW.out, wantC_eq]; simp only [Bool.false_eq_true, if_false, List.append_nil]; rw [← bstr_app]; rfl)
            go_wp2_with fail
            rw [HX.out]
            refine (lines_any _ _ _ HG.out (by rw [bstr_size]; simp [closeT_len, lineN]; omega)).mono ?_; rw [bstr_list]; obtain ⟨ol, op, hol, hw⟩ := close_lines j (by omega) false; rw [hol]; rintro e w1 ⟨⟨A1, n1, rfl, hR1⟩, hb1⟩; have HR1 := Lib.hid hR1; have hlen1 : n1 ≤ 1000 := (by have h1 := hR1.len Tok.cells_len (by decide); have h2 := congrArg List.length hw; rw [wantC_eq] at h2; simp [wantB_len] at h2; dsimp only at h1; have h3 : (if false = true then [83, 46] else ([] : List UInt8)).length ≤ 2 := (by cases false <;> simp); omega); have HB1 := Lib.hid hb1; have HG1 := Lib.hid (HG.out.below (hb1.mono HG.out.size)); have HW := Lib.hid hw; clear hR1 hb1 hol hw; dsimp only [Pos.v]; go_wp2_with fail; have HBa := Lib.hid (HB1.out.alloc HB1.out.size (Obj.cells #[.int .i64 op.line, .int .i64 op.col] 29)); refine (awake_any w.heap.size _ (HG1.out.alloc _)).mono ?_; rintro e w2 ⟨rfl, hb2⟩; have HB2 := Lib.hid (HBa.out.trans (hb2.mono HBa.out.size)); have HR2 := Lib.hid ((HR1.out.alloc (Nat.le_refl _) (Obj.cells #[.int .i64 op.line, .int .i64 op.col] 29)).below (hb2.mono (by simp))); clear hb2; go_wp2_with fail; refine (kinds_any A1 _ _ _ ol _ HR2.out (by omega)).mono ?_; rw [HW.out]
            obtain ⟨ww, hww⟩ : ∃ x, bstr (wantC j false) = x := ⟨_, rfl⟩
            rw [hww]
            have HWW := Lib.hid hww
            clear hww
            rintro e w3 ⟨rfl, rfl⟩
            have hz3 : (tw ++ ⟨#[67]⟩ : ByteArray) = ww := by rw [HX2.out, HWW.out]
            have HZ3 := Lib.hid hz3
            clear hz3
            go_wp2_with fail
            rw [HZ3.out]
            go_ret
            exact ⟨ret_bool (by simp), HB2.out⟩
          | true =>
            have HX0 : Hid (tk ++ ⟨#[10, 119]⟩ = bstr (closeT j j ++ lineN true)) := Lib.hid (by rw [← HS.out, ← bstr_app]; rfl)
            have HX1 : Hid ((tw ++ ⟨#[83, 46]⟩) ++ ⟨#[67]⟩ = bstr (wantC j true)) := Lib.hid (by rw [← HSW.out, wantC_eq]; simp only [if_true]; rw [← bstr_app, ← bstr_app]; rfl)
            go_wp2_with fail
            rw [HX0.out]
            refine (lines_any _ _ _ HG.out (by rw [bstr_size]; simp [closeT_len, lineN]; omega)).mono ?_; rw [bstr_list]; obtain ⟨ol, op, hol, hw⟩ := close_lines j (by omega) true; rw [hol]; rintro e w1 ⟨⟨A1, n1, rfl, hR1⟩, hb1⟩; have HR1 := Lib.hid hR1; have hlen1 : n1 ≤ 1000 := (by have h1 := hR1.len Tok.cells_len (by decide); have h2 := congrArg List.length hw; rw [wantC_eq] at h2; simp [wantB_len] at h2; dsimp only at h1; have h3 : (if true = true then [83, 46] else ([] : List UInt8)).length ≤ 2 := (by cases true <;> simp); omega); have HB1 := Lib.hid hb1; have HG1 := Lib.hid (HG.out.below (hb1.mono HG.out.size)); have HW := Lib.hid hw; clear hR1 hb1 hol hw; dsimp only [Pos.v]; go_wp2_with fail; have HBa := Lib.hid (HB1.out.alloc HB1.out.size (Obj.cells #[.int .i64 op.line, .int .i64 op.col] 29)); refine (awake_any w.heap.size _ (HG1.out.alloc _)).mono ?_; rintro e w2 ⟨rfl, hb2⟩; have HB2 := Lib.hid (HBa.out.trans (hb2.mono HBa.out.size)); have HR2 := Lib.hid ((HR1.out.alloc (Nat.le_refl _) (Obj.cells #[.int .i64 op.line, .int .i64 op.col] 29)).below (hb2.mono (by simp))); clear hb2; go_wp2_with fail; refine (kinds_any A1 _ _ _ ol _ HR2.out (by omega)).mono ?_; rw [HW.out]
            obtain ⟨ww, hww⟩ : ∃ x, bstr (wantC j true) = x := ⟨_, rfl⟩
            rw [hww]
            have HWW := Lib.hid hww
            clear hww
            rintro e w3 ⟨rfl, rfl⟩
            have hz3 : ((tw ++ ⟨#[83, 46]⟩) ++ ⟨#[67]⟩ : ByteArray) = ww := by rw [HX1.out, HWW.out]
            have HZ3 := Lib.hid hz3
            have hz4 : (tw ++ ⟨#[83, 46]⟩ : ByteArray).size ≤ 2000 := by rw [ByteArray.size_append]; show _ + 2 ≤ _; omega
            clear hz3
            go_wp2_with fail
            rw [HZ3.out]
            go_ret
            exact ⟨ret_bool (by simp), HB2.out⟩

end Go.Proofs.YtgfhkaamkodpjaaDoor
