/- LayoutNests: the law's walk -/
import Derived.Test.YtgfhkaamkodpjaaDoorLw3
import Derived.Test.YtgfhkaamkodpjaaDoorTxt2
import Derived.Test.YtgfhkaamkodpjaaDoorCardK
namespace Go.Proofs.YtgfhkaamkodpjaaDoor
open Go Go.RowKit
set_option maxHeartbeats 8000000
attribute [local irreducible] kwB syB clB

theorem bstr_app (l m : List UInt8) : (bstr l ++ bstr m : ByteArray) = bstr (l ++ m) := by
  apply ByteArray.ext
  simp [bstr]
theorem bstr_list (l : List UInt8) : (bstr l).data.toList = l := by simp [bstr]
theorem bstr_size (l : List UInt8) : (bstr l).size = l.length := rfl
theorem nest_lines (k : Nat) (h : k < 70) : ∃ ol op oe, linesS (nestT k) = (ol, op, oe) ∧ (k < 64 → oe = 0 ∧ balF ol 0 = true ∧ ol.length = 5 + 5 * k) ∧ (¬ k < 64 → oe = 10 ∧ op = ⟨1, 513⟩) := by
  have h1 := scan_close k 0 (by omega) (by omega) false
  have h2 : closeT k 0 ++ lineN false = nestT k := by simp [closeT, lineN]
  have h3 : nestToks k 0 ++ lineT false = nestToks k 0 := by simp [lineT]
  rw [h2, h3] at h1
  have h4 := nest_all k h
  unfold nestOk at h4
  unfold linesS
  rw [h1]
  generalize insS (nestToks k 0) = X at h4 ⊢
  obtain ⟨ol, op, oe⟩ := X
  dsimp only at h4
  refine ⟨ol, op, oe, rfl, fun h5 => ?_, fun h5 => ?_⟩
  · rw [if_pos h5] at h4
    simpa [and_assoc] using h4
  · rw [if_neg h5] at h4
    simpa using h4

set_option maxRecDepth 100000 in
theorem layoutNests_law (w : World) (hG : Glob w.heap.size w) (b : Nat) (hb : b < 256) :
    Calls Tryd.prog 8 #[.int .u8 b] w fun e w' => e = .returned (.bool true) ∧ Below w.heap.size w w' := by
  have HG := Lib.hid hG
  clear hG
  go_enter Tryd.func8, Tryd.ntmps8
  go_wp2
  go_loop [4, 5] (fun vs vk => ∃ k : Nat, k ≤ b % 70 ∧ vk = .int .i64 k ∧ vs = .string (bstr (preN k))) (fun _ vk => b % 70 - (intOf vk).toNat)
  case atStart => exact ⟨0, Nat.zero_le _, rfl, rfl⟩
  case round =>
    obtain ⟨k, hk, rfl, rfl⟩ := hrel
    have hk70 : k < 70 := by omega
    have HZ : Hid ((bstr (preN k)).size ≤ 1000) := Lib.hid (by rw [bstr_size, preN_len]; omega)
    obtain ⟨sk, hsk⟩ : ∃ x, bstr (preN k) = x := ⟨_, rfl⟩
    have HS := Lib.hid hsk
    have hz := HZ.out
    rw [hsk] at hz ⊢
    clear hsk
    by_cases hlt : k < b % 70
    · have HX : Hid (sk ++ ⟨#[108, 101, 116, 32, 121, 32, 61, 32]⟩ = bstr (preN (k + 1))) := Lib.hid (by rw [← HS.out, preN_succ, ← bstr_app]; rfl)
      go_wp2
      go_round
      case rel => exact ⟨k + 1, by omega, by go_num, by rw [← HX.out]⟩
      case measure => simp [intOf]; omega
    · have hkb : b % 70 = k := by omega
      have HX : Hid (sk ++ ⟨#[122]⟩ = bstr (nestT k)) := Lib.hid (by rw [← HS.out, nestT, ← bstr_app]; rfl)
      go_wp2_with fail
      rw [HX.out]
      refine (lines_any _ _ _ HG.out (by rw [bstr_size, nestT, List.length_append, preN_len]; simp; omega)).mono ?_
      rw [bstr_list]
      obtain ⟨ol, op, oe, hol, hA, hB⟩ := nest_lines k hk70
      rw [hol]
      rintro e w1 ⟨⟨A1, n1, rfl, hR1⟩, hb1⟩
      have HR1 := Lib.hid hR1
      have HL1 := Lib.hid (hR1.len Tok.cells_len (by decide))
      have HB1 := Lib.hid hb1
      have HG1 := Lib.hid (HG.out.below (hb1.mono HG.out.size))
      have HA := Lib.hid hA
      have HBB := Lib.hid hB
      clear hR1 hb1 hA hB hol
      dsimp only [Pos.v]
      by_cases h64 : k < 64
      · obtain ⟨ha, hb2, hc⟩ := HA.out h64
        subst ha
        have HQ := Lib.hid hb2
        have hlen : n1 = 5 + 5 * k := by have := HL1.out; dsimp only at this; omega
        subst hlen
        clear hb2 hc
        go_wp2_with fail
        have HBa := Lib.hid (HB1.out.alloc HB1.out.size (Obj.cells #[.int .i64 op.line, .int .i64 op.col] 29))
        refine (awake_any w.heap.size _ (HG1.out.alloc _)).mono ?_
        rintro e w2 ⟨rfl, hb2⟩
        have HB2 := Lib.hid (HBa.out.trans (hb2.mono HBa.out.size))
        have HR2 := Lib.hid ((HR1.out.alloc (Nat.le_refl _) (Obj.cells #[.int .i64 op.line, .int .i64 op.col] 29)).below (hb2.mono (by simp)))
        have hs2 : w1.heap.size ≤ w2.heap.size := Nat.le_trans (by simp) hb2.size
        clear hb2
        go_wp2_with fail
        refine (balanced_any A1 _ _ _ ol _ HR2.out hs2 (by omega)).mono ?_
        rw [HQ.out]
        rintro e w3 ⟨rfl, hb3⟩
        have HB3 := Lib.hid (HB2.out.trans (hb3.mono HB2.out.size))
        have heq : (((5 + 5 * k : Nat) : Int) == 3 + 3 * ((b : Int) % 70) + 2 + 2 * ((b : Int) % 70)) = true := by
          rw [beq_iff_eq]
          omega
        clear hb3
        go_wp2_with fail
        go_ret
        exact ⟨ret_bool (by first | rfl | (simp; omega)), HB3.out⟩
      · obtain ⟨ha, hb2⟩ := HBB.out h64
        subst ha hb2
        go_wp2_with fail
        have HBa := Lib.hid (HB1.out.alloc HB1.out.size (Obj.cells #[.int .i64 1, .int .i64 513] 29))
        refine (awake_any w.heap.size _ (HG1.out.alloc _)).mono ?_
        rintro e w2 ⟨rfl, hb2⟩
        have HB2 := Lib.hid (HBa.out.trans (hb2.mono HBa.out.size))
        have HN2 := (Blk.new w1 29 #[.int .i64 1, .int .i64 513]).below hb2 (by simp)
        have hc0 : w2.cell? ⟨w1.heap.size, 0, none⟩ = some (.int .i64 1) := HN2.cell 0
        have hc1 : w2.cell? ⟨w1.heap.size, 1, none⟩ = some (.int .i64 513) := HN2.cell 1
        clear hb2 HN2
        go_wp2_with fail
        go_ret
        exact ⟨ret_bool (by first | rfl | simp), HB2.out⟩

end Go.Proofs.YtgfhkaamkodpjaaDoor
