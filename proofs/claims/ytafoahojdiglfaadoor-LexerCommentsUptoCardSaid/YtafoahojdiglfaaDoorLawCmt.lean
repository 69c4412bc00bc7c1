/- LexerComments: the law's walk -/
import Derived.Test.YtafoahojdiglfaaDoorLl1
import Derived.Test.YtafoahojdiglfaaDoorCardL
import Derived.Test.YtafoahojdiglfaaDoorCmt0
namespace Go.Proofs.YtafoahojdiglfaaDoor
open Go Go.RowKit
set_option maxHeartbeats 4000000

attribute [local irreducible] kwB syB clB

set_option maxRecDepth 100000 in
theorem lexerComments_law (w : World) (hG : GlobE w.heap.size w) (b : Nat) (hb : b < 256) (b' : Nat) (hb' : b' < 256) :
    Calls Tryd.prog 8 #[.int .u8 b, .int .u8 b'] w fun e w' => e = .returned (.bool true) ∧ Below w.heap.size w w' := by
  have HG := Lib.hid hG
  clear hG
  obtain ⟨a, ha⟩ : ∃ a : Nat, a = b % 20 + 1 := ⟨_, rfl⟩
  obtain ⟨m, hm⟩ : ∃ m : Nat, m = b' % 20 := ⟨_, rfl⟩
  have hai : (b : Int) % 20 + 1 = (a : Int) := by omega
  have hmi : (b' : Int) % 20 = (m : Int) := by omega
  have ha20 : 1 ≤ a ∧ a ≤ 20 := by omega
  have hm20 : m < 20 := by omega
  have HOK : Hid (cmOk a m = true) := Lib.hid (by
    have := cm_all (a - 1) (by omega) m hm20
    rwa [show a - 1 + 1 = a by omega] at this)
  clear ha hm
  go_enter Tryd.func8, Tryd.ntmps8
  go_wp2
  go_loop [7, 8] (fun vs vk => ∃ k : Nat, k ≤ a ∧ vk = .int .i64 k ∧ vs = .string (bstr (cmA k))) (fun _ vk => a - (intOf vk).toNat)
  case atStart => exact ⟨0, Nat.zero_le _, rfl, rfl⟩
  case round =>
    obtain ⟨k, hk, rfl, rfl⟩ := hrel
    have HZ : Hid ((bstr (cmA k)).size ≤ 1000) := Lib.hid (by rw [bstr_size, cmA_len]; omega)
    obtain ⟨sk, hsk⟩ : ∃ x, bstr (cmA k) = x := ⟨_, rfl⟩
    have HS := Lib.hid hsk
    have hz := HZ.out
    rw [hsk] at hz ⊢
    clear hsk
    by_cases hlt : k < a
    · have HX : Hid (sk ++ ⟨#[123, 45, 32, 97, 32]⟩ = bstr (cmA (k + 1))) := Lib.hid (by rw [← HS.out, cmA_succ, ← bstr_app]; rfl)
      go_wp2
      go_round
      case rel => exact ⟨k + 1, by omega, by go_num, by rw [← HX.out]⟩
      case measure => simp [intOf]; omega
    · obtain rfl : k = a := by omega
      have hx0 : sk = bstr (cmT k 0) := by rw [← HS.out, cmT_zero]
      go_wp2_with fail
      clear hx0
      go_loop [7, 9] (fun vs vk => ∃ j : Nat, j ≤ m ∧ vk = .int .i64 j ∧ vs = .string (bstr (cmT k j))) (fun _ vk => m - (intOf vk).toNat)
      case atStart => exact ⟨0, Nat.zero_le _, rfl, rfl⟩
      case round =>
        obtain ⟨j, hj, rfl, rfl⟩ := hrel
        clear HS HZ hz
        have HZ : Hid ((bstr (cmT k j)).size ≤ 1000) := Lib.hid (by rw [bstr_size, cmT_len]; omega)
        obtain ⟨tk, htk⟩ : ∃ x, bstr (cmT k j) = x := ⟨_, rfl⟩
        have HS := Lib.hid htk
        have hz := HZ.out
        rw [htk] at hz ⊢
        clear htk
        by_cases hlt2 : j < m
        · have HX : Hid (tk ++ ⟨#[45, 125, 32]⟩ = bstr (cmT k (j + 1))) := Lib.hid (by rw [← HS.out, cmT_succ, ← bstr_app]; rfl)
          go_wp2
          go_round
          case rel => exact ⟨j + 1, by omega, by go_num, by rw [← HX.out]⟩
          case measure => simp [intOf]; omega
        · obtain rfl : j = m := by omega
          have HX : Hid (tk ++ ⟨#[98]⟩ = bstr (cmT k j ++ [98])) := Lib.hid (by rw [← HS.out, ← bstr_app]; rfl)
          have HX9 : Hid ((bstr (cmT k j ++ [98])).size ≤ 1000000) := Lib.hid (by rw [bstr_size, List.length_append, cmT_len]; simp; omega)
          go_wp2_with fail
          rw [HX.out]
          refine (lscan_any _ _ _ HG.out (by have := HX9.out; omega)).mono ?_
          unfold ScPost
          rw [bstr_list]
          have hok := HOK.out
          unfold cmOk at hok
          generalize scanS (cmT k j ++ [98]) = X at hok
          obtain ⟨ol, op, oe⟩ := X
          rintro e w1 ⟨⟨A1, n1, c1, rfl, _, _, hR1⟩, hb1⟩
          have HL1 := Lib.hid (hR1.len Tok.cells_len (by decide))
          have HR1 := Lib.hid (hR1.alloc (Nat.le_refl _) (.cells #[.int .i64 op.line, .int .i64 op.col] 32))
          have HB1 := Lib.hid (hb1.alloc hb1.size (.cells #[.int .i64 op.line, .int .i64 op.col] 32))
          have HN1 := Lib.hid (Blk.new w1 32 #[.int .i64 op.line, .int .i64 op.col])
          clear hR1 hb1
          dsimp only [Pos.v]
          dsimp only at hok
          by_cases h1 : j < k
          · rw [if_pos h1] at hok
            simp only [Bool.and_eq_true, decide_eq_true_eq] at hok
            obtain ⟨⟨rfl, rfl⟩, rfl⟩ := hok
            obtain rfl : n1 = 0 := HL1.out.symm
            go_wp2_with fail
            refine (lawake_any _ _ (HG.out.below (HB1.out.mono HG.out.g.size))).mono ?_
            rintro e w2 ⟨rfl, hb2⟩
            have HB2 := Lib.hid (HB1.out.trans (hb2.mono HB1.out.size))
            have HN2 := Lib.hid (HN1.out.below hb2 HN1.out.lt)
            clear hb2
            go_wp2_with fail
            refine (lawake_any _ _ (HG.out.below (HB2.out.mono HG.out.g.size))).mono ?_
            rintro e w3 ⟨rfl, hb3⟩
            have HB3 := Lib.hid (HB2.out.trans (hb3.mono HB2.out.size))
            have hN3 := HN2.out.below hb3 HN2.out.lt
            have hN3c := hN3.cell
            have hN3l := hN3.lt
            clear hb3 hN3
            go_wp2_with fail
            go_ret
            exact ⟨ret_bool (by first | rfl | simp), HB3.out⟩
          · rw [if_neg h1] at hok
            by_cases h2 : k < j
            · clear hok
              go_wp2_with fail
              refine (lawake_any _ _ (HG.out.below (HB1.out.mono HG.out.g.size))).mono ?_
              rintro e w2 ⟨rfl, hb2⟩
              have HB2 := Lib.hid (HB1.out.trans (hb2.mono HB1.out.size))
              clear hb2
              go_wp2_with fail
              rw [HX.out]
              refine (lagrees_any _ _ _ (HG.out.below (HB2.out.mono HG.out.g.size)) (by have := HX9.out; omega)).mono ?_
              rintro e w3 ⟨rfl, hb3⟩
              have HB3 := Lib.hid (HB2.out.trans (hb3.mono HB2.out.size))
              clear hb3
              go_wp2_with fail
              go_ret
              exact ⟨rfl, HB3.out⟩
            · rw [if_neg h2] at hok
              simp only [Bool.and_eq_true, decide_eq_true_eq] at hok
              obtain ⟨rfl, hs1⟩ := hok
              have hl1 : ol.length = 1 := by have := congrArg List.length hs1; simpa using this
              obtain rfl : n1 = 1 := HL1.out.symm.trans hl1
              have HS1 := Lib.hid hs1
              clear hs1 hl1
              go_wp2_with fail
              refine (lawake_any _ _ (HG.out.below (HB1.out.mono HG.out.g.size))).mono ?_
              rintro e w2 ⟨rfl, hb2⟩
              have HB2 := Lib.hid (HB1.out.trans (hb2.mono HB1.out.size))
              obtain ⟨b1, o1, t, rfl, hb1', ht, _, _, c2', _, _⟩ := (HR1.out.below (hb2.mono (by simp))).tok (i := 0) (by decide)
              have htS : t.str = ⟨#[98]⟩ := by
                have h3 := HS1.out
                cases ol with
                | nil => cases ht
                | cons x r =>
                  simp only [List.getElem?_cons_zero, Option.some.injEq] at ht
                  subst ht
                  simp only [List.map_cons, List.cons.injEq] at h3
                  exact h3.1
              rw [htS] at c2'
              simp only [Nat.zero_mul, Nat.add_zero] at c2'
              clear hb2 ht htS
              go_wp2_with fail
              go_ret
              exact ⟨ret_bool (by first | rfl | simp | decide), HB2.out⟩

end Go.Proofs.YtafoahojdiglfaaDoor
