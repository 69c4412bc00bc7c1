/- the program's scanner: comment, symbol -/
import Derived.Test.YtafoahojdiglfaaDoorLs2
namespace Go.Proofs.YtafoahojdiglfaaDoor
open Go Go.RowKit
set_option maxHeartbeats 4000000
attribute [local irreducible] kwB syB clB

theorem ext_list (s : ByteArray) (i : Nat) : (s.extract i s.size).data.toList = s.data.toList.drop i := by
  rw [ByteArray.data_extract]
  have h : s.data.size = s.size := rfl
  simp [Array.toList_extract, List.extract]
  rw [List.take_of_length_le]
  rw [List.length_drop]
  have : s.data.toList.length = s.size := blen s
  omega
/-- the first byte of a comment that is not closed, and its rest -/
theorem cm_two (c e : UInt8) (r : List UInt8) (_d : Int) : startsW [123, 45] (c :: e :: r) = decide (c = 123 ∧ e = 45) ∧ startsW [45, 125] (c :: e :: r) = decide (c = 45 ∧ e = 125) := by
  constructor
  · rw [Bool.eq_iff_iff, starts_two, decide_eq_true_eq]
  · rw [Bool.eq_iff_iff, starts_two, decide_eq_true_eq]

/-- lexer.comment: the text begins with the opening of a comment -/
theorem lcomment_any (s : ByteArray) (w : World) (hs : s.size ≤ 1000000000000) (t : List UInt8) (ht : s.data.toList = 123 :: 45 :: t) :
    Calls Tryd.prog 56 #[.string s] w fun e w' => (cmF t 1 = none ∧ e = .returned (.tuple #[.int .i64 0, .bool false]) ∨ ∃ r, cmF t 1 = some r ∧ e = .returned (.tuple #[.int .i64 ((s.size : Int) - r.length), .bool true])) ∧ w = w' := by
  have HT := Lib.hid ht
  have HLEN : Hid (s.size = t.length + 2) := Lib.hid (by rw [← blen, ht]; rfl)
  clear ht
  go_enter Tryd.func56, Tryd.ntmps56
  go_wp2
  go_loop [4, 5] (fun vd vi => ∃ (i : Nat) (d : Int), i ≤ s.size ∧ vi = .int .i64 i ∧ vd = .int .i64 d ∧ 0 ≤ d ∧ d ≤ i ∧ Hid (i = 0 ∧ d = 0 ∨ 1 ≤ d ∧ cmF (s.data.toList.drop i) d = cmF t 1)) (fun _ vi => s.size - (intOf vi).toNat)
  case atStart => exact ⟨0, 0, Nat.zero_le _, rfl, rfl, by omega, by omega, .inl ⟨rfl, rfl⟩⟩
  case round =>
    obtain ⟨i, d, hi, rfl, rfl, hd0, hd1, HB⟩ := hrel
    by_cases hlt : i < s.size
    · have hx1 : (s.extract i s.size).size ≤ 1000000000000 := by rw [ByteArray.size_extract]; omega
      have HX := Lib.hid (ext_list s i)
      go_wp2_with fail
      refine (lhas_any _ _ _).mono ?_
      rw [HX.out]
      obtain ⟨q1, hq1⟩ : ∃ q, startsW (⟨#[123, 45]⟩ : ByteArray).data.toList (s.data.toList.drop i) = q := ⟨_, rfl⟩
      rw [hq1]
      have HQ1 := Lib.hid hq1
      clear hq1
      rintro e w1 ⟨rfl, rfl⟩
      have hdr : ∃ c r, s.data.toList.drop i = c :: r ∧ r = s.data.toList.drop (i + 1) := ⟨_, _, drop_byte s i hlt, rfl⟩
      obtain ⟨c, r, hcr, hr⟩ := hdr
      have HCR := Lib.hid hcr
      have HRR := Lib.hid hr
      clear hcr hr
      cases q1
      · go_wp2_with fail
        refine (lhas_any _ _ _).mono ?_
        rw [HX.out]
        obtain ⟨q2, hq2⟩ : ∃ q, startsW (⟨#[45, 125]⟩ : ByteArray).data.toList (s.data.toList.drop i) = q := ⟨_, rfl⟩
        rw [hq2]
        have HQ2 := Lib.hid hq2
        clear hq2
        rintro e w1 ⟨rfl, rfl⟩
        have hne : ¬ (i = 0 ∧ d = 0) := fun h => by
          have h1 := HQ1.out
          rw [h.1, List.drop_zero, HT.out] at h1
          cases h1
        have HB2 : Hid (1 ≤ d ∧ cmF (s.data.toList.drop i) d = cmF t 1) := Lib.hid (HB.out.resolve_left hne)
        have hd1' : 1 ≤ d := HB2.out.1
        clear hne
        cases q2
        · have HN : Hid (cmF (s.data.toList.drop (i + 1)) d = cmF t 1) := Lib.hid (by
            rw [← HB2.out.2, HCR.out, ← HRR.out]
            cases r with
            | nil => rfl
            | cons e r =>
              have h1 := HQ1.out
              have h2 := HQ2.out
              rw [HCR.out] at h1 h2
              have h3 : ¬ (c = 123 ∧ e = 45) := by have := (cm_two c e r 0).1; rw [show startsW [123, 45] (c :: e :: r) = false from h1] at this; exact of_decide_eq_false this.symm
              have h4 : ¬ (c = 45 ∧ e = 125) := by have := (cm_two c e r 0).2; rw [show startsW [45, 125] (c :: e :: r) = false from h2] at this; exact of_decide_eq_false this.symm
              rw [cmF.eq_3, if_neg h3, if_neg h4])
          go_wp2_with fail
          go_round
          case rel => exact ⟨i + 1, d, by omega, by go_num, rfl, by omega, by omega, .inr ⟨hd1', HN.out⟩⟩
          case measure => simp [intOf]; omega
        · have h2l : 2 ≤ r.length + 1 := by
            have h2 := HQ2.out
            rw [HCR.out] at h2
            have := starts_len h2
            exact this
          have hi2 : i + 2 ≤ s.size := by
            have h5 := congrArg List.length HRR.out
            rw [List.length_drop, blen] at h5
            omega
          have HN : Hid (cmF (s.data.toList.drop i) d = if d - 1 = 0 then some (s.data.toList.drop (i + 2)) else cmF (s.data.toList.drop (i + 2)) (d - 1)) := Lib.hid (by
            have h6 : s.data.toList.drop (i + 2) = r.drop 1 := by rw [HRR.out, List.drop_drop]
            rw [HCR.out, h6]
            cases r with
            | nil => simp at h2l
            | cons e r =>
              have h1 := HQ1.out
              have h2 := HQ2.out
              rw [HCR.out] at h1 h2
              have h3 : ¬ (c = 123 ∧ e = 45) := by have := (cm_two c e r 0).1; rw [show startsW [123, 45] (c :: e :: r) = false from h1] at this; exact of_decide_eq_false this.symm
              have h4 : (c = 45 ∧ e = 125) := by have := (cm_two c e r 0).2; rw [show startsW [45, 125] (c :: e :: r) = true from h2] at this; exact of_decide_eq_true this.symm
              rw [cmF.eq_3, if_neg h3, if_pos h4]
              rfl)
          by_cases hd : d - 1 = 0
          · have hdb : (d - 1 == 0) = true := by simpa using hd
            have HF : Hid (cmF t 1 = some (s.data.toList.drop (i + 2))) := Lib.hid (by rw [← HB2.out.2, HN.out, if_pos hd])
            clear hd
            go_wp2_with fail
            refine bodyPost_ret (v := .tuple #[.int .i64 ((i : Int) + 2), .bool true]) (by simp [results, Tryd.results56, go_sem]) rfl ⟨.inr ⟨_, HF.out, ?_⟩, rfl⟩
            have e5 : ((s.size : Int) - ((s.data.toList.drop (i + 2)).length : Nat)) = (i : Int) + 2 := by rw [List.length_drop, blen]; omega
            rw [e5]
          · have hdb : (d - 1 == 0) = false := by simpa using hd
            have HF : Hid (cmF (s.data.toList.drop (i + 2)) (d - 1) = cmF t 1) := Lib.hid (by rw [← HB2.out.2, HN.out, if_neg hd])
            have hd2 : 1 ≤ d - 1 := by omega
            clear hd
            go_wp2_with fail
            go_round
            case rel => exact ⟨i + 2, d - 1, by omega, by go_num, rfl, by omega, by omega, .inr ⟨hd2, HF.out⟩⟩
            case measure => simp [intOf]; omega
      · have h2l : 2 ≤ r.length + 1 := by
          have h2 := HQ1.out
          rw [HCR.out] at h2
          have := starts_len h2
          exact this
        have hi2 : i + 2 ≤ s.size := by
          have h5 := congrArg List.length HRR.out
          rw [List.length_drop, blen] at h5
          omega
        have HN : Hid (i = 0 ∧ d = 0 ∧ s.data.toList.drop (i + 2) = t ∨ 1 ≤ d ∧ cmF (s.data.toList.drop (i + 2)) (d + 1) = cmF t 1) := Lib.hid (by
          rcases HB.out with ⟨h1, h2⟩ | ⟨h1, h2⟩
          · left
            subst h1
            exact ⟨rfl, h2, by rw [HT.out]; rfl⟩
          · right
            refine ⟨h1, ?_⟩
            have h6 : s.data.toList.drop (i + 2) = r.drop 1 := by rw [HRR.out, List.drop_drop]
            rw [← h2, HCR.out, h6]
            cases r with
            | nil => simp at h2l
            | cons e r =>
              have h3 := HQ1.out
              rw [HCR.out] at h3
              have h4 : (c = 123 ∧ e = 45) := by have := (cm_two c e r 0).1; rw [show startsW [123, 45] (c :: e :: r) = true from h3] at this; exact of_decide_eq_true this.symm
              rw [cmF.eq_3, if_pos h4]
              rfl)
        go_wp2_with fail
        go_round
        case rel =>
          refine ⟨i + 2, d + 1, by omega, by go_num, by go_num, by omega, by omega, .inr ⟨by omega, ?_⟩⟩
          rcases HN.out with ⟨h1, h2, h3⟩ | ⟨h1, h2⟩
          · rw [h3, h2]; rfl
          · exact h2
        case measure => simp [intOf]; omega
    · have HF : Hid (cmF t 1 = none) := Lib.hid (by
        rcases HB.out with ⟨h1, h2⟩ | ⟨h1, h2⟩
        · have := HLEN.out; omega
        · rw [← h2, List.drop_of_length_le (by rw [blen]; omega)]; rfl)
      go_wp2_with fail
      exact bodyPost_ret (v := .tuple #[.int .i64 0, .bool false]) (by simp [results, Tryd.results56, go_sem]) rfl ⟨.inl ⟨HF.out, rfl⟩, rfl⟩

set_option maxRecDepth 100000 in
theorem lsymbol_any (B : Nat) (s : ByteArray) (w : World) (hG : Glob B w) (hs : s.size ≤ 1000000000000) :
    Calls Tryd.prog 61 #[.string s] w fun e w' => e = .returned (.string (symS s.data.toList)) ∧ w = w' := by
  obtain ⟨hg, A, c, hc0, hR⟩ := hG.sy
  rw [syB_len] at hc0 hR
  have HR := Lib.hid hR
  clear hG hR
  go_enter Tryd.func61, Tryd.ntmps61
  go_wp2
  go_loop [3, 5, 8] (fun vb _ vk => ∃ k : Nat, k ≤ 59 ∧ vk = .int .i64 k ∧ vb = .string (symBest s.data.toList (syB.take k))) (fun _ _ vk => 59 - (intOf vk).toNat)
  case atStart => exact ⟨0, by omega, rfl, rfl⟩
  case round =>
    obtain ⟨k, hk, rfl, rfl⟩ := hrel
    obtain ⟨best, hbest⟩ : ∃ best, symBest s.data.toList (syB.take k) = best := ⟨_, rfl⟩
    have HBE := Lib.hid hbest
    have hb4 : best.size ≤ 4 := by rw [← hbest]; exact symBest_small _ _
    rw [hbest]
    clear hbest
    by_cases hlt : k < 59
    · obtain ⟨b', off, x, rfl, _, hx, hc⟩ := HR.out.str hlt
      have hx4 := syB_small x (List.mem_of_getElem? hx)
      have HX := Lib.hid (symBest_snoc s.data.toList k x hx)
      clear hx
      by_cases hgt : best.size < x.size
      · have hgtb : decide ((best.size : Int) < (x.size : Int)) = true := decide_eq_true (by omega)
        have HG := Lib.hid hgt
        clear hgt
        go_wp2_with fail
        refine (lhas_any _ _ _).mono ?_
        obtain ⟨q1, hq1⟩ : ∃ q, startsW x.data.toList s.data.toList = q := ⟨_, rfl⟩
        rw [hq1]
        have HQ1 := Lib.hid hq1
        clear hq1
        rintro e w1 ⟨rfl, rfl⟩
        cases q1
        · go_wp2_with fail
          go_round
          case rel => exact ⟨k + 1, by omega, by go_num, by rw [HX.out, HBE.out, symStep, HQ1.out]; rfl⟩
          case measure => simp [intOf]; omega
        · go_wp2_with fail
          go_round
          case rel => exact ⟨k + 1, by omega, by go_num, by rw [HX.out, HBE.out, symStep, HQ1.out, if_pos (by simp [HG.out])]⟩
          case measure => simp [intOf]; omega
      · have hgtb : decide ((best.size : Int) < (x.size : Int)) = false := decide_eq_false (by omega)
        have HG := Lib.hid hgt
        clear hgt
        go_wp2_with fail
        go_round
        case rel => exact ⟨k + 1, by omega, by go_num, by rw [HX.out, HBE.out, symStep, if_neg (by have := HG.out; simp; omega)]⟩
        case measure => simp [intOf]; omega
    · have hk59 : k = 59 := by omega
      have HBE2 : Hid (symBest s.data.toList syB = best) := Lib.hid (by rw [← HBE.out, hk59, List.take_of_length_le (by rw [syB_len]; omega)])
      have HV : Hid (symS s.data.toList = if best = bstr [40, 124] ∧ (s.data.toList[2]? = some 126 ∨ s.data.toList[2]? = some 124) then bstr [40] else best) := Lib.hid (by unfold symS; rw [HBE2.out])
      clear hk59
      have strB : ∀ l : List UInt8, (best.toList == l) = decide (best = bstr l) := fun l => by
        rw [ByteArray.toList_eq, Bool.eq_iff_iff]
        simp only [decide_eq_true_eq, beq_iff_eq]
        constructor
        · intro h; subst h; obtain ⟨a⟩ := best; simp [bstr]
        · rintro rfl; simp [bstr]
      have HSB := Lib.hid (strB [40, 124])
      clear strB
      by_cases hbe : best = bstr [40, 124]
      · have hbb : (best.toList == [40, 124]) = true := by rw [HSB.out]; exact decide_eq_true hbe
        have HBB := Lib.hid hbe
        clear hbe
        by_cases hl : 2 < s.size
        · have hlb : decide ((2 : Int) < (s.size : Int)) = true := decide_eq_true (by omega)
          have hg : s.data.toList[2]? = some s[2] := bget s 2 hl
          have HG := Lib.hid hg
          clear hg
          by_cases h1 : s[2] = 126
          · have h1b : (((s[2]).toNat : Int) == 126) = true := by rw [h1]; rfl
            have H1 := Lib.hid h1
            clear h1
            go_wp2_with fail
            go_ret
            exact ⟨ret_str (by rw [HV.out, if_pos ⟨HBB.out, .inl (by rw [HG.out, H1.out])⟩]; rfl), rfl⟩
          · have h1b : (((s[2]).toNat : Int) == 126) = false := by rw [beq_eq_false_iff_ne]; exact fun e => h1 (UInt8.toNat_inj.1 (by show s[2].toNat = 126; omega))
            have H1 := Lib.hid h1
            clear h1
            by_cases h2 : s[2] = 124
            · have h2b : (((s[2]).toNat : Int) == 124) = true := by rw [h2]; rfl
              have H2 := Lib.hid h2
              clear h2
              go_wp2_with fail
              go_ret
              exact ⟨ret_str (by rw [HV.out, if_pos ⟨HBB.out, .inr (by rw [HG.out, H2.out])⟩]; rfl), rfl⟩
            · have h2b : (((s[2]).toNat : Int) == 124) = false := by rw [beq_eq_false_iff_ne]; exact fun e => h2 (UInt8.toNat_inj.1 (by show s[2].toNat = 124; omega))
              have H2 := Lib.hid h2
              clear h2
              go_wp2_with fail
              go_ret
              exact ⟨ret_str (by rw [HV.out, if_neg (by rintro ⟨_, h | h⟩ <;> rw [HG.out] at h <;> injection h with h; exact H1.out h; exact H2.out h)]), rfl⟩
        · have hlb : decide ((2 : Int) < (s.size : Int)) = false := decide_eq_false (by omega)
          have hg : s.data.toList[2]? = none := List.getElem?_eq_none (by rw [blen]; omega)
          have HG := Lib.hid hg
          clear hg
          go_wp2_with fail
          go_ret
          exact ⟨ret_str (by rw [HV.out, if_neg (by rintro ⟨_, h | h⟩ <;> rw [HG.out] at h <;> cases h)]), rfl⟩
      · have hbb : (best.toList == [40, 124]) = false := by rw [HSB.out]; exact decide_eq_false hbe
        have HBB := Lib.hid hbe
        clear hbe
        go_wp2_with fail
        go_ret
        exact ⟨ret_str (by rw [HV.out, if_neg (fun h => HBB.out h.1)]), rfl⟩

end Go.Proofs.YtafoahojdiglfaaDoor
