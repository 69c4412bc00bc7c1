/- the reference's scanner: the value of a word of digits -/
import Derived.Test.YtgfhkaamkodpjaaDoorSc1
import Derived.IntWalk
namespace Go.Proofs.YtgfhkaamkodpjaaDoor
open Go Go.RowKit
set_option maxHeartbeats 8000000
attribute [local irreducible] kwB syB clB

def maxI : Int := 9223372036854775807
def decF : List UInt8 → Int → Int × Int
  | [], n => (n, 0)
  | c :: r, n => if (maxI - ((c.toNat : Int) - 48)) / 10 < n then (0, 9) else decF r (10 * n + ((c.toNat : Int) - 48))
/-- the value of a word of digits, and the error -/
def integerS (l : List UInt8) : Int × Int :=
  if l.all digitB = false then (0, 2) else if 1 < l.length ∧ l[0]? = some 48 then (0, 2) else decF l 0

def IntRel (s : ByteArray) (vn vk : Value) : Prop :=
  ∃ (k : Nat) (n : Int), k ≤ s.size ∧ vk = .int .i64 k ∧ vn = .int .i64 n ∧ 0 ≤ n ∧ n ≤ maxI ∧ decF (s.data.toList.drop k) n = decF s.data.toList 0

theorem step_in {n d : Int} (_h0 : 0 ≤ d) (_h9 : d ≤ 9) (h : ¬ (maxI - d) / 10 < n) : 10 * n + d ≤ maxI := by unfold maxI at *; omega

set_option maxRecDepth 100000 in
theorem integer_any (s : ByteArray) (w : World) (hs : s.size ≤ 1000000000000) :
    Calls Tryd.prog 60 #[.string s] w fun e w' => e = .returned (.tuple #[.int .i64 (integerS s.data.toList).1, .int .i64 (integerS s.data.toList).2]) ∧ w = w' := by
  go_enter Tryd.func60, Tryd.ntmps60
  go_wp2_with fail
  go_loop [4] (fun vk => ∃ k : Nat, k ≤ s.size ∧ vk = .int .i64 k ∧ Hid (∀ j x, j < k → s.data.toList[j]? = some x → digitB x = true)) (fun vk => s.size - (intOf vk).toNat)
  case atStart => exact ⟨0, by omega, rfl, fun j x h => by omega⟩
  case round =>
    obtain ⟨k, hk, rfl, HD⟩ := hrel
    by_cases hlt : k < s.size
    · obtain ⟨q, hq⟩ : ∃ q, isDigit (s[k].toNat : Int) = q := ⟨_, rfl⟩
      have HQ := Lib.hid hq
      clear hq
      go_wp2_with fail
      refine (rdigit_any _ _).mono ?_
      rw [HQ.out]
      rintro e w' ⟨rfl, rfl⟩
      cases q
      · have hv : integerS s.data.toList = (0, 2) := by
          unfold integerS
          rw [if_pos]
          rw [Bool.eq_false_iff]
          intro hh
          have := List.all_eq_true.1 hh s[k] (List.mem_of_getElem? (bget s k hlt))
          rw [show digitB s[k] = false from HQ.out] at this
          cases this
        have HV := Lib.hid hv
        clear hv
        go_wp2_with fail
        go_ret2
        exact ⟨by rw [HV.out]; rfl, rfl⟩
      · go_wp2_with fail
        refine ⟨⟨k + 1, by omega, by go_num, fun j x h1 hx => ?_⟩, by simp [intOf]; omega⟩
        by_cases hj : j = k
        · subst hj
          rw [bget s j hlt] at hx
          cases hx
          exact HQ.out
        · exact HD.out j x (by omega) hx
    · have hall : s.data.toList.all digitB = true := by
        rw [List.all_eq_true]
        intro x hx
        obtain ⟨j, hj, he⟩ := List.getElem_of_mem hx
        exact HD.out j x (by rw [blen] at hj; omega) (by rw [List.getElem?_eq_getElem hj, he])
      have HV : Hid (integerS s.data.toList = if 1 < s.size ∧ s.data.toList[0]? = some 48 then (0, 2) else decF s.data.toList 0) := Lib.hid (by unfold integerS; rw [if_neg (by rw [hall]; simp), blen])
      have HALL := Lib.hid hall
      clear hall
      have tail : ∀ {p : Prop}, p → p := fun h => h
      clear tail
      by_cases h1 : 1 < s.size
      · have h1b : decide ((1 : Int) < (s.size : Int)) = true := decide_eq_true (by omega)
        have hz : 0 < s.size := by omega
        by_cases h48 : s[0] = 48
        · have h48b : (((s[0]).toNat : Int) == 48) = true := by rw [h48]; rfl
          have H48 := Lib.hid h48
          clear h48
          go_wp2_with fail
          go_ret2
          exact ⟨by rw [HV.out, if_pos ⟨h1, by rw [bget s 0 hz, H48.out]⟩]; rfl, rfl⟩
        · have h48b : (((s[0]).toNat : Int) == 48) = false := by rw [beq_eq_false_iff_ne]; exact fun e => h48 (UInt8.toNat_inj.1 (by show s[0].toNat = 48; omega))
          have HV2 : Hid (integerS s.data.toList = decF s.data.toList 0) := Lib.hid (by rw [HV.out, if_neg (by rw [bget s 0 hz]; rintro ⟨_, e⟩; exact h48 (by injection e))])
          clear h48
          go_wp2_with fail
          go_loop [5, 6] (fun vn vk => IntRel s vn vk) (fun _ vk => s.size - (intOf vk).toNat)
          case atStart => exact ⟨0, 0, by omega, rfl, rfl, by omega, by unfold maxI; omega, rfl⟩
          case round =>
            obtain ⟨k2, n, hk2, rfl, rfl, hn0, hnm, hdf⟩ := hrel
            have HDF := Lib.hid hdf
            have HNM := Lib.hid hnm
            clear hdf hnm
            by_cases hlt2 : k2 < s.size
            · have hdig : digitB s[k2] = true := List.all_eq_true.1 HALL.out s[k2] (List.mem_of_getElem? (bget s k2 hlt2))
              have hd0 : 48 ≤ (s[k2].toNat : Int) ∧ (s[k2].toNat : Int) ≤ 57 := by simpa [digitB, isDigit] using hdig
              obtain ⟨hd1, hd2⟩ := hd0
              have HDR := Lib.hid (show s.data.toList.drop k2 = s[k2] :: s.data.toList.drop (k2 + 1) from by rw [List.drop_eq_getElem_cons (by rw [blen]; exact hlt2)]; rfl)
              clear hdig
              go_wp2_with fail
              · have hgt : (maxI - ((s[k2].toNat : Int) - 48)) / 10 < n := by assumption
                have hv : integerS s.data.toList = (0, 9) := by rw [HV2.out, ← HDF.out, HDR.out, decF, if_pos hgt]
                go_ret2
                exact ⟨by rw [hv]; rfl, rfl⟩
              · have hle : ¬ (maxI - ((s[k2].toNat : Int) - 48)) / 10 < n := by
                  have : n ≤ (maxI - ((s[k2].toNat : Int) - 48)) / 10 := by assumption
                  omega
                refine ⟨⟨k2 + 1, _, by omega, by go_num, rfl, by omega, step_in (by omega) (by omega) hle, ?_⟩, by simp [intOf]; omega⟩
                rw [← HDF.out, HDR.out, decF, if_neg hle]
            · go_wp2_with fail
              have hv : integerS s.data.toList = (n, 0) := by rw [HV2.out, ← HDF.out, List.drop_of_length_le (by rw [blen]; omega), decF]
              go_ret2
              exact ⟨by rw [hv]; rfl, rfl⟩
      · have h1b : decide ((1 : Int) < (s.size : Int)) = false := decide_eq_false (by omega)
        have HV2 : Hid (integerS s.data.toList = decF s.data.toList 0) := Lib.hid (by rw [HV.out, if_neg (fun h => h1 h.1)])
        go_wp2_with fail
        go_loop [5, 6] (fun vn vk => IntRel s vn vk) (fun _ vk => s.size - (intOf vk).toNat)
        case atStart => exact ⟨0, 0, by omega, rfl, rfl, by omega, by unfold maxI; omega, rfl⟩
        case round =>
          obtain ⟨k2, n, hk2, rfl, rfl, hn0, hnm, hdf⟩ := hrel
          have HDF := Lib.hid hdf
          have HNM := Lib.hid hnm
          clear hdf hnm
          by_cases hlt2 : k2 < s.size
          · have hdig : digitB s[k2] = true := List.all_eq_true.1 HALL.out s[k2] (List.mem_of_getElem? (bget s k2 hlt2))
            have hd0 : 48 ≤ (s[k2].toNat : Int) ∧ (s[k2].toNat : Int) ≤ 57 := by simpa [digitB, isDigit] using hdig
            obtain ⟨hd1, hd2⟩ := hd0
            have HDR := Lib.hid (show s.data.toList.drop k2 = s[k2] :: s.data.toList.drop (k2 + 1) from by rw [List.drop_eq_getElem_cons (by rw [blen]; exact hlt2)]; rfl)
            clear hdig
            go_wp2_with fail
            · have hgt : (maxI - ((s[k2].toNat : Int) - 48)) / 10 < n := by assumption
              have hv : integerS s.data.toList = (0, 9) := by rw [HV2.out, ← HDF.out, HDR.out, decF, if_pos hgt]
              go_ret2
              exact ⟨by rw [hv]; rfl, rfl⟩
            · have hle : ¬ (maxI - ((s[k2].toNat : Int) - 48)) / 10 < n := by
                have : n ≤ (maxI - ((s[k2].toNat : Int) - 48)) / 10 := by assumption
                omega
              refine ⟨⟨k2 + 1, _, by omega, by go_num, rfl, by omega, step_in (by omega) (by omega) hle, ?_⟩, by simp [intOf]; omega⟩
              rw [← HDF.out, HDR.out, decF, if_neg hle]
          · go_wp2_with fail
            have hv : integerS s.data.toList = (n, 0) := by rw [HV2.out, ← HDF.out, List.drop_of_length_le (by rw [blen]; omega), decF]
            go_ret2
            exact ⟨by rw [hv]; rfl, rfl⟩

end Go.Proofs.YtgfhkaamkodpjaaDoor
