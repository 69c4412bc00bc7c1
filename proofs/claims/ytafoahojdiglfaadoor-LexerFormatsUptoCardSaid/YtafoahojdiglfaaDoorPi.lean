/- strconv.ParseInt at a word of digits -/
import Derived.Test.YtafoahojdiglfaaDoorPi0
import Derived.Test.YtafoahojdiglfaaDoorSc5
import Derived.Lib.SmallJoins
namespace Go.Proofs.YtafoahojdiglfaaDoor
open Go Go.RowKit
set_option maxHeartbeats 4000000

/-- digits: the library's reading and ours -/
theorem um_mono (M : Nat) : ∀ (l : List UInt8) (acc : Nat), l.all digitB = true → Lib.parseUintM M acc l = .range ∨ ∃ u, Lib.parseUintM M acc l = .ok u ∧ acc ≤ u
  | [], acc, _ => .inr ⟨acc, rfl, Nat.le_refl _⟩
  | c :: r, acc, h => by
    rw [List.all_cons, Bool.and_eq_true] at h
    have hc : 48 ≤ c.toNat ∧ c.toNat ≤ 57 := by
      have := h.1
      simp only [digitB, isDigit, decide_eq_true_eq] at this
      omega
    rw [Lib.parseUintM, if_pos hc]
    split
    · exact .inl rfl
    · split
      · exact .inl rfl
      · rcases um_mono M r (acc * 10 + (c.toNat - 48)) h.2 with h1 | ⟨u, h1, h2⟩
        · exact .inl h1
        · exact .inr ⟨u, h1, by omega⟩
theorem um_dec : ∀ (l : List UInt8) (acc : Nat), l.all digitB = true → (acc : Int) ≤ maxI →
    (∃ v : Nat, decF l acc = ((v : Int), 0) ∧ (v : Int) ≤ maxI ∧ Lib.parseUintM (2 ^ 64 - 1) acc l = .ok v) ∨
    (decF l acc = (0, 9) ∧ (Lib.parseUintM (2 ^ 64 - 1) acc l = .range ∨ ∃ u, Lib.parseUintM (2 ^ 64 - 1) acc l = .ok u ∧ 2 ^ 63 ≤ u))
  | [], acc, _, ha => .inl ⟨acc, rfl, ha, rfl⟩
  | c :: r, acc, h, ha => by
    rw [List.all_cons, Bool.and_eq_true] at h
    have hc : 48 ≤ c.toNat ∧ c.toNat ≤ 57 := by
      have := h.1
      simp only [digitB, isDigit, decide_eq_true_eq] at this
      omega
    rw [Lib.parseUintM, if_pos hc, decF]
    unfold maxI at *
    by_cases h1 : (9223372036854775807 - ((c.toNat : Int) - 48)) / 10 < (acc : Int)
    · rw [if_pos h1]
      right
      refine ⟨rfl, ?_⟩
      split
      · exact .inl rfl
      · split
        · exact .inl rfl
        · rcases um_mono (2 ^ 64 - 1) r (acc * 10 + (c.toNat - 48)) h.2 with h2 | ⟨u, h2, h3⟩
          · exact .inl h2
          · exact .inr ⟨u, h2, by omega⟩
    · rw [if_neg h1, if_neg (by omega), if_neg (by omega)]
      have e : 10 * (acc : Int) + ((c.toNat : Int) - 48) = ((acc * 10 + (c.toNat - 48) : Nat) : Int) := by omega
      rw [e]
      exact um_dec r (acc * 10 + (c.toNat - 48)) h.2 (by unfold maxI; omega)

theorem parse_any (s : ByteArray) (w : World) (hl : s.data.toList.all digitB = true) (h0 : 0 < s.size) (hs : s.size ≤ 1000000000000) (ev : Value) (hv : w.cell? ⟨7, 0, none⟩ = some ev) (hev : ∃ te pe, ev = .iface te pe) :
    Calls Tryd.prog 89 #[.string s, .int .i64 10, .int .i64 64] w fun e w' =>
      ((∃ v : Nat, decF s.data.toList 0 = ((v : Int), 0) ∧ e = .returned (.tuple #[.int .i64 v, .nilIface])) ∨ (decF s.data.toList 0 = (0, 9) ∧ ∃ n t q, e = .returned (.tuple #[.int .i64 n, .iface t q]))) ∧ Below w.heap.size w w' := by
  have hne : ∃ c r, s.data.toList = c :: r := by
    cases h : s.data.toList with
    | nil => have := blen s; rw [h] at this; simp at this; omega
    | cons c r => exact ⟨c, r, rfl⟩
  obtain ⟨c, r, hcr⟩ := hne
  have hcd : digitB c = true := by rw [hcr, List.all_cons, Bool.and_eq_true] at hl; exact hl.1
  have hc : 48 ≤ c.toNat ∧ c.toNat ≤ 57 := by
    simp only [digitB, isDigit, decide_eq_true_eq] at hcd
    omega
  have hu := um_dec s.data.toList 0 hl (by unfold maxI; omega)
  have hstep : Lib.parseUintB 64 s.data.toList = Lib.parseUintM (2 ^ 64 - 1) 0 s.data.toList := by
    rw [hcr]
    unfold Lib.parseUintB
    rw [if_neg (by simp)]
  have h45 : ¬ c.toNat = 45 := by omega
  have hpm : ¬ (c.toNat = 43 ∨ c.toNat = 45) := by omega
  have hi1 : Lib.parseUintM (2 ^ 64 - 1) 0 s.data.toList = .range → Lib.parseIntB 64 s.data.toList = .range := by
    intro hX
    rw [← hstep] at hX
    rw [hcr] at hX ⊢
    unfold Lib.parseIntB
    dsimp only
    rw [if_neg hpm, hX]
  have hi2 : ∀ u, Lib.parseUintM (2 ^ 64 - 1) 0 s.data.toList = .ok u → Lib.parseIntB 64 s.data.toList = if 2 ^ 63 ≤ u then .range else .ok (u : Int) := by
    intro u hX
    rw [← hstep] at hX
    rw [hcr] at hX ⊢
    unfold Lib.parseIntB
    dsimp only
    rw [if_neg hpm, hX]
    simp [h45]
  rcases hu with ⟨v, h1, h2, h3⟩ | ⟨h1, h2⟩
  · have h4 := hi2 _ h3
    have h2' : (v : Int) ≤ 9223372036854775807 := h2
    rw [if_neg (show ¬ 2 ^ 63 ≤ v by omega)] at h4
    have := Any.strconv_ParseInt_10_at64_ok laysParseInt s (by omega) (v : Int) h4 w
    refine this.mono ?_
    rintro e w' ⟨rfl, hw⟩
    refine ⟨.inl ⟨v, h1, rfl⟩, ?_⟩
    rcases hw with rfl | ⟨t, rfl⟩
    · exact Below.refl _ _
    · first | exact Lib.bytesWorld_below _ _ _ | exact bytesWorld_below _ _ _ | exact Joins.below_bytesWorld _ _ _ _ (Nat.le_refl _)
  · have h4 : Lib.parseIntB 64 s.data.toList = .range := by
      rcases h2 with h2 | ⟨u, h2, h3⟩
      · exact hi1 h2
      · have := hi2 _ h2
        rw [if_pos h3] at this
        exact this
    have := Any.strconv_ParseInt_10_at64_range laysParseInt s (by omega) h4 ev w hv (.inr hev)
    refine this.mono ?_
    rintro e w' ⟨N, rfl, _, _, hb⟩
    exact ⟨.inr ⟨h1, _, _, _, rfl⟩, hb⟩

end Go.Proofs.YtafoahojdiglfaaDoor
