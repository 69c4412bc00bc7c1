/- plain laws: where the tokens of a text stand -/
import Derived.Test.YtafoahojdiglfaaDoorTi
import Derived.Test.YtafoahojdiglfaaDoorLw1
namespace Go.Proofs.YtafoahojdiglfaaDoor
open Go Go.RowKit
set_option maxHeartbeats 4000000
attribute [local irreducible] kwB syB clB

/-- what is left of a text, and the place there -/
def Led (r : List UInt8) (p : Pos) (r' : List UInt8) (q : Pos) : Prop := ∃ u, r = u ++ r' ∧ q = posAfter u p
theorem Led.refl (r : List UInt8) (p : Pos) : Led r p r p := ⟨[], rfl, rfl⟩
theorem Led.trans {r r' r2 : List UInt8} {p q q2 : Pos} (h : Led r p r' q) (h2 : Led r' q r2 q2) : Led r p r2 q2 := by
  obtain ⟨u, rfl, rfl⟩ := h
  obtain ⟨v, rfl, rfl⟩ := h2
  exact ⟨u ++ v, by simp, by rw [posAfter_append]⟩
theorem Led.one (c : UInt8) (r : List UInt8) (p : Pos) : Led (c :: r) p r (stepP c p) := ⟨[c], rfl, rfl⟩
theorem Led.len {r r' : List UInt8} {p q : Pos} (h : Led r p r' q) : r'.length ≤ r.length := by
  obtain ⟨u, rfl, rfl⟩ := h
  simp
theorem Led.drop (r : List UInt8) (k : Nat) (p : Pos) : Led r p (r.drop k) (posAfter (r.take k) p) := ⟨r.take k, (List.take_append_drop k r).symm, rfl⟩
theorem comment_led : ∀ (l : List UInt8) (p : Pos) (d : Int), Led l p (commentS l p d).2.1 (commentS l p d).2.2
  | [], p, d => Led.refl _ _
  | [c], p, d => Led.one c [] p
  | c :: e :: r, p, d => by
    have h2 : ∀ p, Led (c :: e :: r) p r (stepP e (stepP c p)) := fun p => (Led.one _ _ _).trans (Led.one _ _ _)
    rw [commentS]
    split
    · split
      · exact h2 p
      · exact (h2 p).trans (comment_led r _ _)
    · split
      · split
        · exact h2 p
        · exact (h2 p).trans (comment_led r _ _)
      · split
        · exact Led.one _ _ _
        · exact (Led.one _ _ _).trans (comment_led (e :: r) _ _)
theorem skipF_led : ∀ (n : Nat) (r : List UInt8) (p : Pos), Led r p (skipF n r p).2.1 (skipF n r p).2.2
  | 0, r, p => Led.refl _ _
  | n + 1, [], p => Led.refl _ _
  | n + 1, c :: r, p => by
    rw [skipF]
    split
    · exact (Led.one _ _ _).trans (skipF_led n _ _)
    · split
      · exact Led.trans ⟨(c :: r).takeWhile notNl, List.takeWhile_append_dropWhile.symm, rfl⟩ (skipF_led n _ _)
      · split
        · split
          · exact (comment_led _ _ _).trans (skipF_led n _ _)
          · exact Led.refl _ _
        · exact Led.refl _ _

theorem dB_of {c : UInt8} (h : digitB c = true) : ∃ d : Nat, d < 10 ∧ dB d = c ∧ (c.toNat : Int) - 48 = d := by
  simp only [digitB, isDigit, decide_eq_true_eq] at h
  refine ⟨c.toNat - 48, by omega, ?_, by omega⟩
  unfold dB
  rw [show 48 + (c.toNat - 48) = c.toNat by omega]
  simp
theorem decF_back : ∀ (r : List UInt8) (n : Nat) (m : Int), r.all digitB = true → 1 ≤ n → (n : Int) ≤ maxI → decF r n = (m, 0) → ∃ k : Nat, m = k ∧ m ≤ maxI ∧ decL k = decL n ++ r
  | [], n, m, _, _, hn, h => by
    simp only [decF, Prod.mk.injEq] at h
    exact ⟨n, h.1.symm, by omega, by simp⟩
  | c :: r, n, m, ha, h1, hn, h => by
    rw [List.all_cons, Bool.and_eq_true] at ha
    obtain ⟨d, hd, hc, hv⟩ := dB_of ha.1
    rw [decF, hv] at h
    split at h
    · cases h
    · rename_i hlt
      have hm := step_in (n := (n : Int)) (d := (d : Int)) (by omega) (by omega) hlt
      obtain ⟨k, hk1, hk2, hk3⟩ := decF_back r (10 * n + d) m ha.2 (by omega) (by push_cast; exact hm) (by push_cast; exact h)
      refine ⟨k, hk1, hk2, ?_⟩
      rw [hk3, decL_big (n := 10 * n + d) (by omega), show (10 * n + d) / 10 = n by omega, show (10 * n + d) % 10 = d by omega, hc]
      simp
theorem integerS_back {l : List UInt8} {m : Int} (h0 : l ≠ []) (h : integerS l = (m, 0)) : ∃ k : Nat, m = k ∧ m ≤ maxI ∧ decL k = l := by
  unfold integerS at h
  split at h
  · cases h
  · rename_i hall
    split at h
    · cases h
    · rename_i hz
      have hall' : l.all digitB = true := by
        cases hq : l.all digitB
        · exact absurd hq hall
        · rfl
      cases l with
      | nil => exact absurd rfl h0
      | cons c r =>
        rw [List.all_cons, Bool.and_eq_true] at hall'
        obtain ⟨d, hd, hc, hv⟩ := dB_of hall'.1
        rw [decF, hv] at h
        split at h
        · cases h
        · rename_i hlt
          by_cases h1 : 1 ≤ d
          · obtain ⟨k, hk1, hk2, hk3⟩ := decF_back r d m hall'.2 h1 (by unfold maxI; omega) (by simpa using h)
            exact ⟨k, hk1, hk2, by rw [hk3, decL_small hd, hc]; rfl⟩
          · have hd0 : d = 0 := by omega
            subst hd0
            cases r with
            | nil =>
              simp [decF] at h
              exact ⟨0, by omega, by unfold maxI; omega, by rw [decL_small (by omega), hc]⟩
            | cons e r =>
              exact absurd ⟨by simp, by rw [← hc]; rfl⟩ hz

theorem starts_take {t l : List UInt8} (h : startsW t l = true) : t = l.take t.length := List.prefix_iff_eq_take.1 (List.isPrefixOf_iff_prefix.1 h)
theorem sym_starts (r : List UInt8) : startsW (symS r).data.toList r = true := by
  have h2 : startsW (symBest r syB).data.toList r = true := symBest_pre r syB ByteArray.empty (by simp [startsW])
  unfold symS
  split
  · rename_i h
    rw [h.1, bstr_list] at h2
    rw [bstr_list]
    cases r with
    | nil => cases h2
    | cons c r =>
      simp [startsW] at h2 ⊢
      exact h2.1
  · exact h2
/-- the text of an item stands where it begins -/
theorem item_text {r : List UInt8} {q : Pos} (hr : r ≠ []) (h : (itemS r q).2.2 = 0) : (itemS r q).1.pos = q ∧ ((textS (itemS r q).1).length : Int) = (itemS r q).2.1 ∧ textS (itemS r q).1 = r.take (textS (itemS r q).1).length ∧ ((itemS r q).1.kind = 2 → 0 ≤ (itemS r q).1.int ∧ (itemS r q).1.int ≤ maxI) := by
  cases r with
  | nil => exact absurd rfl hr
  | cons c r =>
    have hw := takeWhile_pre partB (c :: r)
    cases hl : letterB c
    · cases hd : digitB c
      · rw [itemS_sym hl hd] at h ⊢
        split at h
        · cases h
        · rename_i h0
          rw [if_neg h0]
          refine ⟨rfl, ?_, ?_, fun hk => by cases hk⟩
          · show (((symS (c :: r)).data.toList.length : Nat) : Int) = _
            rw [blen]
          · exact starts_take (sym_starts _)
      · rw [itemS_num hd] at h ⊢
        split at h
        · rename_i h0
          rw [if_pos h0]
          have hne : (c :: r).takeWhile partB ≠ [] := by
            have : partB c = true := by
              simp only [partB, digitB, isPart] at hd ⊢
              simp [hd]
            rw [List.takeWhile_cons, if_pos this]
            simp
          obtain ⟨k, hk1, hk2, hk3⟩ := integerS_back (m := (integerS ((c :: r).takeWhile partB)).1) hne (Prod.ext rfl h0)
          have ht : textS ⟨2, (integerS ((c :: r).takeWhile partB)).1, ⟨#[]⟩, q⟩ = (c :: r).takeWhile partB := by
            show decL (integerS ((c :: r).takeWhile partB)).1.toNat = _
            rw [hk1]
            exact hk3
          refine ⟨rfl, ?_, ?_, fun _ => ⟨?_, hk2⟩⟩
          · show ((textS ⟨2, (integerS ((c :: r).takeWhile partB)).1, ⟨#[]⟩, q⟩).length : Int) = _
            rw [ht]
          · show textS ⟨2, (integerS ((c :: r).takeWhile partB)).1, ⟨#[]⟩, q⟩ = List.take (textS ⟨2, (integerS ((c :: r).takeWhile partB)).1, ⟨#[]⟩, q⟩).length _
            rw [ht]
            exact hw
          · show 0 ≤ (integerS ((c :: r).takeWhile partB)).1
            omega
        · rename_i h0
          exact absurd h h0
    · have hd : digitB c = false := by
        cases h : digitB c
        · rfl
        · simp only [letterB, digitB, isLetter, isDigit, Bool.or_eq_true, decide_eq_true_eq] at hl h
          omega
      have key : ∀ k : Int, k ≠ 2 → textS ⟨k, 0, bstr ((c :: r).takeWhile partB), q⟩ = (c :: r).takeWhile partB := fun k hk => by
        unfold textS
        rw [if_neg hk]
        exact bstr_list _
      rw [itemS_word hl hd] at h ⊢
      split at h
      · rename_i h0
        rw [if_pos h0]
        refine ⟨rfl, ?_, ?_, fun hk => by cases hk⟩
        · dsimp only
          rw [key 3 (by decide)]
        · dsimp only
          rw [key 3 (by decide)]
          exact hw
      · rename_i h0
        rw [if_neg h0]
        split at h
        · rename_i h5
          rw [if_pos h5]
          refine ⟨rfl, ?_, ?_, fun hk => by cases hk⟩
          · dsimp only
            rw [key 1 (by decide)]
          · dsimp only
            rw [key 1 (by decide)]
            exact hw
        · cases h

/-- a token stands at byte i of a text -/
def StandsAt (L : List UInt8) (t : Tok) (i : Nat) : Prop :=
  t.pos = posAfter (L.take i) ⟨1, 1⟩ ∧ startsW (textS t) (L.drop i) = true ∧ i + (textS t).length ≤ L.length ∧ (t.kind = 2 → 0 ≤ t.int ∧ t.int ≤ maxI)
/-- tokens stand at ascending bytes from j on -/
def Asc (L : List UInt8) : Nat → List Tok → Prop
  | _, [] => True
  | j, t :: r => ∃ i, j ≤ i ∧ StandsAt L t i ∧ Asc L (i + 1) r
theorem Asc.mono {L : List UInt8} {j k : Nat} {l : List Tok} (h : Asc L k l) (hj : j ≤ k) : Asc L j l := by
  cases l with
  | nil => trivial
  | cons t r =>
    obtain ⟨i, h1, h2, h3⟩ := h
    exact ⟨i, by omega, h2, h3⟩
theorem scanF_asc (L : List UInt8) : ∀ (n : Nat) (r : List UInt8) (p : Pos) (acc : List Tok), (scanF n r p acc).2.2 = 0 → Led L ⟨1, 1⟩ r p → ∃ o, (scanF n r p acc).1 = acc ++ o ∧ Asc L (L.length - r.length) o
  | 0, r, p, acc, _, _ => ⟨[], by simp [scanF], trivial⟩
  | n + 1, r, p, acc, h, hL => by
    have hs := hL.trans (skipF_led (r.length + 1) r p)
    rw [show skipF (r.length + 1) r p = skipS r p from rfl] at hs
    rw [scanF] at h ⊢
    by_cases h1 : (skipS r p).1 = false
    · rw [if_pos h1] at h
      cases h
    · rw [if_neg h1] at h ⊢
      by_cases h2 : (skipS r p).2.1 = []
      · rw [if_pos h2]
        exact ⟨[], by simp, trivial⟩
      · rw [if_neg h2] at h ⊢
        by_cases h3 : (itemS (skipS r p).2.1 (skipS r p).2.2).2.2 ≠ 0
        · rw [if_pos h3] at h
          exact absurd h h3
        · rw [if_neg h3] at h ⊢
          by_cases h4 : acc.length = 16384
          · rw [if_pos h4] at h
            cases h
          · rw [if_neg h4] at h ⊢
            have h3' : (itemS (skipS r p).2.1 (skipS r p).2.2).2.2 = 0 := Decidable.not_not.1 h3
            obtain ⟨ht1, ht2, ht3, ht4⟩ := item_text h2 h3'
            have hlen := itemS_len (skipS r p).2.1 (skipS r p).2.2 h2 h3'
            have hrl : (skipS r p).2.1.length ≤ r.length := skipF_len _ _ _
            obtain ⟨o, ho1, ho2⟩ := scanF_asc L n _ _ _ h (hs.trans (Led.drop _ _ _))
            refine ⟨(itemS (skipS r p).2.1 (skipS r p).2.2).1 :: o, by rw [ho1]; simp, L.length - (skipS r p).2.1.length, by omega, ?_, ho2.mono ?_⟩
            · obtain ⟨u, hu1, hu2⟩ := hs
              have hul : L.length - (skipS r p).2.1.length = u.length := by
                have := congrArg List.length hu1
                rw [List.length_append] at this
                omega
              rw [hul]
              have e1 : L.take u.length = u := by rw [hu1]; simp
              have e2 : L.drop u.length = (skipS r p).2.1 := by
                have : ∀ v : List UInt8, (u ++ v).drop u.length = v := fun v => by simp
                rw [hu1]
                exact this _
              have hll := hlen.2
              refine ⟨?_, ?_, ?_, ht4⟩
              · rw [ht1, e1]
                exact hu2
              · rw [e2]
                exact List.isPrefixOf_iff_prefix.2 (List.prefix_iff_eq_take.2 ht3)
              · have := congrArg List.length hu1
                rw [List.length_append] at this
                omega
            · rw [List.length_drop]
              have := hlen.1
              have := hlen.2
              have := hs.len
              omega
theorem scanS_asc (L : List UInt8) (h : (scanS L).2.2 = 0) : Asc L 0 (scanS L).1 := by
  unfold scanS at h ⊢
  split at h
  · cases h
  · rename_i h0
    rw [if_neg h0]
    obtain ⟨o, h1, h2⟩ := scanF_asc L _ _ _ _ h (Led.refl _ _)
    rw [h1]
    exact h2.mono (Nat.zero_le _)

def PosLt (p q : Pos) : Prop := p.line < q.line ∨ p.line = q.line ∧ p.col < q.col
theorem posAfter_le : ∀ (u : List UInt8) (p q : Pos), PosLt p q → PosLt p (posAfter u q)
  | [], p, q, h => h
  | c :: u, p, q, h => by
    rw [posAfter_cons]
    refine posAfter_le u p _ ?_
    unfold PosLt stepP at *
    split <;> dsimp only <;> omega
theorem posAfter_lt (c : UInt8) (u : List UInt8) (p : Pos) : PosLt p (posAfter (c :: u) p) := by
  rw [posAfter_cons]
  refine posAfter_le u p _ ?_
  unfold PosLt stepP
  split <;> dsimp only <;> omega
theorem posAfter_ne (L : List UInt8) {k i : Nat} (h : k < i) (hi : i ≤ L.length) (p : Pos) : posAfter (L.take k) p ≠ posAfter (L.take i) p := by
  have e : L.take i = L.take k ++ (L[k] :: (L.drop (k + 1)).take (i - k - 1)) := by
    rw [← List.take_append_drop k (L.take i), List.take_take, Nat.min_eq_left (by omega)]
    congr 1
    rw [List.drop_take, List.drop_eq_getElem_cons (by omega), show i - k = (i - k - 1) + 1 by omega, List.take_succ_cons]
    rfl
  rw [e, posAfter_append]
  intro he
  have h1 := posAfter_lt L[k] ((L.drop (k + 1)).take (i - k - 1)) (posAfter (L.take k) p)
  rw [← he] at h1
  unfold PosLt at h1
  omega
theorem posAfter_in (L : List UInt8) : ∀ k, k ≤ L.length → PosIn (posAfter (L.take k) ⟨1, 1⟩) k
  | 0, _ => by
    rw [List.take_zero, posAfter_nil]
    exact ⟨by decide, by decide, by decide, by decide⟩
  | k + 1, h => by
    rw [List.take_succ_eq_append_getElem (by omega), posAfter_append]
    exact (posAfter_in L k (by omega)).step _

end Go.Proofs.YtafoahojdiglfaaDoor
