/- a byte that is changed is seen in the checksum: plain law -/
import Derived.Test.YtonpdclccgpceaaRwH4
namespace Go.Proofs.Ytonpdclccgpceaa
open Go Go.RowKit
set_option maxHeartbeats 4000000

theorem xor_nat {a b : Nat} (ha : a < 4294967296) (hb : b < 4294967296) : bits .xor .u32 (a : Nat) (b : Nat) = ((a ^^^ b : Nat) : Int) := by
  have h3 : (2 : Nat) ^ IntKind.u32.bits = 4294967296 := by decide
  have h4 : a ^^^ b < 4294967296 := Nat.xor_lt_two_pow (n := 32) ha hb
  unfold bits
  simp
  rw [h3, Nat.mod_eq_of_lt ha, Nat.mod_eq_of_lt hb]
  show ((a ^^^ b : Nat) : Int) % 4294967296 = _
  omega
theorem xor_undo {a b c : Nat} (h : a ^^^ c = b ^^^ c) : a = b := by
  have h1 := congrArg (· ^^^ c) h
  simpa [Nat.xor_assoc, Nat.xor_self] using h1
theorem bit31 {a : Nat} (h : a < 2147483648) : a.testBit 31 = false := Nat.testBit_lt_two_pow (i := 31) h
theorem crcK_inj {a b : Nat} (ha : a < 4294967296) (hb : b < 4294967296) (h : crcK a = crcK b) : a = b := by
  have hp : ∀ x : Nat, x < 4294967296 → crcK x = (((if x % 2 = 1 then (x / 2) ^^^ 3988292384 else x / 2) : Nat) : Int) := fun x hx => by
    unfold crcK
    by_cases h1 : x % 2 = 1
    · have h2 : (x : Int) % 2 = 1 := by omega
      rw [if_pos h1, if_pos h2]
      exact xor_nat (a := x / 2) (b := 3988292384) (by omega) (by decide)
    · have h2 : ¬ (x : Int) % 2 = 1 := by omega
      rw [if_neg h1, if_neg h2]
      rfl
  rw [hp a ha, hp b hb] at h
  have h0 := Int.ofNat.inj h
  have hc : (3988292384 : Nat).testBit 31 = true := by decide
  have ha2 := bit31 (show a / 2 < 2147483648 by omega)
  have hb2 := bit31 (show b / 2 < 2147483648 by omega)
  by_cases h1 : a % 2 = 1
  · by_cases h2 : b % 2 = 1
    · rw [if_pos h1, if_pos h2] at h0
      have := xor_undo h0
      omega
    · rw [if_pos h1, if_neg h2] at h0
      have h3 := congrArg (Nat.testBit · 31) h0
      simp only [Nat.testBit_xor, ha2, hb2, hc] at h3
      exact absurd h3 (by decide)
  · by_cases h2 : b % 2 = 1
    · rw [if_neg h1, if_pos h2] at h0
      have h3 := congrArg (Nat.testBit · 31) h0
      simp only [Nat.testBit_xor, ha2, hb2, hc] at h3
      exact absurd h3 (by decide)
    · rw [if_neg h1, if_neg h2] at h0
      omega
theorem inU_nat {x : Int} (h : inU x) : ∃ a : Nat, a < 4294967296 ∧ x = a := ⟨x.toNat, by unfold inU at h; omega, by unfold inU at h; omega⟩
theorem crcK_inj' {x y : Int} (hx : inU x) (hy : inU y) (h : crcK x = crcK y) : x = y := by
  obtain ⟨a, ha, rfl⟩ := inU_nat hx
  obtain ⟨b, hb, rfl⟩ := inU_nat hy
  rw [crcK_inj ha hb h]
theorem crc8_inj {x y : Int} (hx : inU x) (hy : inU y) : ∀ k, crc8 k x = crc8 k y → x = y
  | 0, h => h
  | k + 1, h => crc8_inj hx hy k (crcK_inj' (crc8_in hx k) (crc8_in hy k) h)
theorem xorU_inj {x y : Int} {c d : Nat} (hx : inU x) (hy : inU y) (hc : c < 256) (hd : d < 256) (h : crcB x c = crcB y d) : (x = y → c = d) ∧ (c = d → x = y) := by
  obtain ⟨a, ha, rfl⟩ := inU_nat hx
  obtain ⟨b, hb, rfl⟩ := inU_nat hy
  have h1 := crc8_inj (xorU _ _) (xorU _ _) 8 h
  rw [xor_nat ha (by omega), xor_nat hb (by omega)] at h1
  have h2 : a ^^^ c = b ^^^ d := Int.ofNat.inj h1
  refine ⟨fun e => ?_, fun e => ?_⟩
  · have e' : a = b := Int.ofNat.inj e
    subst e'
    rw [Nat.xor_comm a c, Nat.xor_comm a d] at h2
    exact xor_undo h2
  · subst e
    rw [xor_undo h2]
theorem crcB_in {x : Int} (c : Nat) : inU (crcB x c) := crc8_in (xorU _ _) 8
theorem fold_inj : ∀ (l : List Nat) (x y : Int), (∀ b ∈ l, b < 256) → inU x → inU y → l.foldl crcB x = l.foldl crcB y → x = y
  | [], _, _, _, _, _, h => h
  | b :: l, x, y, hl, hx, hy, h => by
    have hb := hl b (List.mem_cons_self ..)
    exact (xorU_inj hx hy hb hb (fold_inj l _ _ (fun c hc => hl c (List.mem_cons_of_mem _ hc)) (crcB_in b) (crcB_in b) h)).2 rfl
theorem crcF_inj {l1 l2 : List Nat} {b c : Nat} (hl : ∀ x ∈ l2, x < 256) (hb : b < 256) (hc : c < 256) (h : crcF (l1 ++ b :: l2) = crcF (l1 ++ c :: l2)) : b = c := by
  unfold crcF at h
  have hs : ∀ l, inU (crcS l) := fun l => crcS_in l _ (by unfold inU; decide)
  obtain ⟨s, hs1, hs2⟩ := inU_nat (hs (l1 ++ b :: l2))
  obtain ⟨t, ht1, ht2⟩ := inU_nat (hs (l1 ++ c :: l2))
  rw [hs2, ht2, show IntKind.u32.max = ((4294967295 : Nat) : Int) by decide, xor_nat (by decide) hs1, xor_nat (by decide) ht1] at h
  have h2 := Int.ofNat.inj h
  rw [Nat.xor_comm _ s, Nat.xor_comm _ t] at h2
  have h3 := xor_undo h2
  have h4 : crcS (l1 ++ b :: l2) = crcS (l1 ++ c :: l2) := by rw [hs2, ht2, h3]
  unfold crcS at h4
  rw [List.foldl_append, List.foldl_append, List.foldl_cons, List.foldl_cons] at h4
  have hx : inU (l1.foldl crcB 4294967295) := crcS_in l1 _ (by unfold inU; decide)
  exact (xorU_inj hx hx hb hc (fold_inj l2 _ _ hl (crcB_in b) (crcB_in c) h4)).1 rfl
theorem sum4_inj {x y : Int} (hx : inU x) (hy : inU y) (h : sum4 x = sum4 y) : x = y := by
  unfold inU at hx hy
  unfold sum4 at h
  simp only [List.cons.injEq, and_true] at h
  omega

/-- one byte of a sealed form that is changed breaks it -/
theorem broken_byte {body : List Nat} {i b c : Nat} (hb : ∀ x ∈ body, x < 256) (h : (sealB body)[i]? = some b) (hc : c < 256) (hne : c ≠ b) : sealedB ((sealB body).set i c) = false := by
  have hlen : ((sealB body).set i c).length = body.length + 4 := by rw [List.length_set, sealB, List.length_append, sum4_len]
  have h4 : body.length + 4 - 4 = body.length := by omega
  rw [sealedB, hlen, h4, Bool.and_eq_false_iff]
  refine .inr (decide_eq_false fun e => ?_)
  rcases Nat.lt_or_ge i body.length with hi | hi
  · have hs : (sealB body).set i c = body.set i c ++ sum4 (crcF body) := by rw [sealB, List.set_append_left _ _ hi]
    have hl : (body.set i c).length = body.length := List.length_set
    rw [hs, ← hl, List.drop_left, List.take_left] at e
    have e1 := sum4_inj (crcF_in _) (crcF_in _) e
    have hbi : body[i]? = some b := by rw [sealB, List.getElem?_append_left hi] at h; exact h
    obtain ⟨_, hbg⟩ := List.getElem?_eq_some_iff.1 hbi
    have e2 : body = body.take i ++ b :: body.drop (i + 1) := by
      rw [← hbg, List.getElem_cons_drop, List.take_append_drop]
    rw [List.set_eq_take_append_cons_drop, if_pos hi] at e1
    conv at e1 => lhs; rw [e2]
    exact hne (crcF_inj (fun x hx => hb x (List.mem_of_mem_drop hx)) (hb b (List.mem_of_getElem? hbi)) hc e1).symm
  · have hs : (sealB body).set i c = body ++ (sum4 (crcF body)).set (i - body.length) c := by rw [sealB, List.set_append_right _ _ hi]
    rw [hs, List.drop_left, List.take_left] at e
    rw [sealB, List.getElem?_append_right hi] at h
    obtain ⟨hk, _⟩ := List.getElem?_eq_some_iff.1 h
    rw [← e, List.getElem?_set_self hk] at h
    exact hne (Option.some.inj h)
theorem UnpRel.damaged {ls ls' : List (List Arc)} {i b c err : Nat} (hp : (packB ls).length ≤ 1048576) (h : (packB ls)[i]? = some b) (hc : c < 256) (hne : c ≠ b) (hU : UnpRel ((packB ls).set i c) ls' err) : err = 24 ∧ ls' = [] := by
  have hs := broken_byte (body_byte ls) h hc hne
  have hm := packB_min ls
  by_cases e : err = 0
  · have h1 := sealed_pack (bodyB ls')
    rw [show sealB (bodyB ls') = _ from (hU.zero e).2.1] at h1
    rw [show sealedB ((packB ls).set i c) = false from hs] at h1
    cases h1
  · obtain ⟨h1, h2⟩ := hU.bad e
    refine ⟨?_, h1⟩
    rw [h2, errB, List.length_set, if_neg (by omega), if_neg (by omega), if_pos (show sealedB ((packB ls).set i c) = false from hs)]

end Go.Proofs.Ytonpdclccgpceaa
