/- plain laws: a valid token's text, followed by a space, is scanned as that token -/
import Derived.Test.YtafoahojdiglfaaDoorEs
import Derived.Test.YtafoahojdiglfaaDoorTok
namespace Go.Proofs.YtafoahojdiglfaaDoor
open Go Go.RowKit
set_option maxHeartbeats 4000000

theorem bstr_list (l : List UInt8) : (bstr l).data.toList = l := by simp [bstr]
theorem bstr_size (l : List UInt8) : (bstr l).size = l.length := rfl
theorem bstr_of (s : ByteArray) : bstr s.data.toList = s := by
  apply ByteArray.ext
  simp [bstr]
theorem bstr_app (l m : List UInt8) : (bstr l ++ bstr m : ByteArray) = bstr (l ++ m) := by
  apply ByteArray.ext
  simp [bstr]

/-- what may stand behind a token -/
def SepB (c : UInt8) : Prop := c = 32 ∨ c = 10 ∨ c = 9
theorem sy_sep : ∀ k ∈ syB, ∀ c ∈ k.data.toList, c ≠ 32 ∧ c ≠ 10 ∧ c ≠ 9 := by decide
theorem sy_all : ∀ k ∈ syB, k.data.toList ≠ [] ∧ symS k.data.toList = k ∧ letterB (k.data.toList.headD 0) = false ∧ digitB (k.data.toList.headD 0) = false ∧ isSp (k.data.toList.headD 0) = false ∧ startsW [45, 45] k.data.toList = false ∧ startsW [123, 45] k.data.toList = false ∧ k.size ≤ 4 := by decide +kernel
theorem kw_all : ∀ k ∈ kwB, k.data.toList ≠ [] ∧ letterB (k.data.toList.headD 0) = true ∧ k.data.toList.all partB = true ∧ k.size ≤ 64 := by decide +kernel
attribute [local irreducible] kwB syB clB

theorem SepB.part {c : UInt8} (h : SepB c) : partB c = false := by rcases h with rfl | rfl | rfl <;> decide
theorem SepB.sym {c : UInt8} (h : SepB c) : ∀ k ∈ syB, ∀ d ∈ k.data.toList, d ≠ c := fun k hk d hd => by
  have := sy_sep k hk d hd
  rcases h with rfl | rfl | rfl
  · exact this.1
  · exact this.2.1
  · exact this.2.2
theorem starts_sep {c : UInt8} {t u x : List UInt8} (h : ∀ d ∈ t, d ≠ c) : startsW t (u ++ c :: x) = startsW t u := by
  induction t generalizing u with
  | nil => simp [startsW]
  | cons a t ih =>
    cases u with
    | nil =>
      have := h a List.mem_cons_self
      simp [startsW, List.isPrefixOf, this]
    | cons e u =>
      have := ih (u := u) (fun c hc => h c (List.mem_cons_of_mem _ hc))
      simp only [startsW, List.cons_append, List.isPrefixOf] at this ⊢
      rw [this]
theorem symBest_sep {c : UInt8} {u x : List UInt8} : ∀ (l : List ByteArray) (b : ByteArray), (∀ k ∈ l, ∀ d ∈ k.data.toList, d ≠ c) → l.foldl (symStep (u ++ c :: x)) b = l.foldl (symStep u) b
  | [], _, _ => rfl
  | k :: l, b, h => by
    rw [List.foldl_cons, List.foldl_cons, show symStep (u ++ c :: x) b k = symStep u b k from by unfold symStep; rw [starts_sep (h k List.mem_cons_self)]]
    exact symBest_sep l _ (fun k' hk => h k' (List.mem_cons_of_mem _ hk))
theorem symS_sep {c : UInt8} (hc : SepB c) {u x : List UInt8} : symS (u ++ c :: x) = symS u := by
  unfold symS
  have h1 : symBest (u ++ c :: x) syB = symBest u syB := symBest_sep syB _ hc.sym
  rw [h1]
  by_cases h : symBest u syB = bstr [40, 124]
  · have h2 := symBest_two h
    have h3 : ((u ++ c :: x)[2]? = some 126 ∨ (u ++ c :: x)[2]? = some 124) ↔ (u[2]? = some 126 ∨ u[2]? = some 124) := by
      by_cases h4 : 2 < u.length
      · rw [List.getElem?_append_left h4]
      · have h5 : u[2]? = none := List.getElem?_eq_none (by omega)
        rw [List.getElem?_append_right (by omega), show 2 - u.length = 0 by omega, h5]
        rcases hc with rfl | rfl | rfl <;> simp
    simp only [h, true_and, h3]
  · simp only [h, false_and]
theorem word_sep {c : UInt8} (hc : SepB c) {u x : List UInt8} : (u ++ c :: x).takeWhile partB = u.takeWhile partB := by
  induction u with
  | nil => simp [hc.part]
  | cons e u ih => rw [List.cons_append, List.takeWhile_cons, List.takeWhile_cons, ih]
theorem item_sep {c : UInt8} (hc : SepB c) {u : List UInt8} (hu : u ≠ []) (x : List UInt8) (q : Pos) : itemS (u ++ c :: x) q = itemS u q := by
  cases u with
  | nil => exact absurd rfl hu
  | cons e u =>
    rw [List.cons_append]
    cases hl : letterB e
    · cases hd : digitB e
      · rw [itemS_sym hl hd, itemS_sym hl hd, ← List.cons_append, symS_sep hc]
      · rw [itemS_num hd, itemS_num hd, ← List.cons_append, word_sep hc]
    · have hd : digitB e = false := by
        cases h : digitB e
        · rfl
        · simp only [letterB, digitB, isLetter, isDigit, Bool.or_eq_true, decide_eq_true_eq] at hl h
          omega
      rw [itemS_word hl hd, itemS_word hl hd, ← List.cons_append, word_sep hc]

def dB (d : Nat) : UInt8 := UInt8.ofNat (48 + d)
/-- the decimal digits of a number -/
def decL (n : Nat) : List UInt8 := if n < 10 then [dB n] else decL (n / 10) ++ [dB (n % 10)]
theorem dig (d : Nat) (h : d < 10) : digitB (dB d) = true ∧ partB (dB d) = true ∧ ((dB d).toNat : Int) = 48 + d ∧ letterB (dB d) = false ∧ isSp (dB d) = false ∧ dB d ≠ 45 ∧ dB d ≠ 123 ∧ (dB d = 48 → d = 0) := by
  have : ∀ d < 10, digitB (dB d) = true ∧ partB (dB d) = true ∧ ((dB d).toNat : Int) = 48 + d ∧ letterB (dB d) = false ∧ isSp (dB d) = false ∧ dB d ≠ 45 ∧ dB d ≠ 123 ∧ (dB d = 48 → d = 0) := by decide
  exact this d h
theorem decL_small {n : Nat} (h : n < 10) : decL n = [dB n] := by rw [decL, if_pos h]
theorem decL_big {n : Nat} (h : ¬ n < 10) : decL n = decL (n / 10) ++ [dB (n % 10)] := by rw [decL, if_neg h]
theorem decL_all (n : Nat) : (decL n).all digitB = true ∧ (decL n).all partB = true := by
  induction n using Nat.strongRecOn with
  | _ n ih =>
    by_cases h : n < 10
    · rw [decL_small h]
      have := dig n h
      simp [this]
    · rw [decL_big h]
      have h1 := ih (n / 10) (by omega)
      have := dig (n % 10) (by omega)
      rw [List.all_append, List.all_append, h1.1, h1.2]
      simp [this]
theorem decL_head (n : Nat) : ∃ d r, d < 10 ∧ decL n = dB d :: r ∧ (d = 0 → n = 0) := by
  induction n using Nat.strongRecOn with
  | _ n ih =>
    by_cases h : n < 10
    · exact ⟨n, [], h, decL_small h, id⟩
    · obtain ⟨d, r, h1, h2, h3⟩ := ih (n / 10) (by omega)
      exact ⟨d, r ++ [dB (n % 10)], h1, by rw [decL_big h, h2]; rfl, fun hd => by have := h3 hd; omega⟩
theorem decF_decL (n : Nat) (r : List UInt8) (hn : (n : Int) ≤ maxI) : decF (decL n ++ r) 0 = decF r n := by
  induction n using Nat.strongRecOn generalizing r with
  | _ n ih =>
    by_cases h : n < 10
    · have hd := dig n h
      rw [decL_small h, List.cons_append, List.nil_append, decF, hd.2.2.1]
      rw [if_neg (by unfold maxI; omega)]
      congr 1
      omega
    · have hd := dig (n % 10) (by omega)
      rw [decL_big h, List.append_assoc, ih (n / 10) (by omega) _ (by omega), List.cons_append, List.nil_append, decF, hd.2.2.1]
      rw [if_neg (by unfold maxI at *; omega)]
      congr 1
      omega
theorem integerS_decL (n : Nat) (hn : (n : Int) ≤ maxI) : integerS (decL n) = ((n : Int), 0) := by
  unfold integerS
  rw [if_neg (by rw [(decL_all n).1]; simp)]
  rw [if_neg ?_]
  · have := decF_decL n [] hn
    rw [List.append_nil] at this
    rw [this, decF]
  · rintro ⟨h1, h2⟩
    obtain ⟨d, r, hd, he, h3⟩ := decL_head n
    rw [he] at h2
    simp only [List.getElem?_cons_zero, Option.some.injEq] at h2
    have hn0 := h3 ((dig d hd).2.2.2.2.2.2.2 h2)
    subst hn0
    rw [decL_small (by decide)] at h1
    simp at h1
theorem decL_len (k n : Nat) (h : n < 10 ^ (k + 1)) : (decL n).length ≤ k + 1 := by
  induction k generalizing n with
  | zero => rw [decL_small (by simpa using h)]; simp
  | succ k ih =>
    by_cases h1 : n < 10
    · rw [decL_small h1]; simp
    · rw [decL_big h1, List.length_append]
      have := ih (n / 10) (by rw [Nat.pow_succ] at h; omega)
      simp
      omega

/-- the text of a valid token -/
def textS (t : Tok) : List UInt8 := if t.kind = 2 then decL t.int.toNat else t.str.data.toList
theorem takeWhile_all {l : List UInt8} (h : l.all partB = true) : l.takeWhile partB = l := by
  have := List.takeWhile_append_of_pos (p := partB) (l₁ := l) (l₂ := []) (by simpa using h)
  simpa using this

structure TextOk (t : Tok) : Prop where
  ne : textS t ≠ []
  sp : isSp ((textS t).headD 0) = false
  c1 : startsW [45, 45] (textS t) = false
  c2 : startsW [123, 45] (textS t) = false
  item : ∀ q, itemS (textS t) q = (⟨t.kind, t.int, t.str, q⟩, ((textS t).length : Int), 0)
  len : (textS t).length ≤ 64
theorem letter_head {l : List UInt8} (h0 : l ≠ []) (h : letterB (l.headD 0) = true) : isSp (l.headD 0) = false ∧ startsW [45, 45] l = false ∧ startsW [123, 45] l = false ∧ digitB (l.headD 0) = false := by
  cases l with
  | nil => exact absurd rfl h0
  | cons c r =>
    simp only [List.headD_cons] at h ⊢
    have key : ∀ k < 256, letterB (UInt8.ofNat k) = true → isSp (UInt8.ofNat k) = false ∧ UInt8.ofNat k ≠ 45 ∧ UInt8.ofNat k ≠ 123 ∧ digitB (UInt8.ofNat k) = false := by decide +kernel
    have key2 := key c.toNat c.toNat_lt
    rw [UInt8.ofNat_toNat] at key2
    obtain ⟨a1, a2, a3, a4⟩ := key2 h
    refine ⟨a1, ?_, ?_, a4⟩
    · simp [startsW, List.isPrefixOf]
      intro hh; exact absurd hh.symm a2
    · simp [startsW, List.isPrefixOf]
      intro hh; exact absurd hh.symm a3
theorem size_zero {s : ByteArray} (h : s.size = 0) : s = ⟨#[]⟩ := by
  obtain ⟨⟨l⟩⟩ := s
  cases l with
  | nil => rfl
  | cons a r => cases h
theorem text_name {s : ByteArray} {p : Pos} (hn : nameOk s = true) : TextOk ⟨1, 0, s, p⟩ := by
  have hnn := hn
  have ht : textS ⟨1, 0, s, p⟩ = s.data.toList := rfl
  unfold nameOk at hn
  cases hs : s.data.toList with
  | nil => rw [hs] at hn; cases hn
  | cons c r =>
    rw [hs] at hn
    simp only [Bool.and_eq_true, decide_eq_true_eq, Bool.not_eq_true'] at hn
    obtain ⟨⟨⟨a1, a2⟩, a3⟩, a4⟩ := hn
    have hl : s.size = r.length + 1 := by rw [← blen, hs]; rfl
    have hw : r.takeWhile partB = r := by
      unfold wordLen at a4
      rw [List.drop_succ_cons, List.drop_zero] at a4
      have hp := List.takeWhile_prefix partB (l := r)
      exact hp.eq_of_length (by omega)
    have hcp : partB c = true := by
      have a2' : isLetter c.toNat = true := a2
      unfold partB isPart
      rw [a2']
      rfl
    have hall : (c :: r).all partB = true := by
      rw [List.all_cons, hcp, Bool.true_and]
      rw [← hw, List.all_eq_true]
      intro x hx
      have := List.all_takeWhile (p := partB) (l := r)
      rw [List.all_eq_true] at this
      exact this x hx
    have hd := letter_head (l := c :: r) (by simp) a2
    refine ⟨by rw [ht, hs]; simp, by rw [ht, hs]; exact hd.1, by rw [ht, hs]; exact hd.2.1, by rw [ht, hs]; exact hd.2.2.1, fun q => ?_, by rw [ht, hs, List.length_cons]; omega⟩
    rw [ht, hs, itemS_word a2 hd.2.2.2, takeWhile_all hall, ← hs, bstr_of, a3, hnn]
    simp
theorem text_int {n : Int} {p : Pos} (h0 : 0 ≤ n) (hi : n ≤ maxI) : TextOk ⟨2, n, ⟨#[]⟩, p⟩ := by
  have ht : textS ⟨2, n, ⟨#[]⟩, p⟩ = decL n.toNat := rfl
  obtain ⟨d, r, hd, he, _⟩ := decL_head n.toNat
  have hg := dig d hd
  have hn : ((n.toNat : Nat) : Int) = n := Int.toNat_of_nonneg h0
  refine ⟨by rw [ht, he]; simp, by rw [ht, he]; exact hg.2.2.2.2.1, ?_, ?_, fun q => ?_, ?_⟩
  · rw [ht, he]
    simp [startsW, List.isPrefixOf]
    intro hh; exact absurd hh.symm hg.2.2.2.2.2.1
  · rw [ht, he]
    simp [startsW, List.isPrefixOf]
    intro hh; exact absurd hh.symm hg.2.2.2.2.2.2.1
  · have e : itemS (decL n.toNat) q = itemS (dB d :: r) q := by rw [he]
    rw [ht, e, itemS_num hg.1, ← he, takeWhile_all (decL_all _).2, integerS_decL _ (by rw [hn]; exact hi), if_pos rfl]
    dsimp only
    rw [hn]
  · rw [ht]
    have := decL_len 18 n.toNat (by unfold maxI at hi; omega)
    omega
theorem text_kw {s : ByteArray} {p : Pos} (h : memS kwB s = true) : TextOk ⟨3, 0, s, p⟩ := by
  have ht : textS ⟨3, 0, s, p⟩ = s.data.toList := rfl
  obtain ⟨h1, h2, h3, h4⟩ := kw_all s (memS_iff.1 h)
  have hd := letter_head h1 h2
  refine ⟨by rw [ht]; exact h1, by rw [ht]; exact hd.1, by rw [ht]; exact hd.2.1, by rw [ht]; exact hd.2.2.1, fun q => ?_, by rw [ht, blen]; exact h4⟩
  rw [ht]
  cases hs : s.data.toList with
  | nil => exact absurd hs h1
  | cons c r =>
    rw [hs] at h2 h3 hd
    rw [List.headD_cons] at h2 hd
    rw [itemS_word h2 hd.2.2.2, takeWhile_all h3, ← hs, bstr_of, h]
    simp
theorem text_sy {s : ByteArray} {p : Pos} (h : memS syB s = true) : TextOk ⟨4, 0, s, p⟩ := by
  have ht : textS ⟨4, 0, s, p⟩ = s.data.toList := rfl
  obtain ⟨h1, h2, h3, h4, h5, h6, h7, h8⟩ := sy_all s (memS_iff.1 h)
  refine ⟨by rw [ht]; exact h1, by rw [ht]; exact h5, by rw [ht]; exact h6, by rw [ht]; exact h7, fun q => ?_, by rw [ht, blen]; omega⟩
  rw [ht]
  have hz : s.size ≠ 0 := fun e => h1 (List.length_eq_zero_iff.1 (by rw [blen]; exact e))
  cases hs : s.data.toList with
  | nil => exact absurd hs h1
  | cons c r =>
    rw [hs] at h2 h3 h4
    rw [List.headD_cons] at h3 h4
    rw [itemS_sym h3 h4, h2, if_neg hz, ← hs, blen]
theorem text_ok {t : Tok} (h : validTok t = true) (hi : t.int ≤ maxI) : TextOk t := by
  obtain ⟨k, n, s, p⟩ := t
  unfold validTok at h
  dsimp only at h hi
  split at h
  · rename_i h1
    subst h1
    simp only [Bool.and_eq_true, decide_eq_true_eq] at h
    obtain ⟨rfl, hn⟩ := h
    exact text_name hn
  · split at h
    · rename_i h1
      subst h1
      simp only [Bool.and_eq_true, decide_eq_true_eq] at h
      obtain ⟨h2, h3⟩ := h
      rw [size_zero h3]
      exact text_int h2 hi
    · split at h
      · rename_i h1
        subst h1
        simp only [Bool.and_eq_true, decide_eq_true_eq] at h
        obtain ⟨rfl, h3⟩ := h
        exact text_kw h3
      · split at h
        · rename_i h1
          subst h1
          simp only [Bool.and_eq_true, decide_eq_true_eq] at h
          obtain ⟨rfl, h3⟩ := h
          exact text_sy h3
        · cases h

/-- nothing, or one of the bytes that end a token -/
def SepR (r : List UInt8) : Prop := r = [] ∨ ∃ c x, SepB c ∧ r = c :: x
theorem TextOk.at_ {t : Tok} (h : TextOk t) {r : List UInt8} (hr : SepR r) (q : Pos) : itemS (textS t ++ r) q = (⟨t.kind, t.int, t.str, q⟩, ((textS t).length : Int), 0) := by
  rcases hr with rfl | ⟨c, x, hc, rfl⟩
  · rw [List.append_nil]; exact h.item q
  · rw [item_sep hc h.ne]; exact h.item q
theorem TextOk.skip {t : Tok} (h : TextOk t) {r : List UInt8} (hr : SepR r) (q : Pos) : skipS (textS t ++ r) q = (true, textS t ++ r, q) := by
  have e : ∀ a b : UInt8, (b ≠ 32 ∧ b ≠ 10 ∧ b ≠ 9) → (a ≠ 32 ∧ a ≠ 10 ∧ a ≠ 9) → startsW [a, b] (textS t ++ r) = startsW [a, b] (textS t) := fun a b hb ha => by
    rcases hr with rfl | ⟨c, x, hc, rfl⟩
    · rw [List.append_nil]
    · refine starts_sep fun d hd => ?_
      simp only [List.mem_cons, List.not_mem_nil, or_false] at hd
      rcases hd with rfl | rfl
      · rcases hc with rfl | rfl | rfl
        · exact ha.1
        · exact ha.2.1
        · exact ha.2.2
      · rcases hc with rfl | rfl | rfl
        · exact hb.1
        · exact hb.2.1
        · exact hb.2.2
  have e1 := e 45 45 (by decide) (by decide)
  have e2 := e 123 45 (by decide) (by decide)
  rw [h.c1] at e1
  rw [h.c2] at e2
  have hsp := h.sp
  have hne := h.ne
  cases ht : textS t with
  | nil => exact absurd ht hne
  | cons c u =>
    rw [ht] at e1 e2 hsp
    rw [List.cons_append] at e1 e2 ⊢
    rw [skipS, skipF, if_neg (by rw [List.headD_cons] at hsp; rw [hsp]; simp), if_neg (by rw [e1]; simp), if_neg (by rw [e2]; simp)]
/-- one token is scanned -/
theorem TextOk.scan {t : Tok} (h : TextOk t) {r r0 : List UInt8} (hr : SepR r) {p q : Pos} (hs : skipS r0 p = (true, textS t ++ r, q)) {n : Nat} {acc : List Tok} (ha : acc.length < 16384) :
    scanF (n + 1) r0 p acc = scanF n r (posAfter (textS t) q) (acc ++ [⟨t.kind, t.int, t.str, q⟩]) := by
  have hne : textS t ++ r ≠ [] := by
    have := h.ne
    cases ht : textS t with
    | nil => exact absurd ht this
    | cons c u => simp
  rw [scanF, hs, h.at_ hr]
  simp [hne, show acc.length ≠ 16384 by omega]

end Go.Proofs.YtafoahojdiglfaaDoor
