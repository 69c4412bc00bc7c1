/- plain law: an error stays where it is, whatever follows -/
import Derived.Test.YtafoahojdiglfaaDoorSc7
namespace Go.Proofs.YtafoahojdiglfaaDoor
open Go Go.RowKit
set_option maxHeartbeats 4000000

theorem sy_no10 : ∀ k ∈ syB, ∀ c ∈ k.data.toList, c ≠ 10 ∧ c ≠ 1 := by decide
attribute [local irreducible] kwB syB clB

/-- enough fuel is enough -/
theorem skipF_fuel : ∀ (n m : Nat) (r : List UInt8) (p : Pos), r.length < n → r.length < m → skipF n r p = skipF m r p
  | 0, _, r, _, h, _ => absurd h (by omega)
  | _, 0, r, _, _, h => absurd h (by omega)
  | n + 1, m + 1, [], p, _, _ => rfl
  | n + 1, m + 1, c :: r, p, hn, hm => by
    simp only [List.length_cons] at hn hm
    rw [skipF, skipF]
    split
    · exact skipF_fuel n m r _ (by omega) (by omega)
    · rename_i hsp
      split
      · rename_i h2
        have h3 : ((c :: r).dropWhile notNl).length ≤ r.length := by
          have hc : c = 45 := by
            simp [startsW] at h2
            exact h2.1.symm
          subst hc
          rw [List.dropWhile_cons, if_pos (by decide)]
          exact List.Sublist.length_le (List.dropWhile_sublist _)
        exact skipF_fuel n m _ _ (by omega) (by omega)
      · split
        · rename_i h2
          split
          · have h3 := commentS_lt (p := p) h2
            simp only [List.length_cons] at h3
            exact skipF_fuel n m _ _ (by omega) (by omega)
          · rfl
        · rfl

/-- a byte of a symbol is neither a new line nor 1 -/
theorem starts_ext {t u x : List UInt8} (h : ∀ c ∈ t, c ≠ 10) : startsW t (u ++ 10 :: x) = startsW t u := by
  induction t generalizing u with
  | nil => simp [startsW]
  | cons a t ih =>
    cases u with
    | nil =>
      have := h a List.mem_cons_self
      simp [startsW, List.isPrefixOf, this]
    | cons c u =>
      have := ih (u := u) (fun c hc => h c (List.mem_cons_of_mem _ hc))
      simp only [startsW, List.cons_append, List.isPrefixOf] at this ⊢
      rw [this]
theorem symBest_ext {u x : List UInt8} : ∀ (l : List ByteArray) (b : ByteArray), (∀ k ∈ l, ∀ c ∈ k.data.toList, c ≠ 10) → l.foldl (symStep (u ++ 10 :: x)) b = l.foldl (symStep u) b
  | [], _, _ => rfl
  | k :: l, b, h => by
    rw [List.foldl_cons, List.foldl_cons, show symStep (u ++ 10 :: x) b k = symStep u b k from by unfold symStep; rw [starts_ext (h k List.mem_cons_self)]]
    exact symBest_ext l _ (fun k' hk => h k' (List.mem_cons_of_mem _ hk))
theorem symBest_two {u : List UInt8} (h : symBest u syB = bstr [40, 124]) : 2 ≤ u.length := by
  have h1 := symBest_pre u syB ByteArray.empty (by simp [startsW])
  have h2 : startsW (symBest u syB).data.toList u = true := h1
  rw [h] at h2
  exact starts_len h2
theorem symS_ext {u x : List UInt8} : symS (u ++ 10 :: x) = symS u := by
  unfold symS
  have h1 : symBest (u ++ 10 :: x) syB = symBest u syB := symBest_ext syB _ (fun k hk c hc => (sy_no10 k hk c hc).1)
  rw [h1]
  by_cases h : symBest u syB = bstr [40, 124]
  · have h2 := symBest_two h
    have h3 : ((u ++ 10 :: x)[2]? = some 126 ∨ (u ++ 10 :: x)[2]? = some 124) ↔ (u[2]? = some 126 ∨ u[2]? = some 124) := by
      by_cases h4 : 2 < u.length
      · rw [List.getElem?_append_left h4]
      · have h5 : u[2]? = none := List.getElem?_eq_none (by omega)
        rw [List.getElem?_append_right (by omega), show 2 - u.length = 0 by omega, h5]
        simp
    simp only [h, true_and, h3]
  · simp only [h, false_and]
theorem word_ext10 {u x : List UInt8} : (u ++ 10 :: x).takeWhile partB = u.takeWhile partB := by
  induction u with
  | nil => simp [show partB 10 = false by decide]
  | cons c u ih =>
    rw [List.cons_append, List.takeWhile_cons, List.takeWhile_cons, ih]
theorem item_ext {u : List UInt8} (hu : u ≠ []) (x y : List UInt8) (q : Pos) : itemS (u ++ 10 :: x) q = itemS (u ++ 10 :: y) q := by
  cases u with
  | nil => exact absurd rfl hu
  | cons c u =>
    rw [List.cons_append, List.cons_append]
    cases hl : letterB c
    · cases hd : digitB c
      · rw [itemS_sym hl hd, itemS_sym hl hd, ← List.cons_append, ← List.cons_append, symS_ext, symS_ext]
      · rw [itemS_num hd, itemS_num hd, ← List.cons_append, ← List.cons_append, word_ext10, word_ext10]
    · have hd : digitB c = false := by
        cases h : digitB c
        · rfl
        · simp only [letterB, digitB, isLetter, isDigit, Bool.or_eq_true, decide_eq_true_eq] at hl h
          omega
      rw [itemS_word hl hd, itemS_word hl hd, ← List.cons_append, ← List.cons_append, word_ext10, word_ext10]
theorem item_len {u : List UInt8} (hu : u ≠ []) (x : List UInt8) (q : Pos) (h : (itemS (u ++ 10 :: x) q).2.2 = 0) : 1 ≤ (itemS (u ++ 10 :: x) q).2.1 ∧ (itemS (u ++ 10 :: x) q).2.1 ≤ u.length := by
  cases u with
  | nil => exact absurd rfl hu
  | cons c u =>
    have h1 := itemS_len ((c :: u) ++ 10 :: x) q (by simp) h
    refine ⟨h1.1, ?_⟩
    have hw : ((c :: u).takeWhile partB).length ≤ (c :: u).length := List.Sublist.length_le (List.takeWhile_sublist partB)
    rw [List.cons_append] at h ⊢
    cases hl : letterB c
    · cases hd : digitB c
      · rw [itemS_sym hl hd, ← List.cons_append, symS_ext] at h ⊢
        split at h
        · cases h
        · rename_i h0
          rw [if_neg h0]
          show ((symS (c :: u)).size : Int) ≤ _
          have h2 : startsW (symBest (c :: u) syB).data.toList (c :: u) = true := symBest_pre (c :: u) syB ByteArray.empty (by simp [startsW])
          have h3 := starts_len h2
          unfold symS
          split
          · rename_i h4
            have : (bstr [40]).size = 1 := rfl
            rw [this]
            simp
            omega
          · rw [show (symBest (c :: u) syB).data.toList.length = (symBest (c :: u) syB).size from blen _] at h3
            omega
      · rw [itemS_num hd, ← List.cons_append, word_ext10] at h ⊢
        split at h
        · rename_i h0
          rw [if_pos h0]
          show (((c :: u).takeWhile partB).length : Int) ≤ _
          omega
        · rename_i h0
          exact absurd h h0
    · have hd : digitB c = false := by
        cases h : digitB c
        · rfl
        · simp only [letterB, digitB, isLetter, isDigit, Bool.or_eq_true, decide_eq_true_eq] at hl h
          omega
      rw [itemS_word hl hd, ← List.cons_append, word_ext10] at h ⊢
      split at h
      · rename_i h0
        rw [if_pos h0]
        show (((c :: u).takeWhile partB).length : Int) ≤ _
        omega
      · rename_i h0
        rw [if_neg h0]
        split at h
        · rename_i h5
          rw [if_pos h5]
          show (((c :: u).takeWhile partB).length : Int) ≤ _
          omega
        · cases h
theorem sym_one (b : List UInt8) : symS (1 :: b) = ByteArray.empty := by
  have h : ∀ (l : List ByteArray) (a : ByteArray), (∀ k ∈ l, ∀ c ∈ k.data.toList, c ≠ 1) → l.foldl (symStep (1 :: b)) a = a := by
    intro l
    induction l with
    | nil => intro a _; rfl
    | cons k l ih =>
      intro a hl
      have hk := hl k List.mem_cons_self
      rw [List.foldl_cons, ih _ (fun k' hk' => hl k' (List.mem_cons_of_mem _ hk'))]
      unfold symStep
      cases hd : k.data.toList with
      | nil =>
        have : k.size = 0 := by rw [← blen, hd]; rfl
        rw [this]
        simp
      | cons c r =>
        have hc := hk c (by rw [hd]; exact List.mem_cons_self)
        have : startsW (c :: r) (1 :: b) = false := by
          simp [startsW, List.isPrefixOf, hc]
        rw [this]
        simp
  have h1 : symBest (1 :: b) syB = ByteArray.empty := h syB _ (fun k hk c hc => (sy_no10 k hk c hc).2)
  unfold symS
  rw [h1, if_neg (by intro hh; have := congrArg ByteArray.size hh.1; exact absurd this (by decide))]
theorem item_one (b : List UInt8) (q : Pos) : itemS (1 :: b) q = (zTok, 0, 2) := by
  rw [itemS_sym (by decide) (by decide), sym_one, if_pos (by rfl)]
theorem skip_one (b : List UInt8) (q : Pos) (n : Nat) : skipF (n + 1) (1 :: b) q = (true, 1 :: b, q) := by
  rw [skipF, if_neg (by decide), if_neg (by simp [startsW, List.isPrefixOf]), if_neg (by simp [startsW, List.isPrefixOf])]

/-- a comment that is open: what a text behind its end does to it -/
theorem comment_ext : ∀ (s : List UInt8) (p : Pos) (d : Int), 1 ≤ d →
    ((commentS (s ++ [10]) p d).1 = false ∧ (commentS (s ++ [10, 1]) p d).1 = false) ∨
    ∃ s2 q, s2.length ≤ s.length ∧ (commentS (s ++ [10]) p d) = (true, s2 ++ [10], q) ∧ ∀ b, commentS (s ++ 10 :: 1 :: b) p d = (true, s2 ++ 10 :: 1 :: b, q)
  | [], p, d, hd => by
    left
    have h0 : d ≠ 0 := by omega
    refine ⟨by simp [commentS, h0], ?_⟩
    rw [List.nil_append, commentS, if_neg (by decide), if_neg (by decide), if_neg h0, commentS]
    simp [h0]
  | [c], p, d, hd => by
    left
    have h0 : d ≠ 0 := by omega
    have e1 : ¬ (c = 123 ∧ (10 : UInt8) = 45) := by rintro ⟨_, h⟩; exact absurd h (by decide)
    have e2 : ¬ (c = 45 ∧ (10 : UInt8) = 125) := by rintro ⟨_, h⟩; exact absurd h (by decide)
    refine ⟨?_, ?_⟩
    · rw [List.cons_append, List.nil_append, commentS, if_neg e1, if_neg e2, if_neg h0, commentS]
      simp [h0]
    · rw [List.cons_append, List.nil_append, commentS, if_neg e1, if_neg e2, if_neg h0, commentS, if_neg (by decide), if_neg (by decide), if_neg h0, commentS]
      simp [h0]
  | c :: e :: s, p, d, hd => by
    have h0 : d ≠ 0 := by omega
    have r1 := comment_ext s (stepP e (stepP c p)) (d + 1) (by omega)
    have r3 := comment_ext (e :: s) (stepP c p) d hd
    simp only [List.cons_append] at r1 r3 ⊢
    simp only [commentS]
    by_cases hA : c = 123 ∧ e = 45
    · have h1 : d + 1 ≠ 0 := by omega
      simp only [if_pos hA, if_neg h1]
      rcases r1 with h | ⟨s2, q, hl, h2, h3⟩
      · exact .inl h
      · exact .inr ⟨s2, q, by simp; omega, h2, h3⟩
    · simp only [if_neg hA]
      by_cases hB : c = 45 ∧ e = 125
      · simp only [if_pos hB]
        by_cases h1 : d - 1 = 0
        · simp only [if_pos h1]
          exact .inr ⟨s, _, by simp; omega, rfl, fun _ => rfl⟩
        · simp only [if_neg h1]
          rcases comment_ext s (stepP e (stepP c p)) (d - 1) (by omega) with h | ⟨s2, q, hl, h2, h3⟩
          · exact .inl h
          · exact .inr ⟨s2, q, by simp; omega, h2, h3⟩
      · simp only [if_neg hB, if_neg h0]
        rcases r3 with h | ⟨s2, q, hl, h2, h3⟩
        · exact .inl h
        · exact .inr ⟨s2, q, by simp at hl ⊢; omega, h2, h3⟩

theorem drop_nl (s : List UInt8) : ∃ t s2, s = t ++ s2 ∧ (∀ x, (s ++ 10 :: x).takeWhile notNl = t) ∧ ∀ x, (s ++ 10 :: x).dropWhile notNl = s2 ++ 10 :: x := by
  induction s with
  | nil => exact ⟨[], [], rfl, fun x => by simp [notNl], fun x => by simp [notNl]⟩
  | cons c s ih =>
    by_cases hc : notNl c = true
    · obtain ⟨t, s2, h1, h2, h3⟩ := ih
      refine ⟨c :: t, s2, by rw [h1]; rfl, fun x => ?_, fun x => ?_⟩
      · rw [List.cons_append, List.takeWhile_cons, if_pos hc, h2]
      · rw [List.cons_append, List.dropWhile_cons, if_pos hc, h3]
    · refine ⟨[], c :: s, rfl, fun x => ?_, fun x => ?_⟩
      · rw [List.cons_append, List.takeWhile_cons, if_neg hc]
      · rw [List.cons_append, List.dropWhile_cons, if_neg hc]
theorem starts2_ext {a b c : UInt8} (hb : b ≠ 10) (s x : List UInt8) : startsW [a, b] (c :: s ++ 10 :: x) = startsW [a, b] (c :: s) := by
  cases s with
  | nil =>
    simp [startsW, List.isPrefixOf]
    intro _
    exact hb
  | cons e s => simp [startsW, List.isPrefixOf]

/-- white space and comments before the end of a line -/
theorem skip3 : ∀ (k : Nat) (s : List UInt8) (p : Pos), s.length ≤ k →
    ((skipS (s ++ [10]) p).1 = false ∧ (skipS (s ++ [10, 1]) p).1 = false) ∨
    (∃ s1 q, s1 ≠ [] ∧ s1.length ≤ s.length ∧ skipS (s ++ [10]) p = (true, s1 ++ [10], q) ∧ ∀ b, skipS (s ++ 10 :: 1 :: b) p = (true, s1 ++ 10 :: 1 :: b, q)) ∨
    ∃ q, (skipS (s ++ [10]) p).1 = true ∧ (skipS (s ++ [10]) p).2.1 = [] ∧ ∀ b, skipS (s ++ 10 :: 1 :: b) p = (true, 1 :: b, q) := by
  intro k
  induction k with
  | zero =>
    intro s p hs
    have : s = [] := List.length_eq_zero_iff.1 (by omega)
    subst this
    right; right
    refine ⟨stepP 10 p, ?_, ?_, fun b => ?_⟩
    · simp [skipS, skipF, isSp]
    · simp [skipS, skipF, isSp]
    · rw [List.nil_append, skipS, skipF, if_pos (by decide), List.length_cons, skip_one]
  | succ k ih =>
    intro s p hs
    cases s with
    | nil =>
      right; right
      refine ⟨stepP 10 p, ?_, ?_, fun b => ?_⟩
      · simp [skipS, skipF, isSp]
      · simp [skipS, skipF, isSp]
      · rw [List.nil_append, skipS, skipF, if_pos (by decide), List.length_cons, skip_one]
    | cons c s =>
      have ex : ∀ x p, skipS (c :: s ++ x) p = if isSp c then skipS (s ++ x) (stepP c p) else if startsW [45, 45] (c :: s ++ x) then skipS ((c :: s ++ x).dropWhile notNl) (posAfter ((c :: s ++ x).takeWhile notNl) p) else if startsW [123, 45] (c :: s ++ x) then (if (commentS (c :: s ++ x) p 0).1 then skipS (commentS (c :: s ++ x) p 0).2.1 (commentS (c :: s ++ x) p 0).2.2 else (false, c :: s ++ x, p)) else (true, c :: s ++ x, p) := by
        intro x p
        rw [List.cons_append, skipS, skipF]
        split
        · exact skipF_fuel _ _ _ _ (by simp) (by simp)
        · split
          · rename_i h2
            have h3 : ((c :: (s ++ x)).dropWhile notNl).length ≤ (s ++ x).length := by
              have hc : c = 45 := by
                simp [startsW] at h2
                exact h2.1.symm
              subst hc
              rw [List.dropWhile_cons, if_pos (by decide)]
              exact List.Sublist.length_le (List.dropWhile_sublist _)
            exact skipF_fuel _ _ _ _ (by rw [List.length_cons]; omega) (by omega)
          · split
            · rename_i h2
              split
              · have h3 := commentS_lt (p := p) h2
                exact skipF_fuel _ _ _ _ (by omega) (by omega)
              · rfl
            · rfl
      have hsl : s.length ≤ k := by simp at hs; omega
      by_cases h1 : isSp c = true
      · rw [ex, ex]
        simp only [ex, if_pos h1]
        rcases ih s (stepP c p) hsl with h | ⟨s1, q, a1, a2, a3, a4⟩ | h
        · exact .inl h
        · exact .inr (.inl ⟨s1, q, a1, by simp; omega, a3, a4⟩)
        · exact .inr (.inr h)
      · by_cases h2 : startsW [45, 45] (c :: s) = true
        · obtain ⟨t, s2, hts, ht, hd⟩ := drop_nl (c :: s)
          have hl : s2.length ≤ k := by
            have hc : c = 45 := by
              simp [startsW] at h2
              exact h2.1.symm
            have h3 := hd []
            subst hc
            rw [List.cons_append, List.dropWhile_cons, if_pos (by decide)] at h3
            have h4 : ((s ++ [10]).dropWhile notNl).length ≤ (s ++ [10]).length := List.Sublist.length_le (List.dropWhile_sublist _)
            rw [h3] at h4
            simp at h4
            omega
          have e2 : ∀ x, startsW [45, 45] (c :: s ++ 10 :: x) = true := fun x => by rw [starts2_ext (by decide)]; exact h2
          simp only [ex, if_neg h1, e2, if_true, ht, hd]
          rcases ih s2 (posAfter t p) hl with h | ⟨s1, q, a1, a2, a3, a4⟩ | h
          · exact .inl h
          · exact .inr (.inl ⟨s1, q, a1, by have := congrArg List.length hts; simp at this ⊢; omega, a3, a4⟩)
          · exact .inr (.inr h)
        · have e2 : ∀ x, ¬ startsW [45, 45] (c :: s ++ 10 :: x) = true := fun x => by rw [starts2_ext (by decide)]; exact h2
          by_cases h3 : startsW [123, 45] (c :: s) = true
          · have e3 : ∀ x, startsW [123, 45] (c :: s ++ 10 :: x) = true := fun x => by rw [starts2_ext (by decide)]; exact h3
            simp only [ex, if_neg h1, e2, e3, if_true]
            cases s with
            | nil => rw [starts_two_one] at h3; cases h3
            | cons e s =>
              obtain ⟨rfl, rfl⟩ := starts_two.1 h3
              have hc : ∀ x, commentS (123 :: 45 :: s ++ 10 :: x) p 0 = commentS (s ++ 10 :: x) (stepP 45 (stepP 123 p)) 1 := fun x => by
                rw [List.cons_append, List.cons_append, commentS, if_pos ⟨rfl, rfl⟩, if_neg (by decide)]
                rfl
              simp only [hc]
              rcases comment_ext s (stepP 45 (stepP 123 p)) 1 (by decide) with ⟨h4, h5⟩ | ⟨s2, q, hl, h4, h5⟩
              · left
                rw [h4, h5]
                exact ⟨rfl, rfl⟩
              · simp only [h4, h5, if_true]
                rcases ih s2 q (by simp at hsl; omega) with h | ⟨s1, q', a1, a2, a3, a4⟩ | h
                · exact .inl h
                · exact .inr (.inl ⟨s1, q', a1, by simp; omega, a3, a4⟩)
                · exact .inr (.inr h)
          · have e3 : ∀ x, ¬ startsW [123, 45] (c :: s ++ 10 :: x) = true := fun x => by rw [starts2_ext (by decide)]; exact h3
            simp only [ex, if_neg h1, e2, e3]
            exact .inr (.inl ⟨c :: s, p, by simp, Nat.le_refl _, rfl, fun b => rfl⟩)

theorem stay_main : ∀ (k : Nat) (s : List UInt8) (p : Pos) (acc : List Tok), s.length ≤ k →
    (∀ n m, s.length + 1 < n → s.length + 2 < m → (scanF n (s ++ [10]) p acc).2.2 ≠ 0 ∧ (scanF m (s ++ [10, 1]) p acc).2.2 ≠ 0) ∨
    ∃ q, ∀ b m, (s ++ 10 :: 1 :: b).length < m → scanF m (s ++ 10 :: 1 :: b) p acc = ([], q, 2) := by
  intro k
  induction k with
  | zero =>
    intro s p acc hs
    have : s = [] := List.length_eq_zero_iff.1 (by omega)
    subst this
    right
    refine ⟨stepP 10 p, fun b m hm => ?_⟩
    obtain ⟨m, rfl⟩ : ∃ j, m = j + 1 := ⟨m - 1, by omega⟩
    have h : skipS (10 :: 1 :: b) p = (true, 1 :: b, stepP 10 p) := by rw [skipS, skipF, if_pos (by decide), List.length_cons, skip_one]
    rw [List.nil_append, scanF, h, item_one]
    simp
  | succ k ih =>
    intro s p acc hs
    rcases skip3 _ s p (Nat.le_refl _) with ⟨h1, h2⟩ | ⟨s1, q, a1, a2, a3, a4⟩ | ⟨q, h1, h2, h3⟩
    · left
      intro n m hn hm
      obtain ⟨n, rfl⟩ : ∃ j, n = j + 1 := ⟨n - 1, by omega⟩
      obtain ⟨m, rfl⟩ : ∃ j, m = j + 1 := ⟨m - 1, by omega⟩
      rw [scanF, scanF, if_pos h1, if_pos h2]
      exact ⟨by simp, by simp⟩
    · have hit : ∀ x, itemS (s1 ++ 10 :: x) q = itemS (s1 ++ [10]) q := fun x => item_ext a1 x [] q
      obtain ⟨⟨t, len, e⟩, hi⟩ : ∃ y, itemS (s1 ++ [10]) q = y := ⟨_, rfl⟩
      have hne : ∀ x, s1 ++ 10 :: x ≠ [] := fun x => by simp
      have a4' := a4 []
      by_cases he : e = 0
      · subst he
        have hln := item_len a1 [] q (by rw [hi])
        rw [hi] at hln
        dsimp only at hln
        obtain ⟨j, rfl⟩ : ∃ j : Nat, len = j := ⟨len.toNat, by omega⟩
        have hj1 : 1 ≤ j := by omega
        have hj2 : j ≤ s1.length := by omega
        have hdr : ∀ x, (s1 ++ 10 :: x).drop j = s1.drop j ++ 10 :: x := fun x => List.drop_append_of_le_length hj2
        have htk : ∀ x, (s1 ++ 10 :: x).take j = s1.take j := fun x => List.take_append_of_le_length hj2
        by_cases ha : acc.length = 16384
        · left
          intro n m hn hm
          obtain ⟨n, rfl⟩ : ∃ j, n = j + 1 := ⟨n - 1, by omega⟩
          obtain ⟨m, rfl⟩ : ∃ j, m = j + 1 := ⟨m - 1, by omega⟩
          rw [scanF, scanF, a3, a4']
          simp [hne, hit, hi, ha]
        · have hl2 : (s1.drop j).length ≤ k := by rw [List.length_drop]; omega
          rcases ih (s1.drop j) (posAfter (s1.take j) q) (acc ++ [t]) hl2 with h | ⟨q2, h⟩
          · left
            intro n m hn hm
            obtain ⟨n, rfl⟩ : ∃ j, n = j + 1 := ⟨n - 1, by omega⟩
            obtain ⟨m, rfl⟩ : ∃ j, m = j + 1 := ⟨m - 1, by omega⟩
            have h5 := h n m (by rw [List.length_drop]; omega) (by rw [List.length_drop]; omega)
            rw [scanF, scanF, a3, a4']
            have g1 := hdr []
            have g2 := hdr [1]
            have g3 := htk []
            have g4 := htk [1]
            simp [hne, hit, hi, ha, g1, g2, g3, g4]
            exact h5
          · right
            refine ⟨q2, fun b m hm => ?_⟩
            obtain ⟨m, rfl⟩ : ∃ j, m = j + 1 := ⟨m - 1, by omega⟩
            rw [scanF, a4]
            simp [hne, hit, hi, ha, hdr, htk]
            refine h b m ?_
            simp at hm ⊢
            omega
      · left
        intro n m hn hm
        obtain ⟨n, rfl⟩ : ∃ j, n = j + 1 := ⟨n - 1, by omega⟩
        obtain ⟨m, rfl⟩ : ∃ j, m = j + 1 := ⟨m - 1, by omega⟩
        rw [scanF, scanF, a3, a4']
        simp [hne, hit, hi, he]
    · right
      refine ⟨q, fun b m hm => ?_⟩
      obtain ⟨m, rfl⟩ : ∃ j, m = j + 1 := ⟨m - 1, by omega⟩
      rw [scanF, h3, item_one]
      simp

/-- LexerErrorStays, plainly -/
theorem stays (s : List UInt8) (hs : s.length ≤ 60000) : ((scanS (s ++ [10])).2.2 ≠ 0 ∧ (scanS (s ++ [10, 1])).2.2 ≠ 0) ∨ ∃ q, ∀ b : List UInt8, b.length ≤ 1000 → scanS (s ++ 10 :: 1 :: b) = ([], q, 2) := by
  rcases stay_main _ s ⟨1, 1⟩ [] (Nat.le_refl _) with h | ⟨q, h⟩
  · left
    have h1 := h ((s ++ [10]).length + 1) ((s ++ [10, 1]).length + 1) (by simp) (by simp)
    unfold scanS
    rw [if_neg (by simp; omega), if_neg (by simp; omega)]
    exact h1
  · right
    refine ⟨q, fun b hb => ?_⟩
    unfold scanS
    rw [if_neg (by simp; omega)]
    exact h b _ (by omega)

end Go.Proofs.YtafoahojdiglfaaDoor
