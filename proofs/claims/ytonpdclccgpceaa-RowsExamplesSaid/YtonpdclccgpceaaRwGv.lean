/- rows that are drawn are ascending and their arcs are good: plain laws -/
import Derived.Test.YtonpdclccgpceaaRwI
namespace Go.Proofs.Ytonpdclccgpceaa
open Go Go.RowKit
set_option maxHeartbeats 4000000

/-- a row of a system with m states, in order -/
structure GoodR (m : Nat) (l : List Arc) : Prop where
  asc : ascB l = true
  ok : ∀ a ∈ l, okA m a = true
theorem GoodR.nil (m : Nat) : GoodR m [] := ⟨rfl, fun a h => by cases h⟩
theorem ascB_tail {a : Arc} {l : List Arc} (h : ascB (a :: l) = true) : ascB l = true := by
  cases l with
  | nil => rfl
  | cons b r =>
    rw [ascB, Bool.and_eq_true] at h
    exact h.2
theorem ascB_drop : ∀ (i : Nat) (l : List Arc), ascB l = true → ascB (l.drop i) = true
  | 0, l, h => by simpa using h
  | i + 1, [], h => by simpa using h
  | i + 1, a :: l, h => by
    rw [List.drop_succ_cons]
    exact ascB_drop i l (ascB_tail h)
theorem ascB_tk : ∀ (i : Nat) (l : List Arc), ascB l = true → ascB (l.take i) = true
  | 0, l, h => by simp [ascB]
  | i + 1, [], h => by simpa using h
  | i + 1, [a], h => by simp [ascB]
  | 0 + 1, a :: b :: r, h => by simp [ascB]
  | i + 1 + 1, a :: b :: r, h => by
    rw [ascB, Bool.and_eq_true] at h
    have h2 := ascB_tk (i + 1) (b :: r) h.2
    rw [List.take_succ_cons] at h2 ⊢
    rw [List.take_succ_cons, ascB, Bool.and_eq_true]
    exact ⟨h.1, h2⟩
theorem ascB_app : ∀ (xs : List Arc) (a : Arc) (ys : List Arc), ascB xs = true → ascB (a :: ys) = true → (∀ x, xs[xs.length - 1]? = some x → lessB x a = true) → ascB (xs ++ a :: ys) = true
  | [], a, ys, _, h2, _ => h2
  | [x], a, ys, _, h2, h3 => by
    rw [List.singleton_append, ascB, Bool.and_eq_true]
    exact ⟨h3 x rfl, h2⟩
  | x :: y :: r, a, ys, h1, h2, h3 => by
    rw [ascB, Bool.and_eq_true] at h1
    have h4 := ascB_app (y :: r) a ys h1.2 h2 (fun z hz => h3 z (by simpa using hz))
    rw [List.cons_append, List.cons_append, ascB, Bool.and_eq_true]
    exact ⟨h1.1, h4⟩
theorem lessB_tot {x a : Arc} (h : lessB x a = false) (hne : x ≠ a) : lessB a x = true := by
  obtain ⟨xe, xt⟩ := x
  obtain ⟨ae, at_⟩ := a
  simp only [lessB, decide_eq_false_iff_not, decide_eq_true_eq] at h ⊢
  rcases Int.lt_trichotomy ae xe with h1 | h1 | h1
  · exact .inl h1
  · refine .inr ⟨h1, ?_⟩
    rcases Int.lt_trichotomy at_ xt with h2 | h2 | h2
    · exact h2
    · exact absurd (by rw [h1, h2]) hne
    · exact absurd (.inr ⟨h1.symm, h2⟩) h
  · exact absurd (.inl h1) h
theorem InsR.good {m : Nat} {l l' : List Arc} {a : Arc} (h : InsR l a l') (hl : GoodR m l) (ha : okA m a = true) : GoodR m l' := by
  obtain ⟨i, h1, h2, h3, ⟨rfl, _⟩ | ⟨rfl, h4⟩⟩ := h
  · exact hl
  · refine ⟨ascB_app _ _ _ (ascB_tk i l hl.asc) ?_ (fun x hx => ?_), fun x hx => ?_⟩
    · rcases Nat.lt_or_ge i l.length with hi | hi
      · have hg : l[i]? = some l[i] := List.getElem?_eq_getElem hi
        rw [List.drop_eq_getElem_cons hi, ascB, Bool.and_eq_true]
        refine ⟨lessB_tot (h3 _ hg) (fun e => h4 (by rw [hg, e])), ?_⟩
        have := ascB_drop i l hl.asc
        rw [List.drop_eq_getElem_cons hi] at this
        exact this
      · rw [List.drop_eq_nil_of_le hi]
        rfl
    · rw [List.length_take, Nat.min_eq_left h1, List.getElem?_take] at hx
      split at hx
      · exact h2 _ x (by omega) hx
      · cases hx
    · rcases List.mem_append.1 hx with h | h
      · exact hl.ok x (List.mem_of_mem_take h)
      · rcases List.mem_cons.1 h with rfl | h
        · exact ha
        · exact hl.ok x (List.mem_of_mem_drop h)
theorem okA_of {m : Nat} {e t : Int} (h1 : 0 ≤ e) (h2 : e ≤ 1025) (h3 : 0 ≤ t) (h4 : t < m) : okA m ⟨e, t⟩ = true := by
  simp only [okA, Bool.and_eq_true, decide_eq_true_eq]
  exact ⟨⟨h1, h2⟩, h3, h4⟩
theorem total_lb (bd : Nat) : ∀ ls : List (List Arc), (∀ l ∈ ls, l.length ≤ bd) → total ls ≤ ls.length * bd
  | [], _ => by simp [total]
  | l :: ls, h => by
    have h1 := total_lb bd ls (fun x hx => h x (by simp [hx]))
    have h2 := h l (by simp)
    simp only [total, List.map_cons, List.sum_cons, List.length_cons] at h1 ⊢
    rw [Nat.succ_mul]
    omega
/-- rows that are good make a valid system -/
theorem valid_of {bd : Nat} {ls : List (List Arc)} (h0 : 1 ≤ ls.length) (h1 : ls.length ≤ 16384) (hb : ∀ l ∈ ls, l.length ≤ bd) (hbd : ls.length * bd ≤ 262144) (hg : ∀ l ∈ ls, GoodR ls.length l) : validB ls = true := by
  have ht := total_lb bd ls hb
  simp only [validB, looseB, Bool.and_eq_true, decide_eq_true_eq, List.all_eq_true]
  exact ⟨⟨⟨⟨h0, h1⟩, by omega⟩, fun l hl a ha => (hg l hl).ok a ha⟩, fun l hl => (hg l hl).asc⟩

end Go.Proofs.Ytonpdclccgpceaa
