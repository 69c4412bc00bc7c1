/- rows that are drawn are ascending and their arcs are good: plain laws; systems that are drawn: rows in an outer row; LTS -/
import Derived.Test.YtmciinikfjfegaaRwI
import Derived.OwnWalk
namespace Go.Proofs.Ytmciinikfjfegaa
open Go Go.RowKit
set_option maxHeartbeats 4000000

/-- a row of a system with m states, in order -/
structure GoodR (m : Nat) (l : List Arc) : Prop where
  asc : ascB l = true
  ok : ∀ a ∈ l, okA m a = true
theorem GoodR.nil (m : Nat) : GoodR m [] := ⟨rfl, fun a h => by cases h⟩
theorem ascB_tail {a : Arc} {l : List Arc} (h : ascB (a :: l) = true) : ascB l = true := by
  cases l with
  | nil => rfl
  | cons b r =>
    rw [ascB, Bool.and_eq_true] at h
    exact h.2
theorem ascB_drop : ∀ (i : Nat) (l : List Arc), ascB l = true → ascB (l.drop i) = true
  | 0, l, h => by simpa using h
  | i + 1, [], h => by simpa using h
  | i + 1, a :: l, h => by
    rw [List.drop_succ_cons]
    exact ascB_drop i l (ascB_tail h)
theorem ascB_tk : ∀ (i : Nat) (l : List Arc), ascB l = true → ascB (l.take i) = true
  | 0, l, h => by simp [ascB]
  | i + 1, [], h => by simpa using h
  | i + 1, [a], h => by simp [ascB]
  | 0 + 1, a :: b :: r, h => by simp [ascB]
  | i + 1 + 1, a :: b :: r, h => by
    rw [ascB, Bool.and_eq_true] at h
    have h2 := ascB_tk (i + 1) (b :: r) h.2
    rw [List.take_succ_cons] at h2 ⊢
    rw [List.take_succ_cons, ascB, Bool.and_eq_true]
    exact ⟨h.1, h2⟩
theorem ascB_app : ∀ (xs : List Arc) (a : Arc) (ys : List Arc), ascB xs = true → ascB (a :: ys) = true → (∀ x, xs[xs.length - 1]? = some x → lessB x a = true) → ascB (xs ++ a :: ys) = true
  | [], a, ys, _, h2, _ => h2
  | [x], a, ys, _, h2, h3 => by
    rw [List.singleton_append, ascB, Bool.and_eq_true]
    exact ⟨h3 x rfl, h2⟩
  | x :: y :: r, a, ys, h1, h2, h3 => by
    rw [ascB, Bool.and_eq_true] at h1
    have h4 := ascB_app (y :: r) a ys h1.2 h2 (fun z hz => h3 z (by simpa using hz))
    rw [List.cons_append, List.cons_append, ascB, Bool.and_eq_true]
    exact ⟨h1.1, h4⟩
theorem lessB_tot {x a : Arc} (h : lessB x a = false) (hne : x ≠ a) : lessB a x = true := by
  obtain ⟨xe, xt⟩ := x
  obtain ⟨ae, at_⟩ := a
  simp only [lessB, decide_eq_false_iff_not, decide_eq_true_eq] at h ⊢
  rcases Int.lt_trichotomy ae xe with h1 | h1 | h1
  · exact .inl h1
  · refine .inr ⟨h1, ?_⟩
    rcases Int.lt_trichotomy at_ xt with h2 | h2 | h2
    · exact h2
    · exact absurd (by rw [h1, h2]) hne
    · exact absurd (.inr ⟨h1.symm, h2⟩) h
  · exact absurd (.inl h1) h
theorem InsR.good {m : Nat} {l l' : List Arc} {a : Arc} (h : InsR l a l') (hl : GoodR m l) (ha : okA m a = true) : GoodR m l' := by
  obtain ⟨i, h1, h2, h3, ⟨rfl, _⟩ | ⟨rfl, h4⟩⟩ := h
  · exact hl
  · refine ⟨ascB_app _ _ _ (ascB_tk i l hl.asc) ?_ (fun x hx => ?_), fun x hx => ?_⟩
    · rcases Nat.lt_or_ge i l.length with hi | hi
      · have hg : l[i]? = some l[i] := List.getElem?_eq_getElem hi
        rw [List.drop_eq_getElem_cons hi, ascB, Bool.and_eq_true]
        refine ⟨lessB_tot (h3 _ hg) (fun e => h4 (by rw [hg, e])), ?_⟩
        have := ascB_drop i l hl.asc
        rw [List.drop_eq_getElem_cons hi] at this
        exact this
      · rw [List.drop_eq_nil_of_le hi]
        rfl
    · rw [List.length_take, Nat.min_eq_left h1, List.getElem?_take] at hx
      split at hx
      · exact h2 _ x (by omega) hx
      · cases hx
    · rcases List.mem_append.1 hx with h | h
      · exact hl.ok x (List.mem_of_mem_take h)
      · rcases List.mem_cons.1 h with rfl | h
        · exact ha
        · exact hl.ok x (List.mem_of_mem_drop h)
theorem okA_of {m : Nat} {e t : Int} (h1 : 0 ≤ e) (h2 : e ≤ 1025) (h3 : 0 ≤ t) (h4 : t < m) : okA m ⟨e, t⟩ = true := by
  simp only [okA, Bool.and_eq_true, decide_eq_true_eq]
  exact ⟨⟨h1, h2⟩, h3, h4⟩
theorem total_lb (bd : Nat) : ∀ ls : List (List Arc), (∀ l ∈ ls, l.length ≤ bd) → total ls ≤ ls.length * bd
  | [], _ => by simp [total]
  | l :: ls, h => by
    have h1 := total_lb bd ls (fun x hx => h x (by simp [hx]))
    have h2 := h l (by simp)
    simp only [total, List.map_cons, List.sum_cons, List.length_cons] at h1 ⊢
    rw [Nat.succ_mul]
    omega
/-- rows that are good make a valid system -/
theorem valid_of {bd : Nat} {ls : List (List Arc)} (h0 : 1 ≤ ls.length) (h1 : ls.length ≤ 16384) (hb : ∀ l ∈ ls, l.length ≤ bd) (hbd : ls.length * bd ≤ 262144) (hg : ∀ l ∈ ls, GoodR ls.length l) : validB ls = true := by
  have ht := total_lb bd ls hb
  simp only [validB, looseB, Bool.and_eq_true, decide_eq_true_eq, List.all_eq_true]
  exact ⟨⟨⟨⟨h0, h1⟩, by omega⟩, fun l hl a ha => (hg l hl).ok a ha⟩, fun l hl => (hg l hl).asc⟩

end Go.Proofs.Ytmciinikfjfegaa
namespace Go.Proofs.Ytmciinikfjfegaa
open Go Go.RowKit
set_option maxHeartbeats 4000000

/-- no arc can lie in block g -/
def NoTwo (w : World) (g : Nat) : Prop := ∀ j k x k' y, w.cell? ⟨g, j, none⟩ = some (.int k x) → ¬ w.cell? ⟨g, j + 1, none⟩ = some (.int k' y)
theorem Rd.arcOut {w w' : World} {B n g : Nat} {A : Option Addr} {l : List Arc} (h : Rd w B 2 A n (cellsOf Arc.cells l)) (hN : NoTwo w g) (hO : Outside (fun k => k = g) w w') (_hB : B ≤ w.heap.size) : Rd w' B 2 A n (cellsOf Arc.cells l) := by
  refine ⟨h.1, fun h0 => ?_⟩
  obtain ⟨b, o, e, hb, hc⟩ := h.2 h0
  refine ⟨b, o, e, hb, fun j u hu => ?_⟩
  have hne : b ≠ g := by
    rintro rfl
    obtain ⟨b2, o2, t, e2, _, _, c0, c1⟩ := h.arc h0
    rw [e] at e2
    obtain ⟨rfl, rfl⟩ : b = b2 ∧ o = o2 := by simpa using e2
    exact hN _ _ _ _ _ c0 c1
  exact (hO.cell (p := ⟨b, o + j, none⟩) (hc j u hu) hne)

/-- an outer row of rows -/
structure RowsAt (w : World) (g : Nat) (cs : Array Value) (m bd : Nat) : Prop where
  blk : Blk w g 24 cs
  size : cs.size = m
  rows : ∀ (j : Nat) (v : Value), cs[j]? = some v → ∃ (A : Option Addr) (n c : Nat) (l : List Arc), v = .slice A n c ∧ n ≤ c ∧ n ≤ bd ∧ Rd w w.heap.size 2 A n (cellsOf Arc.cells l) ∧ GoodR m l
section
variable {w w' : World} {g m bd : Nat} {cs : Array Value}
theorem RowsAt.noTwo (h : RowsAt w g cs m bd) : NoTwo w g := by
  intro j k x k' y h1 _
  rw [h.blk.cell] at h1
  obtain ⟨A, n, c, l, e, _⟩ := h.rows j _ h1
  cases e
theorem RowsAt.below (h : RowsAt w g cs m bd) (hb : Below w.heap.size w w') : RowsAt w' g cs m bd :=
  ⟨h.blk.below hb h.blk.lt, h.size, fun j v hv => by
    obtain ⟨A, n, c, l, e, h1, h2, h3⟩ := h.rows j v hv
    exact ⟨A, n, c, l, e, h1, h2, (h3.1.below hb).more hb.size, h3.2⟩⟩
theorem RowsAt.out (h : RowsAt w g cs m bd) {t : Nat} (hN : NoTwo w t) (ht : g ≠ t) (hO : Outside (fun k => k = t) w w') : RowsAt w' g cs m bd :=
  ⟨h.blk.out hO ht, h.size, fun j v hv => by
    obtain ⟨A, n, c, l, e, h1, h2, h3⟩ := h.rows j v hv
    exact ⟨A, n, c, l, e, h1, h2, (h3.1.arcOut hN hO (Nat.le_refl _)).more hO.size, h3.2⟩⟩
theorem RowsAt.put (h : RowsAt w g cs m bd) {i n c : Nat} {A : Option Addr} {l : List Arc} (hnc : n ≤ c) (hbd : n ≤ bd) (hR : Rd w w.heap.size 2 A n (cellsOf Arc.cells l)) (hg : GoodR m l) : RowsAt (w.setCell ⟨g, i, none⟩ (.slice A n c)) g (cs.setIfInBounds i (.slice A n c)) m bd := by
  have hO : Outside (fun k => k = g) w (w.setCell ⟨g, i, none⟩ (.slice A n c)) := (Outside.refl (fun k => k = g) w).setCell (p := ⟨g, i, none⟩) (.inl rfl) _
  refine ⟨h.blk.put i _, by simpa using h.size, fun j v hv => ?_⟩
  rw [Array.getElem?_setIfInBounds] at hv
  split at hv
  · split at hv
    · cases hv
      exact ⟨A, n, c, l, rfl, hnc, hbd, (hR.arcOut h.noTwo hO (Nat.le_refl _)).more hO.size, hg⟩
    · cases hv
  · obtain ⟨A', n', c', l', e, h1, h2, h3⟩ := h.rows j v hv
    exact ⟨A', n', c', l', e, h1, h2, (h3.1.arcOut h.noTwo hO (Nat.le_refl _)).more hO.size, h3.2⟩
theorem RowsAt.mono (h : RowsAt w g cs m bd) {bd' : Nat} (hb : bd ≤ bd') : RowsAt w g cs m bd' :=
  ⟨h.blk, h.size, fun j v hv => by
    obtain ⟨A, n, c, l, e, h1, h2, h3⟩ := h.rows j v hv
    exact ⟨A, n, c, l, e, h1, by omega, h3⟩⟩
theorem RowsAt.get (h : RowsAt w g cs m bd) {i : Nat} (hi : i < m) : ∃ (A : Option Addr) (n c : Nat) (l : List Arc), w.cell? ⟨g, i, none⟩ = some (.slice A n c) ∧ n ≤ c ∧ n ≤ bd ∧ Rd w w.heap.size 2 A n (cellsOf Arc.cells l) ∧ GoodR m l := by
  have hs := h.size
  have hv : cs[i]? = some cs[i] := Array.getElem?_eq_getElem (by omega)
  obtain ⟨A, n, c, l, e, h1, h2, h3⟩ := h.rows i _ hv
  exact ⟨A, n, c, l, by rw [h.blk.cell, hv, e], h1, h2, h3⟩
theorem RowsAt.rdL (h : RowsAt w g cs m bd) : ∃ ls, RdL w w.heap.size (some ⟨g, 0, none⟩) m ls ∧ ∀ l ∈ ls, l.length ≤ bd ∧ GoodR m l := by
  have hs := h.size
  have hex : ∀ i, i < m → ∃ l : List Arc, ∃ (A : Option Addr) (n c : Nat), cs[i]? = some (.slice A n c) ∧ n ≤ bd ∧ Rd w w.heap.size 2 A n (cellsOf Arc.cells l) ∧ GoodR m l := fun i hi => by
    have hv : cs[i]? = some cs[i] := Array.getElem?_eq_getElem (by omega)
    obtain ⟨A, n, c, l, e, h1, h2, h3⟩ := h.rows i _ hv
    exact ⟨l, A, n, c, by rw [hv, e], h2, h3⟩
  let ls : List (List Arc) := (List.range m).pmap (fun i (h : i < m) => (hex i h).choose) (fun i h => List.mem_range.1 h)
  have hll : ls.length = m := by simp [ls]
  have hget : ∀ i (h : i < m), ls[i]? = some (hex i h).choose := fun i h => by simp [ls, h]
  refine ⟨ls, ⟨cs.toList, ⟨by simp [hs], fun _ => ⟨g, 0, rfl, h.blk.lt, fun j u hu => ?_⟩⟩, hll, fun i l hl => ?_⟩, fun l hl => ?_⟩
  · rw [h.blk.cell, Nat.zero_add]
    simpa using hu
  · have hi : i < m := by rw [← hll]; exact (List.getElem?_eq_some_iff.1 hl).1
    rw [hget i hi] at hl
    cases hl
    obtain ⟨A, n, c, h1, _, h3⟩ := (hex i hi).choose_spec
    exact ⟨A, n, c, by simpa using h1, h3.1⟩
  · obtain ⟨i, hi, rfl⟩ := List.getElem_of_mem hl
    rw [hll] at hi
    have h1 := hget i hi
    have h2 := (List.getElem?_eq_some_iff.1 h1).2
    obtain ⟨A, n, c, _, h4, h5⟩ := (hex i hi).choose_spec
    rw [h2]
    exact ⟨by rw [h5.1.len Arc.cells_len (by decide)]; exact h4, h5.2⟩
end
theorem TpAt.noTwo {w : World} {B b n c i : Nat} {A : Option Addr} {zs : List Int} (h : TpAt w B b A n c zs i) : NoTwo w b := by
  intro j k x k' y h1 h2
  rw [h.blk.cell] at h1 h2
  match j with
  | 0 => simp at h1
  | 1 => simp at h2
  | j + 2 => simp at h1

theorem infoRow : (Try.prog.info? 24).map (fun i => (i.zero, i.size, i.bytes)) = some (some (.slice none 0 0), 1, 24) := by kernel_rfl
theorem made_rows (m : Nat) : madeCells (Value.slice none 0 0).cells m = (List.replicate m (Value.slice none 0 0)).toArray := by
  apply Array.ext_getElem?
  intro i
  by_cases hi : i < m
  · simp [madeCells, Value.cells, hi]
    rw [Nat.mod_one]
    rfl
  · rw [Array.getElem?_eq_none (by rw [size_madeCells]; omega), Array.getElem?_eq_none (by simp; omega)]

/-- what a drawn system is: valid -/
def GenPostV (w : World) (B b : Nat) (A : Option Addr) (n c i : Nat) (zs : List Int) (d m bd : Nat) (e : Ending) (w' : World) : Prop :=
  (∃ A' n' c' ls, e = .returned (lts A' n' c') ∧ RdL w' w'.heap.size A' n' ls ∧ n' ≤ c' ∧ n' ≤ m ∧ 1 ≤ n' ∧ ∀ l ∈ ls, l.length ≤ bd ∧ GoodR n' l) ∧ (∃ j, j ≤ i + d ∧ TpAt w' B b A n c zs j) ∧ Outside (fun k => k = b) w w'
/-- what a drawn system is -/
def GenPost (w : World) (B b : Nat) (A : Option Addr) (n c i : Nat) (zs : List Int) (d m bd : Nat) (e : Ending) (w' : World) : Prop :=
  (∃ A' n' c' ls, e = .returned (lts A' n' c') ∧ RdL w' w'.heap.size A' n' ls ∧ n' ≤ c' ∧ n' ≤ m ∧ ∀ l ∈ ls, l.length ≤ bd) ∧ (∃ j, j ≤ i + d ∧ TpAt w' B b A n c zs j) ∧ Outside (fun k => k = b) w w'

end Go.Proofs.Ytmciinikfjfegaa
