/- rows of which some are read and some are one's own; the reference's Both -/
import Derived.Test.YtmciinikfjfegaaRwA
import Derived.Test.YtmciinikfjfegaaRwG3
import Derived.Test.YtmciinikfjfegaaSgN4
namespace Go.Proofs.Ytmciinikfjfegaa
open Go Go.RowKit
set_option maxHeartbeats 8000000

/-- an outer row of one's own, in a block from W on; its rows read below W0, or are one's own -/
structure RowsM (w : World) (W0 W : Nat) (v : Value) (k : Nat) (xs : List Value) (ls : List (List Arc)) : Prop where
  own : w.ownsRow 0 24 1 v k xs
  base : ∀ g, v.ownBlock = some g → W ≤ g
  len : ls.length = k
  rows : ∀ (j : Nat) (l : List Arc), ls[j]? = some l → ∃ u, xs[j]? = some u ∧ ((∃ (A : Option Addr) (n c : Nat), u = .slice A n c ∧ Rd w W0 2 A n (cellsOf Arc.cells l)) ∨ (w.ownsRow 0 23 2 u l.length (cellsOf Arc.cells l) ∧ ∀ g, u.ownBlock = some g → W ≤ g))
section
variable {w w' : World} {W0 W k : Nat} {v v' u : Value} {xs : List Value} {ls : List (List Arc)} {R : Nat → Prop}
theorem RowsM.out (h : RowsM w W0 W v k xs ls) (hO : Outside R w w') (hR : ∀ g, W ≤ g → g < w.heap.size → ¬ R g) (hb : Below W0 w w') : RowsM w' W0 W v k xs ls :=
  ⟨own_out h.own hO fun g hg => hR g (h.base g hg) (own_lt h.own hg), h.base, h.len, fun j l hl => by
    obtain ⟨u, h1, h2⟩ := h.rows j l hl
    refine ⟨u, h1, ?_⟩
    rcases h2 with ⟨A, n, c, e, h3⟩ | ⟨h2, h3⟩
    · exact .inl ⟨A, n, c, e, h3.below hb⟩
    · exact .inr ⟨own_out h2 hO fun g hg => hR g (h3 g hg) (own_lt h2 hg), h3⟩⟩
/-- one row more -/
theorem RowsM.snoc {l : List Arc} (h : RowsM w W0 W v k xs ls) (hown : w'.ownsRow 0 24 1 v' (k + 1) (xs ++ [u])) (hb : ∀ g, v'.ownBlock = some g → W ≤ g)
    (hO : Outside (fun k => v.ownBlock = some k) w w') (hB : Below W0 w w') (hu : w.ownsRow 0 23 2 u l.length (cellsOf Arc.cells l)) (hu2 : ∀ g, u.ownBlock = some g → W ≤ g) : RowsM w' W0 W v' (k + 1) (xs ++ [u]) (ls ++ [l]) := by
  have hk : ∀ (u' : Value) (l' : List Arc), w.ownsRow 0 23 2 u' l'.length (cellsOf Arc.cells l') → w'.ownsRow 0 23 2 u' l'.length (cellsOf Arc.cells l') := fun u' l' h1 =>
    own_out h1 hO fun g hg e => own_apart_own h1 h.own (by decide) hg e
  have hx : xs.length = k := by have := h.own.1; omega
  refine ⟨hown, hb, by rw [List.length_append, h.len]; rfl, fun j l' hl => ?_⟩
  by_cases hj : j < ls.length
  · rw [List.getElem?_append_left hj] at hl
    obtain ⟨u', h1, h2⟩ := h.rows j l' hl
    refine ⟨u', by rw [List.getElem?_append_left (by rw [hx, ← h.len]; exact hj)]; exact h1, ?_⟩
    rcases h2 with ⟨A, n, c, e, h3⟩ | ⟨h2, h3⟩
    · exact .inl ⟨A, n, c, e, h3.below hB⟩
    · exact .inr ⟨hk _ _ h2, h3⟩
  · have hjk : j = k := by
      have := (List.getElem?_eq_some_iff.1 hl).1
      rw [List.length_append, h.len, List.length_singleton] at this
      rw [h.len] at hj
      omega
    subst hjk
    rw [List.getElem?_append_right (by rw [h.len]; exact Nat.le_refl _), h.len, Nat.sub_self] at hl
    cases hl
    refine ⟨u, ?_, .inr ⟨hk _ _ hu, hu2⟩⟩
    rw [List.getElem?_append_right (by rw [hx]; exact Nat.le_refl _), hx, Nat.sub_self]
    rfl
theorem RowsM.whole {A : Option Addr} {c : Nat} (h : RowsM w W0 W (.slice A k c) k xs ls) (hW : W0 ≤ w.heap.size) : RdL w w.heap.size A k ls := by
  refine ⟨xs, Rd.ofOwn h.own, h.len, fun j l hl => ?_⟩
  obtain ⟨u, h1, h2⟩ := h.rows j l hl
  rcases h2 with ⟨A', n', c', rfl, h3⟩ | ⟨h2, _⟩
  · exact ⟨A', n', c', h1, h3.more hW⟩
  · obtain ⟨A', c', rfl, _, _⟩ := own_form h2
    exact ⟨A', l.length, c', h1, Rd.ofOwn h2⟩
end

/-- the row moved by n states -/
def mvd (m : Nat) (l : List Arc) : List Arc := l.map fun x => ⟨x.ev, x.to + (m : Int)⟩
theorem both_mvd (a b : List (List Arc)) : bothL a b = a ++ b.map (mvd a.length) := rfl
theorem mvd_take {m k : Nat} {l : List Arc} {x : Arc} (h : l[k]? = some x) : mvd m (l.take (k + 1)) = mvd m (l.take k) ++ [⟨x.ev, x.to + (m : Int)⟩] := by
  rw [mvd, mvd, List.take_add_one, h, List.map_append]
  rfl
theorem mvd_len (m : Nat) (l : List Arc) : (mvd m l).length = l.length := by simp [mvd]

end Go.Proofs.Ytmciinikfjfegaa
