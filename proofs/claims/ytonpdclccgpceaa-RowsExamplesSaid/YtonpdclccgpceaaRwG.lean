/- systems that are drawn: rows in an outer row; LTS -/
import Derived.Test.YtonpdclccgpceaaRwGv
import Derived.OwnWalk
namespace Go.Proofs.Ytonpdclccgpceaa
open Go Go.RowKit
set_option maxHeartbeats 4000000

/-- no arc can lie in block g -/
def NoTwo (w : World) (g : Nat) : Prop := ∀ j k x k' y, w.cell? ⟨g, j, none⟩ = some (.int k x) → ¬ w.cell? ⟨g, j + 1, none⟩ = some (.int k' y)
theorem Rd.arcOut {w w' : World} {B n g : Nat} {A : Option Addr} {l : List Arc} (h : Rd w B 2 A n (cellsOf Arc.cells l)) (hN : NoTwo w g) (hO : Outside (fun k => k = g) w w') (_hB : B ≤ w.heap.size) : Rd w' B 2 A n (cellsOf Arc.cells l) := by
  refine ⟨h.1, fun h0 => ?_⟩
  obtain ⟨b, o, e, hb, hc⟩ := h.2 h0
  refine ⟨b, o, e, hb, fun j u hu => ?_⟩
  have hne : b ≠ g := by
    rintro rfl
    obtain ⟨b2, o2, t, e2, _, _, c0, c1⟩ := h.arc h0
    rw [e] at e2
    obtain ⟨rfl, rfl⟩ : b = b2 ∧ o = o2 := by simpa using e2
    exact hN _ _ _ _ _ c0 c1
  exact (hO.cell (p := ⟨b, o + j, none⟩) (hc j u hu) hne)

/-- an outer row of rows -/
structure RowsAt (w : World) (g : Nat) (cs : Array Value) (m bd : Nat) : Prop where
  blk : Blk w g 49 cs
  size : cs.size = m
  rows : ∀ (j : Nat) (v : Value), cs[j]? = some v → ∃ (A : Option Addr) (n c : Nat) (l : List Arc), v = .slice A n c ∧ n ≤ c ∧ n ≤ bd ∧ Rd w w.heap.size 2 A n (cellsOf Arc.cells l) ∧ GoodR m l
section
variable {w w' : World} {g m bd : Nat} {cs : Array Value}
theorem RowsAt.noTwo (h : RowsAt w g cs m bd) : NoTwo w g := by
  intro j k x k' y h1 _
  rw [h.blk.cell] at h1
  obtain ⟨A, n, c, l, e, _⟩ := h.rows j _ h1
  cases e
theorem RowsAt.below (h : RowsAt w g cs m bd) (hb : Below w.heap.size w w') : RowsAt w' g cs m bd :=
  ⟨h.blk.below hb h.blk.lt, h.size, fun j v hv => by
    obtain ⟨A, n, c, l, e, h1, h2, h3⟩ := h.rows j v hv
    exact ⟨A, n, c, l, e, h1, h2, (h3.1.below hb).more hb.size, h3.2⟩⟩
theorem RowsAt.out (h : RowsAt w g cs m bd) {t : Nat} (hN : NoTwo w t) (ht : g ≠ t) (hO : Outside (fun k => k = t) w w') : RowsAt w' g cs m bd :=
  ⟨h.blk.out hO ht, h.size, fun j v hv => by
    obtain ⟨A, n, c, l, e, h1, h2, h3⟩ := h.rows j v hv
    exact ⟨A, n, c, l, e, h1, h2, (h3.1.arcOut hN hO (Nat.le_refl _)).more hO.size, h3.2⟩⟩
theorem RowsAt.put (h : RowsAt w g cs m bd) {i n c : Nat} {A : Option Addr} {l : List Arc} (hnc : n ≤ c) (hbd : n ≤ bd) (hR : Rd w w.heap.size 2 A n (cellsOf Arc.cells l)) (hg : GoodR m l) : RowsAt (w.setCell ⟨g, i, none⟩ (.slice A n c)) g (cs.setIfInBounds i (.slice A n c)) m bd := by
  have hO : Outside (fun k => k = g) w (w.setCell ⟨g, i, none⟩ (.slice A n c)) := (Outside.refl (fun k => k = g) w).setCell (p := ⟨g, i, none⟩) (.inl rfl) _
  refine ⟨h.blk.put i _, by simpa using h.size, fun j v hv => ?_⟩
  rw [Array.getElem?_setIfInBounds] at hv
  split at hv
  · split at hv
    · cases hv
      exact ⟨A, n, c, l, rfl, hnc, hbd, (hR.arcOut h.noTwo hO (Nat.le_refl _)).more hO.size, hg⟩
    · cases hv
  · obtain ⟨A', n', c', l', e, h1, h2, h3⟩ := h.rows j v hv
    exact ⟨A', n', c', l', e, h1, h2, (h3.1.arcOut h.noTwo hO (Nat.le_refl _)).more hO.size, h3.2⟩
theorem RowsAt.mono (h : RowsAt w g cs m bd) {bd' : Nat} (hb : bd ≤ bd') : RowsAt w g cs m bd' :=
  ⟨h.blk, h.size, fun j v hv => by
    obtain ⟨A, n, c, l, e, h1, h2, h3⟩ := h.rows j v hv
    exact ⟨A, n, c, l, e, h1, by omega, h3⟩⟩
theorem RowsAt.get (h : RowsAt w g cs m bd) {i : Nat} (hi : i < m) : ∃ (A : Option Addr) (n c : Nat) (l : List Arc), w.cell? ⟨g, i, none⟩ = some (.slice A n c) ∧ n ≤ c ∧ n ≤ bd ∧ Rd w w.heap.size 2 A n (cellsOf Arc.cells l) ∧ GoodR m l := by
  have hs := h.size
  have hv : cs[i]? = some cs[i] := Array.getElem?_eq_getElem (by omega)
  obtain ⟨A, n, c, l, e, h1, h2, h3⟩ := h.rows i _ hv
  exact ⟨A, n, c, l, by rw [h.blk.cell, hv, e], h1, h2, h3⟩
theorem RowsAt.rdL (h : RowsAt w g cs m bd) : ∃ ls, RdL w w.heap.size (some ⟨g, 0, none⟩) m ls ∧ ∀ l ∈ ls, l.length ≤ bd ∧ GoodR m l := by
  have hs := h.size
  have hex : ∀ i, i < m → ∃ l : List Arc, ∃ (A : Option Addr) (n c : Nat), cs[i]? = some (.slice A n c) ∧ n ≤ bd ∧ Rd w w.heap.size 2 A n (cellsOf Arc.cells l) ∧ GoodR m l := fun i hi => by
    have hv : cs[i]? = some cs[i] := Array.getElem?_eq_getElem (by omega)
    obtain ⟨A, n, c, l, e, h1, h2, h3⟩ := h.rows i _ hv
    exact ⟨l, A, n, c, by rw [hv, e], h2, h3⟩
  let ls : List (List Arc) := (List.range m).pmap (fun i (h : i < m) => (hex i h).choose) (fun i h => List.mem_range.1 h)
  have hll : ls.length = m := by simp [ls]
  have hget : ∀ i (h : i < m), ls[i]? = some (hex i h).choose := fun i h => by simp [ls, h]
  refine ⟨ls, ⟨cs.toList, ⟨by simp [hs], fun _ => ⟨g, 0, rfl, h.blk.lt, fun j u hu => ?_⟩⟩, hll, fun i l hl => ?_⟩, fun l hl => ?_⟩
  · rw [h.blk.cell, Nat.zero_add]
    simpa using hu
  · have hi : i < m := by rw [← hll]; exact (List.getElem?_eq_some_iff.1 hl).1
    rw [hget i hi] at hl
    cases hl
    obtain ⟨A, n, c, h1, _, h3⟩ := (hex i hi).choose_spec
    exact ⟨A, n, c, by simpa using h1, h3.1⟩
  · obtain ⟨i, hi, rfl⟩ := List.getElem_of_mem hl
    rw [hll] at hi
    have h1 := hget i hi
    have h2 := (List.getElem?_eq_some_iff.1 h1).2
    obtain ⟨A, n, c, _, h4, h5⟩ := (hex i hi).choose_spec
    rw [h2]
    exact ⟨by rw [h5.1.len Arc.cells_len (by decide)]; exact h4, h5.2⟩
end
theorem TpAt.noTwo {w : World} {B b n c i : Nat} {A : Option Addr} {zs : List Int} (h : TpAt w B b A n c zs i) : NoTwo w b := by
  intro j k x k' y h1 h2
  rw [h.blk.cell] at h1 h2
  match j with
  | 0 => simp at h1
  | 1 => simp at h2
  | j + 2 => simp at h1

theorem infoRow : (Try.prog.info? 49).map (fun i => (i.zero, i.size, i.bytes)) = some (some (.slice none 0 0), 1, 24) := by kernel_rfl
theorem made_rows (m : Nat) : madeCells (Value.slice none 0 0).cells m = (List.replicate m (Value.slice none 0 0)).toArray := by
  apply Array.ext_getElem?
  intro i
  by_cases hi : i < m
  · simp [madeCells, Value.cells, hi]
    rw [Nat.mod_one]
    rfl
  · rw [Array.getElem?_eq_none (by rw [size_madeCells]; omega), Array.getElem?_eq_none (by simp; omega)]

/-- what a drawn system is: valid -/
def GenPostV (w : World) (B b : Nat) (A : Option Addr) (n c i : Nat) (zs : List Int) (d m bd : Nat) (e : Ending) (w' : World) : Prop :=
  (∃ A' n' c' ls, e = .returned (lts A' n' c') ∧ RdL w' w'.heap.size A' n' ls ∧ n' ≤ c' ∧ n' ≤ m ∧ 1 ≤ n' ∧ ∀ l ∈ ls, l.length ≤ bd ∧ GoodR n' l) ∧ (∃ j, j ≤ i + d ∧ TpAt w' B b A n c zs j) ∧ Outside (fun k => k = b) w w'
/-- what a drawn system is -/
def GenPost (w : World) (B b : Nat) (A : Option Addr) (n c i : Nat) (zs : List Int) (d m bd : Nat) (e : Ending) (w' : World) : Prop :=
  (∃ A' n' c' ls, e = .returned (lts A' n' c') ∧ RdL w' w'.heap.size A' n' ls ∧ n' ≤ c' ∧ n' ≤ m ∧ ∀ l ∈ ls, l.length ≤ bd) ∧ (∃ j, j ≤ i + d ∧ TpAt w' B b A n c zs j) ∧ Outside (fun k => k = b) w w'

end Go.Proofs.Ytonpdclccgpceaa
