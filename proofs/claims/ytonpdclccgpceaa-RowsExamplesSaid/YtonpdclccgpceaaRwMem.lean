/- words for memory that the walks over transition systems share: arcs, rows, systems, bytes -/
import Derived.Test.YtonpdclccgpceaaMem
namespace Go.Proofs.Ytonpdclccgpceaa
open Go Go.RowKit

structure Arc where
  ev : Int
  to : Int
deriving DecidableEq
instance : Inhabited Arc := ⟨⟨0, 0⟩⟩
def Arc.cells (a : Arc) : List Value := [.int .i64 a.ev, .int .i64 a.to]
abbrev Arc.v (a : Arc) : Value := .agg #[.int .i64 a.ev, .int .i64 a.to]
theorem Arc.cells_len (a : Arc) : a.cells.length = 2 := rfl
def ucell (b : Nat) : List Value := [.int .u8 b]
theorem ucell_len (b : Nat) : (ucell b).length = 1 := rfl
theorem Rd.arc {w : World} {B n : Nat} {A : Option Addr} {l : List Arc} (h : Rd w B 2 A n (cellsOf Arc.cells l)) {i : Nat} (hi : i < n) :
    ∃ b off t, A = some ⟨b, off, none⟩ ∧ b < B ∧ l[i]? = some t ∧ w.cell? ⟨b, off + i * 2, none⟩ = some (.int .i64 t.ev) ∧ w.cell? ⟨b, off + i * 2 + 1, none⟩ = some (.int .i64 t.to) := by
  obtain ⟨b, off, t, e, hb, hl, hc⟩ := h.at_ Arc.cells_len (by decide) hi
  exact ⟨b, off, t, e, hb, hl, hc 0 _ rfl, hc 1 _ rfl⟩
theorem Rd.ubyte {w : World} {B n : Nat} {A : Option Addr} {l : List Nat} (h : Rd w B 1 A n (cellsOf ucell l)) {i : Nat} (hi : i < n) :
    ∃ b off t, A = some ⟨b, off, none⟩ ∧ b < B ∧ l[i]? = some t ∧ w.cell? ⟨b, off + i, none⟩ = some (.int .u8 t) := by
  obtain ⟨b, off, t, e, hb, hl, hc⟩ := h.at_ ucell_len (by decide) hi
  refine ⟨b, off, t, e, hb, hl, ?_⟩
  have := hc 0 _ rfl
  simpa using this

/-- The slice reads as the rows ls; all of it lies below block B. -/
def RdL (w : World) (B : Nat) (A : Option Addr) (n : Nat) (ls : List (List Arc)) : Prop :=
  ∃ vs : List Value, Rd w B 1 A n vs ∧ ls.length = n ∧ ∀ (i : Nat) (l : List Arc), ls[i]? = some l → ∃ (A' : Option Addr) (n' c' : Nat), vs[i]? = some (Value.slice A' n' c') ∧ Rd w B 2 A' n' (cellsOf Arc.cells l)
section
variable {w w' : World} {B B' n : Nat} {A : Option Addr} {ls : List (List Arc)}
theorem RdL.keep (h : RdL w B A n ls) (hk : ∀ p : Addr, p.block < B → w'.cell? p = w.cell? p) : RdL w' B A n ls := by
  obtain ⟨vs, h1, h2, h3⟩ := h
  refine ⟨vs, h1.keep hk, h2, fun i l hl => ?_⟩
  obtain ⟨A', n', c', h4, h5⟩ := h3 i l hl
  exact ⟨A', n', c', h4, h5.keep hk⟩
theorem RdL.below (h : RdL w B A n ls) (hb : Below B w w') : RdL w' B A n ls := h.keep fun _ hp => hb.cell hp
theorem RdL.drewN (h : RdL w B A n ls) (m : Nat) : RdL (w.drewN m) B A n ls := h.keep fun _ _ => rfl
theorem RdL.alloc (h : RdL w B A n ls) (hB : B ≤ w.heap.size) (o : Obj) : RdL (w.alloc o) B A n ls := h.keep fun p hp => World.cell?_alloc_lt w o p (by omega)
theorem RdL.more (h : RdL w B A n ls) (hB : B ≤ B') : RdL w B' A n ls := by
  obtain ⟨vs, h1, h2, h3⟩ := h
  refine ⟨vs, h1.more hB, h2, fun i l hl => ?_⟩
  obtain ⟨A', n', c', h4, h5⟩ := h3 i l hl
  exact ⟨A', n', c', h4, h5.more hB⟩
theorem RdL.len (h : RdL w B A n ls) : ls.length = n := by
  obtain ⟨_, _, h2, _⟩ := h
  exact h2
theorem RdL.row (h : RdL w B A n ls) {i : Nat} (hi : i < n) :
    ∃ b off l A' n' c', A = some ⟨b, off, none⟩ ∧ b < B ∧ ls[i]? = some l ∧ l.length = n' ∧ w.cell? ⟨b, off + i, none⟩ = some (.slice A' n' c') ∧ Rd w B 2 A' n' (cellsOf Arc.cells l) := by
  obtain ⟨vs, h1, h2, h3⟩ := h
  obtain ⟨b, off, e, hb, hc⟩ := h1.2 (by omega)
  have hl : ls[i]? = some (ls[i]'(by omega)) := List.getElem?_eq_getElem (by omega)
  obtain ⟨A', n', c', h4, h5⟩ := h3 i _ hl
  exact ⟨b, off, _, A', n', c', e, hb, hl, h5.len Arc.cells_len (by decide), hc i _ h4, h5⟩
theorem RdL.nil : RdL w B A 0 [] := ⟨[], Rd.nil, rfl, fun i l hl => by simp at hl⟩
end

end Go.Proofs.Ytonpdclccgpceaa
