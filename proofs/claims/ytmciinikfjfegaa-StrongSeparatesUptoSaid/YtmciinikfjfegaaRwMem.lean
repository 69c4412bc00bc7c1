/- words for memory that the walks over transition systems share: arcs, rows, systems, bytes; plain words for transition systems: loose, valid, packed -/
import Derived.Test.YtmciinikfjfegaaMem
namespace Go.Proofs.Ytmciinikfjfegaa
open Go Go.RowKit

structure Arc where
  ev : Int
  to : Int
deriving DecidableEq
instance : Inhabited Arc := ⟨⟨0, 0⟩⟩
def Arc.cells (a : Arc) : List Value := [.int .i64 a.ev, .int .i64 a.to]
abbrev Arc.v (a : Arc) : Value := .agg #[.int .i64 a.ev, .int .i64 a.to]
theorem Arc.cells_len (a : Arc) : a.cells.length = 2 := rfl
def ucell (b : Nat) : List Value := [.int .u8 b]
theorem ucell_len (b : Nat) : (ucell b).length = 1 := rfl
theorem Rd.arc {w : World} {B n : Nat} {A : Option Addr} {l : List Arc} (h : Rd w B 2 A n (cellsOf Arc.cells l)) {i : Nat} (hi : i < n) :
    ∃ b off t, A = some ⟨b, off, none⟩ ∧ b < B ∧ l[i]? = some t ∧ w.cell? ⟨b, off + i * 2, none⟩ = some (.int .i64 t.ev) ∧ w.cell? ⟨b, off + i * 2 + 1, none⟩ = some (.int .i64 t.to) := by
  obtain ⟨b, off, t, e, hb, hl, hc⟩ := h.at_ Arc.cells_len (by decide) hi
  exact ⟨b, off, t, e, hb, hl, hc 0 _ rfl, hc 1 _ rfl⟩
theorem Rd.ubyte {w : World} {B n : Nat} {A : Option Addr} {l : List Nat} (h : Rd w B 1 A n (cellsOf ucell l)) {i : Nat} (hi : i < n) :
    ∃ b off t, A = some ⟨b, off, none⟩ ∧ b < B ∧ l[i]? = some t ∧ w.cell? ⟨b, off + i, none⟩ = some (.int .u8 t) := by
  obtain ⟨b, off, t, e, hb, hl, hc⟩ := h.at_ ucell_len (by decide) hi
  refine ⟨b, off, t, e, hb, hl, ?_⟩
  have := hc 0 _ rfl
  simpa using this

/-- The slice reads as the rows ls; all of it lies below block B. -/
def RdL (w : World) (B : Nat) (A : Option Addr) (n : Nat) (ls : List (List Arc)) : Prop :=
  ∃ vs : List Value, Rd w B 1 A n vs ∧ ls.length = n ∧ ∀ (i : Nat) (l : List Arc), ls[i]? = some l → ∃ (A' : Option Addr) (n' c' : Nat), vs[i]? = some (Value.slice A' n' c') ∧ Rd w B 2 A' n' (cellsOf Arc.cells l)
section
variable {w w' : World} {B B' n : Nat} {A : Option Addr} {ls : List (List Arc)}
theorem RdL.keep (h : RdL w B A n ls) (hk : ∀ p : Addr, p.block < B → w'.cell? p = w.cell? p) : RdL w' B A n ls := by
  obtain ⟨vs, h1, h2, h3⟩ := h
  refine ⟨vs, h1.keep hk, h2, fun i l hl => ?_⟩
  obtain ⟨A', n', c', h4, h5⟩ := h3 i l hl
  exact ⟨A', n', c', h4, h5.keep hk⟩
theorem RdL.below (h : RdL w B A n ls) (hb : Below B w w') : RdL w' B A n ls := h.keep fun _ hp => hb.cell hp
theorem RdL.drewN (h : RdL w B A n ls) (m : Nat) : RdL (w.drewN m) B A n ls := h.keep fun _ _ => rfl
theorem RdL.alloc (h : RdL w B A n ls) (hB : B ≤ w.heap.size) (o : Obj) : RdL (w.alloc o) B A n ls := h.keep fun p hp => World.cell?_alloc_lt w o p (by omega)
theorem RdL.more (h : RdL w B A n ls) (hB : B ≤ B') : RdL w B' A n ls := by
  obtain ⟨vs, h1, h2, h3⟩ := h
  refine ⟨vs, h1.more hB, h2, fun i l hl => ?_⟩
  obtain ⟨A', n', c', h4, h5⟩ := h3 i l hl
  exact ⟨A', n', c', h4, h5.more hB⟩
theorem RdL.len (h : RdL w B A n ls) : ls.length = n := by
  obtain ⟨_, _, h2, _⟩ := h
  exact h2
theorem RdL.row (h : RdL w B A n ls) {i : Nat} (hi : i < n) :
    ∃ b off l A' n' c', A = some ⟨b, off, none⟩ ∧ b < B ∧ ls[i]? = some l ∧ l.length = n' ∧ w.cell? ⟨b, off + i, none⟩ = some (.slice A' n' c') ∧ Rd w B 2 A' n' (cellsOf Arc.cells l) := by
  obtain ⟨vs, h1, h2, h3⟩ := h
  obtain ⟨b, off, e, hb, hc⟩ := h1.2 (by omega)
  have hl : ls[i]? = some (ls[i]'(by omega)) := List.getElem?_eq_getElem (by omega)
  obtain ⟨A', n', c', h4, h5⟩ := h3 i _ hl
  exact ⟨b, off, _, A', n', c', e, hb, hl, h5.len Arc.cells_len (by decide), hc i _ h4, h5⟩
theorem RdL.nil : RdL w B A 0 [] := ⟨[], Rd.nil, rfl, fun i l hl => by simp at hl⟩
end

end Go.Proofs.Ytmciinikfjfegaa
namespace Go.Proofs.Ytmciinikfjfegaa
open Go Go.RowKit

def okA (n : Nat) (a : Arc) : Bool := decide (0 ≤ a.ev ∧ a.ev ≤ 1025) && decide (0 ≤ a.to ∧ a.to < n)
def lessB (a b : Arc) : Bool := decide (a.ev < b.ev ∨ a.ev = b.ev ∧ a.to < b.to)
def ascB : List Arc → Bool
  | [] => true
  | [_] => true
  | a :: b :: r => lessB a b && ascB (b :: r)
def total (ls : List (List Arc)) : Nat := (ls.map List.length).sum
def looseB (ls : List (List Arc)) : Bool := decide (1 ≤ ls.length ∧ ls.length ≤ 16384) && decide (total ls ≤ 262144) && ls.all fun l => l.all (okA ls.length)
def validB (ls : List (List Arc)) : Bool := looseB ls && ls.all ascB

/-- a number, seven bits a byte -/
def uv (n : Nat) : List Nat := if n < 128 then [n] else (n % 128 + 128) :: uv (n / 128)
termination_by n
decreasing_by omega
theorem uv_small {n : Nat} (h : n < 128) : uv n = [n] := by rw [uv, if_pos h]
theorem uv_big {n : Nat} (h : ¬ n < 128) : uv n = (n % 128 + 128) :: uv (n / 128) := by rw [uv, if_neg h]
theorem uv_len (k n : Nat) (h : n < 128 ^ (k + 1)) : (uv n).length ≤ k + 1 := by
  induction k generalizing n with
  | zero => rw [uv_small (by simpa using h)]; simp
  | succ k ih =>
    by_cases h1 : n < 128
    · rw [uv_small h1]; simp
    · rw [uv_big h1, List.length_cons]
      have := ih (n / 128) (by rw [Nat.div_lt_iff_lt_mul (by decide)]; rw [Nat.pow_succ] at h; exact h)
      omega
theorem uv_byte : ∀ (n : Nat), ∀ b ∈ uv n, b < 256 := by
  intro n
  induction n using Nat.strongRecOn with
  | ind n ih =>
    by_cases h : n < 128
    · rw [uv_small h]
      intro b hb
      simp at hb
      omega
    · rw [uv_big h]
      intro b hb
      rcases List.mem_cons.1 hb with rfl | hb
      · omega
      · exact ih (n / 128) (by omega) b hb
/-- a number with a sign -/
def zz (k : Int) : List Nat := if k < 0 then uv (-2 * k - 1).toNat else uv (2 * k).toNat

/-- the arcs of a row behind its length; 'p': the arc before -/
def rowB (s : Int) : Option Arc → List Arc → List Nat
  | _, [] => []
  | none, a :: r => uv a.ev.toNat ++ zz (a.to - s) ++ rowB s (some a) r
  | some p, a :: r => (if a.ev = p.ev then uv 0 ++ uv (a.to - p.to - 1).toNat else uv (a.ev - p.ev).toNat ++ zz (a.to - s)) ++ rowB s (some a) r
def rowF (s : Int) (l : List Arc) : List Nat := uv l.length ++ rowB s none l
def rowsOf (ls : List (List Arc)) : List (List Nat) := ls.mapIdx fun s l => rowF s l
/-- the bytes of a group's rows -/
def gsz (ls : List (List Arc)) (g : Nat) : Nat := (((rowsOf ls).drop (16 * g)).take 16).flatten.length
def headB (ls : List (List Arc)) : List Nat := [67, 82] ++ uv ls.length ++ uv (total ls)
def sizesB (ls : List (List Arc)) (m : Nat) : List Nat := ((List.range m).map fun g => uv (gsz ls g)).flatten
def bodyB (ls : List (List Arc)) : List Nat := headB ls ++ sizesB ls ((ls.length + 15) / 16) ++ (rowsOf ls).flatten

end Go.Proofs.Ytmciinikfjfegaa
