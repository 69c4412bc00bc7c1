/- plain words for transition systems: loose, valid, packed -/
import Derived.Test.YtonpdclccgpceaaRwMem
namespace Go.Proofs.Ytonpdclccgpceaa
open Go Go.RowKit

def okA (n : Nat) (a : Arc) : Bool := decide (0 ≤ a.ev ∧ a.ev ≤ 1025) && decide (0 ≤ a.to ∧ a.to < n)
def lessB (a b : Arc) : Bool := decide (a.ev < b.ev ∨ a.ev = b.ev ∧ a.to < b.to)
def ascB : List Arc → Bool
  | [] => true
  | [_] => true
  | a :: b :: r => lessB a b && ascB (b :: r)
def total (ls : List (List Arc)) : Nat := (ls.map List.length).sum
def looseB (ls : List (List Arc)) : Bool := decide (1 ≤ ls.length ∧ ls.length ≤ 16384) && decide (total ls ≤ 262144) && ls.all fun l => l.all (okA ls.length)
def validB (ls : List (List Arc)) : Bool := looseB ls && ls.all ascB

/-- a number, seven bits a byte -/
def uv (n : Nat) : List Nat := if n < 128 then [n] else (n % 128 + 128) :: uv (n / 128)
termination_by n
decreasing_by omega
theorem uv_small {n : Nat} (h : n < 128) : uv n = [n] := by rw [uv, if_pos h]
theorem uv_big {n : Nat} (h : ¬ n < 128) : uv n = (n % 128 + 128) :: uv (n / 128) := by rw [uv, if_neg h]
theorem uv_len (k n : Nat) (h : n < 128 ^ (k + 1)) : (uv n).length ≤ k + 1 := by
  induction k generalizing n with
  | zero => rw [uv_small (by simpa using h)]; simp
  | succ k ih =>
    by_cases h1 : n < 128
    · rw [uv_small h1]; simp
    · rw [uv_big h1, List.length_cons]
      have := ih (n / 128) (by rw [Nat.div_lt_iff_lt_mul (by decide)]; rw [Nat.pow_succ] at h; exact h)
      omega
theorem uv_byte : ∀ (n : Nat), ∀ b ∈ uv n, b < 256 := by
  intro n
  induction n using Nat.strongRecOn with
  | ind n ih =>
    by_cases h : n < 128
    · rw [uv_small h]
      intro b hb
      simp at hb
      omega
    · rw [uv_big h]
      intro b hb
      rcases List.mem_cons.1 hb with rfl | hb
      · omega
      · exact ih (n / 128) (by omega) b hb
/-- a number with a sign -/
def zz (k : Int) : List Nat := if k < 0 then uv (-2 * k - 1).toNat else uv (2 * k).toNat

/-- the arcs of a row behind its length; 'p': the arc before -/
def rowB (s : Int) : Option Arc → List Arc → List Nat
  | _, [] => []
  | none, a :: r => uv a.ev.toNat ++ zz (a.to - s) ++ rowB s (some a) r
  | some p, a :: r => (if a.ev = p.ev then uv 0 ++ uv (a.to - p.to - 1).toNat else uv (a.ev - p.ev).toNat ++ zz (a.to - s)) ++ rowB s (some a) r
def rowF (s : Int) (l : List Arc) : List Nat := uv l.length ++ rowB s none l
def rowsOf (ls : List (List Arc)) : List (List Nat) := ls.mapIdx fun s l => rowF s l
/-- the bytes of a group's rows -/
def gsz (ls : List (List Arc)) (g : Nat) : Nat := (((rowsOf ls).drop (16 * g)).take 16).flatten.length
def headB (ls : List (List Arc)) : List Nat := [67, 82] ++ uv ls.length ++ uv (total ls)
def sizesB (ls : List (List Arc)) (m : Nat) : List Nat := ((List.range m).map fun g => uv (gsz ls g)).flatten
def bodyB (ls : List (List Arc)) : List Nat := headB ls ++ sizesB ls ((ls.length + 15) / 16) ++ (rowsOf ls).flatten

end Go.Proofs.Ytonpdclccgpceaa
