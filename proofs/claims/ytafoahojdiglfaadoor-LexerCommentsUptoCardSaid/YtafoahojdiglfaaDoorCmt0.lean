/- LexerComments: what the scanner makes of its texts -/
import Derived.Test.YtafoahojdiglfaaDoorTi2
namespace Go.Proofs.YtafoahojdiglfaaDoor
open Go Go.RowKit

def cmO : List UInt8 := [123, 45, 32, 97, 32]
def cmC : List UInt8 := [45, 125, 32]
def cmA (a : Nat) : List UInt8 := (List.replicate a cmO).flatten
def cmT (a b : Nat) : List UInt8 := cmA a ++ (List.replicate b cmC).flatten
def cmOk (a b : Nat) : Bool :=
  match scanS (cmT a b ++ [98]) with
  | (l, p, e) => if b < a then decide (e = 2) && decide (p = ⟨1, 1⟩) && decide (l = []) else if a < b then true else decide (e = 0) && decide (l.map (fun t => t.str) = [⟨#[98]⟩])
set_option maxRecDepth 1000000 in
theorem cm_all : ∀ a < 20, ∀ b < 20, cmOk (a + 1) b = true := by decide +kernel
attribute [local irreducible] kwB syB clB

theorem cmA_len (a : Nat) : (cmA a).length = 5 * a := by simp [cmA, cmO, List.length_flatten]; omega
theorem cmT_len (a b : Nat) : (cmT a b).length = 5 * a + 3 * b := by simp [cmT, cmA_len, cmC, List.length_flatten]; omega
theorem cmA_succ (a : Nat) : cmA (a + 1) = cmA a ++ cmO := by simp [cmA, List.replicate_succ']
theorem cmT_succ (a b : Nat) : cmT a (b + 1) = cmT a b ++ cmC := by simp [cmT, List.replicate_succ']
theorem cmT_zero (a : Nat) : cmT a 0 = cmA a := by simp [cmT]


end Go.Proofs.YtafoahojdiglfaaDoor
