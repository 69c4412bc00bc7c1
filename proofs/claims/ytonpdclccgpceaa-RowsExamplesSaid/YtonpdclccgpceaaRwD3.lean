/- rows are read: plain laws -/
import Derived.Test.YtonpdclccgpceaaRwD2
import Derived.Test.YtonpdclccgpceaaRwR
namespace Go.Proofs.Ytonpdclccgpceaa
open Go Go.RowKit
set_option maxHeartbeats 4000000

theorem drop_app {l a t : List Nat} {p : Nat} (h : l.drop p = a ++ t) : l.drop (p + a.length) = t := by
  rw [← List.drop_drop, h]
  simp
def prevA (r : List Arc) (k : Nat) : Option Arc := if k = 0 then none else r[k - 1]?
/-- the bytes at p are the row r of state s, then the rest -/
structure RowG (bad : Bool) (l : List Nat) (p : Nat) (s : Int) (n : Nat) (r : List Arc) (rest : List Nat) : Prop where
  good : bad = false
  at_ : l.drop p = rowF s r ++ rest
  ok : ∀ a ∈ r, 0 ≤ a.ev ∧ a.ev ≤ 1025 ∧ 0 ≤ a.to ∧ a.to < n
  asc : ascB r = true
  few : r.length ≤ 262144
theorem row_step {s : Int} {n k q : Nat} {r : List Arc} {l rest : List Nat} {le lt : Int} (hk : k < r.length) (hok : ∀ a ∈ r, 0 ≤ a.ev ∧ a.ev ≤ 1025 ∧ 0 ≤ a.to ∧ a.to < n) (hasc : ascB r = true) (hs : 0 ≤ s ∧ s ≤ n)
    (h : l.drop q = rowB s (prevA r k) (r.drop k) ++ rest) (h0 : k = 0 → le = 0) (h1 : 0 < k → r[k - 1]? = some ⟨le, lt⟩) :
    ∃ (a : Arc) (st : Nat) (body : List Nat), r[k]? = some a ∧ l.drop q = uv st ++ (body ++ (rowB s (prevA r (k + 1)) (r.drop (k + 1)) ++ rest)) ∧ (st : Int) = a.ev - le ∧ st ≤ 1025 ∧
      (rowB s (prevA r k) (r.drop k)).length = (uv st).length + body.length + (rowB s (prevA r (k + 1)) (r.drop (k + 1))).length ∧
      (0 < k → st = 0 → ∃ d : Nat, body = uv d ∧ a.to = lt + 1 + d ∧ d ≤ n) ∧ (k = 0 ∨ 0 < st → body = zz (a.to - s) ∧ -(n : Int) ≤ a.to - s ∧ a.to - s ≤ n) := by
  have hg : r[k]? = some r[k] := List.getElem?_eq_getElem hk
  obtain ⟨a, ha⟩ : ∃ a, r[k] = a := ⟨_, rfl⟩
  rw [ha] at hg
  obtain ⟨k1, k2, k3, k4⟩ := hok a (List.mem_of_getElem? hg)
  have hd : r.drop k = a :: r.drop (k + 1) := by rw [List.drop_eq_getElem_cons hk, ha]
  have hp : prevA r (k + 1) = some a := by simp only [prevA, Nat.succ_ne_zero, if_false, Nat.add_sub_cancel]; exact hg
  rw [hd, rowB_cons] at h ⊢
  rw [hp]
  by_cases hz : k = 0
  · have e0 : prevA r k = none := by rw [prevA, if_pos hz]
    have e1 := h0 hz
    subst e1
    rw [e0] at h ⊢
    refine ⟨a, a.ev.toNat, zz (a.to - s), hg, ?_, by omega, by omega, ?_, fun h => by omega, fun _ => ⟨rfl, by omega, by omega⟩⟩
    · rw [h, oneB]; simp only [List.append_assoc]
    · rw [oneB]; simp only [List.length_append]
  · have hq := h1 (by omega)
    obtain ⟨j1, j2, j3, j4⟩ := hok _ (List.mem_of_getElem? hq)
    dsimp only at j1 j2 j3 j4
    have hl := asc_at hasc (by omega) hq hg
    dsimp only at hl
    have e0 : prevA r k = some ⟨le, lt⟩ := by rw [prevA, if_neg hz]; exact hq
    rw [e0] at h ⊢
    by_cases he : a.ev = le
    · rw [oneB, if_pos he] at h ⊢
      refine ⟨a, 0, uv (a.to - lt - 1).toNat, hg, ?_, by omega, by omega, ?_, fun _ _ => ⟨_, rfl, by omega, by omega⟩, fun h => by omega⟩
      · rw [h]; simp only [List.append_assoc]
      · simp only [List.length_append]
    · rw [oneB, if_neg he] at h ⊢
      refine ⟨a, (a.ev - le).toNat, zz (a.to - s), hg, ?_, by omega, by omega, ?_, fun _ h => by omega, fun _ => ⟨rfl, by omega, by omega⟩⟩
      · rw [h]; simp only [List.append_assoc]
      · simp only [List.length_append]
/-- the first number of a row -/
theorem row_first {bad : Bool} {l rest : List Nat} {p n : Nat} {s : Int} {r : List Arc} (h : RowG bad l p s n r rest) : l.drop p = uv r.length ++ (rowB s (prevA r 0) (r.drop 0) ++ rest) := by
  rw [h.at_, rowF]
  simp [prevA, List.append_assoc]

end Go.Proofs.Ytonpdclccgpceaa
