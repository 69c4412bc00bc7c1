/- readers of packed bytes: the program's Zigzag -/
import Derived.Test.YtonpdclccgpceaaRwD
namespace Go.Proofs.Ytonpdclccgpceaa
open Go Go.RowKit
set_option maxHeartbeats 4000000

/-- what Zigzag gives -/
def ZzPost (w : World) (B g : Nat) (A : Option Addr) (n c : Nat) (l : List Nat) (p : Nat) (bad : Bool) (most : Nat) (e : Ending) (w' : World) : Prop :=
  ∃ (v : Int) (p' : Nat) (bad' : Bool), e = .returned (.int .i64 v) ∧ -(most : Int) ≤ v ∧ v ≤ most ∧ RdrAt w' B g A n c l p' bad' ∧ Outside (fun k => k = g) w w' ∧ p ≤ p' ∧ (bad = true → bad' = true) ∧
    (∀ (k : Int) rest, bad = false → l.drop p = zz k ++ rest → -(most : Int) ≤ k → k ≤ most → v = k ∧ p' = p + (zz k).length ∧ bad' = false)
set_option maxRecDepth 100000 in
theorem rzz_any (B g : Nat) (A : Option Addr) (n c p : Nat) (l : List Nat) (bad : Bool) (most : Nat) (w : World) (h : RdrAt w B g A n c l p bad) (hn : n ≤ 1000000000) (hm : most ≤ 100000000) :
    Calls Try.prog 71 #[.pointer (some ⟨g, 0, none⟩), .int .i64 most] w (ZzPost w B g A n c l p bad most) := by
  have H := Lib.hid h
  clear h
  go_enter Try.func71, Try.ntmps71
  go_wp2_with fail
  refine (ruv_any B g A n c p l bad (2 * most) w H.out hn (by omega)).mono ?_
  rintro e w1 ⟨v, p1, b1, rfl, hv, hR1, hO1, hp1, hb1, _, hex⟩
  have HR := Lib.hid hR1
  have HO := Lib.hid hO1
  have HB := Lib.hid hb1
  have HEX := Lib.hid (show ∀ (k : Int) rest, bad = false → l.drop p = zz k ++ rest → -(most : Int) ≤ k → k ≤ most → (k < 0 ∧ (v : Int) = -2 * k - 1 ∨ 0 ≤ k ∧ (v : Int) = 2 * k) ∧ p1 = p + (zz k).length ∧ b1 = false from fun k rest h0 h1 h2 h3 => by
    unfold zz at h1 ⊢
    by_cases hk : k < 0
    · rw [if_pos hk] at h1 ⊢
      obtain ⟨e1, e2, e3⟩ := hex _ rest h0 h1 (by omega)
      exact ⟨.inl ⟨hk, by omega⟩, e2, e3⟩
    · rw [if_neg hk] at h1 ⊢
      obtain ⟨e1, e2, e3⟩ := hex _ rest h0 h1 (by omega)
      exact ⟨.inr ⟨by omega, by omega⟩, e2, e3⟩)
  clear hR1 hO1 hb1 hex
  rcases (by omega : v % 2 = 1 ∨ v % 2 = 0) with h2 | h2
  · obtain ⟨u, rfl⟩ : ∃ u, v = 2 * u + 1 := ⟨v / 2, by omega⟩
    clear h2
    have hV : wrap64 (-(2 * (u : Int) + 1 + 1).tdiv 2) = -((u : Int) + 1) := by
      rw [Int.tdiv_eq_ediv_of_nonneg (by omega)]
      unfold wrap64
      omega
    go_wp2_with fail
    all_goals (go_ret; exact ⟨-((u : Int) + 1), p1, b1, by go_num, by omega, by omega, HR.out, HO.out, hp1, HB.out, fun k rest h0 h1 h2 h3 => by
      obtain ⟨e1, e2, e3⟩ := HEX.out k rest h0 h1 h2 h3
      exact ⟨by omega, e2, e3⟩⟩)
  · obtain ⟨u, rfl⟩ : ∃ u, v = 2 * u := ⟨v / 2, by omega⟩
    clear h2
    go_wp2_with fail
    all_goals (go_ret; exact ⟨(u : Int), p1, b1, by go_num, by omega, by omega, HR.out, HO.out, hp1, HB.out, fun k rest h0 h1 h2 h3 => by
      obtain ⟨e1, e2, e3⟩ := HEX.out k rest h0 h1 h2 h3
      exact ⟨by omega, e2, e3⟩⟩)

end Go.Proofs.Ytonpdclccgpceaa
