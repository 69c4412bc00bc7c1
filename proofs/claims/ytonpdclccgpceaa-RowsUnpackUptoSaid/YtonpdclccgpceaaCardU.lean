/- arguments that are bytes -/
import Derived.Test.YtonpdclccgpceaaCardR
namespace Go.Proofs.Ytonpdclccgpceaa
open Go Go.RowKit Go.ChangeShapes Go.WideShapes Go.ChangeAt

theorem dec_u8 {H : Type} {enc : TypeId × Value → H} {w : World} {base : Nat} {spare : Nat → Bool} {held : Bool} (n : Nat) (cs : List Value) (d : DataW H) (pl : List MemPlace) (h : DataW.trod enc Try.prog w base spare held n 5 cs = some (d, pl)) :
    ∃ y : Nat, cs = ucell y ∧ y < 256 := by
  obtain ⟨k, e0, e1, hw⟩ := DataW.trod_int Try.underlying5 h
  simp only [Prod.mk.injEq] at e1
  have h1 : 0 ≤ k ∧ k < 256 := by
    have h2 : (decide (IntKind.u8.min ≤ k) && decide (k ≤ IntKind.u8.max)) = true := hw
    rw [show IntKind.u8.min = 0 by decide, show IntKind.u8.max = 255 by decide] at h2
    simp at h2
    omega
  exact ⟨k.toNat, by rw [e0, ucell, Int.toNat_of_nonneg h1.1], by omega⟩
theorem cU8 : Try.prog.cellsOf 5 = 1 := by kernel_rfl

end Go.Proofs.Ytonpdclccgpceaa
