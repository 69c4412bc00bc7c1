/- The evaluator enters a function in the middle: behind operations that a walk has carried out. No program stands in it. -/
import Derived.Test.YtlblaopkmigheaaGreatDoorEvH
namespace Go.Proofs.YtlblaopkmigheaaGreatDoor.Ev
open Go Go.RowKit

noncomputable section
variable {P : Program}

theorem GI.holds_below {i : GI} {W W' : World} (h : i.holds W) (hb : Below W.heap.size W W') : i.holds W' := by
  obtain ⟨g, d, n, z, l⟩ := i
  obtain ⟨b, off, cap, cs, cs', el, el', fr, fr', h1, h2, h3, h4, h5, h6⟩ := h
  have k1 : g < W.heap.size := by
    rcases Nat.lt_or_ge g W.heap.size with h | h
    · exact h
    · rw [Array.getElem?_eq_none h] at h1; cases h1
  have k4 : b < W.heap.size := by
    rcases Nat.lt_or_ge b W.heap.size with h | h
    · exact h
    · rw [Array.getElem?_eq_none h] at h4; cases h4
  exact ⟨b, off, cap, cs, cs', el, el', fr, fr', (hb.block g k1).trans h1, h2, h3, (hb.block b k4).trans h4, h5, h6⟩

/-- The end: result r is true. -/
def retT (r : Nat) : KF := fun e T h => EX.rec (motive := fun _ => Out) (.bad 97 2) (fun _ => .bad 97 3) (frK (slOf r) T fun v => finT v h) e

theorem ret_ok {N0 r n E : Nat} {G : List Nat} {ρ : Ren} {h : AH} {w : World} {Q : Exit → Act → World → Prop} (hQ : ∀ a' W', a'.defers = [] → a'.tmps.getD r undef = .bool true → Below N0 w W' → Q .ret a' W') : KS N0 G n E ρ h w (retT r) Q := by
  intro e T' h' a' w' ρ' h1 h2 h3
  cases e with
  | nrm => cases h1
  | ex id => cases h1
  | ret =>
    have h1 : frK (slOf r) T' (fun v => finT v h') = .ok := h1
    rw [frK_eq] at h1
    have h4 := h3.t r
    obtain ⟨b, e1, h1⟩ := AV.b_ok (show (T'.at r).on_b (.bad 97 0) (fun b => iff' b Out.ok (.bad 97 1)) = Out.ok from h1)
    obtain ⟨h5, _⟩ := iff_yes h1
    subst h5
    rw [e1] at h4
    refine hQ a' w' h3.d ?_ h2.below
    generalize a'.tmps.getD r undef = y at h4
    cases h4
    rfl
/-- Two pieces of code: a walk stands ahead of the first; what is known of what follows is that it comes behind. -/
theorem mid_ok (hmx : P.follows .mixedOrders = true) {I : List GI} {nx fuel n E r : Nat} {c1 c2 : Code} {T : Fr} {Tb : TbF} (hTb : TbOK P (globG I) Tb) (hn : nodB (rowsG I) = true) (hb : belowB (rowsG I) 64 = true) (hnx : Nat.ble 64 nx = true)
    (hcode : codeOk (.seq c1 c2) n E = true) (hrun : evC P (globG I) Tb (fuel + 1) E (.seq c1 c2) T (heapG I nx) (retT r) = .ok) (hel : ∀ d, bitB E d = true → T.at d = .u) {W : World} (hh : ∀ i ∈ I, i.holds W) {a : Act} (hd : a.defers = []) (hsz : n ≤ a.tmps.size)
    (hT : ∀ ρ t, VR ρ (T.at t) (a.tmps.getD t undef)) {Q Q1 : Exit → Act → World → Prop} (hQ : ∀ a' W', a'.defers = [] → a'.tmps.getD r undef = .bool true → Below W.heap.size W W' → Q .ret a' W')
    (h1 : ∀ a w, c2.wp P Q a w → Q1 .normal a w) (h2 : ∀ a w, Q .ret a w → Q1 .ret a w) : c1.wp P Q1 a W := by
  obtain ⟨ρ, hw, hgv⟩ := first_ok (W := W) hn hb hnx hh
  obtain ⟨o1, o2⟩ := two_ok (show iff' (codeOk c1 n E) (codeOk c2 n E) false = true from hcode)
  refine evC_ok (N0 := W.heap.size) hmx (hTb _) (fuel + 1) E c1 n T _ (thenK (evCode c2 P (globG I) Tb E (evC P (globG I) Tb fuel)) (retT r)) ρ a W Q1 o1 hrun hw ⟨hT ρ, hgv, hd, hsz, hel⟩ ?_
  intro e T' h' a' w' ρ' k1 k2 k3
  cases e with
  | nrm => exact h1 a' w' (evC_ok (N0 := W.heap.size) hmx (hTb _) (fuel + 1) E c2 n T' h' (retT r) ρ' a' w' Q o2 k1 k2.wr k3 (ret_ok fun a'' W'' e1 e2 e3 => hQ a'' W'' e1 e2 (k2.below.trans e3)))
  | ex id => cases k1
  | ret => exact h2 a' w' (ret_ok hQ .ret _ _ _ _ _ k1 k2 k3)
/-- A frame with two slots. -/
theorem at2 {s t : Nat} {x y : AV} (k : Nat) : (frS (slOf s) x (frS (slOf t) y .e)).at k = if k = s then x else if k = t then y else .u := by
  have h1 := frS_at s x (frS (slOf t) y .e) k
  have h2 := frS_at t y .e k
  have h3 : Fr.e.at k = .u := rfl
  rw [h1, h2, h3]
  by_cases h : k = s
  · rw [if_pos h, if_pos h.symm]
  · rw [if_neg h, if_neg (Ne.symm h)]
    by_cases g : k = t
    · rw [if_pos g, if_pos g.symm]
    · rw [if_neg g, if_neg (Ne.symm g)]
end
end Go.Proofs.YtlblaopkmigheaaGreatDoor.Ev
