/- walks: slices.Clip; layout.Insert -/
import Derived.Test.YtgfhkaamkodpjaaDoorLay6
namespace Go.Proofs.YtgfhkaamkodpjaaDoor
open Go Go.RowKit
set_option maxHeartbeats 8000000
attribute [local irreducible] kwB syB clB

theorem clip_any (A : Option Addr) (n c : Nat) (w : World) (hc : n ≤ c) (_hm : c ≤ maxLen) :
    Calls Tryd.prog 42 #[.slice A n c] w fun e w' => e = .returned (.slice A n n) ∧ w = w' := by
  unfold maxLen at _hm
  go_enter Tryd.func42, Tryd.ntmps42
  go_wp2
  go_ret
  exact ⟨rfl, rfl⟩

/-- the state behind the tokens, and the first error with its place -/
def foldS : List Tok → Ins → Ins × Option (Pos × Int)
  | [], x => (x, none)
  | t :: r, x => if (tokenS x t).2 = 0 then foldS r (tokenS x t).1 else ((tokenS x t).1, some (t.pos, (tokenS x t).2))
def startIns : Ins := ⟨[⟨5, 0, ByteArray.empty, ⟨1, 1⟩⟩], [1], ⟨0, 0, ByteArray.empty, ⟨0, 0⟩⟩, false, false, [], ⟨0, 0⟩⟩
def closeAll (out : List Tok) (n : Nat) : List Tok := out ++ List.replicate n (closeTok ⟨0, 0⟩)
/-- layout.Insert: the tokens, or the place of an error and the error -/
def insS (l : List Tok) : List Tok × Pos × Int :=
  match foldS l startIns with
  | (_, some (p, e)) => ([], p, e)
  | (x, none) => match x.opn with
    | q :: _ => ([], q, 3)
    | [] => (closeAll x.out x.cols.length, ⟨0, 0⟩, 0)

structure TokInv (x : Ins) (k : Nat) : Prop where
  last : x.cols.getLast? = some 1
  nest : x.cols.length ≤ 64
  out : x.out.length ≤ 1 + 67 * k
  opn : x.opn.length ≤ k
theorem TokInv.start : TokInv startIns 0 := ⟨rfl, by decide, by decide, by decide⟩

theorem rememberS_all (x : Ins) (t : Tok) : (rememberS x t).cols = x.cols ∧ (rememberS x t).out = x.out ∧ (rememberS x t).opn.length ≤ x.opn.length + 1 := by
  have h : (keepOf x.opn x.ow).length ≤ x.opn.length := List.length_filter_le _ _
  unfold rememberS
  split
  · simp
  · split
    · refine ⟨rfl, rfl, ?_⟩
      split <;> simp <;> omega
    · simp

theorem tail_last {l : List Int} (h : l.getLast? = some 1) (h1 : 1 < l.length) : l.tail.getLast? = some 1 := by
  cases l with
  | nil => cases h
  | cons a r => cases r with
    | nil => simp at h1
    | cons b r => simpa using h
theorem placeS_cols (x : Ins) (t : Tok) (hc : x.cols.getLast? = some 1) (ht : 1 ≤ t.pos.col) : (placeS x t).cols.getLast? = some 1 ∧ (placeS x t).cols.length ≤ x.cols.length := by
  have ha : (placeA t x (decide (x.bf.pos.line < t.pos.line))).2.getLast? = some 1 ∧ (placeA t x (decide (x.bf.pos.line < t.pos.line))).2.length ≤ x.cols.length := by
    unfold placeA
    split
    · exact ⟨closeLoop_last _ ht _ _ hc, (closeLoop_len _ _ _).1⟩
    · exact ⟨hc, Nat.le_refl _⟩
  show (placeB _ _ _ _).2.getLast? = _ ∧ (placeB _ _ _ _).2.length ≤ _
  unfold placeB
  split
  · rename_i h
    simp only [Bool.and_eq_true, decide_eq_true_eq] at h
    exact ⟨tail_last ha.1 h.2, by simp; omega⟩
  · exact ha
theorem beginS_cols (x : Ins) (t : Tok) (hc : x.cols.getLast? = some 1) (hn : x.cols.length ≤ 64) : (beginS x t).1.cols.getLast? = some 1 ∧ (beginS x t).1.cols.length ≤ 64 := by
  have hb := (beganS_cols x).1
  unfold beginS
  dsimp only
  split
  · exact ⟨hb ▸ hc, hb ▸ hn⟩
  · split
    · exact ⟨hb ▸ hc, hb ▸ hn⟩
    · split
      · exact ⟨hb ▸ hc, hb ▸ hn⟩
      · rename_i h1 h2 h3
        rw [hb] at h3
        refine ⟨?_, ?_⟩
        · rw [hb]
          cases hx : x.cols with
          | nil => rw [hx] at hc; cases hc
          | cons a r => rw [hx] at hc; simpa using hc
        · rw [hb]
          simp
          omega

theorem tokenS_inv {x : Ins} {k : Nat} (t : Tok) (h : TokInv x k) (h0 : (tokenS x t).2 = 0) : TokInv (tokenS x t).1 (k + 1) := by
  have push : ∀ y : Ins, y.cols.getLast? = some 1 → y.cols.length ≤ 64 → y.out.length + 1 ≤ 1 + 67 * (k + 1) → y.opn.length ≤ k → TokInv (pushS y t) (k + 1) := fun y h1 h2 h3 h4 => by
    have h5 := rememberS_all { y with out := y.out ++ [t] } t
    refine ⟨?_, ?_, ?_, ?_⟩
    · exact (congrArg List.getLast? h5.1).trans h1
    · exact (congrArg List.length h5.1) ▸ h2
    · have := congrArg List.length h5.2.1
      simp at this
      show (rememberS _ _).out.length ≤ _
      omega
    · have := h5.2.2
      show (rememberS _ _).opn.length ≤ _
      dsimp only at this
      omega
  have hb := beginS_len x t
  have hp := placeS_len x t
  have := h.out
  have := h.opn
  have := h.nest
  unfold tokenS at h0 ⊢
  split at h0
  · rename_i hv
    rw [if_pos hv]
    split at h0
    · rename_i h1
      rw [if_pos h1]
      split at h0
      · rename_i h2
        rw [if_pos h2]
        exact push x h.last h.nest (by omega) h.opn
      · cases h0
    · rename_i h1
      rw [if_neg h1]
      split at h0
      · rename_i h2
        rw [if_pos h2]
        split at h0
        · rename_i h3
          rw [if_pos h3]
          have hc := beginS_cols x t h.last h.nest
          exact push _ hc.1 hc.2 (by omega) (by omega)
        · rename_i h3
          exact absurd h0 h3
      · rename_i h2
        rw [if_neg h2]
        have ht : 1 ≤ t.pos.col := by
          simp only [Bool.and_eq_true] at hv
          have := hv.2
          unfold afterT at this
          simp only [Bool.and_eq_true, decide_eq_true_eq] at this
          exact this.1.2
        have hc := placeS_cols x t h.last ht
        exact push _ hc.1 (by omega) (by omega) (by rw [hp.2]; omega)
  · cases h0

end Go.Proofs.YtgfhkaamkodpjaaDoor
