/- plain laws: what Insert makes is balanced, and without the inserted tokens it is what came in -/
import Derived.Test.YtgfhkaamkodpjaaDoorLay7
import Derived.Test.YtgfhkaamkodpjaaDoorRem
namespace Go.Proofs.YtgfhkaamkodpjaaDoor
open Go Go.RowKit
set_option maxHeartbeats 4000000
attribute [local irreducible] kwB syB clB

/-- the blocks that are open behind a list; none: one was closed too many -/
def balD : List Tok → Int → Option Int
  | [], d => some d
  | t :: r, d => if t.kind = 5 then balD r (d + 1) else if t.kind = 7 then (if d = 0 then none else balD r (d - 1)) else balD r d
theorem balF_of {l : List Tok} : ∀ {d : Int}, balD l d = some 0 → balF l d = true := by
  induction l with
  | nil => intro d h; simp only [balD, Option.some.injEq] at h; simp [balF, h]
  | cons t r ih =>
    intro d h
    rw [balD] at h
    rw [balF]
    split at h
    · rename_i h1; rw [if_pos h1]; exact ih h
    · rename_i h1
      rw [if_neg h1]
      split at h
      · rename_i h2
        rw [if_pos h2]
        split at h
        · cases h
        · rename_i h3; rw [if_neg h3]; exact ih h
      · rename_i h2; rw [if_neg h2]; exact ih h
theorem balD_append (a b : List Tok) : ∀ d, balD (a ++ b) d = (balD a d).bind (balD b) := by
  induction a with
  | nil => intro d; rfl
  | cons t r ih =>
    intro d
    rw [List.cons_append, balD, balD]
    split
    · exact ih _
    · split
      · split
        · rfl
        · exact ih _
      · exact ih _

/-- what stands in a state: the tokens that came in, and as many open blocks as columns -/
structure BalIn (o : List Tok) (cs : List Int) (p : List Tok) : Prop where
  rem : remS o = p
  bal : balD o 0 = some (cs.length : Int)
theorem remS_append (a b : List Tok) : remS (a ++ b) = remS a ++ remS b := by simp [remS]
theorem BalIn.put {o : List Tok} {cs : List Int} {p : List Tok} (h : BalIn o cs p) {t : Tok} (h5 : t.kind ≠ 5) (h6 : t.kind ≠ 6) (h7 : t.kind ≠ 7) : BalIn (o ++ [t]) cs (p ++ [t]) :=
  ⟨by rw [remS_append, h.rem]; congr 1; have : insT t = false := by { simp [insT]; omega }; simp [remS, this],
   by rw [balD_append, h.bal]; simp [balD, h5, h7]⟩
theorem BalIn.sep {o : List Tok} {cs : List Int} {p : List Tok} (h : BalIn o cs p) (q : Pos) : BalIn (o ++ [⟨6, 0, ByteArray.empty, q⟩]) cs p :=
  ⟨by rw [remS_append, h.rem]; simp [remS, insT], by rw [balD_append, h.bal]; simp [balD]⟩
theorem BalIn.open_ {o : List Tok} {cs : List Int} {p : List Tok} (h : BalIn o cs p) (q : Pos) (c : Int) : BalIn (o ++ [⟨5, 0, ByteArray.empty, q⟩]) (c :: cs) p :=
  ⟨by rw [remS_append, h.rem]; simp [remS, insT], by rw [balD_append, h.bal]; simp [balD]⟩
theorem BalIn.close {o : List Tok} {c : Int} {cs : List Int} {p : List Tok} (h : BalIn o (c :: cs) p) (q : Pos) : BalIn (o ++ [closeTok q]) cs p :=
  ⟨by rw [remS_append, h.rem]; simp [remS, insT, closeTok], by
    rw [balD_append, h.bal]
    have : ¬ ((cs.length : Int) + 1 = 0) := by omega
    simp [balD, closeTok, this]⟩
theorem BalIn.pair {o : List Tok} {cs : List Int} {p : List Tok} (h : BalIn o cs p) (q : Pos) : BalIn (o ++ [⟨5, 0, ByteArray.empty, q⟩] ++ [⟨7, 0, ByteArray.empty, q⟩]) cs p :=
  (h.open_ q 0).close q
theorem BalIn.loop (q : Pos) : ∀ (cs : List Int) {o : List Tok} {p : List Tok}, BalIn o cs p → BalIn (closeLoop q o cs).1 (closeLoop q o cs).2 p
  | [], _, _, h => h
  | c :: r, o, p, h => by
    rw [closeLoop]
    split
    · exact BalIn.loop q r (h.close q)
    · exact h
theorem BalIn.all (p : List Tok) : ∀ (cs : List Int) {o : List Tok}, BalIn o cs p → BalIn (closeAll o cs.length) [] p
  | [], o, h => by simpa [closeAll] using h
  | c :: r, o, h => by
    have := BalIn.all p r (h.close ⟨0, 0⟩)
    rw [closeAll, List.append_assoc] at this
    rw [closeAll, List.length_cons, List.replicate_succ]
    simpa using this

theorem valid_kinds {t : Tok} (h : validTok t = true) : t.kind ≠ 5 ∧ t.kind ≠ 6 ∧ t.kind ≠ 7 := by
  unfold validTok at h
  refine ⟨?_, ?_, ?_⟩ <;> intro hk <;> rw [hk] at h <;> simp at h
theorem push_kept {x : Ins} {t : Tok} {p : List Tok} (hv : validTok t = true) (h : BalIn x.out x.cols p) : BalIn (pushS x t).out (pushS x t).cols (p ++ [t]) := by
  have h5 := rememberS_all { x with out := x.out ++ [t] } t
  obtain ⟨k5, k6, k7⟩ := valid_kinds hv
  have h1 : (pushS x t).out = x.out ++ [t] := h5.2.1
  have h2 : (pushS x t).cols = x.cols := h5.1
  rw [h1, h2]
  exact h.put k5 k6 k7
theorem place_kept {x : Ins} {t : Tok} {p : List Tok} (h : BalIn x.out x.cols p) : BalIn (placeS x t).out (placeS x t).cols p := by
  have ha : BalIn (placeA t x (decide (x.bf.pos.line < t.pos.line))).1 (placeA t x (decide (x.bf.pos.line < t.pos.line))).2 p := by
    unfold placeA
    split
    · exact h.loop _ _
    · exact h
  show BalIn (placeC _ _ _ (placeB _ _ _ _)) (placeB _ _ _ _).2 p
  generalize placeA t x (decide (x.bf.pos.line < t.pos.line)) = a at ha
  have hb : BalIn (placeB t x (isClose t) a).1 (placeB t x (isClose t) a).2 p := by
    unfold placeB
    split
    · rename_i hh
      simp only [Bool.and_eq_true, decide_eq_true_eq] at hh
      obtain ⟨o, cs⟩ := a
      cases cs with
      | nil => simp at hh
      | cons c r => exact BalIn.close ha t.pos
    · exact ha
  generalize placeB t x (isClose t) a = b at hb
  unfold placeC
  split
  · exact hb.sep _
  · exact hb
theorem begin_kept {x : Ins} {t : Tok} {p : List Tok} (h : BalIn x.out x.cols p) (h0 : (beginS x t).2 = 0) : BalIn (beginS x t).1.out (beginS x t).1.cols p := by
  have hc := beganS_cols x
  have hk : BalIn (beganS x).out (beganS x).cols p := by rw [hc.1, hc.2]; exact h
  unfold beginS at h0 ⊢
  dsimp only at h0 ⊢
  split at h0
  · rename_i h1
    rw [if_pos h1]
    exact hk.pair t.pos
  · rename_i h1
    rw [if_neg h1]
    split at h0
    · cases h0
    · rename_i h2
      rw [if_neg h2]
      split at h0
      · cases h0
      · rename_i h3
        rw [if_neg h3]
        exact hk.open_ _ _
theorem token_kept {x : Ins} {t : Tok} {p : List Tok} (h : BalIn x.out x.cols p) (h0 : (tokenS x t).2 = 0) : BalIn (tokenS x t).1.out (tokenS x t).1.cols (p ++ [t]) := by
  unfold tokenS at h0 ⊢
  split at h0
  · rename_i hv
    rw [if_pos hv]
    have hvt : validTok t = true := by simp only [Bool.and_eq_true] at hv; exact hv.1
    split at h0
    · rename_i h1
      rw [if_pos h1]
      split at h0
      · rename_i h2
        rw [if_pos h2]
        exact push_kept hvt h
      · cases h0
    · rename_i h1
      rw [if_neg h1]
      split at h0
      · rename_i h2
        rw [if_pos h2]
        split at h0
        · rename_i h3
          rw [if_pos h3]
          exact push_kept hvt (begin_kept h h3)
        · rename_i h3
          exact absurd h0 h3
      · rename_i h2
        rw [if_neg h2]
        exact push_kept hvt (place_kept h)
  · cases h0
theorem fold_kept (l : List Tok) : ∀ (x : Ins) (p : List Tok), BalIn x.out x.cols p → (foldS l x).2 = none → BalIn (foldS l x).1.out (foldS l x).1.cols (p ++ l) := by
  induction l with
  | nil => intro x p h _; rw [List.append_nil]; exact h
  | cons t r ih =>
    intro x p h h0
    rw [foldS] at h0 ⊢
    split at h0
    · rename_i h1
      rw [if_pos h1]
      have := ih _ _ (token_kept h h1) h0
      simpa using this
    · cases h0
theorem fold_err (l : List Tok) : ∀ (x : Ins) (q : Pos) (e : Int), (foldS l x).2 = some (q, e) → e ≠ 0 := by
  induction l with
  | nil => intro x q e h; cases h
  | cons t r ih =>
    intro x q e h
    rw [foldS] at h
    split at h
    · exact ih _ _ _ h
    · rename_i h1
      simp only [Option.some.injEq, Prod.mk.injEq] at h
      rw [← h.2]
      exact h1
/-- what Insert gives: no tokens and an error, or the tokens with balanced blocks between them -/
theorem insS_kept (l : List Tok) : ((insS l).2.2 ≠ 0 ∧ (insS l).1 = []) ∨ ((insS l).2.2 = 0 ∧ remS (insS l).1 = l ∧ balF (insS l).1 0 = true) := by
  have hs : BalIn startIns.out startIns.cols [] := ⟨by decide, by decide⟩
  have h1 := fold_kept l startIns [] hs
  have h2 := fold_err l startIns
  unfold insS
  generalize foldS l startIns = X at h1 h2
  obtain ⟨x, r⟩ := X
  cases r with
  | some pe => exact .inl ⟨h2 pe.1 pe.2 rfl, rfl⟩
  | none =>
    dsimp only at h1 ⊢
    cases hq : x.opn with
    | cons q r => exact .inl ⟨(by show (3 : Int) ≠ 0; decide), rfl⟩
    | nil =>
      have h3 := BalIn.all _ _ (h1 rfl)
      exact .inr ⟨rfl, by rw [h3.rem]; simp, balF_of h3.bal⟩

theorem fold_inv (l : List Tok) : ∀ (x : Ins) (k : Nat), TokInv x k → (foldS l x).2 = none → TokInv (foldS l x).1 (k + l.length) := by
  induction l with
  | nil => intro x k h _; exact h
  | cons t r ih =>
    intro x k h h0
    rw [foldS] at h0 ⊢
    split at h0
    · rename_i h1
      rw [if_pos h1]
      have := ih _ _ (tokenS_inv t h h1) h0
      rw [List.length_cons, show k + (r.length + 1) = k + 1 + r.length by omega]
      exact this
    · cases h0
theorem insS_len (l : List Tok) : (insS l).1.length ≤ 65 + 67 * l.length := by
  have h1 := fold_inv l startIns 0 TokInv.start
  unfold insS
  generalize foldS l startIns = X at h1
  obtain ⟨x, r⟩ := X
  cases r with
  | some pe => simp
  | none =>
    dsimp only at h1 ⊢
    cases hq : x.opn with
    | cons q r => simp
    | nil =>
      have h2 := (h1 rfl).out
      have h3 := (h1 rfl).nest
      simp [closeAll]
      omega

end Go.Proofs.YtgfhkaamkodpjaaDoor
