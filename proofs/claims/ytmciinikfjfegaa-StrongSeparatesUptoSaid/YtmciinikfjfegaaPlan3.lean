/- a plan's check with a table of who waits for whom -/
import Derived.Test.YtmciinikfjfegaaPlan2
namespace Go.Proofs.Ytmciinikfjfegaa
open Go Go.RowKit

section
variable {P : Program} {ops : Array Oper} {Q : Exit → Act → World → Prop}

/-- T at j: some of the operations that j waits for; each is one that j comes behind, or that one of these waits for. -/
def tabOk (ops : Array Oper) (T : List (List Nat)) : Bool :=
  (List.range ops.size).all fun j => (T.getD j []).all fun k => match ops[j]? with
    | none => false
    | some o => o.after.any fun e => Region.binds .any e && decide (e.on < j) && (e.on == k || (T.getD e.on []).contains k)
theorem tab_waits {T : List (List Nat)} (h : tabOk ops T = true) : ∀ (f j k : Nat), j < f → j < ops.size → (T.getD j []).contains k = true → waits ops f j k = true
  | 0, _, _, hj, _, _ => absurd hj (Nat.not_lt_zero _)
  | f + 1, j, k, hj, hs, hk => by
    have h1 := List.all_eq_true.1 (List.all_eq_true.1 h j (List.mem_range.2 hs)) k (by simpa using hk)
    rw [waits]
    cases ho : ops[j]? with
    | none => rw [ho] at h1; cases h1
    | some o =>
      rw [ho] at h1
      dsimp only at h1 ⊢
      rw [Array.any_eq_true] at h1 ⊢
      obtain ⟨i, hi, h2⟩ := h1
      refine ⟨i, hi, ?_⟩
      simp only [Bool.and_eq_true, Bool.or_eq_true, decide_eq_true_eq] at h2 ⊢
      obtain ⟨⟨h3, h4⟩, h5⟩ := h2
      refine ⟨h3, ?_⟩
      rcases h5 with h5 | h5
      · exact .inl h5
      · exact .inr (tab_waits h f _ k (by omega) (by omega) h5)
def planOkT (ops : Array Oper) (T : List (List Nat)) (eff : Nat → Bool) : List (Nat × Nat × List Nat) → Array Bool → List Nat → Bool
  | [], listed, _ => (Region.ready .any ops listed).isEmpty
  | (i, c, U) :: rest, listed, seen =>
    (match c with
      | 0 => !eff i && (Region.ready .any ops listed).contains i && Region.free .any ops listed i
      | 1 => !eff i && (Region.ready .any ops listed).contains i && Region.free .any ops listed i
      | 2 => eff i && Region.ready .any ops listed == [i] && seen.all fun k => U.contains k || (decide (i < ops.size) && (T.getD i []).contains k)
      | _ => false) &&
    planOkT ops T eff rest (listed.setIfInBounds i true) (if c == 1 then i :: seen else seen)
theorem planOk_of {T : List (List Nat)} (hT : tabOk ops T = true) {eff : Nat → Bool} : ∀ (plan : List (Nat × Nat × List Nat)) (listed : Array Bool) (seen : List Nat), planOkT ops T eff plan listed seen = true → planOk ops eff plan listed seen = true
  | [], _, _, h => h
  | (i, c, U) :: rest, listed, seen, h => by
    simp only [planOkT, Bool.and_eq_true] at h
    obtain ⟨h1, h2⟩ := h
    have h3 := planOk_of hT rest _ _ h2
    match c, h1, h3 with
    | 0, h1, h3 =>
      simp only [planOk, Bool.and_eq_true]
      exact ⟨by simpa using h1, h3⟩
    | 1, h1, h3 =>
      simp only [planOk, Bool.and_eq_true]
      exact ⟨by simpa using h1, h3⟩
    | 2, h1, h3 =>
      simp only [planOk, Bool.and_eq_true]
      simp only [Bool.and_eq_true] at h1
      refine ⟨⟨h1.1, List.all_eq_true.2 fun k hk => ?_⟩, h3⟩
      have h4 := List.all_eq_true.1 h1.2 k hk
      simp only [Bool.or_eq_true, Bool.and_eq_true, decide_eq_true_eq] at h4 ⊢
      rcases h4 with h4 | ⟨h4, h5⟩
      · exact .inr h4
      · exact .inl (tab_waits hT _ _ _ h4 h4 h5)
    | j + 3, h1, h3 => exact absurd h1 (by simp)
/-- A region that draws its order, by a plan and the table. -/
theorem wp_region_planT {id : Nat} {a : Act} {w : World} (plan : List (Nat × Nat × List Nat)) (T : List (List Nat)) (hm : P.follows .mixedOrders = true) (hsel : Region.noSelect ops = true) (hT : tabOk ops T = true)
    (hp : (planLen plan == ops.size && planOkT ops T (fun j => plan.any fun e => e.1 == j && decide (2 ≤ e.2.1) || e.2.1 == j + 3) plan (Array.replicate ops.size false) []) = true)
    (h : wpPlan P ops (Calm Q) plan [] a w.drew) : (Code.region id ops true).wp P Q a w :=
  wp_region_plan plan hm hsel (by
    rw [Bool.and_eq_true] at hp ⊢
    exact ⟨hp.1, planOk_of hT _ _ _ hp.2⟩) h
end

end Go.Proofs.Ytmciinikfjfegaa
