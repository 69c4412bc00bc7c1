/-
  A region that draws its order, walked in a TREE of orders: where several effects may come up, each of them is walked. The leaves are plans (XPlan). No program stands in it.
-/
import Derived.Test.YtgfhkaamkodpjaaDoorPlan2
namespace Go.Proofs.YtgfhkaamkodpjaaDoor
open Go

/-- 'line': a plan. 'read': an operation that only reads (class 0 or 1, as in a plan). 'eff': an effect. 'alt': either of two trees, each of which begins with effects. -/
inductive Tree where
  | line (l : List (Nat × Nat × List Nat))
  | read (i c : Nat) (t : Tree)
  | eff (i : Nat) (u : List Nat) (t : Tree)
  | alt (t v : Tree)

namespace Tree
def heads : Tree → List Nat
  | line _ => []
  | read _ _ _ => []
  | eff i _ _ => [i]
  | alt t v => heads t ++ heads v
def fits : Tree → Nat → Bool
  | line l, f => planLen l == f
  | read _ _ t, f => match f with
    | 0 => false
    | f + 1 => fits t f
  | eff _ _ t, f => match f with
    | 0 => false
    | f + 1 => fits t f
  | alt t v, f => fits t f && fits v f
/-- 'b': the tree is one of those between which an 'alt' stands. -/
def ok (ops : Array Oper) (e : Nat → Bool) : Tree → Bool → Array Bool → List Nat → Bool
  | line l, b, listed, seen => !b && planOk ops e l listed seen
  | read i c t, b, listed, seen => !b && !e i && decide (c < 2) && (Region.ready .any ops listed).contains i && Region.free .any ops listed i && ok ops e t false (listed.setIfInBounds i true) (if c == 1 then i :: seen else seen)
  | eff i u t, b, listed, seen => (b || Region.ready .any ops listed == [i]) && e i && (Region.ready .any ops listed).contains i && (seen.all fun k => waits ops ops.size i k || u.contains k) && ok ops e t false (listed.setIfInBounds i true) seen
  | alt t v, b, listed, seen => (b || Region.ready .any ops listed == heads t ++ heads v) && !(heads t).isEmpty && ok ops e t true listed seen && ok ops e v true listed seen
def effs : Tree → Nat → Bool
  | line l, j => l.any fun e => e.1 == j && decide (2 ≤ e.2.1) || e.2.1 == j + 3
  | read _ _ t, j => effs t j
  | eff i _ t, j => i == j || effs t j
  | alt t v, j => effs t j || effs v j
end Tree

section
variable {P : Program} {ops : Array Oper} {Q : Exit → Act → World → Prop}

def wpTree (P : Program) (ops : Array Oper) (Q : Exit → Act → World → Prop) : Tree → List (Nat × (World → Prop)) → Act → World → Prop
  | .line l, Ss, a, w => wpPlan P ops Q l Ss a w
  | .read i c t, Ss, a, w => match ops[i]? with
    | none => False
    | some o =>
      match c with
      | 0 => (Region.wanted o (yielded ops a.tmps) = false ∧ wpTree P ops Q t Ss (a.put o.dst undef) w) ∨
          (Region.wanted o (yielded ops a.tmps) = true ∧ worldless o = true ∧ ∃ v, (execOp a.eval o).run P w = .ok (.value v) w ∧ wpTree P ops Q t Ss (a.put o.dst v) w)
      | _ => (Region.wanted o (yielded ops a.tmps) = false ∧ wpTree P ops Q t ((i, fun _ => True) :: Ss) (a.put o.dst undef) w) ∨
          (Region.wanted o (yielded ops a.tmps) = true ∧ ∃ v, (execOp a.eval o).run P w = .ok (.value v) w ∧ wpTree P ops Q t ((i, Same P a o w) :: Ss) (a.put o.dst v) w)
  | .eff i u t, Ss, a, w => wpOp P ops Q i (fun a' w' => Kept u Ss w' ∧ wpTree P ops Q t Ss a' w') a w
  | .alt t v, Ss, a, w => wpTree P ops Q t Ss a w ∧ wpTree P ops Q v Ss a w

theorem wpTree_M {eff : Nat → Bool} (hsel : Region.noSelect ops = true) (hQ : ∀ c (a : Act) (d : Nat) v w, Q (.panic c) (a.put (some d) v) w → Q (.panic c) a w) :
    ∀ (t : Tree) (fuel : Nat) (listed : Array Bool) (seen : List Nat) (Ss : List (Nat × (World → Prop))) (a : Act) (w : World),
      Closed ops listed → (∀ k Y, (k, Y) ∈ Ss → k ∈ seen) → t.fits fuel = true → wpTree P ops Q t Ss a w →
      (t.ok ops eff false listed seen = true → wpAnyM P ops Q eff (Asked ops Ss) fuel listed a w) ∧
      (t.ok ops eff true listed seen = true → ∀ j ∈ t.heads, ∃ f, fuel = f + 1 ∧ wpOp P ops Q j (fun a' w' => (if eff j then Asked ops Ss j w' else w' = w) ∧ wpAnyM P ops Q eff (Asked ops Ss) f (listed.setIfInBounds j true) a' w') a w) := by
  have hQ' : ∀ c (a : Act) (d : Option Tmp) v w, Q (.panic c) (a.put d v) w → Q (.panic c) a w := fun c a d v w h => by
    cases d with
    | none => exact h
    | some d => exact hQ c a d v w h
  intro t
  induction t with
  | line l =>
    intro fuel listed seen Ss a w hc hseen hf h
    rw [wpTree] at h
    refine ⟨fun hp => ?_, fun hp => ?_⟩
    · simp only [Tree.ok, Bool.not_false, Bool.true_and] at hp
      simp only [Tree.fits, beq_iff_eq] at hf
      rw [← hf]
      exact wpPlan_M hsel hQ l listed seen Ss a w hc hseen hp h
    · simp [Tree.ok] at hp
  | read i c t ih =>
    intro fuel listed seen Ss a w hc hseen hf h
    refine ⟨fun hp => ?_, fun hp => by simp [Tree.ok] at hp⟩
    simp only [Tree.ok, Bool.not_false, Bool.true_and, Bool.and_eq_true, Bool.not_eq_true', decide_eq_true_eq] at hp
    obtain ⟨⟨⟨⟨he, hc2⟩, hr⟩, hfr⟩, hp2⟩ := hp
    have hr' : i ∈ Region.ready .any ops listed := by simpa using hr
    cases fuel with
    | zero => simp [Tree.fits] at hf
    | succ fuel =>
      simp only [Tree.fits] at hf
      rw [wpTree] at h
      cases ho : ops[i]? with
      | none => rw [ho] at h; exact h.elim
      | some o =>
        rw [ho] at h
        dsimp only at h
        match c, hc2, hp2, h with
        | 0, _, hp2, h =>
          rcases h with ⟨hw, h⟩ | ⟨hw, hwl, v, hrun, h⟩
          · have H := (ih fuel _ seen Ss _ w (closed_step hc hr') hseen hf h).1 (by simpa using hp2)
            exact wpAnyM_first (n := ops.size) (v := undef) (fun _ => True) ho (Region.noSelect_spec hsel) (fun c a w => hQ' c a _ _ w) he (fun _ _ _ _ _ => trivial) _ _ _ _ hc (Region.free_spec ho hfr) hr' (Or.inr ⟨hw, rfl⟩) trivial H
          · have H := (ih fuel _ seen Ss _ w (closed_step hc hr') hseen hf h).1 (by simpa using hp2)
            exact wpAnyM_first (n := ops.size) (v := v) (fun _ => True) ho (Region.noSelect_spec hsel) (fun c a w => hQ' c a _ _ w) he (fun _ _ _ _ _ => trivial) _ _ _ _ hc (Region.free_spec ho hfr) hr' (Or.inl ⟨hw, fun w' _ => worldless_run hwl hrun w'⟩) trivial H
        | 1, _, hp2, h =>
          rcases h with ⟨hw, h⟩ | ⟨hw, v, hrun, h⟩
          · have H := (ih fuel _ (i :: seen) _ _ w (closed_step hc hr') (fun k Y hk => by
              rcases List.mem_cons.1 hk with h1 | h1
              · simp only [Prod.mk.injEq] at h1; rw [h1.1]; exact List.mem_cons_self
              · exact List.mem_cons_of_mem _ (hseen k Y h1)) hf h).1 (by simpa using hp2)
            refine wpAnyM_weaken (M := Asked ops ((i, fun _ => True) :: Ss)) (fun j w h k Y hk => h k Y (List.mem_cons_of_mem _ hk)) _ _ _ _ ?_
            exact wpAnyM_first (n := ops.size) (v := undef) (fun _ => True) ho (Region.noSelect_spec hsel) (fun c a w => hQ' c a _ _ w) he (fun _ _ _ _ _ => trivial) _ _ _ _ hc (Region.free_spec ho hfr) hr' (Or.inr ⟨hw, rfl⟩) trivial H
          · have H := (ih fuel _ (i :: seen) _ _ w (closed_step hc hr') (fun k Y hk => by
              rcases List.mem_cons.1 hk with h1 | h1
              · simp only [Prod.mk.injEq] at h1; rw [h1.1]; exact List.mem_cons_self
              · exact List.mem_cons_of_mem _ (hseen k Y h1)) hf h).1 (by simpa using hp2)
            refine wpAnyM_weaken (M := Asked ops ((i, Same P a o w) :: Ss)) (fun j w h k Y hk => h k Y (List.mem_cons_of_mem _ hk)) _ _ _ _ ?_
            exact wpAnyM_first (n := ops.size) (v := v) (Same P a o w) ho (Region.noSelect_spec hsel) (fun c a w => hQ' c a _ _ w) he (fun j _ hj w' hM => hM i _ List.mem_cons_self hj) _ _ _ _ hc (Region.free_spec ho hfr) hr' (Or.inl ⟨hw, fun w' hs => hs v hrun⟩) Same.rfl H
        | c + 2, hc2, _, _ => exact absurd hc2 (by omega)
  | eff i u t ih =>
    intro fuel listed seen Ss a w hc hseen hf h
    cases fuel with
    | zero => simp [Tree.fits] at hf
    | succ fuel =>
      simp only [Tree.fits] at hf
      rw [wpTree] at h
      have key : eff i = true → i ∈ Region.ready .any ops listed → (seen.all fun k => waits ops ops.size i k || u.contains k) = true → t.ok ops eff false (listed.setIfInBounds i true) seen = true →
          wpOp P ops Q i (fun a' w' => (if eff i then Asked ops Ss i w' else w' = w) ∧ wpAnyM P ops Q eff (Asked ops Ss) fuel (listed.setIfInBounds i true) a' w') a w := fun he hr' hU hp2 => by
        refine wpOp_mono (fun a' w' h1 => ⟨?_, ?_⟩) h
        · rw [if_pos he]
          exact asked_kept hseen hU h1.1
        · exact (ih fuel _ seen Ss _ w' (closed_step hc hr') hseen hf h1.2).1 hp2
      refine ⟨fun hp => ?_, fun hp j hj => ?_⟩
      · simp only [Tree.ok, Bool.false_or, Bool.and_eq_true, beq_iff_eq] at hp
        obtain ⟨⟨⟨⟨hr, he⟩, hrc⟩, hU⟩, hp2⟩ := hp
        have hr' : i ∈ Region.ready .any ops listed := by rw [hr]; exact List.mem_cons_self
        refine ⟨fun h0 => (by rw [hr] at h0; cases h0), fun j hj => ?_⟩
        rw [hr] at hj
        obtain rfl := List.mem_singleton.1 hj
        exact key he hr' hU hp2
      · simp only [Tree.ok, Bool.true_or, Bool.true_and, Bool.and_eq_true] at hp
        obtain ⟨⟨⟨he, hrc⟩, hU⟩, hp2⟩ := hp
        have hr' : i ∈ Region.ready .any ops listed := by simpa using hrc
        obtain rfl := List.mem_singleton.1 hj
        exact ⟨fuel, rfl, key he hr' hU hp2⟩
  | alt t v iht ihv =>
    intro fuel listed seen Ss a w hc hseen hf h
    simp only [Tree.fits, Bool.and_eq_true] at hf
    rw [wpTree] at h
    have key : t.ok ops eff true listed seen = true → v.ok ops eff true listed seen = true → ∀ j ∈ t.heads ++ v.heads, ∃ f, fuel = f + 1 ∧ wpOp P ops Q j (fun a' w' => (if eff j then Asked ops Ss j w' else w' = w) ∧ wpAnyM P ops Q eff (Asked ops Ss) f (listed.setIfInBounds j true) a' w') a w := fun h1 h2 j hj => by
      rcases List.mem_append.1 hj with hj | hj
      · exact (iht fuel listed seen Ss a w hc hseen hf.1 h.1).2 h1 j hj
      · exact (ihv fuel listed seen Ss a w hc hseen hf.2 h.2).2 h2 j hj
    refine ⟨fun hp => ?_, fun hp j hj => ?_⟩
    · simp only [Tree.ok, Bool.false_or, Bool.and_eq_true, beq_iff_eq] at hp
      obtain ⟨⟨⟨hr, hne⟩, h1⟩, h2⟩ := hp
      have K := key h1 h2
      rw [← hr] at K
      cases hh : t.heads with
      | nil => rw [hh] at hne; cases hne
      | cons j0 r0 =>
        have hj0 : j0 ∈ Region.ready .any ops listed := by rw [hr, hh]; simp
        obtain ⟨f, hf2, _⟩ := K j0 hj0
        subst hf2
        refine ⟨fun h0 => (by rw [h0] at hj0; cases hj0), fun j hj => ?_⟩
        obtain ⟨f', hf3, hw⟩ := K j hj
        obtain rfl : f = f' := by omega
        exact hw
    · simp only [Tree.ok, Bool.true_or, Bool.true_and, Bool.and_eq_true] at hp
      exact key hp.1.2 hp.2 j hj

/-- A region that draws its order, by a tree; it does not panic. -/
theorem wp_region_tree {id : Nat} {a : Act} {w : World} (t : Tree) (hm : P.follows .mixedOrders = true) (hsel : Region.noSelect ops = true)
    (hp : (t.fits ops.size && t.ok ops t.effs false (Array.replicate ops.size false) []) = true)
    (h : wpTree P ops (Calm Q) t [] a w.drew) : (Code.region id ops true).wp P Q a w := by
  simp only [Bool.and_eq_true] at hp
  refine Code.wp_mono Calm.imp (wp_region_any hm (wpAny_of_M _ _ _ _ (M := Asked ops []) (eff := t.effs) ?_))
  exact (wpTree_M hsel (fun _ _ _ _ _ h => h) t _ _ [] [] a _ (closed_none _ _) (fun _ _ h => by cases h) hp.1 h).1 hp.2

section steps
variable {i : Nat} {U : List Nat} {t v : Tree} {l : List (Nat × Nat × List Nat)} {Ss : List (Nat × (World → Prop))} {a : Act} {w : World} {o : Oper}

theorem wpTree_line (h : wpPlan P ops Q l Ss a w) : wpTree P ops Q (.line l) Ss a w := by rw [wpTree]; exact h
theorem wpTree_alt (h1 : wpTree P ops Q t Ss a w) (h2 : wpTree P ops Q v Ss a w) : wpTree P ops Q (.alt t v) Ss a w := by rw [wpTree]; exact ⟨h1, h2⟩
theorem wpTree_skip0 (ho : ops[i]? = some o) (hw : Region.wanted o (yielded ops a.tmps) = false) (h : wpTree P ops Q t Ss (a.put o.dst undef) w) : wpTree P ops Q (.read i 0 t) Ss a w := by
  rw [wpTree, ho]
  exact Or.inl ⟨hw, h⟩
theorem wpTree_skip1 (ho : ops[i]? = some o) (hw : Region.wanted o (yielded ops a.tmps) = false) (h : wpTree P ops Q t ((i, fun _ => True) :: Ss) (a.put o.dst undef) w) : wpTree P ops Q (.read i 1 t) Ss a w := by
  rw [wpTree, ho]
  exact Or.inl ⟨hw, h⟩
theorem wpTree_read0 (ho : ops[i]? = some o) (hw : Region.wanted o (yielded ops a.tmps) = true) (hv : worldless o = true)
    (h : ∀ (K : Act → World → Prop) (Q' : Exit → Act → World → Prop), (∀ a', wpTree P ops Q t Ss a' w → K a' w) → o.wp P a w K Q') : wpTree P ops Q (.read i 0 t) Ss a w := by
  rw [wpTree, ho]
  refine Or.inr ⟨hw, hv, ?_⟩
  exact upon_value (K := fun a' w => wpTree P ops Q t Ss a' w) (worldless_valued hv) (h _ _ fun a' h' => ⟨rfl, h'⟩)
theorem wpTree_read1 (ho : ops[i]? = some o) (hw : Region.wanted o (yielded ops a.tmps) = true) (hv : valued o = true)
    (h : ∀ (K : Act → World → Prop) (Q' : Exit → Act → World → Prop), (∀ a', wpTree P ops Q t ((i, Same P a o w) :: Ss) a' w → K a' w) → o.wp P a w K Q') : wpTree P ops Q (.read i 1 t) Ss a w := by
  rw [wpTree, ho]
  refine Or.inr ⟨hw, ?_⟩
  exact upon_value (K := fun a' w' => wpTree P ops Q t ((i, Same P a o w) :: Ss) a' w') hv (h _ _ fun a' h' => ⟨rfl, h'⟩)
/-- What is owed behind an effect (T: of what is still to be shown), and the rest. -/
def OwedT (P : Program) (ops : Array Oper) (Q : Exit → Act → World → Prop) (U : List Nat) (T : List (Nat × (World → Prop))) (t : Tree) (Ss : List (Nat × (World → Prop))) (a : Act) (w : World) : Prop :=
  Kept U T w ∧ wpTree P ops Q t Ss a w
section
variable {T : List (Nat × (World → Prop))} {k : Nat} {Y : World → Prop}
theorem OwedT.none_ (h : wpTree P ops Q t Ss a w) : OwedT P ops Q [] T t Ss a w := ⟨by
  induction T with
  | nil => trivial
  | cons x r ih => exact ⟨fun h => (by simp at h), ih⟩, h⟩
theorem OwedT.nil_ (h : wpTree P ops Q t Ss a w) : OwedT P ops Q U [] t Ss a w := ⟨trivial, h⟩
theorem OwedT.miss (hc : U.contains k = false) (h : OwedT P ops Q U T t Ss a w) : OwedT P ops Q U ((k, Y) :: T) t Ss a w := ⟨⟨fun h => (by rw [hc] at h; cases h), h.1⟩, h.2⟩
theorem OwedT.hit (hy : Y w) (h : OwedT P ops Q U T t Ss a w) : OwedT P ops Q U ((k, Y) :: T) t Ss a w := ⟨⟨fun _ => hy, h.1⟩, h.2⟩
end
theorem wpTree_eff (ho : ops[i]? = some o) (hw : Region.wanted o (yielded ops a.tmps) = true)
    (h : ∀ K : Act → World → Prop, (∀ a' w', OwedT P ops Q U Ss t Ss a' w' → K a' w') → o.wp P a w K Q) : wpTree P ops Q (.eff i U t) Ss a w := by
  rw [wpTree]
  exact wpOp_step ho fun K hK => by rw [if_pos hw]; exact h K hK
theorem wpTree_skip2 (ho : ops[i]? = some o) (hw : Region.wanted o (yielded ops a.tmps) = false) (h : OwedT P ops Q U Ss t Ss (a.put o.dst undef) w) : wpTree P ops Q (.eff i U t) Ss a w := by
  rw [wpTree]
  exact wpOp_step ho fun K hK => by
    rw [if_neg (by rw [hw]; exact Bool.false_ne_true)]
    exact hK _ _ h
end steps
end

attribute [irreducible] wpTree OwedT

end Go.Proofs.YtgfhkaamkodpjaaDoor
