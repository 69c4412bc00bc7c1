/-
  A region that draws its order, walked in ONE order: a plan. An operation that only reads ('class 0': its run does not hang on the world; 'class 1': it does, and what it reads must stay behind the effects that may come before it) is taken as soon as it may come up;
  an effect ('class 2') is carried out where it alone may come up. No program stands in it.
-/
import Derived.WalkKit
import Derived.OrdersHeld
import Derived.RegionTactic
namespace Go.Proofs.YtlblaopkmigheaaGreatDoor
open Go

/-- 'j' waits for 'i', at whatever remove. -/
def waits (ops : Array Oper) : Nat → Nat → Nat → Bool
  | 0, _, _ => false
  | f + 1, j, i => match ops[j]? with
    | some o => o.after.any fun e => Region.binds .any e && (e.on == i || waits ops f e.on i)
    | none => false

/-- Whoever has come up has had all that he waits for come up. -/
def Closed (ops : Array Oper) (listed : Array Bool) : Prop :=
  ∀ j oj, ops[j]? = some oj → listed.getD j false = true → ∀ e ∈ oj.after, Region.binds .any e = true → listed.getD e.on false = true

theorem waits_listed {ops : Array Oper} {listed : Array Bool} (hc : Closed ops listed) {i : Nat} : ∀ (f j : Nat) (oj : Oper), ops[j]? = some oj →
    (∀ e ∈ oj.after, Region.binds .any e = true → listed.getD e.on false = true) → waits ops f j i = true → listed.getD i false = true
  | 0, _, _, _, _, h => by simp [waits] at h
  | f + 1, j, oj, hj, hall, h => by
    simp only [waits, hj] at h
    obtain ⟨e, he, hb⟩ := Array.any_eq_true'.1 h
    simp only [Bool.and_eq_true, Bool.or_eq_true, beq_iff_eq] at hb
    obtain ⟨hbind, hb⟩ := hb
    have h1 := hall e he hbind
    rcases hb with hb | hb
    · rwa [hb] at h1
    · cases ho : ops[e.on]? with
      | none =>
        cases f with
        | zero => simp [waits] at hb
        | succ f => simp [waits, ho] at hb
      | some o => exact waits_listed hc f e.on o ho (hc e.on o ho h1) hb

theorem getD_set_off {listed : Array Bool} {i k : Nat} (d : Bool) (h : i ≠ k) : (listed.setIfInBounds i true).getD k d = listed.getD k d := by
  simp [Array.getElem?_setIfInBounds_ne h]

theorem getD_set_same {listed : Array Bool} {i : Nat} (h : i < listed.size) (d : Bool) : (listed.setIfInBounds i true).getD i d = true := by
  simp [h]

theorem closed_step {ops : Array Oper} {listed : Array Bool} (hc : Closed ops listed) {i : Nat} (hi : i ∈ Region.ready .any ops listed) : Closed ops (listed.setIfInBounds i true) := by
  obtain ⟨hun, oi, hoi, hall⟩ := mem_ready.1 hi
  intro j oj hj hl e he hb
  have mono : ∀ k, listed.getD k false = true → (listed.setIfInBounds i true).getD k false = true := fun k hk => by
    by_cases hik : i = k
    · subst hik
      rcases Nat.lt_or_ge i listed.size with h' | h'
      · exact getD_set_same h' _
      · simp [Array.getElem?_eq_none h'] at hk
    · rw [getD_set_off _ hik]; exact hk
  by_cases hij : i = j
  · subst hij
    rw [hoi] at hj
    obtain rfl := Option.some.inj hj
    exact mono _ (hall e he hb)
  · rw [getD_set_off _ hij] at hl
    exact mono _ (hc j oj hj hl e he hb)

section
variable {P : Program} {ops : Array Oper} {Q : Exit → Act → World → Prop} {eff : Nat → Bool} {M : Nat → World → Prop}

/-- Whatever order is picked; behind an effect M holds, and all else leaves the world as it was. -/
def wpAnyM (P : Program) (ops : Array Oper) (Q : Exit → Act → World → Prop) (eff : Nat → Bool) (M : Nat → World → Prop) : Nat → Array Bool → Act → World → Prop
  | 0, listed, a, w => Region.ready .any ops listed = [] ∧ Q .normal a w
  | fuel + 1, listed, a, w =>
    (Region.ready .any ops listed = [] → Q .normal a w) ∧
    ∀ i ∈ Region.ready .any ops listed, wpOp P ops Q i (fun a' w' => (if eff i then M i w' else w' = w) ∧ wpAnyM P ops Q eff M fuel (listed.setIfInBounds i true) a' w') a w

theorem wpAny_of_M : ∀ (fuel : Nat) (listed : Array Bool) (a : Act) (w : World), wpAnyM P ops Q eff M fuel listed a w → wpAny P .any ops Q fuel listed a w
  | 0, _, _, _, h => h
  | fuel + 1, _, _, _, h => ⟨h.1, fun i hi => wpOp_mono (fun a' w' h' => wpAny_of_M fuel _ a' w' h'.2) (h.2 i hi)⟩

theorem wpAnyM_weaken {M' : Nat → World → Prop} (hM : ∀ j w, M j w → M' j w) : ∀ (fuel : Nat) (listed : Array Bool) (a : Act) (w : World),
    wpAnyM P ops Q eff M fuel listed a w → wpAnyM P ops Q eff M' fuel listed a w
  | 0, _, _, _, h => h
  | fuel + 1, _, _, _, h => ⟨h.1, fun i hi => wpOp_mono (fun a' w' h' => ⟨by
      have h1 := h'.1
      split at h1
      · rename_i he; rw [if_pos he]; exact hM _ _ h1
      · rename_i he; rw [if_neg he]; exact h1, wpAnyM_weaken hM fuel _ a' w' h'.2⟩) (h.2 i hi)⟩

theorem wpAnyM_first {i n : Nat} {oi : Oper} {v : Value} (Y : World → Prop) (hi : ops[i]? = some oi) (hsel : ∀ (j : Nat) (o : Oper) cs b, ops[j]? = some o → o.op ≠ .select cs b)
    (hQ : ∀ c a w, Q (.panic c) (a.put oi.dst v) w → Q (.panic c) a w) (he : eff i = false)
    (hY : ∀ j, eff j = true → waits ops n j i = false → ∀ w', M j w' → Y w') :
    ∀ (fuel : Nat) (listed : Array Bool) (a : Act) (w : World), Closed ops listed →
      (∀ j oj, ops[j]? = some oj → j ≠ i → listed.getD j true = false → (∀ e ∈ oj.after, Region.binds .any e = true → e.on ≠ i) → oi.apart ops oj = true) →
      i ∈ Region.ready .any ops listed → YieldsIf P ops Y oi v a → Y w →
      wpAnyM P ops Q eff M fuel (listed.setIfInBounds i true) (a.put oi.dst v) w → wpAnyM P ops Q eff M (fuel + 1) listed a w := by
  intro fuel
  induction fuel with
  | zero =>
    intro listed a w _ _ hr hy hw H
    refine ⟨fun h => (by rw [h] at hr; cases hr), fun j hj => ?_⟩
    by_cases hji : j = i
    · subst hji; exact hy.wpOp hi hw ⟨by rw [he]; rfl, H⟩
    · have := ready_mono hj hji
      rw [H.1] at this
      cases this
  | succ fuel ih =>
    intro listed a w hc hfree hr hy hw H
    refine ⟨fun h => (by rw [h] at hr; cases hr), fun j hj => ?_⟩
    by_cases hji : j = i
    · subst hji; exact hy.wpOp hi hw ⟨by rw [he]; rfl, H⟩
    · have h1 := H.2 j (ready_mono hj hji)
      obtain ⟨hjun, oj, hoj, hall⟩ := mem_ready.1 hj
      have hinot : listed.getD i false = true → False := fun h1 => by
        have h0 := (mem_ready.1 hr).1
        rcases Nat.lt_or_ge i listed.size with h' | h'
        · simp [h'] at h0 h1; rw [h0] at h1; cases h1
        · simp [Array.getElem?_eq_none h'] at h1
      have hnot : ∀ e ∈ oj.after, Region.binds .any e = true → e.on ≠ i := fun e he hb heq => hinot (heq ▸ hall e he hb)
      have hwait : waits ops n j i = false := by
        cases hwt : waits ops n j i with
        | false => rfl
        | true => exact (hinot (waits_listed hc n j oj hoj hall hwt)).elim
      have h2 := wpOp_putIf hoj (hfree j oj hoj hji hjun hnot) (fun cs b => hsel i oi cs b hi) (fun cs b => hsel j oj cs b hoj) hQ hy h1
      have hfree' : ∀ k ok, ops[k]? = some ok → k ≠ i → (listed.setIfInBounds j true).getD k true = false →
          (∀ e ∈ ok.after, Region.binds .any e = true → e.on ≠ i) → oi.apart ops ok = true := fun k ok hk hki hun hno => by
        refine hfree k ok hk hki ?_ hno
        by_cases hjk : j = k
        · subst hjk; exact hjun
        · rw [getD_set_ne true hjk] at hun; exact hun
      refine wpOp_mono (fun a' w' h3 => ⟨h3.2.1, ih (listed.setIfInBounds j true) a' w' (closed_step hc hj) hfree' (ready_mono hr (Ne.symm hji)) h3.1 ?_ ?_⟩) h2
      · have h4 := h3.2.1
        split at h4
        · rename_i hej; exact hY j hej hwait w' h4
        · rw [h4]; exact hw
      · rw [Array.setIfInBounds_comm _ _ hji]
        exact h3.2.2
end

/-- In w' the operation yields just what it yielded in w. -/
def Same (P : Program) (a : Act) (o : Oper) (w w' : World) : Prop := ∀ v, (execOp a.eval o).run P w = .ok (.value v) w → (execOp a.eval o).run P w' = .ok (.value v) w'

theorem Same.rfl {P : Program} {a : Act} {o : Oper} {w : World} : Same P a o w w := fun _ h => h

/-- The kinds whose run yields a value if it ends well. -/
def valued (o : Oper) : Bool := match o.op with
  | .move _ | .assign _ | .pick .. | .load .. | .nilCheck _ | .binOp .. | .unOp .. | .convert .. | .slice .. | .fieldAddr .. | .field .. | .indexAddr .. | .index .. | .extract .. | .makeInterface .. | .build .. => true
  | .call c => (match c.callee with | .builtin .len | .builtin .cap => true | _ => false)
  | _ => false

theorem valued_bind {P : Program} {s : Sem Value} {w w' : World} {n : Next} (h : (s >>= fun v => (pure (.value v) : Sem Next)).run P w = .ok n w') : ∃ v, n = .value v := by
  rw [Sem.run_bind] at h
  cases hs : s.run P w with
  | ok v w1 => rw [hs] at h; simp [Result.andThen] at h; exact ⟨v, h.1.symm⟩
  | halt x w1 => rw [hs] at h; simp [Result.andThen] at h

theorem run_bind_ok {α β : Type} {P : Program} {s : Sem α} {f : α → Sem β} {w w' : World} {y : β} (h : (s >>= f).run P w = .ok y w') : ∃ x w1, s.run P w = .ok x w1 ∧ (f x).run P w1 = .ok y w' := by
  rw [Sem.run_bind] at h
  cases hs : s.run P w with
  | ok x w1 => rw [hs] at h; exact ⟨x, w1, rfl, h⟩
  | halt x w1 => rw [hs] at h; simp [Result.andThen] at h

theorem valued_run {P : Program} {ρ : Operand → Value} {o : Oper} (hv : valued o = true) {w w' : World} {n : Next} (h : (execOp ρ o).run P w = .ok n w') : ∃ v, n = .value v := by
  obtain ⟨dst, op, type, pos, after, guard⟩ := o
  unfold valued at hv
  cases op <;> simp only [Bool.false_eq_true] at hv <;> simp only [execOp] at h
  case move x => simp at h; exact ⟨_, h.1.symm⟩
  case assign x => simp at h; exact ⟨_, h.1.symm⟩
  case pick c a b =>
    cases hb : (asBool (ρ c)).run P w with
    | ok x w1 => rw [Sem.run_bind, hb] at h; simp [Result.andThen] at h; exact ⟨_, h.1.symm⟩
    | halt x w1 => rw [Sem.run_bind, hb] at h; simp [Result.andThen] at h
  case nilCheck x =>
    split at h
    · simp [runtimePanic] at h
    · simp [runtimePanic] at h
    · simp [runtimePanic] at h
    · split at h
      · simp [runtimePanic] at h
      · obtain ⟨p, w1, _, h⟩ := run_bind_ok h
        obtain ⟨b, w2, _, h⟩ := run_bind_ok h
        split at h
        · obtain ⟨u, w3, h0, h⟩ := run_bind_ok h
          simp at h; exact ⟨_, h.1.symm⟩
        · simp at h; exact ⟨_, h.1.symm⟩
      · simp at h; exact ⟨_, h.1.symm⟩
    · simp at h; exact ⟨_, h.1.symm⟩
  case call c =>
    obtain ⟨callee, args, argTypes⟩ := c
    cases callee <;> simp only [Bool.false_eq_true] at hv
    rename_i b
    cases b <;> simp only [Bool.false_eq_true] at hv
    all_goals
      first
        | exact valued_bind (show ((Builtin.len_ argTypes type (args.map ρ)) >>= fun v => (pure (.value v) : Sem Next)).run P w = .ok n w' from h)
        | exact valued_bind (show ((Builtin.cap_ argTypes type (args.map ρ)) >>= fun v => (pure (.value v) : Sem Next)).run P w = .ok n w' from h)
  all_goals exact valued_bind h

/-- The kinds whose run does not hang on the world. -/
def worldless (o : Oper) : Bool := match o.op with
  | .move _ | .assign _ | .pick .. => true
  | _ => false

theorem worldless_run {P : Program} {ρ : Operand → Value} {o : Oper} (hv : worldless o = true) {w w1 : World} {n : Next} (h : (execOp ρ o).run P w = .ok n w1) (w' : World) : (execOp ρ o).run P w' = .ok n w' := by
  obtain ⟨dst, op, type, pos, after, guard⟩ := o
  unfold worldless at hv
  cases op <;> simp only [Bool.false_eq_true] at hv <;> simp only [execOp] at h ⊢
  case move x => simp at h; simp [h.1]
  case assign x => simp at h; simp [h.1]
  case pick c a b =>
    cases hc : ρ c <;> simp [asBool, hc, stuck, Sem.run, Result.andThen] at h ⊢
    exact h.1
theorem worldless_valued {o : Oper} (hv : worldless o = true) : valued o = true := by
  unfold worldless at hv
  unfold valued
  split at hv <;> simp_all

section
variable {P : Program} {ops : Array Oper} {Q : Exit → Act → World → Prop}

/-- What the reads U ask of a world. -/
def Kept (U : List Nat) : List (Nat × (World → Prop)) → World → Prop
  | [], _ => True
  | (k, Y) :: r, w => (U.contains k = true → Y w) ∧ Kept U r w
theorem Kept.at_ {U : List Nat} {w : World} : ∀ {Ss : List (Nat × (World → Prop))}, Kept U Ss w → ∀ k Y, (k, Y) ∈ Ss → U.contains k = true → Y w
  | [], _, _, _, h, _ => by cases h
  | (k', Y') :: r, h, k, Y, hm, hc => by
    rcases List.mem_cons.1 hm with h1 | h1
    · simp only [Prod.mk.injEq] at h1
      obtain ⟨rfl, rfl⟩ := h1
      exact h.1 hc
    · exact Kept.at_ h.2 k Y h1 hc

/-- The walk in the plan's order. A row of the plan: which operation; its class; (of an effect) the reads that were taken ahead of it and do not come before it. 'Ss': what each read of class 1 asks of a later world. -/
def wpPlan (P : Program) (ops : Array Oper) (Q : Exit → Act → World → Prop) : List (Nat × Nat × List Nat) → List (Nat × (World → Prop)) → Act → World → Prop
  | [], _, a, w => Q .normal a w
  | (i, c, U) :: rest, Ss, a, w => match ops[i]? with
    | none => False
    | some o =>
      match c with
      | 0 => (Region.wanted o (yielded ops a.tmps) = false ∧ wpPlan P ops Q rest Ss (a.put o.dst undef) w) ∨
          (Region.wanted o (yielded ops a.tmps) = true ∧ worldless o = true ∧ ∃ v, (execOp a.eval o).run P w = .ok (.value v) w ∧ wpPlan P ops Q rest Ss (a.put o.dst v) w)
      | 1 => (Region.wanted o (yielded ops a.tmps) = false ∧ wpPlan P ops Q rest ((i, fun _ => True) :: Ss) (a.put o.dst undef) w) ∨
          (Region.wanted o (yielded ops a.tmps) = true ∧ ∃ v, (execOp a.eval o).run P w = .ok (.value v) w ∧ wpPlan P ops Q rest ((i, Same P a o w) :: Ss) (a.put o.dst v) w)
      | j + 3 => wpOp P ops Q i (fun a' w' => Kept U Ss w' ∧ wpOp P ops Q j (fun a' w' => Kept U Ss w' ∧ wpPlan P ops Q rest Ss a' w') a' w') a w ∧
            wpOp P ops Q j (fun a' w' => Kept U Ss w' ∧ wpOp P ops Q i (fun a' w' => Kept U Ss w' ∧ wpPlan P ops Q rest Ss a' w') a' w') a w
      | _ => wpOp P ops Q i (fun a' w' => Kept U Ss w' ∧ wpPlan P ops Q rest Ss a' w') a w

/-- How many operations a plan has (a row of class j + 3: two effects, of which either may come first). -/
def planLen : List (Nat × Nat × List Nat) → Nat
  | [] => 0
  | (_, c, _) :: rest => (if 3 ≤ c then 2 else 1) + planLen rest

/-- A plan is good: each read may come up where it is taken, each effect is the only one that may. 'seen': the reads of class 1 that were taken. -/
def planOk (ops : Array Oper) (eff : Nat → Bool) : List (Nat × Nat × List Nat) → Array Bool → List Nat → Bool
  | [], listed, _ => (Region.ready .any ops listed).isEmpty
  | (i, c, U) :: rest, listed, seen =>
    (match c with
      | 0 => !eff i && (Region.ready .any ops listed).contains i && Region.free .any ops listed i
      | 1 => !eff i && (Region.ready .any ops listed).contains i && Region.free .any ops listed i
      | j + 3 => i != j && eff i && eff j && Region.ready .any ops listed == [i, j] && Region.ready .any ops (listed.setIfInBounds i true) == [j] && Region.ready .any ops (listed.setIfInBounds j true) == [i] &&
        (seen.all fun k => waits ops ops.size i k || U.contains k) && seen.all fun k => waits ops ops.size j k || U.contains k
      | _ => eff i && Region.ready .any ops listed == [i] && seen.all fun k => waits ops ops.size i k || U.contains k) &&
    planOk ops eff rest (if 3 ≤ c then (listed.setIfInBounds i true).setIfInBounds (c - 3) true else listed.setIfInBounds i true) (if c == 1 then i :: seen else seen)

/-- What has been asked of the worlds behind the effects. -/
def Asked (ops : Array Oper) (Ss : List (Nat × (World → Prop))) (j : Nat) (w : World) : Prop := ∀ k Y, (k, Y) ∈ Ss → waits ops ops.size j k = false → Y w

theorem asked_kept {seen U : List Nat} {Ss : List (Nat × (World → Prop))} {j : Nat} {w : World} (hseen : ∀ k Y, (k, Y) ∈ Ss → k ∈ seen)
    (hU : (seen.all fun k => waits ops ops.size j k || U.contains k) = true) (h : Kept U Ss w) : Asked ops Ss j w := by
  intro k Y hk hwt
  simp only [List.all_eq_true, Bool.or_eq_true] at hU
  rcases hU k (hseen k Y hk) with h2 | h2
  · rw [hwt] at h2; cases h2
  · exact Kept.at_ h k Y hk h2

theorem wpPlan_M {eff : Nat → Bool} (hsel : Region.noSelect ops = true) (hQ : ∀ c (a : Act) (d : Nat) v w, Q (.panic c) (a.put (some d) v) w → Q (.panic c) a w) :
    ∀ (plan : List (Nat × Nat × List Nat)) (listed : Array Bool) (seen : List Nat) (Ss : List (Nat × (World → Prop))) (a : Act) (w : World),
      Closed ops listed → (∀ k Y, (k, Y) ∈ Ss → k ∈ seen) →
      planOk ops eff plan listed seen = true → wpPlan P ops Q plan Ss a w → wpAnyM P ops Q eff (Asked ops Ss) (planLen plan) listed a w
  | [], listed, seen, Ss, a, w, _, _, hp, h => by
    simp only [planOk, List.isEmpty_iff] at hp
    exact ⟨hp, h⟩
  | (i, c, U) :: rest, listed, seen, Ss, a, w, hc, hseen, hp, h => by
    have hQ' : ∀ c (a : Act) (d : Option Tmp) v w, Q (.panic c) (a.put d v) w → Q (.panic c) a w := fun c a d v w h => by
      cases d with
      | none => exact h
      | some d => exact hQ c a d v w h
    simp only [planOk, Bool.and_eq_true] at hp
    obtain ⟨hp1, hp2⟩ := hp
    rw [wpPlan] at h
    cases ho : ops[i]? with
    | none => rw [ho] at h; exact h.elim
    | some o =>
      rw [ho] at h
      dsimp only at h
      unfold planLen
      match c, hp1, hp2, h with
      | 0, hp1, hp2, h =>
        rw [if_neg (by omega), Nat.add_comm 1]
        simp only [Bool.and_eq_true, Bool.not_eq_true'] at hp1
        obtain ⟨⟨he, hr⟩, hf⟩ := hp1
        have hr' : i ∈ Region.ready .any ops listed := by simpa using hr
        rcases h with ⟨hw, h⟩ | ⟨hw, hwl, v, hrun, h⟩
        · have H := wpPlan_M hsel hQ rest _ seen Ss _ w (closed_step hc hr') hseen (by simpa [planLen] using hp2) h
          exact wpAnyM_first (n := ops.size) (v := undef) (fun _ => True) ho (Region.noSelect_spec hsel) (fun c a w => hQ' c a _ _ w) he (fun _ _ _ _ _ => trivial) _ _ _ _ hc (Region.free_spec ho hf) hr' (Or.inr ⟨hw, rfl⟩) trivial H
        · have H := wpPlan_M hsel hQ rest _ seen Ss _ w (closed_step hc hr') hseen (by simpa [planLen] using hp2) h
          exact wpAnyM_first (n := ops.size) (v := v) (fun _ => True) ho (Region.noSelect_spec hsel) (fun c a w => hQ' c a _ _ w) he (fun _ _ _ _ _ => trivial) _ _ _ _ hc (Region.free_spec ho hf) hr' (Or.inl ⟨hw, fun w' _ => worldless_run hwl hrun w'⟩) trivial H
      | 1, hp1, hp2, h =>
        rw [if_neg (by omega), Nat.add_comm 1]
        simp only [Bool.and_eq_true, Bool.not_eq_true'] at hp1
        obtain ⟨⟨he, hr⟩, hf⟩ := hp1
        have hr' : i ∈ Region.ready .any ops listed := by simpa using hr
        rcases h with ⟨hw, h⟩ | ⟨hw, v, hrun, h⟩
        · have H := wpPlan_M hsel hQ rest _ (i :: seen) _ _ w (closed_step hc hr') (fun k Y hk => by
            rcases List.mem_cons.1 hk with h1 | h1
            · simp only [Prod.mk.injEq] at h1; rw [h1.1]; exact List.mem_cons_self
            · exact List.mem_cons_of_mem _ (hseen k Y h1)) (by simpa [planLen] using hp2) h
          refine wpAnyM_weaken (M := Asked ops ((i, fun _ => True) :: Ss)) (fun j w h k Y hk => h k Y (List.mem_cons_of_mem _ hk)) _ _ _ _ ?_
          exact wpAnyM_first (n := ops.size) (v := undef) (fun _ => True) ho (Region.noSelect_spec hsel) (fun c a w => hQ' c a _ _ w) he (fun _ _ _ _ _ => trivial) _ _ _ _ hc (Region.free_spec ho hf) hr' (Or.inr ⟨hw, rfl⟩) trivial H
        · have H := wpPlan_M hsel hQ rest _ (i :: seen) _ _ w (closed_step hc hr') (fun k Y hk => by
            rcases List.mem_cons.1 hk with h1 | h1
            · simp only [Prod.mk.injEq] at h1; rw [h1.1]; exact List.mem_cons_self
            · exact List.mem_cons_of_mem _ (hseen k Y h1)) (by simpa [planLen] using hp2) h
          refine wpAnyM_weaken (M := Asked ops ((i, Same P a o w) :: Ss)) (fun j w h k Y hk => h k Y (List.mem_cons_of_mem _ hk)) _ _ _ _ ?_
          exact wpAnyM_first (n := ops.size) (v := v) (Same P a o w) ho (Region.noSelect_spec hsel) (fun c a w => hQ' c a _ _ w) he (fun j _ hj w' hM => hM i _ List.mem_cons_self hj) _ _ _ _ hc (Region.free_spec ho hf) hr' (Or.inl ⟨hw, fun w' hs => hs v hrun⟩) Same.rfl H
      | 2, hp1, hp2, h =>
        rw [if_neg (by omega), Nat.add_comm 1]
        simp only [Bool.and_eq_true, beq_iff_eq] at hp1
        obtain ⟨⟨he, hr⟩, hU⟩ := hp1
        have hr' : i ∈ Region.ready .any ops listed := by rw [hr]; exact List.mem_cons_self
        refine ⟨fun h0 => (by rw [hr] at h0; cases h0), fun j hj => ?_⟩
        rw [hr] at hj
        obtain rfl := List.mem_singleton.1 hj
        refine wpOp_mono (fun a' w' h1 => ⟨?_, ?_⟩) h
        · rw [if_pos he]
          exact asked_kept hseen hU h1.1
        · exact wpPlan_M hsel hQ rest _ seen Ss _ w' (closed_step hc hr') hseen (by simpa [planLen] using hp2) h1.2
      | j + 3, hp1, hp2, h =>
        simp only [Bool.and_eq_true, beq_iff_eq, bne_iff_ne] at hp1
        obtain ⟨⟨⟨⟨⟨⟨⟨hij, hei⟩, hej⟩, hr⟩, hri⟩, hrj⟩, hUi⟩, hUj⟩ := hp1
        have hi' : i ∈ Region.ready .any ops listed := by rw [hr]; exact List.mem_cons_self
        have hji' : j ∈ Region.ready .any ops (listed.setIfInBounds i true) := by rw [hri]; exact List.mem_cons_self
        have hp2 : planOk ops eff rest ((listed.setIfInBounds i true).setIfInBounds j true) seen = true := by simpa using hp2
        rw [if_pos (by omega), show 2 + planLen rest = planLen rest + 1 + 1 by omega]
        refine ⟨fun h0 => (by rw [hr] at h0; cases h0), fun k hk => ?_⟩
        rw [hr] at hk
        rcases List.mem_cons.1 hk with rfl | hk
        · refine wpOp_mono (fun a' w' h1 => ⟨by rw [if_pos hei]; exact asked_kept hseen hUi h1.1, fun h0 => (by rw [hri] at h0; cases h0), fun k2 hk2 => ?_⟩) h.1
          rw [hri] at hk2
          obtain rfl := List.mem_singleton.1 hk2
          refine wpOp_mono (fun a2 w2 h2 => ⟨by rw [if_pos hej]; exact asked_kept hseen hUj h2.1, ?_⟩) h1.2
          exact wpPlan_M hsel hQ rest _ seen Ss _ w2 (closed_step (closed_step hc hi') hji') hseen hp2 h2.2
        · obtain rfl := List.mem_singleton.1 hk
          refine wpOp_mono (fun a' w' h1 => ⟨by rw [if_pos hej]; exact asked_kept hseen hUj h1.1, fun h0 => (by rw [hrj] at h0; cases h0), fun k2 hk2 => ?_⟩) h.2
          rw [hrj] at hk2
          obtain rfl := List.mem_singleton.1 hk2
          refine wpOp_mono (fun a2 w2 h2 => ⟨by rw [if_pos hei]; exact asked_kept hseen hUi h2.1, ?_⟩) h1.2
          have hsw : (listed.setIfInBounds k true).setIfInBounds k2 true = (listed.setIfInBounds k2 true).setIfInBounds k true := Array.setIfInBounds_comm _ _ (Ne.symm hij)
          rw [hsw]
          exact wpPlan_M hsel hQ rest _ seen Ss _ w2 (closed_step (closed_step hc hi') hji') hseen hp2 h2.2

theorem closed_none (ops : Array Oper) (n : Nat) : Closed ops (Array.replicate n false) := by
  intro j oj _ hl
  exfalso
  by_cases h : j < n
  · simp [h] at hl
  · simp [h] at hl

/-- Q, but nothing at a panic. -/
def Calm (Q : Exit → Act → World → Prop) : Exit → Act → World → Prop
  | .panic _, _, _ => False
  | e, a, w => Q e a w
theorem Calm.imp {Q : Exit → Act → World → Prop} : ∀ (e : Exit) (a : Act) (w : World), Calm Q e a w → Q e a w := fun e a w h => by
  cases e <;> first | exact h | exact (h : False).elim

/-- A region that draws its order, by a plan; it does not panic. -/
theorem wp_region_plan {id : Nat} {a : Act} {w : World} (plan : List (Nat × Nat × List Nat)) (hm : P.follows .mixedOrders = true) (hsel : Region.noSelect ops = true)
    (hp : (planLen plan == ops.size && planOk ops (fun j => plan.any fun e => e.1 == j && decide (2 ≤ e.2.1) || e.2.1 == j + 3) plan (Array.replicate ops.size false) []) = true)
    (h : wpPlan P ops (Calm Q) plan [] a w.drew) : (Code.region id ops true).wp P Q a w := by
  simp only [Bool.and_eq_true, beq_iff_eq] at hp
  refine Code.wp_mono Calm.imp (wp_region_any hm (wpAny_of_M _ _ _ _ (M := Asked ops []) (eff := fun j => plan.any fun e => e.1 == j && decide (2 ≤ e.2.1) || e.2.1 == j + 3) ?_))
  rw [← hp.1]
  exact wpPlan_M hsel (fun _ _ _ _ _ h => h) plan _ [] [] a _ (closed_none _ _) (fun _ _ h => by cases h) (by rw [hp.1]; exact hp.2) h

section steps
variable {i : Nat} {U : List Nat} {rest : List (Nat × Nat × List Nat)} {Ss : List (Nat × (World → Prop))} {a : Act} {w : World} {o : Oper}

theorem wpPlan_nil (h : Q .normal a w) : wpPlan P ops (Calm Q) [] Ss a w := h

theorem upon_value {K : Act → World → Prop} (hv : valued o = true)
    (h : o.wp P a w (fun a' w' => w' = w ∧ K a' w') (fun _ _ _ => False)) : ∃ v, (execOp a.eval o).run P w = .ok (.value v) w ∧ K (a.put o.dst v) w := by
  unfold Oper.wp at h
  cases hr : (execOp a.eval o).run P w with
  | ok n w1 =>
    obtain ⟨v, rfl⟩ := valued_run hv hr
    rw [hr] at h
    obtain ⟨rfl, h⟩ := h
    exact ⟨v, rfl, h⟩
  | halt x w1 =>
    rw [hr] at h
    cases x <;> exact h.elim

theorem wpPlan_skip0 (ho : ops[i]? = some o) (hw : Region.wanted o (yielded ops a.tmps) = false) (h : wpPlan P ops Q rest Ss (a.put o.dst undef) w) : wpPlan P ops Q ((i, 0, U) :: rest) Ss a w := by
  rw [wpPlan, ho]
  exact Or.inl ⟨hw, h⟩
theorem wpPlan_skip1 (ho : ops[i]? = some o) (hw : Region.wanted o (yielded ops a.tmps) = false) (h : wpPlan P ops Q rest ((i, fun _ => True) :: Ss) (a.put o.dst undef) w) : wpPlan P ops Q ((i, 1, U) :: rest) Ss a w := by
  rw [wpPlan, ho]
  exact Or.inl ⟨hw, h⟩
theorem wpPlan_read0 (ho : ops[i]? = some o) (hw : Region.wanted o (yielded ops a.tmps) = true) (hv : worldless o = true)
    (h : ∀ (K : Act → World → Prop) (Q' : Exit → Act → World → Prop), (∀ a', wpPlan P ops Q rest Ss a' w → K a' w) → o.wp P a w K Q') : wpPlan P ops Q ((i, 0, U) :: rest) Ss a w := by
  rw [wpPlan, ho]
  refine Or.inr ⟨hw, hv, ?_⟩
  exact upon_value (K := fun a' w => wpPlan P ops Q rest Ss a' w) (worldless_valued hv) (h _ _ fun a' h' => ⟨rfl, h'⟩)
theorem wpPlan_read1 (ho : ops[i]? = some o) (hw : Region.wanted o (yielded ops a.tmps) = true) (hv : valued o = true)
    (h : ∀ (K : Act → World → Prop) (Q' : Exit → Act → World → Prop), (∀ a', wpPlan P ops Q rest ((i, Same P a o w) :: Ss) a' w → K a' w) → o.wp P a w K Q') : wpPlan P ops Q ((i, 1, U) :: rest) Ss a w := by
  rw [wpPlan, ho]
  refine Or.inr ⟨hw, ?_⟩
  exact upon_value (K := fun a' w' => wpPlan P ops Q rest ((i, Same P a o w) :: Ss) a' w') hv (h _ _ fun a' h' => ⟨rfl, h'⟩)
/-- What is owed behind an effect (T: of what is still to be shown), and the rest. -/
def Owed (P : Program) (ops : Array Oper) (Q : Exit → Act → World → Prop) (U : List Nat) (T : List (Nat × (World → Prop))) (rest : List (Nat × Nat × List Nat)) (Ss : List (Nat × (World → Prop))) (a : Act) (w : World) : Prop :=
  Kept U T w ∧ wpPlan P ops Q rest Ss a w
section
variable {T : List (Nat × (World → Prop))} {k : Nat} {Y : World → Prop}
theorem Owed.none_ (h : wpPlan P ops Q rest Ss a w) : Owed P ops Q [] T rest Ss a w := ⟨by
  induction T with
  | nil => trivial
  | cons x r ih => exact ⟨fun h => (by simp at h), ih⟩, h⟩
theorem Owed.nil_ (h : wpPlan P ops Q rest Ss a w) : Owed P ops Q U [] rest Ss a w := ⟨trivial, h⟩
theorem Owed.miss (hc : U.contains k = false) (h : Owed P ops Q U T rest Ss a w) : Owed P ops Q U ((k, Y) :: T) rest Ss a w := ⟨⟨fun h => (by rw [hc] at h; cases h), h.1⟩, h.2⟩
theorem Owed.hit (hy : Y w) (h : Owed P ops Q U T rest Ss a w) : Owed P ops Q U ((k, Y) :: T) rest Ss a w := ⟨⟨fun _ => hy, h.1⟩, h.2⟩
end
theorem wpPlan_eff (ho : ops[i]? = some o) (hw : Region.wanted o (yielded ops a.tmps) = true)
    (h : ∀ K : Act → World → Prop, (∀ a' w', Owed P ops Q U Ss rest Ss a' w' → K a' w') → o.wp P a w K Q) : wpPlan P ops Q ((i, 2, U) :: rest) Ss a w := by
  rw [wpPlan, ho]
  exact wpOp_step ho fun K hK => by rw [if_pos hw]; exact h K hK
theorem wpPlan_skip2 (ho : ops[i]? = some o) (hw : Region.wanted o (yielded ops a.tmps) = false) (h : Owed P ops Q U Ss rest Ss (a.put o.dst undef) w) : wpPlan P ops Q ((i, 2, U) :: rest) Ss a w := by
  rw [wpPlan, ho]
  exact wpOp_step ho fun K hK => by
    rw [if_neg (by rw [hw]; exact Bool.false_ne_true)]
    exact hK _ _ h
/-- Two effects of which either may come first: both ways. -/
theorem wpPlan_fork {j : Nat} (h1 : wpPlan P ops Q ((i, 2, U) :: (j, 2, U) :: rest) Ss a w) (h2 : wpPlan P ops Q ((j, 2, U) :: (i, 2, U) :: rest) Ss a w) :
    wpPlan P ops Q ((i, j + 3, U) :: rest) Ss a w := by
  rw [wpPlan] at h1 h2 ⊢
  cases ho : ops[i]? with
  | none => rw [ho] at h1; exact h1.elim
  | some o =>
    rw [ho] at h1
    cases ho2 : ops[j]? with
    | none => rw [ho2] at h2; exact h2.elim
    | some o2 =>
      rw [ho2] at h2
      refine ⟨wpOp_mono (fun a' w' h => ⟨h.1, ?_⟩) h1, wpOp_mono (fun a' w' h => ⟨h.1, ?_⟩) h2⟩
      · have h3 := h.2
        rw [wpPlan, ho2] at h3
        exact h3
      · have h3 := h.2
        rw [wpPlan, ho] at h3
        exact h3
end steps
end

attribute [irreducible] wpPlan Owed

end Go.Proofs.YtlblaopkmigheaaGreatDoor
