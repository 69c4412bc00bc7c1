/- formulas as lists of nodes: subformulas, where they end, and the stack that finds the ends: plain laws -/
import Derived.Test.YtmciinikfjfegaaSgN3
namespace Go.Proofs.Ytmciinikfjfegaa
open Go Go.RowKit
set_option maxHeartbeats 4000000

theorem encP : ∀ F : Form, 1 ≤ F.enc.length
  | .tru => by simp [Form.enc]
  | .may _ _ => by simp [Form.enc]
  | .neg _ => by simp [Form.enc]
  | .con _ => by simp [Form.enc]
theorem Forms.len_le : ∀ gs : Forms, gs.len ≤ gs.enc.length
  | .nil => Nat.le_refl _
  | .cons g gs => by
    rw [Forms.len, Forms.enc, List.length_append]
    have h1 := encP g
    have h2 := Forms.len_le gs
    omega
/- H stands in G at k -/
mutual
inductive Occ : Form → Nat → Form → Prop where
  | self {G : Form} : Occ G 0 G
  | may {e : Int} {g : Form} {k : Nat} {H : Form} : Occ g k H → Occ (.may e g) (k + 1) H
  | neg {g : Form} {k : Nat} {H : Form} : Occ g k H → Occ (.neg g) (k + 1) H
  | con {gs : Forms} {k : Nat} {H : Form} : OccS gs k H → Occ (.con gs) (k + 1) H
inductive OccS : Forms → Nat → Form → Prop where
  | head {g : Form} {gs : Forms} {k : Nat} {H : Form} : Occ g k H → OccS (.cons g gs) k H
  | tail {g : Form} {gs : Forms} {k : Nat} {H : Form} : OccS gs k H → OccS (.cons g gs) (g.enc.length + k) H
end
mutual
theorem Occ.lt : ∀ {G H : Form} {k : Nat}, Occ G k H → k + H.enc.length ≤ G.enc.length
  | _, _, _, .self => by omega
  | _, _, _, .may h => by
    have := h.lt
    rw [Form.enc, List.length_cons]
    omega
  | _, _, _, .neg h => by
    have := h.lt
    rw [Form.enc, List.length_cons]
    omega
  | _, _, _, .con h => by
    have := h.lt
    rw [Form.enc, List.length_cons]
    omega
theorem OccS.lt : ∀ {gs : Forms} {H : Form} {k : Nat}, OccS gs k H → k + H.enc.length ≤ gs.enc.length
  | _, _, _, .head h => by
    have := h.lt
    rw [Forms.enc, List.length_append]
    omega
  | _, _, _, .tail h => by
    have := h.lt
    rw [Forms.enc, List.length_append]
    omega
end
mutual
theorem Occ.unique : ∀ {G H H' : Form} {k : Nat}, Occ G k H → Occ G k H' → H = H'
  | _, _, _, _, .self, h' => by
    cases h' with
    | self => rfl
  | _, _, _, _, .may h, h' => by
    cases h' with
    | may h' => exact h.unique h'
  | _, _, _, _, .neg h, h' => by
    cases h' with
    | neg h' => exact h.unique h'
  | _, _, _, _, .con h, h' => by
    cases h' with
    | con h' => exact h.unique rfl h'
theorem OccS.unique : ∀ {gs : Forms} {H H' : Form} {k k' : Nat}, OccS gs k H → k = k' → OccS gs k' H' → H = H'
  | _, _, _, _, _, .head h, e, .head h' => by
    subst e
    exact h.unique h'
  | _, H, _, _, _, .head h, e, .tail h' => by
    have h1 := h.lt
    have h2 := encP H
    omega
  | _, _, H', _, _, .tail h, e, .head h' => by
    have h1 := h'.lt
    have h2 := encP H'
    omega
  | _, _, _, _, _, .tail h, e, .tail h' => h.unique (by omega) h'
end

/- the stack: (node, how many kids are missing), the top first -/
def decS : List (Nat × Nat) → List (Nat × Nat)
  | [] => []
  | (q, m) :: S => (q, m - 1) :: S
theorem decS_len (S : List (Nat × Nat)) : (decS S).length = S.length := by
  cases S with
  | nil => rfl
  | cons x S => rfl
/-- nodes whose kids are all there are taken off -/
def clo (pos : Nat) : List (Nat × Nat) → List Nat → List (Nat × Nat) × List Nat
  | [], out => ([], out)
  | (p, 0) :: S, out => clo pos (decS S) (out.set p pos)
  | (p, m + 1) :: S, out => ((p, m + 1) :: S, out)
termination_by S => S.length
decreasing_by simp [decS_len]
theorem clo_nil (pos : Nat) (out : List Nat) : clo pos [] out = ([], out) := by rw [clo]
theorem clo_zero (pos p : Nat) (S : List (Nat × Nat)) (out : List Nat) : clo pos ((p, 0) :: S) out = clo pos (decS S) (out.set p pos) := by rw [clo]
theorem clo_succ (pos p m : Nat) (S : List (Nat × Nat)) (out : List Nat) : clo pos ((p, m + 1) :: S) out = ((p, m + 1) :: S, out) := by rw [clo]
def stepE (i kids : Nat) (st : List (Nat × Nat) × List Nat) : List (Nat × Nat) × List Nat := clo (i + 1) ((i, kids) :: st.1) st.2
def feed : List FNode → Nat → List (Nat × Nat) × List Nat → List (Nat × Nat) × List Nat
  | [], _, st => st
  | x :: f, i, st => feed f (i + 1) (stepE i x.kids.toNat st)
theorem feed_append : ∀ (f g : List FNode) (i : Nat) (st : List (Nat × Nat) × List Nat), feed (f ++ g) i st = feed g (i + f.length) (feed f i st)
  | [], g, i, st => rfl
  | x :: f, g, i, st => by
    rw [List.cons_append, feed, feed, feed_append f g, List.length_cons, show i + (f.length + 1) = i + 1 + f.length by omega]
theorem feed_snoc (f : List FNode) (x : FNode) (i : Nat) (st : List (Nat × Nat) × List Nat) : feed (f ++ [x]) i st = stepE (i + f.length) x.kids.toNat (feed f i st) := by
  rw [feed_append, feed, feed]
/-- the ends of G's subformulas, G standing at i -/
def Good (G : Form) (i : Nat) (out : List Nat) : Prop := ∀ k H, Occ G k H → out[i + k]? = some (i + k + H.enc.length)
def GoodS (gs : Forms) (i : Nat) (out : List Nat) : Prop := ∀ k H, OccS gs k H → out[i + k]? = some (i + k + H.enc.length)
def KeepO (i j : Nat) (out out' : List Nat) : Prop := out'.length = out.length ∧ ∀ q, q < i ∨ j ≤ q → out'[q]? = out[q]?
/-- a node of one kid -/
theorem feed_one {G g : Form} {i : Nat} {S : List (Nat × Nat)} {out out1 : List Nat} (h1 : feed g.enc (i + 1) ((i, 1) :: S, out) = clo (i + 1 + g.enc.length) (decS ((i, 1) :: S)) out1) (h2 : KeepO (i + 1) (i + 1 + g.enc.length) out out1) (h3 : Good g (i + 1) out1)
    (hl : i + G.enc.length ≤ out.length) (hf : feed G.enc i (S, out) = feed g.enc (i + 1) ((i, 1) :: S, out)) (hlen : G.enc.length = g.enc.length + 1) (hocc : ∀ k H, Occ G k H → (k = 0 ∧ H = G) ∨ ∃ k', k = k' + 1 ∧ Occ g k' H) :
    ∃ out', feed G.enc i (S, out) = clo (i + G.enc.length) (decS S) out' ∧ KeepO i (i + G.enc.length) out out' ∧ Good G i out' := by
  have hp : i + 1 + g.enc.length = i + G.enc.length := by omega
  rw [hp] at h1 h2
  refine ⟨out1.set i (i + G.enc.length), ?_, ⟨by rw [List.length_set]; exact h2.1, fun q hq => ?_⟩, fun k H h => ?_⟩
  · rw [hf, h1]
    exact clo_zero _ _ _ _
  · rw [List.getElem?_set, if_neg (by omega)]
    exact h2.2 q (by omega)
  · rcases hocc k H h with ⟨rfl, rfl⟩ | ⟨k', rfl, h'⟩
    · rw [Nat.add_zero, List.getElem?_set, if_pos rfl, if_pos (by rw [h2.1]; omega)]
    · rw [List.getElem?_set, if_neg (by omega), show i + (k' + 1) = i + 1 + k' by omega]
      exact h3 k' H h'
mutual
theorem feed_form : ∀ (G : Form) (i : Nat) (S : List (Nat × Nat)) (out : List Nat), i + G.enc.length ≤ out.length →
    ∃ out', feed G.enc i (S, out) = clo (i + G.enc.length) (decS S) out' ∧ KeepO i (i + G.enc.length) out out' ∧ Good G i out'
  | .tru, i, S, out, hl => by
    rw [Form.enc] at hl ⊢
    refine ⟨out.set i (i + 1), ?_, ⟨List.length_set, fun q hq => ?_⟩, fun k H h => ?_⟩
    · show clo (i + 1) ((i, 0) :: S) out = _
      rw [clo_zero]
      rfl
    · rw [List.getElem?_set, if_neg (by simp at hq; omega)]
    · cases h with
      | self =>
        show (out.set i (i + 1))[i]? = some (i + 1)
        have hi : i < out.length := by simp at hl; omega
        rw [List.getElem?_set_self hi]
  | .may e g, i, S, out, hl => by
    rw [Form.enc, List.length_cons] at hl
    obtain ⟨out1, h1, h2, h3⟩ := feed_form g (i + 1) ((i, 1) :: S) out (by omega)
    exact feed_one h1 h2 h3 (by rw [Form.enc, List.length_cons]; omega) (by rw [Form.enc]; show feed g.enc (i + 1) (clo (i + 1) ((i, 1) :: S) out) = _; rw [clo_succ]) (by rw [Form.enc, List.length_cons]) fun k H h => by
      cases h with
      | self => exact .inl ⟨rfl, rfl⟩
      | may h => exact .inr ⟨_, rfl, h⟩
  | .neg g, i, S, out, hl => by
    rw [Form.enc, List.length_cons] at hl
    obtain ⟨out1, h1, h2, h3⟩ := feed_form g (i + 1) ((i, 1) :: S) out (by omega)
    exact feed_one h1 h2 h3 (by rw [Form.enc, List.length_cons]; omega) (by rw [Form.enc]; show feed g.enc (i + 1) (clo (i + 1) ((i, 1) :: S) out) = _; rw [clo_succ]) (by rw [Form.enc, List.length_cons]) fun k H h => by
      cases h with
      | self => exact .inl ⟨rfl, rfl⟩
      | neg h => exact .inr ⟨_, rfl, h⟩
  | .con gs, i, S, out, hl => by
    rw [Form.enc, List.length_cons] at hl
    obtain ⟨out1, h1, h2, h3⟩ := feed_forms gs i (i + 1) S out (by omega)
    have hlen : (Form.con gs).enc.length = gs.enc.length + 1 := by rw [Form.enc, List.length_cons]
    have hp : i + 1 + gs.enc.length = i + (Form.con gs).enc.length := by omega
    rw [hp] at h1 h2
    refine ⟨out1.set i (i + (Form.con gs).enc.length), ?_, ⟨by rw [List.length_set]; exact h2.1, fun q hq => ?_⟩, fun k H h => ?_⟩
    · have hf : feed (Form.con gs).enc i (S, out) = feed gs.enc (i + 1) (clo (i + 1) ((i, gs.len) :: S) out) := by rw [Form.enc]; rfl
      rw [hf, h1]
      exact clo_zero _ _ _ _
    · rw [List.getElem?_set, if_neg (by omega)]
      exact h2.2 q (by omega)
    · cases h with
      | self => rw [Nat.add_zero, List.getElem?_set, if_pos rfl, if_pos (by rw [h2.1]; omega)]
      | con h =>
        rename_i k'
        rw [List.getElem?_set, if_neg (by omega), show i + (k' + 1) = i + 1 + k' by omega]
        exact h3 k' H h
theorem feed_forms : ∀ (gs : Forms) (p i : Nat) (S : List (Nat × Nat)) (out : List Nat), i + gs.enc.length ≤ out.length →
    ∃ out', feed gs.enc i (clo i ((p, gs.len) :: S) out) = clo (i + gs.enc.length) ((p, 0) :: S) out' ∧ KeepO i (i + gs.enc.length) out out' ∧ GoodS gs i out'
  | .nil, p, i, S, out, hl => ⟨out, rfl, ⟨rfl, fun _ _ => rfl⟩, fun k H h => by cases h⟩
  | .cons g gs, p, i, S, out, hl => by
    rw [Forms.enc, List.length_append] at hl
    obtain ⟨out1, h1, h2, h3⟩ := feed_form g i ((p, gs.len + 1) :: S) out (by omega)
    obtain ⟨out2, h4, h5, h6⟩ := feed_forms gs p (i + g.enc.length) S out1 (by rw [h2.1]; omega)
    have hlen : (Forms.cons g gs).enc.length = g.enc.length + gs.enc.length := by rw [Forms.enc, List.length_append]
    have hp : i + g.enc.length + gs.enc.length = i + (Forms.cons g gs).enc.length := by omega
    rw [hp] at h4 h5
    refine ⟨out2, ?_, ⟨by rw [h5.1, h2.1], fun q hq => ?_⟩, fun k H h => ?_⟩
    · rw [Forms.len, clo_succ, Forms.enc, feed_append, h1]
      exact h4
    · rw [h5.2 q (by omega)]
      exact h2.2 q (by omega)
    · cases h with
      | head h =>
        have h7 := h.lt
        have h8 := encP H
        rw [h5.2 (i + k) (by omega)]
        exact h3 k H h
      | tail h =>
        rename_i k'
        rw [show i + (g.enc.length + k') = i + g.enc.length + k' by omega]
        exact h6 k' H h
end
/-- the ends of a whole formula -/
theorem feed_all (F : Form) (out : List Nat) (hl : F.enc.length ≤ out.length) : ∃ out', feed F.enc 0 ([], out) = ([], out') ∧ out'.length = out.length ∧ Good F 0 out' := by
  obtain ⟨out', h1, h2, h3⟩ := feed_form F 0 [] out (by omega)
  refine ⟨out', ?_, h2.1, h3⟩
  rw [h1]
  exact clo_nil _ _
/- ahead of the end the stack is not empty -/
mutual
theorem feed_open : ∀ (G : Form) (i j : Nat) (S : List (Nat × Nat)) (out : List Nat), i + G.enc.length ≤ out.length → 0 < j → j < G.enc.length → S.length + 1 ≤ (feed (G.enc.take j) i (S, out)).1.length
  | .tru, i, j, S, out, _, h0, hj => by
    rw [Form.enc] at hj
    simp at hj
    omega
  | .may e g, i, j + 1, S, out, hl, _, hj => by
    rw [Form.enc, List.length_cons] at hl hj
    have h1 : feed ((Form.may e g).enc.take (j + 1)) i (S, out) = feed (g.enc.take j) (i + 1) ((i, 1) :: S, out) := by
      rw [Form.enc, List.take_succ_cons]
      show feed (g.enc.take j) (i + 1) (clo (i + 1) ((i, 1) :: S) out) = _
      rw [clo_succ]
    rw [h1]
    cases j with
    | zero => simp [feed]
    | succ j =>
      have := feed_open g (i + 1) (j + 1) ((i, 1) :: S) out (by omega) (by omega) (by omega)
      rw [List.length_cons] at this
      omega
  | .neg g, i, j + 1, S, out, hl, _, hj => by
    rw [Form.enc, List.length_cons] at hl hj
    have h1 : feed ((Form.neg g).enc.take (j + 1)) i (S, out) = feed (g.enc.take j) (i + 1) ((i, 1) :: S, out) := by
      rw [Form.enc, List.take_succ_cons]
      show feed (g.enc.take j) (i + 1) (clo (i + 1) ((i, 1) :: S) out) = _
      rw [clo_succ]
    rw [h1]
    cases j with
    | zero => simp [feed]
    | succ j =>
      have := feed_open g (i + 1) (j + 1) ((i, 1) :: S) out (by omega) (by omega) (by omega)
      rw [List.length_cons] at this
      omega
  | .con gs, i, j + 1, S, out, hl, _, hj => by
    rw [Form.enc, List.length_cons] at hl hj
    have h1 : feed ((Form.con gs).enc.take (j + 1)) i (S, out) = feed (gs.enc.take j) (i + 1) (clo (i + 1) ((i, gs.len) :: S) out) := by
      rw [Form.enc, List.take_succ_cons]
      rfl
    rw [h1]
    exact feeds_open gs i (i + 1) j S out (by omega) (by omega)
theorem feeds_open : ∀ (gs : Forms) (p i j : Nat) (S : List (Nat × Nat)) (out : List Nat), i + gs.enc.length ≤ out.length → j < gs.enc.length → S.length + 1 ≤ (feed (gs.enc.take j) i (clo i ((p, gs.len) :: S) out)).1.length
  | .nil, p, i, j, S, out, _, hj => by
    rw [Forms.enc] at hj
    simp at hj
  | .cons g gs, p, i, j, S, out, hl, hj => by
    rw [Forms.enc, List.length_append] at hl hj
    rw [Forms.len, clo_succ, Forms.enc]
    by_cases hjg : j < g.enc.length
    · rw [List.take_append_of_le_length (by omega)]
      cases j with
      | zero => simp [feed]
      | succ j =>
        have := feed_open g i (j + 1) ((p, gs.len + 1) :: S) out (by omega) (by omega) hjg
        rw [List.length_cons] at this
        omega
    · obtain ⟨out1, h1, h2, h3⟩ := feed_form g i ((p, gs.len + 1) :: S) out (by omega)
      rw [List.take_append, List.take_of_length_le (by omega), feed_append, h1]
      exact feeds_open gs p (i + g.enc.length) (j - g.enc.length) S out1 (by rw [h2.1]; omega) (by omega)
end

/- nodes that are valid -/
def vN (x : FNode) : Bool := (x.op == 1 && x.kids == 0 && x.ev == 0) || (x.op == 2 && x.kids == 1 && decide (0 ≤ x.ev) && decide (x.ev ≤ 1025)) || (x.op == 3 && x.kids == 1 && x.ev == 0) || (x.op == 4 && x.ev == 0)
mutual
def FormOk : Form → Prop
  | .tru => True
  | .may e g => (0 ≤ e ∧ e ≤ 1025) ∧ FormOk g
  | .neg g => FormOk g
  | .con gs => FormsOk gs
def FormsOk : Forms → Prop
  | .nil => True
  | .cons g gs => FormOk g ∧ FormsOk gs
end
mutual
theorem form_vN : ∀ (G : Form), FormOk G → ∀ x ∈ G.enc, vN x = true
  | .tru, _, x, hx => by
    rw [Form.enc, List.mem_singleton] at hx
    subst hx
    rfl
  | .may e g, h, x, hx => by
    rw [FormOk] at h
    rw [Form.enc, List.mem_cons] at hx
    rcases hx with rfl | hx
    · simp [vN, h.1.1, h.1.2]
    · exact form_vN g h.2 x hx
  | .neg g, h, x, hx => by
    rw [FormOk] at h
    rw [Form.enc, List.mem_cons] at hx
    rcases hx with rfl | hx
    · rfl
    · exact form_vN g h x hx
  | .con gs, h, x, hx => by
    rw [FormOk] at h
    rw [Form.enc, List.mem_cons] at hx
    rcases hx with rfl | hx
    · simp [vN]
    · exact forms_vN gs h x hx
theorem forms_vN : ∀ (gs : Forms), FormsOk gs → ∀ x ∈ gs.enc, vN x = true
  | .nil, _, x, hx => by cases hx
  | .cons g gs, h, x, hx => by
    rw [FormsOk] at h
    rw [Forms.enc, List.mem_append] at hx
    rcases hx with hx | hx
    · exact form_vN g h.1 x hx
    · exact forms_vN gs h.2 x hx
end
/- the kids of the nodes -/
mutual
theorem form_kids : ∀ (G : Form), ∀ x ∈ G.enc, 0 ≤ x.kids ∧ x.kids + 1 ≤ (G.enc.length : Int)
  | .tru, x, hx => by
    rw [Form.enc, List.mem_singleton] at hx
    subst hx
    simp [Form.enc]
  | .may e g, x, hx => by
    have h1 := encP g
    rw [Form.enc, List.mem_cons] at hx
    rw [Form.enc, List.length_cons]
    rcases hx with rfl | hx
    · dsimp only
      omega
    · have := form_kids g x hx
      omega
  | .neg g, x, hx => by
    have h1 := encP g
    rw [Form.enc, List.mem_cons] at hx
    rw [Form.enc, List.length_cons]
    rcases hx with rfl | hx
    · dsimp only
      omega
    · have := form_kids g x hx
      omega
  | .con gs, x, hx => by
    have h1 := Forms.len_le gs
    rw [Form.enc, List.mem_cons] at hx
    rw [Form.enc, List.length_cons]
    rcases hx with rfl | hx
    · dsimp only
      omega
    · have := forms_kids gs x hx
      omega
theorem forms_kids : ∀ (gs : Forms), ∀ x ∈ gs.enc, 0 ≤ x.kids ∧ x.kids + 1 ≤ (gs.enc.length : Int)
  | .nil, x, hx => by cases hx
  | .cons g gs, x, hx => by
    rw [Forms.enc, List.mem_append] at hx
    rw [Forms.enc, List.length_append]
    rcases hx with hx | hx
    · have := form_kids g x hx
      omega
    · have := forms_kids gs x hx
      omega
end

end Go.Proofs.Ytmciinikfjfegaa
