/- formulas: what holds in states of one class, and the formula that tells two states apart: plain laws -/
import Derived.Test.YtmciinikfjfegaaSgN1
namespace Go.Proofs.Ytmciinikfjfegaa
open Go Go.RowKit
set_option maxHeartbeats 4000000

/-- a formula's node -/
structure FNode where
  op : Int
  ev : Int
  kids : Int
deriving DecidableEq
mutual
inductive Form where
  | tru : Form
  | may : Int → Form → Form
  | neg : Form → Form
  | con : Forms → Form
inductive Forms where
  | nil : Forms
  | cons : Form → Forms → Forms
end
def Forms.len : Forms → Nat
  | .nil => 0
  | .cons _ fs => fs.len + 1
mutual
def Form.enc : Form → List FNode
  | .tru => [⟨1, 0, 0⟩]
  | .may e f => ⟨2, e, 1⟩ :: f.enc
  | .neg f => ⟨3, 0, 1⟩ :: f.enc
  | .con fs => ⟨4, 0, fs.len⟩ :: fs.enc
def Forms.enc : Forms → List FNode
  | .nil => []
  | .cons f fs => f.enc ++ fs.enc
end
mutual
def sat (ls : List (List Arc)) : Form → Nat → Bool
  | .tru, _ => true
  | .may e f, s => (rowAt ls s).any fun a => decide (a.ev = e) && sat ls f a.to.toNat
  | .neg f, s => !sat ls f s
  | .con fs, s => satAll ls fs s
def satAll (ls : List (List Arc)) : Forms → Nat → Bool
  | .nil, _ => true
  | .cons f fs, s => sat ls f s && satAll ls fs s
end

section
variable {ls : List (List Arc)} {K : Nat}
def agr (ls : List (List Arc)) (k s t : Nat) : Prop := (clK ls k).getD s 0 = (clK ls k).getD t 0
instance (k s t : Nat) : Decidable (agr ls k s t) := inferInstanceAs (Decidable (_ = _))
theorem agr.symm {k s t : Nat} (h : agr ls k s t) : agr ls k t s := Eq.symm h
theorem agr_zero {s t : Nat} (hs : s < ls.length) (ht : t < ls.length) : agr ls 0 s t := by
  rw [agr, clK, List.getD_eq_getElem?_getD, List.getD_eq_getElem?_getD, List.getElem?_replicate, List.getElem?_replicate, if_pos hs, if_pos ht]
theorem agr_down {k s t : Nat} (hs : s < ls.length) (ht : t < ls.length) (h : agr ls (k + 1) s t) : agr ls k s t := clK_fine hs ht h
theorem agr_le {j k s t : Nat} (hs : s < ls.length) (ht : t < ls.length) (hj : j ≤ k) (h : agr ls k s t) : agr ls j s t := by
  induction k with
  | zero =>
    obtain rfl : j = 0 := by omega
    exact h
  | succ k ih =>
    by_cases e : j = k + 1
    · subst e; exact h
    · exact ih (by omega) (agr_down hs ht h)
theorem agr_next {k s t : Nat} (hs : s < ls.length) (ht : t < ls.length) : agr ls (k + 1) s t ↔ agr ls k s t ∧ covB (rowAt ls s) (rowAt ls t) (clK ls k) = true ∧ covB (rowAt ls t) (rowAt ls s) (clK ls k) = true := by
  rw [agr, clK_iff hs ht]
  show keyS ls (clK ls k) s = keyS ls (clK ls k) t ↔ _
  rw [keyS, keyS, Prod.mk.injEq, sig_iff, Bool.and_eq_true]
  constructor
  · rintro ⟨h1, h2, h3⟩; exact ⟨h1, h3, h2⟩
  · rintro ⟨h1, h2, h3⟩; exact ⟨h1, h3, h2⟩
theorem row_in (h : TosIn ls) {s : Nat} {a : Arc} (ha : a ∈ rowAt ls s) : a.to.toNat < ls.length ∧ ((a.to.toNat : Nat) : Int) = a.to := by
  have := h.row s a ha
  omega
theorem num_agr {k : Nat} {a b : Arc} (h : numAt (intC (clK ls k)) a.to = numAt (intC (clK ls k)) b.to) (ha : a.to.toNat < ls.length) (hb : b.to.toNat < ls.length) : agr ls k a.to.toNat b.to.toNat := by
  have hl := clK_len ls k
  rw [numAt, numAt, intC, List.getD_eq_getElem?_getD, List.getD_eq_getElem?_getD, List.getElem?_map, List.getElem?_map, List.getElem?_eq_getElem (show a.to.toNat < (clK ls k).length by omega), List.getElem?_eq_getElem (show b.to.toNat < (clK ls k).length by omega)] at h
  rw [agr, List.getD_eq_getElem?_getD, List.getD_eq_getElem?_getD, List.getElem?_eq_getElem (show a.to.toNat < (clK ls k).length by omega), List.getElem?_eq_getElem (show b.to.toNat < (clK ls k).length by omega)]
  simp only [Option.map_some, Option.getD_some] at h ⊢
  omega
theorem agr_num {k : Nat} {a b : Arc} (h : agr ls k a.to.toNat b.to.toNat) (ha : a.to.toNat < ls.length) (hb : b.to.toNat < ls.length) : numAt (intC (clK ls k)) a.to = numAt (intC (clK ls k)) b.to := by
  have hl := clK_len ls k
  rw [agr, List.getD_eq_getElem?_getD, List.getD_eq_getElem?_getD, List.getElem?_eq_getElem (show a.to.toNat < (clK ls k).length by omega), List.getElem?_eq_getElem (show b.to.toNat < (clK ls k).length by omega)] at h
  rw [numAt, numAt, intC, List.getD_eq_getElem?_getD, List.getD_eq_getElem?_getD, List.getElem?_map, List.getElem?_map, List.getElem?_eq_getElem (show a.to.toNat < (clK ls k).length by omega), List.getElem?_eq_getElem (show b.to.toNat < (clK ls k).length by omega)]
  simp only [Option.map_some, Option.getD_some] at h ⊢
  omega
/-- each arc of one state has its like at the other -/
theorem cov_arc (hT : TosIn ls) {k s t : Nat} (h : covB (rowAt ls s) (rowAt ls t) (clK ls k) = true) {a : Arc} (ha : a ∈ rowAt ls s) : ∃ b ∈ rowAt ls t, b.ev = a.ev ∧ agr ls k a.to.toNat b.to.toNat := by
  obtain ⟨b, hb, e⟩ := List.mem_map.1 (cov_iff.1 h _ (List.mem_map_of_mem ha))
  have h1 : (ren (intC (clK ls k)) b).ev = (ren (intC (clK ls k)) a).ev := by rw [e]
  have h2 : (ren (intC (clK ls k)) b).to = (ren (intC (clK ls k)) a).to := by rw [e]
  exact ⟨b, hb, h1, num_agr h2.symm (row_in hT ha).1 (row_in hT hb).1⟩
theorem arc_cov (hT : TosIn ls) {k s t : Nat} (h : ∀ a ∈ rowAt ls s, ∃ b ∈ rowAt ls t, b.ev = a.ev ∧ agr ls k a.to.toNat b.to.toNat) : covB (rowAt ls s) (rowAt ls t) (clK ls k) = true := by
  refine cov_iff.2 fun x hx => ?_
  obtain ⟨a, ha, rfl⟩ := List.mem_map.1 hx
  obtain ⟨b, hb, h1, h2⟩ := h a ha
  exact List.mem_map.2 ⟨b, hb, by rw [ren, ren, h1, agr_num h2 (row_in hT ha).1 (row_in hT hb).1]⟩
theorem agr_done (hd : DoneR ls K) {s t : Nat} : agr ls (K + 1) s t ↔ agr ls K s t := by rw [agr, agr, hd.2]
/-- what relates only states that match each other relates only states of one class -/
theorem bisim_agr (hT : TosIn ls) {R : Nat → Nat → Prop} (hin : ∀ s t, R s t → s < ls.length ∧ t < ls.length)
    (h : ∀ s t, R s t → (∀ a ∈ rowAt ls s, ∃ b ∈ rowAt ls t, b.ev = a.ev ∧ R a.to.toNat b.to.toNat) ∧ (∀ b ∈ rowAt ls t, ∃ a ∈ rowAt ls s, a.ev = b.ev ∧ R a.to.toNat b.to.toNat)) : ∀ k s t, R s t → agr ls k s t
  | 0, s, t, hr => agr_zero (hin s t hr).1 (hin s t hr).2
  | k + 1, s, t, hr => by
    obtain ⟨h1, h2⟩ := h s t hr
    obtain ⟨hs, ht⟩ := hin s t hr
    refine (agr_next hs ht).2 ⟨bisim_agr hT hin h k s t hr, arc_cov hT fun a ha => ?_, arc_cov hT fun b hb => ?_⟩
    · obtain ⟨b, hb, e, hr'⟩ := h1 a ha
      exact ⟨b, hb, e, bisim_agr hT hin h k _ _ hr'⟩
    · obtain ⟨a, ha, e, hr'⟩ := h2 b hb
      exact ⟨a, ha, e, (bisim_agr hT hin h k _ _ hr').symm⟩
/-- states of one class match each other, at the end -/
theorem agr_bisim (hT : TosIn ls) (hd : DoneR ls K) {s t : Nat} (hs : s < ls.length) (ht : t < ls.length) (h : agr ls K s t) : ∀ a ∈ rowAt ls s, ∃ b ∈ rowAt ls t, b.ev = a.ev ∧ agr ls K a.to.toNat b.to.toNat := fun _ ha =>
  cov_arc hT ((agr_next hs ht).1 ((agr_done hd).2 h)).2.1 ha

mutual
/-- states of one class satisfy the same formulas -/
theorem sat_agr (hT : TosIn ls) (hd : DoneR ls K) : ∀ (f : Form) {s t : Nat}, s < ls.length → t < ls.length → agr ls K s t → sat ls f s = sat ls f t
  | .tru, _, _, _, _, _ => by rw [sat, sat]
  | .may e f, s, t, hs, ht, h => by
    rw [sat, sat, Bool.eq_iff_iff, List.any_eq_true, List.any_eq_true]
    constructor
    · rintro ⟨a, ha, h1⟩
      rw [Bool.and_eq_true, decide_eq_true_eq] at h1
      obtain ⟨b, hb, e1, h2⟩ := agr_bisim hT hd hs ht h a ha
      exact ⟨b, hb, by rw [Bool.and_eq_true, decide_eq_true_eq, e1, ← sat_agr hT hd f (row_in hT ha).1 (row_in hT hb).1 h2]; exact h1⟩
    · rintro ⟨a, ha, h1⟩
      rw [Bool.and_eq_true, decide_eq_true_eq] at h1
      obtain ⟨b, hb, e1, h2⟩ := agr_bisim hT hd ht hs h.symm a ha
      exact ⟨b, hb, by rw [Bool.and_eq_true, decide_eq_true_eq, e1, ← sat_agr hT hd f (row_in hT ha).1 (row_in hT hb).1 h2]; exact h1⟩
  | .neg f, s, t, hs, ht, h => by rw [sat, sat, sat_agr hT hd f hs ht h]
  | .con fs, s, t, hs, ht, h => by rw [sat, sat, satAll_agr hT hd fs hs ht h]
theorem satAll_agr (hT : TosIn ls) (hd : DoneR ls K) : ∀ (fs : Forms) {s t : Nat}, s < ls.length → t < ls.length → agr ls K s t → satAll ls fs s = satAll ls fs t
  | .nil, _, _, _, _, _ => by rw [satAll, satAll]
  | .cons f fs, s, t, hs, ht, h => by rw [satAll, satAll, sat_agr hT hd f hs ht h, satAll_agr hT hd fs hs ht h]
end

/-- the last round in which two states are in one class -/
def IsLast (ls : List (List Arc)) (s t k : Nat) : Prop := agr ls k s t ∧ ¬ agr ls (k + 1) s t
theorem IsLast.symm {s t k : Nat} (h : IsLast ls s t k) : IsLast ls t s k := ⟨h.1.symm, fun e => h.2 e.symm⟩
theorem IsLast.unique {s t j k : Nat} (hs : s < ls.length) (ht : t < ls.length) (h : IsLast ls s t j) (h' : IsLast ls s t k) : j = k := by
  rcases Nat.lt_trichotomy j k with e | e | e
  · exact absurd (agr_le hs ht e h'.1) h.2
  · exact e
  · exact absurd (agr_le hs ht e h.1) h'.2
theorem last_ex {s t : Nat} (hs : s < ls.length) (ht : t < ls.length) : ∀ {k : Nat}, ¬ agr ls k s t → ∃ j, j < k ∧ IsLast ls s t j
  | 0, h => absurd (agr_zero hs ht) h
  | k + 1, h => by
    by_cases e : agr ls k s t
    · exact ⟨k, by omega, e, h⟩
    · obtain ⟨j, hj, h1⟩ := last_ex hs ht e
      exact ⟨j, by omega, h1⟩
/-- the first arc that the other state does not match -/
def wit (ls : List (List Arc)) (s t k : Nat) : Option Arc := (rowAt ls s).find? fun a => !hasB (rowAt ls t) (clK ls k) a.ev (numAt (intC (clK ls k)) a.to)
theorem has_iff (hT : TosIn ls) {t k : Nat} {a : Arc} (ha : a.to.toNat < ls.length) : hasB (rowAt ls t) (clK ls k) a.ev (numAt (intC (clK ls k)) a.to) = true ↔ ∃ b ∈ rowAt ls t, b.ev = a.ev ∧ agr ls k a.to.toNat b.to.toNat := by
  unfold hasB
  rw [List.any_eq_true]
  constructor
  · rintro ⟨b, hb, h⟩
    rw [Bool.and_eq_true, decide_eq_true_eq, decide_eq_true_eq] at h
    exact ⟨b, hb, h.1, num_agr h.2.symm ha (row_in hT hb).1⟩
  · rintro ⟨b, hb, h1, h2⟩
    exact ⟨b, hb, by rw [Bool.and_eq_true, decide_eq_true_eq, decide_eq_true_eq]; exact ⟨h1, (agr_num h2 ha (row_in hT hb).1).symm⟩⟩
theorem wit_some (hT : TosIn ls) {s t k : Nat} {w : Arc} (h : wit ls s t k = some w) : w ∈ rowAt ls s ∧ ∀ b ∈ rowAt ls t, b.ev = w.ev → ¬ agr ls k w.to.toNat b.to.toNat := by
  have hm := List.mem_of_find?_eq_some h
  have h1 : (!hasB (rowAt ls t) (clK ls k) w.ev (numAt (intC (clK ls k)) w.to)) = true := List.find?_some (p := fun a : Arc => !hasB (rowAt ls t) (clK ls k) a.ev (numAt (intC (clK ls k)) a.to)) h
  refine ⟨hm, fun b hb e ha => ?_⟩
  have h2 := (has_iff hT (row_in hT hm).1).2 ⟨b, hb, e, ha⟩
  rw [h2] at h1
  cases h1
theorem wit_none {s t k : Nat} (h : wit ls s t k = none) : covB (rowAt ls s) (rowAt ls t) (clK ls k) = true := by
  unfold covB
  refine List.all_eq_true.2 fun a ha => ?_
  have := List.find?_eq_none.1 h a ha
  simpa using this
theorem wit_other {s t k : Nat} (hs : s < ls.length) (ht : t < ls.length) (hl : IsLast ls s t k) (h : wit ls s t k = none) : ∃ w, wit ls t s k = some w := by
  cases h2 : wit ls t s k with
  | some w => exact ⟨w, rfl⟩
  | none => exact absurd ((agr_next hs ht).2 ⟨hl.1, wit_none h, wit_none h2⟩) hl.2
def against (ls : List (List Arc)) (t : Nat) (e : Int) : List Nat := ((rowAt ls t).filter fun a => decide (a.ev = e)).map fun a => a.to.toNat
mutual
/-- the formula that tells s from t -/
inductive FR (ls : List (List Arc)) : Nat → Nat → Form → Prop where
  | neg {s t k : Nat} {g : Form} : s < ls.length → t < ls.length → IsLast ls s t k → wit ls s t k = none → FR ls t s g → FR ls s t (.neg g)
  | may {s t k : Nat} {w : Arc} {gs : Forms} : s < ls.length → t < ls.length → IsLast ls s t k → wit ls s t k = some w → FRs ls w.to.toNat (against ls t w.ev) gs → FR ls s t (.may w.ev (.con gs))
inductive FRs (ls : List (List Arc)) : Nat → List Nat → Forms → Prop where
  | nil {u : Nat} : FRs ls u [] .nil
  | cons {u v : Nat} {vs : List Nat} {g : Form} {gs : Forms} : FR ls u v g → FRs ls u vs gs → FRs ls u (v :: vs) (.cons g gs)
end
theorem FRs.len {u : Nat} : ∀ {vs : List Nat} {gs : Forms}, FRs ls u vs gs → gs.len = vs.length
  | _, _, .nil => rfl
  | _, _, .cons _ h => by rw [Forms.len, h.len]; rfl
mutual
/-- it holds in s and not in t -/
theorem FR.tells (hT : TosIn ls) : ∀ {s t : Nat} {f : Form}, FR ls s t f → sat ls f s = true ∧ sat ls f t = false
  | _, _, _, .neg _ _ _ _ h => by
    obtain ⟨h1, h2⟩ := h.tells hT
    rw [sat, sat, h1, h2]
    exact ⟨rfl, rfl⟩
  | s, t, _, .may (w := w) (gs := gs) hs ht hl hw h => by
    obtain ⟨hm, hn⟩ := wit_some hT hw
    obtain ⟨h1, h2⟩ := h.tells hT
    rw [sat, sat]
    constructor
    · refine List.any_eq_true.2 ⟨w, hm, ?_⟩
      rw [Bool.and_eq_true, decide_eq_true_eq, sat]
      exact ⟨rfl, h1⟩
    · refine Bool.eq_false_iff.2 fun hc => ?_
      obtain ⟨b, hb, hc⟩ := List.any_eq_true.1 hc
      rw [Bool.and_eq_true, decide_eq_true_eq, sat] at hc
      have := h2 b.to.toNat (List.mem_map.2 ⟨b, List.mem_filter.2 ⟨hb, decide_eq_true hc.1⟩, rfl⟩)
      rw [this] at hc
      exact absurd hc.2 (by decide)
theorem FRs.tells (hT : TosIn ls) : ∀ {u : Nat} {vs : List Nat} {gs : Forms}, FRs ls u vs gs → satAll ls gs u = true ∧ ∀ v ∈ vs, satAll ls gs v = false
  | _, _, _, .nil => ⟨by rw [satAll], fun v hv => by cases hv⟩
  | u, _, _, .cons (v := v) h hs => by
    obtain ⟨h1, h2⟩ := h.tells hT
    obtain ⟨h3, h4⟩ := hs.tells hT
    rw [satAll, h1, h3]
    refine ⟨rfl, fun x hx => ?_⟩
    rw [satAll]
    rcases List.mem_cons.1 hx with rfl | hx
    · rw [h2]; rfl
    · rw [h4 x hx, Bool.and_false]
end
/-- states that are in different classes have such a formula -/
theorem FR.ex (hT : TosIn ls) : ∀ (k : Nat) {s t : Nat}, s < ls.length → t < ls.length → IsLast ls s t k → ∃ f, FR ls s t f := by
  intro k
  induction k using Nat.strongRecOn with
  | ind k ih =>
    have hmay : ∀ {s t : Nat} {w : Arc}, s < ls.length → t < ls.length → IsLast ls s t k → wit ls s t k = some w → ∃ f, FR ls s t f := by
      intro s t w hs ht hl hw
      obtain ⟨hm, hn⟩ := wit_some hT hw
      have hgs : ∀ vs : List Nat, (∀ v ∈ vs, v < ls.length ∧ ¬ agr ls k w.to.toNat v) → ∃ gs, FRs ls w.to.toNat vs gs := by
        intro vs
        induction vs with
        | nil => intro _; exact ⟨.nil, .nil⟩
        | cons v vs ihv =>
          intro h
          obtain ⟨gs, hgs⟩ := ihv fun x hx => h x (List.mem_cons_of_mem _ hx)
          obtain ⟨hv, hna⟩ := h v (List.mem_cons_self ..)
          obtain ⟨j, hj, hlj⟩ := last_ex (row_in hT hm).1 hv hna
          obtain ⟨g, hg⟩ := ih j hj (row_in hT hm).1 hv hlj
          exact ⟨.cons g gs, .cons hg hgs⟩
      obtain ⟨gs, hgs⟩ := hgs (against ls t w.ev) fun v hv => by
        obtain ⟨b, hb, rfl⟩ := List.mem_map.1 hv
        obtain ⟨hb1, hb2⟩ := List.mem_filter.1 hb
        exact ⟨(row_in hT hb1).1, hn b hb1 (of_decide_eq_true hb2)⟩
      exact ⟨_, .may hs ht hl hw hgs⟩
    intro s t hs ht hl
    cases hw : wit ls s t k with
    | some w => exact hmay hs ht hl hw
    | none =>
      obtain ⟨w, hw2⟩ := wit_other hs ht hl hw
      obtain ⟨g, hg⟩ := hmay ht hs hl.symm hw2
      exact ⟨_, .neg hs ht hl hw hg⟩
mutual
theorem FR.unique : ∀ {s t : Nat} {f g : Form}, FR ls s t f → FR ls s t g → f = g
  | _, _, _, _, .neg hs ht h1 h2 h3, .neg _ _ k1 k2 k3 => by rw [h3.unique k3]
  | _, _, _, _, .neg hs ht h1 h2 h3, .may _ _ k1 k2 k3 => by
    obtain rfl := h1.unique hs ht k1
    rw [h2] at k2
    cases k2
  | _, _, _, _, .may hs ht h1 h2 h3, .neg _ _ k1 k2 k3 => by
    obtain rfl := h1.unique hs ht k1
    rw [h2] at k2
    cases k2
  | _, _, _, _, .may hs ht h1 h2 h3, .may _ _ k1 k2 k3 => by
    obtain rfl := h1.unique hs ht k1
    rw [h2] at k2
    obtain rfl := Option.some.inj k2
    rw [h3.unique k3]
theorem FRs.unique : ∀ {u : Nat} {vs : List Nat} {f g : Forms}, FRs ls u vs f → FRs ls u vs g → f = g
  | _, _, _, _, .nil, .nil => rfl
  | _, _, _, _, .cons h1 h2, .cons k1 k2 => by rw [h1.unique k1, h2.unique k2]
end
end

end Go.Proofs.Ytmciinikfjfegaa
