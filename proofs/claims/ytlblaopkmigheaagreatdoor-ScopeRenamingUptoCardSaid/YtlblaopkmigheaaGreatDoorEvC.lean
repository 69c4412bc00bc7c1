/- Operators, conversions, slices, indices: what the evaluator does and what the model does. No program stands in it. -/
import Derived.Test.YtlblaopkmigheaaGreatDoorEvB
import Derived.Laws.MakeOwn
import Derived.Deep.Upon
namespace Go.Proofs.YtlblaopkmigheaaGreatDoor.Ev
open Go Go.RowKit

section
variable {P : Program} {N0 : Nat} {ρ ρ' : Ren} {h h' : AH} {w w' : World} {T : Tr AV} {a : Act}

def NotAgg (u v : Value) : Prop := ¬ ∃ us vs, u = .agg us ∧ v = .agg vs
theorem eqPtr_ok (hw : WR N0 ρ h w) {t el : TypeId} {i : TypeInfo} (hd : P.underlying t = some (.pointer el)) (hi : P.info? el = some i) (hz : ¬ i.size = 0) {x y : AV} {K : Bool → Out} (hk : eqPtr x y K = .ok) {u v : Value} (hx : VR ρ x u) (hy : VR ρ y v) (d : Nat) :
    ∃ e, K e = .ok ∧ (Op.equalIn (d + 1) t u v).run P w = .ok e w ∧ NotAgg u v ∧ (e = true → u = v) := by
  have hsz : (sizeOf el).run P w = .ok i.size w := by simp [sizeOf, run_typeInfo w hi]
  cases x with
  | p q o e st =>
    cases y with
    | p q' o' e' st' =>
      cases hx with
      | p g1 g2 g3 => cases hy with
        | p g4 g5 g6 =>
          obtain ⟨b, h1, h2, h3⟩ := eqPP_ok (P := P) hw (show eqPP q o e st q' o' e' st' K = .ok from hk) g1 g2 g3 g4 g5 g6
          exact ⟨b, h1, by simp [Op.equalIn, run_underlying hd, hsz, hz, h2], fun ⟨us, vs, h, _⟩ => by simp at h, fun he => by rw [h3 he]⟩
    | pn => cases hx with
      | p g1 g2 g3 => cases hy; exact ⟨false, hk, by simp [Op.equalIn, run_underlying hd], fun ⟨us, vs, h, _⟩ => by simp at h, fun he => by cases he⟩
    | _ => cases hk
  | pn =>
    cases y with
    | p q' o' e' st' => cases hx; cases hy with
      | p g1 g2 g3 => exact ⟨false, hk, by simp [Op.equalIn, run_underlying hd], fun ⟨us, vs, h, _⟩ => by simp at h, fun he => by cases he⟩
    | pn => cases hx; cases hy; exact ⟨true, hk, by simp [Op.equalIn, run_underlying hd], fun ⟨us, vs, h, _⟩ => by simp at h, fun _ => rfl⟩
    | _ => cases hk
  | _ => cases hk
theorem eqSli_ok {t el : TypeId} (hd : P.underlying t = some (.slice el)) {x y : AV} {K : Bool → Out} (hk : eqSli x y K = .ok) {u v : Value} (hx : VR ρ x u) (hy : VR ρ y v) (d : Nat) (w : World) :
    ∃ e, K e = .ok ∧ (Op.equalIn (d + 1) t u v).run P w = .ok e w ∧ NotAgg u v ∧ (e = true → u = v) := by
  cases x with
  | sl q o n c sz st =>
    cases y with
    | sn => cases hx; cases hy; exact ⟨false, hk, by simp [Op.equalIn, run_underlying hd], fun ⟨us, vs, h, _⟩ => by simp at h, fun he => by cases he⟩
    | _ => cases hk
  | sn =>
    cases y with
    | sl q o n c sz st => cases hx; cases hy; exact ⟨false, hk, by simp [Op.equalIn, run_underlying hd], fun ⟨us, vs, h, _⟩ => by simp at h, fun he => by cases he⟩
    | sn => cases hx; cases hy; exact ⟨true, hk, by simp [Op.equalIn, run_underlying hd], fun ⟨us, vs, h, _⟩ => by simp at h, fun _ => rfl⟩
    | _ => cases hk
  | _ => cases hk
theorem eqMap_ok {t k1 k2 : TypeId} (hd : P.underlying t = some (.map k1 k2)) {x y : AV} {K : Bool → Out} (hk : eqMap x y K = .ok) {u v : Value} (hx : VR ρ x u) (hy : VR ρ y v) (d : Nat) (w : World) :
    ∃ e, K e = .ok ∧ (Op.equalIn (d + 1) t u v).run P w = .ok e w ∧ NotAgg u v ∧ (e = true → u = v) := by
  cases x with
  | m q =>
    cases y with
    | mn => cases hx; cases hy; exact ⟨false, hk, by simp [Op.equalIn, run_underlying hd], fun ⟨us, vs, h, _⟩ => by simp at h, fun he => by cases he⟩
    | _ => cases hk
  | mn =>
    cases y with
    | m q => cases hx; cases hy; exact ⟨false, hk, by simp [Op.equalIn, run_underlying hd], fun ⟨us, vs, h, _⟩ => by simp at h, fun he => by cases he⟩
    | mn => cases hx; cases hy; exact ⟨true, hk, by simp [Op.equalIn, run_underlying hd], fun ⟨us, vs, h, _⟩ => by simp at h, fun _ => rfl⟩
    | _ => cases hk
  | _ => cases hk
theorem eqFun_ok {t : TypeId} {p1 p2 : Array TypeId} {p3 : Bool} (hd : P.underlying t = some (.func p1 p2 p3)) {x y : AV} {K : Bool → Out} (hk : eqFun x y K = .ok) {u v : Value} (hx : VR ρ x u) (hy : VR ρ y v) (d : Nat) (w : World) :
    ∃ e, K e = .ok ∧ (Op.equalIn (d + 1) t u v).run P w = .ok e w ∧ NotAgg u v ∧ (e = true → u = v) := by
  cases x with
  | fn f r c =>
    cases y with
    | fz => cases hx; cases hy; exact ⟨false, hk, by simp [Op.equalIn, run_underlying hd], fun ⟨us, vs, h, _⟩ => by simp at h, fun he => by cases he⟩
    | _ => cases hk
  | fz =>
    cases y with
    | fn f r c => cases hx; cases hy; exact ⟨false, hk, by simp [Op.equalIn, run_underlying hd], fun ⟨us, vs, h, _⟩ => by simp at h, fun he => by cases he⟩
    | fz => cases hx; cases hy; exact ⟨true, hk, by simp [Op.equalIn, run_underlying hd], fun ⟨us, vs, h, _⟩ => by simp at h, fun _ => rfl⟩
    | _ => cases hk
  | _ => cases hk
theorem eqV_ok (hw : WR N0 ρ h w) {t : TypeId} {x y : AV} {K : Bool → Out} (hk : eqV (kindOf P t) x y K = .ok) {u v : Value} (hx : VR ρ x u) (hy : VR ρ y v) (d : Nat) :
    ∃ e, K e = .ok ∧ (Op.equalIn (d + 2) t u v).run P w = .ok e w ∧ ((∃ us vs, u = .agg us ∧ v = .agg vs) → P.eqGuardType P.depth t = false) ∧ (e = true → u = v) := by
  unfold kindOf at hk
  have one : ∀ k, pkOf P t = some k → eqPk k x y K = .ok → (∀ us, u ≠ .agg us) → ∃ e, K e = .ok ∧ (Op.equalIn (d + 2) t u v).run P w = .ok e w ∧ ((∃ us vs, u = .agg us ∧ v = .agg vs) → P.eqGuardType P.depth t = false) ∧ (e = true → u = v) :=
    fun k h1 h2 hne => let ⟨e, h3, h4, h6⟩ := eqPk_ok (P := P) (w := w) h2 hx hy h1 (d + 1); ⟨e, h3, h4, fun ⟨us, _, h5, _⟩ => absurd h5 (hne us), h6⟩
  have ref : (∃ e, K e = .ok ∧ (Op.equalIn (d + 2) t u v).run P w = .ok e w ∧ NotAgg u v ∧ (e = true → u = v)) → ∃ e, K e = .ok ∧ (Op.equalIn (d + 2) t u v).run P w = .ok e w ∧ ((∃ us vs, u = .agg us ∧ v = .agg vs) → P.eqGuardType P.depth t = false) ∧ (e = true → u = v) :=
    fun ⟨e, h1, h2, h3, h4⟩ => ⟨e, h1, h2, fun h => absurd h h3, h4⟩
  have agg : (∃ ks, flatKs P t = some ks ∧ eqA ks x y K = .ok) → ∃ e, K e = .ok ∧ (Op.equalIn (d + 2) t u v).run P w = .ok e w ∧ ((∃ us vs, u = .agg us ∧ v = .agg vs) → P.eqGuardType P.depth t = false) ∧ (e = true → u = v) :=
    fun ⟨ks, h1, h2⟩ => let ⟨e, h3, h4, h5, h6⟩ := eqA_ok (P := P) (w := w) h1 h2 hx hy d; ⟨e, h3, h4, fun _ => h5, h6⟩
  split at hk
  · rename_i hd
    refine one .int (by simp [pkOf, hd]) hk ?_
    obtain ⟨k, z, rfl, _⟩ := AV.i_ok (show x.on_i (.bad 23 0) _ = .ok from hk)
    cases hx; intro us; simp
  · rename_i hd
    refine one .str (by simp [pkOf, hd]) hk ?_
    obtain ⟨k, z, rfl, _⟩ := AV.s_ok (show x.on_s (.bad 23 3) _ = .ok from hk)
    cases hx; intro us; simp
  · rename_i hd
    refine one .bool (by simp [pkOf, hd]) hk ?_
    obtain ⟨z, rfl, _⟩ := AV.b_ok (show x.on_b (.bad 23 5) _ = .ok from hk)
    cases hx; intro us; simp
  · split at hk
    · rename_i ks hf
      exact agg ⟨ks, hf, hk⟩
    · cases hk
  · split at hk
    · rename_i ks hf
      exact agg ⟨ks, hf, hk⟩
    · cases hk
  · rename_i el hd
    split at hk
    · rename_i i hi
      split at hk
      · cases hk
      · rename_i hz
        exact ref (eqPtr_ok hw hd hi hz hk hx hy (d + 1))
    · cases hk
  · rename_i el hd
    exact ref (eqSli_ok hd hk hx hy (d + 1) w)
  · rename_i k1 k2 hd
    exact ref (eqMap_ok hd hk hx hy (d + 1) w)
  · rename_i p1 p2 p3 hd
    exact ref (eqFun_ok hd hk hx hy (d + 1) w)
  · cases hk

theorem eqGuard_ok (op : BinOp) (t : TypeId) (x y : Operand) (u v : Value) (hu : u ≠ .nilIface) (hg : (∃ us vs, u = .agg us ∧ v = .agg vs) → (op = .eql ∨ op = .neq) → P.eqGuardType P.depth t = false) :
    (eqGuard op t x y u v).run P w = .ok () w := by
  by_cases hop : op = .eql ∨ op = .neq
  · cases u with
    | nilIface => exact absurd rfl hu
    | agg us =>
      cases v with
      | agg vs =>
        have := hg ⟨_, _, rfl, rfl⟩ hop
        rcases hop with rfl | rfl <;> simp [eqGuard, this]
      | _ => rcases hop with rfl | rfl <;> rfl
    | _ => rcases hop with rfl | rfl <;> cases v <;> rfl
  · cases op <;> first | rfl | (exact absurd (by simp) hop)
/-- == and != are the type's equality, but for numbers and strings. -/
theorem binOp_eql (t : TypeId) (u v : Value) (h1 : ∀ k z, u ≠ .int k z) (h2 : ∀ s, u ≠ .string s) (h3 : ∀ k z, u ≠ .float k z) (h4 : ∀ k z x, u ≠ .complex k z x) : binOp .eql t u v = (do pure (.bool (← Op.equal t u v)) : Sem Value) := by
  cases u <;> first
    | (exact absurd rfl (h1 _ _))
    | (exact absurd rfl (h2 _))
    | (exact absurd rfl (h3 _ _))
    | (exact absurd rfl (h4 _ _ _))
    | rfl
theorem binOp_neq (t : TypeId) (u v : Value) (h1 : ∀ k z, u ≠ .int k z) (h2 : ∀ s, u ≠ .string s) (h3 : ∀ k z, u ≠ .float k z) (h4 : ∀ k z x, u ≠ .complex k z x) : binOp .neq t u v = (do pure (.bool (!(← Op.equal t u v))) : Sem Value) := by
  cases u <;> first
    | (exact absurd rfl (h1 _ _))
    | (exact absurd rfl (h2 _))
    | (exact absurd rfl (h3 _ _))
    | (exact absurd rfl (h4 _ _ _))
    | rfl

theorem binK_ok (hw : WR N0 ρ h w) {op : BinOp} {t : TypeId} {x y : AV} {K : AV → Out} (hk : binK P op t x y K = .ok) {u v : Value} (hx : VR ρ x u) (hy : VR ρ y v) (ox oy : Operand) :
    ∃ r z, K r = .ok ∧ VR ρ r z ∧ (do eqGuard op t ox oy u v; binOp op t u v : Sem Value).run P w = .ok z w := by
  have plain : (u ≠ .nilIface) → (∀ us, u ≠ .agg us) → (∃ r z, K r = .ok ∧ VR ρ r z ∧ (binOp op t u v).run P w = .ok z w) →
      ∃ r z, K r = .ok ∧ VR ρ r z ∧ (do eqGuard op t ox oy u v; binOp op t u v : Sem Value).run P w = .ok z w := by
    rintro h0 h1 ⟨r, z, h2, h3, h4⟩
    refine ⟨r, z, h2, h3, ?_⟩
    rw [Sem.run_bind, eqGuard_ok op t ox oy u v h0 (fun ⟨us, _, h5, _⟩ => absurd h5 (h1 us))]
    exact h4
  have eqs : eqopK P op t x y K = .ok → (u ≠ .nilIface) → (∀ k z, u ≠ .int k z) → (∀ s, u ≠ .string s) → (∀ k z, u ≠ .float k z) → (∀ k z x, u ≠ .complex k z x) →
      ∃ r z, K r = .ok ∧ VR ρ r z ∧ (do eqGuard op t ox oy u v; binOp op t u v : Sem Value).run P w = .ok z w := by
    intro hk h0 h1 h2 h3 h4
    cases op <;> try (cases hk; done)
    · obtain ⟨e, k1, k2, k3, _⟩ := eqV_ok hw (show eqV (kindOf P t) x y (fun b => bK b K) = .ok from hk) hx hy 9998
      rw [bK_eq] at k1
      refine ⟨_, _, k1, .b e, ?_⟩
      rw [Sem.run_bind, eqGuard_ok _ t ox oy u v h0 (fun h _ => k3 h), binOp_eql t u v h1 h2 h3 h4]
      have k2 : (Op.equal t u v).run P w = .ok e w := k2
      simp [k2]
    · obtain ⟨e, k1, k2, k3, _⟩ := eqV_ok hw (show eqV (kindOf P t) x y (fun b => bK (notB b) K) = .ok from hk) hx hy 9998
      rw [bK_eq, notB_eq] at k1
      refine ⟨_, _, k1, .b _, ?_⟩
      rw [Sem.run_bind, eqGuard_ok _ t ox oy u v h0 (fun h _ => k3 h), binOp_neq t u v h1 h2 h3 h4]
      have k2 : (Op.equal t u v).run P w = .ok e w := k2
      simp [k2]
  cases hx with
  | i k z =>
    obtain ⟨k', z', rfl, hk⟩ := AV.i_ok (show y.on_i (.bad 27 1) (fun k' b => ibin op k k' z b K) = .ok from hk)
    cases hy
    exact plain (by simp) (by simp) (ibin_ok hk t)
  | s n s =>
    obtain ⟨m, s', rfl, hk⟩ := AV.s_ok (show y.on_s (.bad 27 3) (fun m b => sbin op n s m b K) = .ok from hk)
    cases hy
    exact plain (by simp) (by simp) (sbin_ok hk t)
  | b x => exact eqs hk (by simp) (by simp) (by simp) (by simp) (by simp)
  | agg hl => exact eqs hk (by simp) (by simp) (by simp) (by simp) (by simp)
  | p g1 g2 g3 => exact eqs hk (by simp) (by simp) (by simp) (by simp) (by simp)
  | pn => exact eqs hk (by simp) (by simp) (by simp) (by simp) (by simp)
  | sl g1 g2 g3 g4 => exact eqs hk (by simp) (by simp) (by simp) (by simp) (by simp)
  | sn => exact eqs hk (by simp) (by simp) (by simp) (by simp) (by simp)
  | m g1 => exact eqs hk (by simp) (by simp) (by simp) (by simp) (by simp)
  | mn => exact eqs hk (by simp) (by simp) (by simp) (by simp) (by simp)
  | fn f g1 g2 => exact eqs hk (by simp) (by simp) (by simp) (by simp) (by simp)
  | fz => exact eqs hk (by simp) (by simp) (by simp) (by simp) (by simp)
  | u v => cases hk
  | tup hl => cases hk
theorem unK_ok {op : UnOp} {x : AV} {K : AV → Out} (hk : unK op x K = .ok) {u : Value} (hx : VR ρ x u) : ∃ r z, K r = .ok ∧ VR ρ r z ∧ (Op.unary op u).run P w = .ok z w := by
  cases op
  case neg =>
    obtain ⟨k, z, rfl, h1⟩ := AV.i_ok (show x.on_i (.bad 51 0) (fun k z => wrapK k (Int.neg z) K) = .ok from hk)
    cases hx
    rw [wrapK_eq] at h1
    exact ⟨_, _, h1, .i _ _, by simp [Op.unary, Op.intArith]; rfl⟩
  case not =>
    obtain ⟨b, rfl, h1⟩ := AV.b_ok (show x.on_b (.bad 51 1) (fun b => bK (notB b) K) = .ok from hk)
    cases hx
    rw [bK_eq, notB_eq] at h1
    exact ⟨_, _, h1, .b _, by simp [Op.unary]⟩
  all_goals cases hk
end
end Go.Proofs.YtlblaopkmigheaaGreatDoor.Ev
namespace Go.Proofs.YtlblaopkmigheaaGreatDoor.Ev
open Go Go.RowKit

section
variable {P : Program} {N0 : Nat} {ρ ρ' : Ren} {h h' : AH} {w w' : World} {T : Tr AV} {a : Act}

theorem sliceSz_ok {t : TypeId} {z : Nat} (hs : sliceSz P t = some z) : ∃ e i, P.underlying t = some (.slice e) ∧ P.info? e = some i ∧ i.size = z ∧ i.bytes ≤ 1048576 := by
  unfold sliceSz at hs
  split at hs
  · rename_i e hd
    split at hs
    · rename_i i hi
      split at hs
      · rename_i hb
        exact ⟨e, i, hd, hi, Option.some.inj hs, hb⟩
      · cases hs
    · cases hs
  · cases hs
theorem arrayOf_ok {t : TypeId} {x : Nat × Bool × Nat} (hs : arrayOf P t = some x) : ∃ e, P.underlying t = some (.array x.1 e) ∧ aggSz P e = some (x.2.1, x.2.2) := by
  unfold arrayOf at hs
  split at hs
  · rename_i n e hd
    split at hs
    · rename_i a k ha
      obtain rfl := Option.some.inj hs
      exact ⟨e, hd, ha⟩
    · cases hs
  · cases hs
theorem fieldOf_ok {t : TypeId} {k : Nat} {x : Nat × Bool × Nat} (hs : fieldOf P t k = some x) : ∃ fs f, P.underlying t = some (.struct fs) ∧ fs[k]? = some f ∧ f.offset = x.1 ∧ aggSz P f.type = some (x.2.1, x.2.2) := by
  unfold fieldOf at hs
  split at hs
  · rename_i fs hd
    split at hs
    · rename_i f hf
      split at hs
      · rename_i a n ha
        obtain rfl := Option.some.inj hs
        exact ⟨fs, f, hd, hf, rfl, ha⟩
      · cases hs
    · cases hs
  · cases hs
theorem isStr_ok {t : TypeId} (hs : isStr P t = true) : P.underlying t = some .string := by
  unfold isStr at hs
  split at hs
  · assumption
  · cases hs

theorem bndK_ok {v : Option AV} {x : Option Value} (hv : OR ρ v x) {dflt top : Nat} {K : Nat → Out} (hk : bndK v dflt top K = .ok) :
    ∃ n, K n = .ok ∧ ((v = none ∧ x = none ∧ n = dflt) ∨ (v.isSome = true ∧ n ≤ top ∧ ∃ k, x = some (.int k n))) := by
  cases v with
  | none => cases x with
    | none => exact ⟨dflt, hk, .inl ⟨rfl, rfl, rfl⟩⟩
    | some x => exact hv.elim
  | some v => cases x with
    | none => exact hv.elim
    | some x =>
      obtain ⟨k, z, rfl, h1⟩ := AV.i_ok (show v.on_i (.bad 55 0) (fun _ z => natOf z fun n => iff' (Nat.ble n top) (K n) (.bad 55 1)) = .ok from hk)
      obtain ⟨n, rfl, h2⟩ := natOf_ok h1
      obtain ⟨h3, h4⟩ := iff_yes h2
      cases hv
      exact ⟨n, h4, .inr ⟨rfl, Nat.le_of_ble_eq_true h3, k, rfl⟩⟩
theorem bounds_run (isSlice : Bool) (len cap : Nat) {lo hi mx : Option Value} {l h' m : Nat} (hm : (mx = none ∧ m = cap) ∨ (m ≤ cap ∧ ∃ k, mx = some (.int k m)))
    (hh : (hi = none ∧ mx = none ∧ h' = len) ∨ (h' ≤ m ∧ ∃ k, hi = some (.int k h'))) (hl : (lo = none ∧ l = 0) ∨ (l ≤ h' ∧ ∃ k, lo = some (.int k l))) (w : World) :
    (Instr.sliceBounds isSlice len cap lo hi mx).run P w = .ok (l, h', m) w := by
  rcases hm with ⟨rfl, rfl⟩ | ⟨hm, k1, rfl⟩ <;> rcases hh with ⟨rfl, h2, rfl⟩ | ⟨hh, k2, rfl⟩ <;> rcases hl with ⟨rfl, rfl⟩ | ⟨hl, k3, rfl⟩ <;>
    first
      | (cases h2; done)
      | (simp [Instr.sliceBounds, Instr.sliceBound, asIntOf]; omega)
      | (simp [Instr.sliceBounds, Instr.sliceBound, asIntOf]; done)
      | (simp [Instr.sliceBounds, Instr.sliceBound, asIntOf, *]; done)
theorem bothB_ok {hi mx : Option AV} (hb : bothB hi mx = true) : mx = none ∨ hi.isSome = true := by
  cases mx with
  | none => exact .inl rfl
  | some m => exact .inr hb

theorem cut_drop (n s lb m : Nat) (hm : m + lb ≤ n) : bytesL m (cutS m (Nat.shiftRight s (bits8 lb))) = ((bytesL n s).drop lb).take m := by
  rw [cutS_eq, bytesL_mod, bytesL_drop, bytesL_take _ _ _ (by omega)]
  congr 1
  show s >>> (8 * lb) = _
  rw [Nat.shiftRight_eq_div_pow, Nat.pow_mul]
theorem sliceS_ok {lo hi : Option AV} {n s : Nat} {K : AV → Out} (hk : sliceS lo hi n s K = .ok) {lo' hi' : Option Value} (hlo : OR ρ lo lo') (hhi : OR ρ hi hi') {t : TypeId} (ht : P.underlying t = some .string) :
    ∃ v r, K v = .ok ∧ VR ρ v r ∧ (Instr.sliceAt t (.string (bytesOf n s)) lo' hi' none).run P w = .ok r w := by
  obtain ⟨hb, h1, h2⟩ := bndK_ok hhi hk
  obtain ⟨lb, h3, h4⟩ := bndK_ok hlo h1
  rw [forceN_eq, forceN_eq] at h3
  have hle : lb ≤ hb := by rcases h4 with ⟨_, _, rfl⟩ | ⟨_, h, _⟩ <;> first | exact Nat.zero_le _ | omega
  have hn : hb ≤ n := by rcases h2 with ⟨_, _, rfl⟩ | ⟨_, h, _⟩ <;> omega
  refine ⟨_, _, h3, .s _ _, ?_⟩
  rw [run_sliceAt_string w t _ _ _ _ ht]
  have hb' := bounds_run (P := P) false n n (m := n) (mx := none) (.inl ⟨rfl, rfl⟩) (h2.imp (fun h => ⟨h.2.1, rfl, h.2.2⟩) (fun h => ⟨h.2.1, h.2.2⟩)) (h4.imp (fun h => ⟨h.2.1, h.2.2⟩) (fun h => ⟨h.2.1, h.2.2⟩)) w
  simp only [Instr.slice, Sem.run_bind, run_underlying ht, Result.andThen_ok, Option.isSome_none, Bool.false_eq_true, if_false, bytesOf_size, hb', Sem.run_pure]
  congr 2
  apply ByteArray.ext
  apply Array.ext'
  rw [ByteArray.data_extract, Array.toList_extract]
  show List.extract (bytesL n s) lb hb = bytesL (hb - lb) _
  have := cut_drop n s lb (hb - lb) (by omega)
  show _ = bytesL (hb - lb) (cutS (hb - lb) (Nat.shiftRight s (bits8 lb)))
  rw [this]
theorem sliceO_ok {lo hi mx : Option AV} {q : Pos} {o n c sz st : Nat} {K : AV → Out} (hk : sliceO lo hi mx q o n c sz st K = .ok) (hbb : bothB hi mx = true) {lo' hi' mx' : Option Value} (hlo : OR ρ lo lo') (hhi : OR ρ hi hi') (hmx : OR ρ mx mx')
    {L : Loc} (hL : ρ q st = some L) (h0 : L.lo ≤ o) (hn : o + n * sz ≤ L.n) {ad : Addr} {cap : Nat} (hs : SlOK L o n c sz ad cap) {t e : TypeId} {i : TypeInfo} (ht : P.underlying t = some (.slice e)) (hi2 : P.info? e = some i) (hsz : i.size = sz) :
    ∃ v r, K v = .ok ∧ VR ρ v r ∧ (Instr.sliceAt t (.slice (some ad) n cap) lo' hi' mx').run P w = .ok r w := by
  obtain ⟨mb, h1, h2⟩ := bndK_ok hmx hk
  obtain ⟨hb, h3, h4⟩ := bndK_ok hhi h1
  obtain ⟨lb, h5, h6⟩ := bndK_ok hlo h3
  rw [forceN_eq, forceN_eq, forceN_eq] at h5
  have hle : lb ≤ hb := by rcases h6 with ⟨_, _, rfl⟩ | ⟨_, h, _⟩ <;> first | exact Nat.zero_le _ | omega
  have hcap : n ≤ cap := by
    rcases hs with ⟨rfl, hs, _, _⟩ | ⟨rfl, rfl, rfl, _⟩ | ⟨rfl, hs, rfl⟩ | ⟨rfl, rfl, rfl⟩ <;> omega
  have hsize : (sizeOf e).run P w = .ok sz w := by simp [sizeOf, run_typeInfo w hi2, hsz]
  have hmb : mb ≤ n := by rcases h2 with ⟨_, _, rfl⟩ | ⟨_, h, _⟩ <;> omega
  have hbn : hb ≤ n := by rcases h4 with ⟨_, _, rfl⟩ | ⟨_, h, _⟩ <;> omega
  -- the model's own third bound
  obtain ⟨m, hm1, hm2, hm3⟩ : ∃ m, ((mx' = none ∧ m = cap) ∨ (m ≤ cap ∧ ∃ k, mx' = some (.int k m))) ∧ hb ≤ m ∧ ((mx = none ∧ m = cap) ∨ (mx.isSome = true ∧ m = mb)) := by
    rcases h2 with ⟨rfl, rfl, rfl⟩ | ⟨g1, g2, g3⟩
    · exact ⟨cap, .inl ⟨rfl, rfl⟩, Nat.le_trans hbn hcap, .inl ⟨rfl, rfl⟩⟩
    · refine ⟨mb, .inr ⟨Nat.le_trans g2 hcap, g3⟩, ?_, .inr ⟨g1, rfl⟩⟩
      rcases h4 with ⟨h, _, rfl⟩ | ⟨_, h, _⟩
      · rcases bothB_ok hbb with h' | h'
        · rw [h'] at g1; simp at g1
        · rw [h] at h'; simp at h'
      · exact h
  have hh : (hi' = none ∧ mx' = none ∧ hb = n) ∨ (hb ≤ m ∧ ∃ k, hi' = some (.int k hb)) := by
    rcases h4 with ⟨g1, g2, g3⟩ | ⟨g1, g2, g3⟩
    · rcases bothB_ok hbb with h' | h'
      · subst h'
        refine .inl ⟨g2, ?_, g3⟩
        cases mx' with
        | none => rfl
        | some x => exact hmx.elim
      · rw [g1] at h'; simp at h'
    · exact .inr ⟨hm2, g3⟩
  have hbd := bounds_run (P := P) true n cap hm1 hh (h6.imp (fun h => ⟨h.2.1, h.2.2⟩) (fun h => ⟨h.2.1, h.2.2⟩)) w
  have hrun : (Instr.sliceAt t (.slice (some ad) n cap) lo' hi' mx').run P w = .ok (.slice (some (if m = lb then ad else ad.add (lb * sz))) (hb - lb) (m - lb)) w := by
    have he : P.elem t = e := by simp [Program.elem, ht]
    rw [run_sliceAt_slice w t _ _ _ _ (by rw [he]; exact ht)]
    simp only [Instr.slice, Sem.run_bind, run_underlying ht, Result.andThen_ok, hbd, hsize, Sem.run_pure]
    split <;> rfl
  have hnum : o + lb * sz + (hb - lb) * sz = o + hb * sz := by rw [Nat.add_assoc, ← Nat.add_mul, Nat.add_sub_cancel' hle]
  have hmul : hb * sz ≤ n * sz := Nat.mul_le_mul_right _ hbn
  refine ⟨_, _, h5, .sl hL (show L.lo ≤ o + lb * sz by omega) (show o + lb * sz + (hb - lb) * sz ≤ L.n by omega) ?_, hrun⟩
  have had : ∀ (e1 : ad = ⟨L.cb, L.sh + o - L.lo, none⟩), ad.add (lb * sz) = ⟨L.cb, L.sh + (o + lb * sz) - L.lo, none⟩ := fun e1 => by rw [e1, addr_add]; congr 1; omega
  show SlOK L (o + lb * sz) (hb - lb) (capW mx c mb lb) sz _ _
  rcases hm3 with ⟨rfl, rfl⟩ | ⟨g1, rfl⟩
  · have hcw : capW none c mb lb = if c = 0 then 0 else (c - 1 - lb) + 1 := by cases c <;> rfl
    rw [hcw]
    rcases hs with ⟨rfl, g2, g3, g4⟩ | ⟨rfl, rfl, rfl, g2⟩ | ⟨rfl, g2, g3⟩ | ⟨rfl, rfl, rfl⟩
    · by_cases hml : m = lb
      · subst hml
        refine .inr (.inl ⟨rfl, by omega, by omega, g4⟩)
      · rw [if_neg hml]
        refine .inl ⟨rfl, had g2, by omega, ?_⟩
        rw [Nat.add_assoc, ← Nat.add_mul, Nat.add_sub_cancel' (by omega)]
        exact g4
    · obtain rfl : lb = 0 := by omega
      exact .inr (.inl ⟨rfl, by omega, by omega, by simpa using g2⟩)
    · by_cases hml : m = lb
      · subst hml
        exact .inr (.inr (.inr ⟨by simp, by omega, by omega⟩))
      · rw [if_neg hml]
        exact .inr (.inr (.inl ⟨by simp, by omega, had g3⟩))
    · obtain rfl : lb = 0 := by omega
      exact .inr (.inr (.inr ⟨by simp, by omega, by omega⟩))
  · have hcw : capW mx c m lb = (m - lb) + 1 := by
      cases mx with
      | none => simp at g1
      | some x => rfl
    rw [hcw]
    by_cases hml : m = lb
    · subst hml
      exact .inr (.inr (.inr ⟨by simp, by omega, by omega⟩))
    · rw [if_neg hml]
      refine .inr (.inr (.inl ⟨rfl, by omega, had ?_⟩))
      rcases hs with ⟨rfl, g2, g3, g4⟩ | ⟨rfl, rfl, rfl, g2⟩ | ⟨rfl, g2, g3⟩ | ⟨rfl, rfl, rfl⟩
      · exact g2
      · omega
      · exact g3
      · omega
end
end Go.Proofs.YtlblaopkmigheaaGreatDoor.Ev
namespace Go.Proofs.YtlblaopkmigheaaGreatDoor.Ev
open Go Go.RowKit

section
variable {P : Program} {N0 : Nat} {ρ ρ' : Ren} {h h' : AH} {w w' : World} {T : Tr AV} {a : Act}

theorem sliceP_ok {lo hi mx : Option AV} {n k : Nat} {q : Pos} {o e st : Nat} {K : AV → Out} (hk : sliceP lo hi mx n k q o e st K = .ok) (hbb : bothB hi mx = true) {lo' hi' mx' : Option Value} (hlo : OR ρ lo lo') (hhi : OR ρ hi hi') (hmx : OR ρ mx mx')
    {L : Loc} (hL : ρ q st = some L) (h0 : L.lo ≤ o) (he : e ≤ L.n) {t el : TypeId} {ag : Bool} (ht : P.underlying t = some (.array n el)) (ha : aggSz P el = some (ag, k)) :
    ∃ v r, K v = .ok ∧ VR ρ v r ∧ (Instr.sliceAt t (.pointer (some ⟨L.cb, L.sh + o - L.lo, none⟩)) lo' hi' mx').run P w = .ok r w := by
  obtain ⟨mb, h1, h2⟩ := bndK_ok hmx hk
  obtain ⟨hb, h3, h4⟩ := bndK_ok hhi h1
  obtain ⟨lb, h5, h6⟩ := bndK_ok hlo h3
  rw [forceN_eq, forceN_eq, forceN_eq] at h5
  obtain ⟨h7, h8⟩ := iff_yes h5
  have h7 : o + n * k ≤ e := Nat.le_of_ble_eq_true h7
  have hle : lb ≤ hb := by rcases h6 with ⟨_, _, rfl⟩ | ⟨_, h, _⟩ <;> first | exact Nat.zero_le _ | omega
  have hmb : mb ≤ n := by rcases h2 with ⟨_, _, rfl⟩ | ⟨_, h, _⟩ <;> omega
  have hh : (hi' = none ∧ mx' = none ∧ hb = n) ∨ (hb ≤ mb ∧ ∃ k, hi' = some (.int k hb)) := by
    rcases h4 with ⟨g1, g2, g3⟩ | ⟨g1, g2, g3⟩
    · rcases bothB_ok hbb with h' | h'
      · subst h'
        refine .inl ⟨g2, ?_, g3⟩
        cases mx' with
        | none => rfl
        | some x => exact hmx.elim
      · rw [g1] at h'; simp at h'
    · exact .inr ⟨g2, g3⟩
  have hhm : hb ≤ mb := by
    rcases hh with ⟨_, g2, rfl⟩ | ⟨g, _⟩
    · rcases h2 with ⟨_, _, rfl⟩ | ⟨_, _, k, g⟩
      · exact Nat.le_refl _
      · rw [g2] at g; cases g
    · exact g
  have hbd := bounds_run (P := P) false n n (h2.imp (fun h => ⟨h.2.1, h.2.2⟩) (fun h => ⟨h.2.1, h.2.2⟩)) hh (h6.imp (fun h => ⟨h.2.1, h.2.2⟩) (fun h => ⟨h.2.1, h.2.2⟩)) w
  have hrun : (Instr.sliceAt t (.pointer (some ⟨L.cb, L.sh + o - L.lo, none⟩)) lo' hi' mx').run P w = .ok (.slice (some (if mb = lb then ⟨L.cb, L.sh + o - L.lo, none⟩ else (⟨L.cb, L.sh + o - L.lo, none⟩ : Addr).add (lb * k))) (hb - lb) (mb - lb)) w := by
    simp only [Instr.sliceAt, Instr.sureAddr, Sem.run_bind, run_underlying ht, Result.andThen_ok, hbd, sizeOf_run ha, Sem.run_pure]
  have hnum : o + lb * k + (hb - lb) * k = o + hb * k := by rw [Nat.add_assoc, ← Nat.add_mul, Nat.add_sub_cancel' hle]
  have hmul : hb * k ≤ n * k := Nat.mul_le_mul_right _ (by omega)
  refine ⟨_, _, h8, .sl hL (show L.lo ≤ o + lb * k by omega) (show o + lb * k + (hb - lb) * k ≤ L.n by omega) ?_, hrun⟩
  show SlOK L (o + lb * k) (hb - lb) (mb - lb + 1) k _ _
  by_cases hml : mb = lb
  · subst hml
    exact .inr (.inr (.inr ⟨by simp, by omega, by omega⟩))
  · rw [if_neg hml]
    refine .inr (.inr (.inl ⟨rfl, by omega, ?_⟩))
    rw [addr_add]
    congr 1
    show L.sh + o - L.lo + lb * k = L.sh + (o + lb * k) - L.lo
    omega
theorem sliceN_ok {lo hi : Option AV} {K : AV → Out} (hk : sliceN lo hi K = .ok) {lo' hi' : Option Value} (hlo : OR ρ lo lo') (hhi : OR ρ hi hi') {t e : TypeId} {i : TypeInfo} (ht : P.underlying t = some (.slice e)) (hi2 : P.info? e = some i) :
    K .sn = .ok ∧ (Instr.sliceAt t (.slice none 0 0) lo' hi' none).run P w = .ok (.slice none 0 0) w := by
  obtain ⟨hb, h3, h4⟩ := bndK_ok hhi hk
  obtain ⟨lb, h5, h6⟩ := bndK_ok hlo h3
  have h0 : hb = 0 := by rcases h4 with ⟨_, _, rfl⟩ | ⟨_, h, _⟩ <;> first | rfl | exact Nat.le_zero.1 h
  subst h0
  have h1 : lb = 0 := by rcases h6 with ⟨_, _, rfl⟩ | ⟨_, h, _⟩ <;> first | rfl | exact Nat.le_zero.1 h
  subst h1
  refine ⟨h5, ?_⟩
  have hbd := bounds_run (P := P) true 0 0 (mx := none) (m := 0) (.inl ⟨rfl, rfl⟩) (h4.imp (fun h => ⟨h.2.1, rfl, rfl⟩) (fun h => ⟨Nat.le_refl 0, h.2.2⟩)) (h6.imp (fun h => ⟨h.2.1, rfl⟩) (fun h => ⟨Nat.le_refl 0, h.2.2⟩)) w
  have he : P.elem t = e := by simp [Program.elem, ht]
  rw [run_sliceAt_slice w t _ _ _ _ (by rw [he]; exact ht)]
  simp [Instr.slice, run_underlying ht, hbd, sizeOf, run_typeInfo w hi2]

theorem sliceK_ok {t : TypeId} {x : AV} {lo hi mx : Option AV} {K : AV → Out} (hk : sliceK P t x lo hi mx K = .ok) {u : Value} {lo' hi' mx' : Option Value} (hx : VR ρ x u) (hlo : OR ρ lo lo') (hhi : OR ρ hi hi') (hmx : OR ρ mx mx') :
    ∃ v r, K v = .ok ∧ VR ρ v r ∧ (Instr.sliceAt t u lo' hi' mx').run P w = .ok r w := by
  have nomx : Option.isNone mx = true → mx' = none := fun h => by
    cases mx with
    | some m => simp at h
    | none => cases mx' with
      | none => rfl
      | some x => exact hmx.elim
  cases hx with
  | s n s =>
    obtain ⟨h1, h2⟩ := iff_yes (show iff' (isStr P t) (iff' (Option.isNone mx) (sliceS lo hi n s K) (.bad 56 9)) (.bad 56 8) = .ok from hk)
    obtain ⟨h3, h4⟩ := iff_yes h2
    rw [nomx h3]
    exact sliceS_ok h4 hlo hhi (isStr_ok h1)
  | @sl q o n c sz st L ad cap g1 g2 g3 g4 =>
    obtain ⟨z, h1, h2⟩ := onO_ok (show onO (sliceSz P t) (.bad 56 6) (fun z => iff' (Nat.beq z sz) (iff' (bothB hi mx) (sliceO lo hi mx q o n c sz st K) (.bad 56 12)) (.bad 56 7)) = .ok from hk)
    obtain ⟨h3, h4⟩ := iff_yes h2
    obtain ⟨h5, h6⟩ := iff_yes h4
    obtain ⟨e, i, k1, k2, k3, _⟩ := sliceSz_ok h1
    exact sliceO_ok h6 h5 hlo hhi hmx g1 g2 g3 g4 k1 k2 (k3.trans (Nat.eq_of_beq_eq_true h3))
  | sn =>
    obtain ⟨z, h1, h2⟩ := onO_ok (show onO (sliceSz P t) (.bad 56 11) (fun _ => iff' (Option.isNone mx) (sliceN lo hi K) (.bad 56 10)) = .ok from hk)
    obtain ⟨h3, h4⟩ := iff_yes h2
    obtain ⟨e, i, k1, k2, k3, _⟩ := sliceSz_ok h1
    rw [nomx h3]
    obtain ⟨h5, h6⟩ := sliceN_ok (P := P) (w := w) h4 hlo hhi k1 k2
    exact ⟨_, _, h5, .sn, h6⟩
  | @p q o e st L g1 g2 g3 =>
    obtain ⟨x, h1, h2⟩ := onO_ok (show onO (arrayOf P t) (.bad 56 4) (fun a => iff' (bothB hi mx) (sliceP lo hi mx a.1 a.2.2 q o e st K) (.bad 56 13)) = .ok from hk)
    obtain ⟨h3, h4⟩ := iff_yes h2
    obtain ⟨el, k1, k2⟩ := arrayOf_ok h1
    exact sliceP_ok h4 h3 hlo hhi hmx g1 g2 g3 k1 k2
  | _ => cases hk

theorem idxAddr_ok {t : TypeId} {x : AV} {j : Nat} {K : AV → Out} (hk : idxAddr P t x j K = .ok) {u : Value} (hx : VR ρ x u) (kd : IntKind) :
    ∃ v r, K v = .ok ∧ VR ρ v r ∧ (Instr.indexAt t u (.int kd j)).run P w = .ok r w := by
  cases hx with
  | @sl q o n c sz st L ad cap g1 g2 g3 g4 =>
    obtain ⟨z, h1, h2⟩ := onO_ok (show onO (sliceSz P t) (.bad 57 4) (fun z => iff' (Nat.beq z sz) (iff' (Nat.blt j n) (forceN (Nat.add o (Nat.mul j sz)) fun o' => forceN (Nat.add o (Nat.mul n sz)) fun e => K (.p q o' e st)) (.bad 57 1)) (.bad 57 5)) = .ok from hk)
    obtain ⟨h3, h4⟩ := iff_yes h2
    obtain ⟨h5, h6⟩ := iff_yes h4
    rw [forceN_eq, forceN_eq] at h6
    obtain ⟨e, i, k1, k2, k3, _⟩ := sliceSz_ok h1
    have h5 : j < n := by simpa using h5
    have hz := k3.trans (Nat.eq_of_beq_eq_true h3)
    have hjm : j * sz ≤ n * sz := Nat.mul_le_mul_right _ (by omega)
    refine ⟨_, _, h6, .p g1 (show L.lo ≤ o + j * sz by omega) (show o + n * sz ≤ L.n from g3), ?_⟩
    have had : ad = ⟨L.cb, L.sh + o - L.lo, none⟩ := by
      rcases g4 with ⟨_, _, g, _⟩ | ⟨_, g, _⟩ | ⟨_, _, g⟩ | ⟨_, _, g⟩ <;> first | exact g | omega
    have hadd : ad.add (j * sz) = ⟨L.cb, L.sh + (o + j * sz) - L.lo, none⟩ := by rw [had, addr_add]; congr 1; omega
    simp [Instr.indexAt, asIntOf, run_underlying k1, h5, sizeOf, run_typeInfo w k2, hz, hadd]
  | @p q o e st L g1 g2 g3 =>
    obtain ⟨x, h1, h2⟩ := onO_ok (show onO (arrayOf P t) (.bad 57 2) (fun a => iff' (Nat.blt j a.1) (forceN (Nat.add o (Nat.mul j a.2.2)) fun o => K (.p q o e st)) (.bad 57 3)) = .ok from hk)
    obtain ⟨h3, h4⟩ := iff_yes h2
    rw [forceN_eq] at h4
    obtain ⟨el, k1, k2⟩ := arrayOf_ok h1
    have h3 : j < x.1 := by simpa using h3
    refine ⟨_, _, h4, .p g1 (show L.lo ≤ o + j * x.2.2 by omega) g3, ?_⟩
    have hadd : (⟨L.cb, L.sh + o - L.lo, none⟩ : Addr).add (j * x.2.2) = ⟨L.cb, L.sh + (o + j * x.2.2) - L.lo, none⟩ := by rw [addr_add]; congr 1; omega
    simp [Instr.indexAt, asIntOf, run_underlying k1, h3, sizeOf_run k2, hadd, Instr.sureAddr]
  | _ => cases hk
theorem idxK_ok {t : TypeId} {x : AV} {j : Nat} {K : AV → Out} (hk : idxK P t x j K = .ok) {u : Value} (hx : VR ρ x u) (kd : IntKind) :
    ∃ v r, K v = .ok ∧ VR ρ v r ∧ (Instr.index t u (.int kd j)).run P w = .ok r w := by
  cases hx with
  | s n s =>
    obtain ⟨h1, h2⟩ := iff_yes (show iff' (isStr P t) (iff' (Nat.blt j n) (forceN (byteAt s j) fun b => K (.i .u8 (.ofNat b))) (.bad 58 3)) (.bad 58 4) = .ok from hk)
    obtain ⟨h3, h4⟩ := iff_yes h2
    rw [forceN_eq] at h4
    have h3 : j < n := by simpa using h3
    refine ⟨_, _, h4, .i _ _, ?_⟩
    have hj : (bytesOf n s)[j]? = some (UInt8.ofNat (byteAt s j)) := by
      rw [byteAt_eq]
      have := bytesL_get n s j h3
      have hs : j < (bytesOf n s).size := by rw [bytesOf_size]; exact h3
      rw [getElem?_pos (bytesOf n s) j hs]
      congr 1
      have h2 : (bytesOf n s).data.toList[j]? = some (bytesOf n s)[j] := by
        have h' : j < (bytesOf n s).data.toList.length := by simpa using hs
        rw [List.getElem?_eq_getElem h']
        rfl
      rw [bytesOf_toList, this] at h2
      exact (Option.some.inj h2).symm
    have hb : byteAt s j < 256 := by rw [byteAt_eq]; omega
    have hm : (UInt8.ofNat (byteAt s j)).toNat = byteAt s j := by simp; omega
    simp only [Instr.index, asIntOf, Sem.run_bind, Sem.run_pure, Result.andThen_ok, run_underlying (isStr_ok h1), Int.natCast_nonneg, if_true, Int.toNat_natCast, hj, hm]
    rfl
  | @agg l vs hl =>
    obtain ⟨x, h1, h2⟩ := onO_ok (show onO (arrayOf P t) (.bad 58 6) (fun a => iff' (Nat.blt j a.1) (partK a.2.1 (Nat.mul j a.2.2) a.2.2 l K) (.bad 58 7)) = .ok from hk)
    obtain ⟨h3, h4⟩ := iff_yes h2
    obtain ⟨el, k1, k2⟩ := arrayOf_ok h1
    have h3 : j < x.1 := by simpa using h3
    obtain ⟨v, y, g1, g2, g3⟩ := partK_ok (P := P) (w := w) k2 h4 hl
    refine ⟨v, y, g1, g2, ?_⟩
    have h0 : (0 : Int) ≤ j ∧ (j : Int) < x.1 := by omega
    simp only [Instr.index, asIntOf, Sem.run_bind, Sem.run_pure, Result.andThen_ok, run_underlying k1, h0, and_self, if_true, sizeOf_run k2, Int.toNat_natCast]
    exact g3
  | _ => cases hk
theorem fieldAddr_ok {t : TypeId} {k : Nat} {fd : Nat × Bool × Nat} (hf : fieldOf P t k = some fd) {x : AV} {K : AV → Out}
    (hk : (x.on_p (.bad 41 1) fun q o e st => iff' (Nat.ble (nat_lit 1) fd.2.2) (forceN (Nat.add o fd.1) fun o => K (.p q o e st)) (.bad 41 2)) = .ok) {u : Value} (hx : VR ρ x u) :
    ∃ v r, K v = .ok ∧ VR ρ v r ∧ (Instr.fieldAt t u k).run P w = .ok r w := by
  obtain ⟨q, o, e, st, rfl, h1⟩ := AV.p_ok hk
  obtain ⟨h2, h3⟩ := iff_yes h1
  rw [forceN_eq] at h3
  obtain ⟨fs, f, k1, k2, k3, k4⟩ := fieldOf_ok hf
  cases hx with
  | @p _ _ _ _ L g1 g2 g3 =>
    refine ⟨_, _, h3, .p g1 (show L.lo ≤ o + fd.1 by omega) g3, ?_⟩
    have hz : ¬ fd.2.2 = 0 := by have : 1 ≤ fd.2.2 := Nat.le_of_ble_eq_true h2; omega
    have hadd : (⟨L.cb, L.sh + o - L.lo, none⟩ : Addr).add fd.1 = ⟨L.cb, L.sh + (o + fd.1) - L.lo, none⟩ := by rw [addr_add]; congr 1; omega
    simp [Instr.fieldAt, run_underlying k1, k2, Instr.sureAddr, fieldPlace, sizeOf_run k4, hz, k3, hadd]
theorem field_ok {t : TypeId} {k : Nat} {fd : Nat × Bool × Nat} (hf : fieldOf P t k = some fd) {x : AV} {K : AV → Out} (hk : (x.on_agg (.bad 42 1) fun l => partK fd.2.1 fd.1 fd.2.2 l K) = .ok) {u : Value} (hx : VR ρ x u) :
    ∃ v r, K v = .ok ∧ VR ρ v r ∧ (Instr.field t u k).run P w = .ok r w := by
  obtain ⟨l, rfl, h1⟩ := AV.agg_ok hk
  obtain ⟨fs, f, k1, k2, k3, k4⟩ := fieldOf_ok hf
  cases hx with
  | @agg _ vs hl =>
    obtain ⟨v, y, g1, g2, g3⟩ := partK_ok (P := P) (w := w) k4 h1 hl
    refine ⟨v, y, g1, g2, ?_⟩
    simp only [Instr.field, Sem.run_bind, run_underlying k1, Result.andThen_ok, k2, asAgg, Sem.run_pure, k3]
    exact g3
end
end Go.Proofs.YtlblaopkmigheaaGreatDoor.Ev
namespace Go.Proofs.YtlblaopkmigheaaGreatDoor.Ev
open Go Go.RowKit

section
variable {P : Program} {N0 : Nat} {ρ ρ' : Ren} {h h' : AH} {w w' : World} {T : Tr AV} {a : Act}

theorem zeroOf_ok {t : TypeId} {z : AV} (hz : zeroOf P t = some z) : ∃ i v, P.info? t = some i ∧ i.zero = some v ∧ v.cells.size = i.size ∧ ∀ ρ, VL ρ z v.cells.toList := by
  unfold zeroOf at hz
  split at hz
  · rename_i i hi
    split at hz
    · rename_i v hv
      split at hz
      · rename_i hs
        obtain rfl := Option.some.inj hz
        exact ⟨i, v, hi, hv, hs, fun ρ => avList_ok _⟩
      · cases hz
    · cases hz
  · cases hz
theorem zeroValue_run {t : TypeId} {i : TypeInfo} {v : Value} (hi : P.info? t = some i) (hv : i.zero = some v) (w : World) : (zeroValue t).run P w = .ok v w := by
  simp [zeroValue, run_typeInfo w hi, hv]

theorem newVar_run (t : TypeId) (v : Value) (w : World) : (newVar t v).run P w = .ok ⟨w.heap.size, 0, none⟩ (w.alloc (.cells v.cells t)) := rfl
/-- A new variable. -/
theorem newVar_ok (hw : WR N0 ρ h w) {l : AV} {K : AV → AH → Out} (hk : (newCells h l fun q n h => K (.p q (nat_lit 0) n (nat_lit 0)) h) = .ok) {t : TypeId} {v : Value} (hv : VL ρ l v.cells.toList) :
    ∃ r y h' w' ρ', K r h' = .ok ∧ Ext N0 ρ h w ρ' h' w' ∧ VR ρ' r y ∧ (do pure (.pointer (some (← newVar t v))) : Sem Value).run P w = .ok y w' := by
  obtain ⟨q, h', ρ', h1, h2, h3, _⟩ := newCells_ok hw hk hv t []
  refine ⟨_, _, h', _, ρ', h1, h2, .p h3 (Nat.le_refl _) (Nat.le_refl _), ?_⟩
  rw [Sem.run_bind, newVar_run]
  simp

theorem fill_cells (off : Nat) : ∀ (vs : List Value) (k : Nat) (cs : Array Value), off + k + vs.length ≤ cs.size →
    ((vs.zipIdx k).foldl (fun cs (x : Value × Nat) => cs.setIfInBounds (off + x.2) x.1) cs) = over cs (off + k) vs := by
  intro vs
  induction vs with
  | nil => intro k cs hl; apply Array.ext'; simp [over]
  | cons v vs ih =>
    intro k cs hl
    rw [List.zipIdx_cons, List.foldl_cons]
    rw [ih (k + 1) (cs.setIfInBounds (off + k) v) (by simp at hl ⊢; omega)]
    apply Array.ext_getElem?
    intro j
    simp only [List.length_cons] at hl
    rw [over_get (by simp; omega), over_get (by simp; omega)]
    simp only [List.length_cons]
    by_cases h1 : j = off + k
    · subst h1
      rw [if_neg (by omega), if_pos (by omega)]
      simp [Array.getElem?_setIfInBounds]
      omega
    · by_cases h2 : off + (k + 1) ≤ j ∧ j < off + (k + 1) + vs.length
      · rw [if_pos h2, if_pos (by omega)]
        rw [show j - (off + k) = (j - (off + (k + 1))) + 1 by omega, List.getElem?_cons_succ]
      · rw [if_neg h2, if_neg (by omega)]
        rw [Array.getElem?_setIfInBounds_ne (by omega)]

/-- Parts of a composite. -/
theorem evParts_ok {rd : Rd} (hT : RdOK ρ rd a) {pl pl' : Nat → Option (Nat × Nat)} (hpl : ∀ i os, pl i = some os → pl' i = some os) : ∀ {ps : List (Nat × Operand)} {l : AV} {K : AV → Out} {cs : List Value}, evParts ps pl rd l K = .ok → VL ρ l cs →
    ∃ r cs', K r = .ok ∧ VL ρ r cs' ∧ Instr.fill pl' cs.toArray (ps.map fun p => (p.1, a.eval p.2)) = some cs'.toArray
  | [], l, K, cs, hk, hl => ⟨l, cs, hk, hl, rfl⟩
  | p :: ps, l, K, cs, hk, hl => by
    obtain ⟨os, h1, h2⟩ := onO_ok (show onO (pl p.1) (.bad 50 0) (fun os => rd p.2 fun v => cellsK v fun r => iff' (Nat.beq (lenL r) os.2) (overAtK os.1 r l fun l => evParts ps pl rd l K) (.bad 50 1)) = .ok from hk)
    obtain ⟨v, h3, h4⟩ := evX_ok hT h2
    obtain ⟨r, h5, h6⟩ := cellsK_ok h4
    obtain ⟨h7, h8⟩ := iff_yes h5
    obtain ⟨m, h9, h10⟩ := overAtK_ok h8
    have hr := h6 ρ _ h3
    obtain ⟨h11, h12⟩ := h10 ρ _ _ hr hl
    obtain ⟨r', cs', g1, g2, g3⟩ := evParts_ok hT hpl h9 h12
    refine ⟨r', cs', g1, g2, ?_⟩
    have h7 := Nat.eq_of_beq_eq_true h7
    have hsz : (a.eval p.2).cells.size = os.2 := by rw [← h7, hr.length]; simp
    simp only [List.map_cons, Instr.fill, hpl _ _ h1, hsz]
    rw [if_neg (by simp at h11 ⊢; omega)]
    have := fill_cells os.1 (a.eval p.2).cells.toList 0 cs.toArray (by simpa using h11)
    rw [Nat.add_zero] at this
    rw [← Array.foldl_toList, Array.toList_zipIdx, this]
    rw [← g3]
    rfl
end
end Go.Proofs.YtlblaopkmigheaaGreatDoor.Ev
namespace Go.Proofs.YtlblaopkmigheaaGreatDoor.Ev
open Go Go.RowKit

section
variable {P : Program} {N0 : Nat} {ρ ρ' : Ren} {h h' : AH} {w w' : World} {T : Tr AV} {a : Act}

theorem places_run (fs : Array Field) (hf : fs.all (fun f => (P.info? f.type).isSome) = true) (w : World) :
    (fs.mapM fun f => do pure (f.offset, ← sizeOf f.type) : Sem (Array (Nat × Nat))).run P w = .ok (fs.map fun f => (f.offset, P.cellsOf f.type)) w := by
  rw [Array.mapM_eq_mapM_toList]
  have key : ∀ l : List Field, (∀ f ∈ l, (P.info? f.type).isSome = true) → (l.mapM fun f => do pure (f.offset, ← sizeOf f.type) : Sem (List (Nat × Nat))).run P w = .ok (l.map fun f => (f.offset, P.cellsOf f.type)) w := by
    intro l
    induction l with
    | nil => intro _; rfl
    | cons f l ih =>
      intro hl
      obtain ⟨i, hi⟩ := Option.isSome_iff_exists.1 (hl f (by simp))
      rw [List.mapM_cons]
      simp only [Sem.run_bind, run_sizeOf w hi, Result.andThen_ok, Sem.run_pure, ih (fun g hg => hl g (by simp [hg]))]
      rfl
  simp only [Sem.run_map, key fs.toList (fun f hf' => (Array.all_eq_true_iff_forall_mem.1 hf) f (Array.mem_toList_iff.1 hf')), Result.andThen_ok]
  congr 1
  apply Array.ext'
  simp

theorem build_ok {rd : Rd} (hT : RdOK ρ rd a) {t : TypeId} {z : AV} (hz : zeroOf P t = some z) (hcb : canBuild P t = true) {ps : Array (Nat × Operand)} {K : AV → Out} (hk : (evParts ps.toList (partAt P t) rd z fun l => K (.agg l)) = .ok) :
    ∃ v r, K v = .ok ∧ VR ρ v r ∧ (Instr.build t (ps.map fun p => (p.1, a.eval p.2))).run P w = .ok r w := by
  obtain ⟨i, zv, g1, g2, g3, g4⟩ := zeroOf_ok hz
  have e : (ps.map fun p => (p.1, a.eval p.2)).toList = ps.toList.map fun p => (p.1, a.eval p.2) := by simp
  unfold canBuild at hcb
  split at hcb
  · rename_i fs hd
    have hpl : ∀ i os, partAt P t i = some os → (fs.map fun f => (f.offset, P.cellsOf f.type))[i]? = some os := by
      intro i os ho
      unfold partAt at ho
      rw [hd] at ho
      simp only [hcb, if_true] at ho
      split at ho
      · rename_i f hf
        obtain rfl := Option.some.inj ho
        obtain ⟨fs', fd, k1, k2, k3, k4⟩ := fieldOf_ok hf
        rw [hd] at k1
        simp only [Option.some.injEq, TypeDesc.struct.injEq] at k1
        subst k1
        obtain ⟨d, ii, q1, q2, q3, _⟩ := aggSz_ok k4
        simp only [Array.getElem?_map, k2, Option.map_some, k3, Program.cellsOf, q2, Option.getD_some]
        rw [← q3]
      · cases ho
    obtain ⟨r, cs', h1, h2, h3⟩ := evParts_ok (a := a) hT hpl hk (g4 ρ)
    refine ⟨_, _, h1, .agg h2, ?_⟩
    simp only [Instr.build, Sem.run_bind, zeroValue_run g1 g2, Result.andThen_ok, run_underlying hd, places_run fs hcb]
    rw [e]
    rw [Array.toArray_toList] at h3
    rw [h3]
    rfl
  · rename_i n e' hd
    have hpl : ∀ i os, partAt P t i = some os → (fun i => some (i * P.cellsOf e', P.cellsOf e')) i = some os := by
      intro i os ho
      unfold partAt at ho
      rw [hd] at ho
      dsimp only at ho
      split at ho
      · rename_i x hx
        obtain rfl := Option.some.inj ho
        obtain ⟨e2, k1, k2⟩ := arrayOf_ok hx
        rw [hd] at k1
        simp only [Option.some.injEq, TypeDesc.array.injEq] at k1
        obtain ⟨rfl, rfl⟩ := k1
        obtain ⟨d, ii, q1, q2, q3, _⟩ := aggSz_ok k2
        have : P.cellsOf e' = x.2.2 := by simp [Program.cellsOf, q2]; exact q3.symm
        show some (i * P.cellsOf e', P.cellsOf e') = _
        rw [this]
        rfl
      · cases ho
    obtain ⟨ii, q2⟩ := Option.isSome_iff_exists.1 hcb
    obtain ⟨r, cs', h1, h2, h3⟩ := evParts_ok (a := a) hT hpl hk (g4 ρ)
    refine ⟨_, _, h1, .agg h2, ?_⟩
    simp only [Instr.build, Sem.run_bind, zeroValue_run g1 g2, Result.andThen_ok, run_underlying hd, run_sizeOf w q2]
    rw [e]
    rw [Array.toArray_toList] at h3
    rw [h3]
    rfl
  · cases hcb

theorem rep_cells (zs : List Value) : ∀ c, ((Array.range (c * zs.length)).map (fun i => zs.toArray[i % zs.length]!)) = ((List.replicate c zs).flatten).toArray := by
  intro c
  apply Array.ext_getElem?
  intro j
  have hlen : ((List.replicate c zs).flatten).length = c * zs.length := by simp
  by_cases hj : j < c * zs.length
  · have hpos : 0 < zs.length := by
      rcases Nat.eq_zero_or_pos zs.length with h | h
      · rw [h] at hj; omega
      · exact h
    have hm : j % zs.length < zs.length := Nat.mod_lt _ hpos
    have hg : ∀ c j, j < c * zs.length → ((List.replicate c zs).flatten)[j]? = zs[j % zs.length]? := by
      intro c
      induction c with
      | zero => intro j hj; omega
      | succ c ih =>
        intro j hj
        rw [List.replicate_succ, List.flatten_cons]
        by_cases h1 : j < zs.length
        · rw [List.getElem?_append_left h1, Nat.mod_eq_of_lt h1]
        · rw [List.getElem?_append_right (by omega), ih (j - zs.length) (by rw [Nat.succ_mul] at hj; omega)]
          congr 1
          conv => rhs; rw [show j = (j - zs.length) + zs.length by omega]
          rw [Nat.add_mod_right]
    have hr : ((List.replicate c zs).flatten.toArray)[j]? = zs[j % zs.length]? := by rw [List.getElem?_toArray]; exact hg c j hj
    rw [hr]
    simp [hj, hm]
  · rw [Array.getElem?_eq_none (by simpa using hj), Array.getElem?_eq_none (by simp; omega)]

theorem buildSlice_ok {rd : Rd} (hT : RdOK ρ rd a) (hw : WR N0 ρ h w) {t : TypeId} {len : Nat} {ps : Array (Nat × Operand)} {K : AV → AH → Out} {sz : Nat} {z : AV} (h1 : sliceSz P t = some sz) (h2 : sliceZero P t = some z)
    (hk : (iff' (Nat.ble (Nat.mul len sz) (nat_lit 16777216)) (repL z len fun z => evParts ps.toList (fun i => some (Nat.mul i sz, sz)) rd z fun l => newCells h l fun q _ h => K (.sl q (nat_lit 0) len (Nat.succ len) sz (nat_lit 0)) h) (.bad 34 2)) = .ok) :
    ∃ r y h' w' ρ', K r h' = .ok ∧ Ext N0 ρ h w ρ' h' w' ∧ VR ρ' r y ∧ (Instr.buildSlice t len (ps.map fun p => (p.1, a.eval p.2))).run P w = .ok y w' := by
  obtain ⟨e, i, k1, k2, k3, k4⟩ := sliceSz_ok h1
  unfold sliceZero at h2
  rw [k1] at h2
  obtain ⟨i', zv, g1, g2, g3, g4⟩ := zeroOf_ok h2
  rw [k2] at g1
  obtain rfl := Option.some.inj g1
  obtain ⟨hb, hk⟩ := iff_yes hk
  have hb : len * sz ≤ 16777216 := Nat.le_of_ble_eq_true hb
  obtain ⟨zz, hk, hz⟩ := repL_ok hk
  have hz := hz ρ _ (g4 ρ)
  obtain ⟨r, cs', hk, hr, hfill⟩ := evParts_ok (a := a) hT (pl' := fun i => some (i * sz, sz)) (fun i os ho => ho) hk hz
  obtain ⟨q, h', ρ', h3, h4, h5, _⟩ := newCells_ok hw hk hr e []
  have hcl : cs'.length = len * sz := by
    have : ∀ (pl : Nat → Option (Nat × Nat)) (cells : Array Value) (l : List (Nat × Value)) (r : Array Value), Instr.fill pl cells l = some r → r.size = cells.size := by
      intro pl cells l
      induction l generalizing cells with
      | nil => intro r hr; simp [Instr.fill] at hr; rw [← hr]
      | cons p l ih =>
        intro r hr
        simp only [Instr.fill] at hr
        split at hr
        · cases hr
        · split at hr
          · cases hr
          · rw [ih _ _ hr]
            have : ∀ (l : List (Value × Nat)) (c : Array Value) (off : Nat), (l.foldl (fun cs (x : Value × Nat) => cs.setIfInBounds (off + x.2) x.1) c).size = c.size := by
              intro l
              induction l with
              | nil => intro c off; rfl
              | cons x l ih => intro c off; rw [List.foldl_cons, ih]; simp
            rw [← Array.foldl_toList]
            exact this _ _ _
    have h0 := this _ _ _ _ hfill
    simp at h0
    rw [h0, g3, k3]
  refine ⟨_, _, h', _, ρ', h3, h4, .sl h5 (Nat.le_refl _) (show 0 + len * sz ≤ cs'.length by omega) (.inr (.inr (.inl ⟨rfl, Nat.le_refl len, rfl⟩))), ?_⟩
  have hsz : (sizeOf e).run P w = .ok sz w := by simp [sizeOf, run_typeInfo w k2, k3]
  have hcells : ((Array.range (len * sz)).map fun i => zv.cells[i % zv.cells.size]!) = ((List.replicate len zv.cells.toList).flatten).toArray := by
    have := rep_cells zv.cells.toList len
    simpa [g3, k3] using this
  have hmap : (ps.map fun p => (p.1, a.eval p.2)).toList = ps.toList.map fun p => (p.1, a.eval p.2) := by simp
  have hnb : ¬ len * sz > 2 ^ 24 := by omega
  by_cases h0 : len * sz = 0
  · have hnil : ((List.replicate len zv.cells.toList).flatten) = [] := by
      apply List.eq_nil_of_length_eq_zero
      simp [g3, k3, h0]
    rw [hnil] at hfill
    have hn0 : ¬ (0 : Nat) > 2 ^ 24 := by decide
    simp only [Instr.buildSlice, Sem.run_bind, run_underlying k1, Result.andThen_ok, hsz, h0, hn0, if_false, if_true, Sem.run_pure, hmap]
    have hr : ∀ z : Array Value, ((Array.range 0).map fun (x : Nat) => z[x % z.size]!) = #[] := fun z => by simp
    simp only [hr]
    have hfill' : Instr.fill (fun i => some (i * sz, sz)) #[] (ps.toList.map fun p => (p.1, a.eval p.2)) = some cs'.toArray := hfill
    rw [hfill', List.append_nil]
    rfl
  · simp only [Instr.buildSlice, Sem.run_bind, run_underlying k1, Result.andThen_ok, hsz, hnb, if_false, h0, zeroValue_run k2 g2, Sem.run_pure, hmap, hcells]
    rw [hfill, List.append_nil]
    rfl
end
end Go.Proofs.YtlblaopkmigheaaGreatDoor.Ev
namespace Go.Proofs.YtlblaopkmigheaaGreatDoor.Ev
open Go Go.RowKit

section
variable {P : Program} {N0 : Nat} {ρ ρ' : Ren} {h h' : AH} {w w' : World} {T : Tr AV} {a : Act}

theorem rep_len (zs : List Value) (c : Nat) : ((List.replicate c zs).flatten).length = c * zs.length := by simp
theorem layN_ok : ∀ {m : Nat} {z : AV} {t : Tr AV} {o : Nat} {K : Tr AV → Nat → Out}, layN m z t o K = .ok → ∃ t', K t' (o + m * lenL z) = .ok ∧ (∀ k, k < o → t'.get (posOf k) = t.get (posOf k)) ∧
    ∀ (ρ : Ren) (vs : List Value), VL ρ z vs → ∀ i v, i < m * vs.length → t'.get (posOf (o + i)) = some v → ∃ x, ((List.replicate m vs).flatten)[i]? = some x ∧ VR ρ v x
  | 0, z, t, o, K, hk => ⟨t, by rw [Nat.zero_mul, Nat.add_zero]; exact hk, fun _ _ => rfl, fun ρ vs _ i v hi => by omega⟩
  | m + 1, z, t, o, K, hk => by
    obtain ⟨t1, h1, h2, h3⟩ := layK_ok (show layK z t o (fun t' o' => layN m z t' o' K) = .ok from hk)
    obtain ⟨t', h4, h5, h6⟩ := layN_ok h1
    refine ⟨t', by rw [Nat.succ_mul, Nat.add_comm (m * lenL z), ← Nat.add_assoc]; exact h4, fun k hk => ?_, fun ρ vs hv i v hi hg => ?_⟩
    · rw [h5 k (by omega), h2 k (by omega)]
    · have hlen := hv.length
      rw [List.replicate_succ, List.flatten_cons]
      by_cases hlt : i < vs.length
      · rw [List.getElem?_append_left hlt]
        rw [h5 (o + i) (by omega)] at hg
        exact (h3 ρ vs hv).2 i v hlt hg
      · rw [List.getElem?_append_right (by omega)]
        refine h6 ρ vs hv (i - vs.length) v (by rw [Nat.succ_mul] at hi; omega) ?_
        rw [← hg]
        congr 2
        omega

theorem makeSlice_ok (hw : WR N0 ρ h w) {t : TypeId} {l c : Nat} {K : AV → AH → Out} {sz : Nat} {z : AV} (h1 : sliceSz P t = some sz) (h2 : sliceZero P t = some z) (hlc : l ≤ c) (hc : c ≤ 1000000)
    (hk : (layN c z .e (nat_lit 0) fun t n => newBlk h (.c n t (nat_lit 0) bigN false) fun q h => K (.sl q (nat_lit 0) l (Nat.succ c) sz (nat_lit 0)) h) = .ok) (kl kc : IntKind) :
    ∃ r y h' w' ρ', K r h' = .ok ∧ Ext N0 ρ h w ρ' h' w' ∧ VR ρ' r y ∧ (Instr.makeSlice t (.int kl l) (.int kc c)).run P w = .ok y w' := by
  obtain ⟨e, i, k1, k2, k3, k4⟩ := sliceSz_ok h1
  unfold sliceZero at h2
  rw [k1] at h2
  obtain ⟨i', zv, g1, g2, g3, g4⟩ := zeroOf_ok h2
  rw [k2] at g1
  obtain rfl := Option.some.inj g1
  obtain ⟨t', hk, _, ht⟩ := layN_ok hk
  have hz := g4 ρ
  have hlz : lenL z = sz := by rw [hz.length, Array.length_toList, g3, k3]
  rw [newBlk_eq, hlz, Nat.zero_add] at hk
  have hvz : zv.cells.toList.length = sz := by rw [Array.length_toList, g3, k3]
  have hvl : ((List.replicate c zv.cells.toList).flatten).length = c * sz := by rw [rep_len, hvz]
  obtain ⟨ρ', h3, h4⟩ := newTree_ok hw (t' := t') (vs := (List.replicate c zv.cells.toList).flatten) (fun i v hi hg => ht ρ _ hz i v (by rw [hvl] at hi; rw [hvz]; exact hi) (by rw [Nat.zero_add]; exact hg)) e []
  rw [hvl] at h3 h4
  refine ⟨_, _, _, _, ρ', hk, h3, .sl h4 (Nat.le_refl _) (show 0 + l * sz ≤ c * sz by rw [Nat.zero_add]; exact Nat.mul_le_mul_right _ hlc) (.inr (.inr (.inl ⟨rfl, hlc, rfl⟩))), ?_⟩
  have hby : c * i.bytes ≤ 1000000 * 1048576 := Nat.mul_le_mul hc k4
  have hb : (i.bytes : Int) * (c : Int) ≤ 281474976710656 := by
    have h5 : i.bytes * c = c * i.bytes := Nat.mul_comm _ _
    have : ((i.bytes * c : Nat) : Int) ≤ 1048576000000 := by omega
    rw [Int.natCast_mul] at this
    omega
  have hr := run_make (P := P) w t e i zv k1 k2 g2 kl kc l c (by omega) (by omega) hb (by omega)
  rw [hr]
  simp only [Int.toNat_natCast]
  congr 2
  have hcells : madeCells zv.cells (c * i.size) = ((List.replicate c zv.cells.toList).flatten).toArray := by
    have := rep_cells zv.cells.toList c
    unfold madeCells
    simpa [g3] using this
  rw [hcells, List.append_nil]
end
end Go.Proofs.YtlblaopkmigheaaGreatDoor.Ev
