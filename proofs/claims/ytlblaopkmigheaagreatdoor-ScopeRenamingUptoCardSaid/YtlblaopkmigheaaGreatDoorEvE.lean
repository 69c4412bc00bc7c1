/- Maps: what the evaluator does and what the model does. No program stands in it. -/
import Derived.Test.YtlblaopkmigheaaGreatDoorEvD
namespace Go.Proofs.YtlblaopkmigheaaGreatDoor.Ev
open Go Go.RowKit

section
variable {P : Program} {N0 : Nat} {ρ ρ' : Ren} {h h' : AH} {w w' : World} {T : Tr AV} {a : Act}

theorem ER.length {es : Ents} {i : Nat} {r : List MapEntry} (hr : ER ρ es i r) : lenE es = r.length := by
  induction hr with
  | nl => rfl
  | cn _ _ _ ih => exact congrArg Nat.succ ih

/-- What the kind of a map's keys says of their type. -/
theorem mapKd_ok {t : TypeId} {kd : Kd} (hk : mapKd P t = kd) (hno : kd ≠ .no) : ∃ kt vt, P.underlying t = some (.map kt vt) ∧ kindOf P kt = kd ∧ ((∃ p, kd = .one p ∧ pkOf P kt = some p) ∨ (kd = .ptr ∧ ∃ e, P.underlying kt = some (.pointer e))) := by
  unfold mapKd at hk
  split at hk
  · rename_i kt vt hd
    refine ⟨kt, vt, hd, ?_⟩
    split at hk
    · rename_i p hp
      subst hk
      refine ⟨hp, .inl ⟨p, rfl, ?_⟩⟩
      unfold kindOf at hp
      unfold pkOf
      split at hp <;> first
        | (rename_i hd2; injection hp with hp; subst hp; simp [hd2])
        | (split at hp <;> first | cases hp | (split at hp <;> cases hp))
        | cases hp
    · rename_i hp
      subst hk
      refine ⟨hp, .inr ⟨rfl, ?_⟩⟩
      unfold kindOf at hp
      split at hp <;> first
        | (rename_i e hd2; exact ⟨e, hd2⟩)
        | (split at hp <;> first | cases hp | (split at hp <;> cases hp))
        | cases hp
    · exact absurd hk.symm hno
  · exact absurd hk.symm hno

theorem checkKey_ok {kt : TypeId} (hk : (∃ p, pkOf P kt = some p) ∨ ∃ e, P.underlying kt = some (.pointer e)) (em : Bool) (u : Value) (w : World) : (Instr.checkKey em 10000 kt u).run P w = .ok () w := by
  rcases hk with ⟨p, hp⟩ | ⟨e, hd⟩
  · unfold pkOf at hp
    split at hp <;> first
      | (rename_i hd; unfold Instr.checkKey; simp only [Sem.run_bind, run_underlying hd, Result.andThen_ok]; cases u <;> rfl)
      | cases hp
  · unfold Instr.checkKey
    simp only [Sem.run_bind, run_underlying hd, Result.andThen_ok]
    cases u <;> rfl

/-- Two plain keys. -/
theorem eqPk_now {k : Pk} {x y : AV} {K : Bool → Out} (hk : eqPk k x y K = .ok) {u v : Value} (hx : VR ρ x u) (hy : VR ρ y v) {t : TypeId} (ht : pkOf P t = some k) {d : TypeDesc} (hd0 : P.underlying t = some d) :
    ∃ e, K e = .ok ∧ Instr.sameNow d u v = some e ∧ (e = true → u = v) := by
  unfold pkOf at ht
  split at ht
  · rename_i hd
    obtain rfl := Option.some.inj ht
    obtain rfl := Option.some.inj (hd0.symm.trans hd)
    obtain ⟨k, p, rfl, h1⟩ := AV.i_ok (show x.on_i (.bad 23 0) (fun k a => y.on_i (.bad 23 1) fun k' b => iff' (eqK k k') (K (eqI a b)) (.bad 23 2)) = .ok from hk)
    obtain ⟨k', q, rfl, h2⟩ := AV.i_ok h1
    obtain ⟨e1, h3⟩ := iff_yes h2
    cases hx; cases hy
    exact ⟨_, h3, by simp [Instr.sameNow, eqK_ok e1, eqI_eq]; rfl, fun he => by rw [eqI_eq] at he; rw [eqK_ok e1, of_decide_eq_true he]⟩
  · rename_i hd
    obtain rfl := Option.some.inj ht
    obtain rfl := Option.some.inj (hd0.symm.trans hd)
    obtain ⟨n, p, rfl, h1⟩ := AV.s_ok (show x.on_s (.bad 23 3) (fun n a => y.on_s (.bad 23 4) fun m b => K (eqS n a m b)) = .ok from hk)
    obtain ⟨m, q, rfl, h2⟩ := AV.s_ok h1
    cases hx; cases hy
    rw [← bytesOf_beq] at h2
    exact ⟨_, h2, by simp [Instr.sameNow, beq_toListBytes], fun he => by rw [bytesOf_list, bytesOf_list, beq_iff_eq] at he; unfold bytesOf; rw [he]⟩
  · rename_i hd
    obtain rfl := Option.some.inj ht
    obtain rfl := Option.some.inj (hd0.symm.trans hd)
    obtain ⟨p, rfl, h1⟩ := AV.b_ok (show x.on_b (.bad 23 5) (fun a => y.on_b (.bad 23 6) fun b => K (eqB a b)) = .ok from hk)
    obtain ⟨q, rfl, h2⟩ := AV.b_ok h1
    cases hx; cases hy
    rw [eqB_eq] at h2
    exact ⟨_, h2, by simp [Instr.sameNow], fun he => by rw [beq_iff_eq.1 he]⟩
  · cases ht
/-- One of the entries, from number i on, has this key. -/
def At (r : List MapEntry) (i j : Nat) (u y : Value) : Prop := i ≤ j ∧ ∃ e, r[j - i]? = some e ∧ e.key = u ∧ e.val = y
theorem At.cons {r : List MapEntry} {i j : Nat} {u y : Value} {e0 : MapEntry} (h : At r (i + 1) j u y) : At (e0 :: r) i j u y := by
  obtain ⟨h1, e, h2, h3⟩ := h
  refine ⟨by omega, e, ?_, h3⟩
  rw [show j - i = (j - (i + 1)) + 1 by omega, List.getElem?_cons_succ]
  exact h2
theorem findE_one {kt : TypeId} {p : Pk} (hp : pkOf P kt = some p) {d : TypeDesc} (hd : P.underlying kt = some d) : ∀ {es : Ents} {i : Nat} {r : List MapEntry}, ER ρ es i r → ∀ {k : AV} {K : Option AV → Out}, findE es (.one p) k K = .ok → ∀ {u : Value}, VR ρ k u →
    ∃ res, K res = .ok ∧ ((res = none ∧ Instr.findNow d u r i = some none) ∨ ∃ x y j, res = some x ∧ VR ρ x y ∧ At r i j u y ∧ Instr.findNow d u r i = some (some (j, y))) := by
  intro es i r hr
  induction hr with
  | nl i => intro k K hk u hu; exact ⟨none, hk, .inl ⟨rfl, rfl⟩⟩
  | @cn k' v t i x y r h1 h2 _ ih =>
    intro k K hk u hu
    obtain ⟨e, g1, hs, g3⟩ := eqPk_now (show eqPk p k k' (fun e => iff' e (K (some v)) (findE t (.one p) k K)) = .ok from hk) hu h1 hp hd
    cases e with
    | true => exact ⟨some v, g1, .inr ⟨v, y, i, rfl, h2, ⟨Nat.le_refl i, { key := x, val := y, born := i }, by simp, (g3 rfl).symm, rfl⟩, by simp [Instr.findNow, hs]⟩⟩
    | false =>
      obtain ⟨res, q1, q2⟩ := ih (show findE t (.one p) k K = .ok from g1) hu
      refine ⟨res, q1, ?_⟩
      rcases q2 with ⟨q3, q4⟩ | ⟨x', y', j, q3, q4, q5, q6⟩
      · exact .inl ⟨q3, by simp [Instr.findNow, hs, q4]⟩
      · exact .inr ⟨x', y', j, q3, q4, q5.cons, by simp [Instr.findNow, hs, q6]⟩
theorem findE_ptr (hw : WR N0 ρ h w) {kt : TypeId} (hkd : kindOf P kt = .ptr) : ∀ {es : Ents} {i : Nat} {r : List MapEntry}, ER ρ es i r → ∀ {k : AV} {K : Option AV → Out}, findE es .ptr k K = .ok → ∀ {u : Value}, VR ρ k u →
    ∃ res, K res = .ok ∧ ((res = none ∧ (Instr.findAsking kt u r i).run P w = .ok none w) ∨ ∃ x y j, res = some x ∧ VR ρ x y ∧ At r i j u y ∧ (Instr.findAsking kt u r i).run P w = .ok (some (j, y)) w) := by
  intro es i r hr
  induction hr with
  | nl i => intro k K hk u hu; exact ⟨none, hk, .inl ⟨rfl, rfl⟩⟩
  | @cn k' v t i x y r h1 h2 _ ih =>
    intro k K hk u hu
    obtain ⟨e, g1, g2, _, g3⟩ := eqV_ok hw (t := kt) (show eqV (kindOf P kt) k k' (fun e => iff' e (K (some v)) (findE t .ptr k K)) = .ok by rw [hkd]; exact hk) hu h1 9998
    have hs : (Op.equal kt u x).run P w = .ok e w := g2
    cases e with
    | true => exact ⟨some v, g1, .inr ⟨v, y, i, rfl, h2, ⟨Nat.le_refl i, { key := x, val := y, born := i }, by simp, (g3 rfl).symm, rfl⟩, by simp [Instr.findAsking, hs]⟩⟩
    | false =>
      obtain ⟨res, q1, q2⟩ := ih (show findE t .ptr k K = .ok from g1) hu
      refine ⟨res, q1, ?_⟩
      rcases q2 with ⟨q3, q4⟩ | ⟨x', y', j, q3, q4, q5, q6⟩
      · exact .inl ⟨q3, by simp [Instr.findAsking, hs, q4]⟩
      · exact .inr ⟨x', y', j, q3, q4, q5.cons, by simp [Instr.findAsking, hs, q6]⟩
theorem findKey_now {kt : TypeId} {d : TypeDesc} {u : Value} {r : List MapEntry} {x : Option (Nat × Value)} (hd : P.underlying kt = some d) (h : Instr.findNow d u r 0 = some x) : (Instr.findKey kt u r).run P w = .ok x w := by
  simp [Instr.findKey, run_underlying hd, h]
/-- A key is looked for. -/
theorem findKey_ok (hw : WR N0 ρ h w) {t : TypeId} {es : Ents} {r : List MapEntry} (hr : ER ρ es 0 r) {k : AV} {K : Option AV → Out} (hno : mapKd P t ≠ .no) (hk : findE es (mapKd P t) k K = .ok) {u : Value} (hu : VR ρ k u) :
    ∃ kt vt, P.underlying t = some (.map kt vt) ∧ (∀ em, (Instr.checkKey em 10000 kt u).run P w = .ok () w) ∧
      ∃ res, K res = .ok ∧ ((res = none ∧ (Instr.findKey kt u r).run P w = .ok none w) ∨ ∃ x y j, res = some x ∧ VR ρ x y ∧ At r 0 j u y ∧ (Instr.findKey kt u r).run P w = .ok (some (j, y)) w) := by
  obtain ⟨kt, vt, h1, h2, h3⟩ := mapKd_ok rfl hno
  refine ⟨kt, vt, h1, fun em => checkKey_ok (h3.imp (fun ⟨p, _, h⟩ => ⟨p, h⟩) (fun ⟨_, h⟩ => h)) em u w, ?_⟩
  rcases h3 with ⟨p, hp, hp2⟩ | ⟨hp, el, hd⟩
  · rw [hp] at hk
    have hd : ∃ d, P.underlying kt = some d := by
      cases hx : P.underlying kt with
      | none => simp [pkOf, hx] at hp2
      | some d => exact ⟨d, rfl⟩
    obtain ⟨d, hd⟩ := hd
    obtain ⟨res, q1, q2⟩ := findE_one hp2 hd hr hk hu
    refine ⟨res, q1, ?_⟩
    rcases q2 with ⟨q3, q4⟩ | ⟨x', y', j, q3, q4, q5, q6⟩
    · exact .inl ⟨q3, findKey_now hd q4⟩
    · exact .inr ⟨x', y', j, q3, q4, q5, findKey_now hd q6⟩
  · rw [hp] at hk h2
    obtain ⟨res, q1, q2⟩ := findE_ptr hw h2 hr hk hu
    refine ⟨res, q1, ?_⟩
    have hfk : r ≠ [] → Instr.findNow (.pointer el) u r 0 = none := by
      intro hne
      cases r with
      | nil => exact absurd rfl hne
      | cons e r => cases u <;> rfl
    by_cases hne : r = []
    · subst hne
      have hn : (Instr.findKey kt u []).run P w = .ok none w := findKey_now hd rfl
      rcases q2 with ⟨q3, q4⟩ | ⟨x', y', j, q3, q4, q5, q6⟩
      · exact .inl ⟨q3, hn⟩
      · obtain ⟨_, e, h5, _⟩ := q5; simp at h5
    · have hrun : (Instr.findKey kt u r).run P w = (Instr.findAsking kt u r 0).run P w := by
        simp [Instr.findKey, run_underlying hd, hfk hne]
      rcases q2 with ⟨q3, q4⟩ | ⟨x', y', j, q3, q4, q5, q6⟩
      · exact .inl ⟨q3, hrun.trans q4⟩
      · exact .inr ⟨x', y', j, q3, q4, q5, hrun.trans q6⟩

theorem mapZero_ok {t kt vt : TypeId} (hd : P.underlying t = some (.map kt vt)) {z : AV} (hz : mapZero P t = some z) : ∃ v, (∀ w, (zeroValue vt).run P w = .ok v w) ∧ ∀ ρ, VR ρ z v := by
  unfold mapZero at hz
  rw [hd] at hz
  dsimp only at hz
  split at hz
  · rename_i i hi
    split at hz
    · rename_i v hv
      obtain rfl := Option.some.inj hz
      exact ⟨v, fun w => zeroValue_run hi hv w, fun ρ => avOf_ok v⟩
    · cases hz
  · cases hz
theorem foundK_ok {r : Option AV} {z : AV} {ok : Bool} {K : AV → Out} (hk : foundK r z ok K = .ok) : K (if ok then .tup (.cn (r.getD z) (.cn (.b r.isSome) .nl)) else r.getD z) = .ok := by
  cases r <;> cases ok <;> exact hk
theorem mapGet_ok (hw : WR N0 ρ h w) {t : TypeId} {m k : AV} {ok : Bool} {K : AV → Out} (hk : mapGet P t h m k ok K = .ok) {u v : Value} (hm : VR ρ m u) (hv : VR ρ k v) :
    ∃ r y, K r = .ok ∧ VR ρ r y ∧ (Instr.lookup t u v ok).run P w = .ok y w := by
  have noKd : ∀ X : Bool → Out, eqV (mapKd P t) k k X = .ok → mapKd P t ≠ .no := fun X h e => by rw [e] at h; cases h
  have give : ∀ {r : Option AV} {z : AV} {y zv : Value} {b : Bool}, foundK r z ok K = .ok → VR ρ (r.getD z) y → r.isSome = b → ∃ q x, K q = .ok ∧ VR ρ q x ∧ x = (if ok then .tuple #[y, .bool b] else y) := by
    intro r z y zv b h1 h2 h3
    refine ⟨_, _, foundK_ok h1, ?_, rfl⟩
    cases ok with
    | true => rw [← h3]; exact .tup (.cn h2 (.cn (.b _) .nl))
    | false => exact h2
  cases hm with
  | @m q L g1 =>
    obtain ⟨z, h1, h2⟩ := onO_ok (show onO (mapZero P t) (.bad 60 0) (fun z => onMap h q fun es => eqV (mapKd P t) k k fun _ => findE es (mapKd P t) k fun r => foundK r z ok K) = .ok from hk)
    obtain ⟨es, h3, h4⟩ := onMap_ok h2
    have hno := noKd _ h4
    obtain ⟨B, b1, b2⟩ := hw.blk _ _ _ g1
    rw [h3] at b1
    obtain rfl := Option.some.inj b1
    obtain ⟨_, _, _, r, b3, b4⟩ := b2
    have h5 : findE es (mapKd P t) k (fun r => foundK r z ok K) = .ok := by
      obtain ⟨kt, vt, hd, hkd, _⟩ := mapKd_ok (P := P) (t := t) rfl hno
      rw [← hkd] at h4
      obtain ⟨e, g2, _⟩ := eqV_ok hw h4 hv hv 0
      rw [hkd] at g2
      exact g2
    obtain ⟨kt, vt, hd, hck, res, q1, q2⟩ := findKey_ok hw b4 hno h5 hv
    obtain ⟨zv, z1, z2⟩ := mapZero_ok hd h1
    rcases q2 with ⟨rfl, q3⟩ | ⟨x, y, j, rfl, q3, _, q4⟩
    · obtain ⟨r', y', c1, c2, c3⟩ := give (zv := zv) q1 (show VR ρ ((none : Option AV).getD z) zv from z2 ρ) rfl
      refine ⟨r', y', c1, c2, ?_⟩
      rw [c3]
      cases ok <;> simp [Instr.lookup, run_underlying hd, getObj, Sem.run, b3, hck, q3, z1]
    · obtain ⟨r', y', c1, c2, c3⟩ := give (zv := zv) q1 (show VR ρ ((some x : Option AV).getD z) y from q3) rfl
      refine ⟨r', y', c1, c2, ?_⟩
      rw [c3]
      cases ok <;> simp [Instr.lookup, run_underlying hd, getObj, Sem.run, b3, hck, q4]
  | mn =>
    obtain ⟨z, h1, h2⟩ := onO_ok (show onO (mapZero P t) (.bad 60 0) (fun z => eqV (mapKd P t) k k fun _ => foundK none z ok K) = .ok from hk)
    have hno := noKd _ h2
    obtain ⟨kt, vt, hd, hkd, hkk⟩ := mapKd_ok (P := P) (t := t) rfl hno
    obtain ⟨zv, z1, z2⟩ := mapZero_ok hd h1
    have h3 : foundK none z ok K = .ok := by
      rw [← hkd] at h2
      obtain ⟨e, g2, _⟩ := eqV_ok hw h2 hv hv 0
      exact g2
    obtain ⟨r', y', c1, c2, c3⟩ := give (zv := zv) h3 (show VR ρ ((none : Option AV).getD z) zv from z2 ρ) rfl
    refine ⟨r', y', c1, c2, ?_⟩
    rw [c3]
    have hck := checkKey_ok (P := P) (hkk.imp (fun ⟨p, _, h⟩ => ⟨p, h⟩) (fun ⟨_, h⟩ => h)) true v w
    have hfk : (Instr.findKey kt v []).run P w = .ok none w := by
      have : ∃ d, P.underlying kt = some d := by
        rcases hkk with ⟨p, _, hp⟩ | ⟨_, e, he⟩
        · cases hx : P.underlying kt with
          | none => simp [pkOf, hx] at hp
          | some d => exact ⟨d, rfl⟩
        · exact ⟨_, he⟩
      obtain ⟨d, hd2⟩ := this
      exact findKey_now hd2 rfl
    cases ok <;> simp [Instr.lookup, run_underlying hd, hck, hfk, z1]
  | _ => cases hk
end
end Go.Proofs.YtlblaopkmigheaaGreatDoor.Ev
namespace Go.Proofs.YtlblaopkmigheaaGreatDoor.Ev
open Go Go.RowKit

section
variable {P : Program} {N0 : Nat} {ρ ρ' : Ren} {h h' : AH} {w w' : World} {T : Tr AV} {a : Act}

def World.setO (w : World) (r : Nat) (o : Obj) : World := { w with heap := w.heap.setIfInBounds r o }
theorem setO_same {r : Nat} {o o' : Obj} (hr : w.heap[r]? = some o) : (World.setO w r o').heap[r]? = some o' := by
  have hlt : r < w.heap.size := (Array.getElem?_eq_some_iff.1 hr).1
  simp [World.setO, hlt]
theorem setO_other {r k : Nat} {o' : Obj} (hk : k ≠ r) : (World.setO w r o').heap[k]? = w.heap[k]? := by
  simp [World.setO, Array.getElem?_setIfInBounds_ne (Ne.symm hk)]
def Blk.isRow : Blk → Bool | .c .. => false | _ => true
/-- An object that is no row is set anew. -/
theorem Ext.setO (hw : WR N0 ρ h w) {q : Pos} {L : Loc} (hL : ρ q 0 = some L) {B B' : Blk} (hB : h.get q = some B) (hr : B.isRow = true) (hr' : B'.isRow = true) {o' : Obj} (hlow : N0 ≤ L.cb)
    (hBR : BR N0 ρ B' 0 L (World.setO w L.cb o')) : Ext N0 ρ h w ρ (h.put q B') (World.setO w L.cb o') := by
  obtain ⟨B0, b1, b2⟩ := hw.blk _ _ _ hL
  have hlt := b2.lt
  have h64 := hw.highO hB (fun n t cur mw ro e => by subst e; cases hr)
  refine ⟨ρ.le_refl, ⟨?_, ?_, hw.inj, by simp [World.setO]; exact hw.size, ?_, hw.nx, ?_⟩, ⟨rfl, rfl, rfl, by simp [World.setO], fun k hk => setO_other (by omega)⟩, Nat.le_refl _, ?_⟩
  · intro q' B1 h1
    rw [AH.get_put] at h1
    rw [AH.nx_put]
    split at h1
    · rename_i e; subst e; exact hw.fresh _ _ hB
    · exact hw.fresh _ _ h1
  · intro q' st L' hL'
    by_cases hqq : q = q'
    · subst hqq
      obtain ⟨B1, c1, c2⟩ := hw.blk _ _ _ hL'
      rw [hB] at c1
      obtain rfl := Option.some.inj c1
      have hst : st = 0 := by
        cases B with
        | c => cases hr
        | mp es => exact c2.1
        | it m n s => exact c2.1
        | si n x p => exact c2.1
      subst hst
      rw [hL] at hL'
      obtain rfl := Option.some.inj hL'
      exact ⟨B', by rw [AH.get_put, if_pos rfl], hBR⟩
    · obtain ⟨B1, c1, c2⟩ := hw.blk _ _ _ hL'
      exact ⟨B1, by rw [AH.get_put, if_neg hqq]; exact c1, c2.frame (setO_other fun e => hqq (hw.inj' hL hL' e.symm (.inl h64)).1)⟩
  · intro q' n t cur mw ro h1 h2
    rw [AH.get_put] at h1
    split at h1
    · obtain rfl := Option.some.inj h1; cases hr'
    · exact hw.own _ _ _ _ _ _ h1 h2
  · intro q' B1 h1 h2
    rw [AH.get_put] at h1
    split at h1
    · rename_i e; subst e; omega
    · exact hw.low _ _ h1 h2
  · intro q' B1 hn hb
    have hne : q ≠ q' := by rintro rfl; rw [hn] at hL; cases hL
    exact ⟨by rw [AH.get_put, if_neg hne]; exact hb, hn⟩

theorem setE_gen {kd : Kd} {k v : AV} {u : Value} (hu : VR ρ k u) {Fnd : List MapEntry → Nat → Option (Nat × Value) → Prop} (hnil : ∀ i, Fnd [] i none)
    (hcmp : ∀ {k' : AV} {x : Value} {X : Bool → Out}, VR ρ k' x → eqV kd k k' X = .ok → ∃ b, X b = .ok ∧ (b = true → u = x) ∧ (b = true → ∀ y bn r i, Fnd ({ key := x, val := y, born := bn } :: r) i (some (i, y))) ∧
      (b = false → ∀ y bn r i res, Fnd r (i + 1) res → Fnd ({ key := x, val := y, born := bn } :: r) i res)) :
    ∀ {es : Ents} {i : Nat} {r : List MapEntry}, ER ρ es i r → ∀ {K : Ents → Out}, setE es kd k v K = .ok →
      ∃ es2, K es2 = .ok ∧ ((Fnd r i none ∧ ∀ y, VR ρ v y → ER ρ es2 i (r ++ [{ key := u, val := y, born := i + r.length }])) ∨
        ∃ j y0, Fnd r i (some (j, y0)) ∧ i ≤ j ∧ (r[j - i]?).map (·.key) = some u ∧ ∀ y, VR ρ v y → ER ρ es2 i (r.modify (j - i) fun e => { e with key := u, val := y })) := by
  intro es i r hr
  induction hr with
  | nl i => intro K hk; exact ⟨_, hk, .inl ⟨hnil i, fun y hy => .cn hu hy (.nl _)⟩⟩
  | @cn k' v' t i x y0 r h1 h2 _ ih =>
    intro K hk
    obtain ⟨b, g1, g2, g3, g4⟩ := hcmp h1 (show eqV kd k k' (fun e => iff' e (K (.cn k v t)) (setE t kd k v fun r' => K (.cn k' v' r'))) = .ok from hk)
    cases b with
    | true =>
      have hx := g2 rfl
      refine ⟨_, g1, .inr ⟨i, y0, g3 rfl _ _ _ _, Nat.le_refl i, by simp [hx], fun y hy => ?_⟩⟩
      rw [Nat.sub_self]
      exact .cn hu hy (by assumption)
    | false =>
      obtain ⟨es2, q1, q2⟩ := ih (show setE t kd k v (fun r' => K (.cn k' v' r')) = .ok from g1)
      refine ⟨_, q1, ?_⟩
      rcases q2 with ⟨q3, q4⟩ | ⟨j, y1, q3, q5, q6, q4⟩
      · refine .inl ⟨g4 rfl _ _ _ _ _ q3, fun y hy => ?_⟩
        have := q4 y hy
        rw [List.length_cons, show i + (r.length + 1) = i + 1 + r.length by omega]
        exact .cn h1 h2 this
      · refine .inr ⟨j, y1, g4 rfl _ _ _ _ _ q3, by omega, ?_, fun y hy => ?_⟩
        · rw [show j - i = (j - (i + 1)) + 1 by omega, List.getElem?_cons_succ]; exact q6
        · rw [show j - i = (j - (i + 1)) + 1 by omega, List.modify_succ_cons]
          exact .cn h1 h2 (q4 y hy)

theorem stays_run (u : Value) (w : World) : ∃ w2, (w2 = w ∨ w2 = w.drew) ∧ (Instr.keyThatStays u u).run P w = .ok u w2 := by
  unfold Instr.keyThatStays
  split
  · exact ⟨w, .inl rfl, rfl⟩
  · refine ⟨w.drew, .inr rfl, ?_⟩
    simp only [Sem.run_bind, ite_self]
    rfl

theorem mapSet_ok (hw : WR N0 ρ h w) {t : TypeId} {m k v : AV} {K : AH → Out} (hk : mapSet P t h m k v K = .ok) {um uk uv : Value} (hm : VR ρ m um) (hkk : VR ρ k uk) (hv : VR ρ v uv) :
    ∃ h' w', K h' = .ok ∧ Ext N0 ρ h w ρ h' w' ∧ (Instr.mapUpdate t um uk uv).run P w = .ok () w' := by
  obtain ⟨q, rfl, hk⟩ := AV.m_ok hk
  cases hm with
  | @m _ L hL =>
    obtain ⟨es, h1, hk⟩ := onMap_ok hk
    have hno : mapKd P t ≠ .no := fun e => by rw [e] at hk; cases hk
    obtain ⟨kt, vt, hd, hkd, hkt⟩ := mapKd_ok (P := P) (t := t) rfl hno
    have hk2 : setE es (mapKd P t) k v (fun es => putBlk h q (.mp es) K) = .ok := by
      rw [← hkd] at hk
      obtain ⟨e, g2, _⟩ := eqV_ok hw hk hkk hkk 0
      rw [hkd] at g2
      exact g2
    obtain ⟨B, b1, b2⟩ := hw.blk _ _ _ hL
    rw [h1] at b1
    obtain rfl := Option.some.inj b1
    obtain ⟨_, hLn, hlow, r, b3, b4⟩ := b2
    have hck := checkKey_ok (P := P) (hkt.imp (fun ⟨p, _, h⟩ => ⟨p, h⟩) (fun ⟨_, h⟩ => h)) false uk w
    -- what is found
    have hfind : ∃ es2, putBlk h q (.mp es2) K = .ok ∧ (((Instr.findKey kt uk r).run P w = .ok none w ∧ ER ρ es2 0 (r ++ [{ key := uk, val := uv, born := r.length }])) ∨
        ∃ j y0, (Instr.findKey kt uk r).run P w = .ok (some (j, y0)) w ∧ (r[j]?).map (·.key) = some uk ∧ ER ρ es2 0 (r.modify j fun e => { e with key := uk, val := uv })) := by
      rcases hkt with ⟨p, hp, hp2⟩ | ⟨hp, el, hd2⟩
      · rw [hp] at hk2
        have hd2 : ∃ d, P.underlying kt = some d := by
          cases hx : P.underlying kt with
          | none => simp [pkOf, hx] at hp2
          | some d => exact ⟨d, rfl⟩
        obtain ⟨d, hd2⟩ := hd2
        obtain ⟨es2, q1, q2⟩ := setE_gen hkk (Fnd := fun r i res => Instr.findNow d uk r i = some res) (fun i => rfl) (fun {k' x X} hx hX => by
          obtain ⟨b, c1, c2, c3⟩ := eqPk_now (show eqPk p k k' X = .ok from hX) hkk hx hp2 hd2
          exact ⟨b, c1, c3, fun hb y bn r i => by subst hb; simp [Instr.findNow, c2], fun hb y bn r i res hres => by subst hb; simp [Instr.findNow, c2, hres]⟩) b4 hk2
        refine ⟨es2, q1, ?_⟩
        rcases q2 with ⟨q3, q4⟩ | ⟨j, y0, q3, _, q6, q4⟩
        · exact .inl ⟨findKey_now hd2 q3, by have := q4 uv hv; rwa [Nat.zero_add] at this⟩
        · exact .inr ⟨j, y0, findKey_now hd2 q3, by simpa using q6, by simpa using q4 uv hv⟩
      · rw [hp] at hk2 hkd
        obtain ⟨es2, q1, q2⟩ := setE_gen hkk (Fnd := fun r i res => (Instr.findAsking kt uk r i).run P w = .ok res w) (fun i => rfl) (fun {k' x X} hx hX => by
          obtain ⟨b, c1, c2, _, c3⟩ := eqV_ok hw (t := kt) (show eqV (kindOf P kt) k k' X = .ok by rw [hkd]; exact hX) hkk hx 9998
          have c2 : (Op.equal kt uk x).run P w = .ok b w := c2
          exact ⟨b, c1, c3, fun hb y bn r i => by subst hb; simp [Instr.findAsking, c2], fun hb y bn r i res hres => by subst hb; simp [Instr.findAsking, c2, hres]⟩) b4 hk2
        refine ⟨es2, q1, ?_⟩
        have hfk : r ≠ [] → Instr.findNow (.pointer el) uk r 0 = none := by
          intro hne
          cases r with
          | nil => exact absurd rfl hne
          | cons e r => cases uk <;> rfl
        have hrun : ∀ res, (Instr.findAsking kt uk r 0).run P w = .ok res w → (Instr.findKey kt uk r).run P w = .ok res w := by
          intro res hres
          by_cases hne : r = []
          · subst hne
            have : res = none := by
              have : (Instr.findAsking kt uk [] 0).run P w = .ok none w := rfl
              rw [this] at hres
              injection hres with h1 _
              exact h1.symm
            subst this
            exact findKey_now hd2 rfl
          · simp [Instr.findKey, run_underlying hd2, hfk hne, hres]
        rcases q2 with ⟨q3, q4⟩ | ⟨j, y0, q3, _, q6, q4⟩
        · exact .inl ⟨hrun _ q3, by have := q4 uv hv; rwa [Nat.zero_add] at this⟩
        · exact .inr ⟨j, y0, hrun _ q3, by simpa using q6, by simpa using q4 uv hv⟩
    obtain ⟨es2, q1, q2⟩ := hfind
    rw [putBlk_eq] at q1
    rcases q2 with ⟨q3, q4⟩ | ⟨j, y0, q3, q5, q4⟩
    · have hO : Obj.map (r.toArray.push (MapEntry.mk uk uv r.length)) (r.length + 1) = .map (r ++ [MapEntry.mk uk uv r.length]).toArray (r ++ [MapEntry.mk uk uv r.length]).length := by
        simp
      refine ⟨_, _, q1, Ext.setO hw hL h1 rfl rfl (o' := Obj.map (r.toArray.push (MapEntry.mk uk uv r.length)) (r.length + 1)) hlow ⟨rfl, hLn, hlow, r ++ [MapEntry.mk uk uv r.length], (setO_same b3).trans (congrArg some hO), q4⟩, ?_⟩
      simp [Instr.mapUpdate, run_underlying hd, getObj, Sem.run, b3, hck, q3, setObj, World.setO]
    · obtain ⟨w2, hw2, hst⟩ := stays_run (P := P) uk w

      have hb3 : w2.heap[L.cb]? = some (.map r.toArray r.length) := by rcases hw2 with rfl | rfl <;> exact b3
      have hwr : WR N0 ρ h w2 := by rcases hw2 with rfl | rfl; exact hw; exact hw.drew
      have hex : Ext N0 ρ h w ρ h w2 := by rcases hw2 with rfl | rfl; exact Ext.refl hw; exact Ext.drew0 hw
      have hO : Obj.map (r.toArray.modify j fun e => { e with key := uk, val := uv }) r.length = .map (r.modify j fun e => { e with key := uk, val := uv }).toArray (r.modify j fun e => { e with key := uk, val := uv }).length := by
        congr 1
        · apply Array.ext'; simp
        · simp
      refine ⟨_, _, q1, hex.trans (Ext.setO hwr hL h1 rfl rfl (o' := Obj.map (r.toArray.modify j fun e => { e with key := uk, val := uv }) r.length) hlow ⟨rfl, hLn, hlow, r.modify j fun e => { e with key := uk, val := uv }, (setO_same hb3).trans (congrArg some hO), q4⟩), ?_⟩
      simp only [Instr.mapUpdate, Sem.run_bind, run_underlying hd, Result.andThen_ok]
      simp [getObj, Sem.run, b3, hck, q3, q5, hst, hb3, setObj, World.setO]
end
end Go.Proofs.YtlblaopkmigheaaGreatDoor.Ev
namespace Go.Proofs.YtlblaopkmigheaaGreatDoor.Ev
open Go Go.RowKit

section
variable {P : Program} {N0 : Nat} {ρ ρ' : Ren} {h h' : AH} {w w' : World} {T : Tr AV} {a : Act}

/-- An iterator is made. -/
theorem Ext.iter (hw : WR N0 ρ h w) {B : Blk} (hr : B.isRow = true) (o : Obj) (hB : ∀ ρ' : Ren, ρ.le ρ' → BR N0 ρ' B 0 ⟨w.heap.size, 0, 0, 0, 0⟩ (w.alloc o)) :
    ∃ ρ', Ext N0 ρ h w ρ' (h.add B) (w.alloc o) ∧ ρ' h.nx 0 = some ⟨w.heap.size, 0, 0, 0, 0⟩ := by
  have hm : B.mine := by cases B <;> first | trivial | cases hr
  exact ⟨_, Ext.new hw B hm o ⟨w.heap.size, 0, 0, 0, 0⟩ rfl (hB _ (Ren.le_with ((hw.added B hm).2 0))), Ren.with_same _ _ _ _⟩
/-- A map is made. -/
theorem makeMap_ok (hw : WR N0 ρ h w) {K : AV → AH → Out} (hk : (newBlk h (.mp .nl) fun q h => K (.m q) h) = .ok) (t : TypeId) : Gives P N0 ρ h w (Instr.makeMap t none) K := by
  rw [newBlk_eq] at hk
  obtain ⟨ρ', h1, h2⟩ := Ext.iter hw (B := .mp .nl) rfl (.map #[] 0) (fun ρ' _ => ⟨rfl, rfl, hw.size, [], heap_alloc_new _ _, .nl 0⟩)
  exact ⟨_, _, _, _, ρ', hk, h1, .m h2, rfl⟩
theorem rangeK_ok (hw : WR N0 ρ h w) {t : TypeId} {x : AV} {K : AV → AH → Out} (hk : rangeK h (lenOfT P t) x K = .ok) {u : Value} (hx : VR ρ x u) : Gives P N0 ρ h w (Instr.range t u) K := by
  unfold lenOfT at hk
  split at hk
  · rename_i ht
    obtain ⟨n, s, rfl, h1⟩ := AV.s_ok (show x.on_s (.bad 90 0) (fun n s => newBlk h (.si n s (nat_lit 0)) fun q h => K (itOf q) h) = .ok from hk)
    cases hx
    rw [newBlk_eq] at h1
    obtain ⟨ρ', h2, h3⟩ := Ext.iter hw (B := .si n s 0) rfl (.stringIter (bytesOf n s) 0) (fun ρ' _ => ⟨rfl, rfl, rfl, rfl, hw.size, heap_alloc_new _ _⟩)
    refine ⟨_, _, _, _, ρ', h1, h2, .p h3 (Nat.le_refl _) (Nat.le_refl _), ?_⟩
    simp only [Instr.range, Sem.run_bind, run_underlying ht, Result.andThen_ok]
    rfl
  · cases hk
  · rename_i k v ht
    obtain ⟨m, rfl, h1⟩ := AV.m_ok (show x.on_m (.bad 90 1) (fun m => onMap h m fun es => forceN (lenE es) fun n => newBlk h (.it m n []) fun q h => K (itOf q) h) = .ok from hk)
    obtain ⟨es, g1, h1⟩ := onMap_ok h1
    rw [forceN_eq, newBlk_eq] at h1
    cases hx with
    | @m _ L hL =>
      obtain ⟨B, b1, b2⟩ := hw.blk _ _ _ hL
      rw [g1] at b1
      obtain rfl := Option.some.inj b1
      obtain ⟨_, hLn, hlow, r, b3, b4⟩ := b2
      obtain ⟨ρ', h2, h3⟩ := Ext.iter hw (B := .it m (lenE es) []) rfl (.mapIter (some L.cb) (lenE es) #[] (lenE es)) (fun ρ' hle => ⟨rfl, rfl, rfl, rfl, hw.size, L, hle _ _ _ hL, heap_alloc_new _ _⟩)
      refine ⟨_, _, _, _, ρ', h1, h2, .p h3 (Nat.le_refl _) (Nat.le_refl _), ?_⟩
      simp only [Instr.range, Sem.run_bind, run_underlying ht, Result.andThen_ok, getObj, Sem.run, b3, b4.length]
      rfl
  · cases hk
  · cases hk

theorem andO_ok {x y : Out} (hk : andO x y = .ok) : x = .ok ∧ y = .ok := by cases x <;> first | exact ⟨rfl, hk⟩ | cases hk
theorem seenB_eq (l : List Nat) (i : Nat) : seenB l i = l.contains i := by
  induction l with
  | nil => rfl
  | cons j l ih =>
    show iff' (Nat.beq i j) true (seenB l i) = _
    rw [iff'_eq, ih, List.contains_cons]
    by_cases e : i = j
    · subst e; simp
    · have : Nat.beq i j = false := by rw [Bool.eq_false_iff]; intro hh; exact e (Nat.eq_of_beq_eq_true hh)
      simp [this, e]
theorem eachE_ok {seen : List Nat} {z : Out} {K : Nat → AV → AV → Out} : ∀ {es : Ents} {i : Nat} {r : List MapEntry}, ER ρ es i r → ∀ {some : Bool}, eachE es i some seen z K = .ok →
    (∀ e ∈ r, seen.contains e.born = false → ∃ k v, VR ρ k e.key ∧ VR ρ v e.val ∧ K e.born k v = .ok) ∧ (some = false → (∀ e ∈ r, seen.contains e.born = true) → z = .ok) ∧ ∀ j e, r[j]? = .some e → e.born = i + j := by
  intro es i r hr
  induction hr with
  | nl i => intro some hk; exact ⟨by simp, fun hs _ => by subst hs; exact hk, by simp⟩
  | @cn k v t i x y r h1 h2 _ ih =>
    intro some hk
    have hk : iff' (seenB seen i) (forceN (Nat.succ i) fun i => eachE t i some seen z K) (andO (K i k v) (forceN (Nat.succ i) fun i => eachE t i true seen z K)) = .ok := hk
    rw [forceN_eq, forceN_eq, seenB_eq] at hk
    rcases iff_ok hk with ⟨hb, hk⟩ | ⟨hb, hk⟩
    · obtain ⟨g1, g2, g3⟩ := ih hk
      refine ⟨fun e he hs => ?_, fun hs hall => g2 hs (fun e he => hall e (by simp [he])), fun j e hj => ?_⟩
      · rcases List.mem_cons.1 he with rfl | he
        · rw [show seen.contains i = true from hb] at hs; cases hs
        · exact g1 e he hs
      · cases j with
        | zero => simp at hj; subst hj; rfl
        | succ j => have := g3 j e (by simpa using hj); omega
    · obtain ⟨hk1, hk⟩ := andO_ok hk
      obtain ⟨g1, g2, g3⟩ := ih hk
      refine ⟨fun e he hs => ?_, fun hs hall => ?_, fun j e hj => ?_⟩
      · rcases List.mem_cons.1 he with rfl | he
        · exact ⟨k, v, h1, h2, hk1⟩
        · exact g1 e he hs
      · have := hall _ (List.mem_cons_self ..)
        rw [show seen.contains i = false from hb] at this
        cases this
      · cases j with
        | zero => simp at hj; subst hj; rfl
        | succ j => have := g3 j e (by simpa using hj); omega
/-- A step of an iterator over a map. -/
theorem next_run {cb cm n : Nat} {r : List MapEntry} {seen : List Nat} (h1 : w.heap[cb]? = some (.mapIter (some cm) n seen.reverse.toArray n)) (h2 : w.heap[cm]? = some (.map r.toArray r.length)) (hn : r.length = n) (hb : ∀ (j : Nat) (e : MapEntry), r[j]? = some e → e.born = j) (ty : TypeId) :
    ((∀ e ∈ r, seen.contains e.born = true) ∧ (Instr.next (.pointer (some ⟨cb, 0, none⟩)) false ty).run P w = .ok (.tuple #[.bool false]) w) ∨
    ∃ e ∈ r, seen.contains e.born = false ∧ ∃ w2, (w2 = w ∨ w2 = w.drew) ∧ (Instr.next (.pointer (some ⟨cb, 0, none⟩)) false ty).run P w = .ok (.tuple #[.bool true, e.key, e.val]) (World.setO w2 cb (.mapIter (some cm) n (e.born :: seen).reverse.toArray n)) := by
  have hlt : ∀ e ∈ r, e.born < n := fun e he => by
    obtain ⟨j, hj, rfl⟩ := List.getElem_of_mem he
    rw [hb j _ (List.getElem?_eq_getElem hj), ← hn]; exact hj
  have hcond : (!(seen.reverse.toArray).isEmpty && !r.toArray.isEmpty && r.toArray.all fun x => decide (x.born ≥ n)) = false := by
    cases r with
    | nil => simp
    | cons e r =>
      have := hlt e (by simp)
      have h3 : ¬ n ≤ e.born := by omega
      simp [h3]
  have hleft : (r.toArray.filter fun e => !(seen.reverse.toArray).contains e.born) = (r.filter fun e => !seen.contains e.born).toArray := by simp
  have hold : ((r.filter fun e => !seen.contains e.born).toArray.filter fun e => decide (e.born < n)) = (r.filter fun e => !seen.contains e.born).toArray := by
    rw [List.filter_toArray]
    congr 1
    rw [List.filter_eq_self]
    intro e he
    exact decide_eq_true (hlt e (List.mem_filter.1 he).1)
  have hnew : ((r.filter fun e => !seen.contains e.born).toArray.filter fun e => decide (e.born ≥ n)) = #[] := by
    rw [List.filter_toArray]
    have : ((r.filter fun e => !seen.contains e.born).filter fun e => decide (e.born ≥ n)) = [] := by
      rw [List.filter_eq_nil_iff]
      intro e he
      have := hlt e (List.mem_filter.1 he).1
      simp; omega
    rw [this]
  generalize hl : (r.filter fun e => !seen.contains e.born) = left at hleft hold hnew
  have hrun : (Instr.next (.pointer (some ⟨cb, 0, none⟩)) false ty).run P w =
      ((choose (.mapNext ((if left.toArray.isEmpty then #[none] else #[]) ++ (left.toArray ++ #[]).map some : Array (Option MapEntry)).size)).run P w).andThen fun i w2 =>
        (match ((if left.toArray.isEmpty then #[none] else #[]) ++ (left.toArray ++ #[]).map some : Array (Option MapEntry))[i]? with
          | some (some e) => do
            setObj cb (.mapIter (some cm) n (seen.reverse.toArray.push e.born) r.length)
            pure (.tuple #[.bool true, e.key, e.val])
          | some none => pure (.tuple #[.bool false])
          | none => stuck "Next: no such candidate" : Sem Value).run P w2 := by
    simp only [Instr.next, Sem.run_bind, getObj, Sem.run, h1, h2, Result.andThen_ok, hcond, Bool.false_eq_true, if_false, hleft, hold, hnew]
    rfl
  cases left with
  | nil =>
    refine .inl ⟨fun e he => ?_, ?_⟩
    · have := (List.filter_eq_nil_iff.1 hl) e he
      simpa using this
    · rw [hrun]
      simp [choose, Sem.run, Question.forced]
  | cons e0 left =>
    right
    have hc : ((if (e0 :: left).toArray.isEmpty then #[none] else #[]) ++ ((e0 :: left).toArray ++ #[]).map some : Array (Option MapEntry)) = ((e0 :: left).map some).toArray := by simp
    rw [hc] at hrun
    have hch : ∃ i w2, i < (e0 :: left).length ∧ (w2 = w ∨ w2 = w.drew) ∧ (choose (.mapNext ((e0 :: left).map some).toArray.size)).run P w = .ok i w2 := by
      simp only [List.size_toArray, List.length_map]
      by_cases h1 : (e0 :: left).length ≤ 1
      · refine ⟨0, w, by simp, .inl rfl, ?_⟩
        have h1' : (Question.mapNext (e0 :: left).length).forced = true := by simp only [Question.forced, h1, decide_true]
        simp only [choose, Sem.run, h1', if_true]
      · refine ⟨w.tape w.drawn (.mapNext (e0 :: left).length) % (e0 :: left).length, w.drew, Nat.mod_lt _ (by simp), .inr rfl, ?_⟩
        have h1' : ¬ (e0 :: left).length ≤ 1 := h1
        simp only [choose, Sem.run, Question.forced, h1', decide_false, Bool.false_eq_true, if_false]
        rfl
    obtain ⟨i, w2, hi, hw2, hrc⟩ := hch
    rw [hrc] at hrun
    have hm : (e0 :: left)[i] ∈ r.filter fun e => !seen.contains e.born := by rw [hl]; exact List.getElem_mem hi
    obtain ⟨m1, m2⟩ := List.mem_filter.1 hm
    refine ⟨(e0 :: left)[i], m1, by simpa using m2, w2, hw2, ?_⟩
    rw [hrun]
    have hg : ((e0 :: left).map some).toArray[i]? = some (some (e0 :: left)[i]) := by
      rw [List.getElem?_toArray, List.getElem?_map, List.getElem?_eq_getElem hi]; rfl
    have h1w : w2.heap[cb]? = some (.mapIter (some cm) n seen.reverse.toArray n) := by rcases hw2 with rfl | rfl <;> exact h1
    simp only [Result.andThen_ok, hg, Sem.run_bind, setObj, Sem.run, h1w, Sem.run_pure]
    have hpush : seen.reverse.toArray.push (e0 :: left)[i].born = ((e0 :: left)[i].born :: seen).reverse.toArray := by simp
    rw [hn, hpush]
    rfl
theorem nextK_ok (hw : WR N0 ρ h w) {it : AV} {K : AV → AH → Out} (hk : nextK h it K = .ok) {u : Value} (hx : VR ρ it u) (ty : TypeId) : Gives P N0 ρ h w (Instr.next u false ty) K := by
  obtain ⟨q, o, e, st, rfl, hk⟩ := AV.p_ok hk
  obtain ⟨ho, hk⟩ := iff_yes hk
  have ho := Nat.eq_of_beq_eq_true ho
  obtain ⟨m, n, seen, h1, hk⟩ := onIt_ok hk
  obtain ⟨es, h2, hk⟩ := onMap_ok hk
  obtain ⟨hn, hE⟩ := iff_yes hk
  have hn := Nat.eq_of_beq_eq_true hn
  cases hx with
  | @p _ _ _ _ L hL hlo he =>
    obtain ⟨B, b1, b2⟩ := hw.blk _ _ _ hL
    rw [h1] at b1
    obtain rfl := Option.some.inj b1
    obtain ⟨hst, hLn, hL0, hLs, hlow, Lm, c1, c2⟩ := b2
    rw [hst] at hL
    obtain ⟨B2, d1, d2⟩ := hw.blk _ _ _ c1
    rw [h2] at d1
    obtain rfl := Option.some.inj d1
    obtain ⟨_, _, _, r, d3, d4⟩ := d2
    have hrn : r.length = n := by rw [← d4.length, hn]
    obtain ⟨g1, g2, g3⟩ := eachE_ok d4 hE
    have hoff : L.sh + o - L.lo = 0 := by have ho' : o = 0 := ho; omega
    rw [hoff]
    rcases next_run (P := P) c2 d3 hrn (fun j e hj => by have := g3 j e hj; omega) ty with ⟨q1, q2⟩ | ⟨e, q1, q2, w2, q3, q4⟩
    · exact ⟨_, _, h, w, ρ, g2 rfl q1, Ext.refl hw, .tup (.cn (.b _) .nl), q2⟩
    · obtain ⟨k, v, k1, k2, k3⟩ := g1 e q1 q2
      rw [putBlk_eq] at k3
      have hwr : WR N0 ρ h w2 := by rcases q3 with rfl | rfl; exact hw; exact hw.drew
      have hex : Ext N0 ρ h w ρ h w2 := by rcases q3 with rfl | rfl; exact Ext.refl hw; exact Ext.drew0 hw
      have hc2 : w2.heap[L.cb]? = some (.mapIter (some Lm.cb) n seen.reverse.toArray n) := by rcases q3 with rfl | rfl <;> exact c2
      refine ⟨_, _, _, _, ρ, k3, hex.trans (Ext.setO hwr hL h1 rfl rfl hlow ⟨rfl, hLn, hL0, hLs, hlow, Lm, c1, setO_same hc2⟩), .tup (.cn (.b _) (.cn k1 (.cn k2 .nl))), q4⟩

/-- A step of an iterator over a string of plain bytes. -/
theorem nextS_ok (hw : WR N0 ρ h w) {it : AV} {K : AV → AH → Out} (hk : nextS h it K = .ok) {u : Value} (hx : VR ρ it u) (ty : TypeId) : Gives P N0 ρ h w (Instr.next u true ty) K := by
  obtain ⟨q, o, e, st, rfl, hk⟩ := AV.p_ok hk
  obtain ⟨ho, hk⟩ := iff_yes hk
  have ho := Nat.eq_of_beq_eq_true ho
  obtain ⟨n, x, pos, h1, hE⟩ := onSi_ok hk
  cases hx with
  | @p _ _ _ _ L hL hlo he =>
    obtain ⟨B, b1, b2⟩ := hw.blk _ _ _ hL
    rw [h1] at b1
    obtain rfl := Option.some.inj b1
    obtain ⟨hst, hLn, hL0, hLs, hlow, c2⟩ := b2
    rw [hst] at hL
    have hoff : L.sh + o - L.lo = 0 := by have ho' : o = 0 := ho; omega
    rw [hoff]
    rcases iff_ok hE with ⟨hb, hk⟩ | ⟨hb, hk⟩
    · have hb : pos < n := by simpa using hb
      rw [forceN_eq] at hk
      obtain ⟨hc, hk⟩ := iff_yes hk
      rw [forceN_eq, putBlk_eq] at hk
      have hc : byteAt x pos < 128 := by simpa using hc
      have hb0 : ((bytesOf n x).get! (pos + 0)).toNat = byteAt x pos := by
        have : (bytesOf n x).get! (pos + 0) = UInt8.ofNat (byteAt x pos) := by
          show ((bytesL n x).toArray)[pos]! = _
          rw [getElem!_def, List.getElem?_toArray, bytesL_get n x pos hb, byteAt_eq]
        rw [this]
        simp
        omega
      have hdec : Utf8.decode (bytesOf n x) pos = (byteAt x pos, 1) := by
        simp only [Utf8.decode, hb0, hc, if_true]
      refine ⟨_, .tuple #[.bool true, goInt pos, .int .i32 (byteAt x pos)], _, _, ρ, hk, Ext.setO hw hL h1 rfl rfl (o' := .stringIter (bytesOf n x) (pos + 1)) hlow ⟨rfl, hLn, hL0, hLs, hlow, setO_same c2⟩, .tup (.cn (.b _) (.cn (.i _ _) (.cn (.i _ _) .nl))), ?_⟩
      simp only [Instr.next, Sem.run_bind, getObj, Sem.run, c2, Result.andThen_ok, bytesOf_size, hb, if_true, hdec, setObj, Sem.run_pure]
      rfl
    · have hb : ¬ pos < n := by intro hh; rw [Nat.blt_eq.mpr hh] at hb; cases hb
      refine ⟨_, .tuple #[.bool false], h, w, ρ, hk, Ext.refl hw, .tup (.cn (.b _) .nl), ?_⟩
      simp only [Instr.next, Sem.run_bind, getObj, Sem.run, c2, Result.andThen_ok, bytesOf_size, hb, if_false, Sem.run_pure]
theorem nthE_ok : ∀ {es : Ents} {i j : Nat} {r : List MapEntry}, ER ρ es j r → ∀ {K : AV → AV → Out}, nthE es i K = .ok → ∃ k v e, K k v = .ok ∧ r[i]? = some e ∧ VR ρ k e.key ∧ VR ρ v e.val ∧ e.born = j + i := by
  intro es i j r hr
  induction hr generalizing i with
  | nl j => intro K hk; cases hk
  | @cn k v t j x y r h1 h2 _ ih =>
    intro K hk
    cases i with
    | zero => exact ⟨k, v, _, hk, rfl, h1, h2, rfl⟩
    | succ i =>
      obtain ⟨k', v', e, g1, g2, g3, g4, g5⟩ := ih (show nthE t i K = .ok from hk)
      exact ⟨k', v', e, g1, by simpa using g2, g3, g4, by omega⟩
theorem entryK_ok (hw : WR N0 ρ h w) {it : AV} {K : AV → AH → Out} (hk : entryK h it K = .ok) {u : Value} (hx : VR ρ it u) : Gives P N0 ρ h w (Instr.entry u) K := by
  obtain ⟨q, o, e, st, rfl, hk⟩ := AV.p_ok hk
  obtain ⟨ho, hk⟩ := iff_yes hk
  have ho := Nat.eq_of_beq_eq_true ho
  obtain ⟨m, n, seen, h1, hk⟩ := onIt_ok hk
  obtain ⟨es, h2, hk⟩ := onMap_ok hk
  obtain ⟨hn, hE⟩ := iff_yes hk
  have hn := Nat.eq_of_beq_eq_true hn
  cases hx with
  | @p _ _ _ _ L hL hlo he =>
    obtain ⟨B, b1, b2⟩ := hw.blk _ _ _ hL
    rw [h1] at b1
    obtain rfl := Option.some.inj b1
    obtain ⟨hst, hLn, hL0, hLs, hlow, Lm, c1, c2⟩ := b2
    obtain ⟨B2, d1, d2⟩ := hw.blk _ _ _ c1
    rw [h2] at d1
    obtain rfl := Option.some.inj d1
    obtain ⟨_, _, _, r, d3, d4⟩ := d2
    have hrn : r.length = n := by rw [← d4.length, hn]
    have hoff : L.sh + o - L.lo = 0 := by have ho' : o = 0 := ho; omega
    rw [hoff]
    cases seen with
    | nil => cases hE
    | cons i seen =>
      obtain ⟨k, v, e, g1, g2, g3, g4, g5⟩ := nthE_ok d4 (show nthE es i (fun k v => K (.tup (.cn k (.cn v .nl))) h) = .ok from hE)
      have hborn : ∀ {es : Ents} {j : Nat} {r : List MapEntry}, ER ρ es j r → ∀ (k : Nat) (e : MapEntry), r[k]? = some e → e.born = j + k := by
        intro es j r hr
        induction hr with
        | nl j => intro k e he; simp at he
        | cn _ _ _ ih =>
          intro k e he
          cases k with
          | zero => simp at he; subst he; rfl
          | succ k => have := ih k e (by simpa using he); omega
      have hfind : r.toArray.find? (fun x => x.born == i) = some e := by
        rw [List.find?_toArray]
        rw [List.find?_eq_some_iff_getElem]
        have hi := (List.getElem?_eq_some_iff.1 g2).1
        refine ⟨by simp [g5], i, hi, (List.getElem?_eq_some_iff.1 g2).2, fun j hj => ?_⟩
        have := hborn d4 j _ (List.getElem?_eq_getElem (by omega))
        simp [this]; omega
      refine ⟨_, .tuple #[e.key, e.val], h, w, ρ, g1, Ext.refl hw, .tup (.cn g3 (.cn g4 .nl)), ?_⟩
      have hback : ((i :: seen).reverse.toArray).back? = some i := by simp
      have hne : ¬ (r.length ≠ n) := by omega
      simp only [Instr.entry, Sem.run_bind, getObj, Sem.run, c2, Result.andThen_ok, hback, d3, hrn, bne_self_eq_false, Bool.false_eq_true, if_false, hfind, Sem.run_pure]
end
end Go.Proofs.YtlblaopkmigheaaGreatDoor.Ev
namespace Go.Proofs.YtlblaopkmigheaaGreatDoor.Ev
open Go Go.RowKit

section
variable {P : Program} {N0 : Nat} {ρ ρ' : Ren} {h h' : AH} {w w' : World} {T : Tr AV} {a : Act}

theorem mmK_ok (mn : Bool) : ∀ {vs : List Value} {l : AV}, VL ρ l vs → ∀ {k : IntKind} {z : Int} {K : AV → Out}, mmK l mn k z K = .ok →
    ∃ z', K (.i k z') = .ok ∧ (vs.foldlM (if mn then Builtin.min2 else Builtin.max2) (.int k z)).run P w = .ok (.int k z') w := by
  intro vs
  induction vs with
  | nil => intro l hl k z K hk; cases hl; exact ⟨z, hk, rfl⟩
  | cons v vs ih =>
    intro l hl k z K hk
    cases hl with
    | @cn x t _ _ hx ht =>
      obtain ⟨k', b, rfl, h1⟩ := AV.i_ok (show x.on_i (.bad 67 3) (fun _ b => iff' mn (iff' (notB (leI z b)) (mmK t mn k b K) (mmK t mn k z K)) (iff' (notB (leI b z)) (mmK t mn k b K) (mmK t mn k z K))) = .ok from hk)
      clear hk
      cases hx
      rw [notB_eq, notB_eq, leI_eq, leI_eq] at h1
      cases mn with
      | true =>
        simp only [List.foldlM_cons, if_true, Builtin.min2, pure_bind]
        rcases iff_ok (show iff' (!decide (z ≤ b)) (mmK t true k b K) (mmK t true k z K) = .ok from h1) with ⟨hc, hk⟩ | ⟨hc, hk⟩
        · obtain ⟨z', g1, g2⟩ := ih ht hk
          have : b < z := by simpa using hc
          exact ⟨z', g1, by rw [if_pos this]; exact g2⟩
        · obtain ⟨z', g1, g2⟩ := ih ht hk
          have : ¬ b < z := by simpa using hc
          exact ⟨z', g1, by rw [if_neg this]; exact g2⟩
      | false =>
        simp only [List.foldlM_cons, Bool.false_eq_true, if_false, Builtin.max2, pure_bind]
        rcases iff_ok (show iff' (!decide (b ≤ z)) (mmK t false k b K) (mmK t false k z K) = .ok from h1) with ⟨hc, hk⟩ | ⟨hc, hk⟩
        · obtain ⟨z', g1, g2⟩ := ih ht hk
          have : b > z := by simpa using hc
          exact ⟨z', g1, by rw [if_pos this]; exact g2⟩
        · obtain ⟨z', g1, g2⟩ := ih ht hk
          have : ¬ b > z := by simpa using hc
          exact ⟨z', g1, by rw [if_neg this]; exact g2⟩
theorem minmax_ok (mn : Bool) {l : AV} {vs : List Value} (hl : VL ρ l vs) {K : AV → Out} (hk : minmax mn l K = .ok) (tys : Array TypeId) (ty : TypeId) :
    ∃ r y, K r = .ok ∧ VR ρ r y ∧ ((if mn then Builtin.min_ else Builtin.max_) tys ty vs.toArray).run P w = .ok y w := by
  obtain ⟨x, t, rfl, h1⟩ := AV.cn_ok hk
  obtain ⟨k, z, rfl, h2⟩ := AV.i_ok h1
  cases hl with
  | @cn _ _ v vs hx ht =>
    cases hx
    obtain ⟨z', g1, g2⟩ := mmK_ok (P := P) (w := w) mn ht h2
    refine ⟨_, _, g1, .i _ _, ?_⟩
    cases mn
    · exact g2
    · exact g2

theorem packA_ok : ∀ {vs : List Value} {l : AV}, VL ρ l vs → ∀ {K : Nat → Nat → Out}, packA l K = .ok → ∃ x, K vs.length x = .ok ∧ ∀ (f : Value → ByteArray → Sem (ForInStep ByteArray)), (∀ n s, f (.int .u8 n) s = pure (.yield (s.push (UInt8.ofNat n.toNat)))) → ∀ s : ByteArray,
    (forIn (m := Sem) vs s f).run P w = .ok ⟨s.data ++ (bytesL vs.length x).toArray⟩ w := by
  intro vs
  induction vs with
  | nil => intro l hl K hk; cases hl; exact ⟨0, hk, fun f hf s => by simp [bytesL]⟩
  | cons v vs ih =>
    intro l hl K hk
    cases hl with
    | @cn x t _ _ hx ht =>
      obtain ⟨k, z, rfl, h1⟩ := AV.i_ok (show x.on_i (.bad 52 1) (fun k z => iff' (eqK k .u8) (natOf z fun b => packA t fun n y => forceN (Nat.succ n) fun n => forceN (Nat.add (Nat.mod b (nat_lit 256)) (Nat.mul (nat_lit 256) y)) fun y => K n y) (.bad 52 2)) = .ok from hk)
      obtain ⟨h2, h3⟩ := iff_yes h1
      obtain ⟨b, hb, h4⟩ := natOf_ok h3
      have hk8 := eqK_ok h2
      clear hk h1 h3
      subst hb; subst hk8
      obtain ⟨y, g1, g2⟩ := ih ht h4
      rw [forceN_eq, forceN_eq] at g1
      refine ⟨_, g1, fun f hf s => ?_⟩
      cases hx
      rw [List.forIn_cons, hf]
      simp only [Sem.run_bind, Sem.run_pure, Result.andThen_ok, Int.toNat_natCast]
      rw [g2 f hf]
      congr 1
      apply ByteArray.ext
      show (s.push (UInt8.ofNat b)).data ++ (bytesL vs.length y).toArray = s.data ++ (bytesL (vs.length + 1) _).toArray
      apply Array.ext'
      have e1 : (b % 256 + 256 * y) % 256 = b % 256 := by omega
      have e2 : (b % 256 + 256 * y) / 256 = y := by omega
      have e3 : UInt8.ofNat (b % 256) = UInt8.ofNat b := by apply UInt8.toNat_inj.1; simp
      have e4 : bytesL (vs.length + 1) (b % 256 + 256 * y) = UInt8.ofNat b :: bytesL vs.length y := by rw [bytesL, e1, e2, e3]
      show ((s.push (UInt8.ofNat b)).data ++ (bytesL vs.length y).toArray).toList = (s.data ++ (bytesL (vs.length + 1) (b % 256 + 256 * y)).toArray).toList
      rw [e4]
      simp
theorem convOf_ok (s d : TypeId) : (∀ k, convOf P s d = .int k → (∃ x, P.underlying s = some x) ∧ P.underlying d = some (.int k)) ∧ (convOf P s d = .str → P.underlying s = some .string ∧ P.underlying d = some .string) ∧
    (convOf P s d = .byt → ∃ e i, P.underlying s = some (.slice e) ∧ P.underlying d = some .string ∧ P.underlying e = some (.int .u8) ∧ P.info? e = some i ∧ i.size = 1) := by
  unfold convOf
  split
  · rename_i x k h1 h2
    exact ⟨fun k' e => (by injection e with e; subst e; exact ⟨⟨_, h1⟩, h2⟩), fun e => (by cases e), fun e => (by cases e)⟩
  · rename_i h1 h2
    exact ⟨fun k' e => (by cases e), fun _ => ⟨h1, h2⟩, fun e => (by cases e)⟩
  · rename_i e h1 h2
    split
    · rename_i h3
      split
      · rename_i i h4
        split
        · rename_i h5
          exact ⟨fun k' e => (by cases e), fun e => (by cases e), fun _ => ⟨e, i, h1, h2, h3, h4, h5⟩⟩
        · exact ⟨fun k' e => (by cases e), fun e => (by cases e), fun e => (by cases e)⟩
      · exact ⟨fun k' e => (by cases e), fun e => (by cases e), fun e => (by cases e)⟩
    · exact ⟨fun k' e => (by cases e), fun e => (by cases e), fun e => (by cases e)⟩
  · exact ⟨fun k' e => (by cases e), fun e => (by cases e), fun e => (by cases e)⟩
theorem convK_ok (hw : WR N0 ρ h w) {s d : TypeId} {x : AV} {K : AV → AH → Out} (hk : convK P h s d x K = .ok) {u : Value} (hx : VR ρ x u) : Gives P N0 ρ h w (convert s d u) K := by
  obtain ⟨c1, c2, c3⟩ := convOf_ok (P := P) s d
  unfold convK at hk
  cases hc : convOf P s d with
  | int k =>
    rw [hc] at hk
    obtain ⟨k0, z, rfl, h1⟩ := AV.i_ok (show x.on_i (.bad 54 0) (fun _ z => wrapK k z fun v => K v h) = .ok from hk)
    rw [wrapK_eq] at h1
    cases hx
    obtain ⟨⟨y, hy⟩, hd⟩ := c1 k hc
    refine Gives.pure hw ⟨_, _, h1, .i _ _, ?_⟩
    simp only [convert, Sem.run_bind, run_underlying hy, run_underlying hd, Result.andThen_ok]
    rfl
  | str =>
    rw [hc] at hk
    obtain ⟨n, z, rfl, h1⟩ := AV.s_ok (show x.on_s (.bad 54 1) (fun n x => K (.s n x) h) = .ok from hk)
    cases hx
    obtain ⟨hs, hd⟩ := c2 hc
    refine Gives.pure hw ⟨_, _, h1, .s _ _, ?_⟩
    simp only [convert, Sem.run_bind, run_underlying hs, run_underlying hd, Result.andThen_ok]
    rfl
  | byt =>
    rw [hc] at hk
    obtain ⟨e, i, hs, hd, he, hi, hsz⟩ := c3 hc
    have hk : slenK x (fun _ => cellsOfK h 1 x fun l => packA l fun n x => K (.s n x) h) = .ok := hk
    cases hx with
    | sn =>
      have hk : K (.s 0 0) h = .ok := hk
      refine Gives.pure hw ⟨_, .string (bytesOf 0 0), hk, .s _ _, ?_⟩
      simp only [convert, Sem.run_bind, run_underlying hs, run_underlying hd, Result.andThen_ok, run_underlying he]
      rfl
    | @sl q o n c sz st L ad cap g1 g2 g3 g4 =>
      obtain ⟨h1, h2⟩ := iff_yes (show iff' (Nat.beq 1 sz) (cellsOfB h q o n sz st (fun l => packA l fun n x => K (.s n x) h)) (.bad 53 6) = .ok from hk)
      have h1 := Nat.eq_of_beq_eq_true h1
      subst h1
      obtain ⟨bn, t, cur, mw, ro, hq, h2⟩ := onBlk_ok h2
      rw [forceN_eq, forceN_eq] at h2
      obtain ⟨h3, h4⟩ := iff_yes h2
      obtain ⟨vs, hl, hcell, hg⟩ := (hw.c hq g1).cells g2 g3 (mayRead_ok h3)
      obtain ⟨l, h5, h6⟩ := readK_ok h4
      have hl : vs.length = n := by rw [hl, Nat.mul_one]
      obtain ⟨y, h7, h8⟩ := packA_ok (P := P) (w := w) (h6 ρ vs (by rw [hl]; exact (Nat.mul_one n).symm) hg) h5
      rw [hl] at h7
      refine Gives.pure hw ⟨_, .string (bytesOf n y), h7, .s _ _, ?_⟩
      have hload : (loadCells ad n).run P w = .ok vs.toArray w := by
        by_cases hn : n = 0
        · have : vs = [] := List.eq_nil_of_length_eq_zero (by omega)
          subst this
          rw [hn]
          exact run_loadCells_list (P := P) w ad [] (by simp)
        · have had : ad = ⟨L.cb, L.sh + o - L.lo, none⟩ := by
            rcases g4 with ⟨_, g, _⟩ | ⟨_, g, _⟩ | ⟨_, _, g⟩ | ⟨_, _, g⟩ <;> first | exact g | omega
          rw [had]
          have := run_loadCells_list (P := P) w _ vs hcell
          rw [hl] at this
          exact this
      simp only [convert, Sem.run_bind, run_underlying hs, run_underlying hd, Result.andThen_ok, run_underlying he]
      simp only [Conv.bytesToString, Sem.run_bind, hload, Result.andThen_ok]
      rw [← Array.forIn_toList, h8 _ (fun _ _ => rfl), hl]
      simp only [Result.andThen_ok, Sem.run_pure]
      congr 2
      apply ByteArray.ext
      apply Array.ext'
      simp [bytesOf]
    | _ => cases hk
  | no => rw [hc] at hk; cases hk
end
end Go.Proofs.YtlblaopkmigheaaGreatDoor.Ev
namespace Go.Proofs.YtlblaopkmigheaaGreatDoor.Ev
open Go Go.RowKit

section
variable {P : Program} {N0 : Nat} {ρ ρ' : Ren} {h h' : AH} {w w' : World} {T : Tr AV} {a : Act}

theorem clearK_ok (hw : WR N0 ρ h w) {t : TypeId} {d : AV} {K : AV → AH → Out} (hk : clearK P t h d K = .ok) {u : Value} (hx : VR ρ d u) (ty : TypeId) : Gives P N0 ρ h w (Builtin.clear_ #[t] ty #[u]) K := by
  unfold clearK at hk
  obtain ⟨z, h2, hk⟩ := onO_ok hk
  obtain ⟨sz, h1, hk⟩ := onO_ok hk
  obtain ⟨e, i, k1, k2, k3, k4⟩ := sliceSz_ok h1
  unfold sliceZero at h2
  rw [k1] at h2
  obtain ⟨i', zv, g1, g2, g3, g4⟩ := zeroOf_ok h2
  rw [k2] at g1
  obtain rfl := Option.some.inj g1
  have hzv := zeroValue_run (P := P) k2 g2
  cases hx with
  | sn => exact ⟨_, .tuple #[], h, w, ρ, hk, Ext.refl hw, .tup .nl, by simp [Builtin.clear_, run_underlying k1]⟩
  | @sl q o n c z' st L ad cap r1 r2 r3 r4 =>
    obtain ⟨he, hk2⟩ := iff_yes (show iff' (Nat.beq sz z') (Nat.rec (motive := fun _ => Out) (K (.tup .nl) h) (fun _ _ => repL z n fun l => writeK h q o st l fun h => K (.tup .nl) h) n) (.bad 66 1) = .ok from hk)
    have he := Nat.eq_of_beq_eq_true he
    subst he
    cases n with
    | zero =>
      exact ⟨_, .tuple #[], h, w, ρ, hk2, Ext.refl hw, .tup .nl, by simp [Builtin.clear_, run_underlying k1]⟩
    | succ n =>
      obtain ⟨l, hk, hz⟩ := repL_ok (show repL z (n + 1) (fun l => writeK h q o st l fun h => K (.tup .nl) h) = .ok from hk2)
      have hz := hz ρ _ (g4 ρ)
      obtain ⟨h', w', g5, g6, g7⟩ := writeK_ok (P := P) hk hw r1 r2 hz
      have had : ad = ⟨L.cb, L.sh + o - L.lo, none⟩ := by
        rcases r4 with ⟨_, g, _⟩ | ⟨_, g, _⟩ | ⟨_, _, g⟩ | ⟨_, _, g⟩ <;> first | exact g | omega
      have hrc := rep_cells zv.cells.toList (n + 1)
      have hrc : (Builtin.zeroCells zv.cells (n + 1)).toList = (List.replicate (n + 1) zv.cells.toList).flatten := by
        unfold Builtin.zeroCells
        have e0 : zv.cells.toList.toArray = zv.cells := rfl
        rw [e0] at hrc
        have e1 : zv.cells.toList.length = zv.cells.size := rfl
        rw [e1] at hrc
        rw [hrc]
      refine ⟨_, .tuple #[], h', w', ρ, g5, g6, .tup .nl, ?_⟩
      simp only [Builtin.clear_, List.getElem?_toArray, List.getElem?_cons_zero, Sem.run_bind, run_underlying k1, Result.andThen_ok, hzv, hrc, had, g7, Sem.run_pure]
  | _ => cases hk

theorem ty1_ok {l : List TypeId} {K : TypeId → Out} (hk : ty1 l K = .ok) : ∃ t, l = [t] ∧ K t = .ok := by
  match l with
  | [] => cases hk
  | [t] => exact ⟨t, rfl, hk⟩
  | _ :: _ :: _ => cases hk
theorem ty2_ok {l : List TypeId} {K : TypeId → TypeId → Out} (hk : ty2 l K = .ok) : ∃ t t', l = [t, t'] ∧ K t t' = .ok := by
  match l with
  | [] => cases hk
  | t :: r =>
    obtain ⟨t', rfl, h⟩ := ty1_ok (show ty1 r (K t) = .ok from hk)
    exact ⟨t, t', rfl, h⟩
theorem arg1_ok {l : AV} {vs : List Value} (hl : VL ρ l vs) {K : AV → Out} (hk : arg1 l K = .ok) : ∃ x u, vs = [u] ∧ VR ρ x u ∧ K x = .ok := by
  obtain ⟨x, r, rfl, h1⟩ := AV.cn_ok hk
  obtain ⟨rfl, h2⟩ := isEnd_ok h1
  cases hl with
  | cn hx ht => cases ht; exact ⟨_, _, rfl, hx, h2⟩
theorem arg2_ok {l : AV} {vs : List Value} (hl : VL ρ l vs) {K : AV → AV → Out} (hk : arg2 l K = .ok) : ∃ x u y v, vs = [u, v] ∧ VR ρ x u ∧ VR ρ y v ∧ K x y = .ok := by
  obtain ⟨x, r, rfl, h1⟩ := AV.cn_ok hk
  cases hl with
  | cn hx ht =>
    obtain ⟨y, v, rfl, hy, h2⟩ := arg1_ok ht h1
    exact ⟨_, _, _, _, rfl, hx, hy, h2⟩
theorem arr_of {α : Type} {a : Array α} {l : List α} (h : a.toList = l) : a = l.toArray := by subst h; rfl
/-- What an operation does: it leaves a value. -/
def Does (P : Program) (N0 : Nat) (ρ : Ren) (h : AH) (w : World) (s : Sem Next) (K : AV → AH → Out) : Prop :=
  ∃ r y h' w' ρ', K r h' = .ok ∧ Ext N0 ρ h w ρ' h' w' ∧ VR ρ' r y ∧ (s.run P w = Result.ok (Next.value y) w' ∨ (s.run P w = Result.ok Next.skip w' ∧ y = undef))
theorem gives_does {s : Sem Value} {K : AV → AH → Out} (hg : Gives P N0 ρ h w s K) : Does P N0 ρ h w (do pure (Next.value (← s)) : Sem Next) K := by
  obtain ⟨r, y, h', w', ρ', h1, h2, h3, h4⟩ := hg
  exact ⟨r, y, h', w', ρ', h1, h2, h3, Or.inl (by rw [Sem.run_bind, h4]; rfl)⟩
theorem builtinK_ok (hw : WR N0 ρ h w) {b : Builtin} {tys : Array TypeId} {l : AV} {vs : List Value} (hl : VL ρ l vs) {K : AV → AH → Out} (hk : builtinK P b tys h l K = .ok) (ty : TypeId) (cs : Array Bool) :
    Does P N0 ρ h w (builtin b tys ty cs vs.toArray) K := by
  cases b <;> first | (cases hk; done) | skip
  case append =>
    obtain ⟨t, t1, e1, hk⟩ := ty2_ok (show ty2 tys.toList (fun t t1 => iff' (spreadB P t1) (arg2 l fun s x => appendK P t h s x K) (.bad 68 2)) = .ok from hk)
    obtain ⟨hs, hk⟩ := iff_yes hk
    obtain ⟨x, u, y, v, rfl, hx, hy, hk⟩ := arg2_ok hl hk
    rw [arr_of e1]
    exact gives_does (appendK_ok hw hs hk hx hy ty)
  case clear =>
    obtain ⟨t, e1, hk⟩ := ty1_ok (show ty1 tys.toList (fun t => arg1 l fun d => clearK P t h d K) = .ok from hk)
    obtain ⟨x, u, rfl, hx, hk⟩ := arg1_ok hl hk
    rw [arr_of e1]
    exact gives_does (clearK_ok hw hk hx ty)
  case copy =>
    obtain ⟨t, t1, e1, hk⟩ := ty2_ok (show ty2 tys.toList (fun t _ => arg2 l fun d x => copyK P t h d x K) = .ok from hk)
    obtain ⟨x, u, y, v, rfl, hx, hy, hk⟩ := arg2_ok hl hk
    rw [arr_of e1]
    exact gives_does (copyK_ok hw hk hx hy ty)
  case len =>
    obtain ⟨t, e1, hk⟩ := ty1_ok (show ty1 tys.toList (fun t => arg1 l fun v => lenK h (lenOfT P t) v fun v => K v h) = .ok from hk)
    obtain ⟨x, u, rfl, hx, hk⟩ := arg1_ok hl hk
    rw [arr_of e1]
    exact gives_does (Gives.pure hw (lenK_ok hw hk hx ty))
  case max => exact gives_does (Gives.pure hw (minmax_ok false hl (show minmax false l (fun v => K v h) = .ok from hk) tys ty))
  case min => exact gives_does (Gives.pure hw (minmax_ok true hl (show minmax true l (fun v => K v h) = .ok from hk) tys ty))

/-- Calls, as the evaluator takes them. -/
def CallOK (P : Program) (N0 : Nat) (G : List Nat) (call : CallF) : Prop :=
  ∀ (ρ : Ren) (f : Nat) (l : AV) (vs : List Value) (h : AH) (w : World) (K : AV → AH → Out), call f l h K = .ok → WR N0 ρ h w → GV G ρ → VL ρ l vs → canCall P f = true →
    Calls P f vs.toArray w fun e w' => ∃ y, e = .returned y ∧ ∃ r h' ρ', K r h' = .ok ∧ Ext N0 ρ h w ρ' h' w' ∧ VR ρ' r y

theorem Does.wp {o : Oper} {K : AV → AH → Out} (hd : Does P N0 ρ h w (execOp a.eval o) K) {next : Act → World → Prop} {Q : Exit → Act → World → Prop}
    (hn : ∀ r y h' w' ρ', K r h' = .ok → Ext N0 ρ h w ρ' h' w' → VR ρ' r y → next (a.put o.dst y) w') : o.wp P a w next Q := by
  obtain ⟨r, y, h', w', ρ', h1, h2, h3, h4⟩ := hd
  unfold Oper.wp
  rcases h4 with h4 | ⟨h4, rfl⟩
  · rw [h4]; exact hn _ _ _ _ _ h1 h2 h3
  · rw [h4]; exact hn _ _ _ _ _ h1 h2 h3
theorem does_pure (hw : WR N0 ρ h w) {s : Sem Value} {K : AV → AH → Out} (hg : ∃ r y, K r h = .ok ∧ VR ρ r y ∧ s.run P w = .ok y w) : Does P N0 ρ h w (do Pure.pure (Next.value (← s)) : Sem Next) K :=
  gives_does (Gives.pure hw hg)
theorem does_pure' (hw : WR N0 ρ h w) {s : Sem Value} {K : AV → AH → Out} (hg : ∃ r y, K r h = .ok ∧ VR ρ r y ∧ s.run P w = .ok y w) : Does P N0 ρ h w (do Pure.pure (Next.value (← s)) : Sem Next) K :=
  gives_does (Gives.pure hw hg)
theorem does_skip {s : Sem Unit} {K : AH → Out} (hg : ∃ h' w', K h' = .ok ∧ Ext N0 ρ h w ρ h' w' ∧ s.run P w = .ok () w') : Does P N0 ρ h w (do s; Pure.pure Next.skip : Sem Next) (fun _ h => K h) := by
  obtain ⟨h', w', h1, h2, h3⟩ := hg
  exact ⟨.u, undef, h', w', ρ, h1, h2, .u _, .inr ⟨by rw [Sem.run_bind, h3]; rfl, rfl⟩⟩
theorem isNil_ok {v : AV} {K : Bool → Out} (hk : isNil v K = .ok) {u : Value} (hv : VR ρ v u) (h1 : ∀ b, K b = .ok → b = false) :
    K false = .ok ∧ ((∃ x, u = .pointer (some x)) ∨ (∃ f x y, u = .func (.func f) x y) ∨ (∃ b c n, u = .slice b c n) ∨ ∃ x, u = .map x) := by
  cases hv <;> first | (cases hk; done) | skip
  all_goals first
    | (have := h1 _ hk; cases this; done)
    | exact ⟨hk, .inl ⟨_, rfl⟩⟩
    | exact ⟨hk, .inr (.inl ⟨_, _, _, rfl⟩)⟩
    | exact ⟨hk, .inr (.inr (.inl ⟨_, _, _, rfl⟩))⟩
    | exact ⟨hk, .inr (.inr (.inr ⟨_, rfl⟩))⟩

theorem map_arr (x : Array Operand) (f : Operand → Value) : x.map f = (x.toList.map f).toArray := by apply Array.ext'; simp
theorem ev_simple (hw : WR N0 ρ h w) {rd : Rd} (hT : RdOK ρ rd a) {call : CallF} {o : Oper} {K : AV → AH → Out} (hk : evOp o.op P call rd h K = .ok) (hno : ∀ c, o.op ≠ .call c) : Does P N0 ρ h w (execOp a.eval o) K := by
  obtain ⟨dst, op, ty, pos, after, guard⟩ := o
  cases op <;> first | (cases hk; done) | skip
  case move x =>
    obtain ⟨v, hv, hk⟩ := evX_ok hT (show rd x (fun v => K v h) = .ok from hk)
    exact ⟨v, _, h, w, ρ, hk, Ext.refl hw, hv, .inl rfl⟩
  case assign x =>
    obtain ⟨v, hv, hk⟩ := evX_ok hT (show rd x (fun v => K v h) = .ok from hk)
    exact ⟨v, _, h, w, ρ, hk, Ext.refl hw, hv, .inl rfl⟩
  case pick c x y =>
    obtain ⟨v, hv, hk⟩ := evX_ok hT (show rd c (fun c => c.on_b (.bad 30 0) fun c => iff' c (rd x fun v => K v h) (rd y fun v => K v h)) = .ok from hk)
    obtain ⟨b, rfl, hk⟩ := AV.b_ok hk
    generalize hcv : a.eval c = cv at hv
    cases hv
    cases b with
    | true =>
      obtain ⟨v, hv, hk⟩ := evX_ok hT (show rd x (fun v => K v h) = .ok from hk)
      exact ⟨v, _, h, w, ρ, hk, Ext.refl hw, hv, .inl (by simp only [execOp, hcv, asBool]; rfl)⟩
    | false =>
      obtain ⟨v, hv, hk⟩ := evX_ok hT (show rd y (fun v => K v h) = .ok from hk)
      exact ⟨v, _, h, w, ρ, hk, Ext.refl hw, hv, .inl (by simp only [execOp, hcv, asBool]; rfl)⟩
  case alloc t =>
    obtain ⟨z, h1, hk⟩ := onO_ok (show onO (zeroOf P t) (.bad 31 0) (fun z => newCells h z fun q n h => K (.p q (nat_lit 0) n (nat_lit 0)) h) = .ok from hk)
    obtain ⟨i, v, g1, g2, g3, g4⟩ := zeroOf_ok h1
    obtain ⟨r, y, h', w', ρ', k1, k2, k3, k4⟩ := newVar_ok (P := P) (t := t) (v := v) hw hk (g4 ρ)
    refine gives_does (s := Instr.alloc t true (.tuple #[])) ⟨r, y, h', w', ρ', k1, k2, k3, ?_⟩
    simp only [Instr.alloc, Sem.run_bind, zeroValue_run g1 g2, Result.andThen_ok]
    simpa only [Sem.run_bind] using k4
  case box t x =>
    obtain ⟨an, h1, hk⟩ := onO_ok (show onO (aggSz P t) (.bad 32 0) (fun an => rd x fun v => cellsK v fun l => iff' (Nat.beq (lenL l) an.2) (newCells h l fun q n h => K (.p q (nat_lit 0) n (nat_lit 0)) h) (.bad 32 1)) = .ok from hk)
    obtain ⟨v, hv, hk⟩ := evX_ok hT hk
    obtain ⟨l, hk, hl⟩ := cellsK_ok hk
    obtain ⟨_, hk⟩ := iff_yes hk
    obtain ⟨r, y, h', w', ρ', k1, k2, k3, k4⟩ := newVar_ok (P := P) (t := t) (v := a.eval x) hw hk (hl ρ _ hv)
    exact gives_does (s := Instr.box t (a.eval x)) ⟨r, y, h', w', ρ', k1, k2, k3, k4⟩
  case build t ps =>
    obtain ⟨z, h1, hk⟩ := onO_ok (show onO (zeroOf P t) (.bad 33 0) (fun z => iff' (canBuild P t) (evParts ps.toList (partAt P t) rd z fun l => K (.agg l) h) (.bad 33 1)) = .ok from hk)
    obtain ⟨h2, hk⟩ := iff_yes hk
    exact does_pure hw (build_ok hT h1 h2 (K := fun v => K v h) hk)
  case buildSlice t len ps =>
    obtain ⟨sz, h1, hk⟩ := onO_ok (show onO (sliceSz P t) (.bad 34 0) (fun sz => onO (sliceZero P t) (.bad 34 1) fun z => iff' (Nat.ble (Nat.mul len sz) (nat_lit 16777216)) (repL z len fun z => evParts ps.toList (fun i => some (Nat.mul i sz, sz)) rd z fun l => newCells h l fun q _ h => K (.sl q (nat_lit 0) len (Nat.succ len) sz (nat_lit 0)) h) (.bad 34 2)) = .ok from hk)
    obtain ⟨z, h2, hk⟩ := onO_ok hk
    exact gives_does (buildSlice_ok hT hw h1 h2 hk)
  case insert t m k v =>
    obtain ⟨m', hm, hk⟩ := evX_ok hT (show rd m (fun m => rd k fun k => rd v fun v => mapSet P t h m k v fun h => K .u h) = .ok from hk)
    obtain ⟨k', hkk, hk⟩ := evX_ok hT hk
    obtain ⟨v', hv, hk⟩ := evX_ok hT hk
    obtain ⟨h', w', k1, k2, k3⟩ := mapSet_ok hw hk hm hkk hv
    exact ⟨.u, undef, h', w', ρ, k1, k2, .u _, .inr ⟨by simp only [execOp, Sem.run_bind, k3]; rfl, rfl⟩⟩
  case mapUpdate t m k v =>
    obtain ⟨m', hm, hk⟩ := evX_ok hT (show rd m (fun m => rd k fun k => rd v fun v => mapSet P t h m k v fun h => K .u h) = .ok from hk)
    obtain ⟨k', hkk, hk⟩ := evX_ok hT hk
    obtain ⟨v', hv, hk⟩ := evX_ok hT hk
    obtain ⟨h', w', k1, k2, k3⟩ := mapSet_ok hw hk hm hkk hv
    exact ⟨.u, undef, h', w', ρ, k1, k2, .u _, .inr ⟨by simp only [execOp, Sem.run_bind, k3]; rfl, rfl⟩⟩
  case load t x =>
    obtain ⟨an, h1, hk⟩ := onO_ok (show onO (aggSz P t) (.bad 35 0) (fun an => rd x fun a => loadK h an.1 an.2 a fun v => K v h) = .ok from hk)
    obtain ⟨v, hv, hk⟩ := evX_ok hT hk
    exact does_pure hw (loadK_ok h1 hw hv hk)
  case store t x y =>
    obtain ⟨an, h1, hk⟩ := onO_ok (show onO (aggSz P t) (.bad 36 0) (fun an => rd x fun a => rd y fun x => storeK h an.2 a x fun h => K .u h) = .ok from hk)
    obtain ⟨v, hv, hk⟩ := evX_ok hT hk
    obtain ⟨_, hu, hk⟩ := evX_ok hT hk
    obtain ⟨h', w', k1, k2, k3⟩ := storeK_ok h1 hw hv hu hk
    exact ⟨.u, undef, h', w', ρ, k1, k2, .u _, .inr ⟨by simp only [execOp, Sem.run_bind, k3]; rfl, rfl⟩⟩
  case nilCheck x =>
    obtain ⟨v, hv, hk⟩ := evX_ok hT (show rd x (fun v => isNil v fun b => iff' b (.bad 37 0) (K v h)) = .ok from hk)
    obtain ⟨k1, k2⟩ := isNil_ok hk hv (fun b hb => by cases b; rfl; cases hb)
    refine ⟨v, _, h, w, ρ, k1, Ext.refl hw, hv, .inl ?_⟩
    rcases k2 with ⟨y, e⟩ | ⟨f, y, z, e⟩ | ⟨b, c, n, e⟩ | ⟨y, e⟩ <;> (simp only [execOp, e]; rfl)
  case binOp op t x y t2 =>
    obtain ⟨v, hv, hk⟩ := evX_ok hT (show rd x (fun x => rd y fun y => binK P op t x y fun v => K v h) = .ok from hk)
    obtain ⟨_, hu, hk⟩ := evX_ok hT hk
    exact does_pure hw (binK_ok hw hk hv hu x y)
  case unOp op t x =>
    obtain ⟨v, hv, hk⟩ := evX_ok hT (show rd x (fun v => unK op v fun v => K v h) = .ok from hk)
    exact does_pure hw (unK_ok hk hv)
  case convert s d x =>
    obtain ⟨v, hv, hk⟩ := evX_ok hT (show rd x (fun v => convK P h s d v K) = .ok from hk)
    exact gives_does (convK_ok hw hk hv)
  case makeFunc fn first caps =>
    obtain ⟨r, hr, hk⟩ := evXs_ok hT (show evXs first.toList rd (fun r => evXs caps.toList rd fun l => Fn.rec (motive := fun _ => Out) (fun f => K (.fn f r l) h) (fun _ => .bad 38 1) (fun _ _ => .bad 38 2) (fun _ _ _ _ => .bad 38 3) (fun _ => .bad 38 4) fn) = .ok from hk)
    obtain ⟨l, hl, hk⟩ := evXs_ok hT hk
    cases fn <;> first | (cases hk; done) | skip
    refine ⟨_, .func (.func _) (first.map a.eval) (caps.map a.eval), h, w, ρ, hk, Ext.refl hw, ?_, .inl rfl⟩
    have e1 := map_arr first a.eval
    have e2 := map_arr caps a.eval
    rw [e1, e2]
    exact .fn _ hr hl
  case makeMap t r =>
    obtain ⟨hr, hk⟩ := iff_yes (show iff' (Option.isNone r) (newBlk h (.mp .nl) fun q h => K (.m q) h) (.bad 39 0) = .ok from hk)
    cases r with
    | some r => cases hr
    | none => exact gives_does (makeMap_ok hw hk t)
  case makeSlice t l c =>
    obtain ⟨sz, h1, hk⟩ := onO_ok (show onO (sliceSz P t) (.bad 40 0) (fun sz => onO (sliceZero P t) (.bad 40 1) fun z => rd l fun l => rd c fun c => l.on_i (.bad 40 2) fun _ l => c.on_i (.bad 40 3) fun _ c => natOf l fun l => natOf c fun c => iff' (Nat.ble l c) (iff' (Nat.ble c (nat_lit 1000000)) (layN c z .e (nat_lit 0) fun t n => newBlk h (.c n t (nat_lit 0) bigN false) fun q h => K (.sl q (nat_lit 0) l (Nat.succ c) sz (nat_lit 0)) h) (.bad 40 4)) (.bad 40 5)) = .ok from hk)
    obtain ⟨z, h2, hk⟩ := onO_ok hk
    obtain ⟨vl, hl, hk⟩ := evX_ok hT hk
    obtain ⟨vc, hc, hk⟩ := evX_ok hT hk
    obtain ⟨kl, zl, rfl, hk⟩ := AV.i_ok hk
    obtain ⟨kc, zc, rfl, hk⟩ := AV.i_ok (v := vc) hk
    obtain ⟨nl, rfl, hk⟩ := natOf_ok (z := zl) hk
    obtain ⟨nc, rfl, hk⟩ := natOf_ok (z := zc) hk
    obtain ⟨h3, hk⟩ := iff_yes hk
    obtain ⟨h4, hk⟩ := iff_yes hk
    generalize hel : a.eval l = el at hl
    generalize hec : a.eval c = ec at hc
    cases hl; cases hc
    have := gives_does (makeSlice_ok hw h1 h2 (Nat.le_of_ble_eq_true h3) (Nat.le_of_ble_eq_true h4) hk kl kc)
    rw [← hel, ← hec] at this
    exact this
  case slice t x lo hi mx =>
    obtain ⟨v, hv, hk⟩ := evX_ok hT (show rd x (fun x => evXo rd lo fun lo => evXo rd hi fun hi => evXo rd mx fun mx => sliceK P t x lo hi mx fun v => K v h) = .ok from hk)
    obtain ⟨l1, g1, hk⟩ := evXo_ok hT hk
    obtain ⟨l2, g2, hk⟩ := evXo_ok hT hk
    obtain ⟨l3, g3, hk⟩ := evXo_ok hT hk
    exact does_pure hw (sliceK_ok (K := fun v => K v h) hk hv g1 g2 g3)
  case fieldAddr t x f =>
    obtain ⟨fd, h1, hk⟩ := onO_ok (show onO (fieldOf P t f) (.bad 41 0) (fun fd => rd x fun a => a.on_p (.bad 41 1) fun q o e st => iff' (Nat.ble (nat_lit 1) fd.2.2) (forceN (Nat.add o fd.1) fun o => K (.p q o e st) h) (.bad 41 2)) = .ok from hk)
    obtain ⟨v, hv, hk⟩ := evX_ok hT hk
    exact does_pure hw (fieldAddr_ok (K := fun v => K v h) h1 hk hv)
  case field t x f =>
    obtain ⟨fd, h1, hk⟩ := onO_ok (show onO (fieldOf P t f) (.bad 42 0) (fun fd => rd x fun x => x.on_agg (.bad 42 1) fun l => partK fd.2.1 fd.1 fd.2.2 l fun v => K v h) = .ok from hk)
    obtain ⟨v, hv, hk⟩ := evX_ok hT hk
    exact does_pure hw (field_ok (K := fun v => K v h) h1 hk hv)
  case indexAddr t x ix =>
    obtain ⟨v, hv, hk⟩ := evX_ok hT (show rd x (fun x => rd ix fun ix => ix.on_i (.bad 43 0) fun _ z => natOf z fun i => idxAddr P t x i fun v => K v h) = .ok from hk)
    obtain ⟨vi, hi, hk⟩ := evX_ok hT hk
    obtain ⟨k, z, rfl, hk⟩ := AV.i_ok hk
    obtain ⟨n, rfl, hk⟩ := natOf_ok hk
    generalize hei : a.eval ix = ei at hi
    cases hi
    have := does_pure hw (idxAddr_ok (K := fun v => K v h) hk hv k)
    rw [← hei] at this
    exact this
  case index t x ix =>
    obtain ⟨v, hv, hk⟩ := evX_ok hT (show rd x (fun x => rd ix fun ix => ix.on_i (.bad 44 0) fun _ z => natOf z fun i => idxK P t x i fun v => K v h) = .ok from hk)
    obtain ⟨vi, hi, hk⟩ := evX_ok hT hk
    obtain ⟨k, z, rfl, hk⟩ := AV.i_ok hk
    obtain ⟨n, rfl, hk⟩ := natOf_ok hk
    generalize hei : a.eval ix = ei at hi
    cases hi
    have := does_pure hw (idxK_ok (K := fun v => K v h) hk hv k)
    rw [← hei] at this
    exact this
  case lookup t x ix ok =>
    obtain ⟨v, hv, hk⟩ := evX_ok hT (show rd x (fun m => rd ix fun k => mapGet P t h m k ok fun v => K v h) = .ok from hk)
    obtain ⟨vi, hi, hk⟩ := evX_ok hT hk
    exact does_pure hw (mapGet_ok (K := fun v => K v h) hw hk hv hi)
  case range t x =>
    obtain ⟨v, hv, hk⟩ := evX_ok hT (show rd x (fun x => rangeK h (lenOfT P t) x K) = .ok from hk)
    exact gives_does (rangeK_ok hw hk hv)
  case next it str =>
    obtain ⟨v, hv, hk⟩ := evX_ok hT (show rd it (fun it => iff' str (nextS h it K) (nextK h it K)) = .ok from hk)
    cases str with
    | true => exact gives_does (nextS_ok hw hk hv ty)
    | false => exact gives_does (nextK_ok hw hk hv ty)
  case entry it =>
    obtain ⟨v, hv, hk⟩ := evX_ok hT (show rd it (fun it => entryK h it K) = .ok from hk)
    exact gives_does (entryK_ok hw hk hv)
  case extract t ix =>
    obtain ⟨v, hv, hk⟩ := evX_ok hT (show rd t (fun t => t.on_tup (.bad 45 0) fun l => nthK ix l fun v => K v h) = .ok from hk)
    obtain ⟨l, rfl, hk⟩ := AV.tup_ok hk
    obtain ⟨x, hk, hx⟩ := nthK_ok hk
    generalize het : a.eval t = et at hv
    cases hv with
    | tup hl =>
      obtain ⟨y, g1, g2⟩ := hx ρ _ hl
      refine gives_does (Gives.pure hw (s := Instr.extract (a.eval t) ix) ⟨_, y, hk, g2, ?_⟩)
      rw [het]
      simp [Instr.extract, g1]
  case call c => exact absurd rfl (hno c)

theorem canCall_ok {f : Nat} (h : canCall P f = true) : ∃ fn c, P.funcs[f]? = some fn ∧ fn.body = some c ∧ (fn.name == "runtime.NumGoroutine") = false ∧ codeOk c fn.ntmps (elOf fn) = true := by
  unfold canCall at h
  split at h
  · rename_i fn hf
    split at h
    · rename_i c hc
      rw [Bool.and_eq_true] at h
      exact ⟨fn, c, hf, hc, by simpa using h.2, h.1⟩
    · cases h
  · cases h
/-- Every operation. -/
theorem evOp_ok {G : List Nat} {call : CallF} (hc : CallOK P N0 G call) (hw : WR N0 ρ h w) (hgv : GV G ρ) {rd : Rd} (hT : RdOK ρ rd a) {o : Oper} {K : AV → AH → Out} (hk : evOp o.op P call rd h K = .ok) {next : Act → World → Prop} {Q : Exit → Act → World → Prop}
    (hn : ∀ r y h' w' ρ', K r h' = .ok → Ext N0 ρ h w ρ' h' w' → VR ρ' r y → next (a.put o.dst y) w') : o.wp P a w next Q := by
  by_cases hcl : ∃ c, o.op = .call c
  case neg => exact (ev_simple hw hT hk (fun c hc => hcl ⟨c, hc⟩)).wp hn
  obtain ⟨c, ho⟩ := hcl
  obtain ⟨dst, op, ty, pos, after, guard⟩ := o
  cases ho
  obtain ⟨callee, args, argTypes⟩ := c
  cases callee with
  | invoke _ _ => cases hk
  | builtin b =>
    obtain ⟨l, hl, hk⟩ := evXs_ok hT (show evXs args.toList rd (fun l => builtinK P b argTypes h l K) = .ok from hk)
    refine Does.wp ?_ hn
    have := builtinK_ok hw hl hk ty (args.map fun | .const _ => true | _ => false)
    have e := map_arr args a.eval
    rw [← e] at this
    exact this
  | value f =>
    obtain ⟨vf, hf, hk⟩ := evX_ok hT (show rd f (fun f => f.on_fn (.bad 46 0) fun f first caps => evXs args.toList rd fun l => appK l caps fun l => appK first l fun l => iff' (canCall P f) (call f l h K) (.bad 46 2)) = .ok from hk)
    obtain ⟨g, first, caps, rfl, hk⟩ := AV.fn_ok hk
    obtain ⟨l, hl, hk⟩ := evXs_ok hT hk
    obtain ⟨l2, hk, hl2⟩ := appK_ok hk
    obtain ⟨l3, hk, hl3⟩ := appK_ok hk
    obtain ⟨hcc, hk⟩ := iff_yes hk
    generalize hef : a.eval f = ef at hf
    cases hf with
    | @fn _ _ _ x y hx hy =>
      have hl2 := hl2 ρ _ _ hl hy
      have hl3 := hl3 ρ _ _ hx hl2
      have := hc ρ g _ _ h w K hk hw hgv hl3 hcc
      obtain ⟨fn, cd, q1, q2, q3, _⟩ := canCall_ok hcc
      have e : (x.toArray ++ (args.map a.eval) ++ y.toArray) = (x ++ (args.toList.map a.eval ++ y)).toArray := by rw [map_arr]; simp
      unfold Oper.wp
      have hrun : (execOp a.eval ⟨dst, .call ⟨.value f, args, argTypes⟩, ty, pos, after, guard⟩).run P w = .ok (.enter g (x ++ (args.toList.map a.eval ++ y)).toArray) w := by
        rw [← e]
        simp only [execOp, resolve, hef, Deferred.ofValue, Sem.run_bind, Sem.run_pure, Result.andThen_ok, invoke, callFunc]
        have hne : fn.name ≠ "runtime.NumGoroutine" := by simpa using q3
        simp [q1, q2, hne]
      rw [hrun, Oper.upon_enter]
      refine this.mono ?_
      rintro e w' ⟨y, rfl, r, h', ρ', k1, k2, k3⟩
      exact hn _ _ _ _ _ k1 k2 k3
end
end Go.Proofs.YtlblaopkmigheaaGreatDoor.Ev
