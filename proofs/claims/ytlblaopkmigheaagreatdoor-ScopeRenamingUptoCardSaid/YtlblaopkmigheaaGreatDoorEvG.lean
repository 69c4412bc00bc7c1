/- A region whose order is drawn: where its walk stands. No program stands in it. -/
import Derived.Test.YtlblaopkmigheaaGreatDoorEvF
import Derived.Orders
namespace Go.Proofs.YtlblaopkmigheaaGreatDoor.Ev
open Go Go.RowKit

noncomputable section
variable {P : Program} {N0 : Nat} {ρ ρ' : Ren} {h h' : AH} {w w' : World} {T T' : Fr} {a : Act} {n : Nat} {G : List Nat}

theorem all_ok {α : Type} {l : List α} {f : α → Bool} (h : l.all f = true) : ∀ x ∈ l, f x = true := List.all_eq_true.1 h
theorem stepB_ok {l : List Oper} {A : List Nat} {E : Nat} {s : Stp} {r : List Stp} {m : Nat} {F : List Nat} (hs : stepB l A E s r m F = true) :
    ∃ o, l[s.i]? = some o ∧ bitB m s.i = false ∧ subB (dmask o) m = true ∧ bitB E s.i = s.eff ∧ ((s.eff = true ∧ (∀ s' ∈ r, bitB (A.getD s'.i 0) s.i = true) ∧ (∀ x ∈ F, bitB (A.getD s.i 0) x = true ∨ x ∈ s.chk)) ∨ (s.eff = false ∧ quietOp o.op = true)) := by
  unfold stepB at hs
  cases ho : l[s.i]? with
  | none => rw [ho] at hs; cases hs
  | some o =>
    rw [ho] at hs
    obtain ⟨h1, hs⟩ := iffn (show iff' (bitB m s.i) false _ = true from hs)
    obtain ⟨h2, hs⟩ := iff2 hs
    obtain ⟨h6, hs⟩ := iff2 hs
    refine ⟨o, rfl, h1, h2, eqB_ok h6, ?_⟩
    cases he : s.eff with
    | false => rw [he] at hs; exact .inr ⟨rfl, hs⟩
    | true =>
      rw [he] at hs
      obtain ⟨h3, h4⟩ := iff2 (show iff' _ _ false = true from hs)
      refine .inl ⟨rfl, all_ok h3, fun x hx => ?_⟩
      rcases iffo (all_ok h4 x hx) with h | h
      · exact .inl h
      · exact .inr (listIn_ok h)
theorem loopB_cons {l : List Oper} {A : List Nat} {E : Nat} {s : Stp} {r : List Stp} {m : Nat} {F : List Nat} (hl : loopB l A E (s :: r) m F = true) {o : Oper} (ho : l[s.i]? = some o) :
    loopB l A E r (Nat.lor m (Nat.shiftLeft 1 s.i)) (iff' (iff' s.eff true (freeOp o.op)) F (s.i :: F)) = true := by
  unfold loopB at hl
  have hl := (iff2 hl).2
  rw [forceN_eq, ho] at hl
  exact hl
theorem loopB_head {l : List Oper} {A : List Nat} {E : Nat} {s : Stp} {r : List Stp} {m : Nat} {F : List Nat} (hl : loopB l A E (s :: r) m F = true) : stepB l A E s r m F = true := by
  unfold loopB at hl
  exact (iff2 hl).1
theorem loopB_cover {l : List Oper} {A : List Nat} {E : Nat} : ∀ {L : List Stp} {m : Nat} {F : List Nat}, loopB l A E L m F = true → ∀ i, i < l.length → bitB m i = true ∨ ∃ s ∈ L, s.i = i
  | [], m, F, h, i, hi => by
    unfold loopB at h
    exact .inl (all_ok h i (by simp [hi]))
  | s :: r, m, F, h, i, hi => by
    obtain ⟨o, ho, _⟩ := stepB_ok (loopB_head h)
    rcases loopB_cover (loopB_cons h ho) i hi with h1 | ⟨s', h1, h2⟩
    · rcases (bit_add' _ _ _).1 h1 with e | h1
      · exact .inr ⟨s, List.mem_cons_self, e.symm⟩
      · exact .inl h1
    · exact .inr ⟨s', List.mem_cons_of_mem _ h1, h2⟩

theorem ancs_len_go : ∀ (r : List Oper) (tbl : List Nat), (r.foldl (fun tbl o => forceN (ancOf tbl o) fun m => tbl ++ [m]) tbl).length = tbl.length + r.length
  | [], tbl => by simp
  | o :: r, tbl => by rw [List.foldl_cons, forceN_eq, ancs_len_go r]; simp; omega
theorem ancs_len (l : List Oper) : (ancs l).length = l.length := by
  have := ancs_len_go l []
  simpa [ancs] using this
theorem mem_dsts {l : List Oper} {j : Nat} {o : Oper} {t : Nat} (ho : l[j]? = some o) (hd : o.dst = some t) : (t, j) ∈ dstsOf l := by
  unfold dstsOf
  rw [List.mem_filterMap]
  refine ⟨(j, o), ?_, by simp [hd]⟩
  have hlt := (List.getElem?_eq_some_iff.1 ho).1
  refine List.mem_of_getElem? (i := j) ?_
  rw [List.getElem?_zip_eq_some]
  exact ⟨by simp [hlt], ho⟩
theorem mem_zip {l : List Oper} {i : Nat} {o : Oper} (ho : l[i]? = some o) : (i, o) ∈ (List.range l.length).zip l := by
  have hlt := (List.getElem?_eq_some_iff.1 ho).1
  refine List.mem_of_getElem? (i := i) ?_
  rw [List.getElem?_zip_eq_some]
  exact ⟨by simp [hlt], ho⟩
theorem readsB_ok {l : List Oper} {E : Nat} (hr : readsB l (ancs l) E (dstsOf l) = true) {i j : Nat} {o o' : Oper} {t : Nat} (ho : l[i]? = some o) (ht : t ∈ looksA l o) (ho' : l[j]? = some o') (hd : o'.dst = some t) :
    bitB ((ancs l).getD i 0) j = true ∨ (bitB E j = true ∧ (i = j ∨ bitB ((ancs l).getD j 0) i = true)) := by
  unfold readsB at hr
  have h1 := all_ok (all_ok (all_ok hr _ (mem_zip ho)) t ht) _ (mem_dsts ho' hd)
  rcases iffo (iffi h1 (Nat.beq_refl t)) with h1 | h1
  · exact .inl h1
  · obtain ⟨h1, h2⟩ := iff2 h1
    rcases iffo h2 with h2 | h2
    · exact .inr ⟨h1, .inl (nb h2)⟩
    · exact .inr ⟨h1, .inr h2⟩
theorem uniqB_ok {l : List Oper} (hu : uniqB (dstsOf l) = true) {i j : Nat} {o o' : Oper} {t : Nat} (ho : l[i]? = some o) (hd : o.dst = some t) (ho' : l[j]? = some o') (hd' : o'.dst = some t) : i = j :=
  nb (iffi (all_ok (all_ok hu _ (mem_dsts ho hd)) _ (mem_dsts ho' hd')) (Nat.beq_refl t))
theorem backB_ok {l : List Oper} (hb : backB l = true) {i : Nat} {o : Oper} (ho : l[i]? = some o) {e : Edge} (he : e ∈ o.after) (hbi : Region.binds .any e = true) : e.on < i := by
  unfold backB at hb
  have hlt := (List.getElem?_eq_some_iff.1 ho).1
  have hm : (i, o) ∈ (List.range l.length).zip l := by
    refine List.mem_of_getElem? (i := i) ?_
    rw [List.getElem?_zip_eq_some]
    exact ⟨by simp [hlt], ho⟩
  have h1 := iffi (all_ok (all_ok hb _ hm) e (Array.mem_toList_iff.2 he)) hbi
  have h2 : Nat.ble (e.on + 1) i = true := h1
  exact Nat.le_of_ble_eq_true h2

/-- The same slots, as far as an operation looks at them. -/
def Agree (l : List Oper) (o : Oper) (T T' : Fr) : Prop := ∀ t ∈ looksA l o, T.at t = T'.at t
theorem look_op {l : List Oper} {o : Oper} {t : Nat} (hx : Operand.tmp t ∈ o.op.operands) : t ∈ looksA l o :=
  List.mem_append_left _ (List.mem_filterMap.2 ⟨.tmp t, by simpa using hx, rfl⟩)
theorem look_guard {l : List Oper} {o : Oper} {g : Nat × Bool} (hg : o.guard = some g) {d : Nat} (hd : dstOf l g.1 = some d) : d ∈ looksA l o := by
  unfold looksA
  refine List.mem_append_right _ ?_
  rw [hg]
  obtain ⟨g1, g2⟩ := g
  simp only at hd ⊢
  rw [hd]
  simp
theorem rd_tmp (T : Fr) (t : Nat) (K : AV → Out) : rdA [] G T (.tmp t) K = K (T.at t) := frK_eq t T K
theorem rd_val {x : Operand} {K : AV → Out} (hk : rdA [] G T x K = .ok) : ∃ v, K v = .ok ∧ ∀ T' K', (∀ t, x = .tmp t → T'.at t = T.at t) → rdA [] G T' x K' = K' v := by
  cases x with
  | tmp t =>
    rw [rd_tmp] at hk
    exact ⟨_, hk, fun T' K' he => by rw [rd_tmp, he t rfl]⟩
  | const v => exact ⟨_, hk, fun _ _ _ => rfl⟩
  | global g =>
    obtain ⟨h1, h2⟩ := iff_yes hk
    exact ⟨_, h2, fun T' K' _ => by show iff' (listIn g G) (K' _) (.bad 1 g) = _; rw [h1]; rfl⟩
  | func f => exact ⟨_, hk, fun _ _ _ => rfl⟩
theorem Agree.op {l : List Oper} {o : Oper} (ha : Agree l o T T') {call : CallF} {h : AH} {K : AV → AH → Out} : evOp o.op P call (rdA [] G T) h K = evOp o.op P call (rdA [] G T') h K := by
  refine evOp_congr o.op fun x hx K => ?_
  cases x with
  | tmp t => rw [rd_tmp, rd_tmp, ha t (look_op hx)]
  | _ => rfl
theorem Agree.guard {l : List Oper} {o : Oper} (ha : Agree l o T T') {g : Nat × Bool} (hg : o.guard = some g) (y n : Out) : guardK l g (rdA [] G T) y n = guardK l g (rdA [] G T') y n := by
  unfold guardK
  cases hd : dstOf l g.1 with
  | none => rfl
  | some d =>
    show rdA [] G T (.tmp d) _ = rdA [] G T' (.tmp d) _
    rw [rd_tmp, rd_tmp, ha d (look_guard hg hd)]
theorem sameDst_congr {d : Option Nat} (hd : ∀ t, d = some t → T.at t = T'.at t) (v : AV) : sameDst (rdA [] G T) d v = sameDst (rdA [] G T') d v := by
  cases d with
  | none => rfl
  | some d =>
    show rdA [] G T (.tmp d) _ = rdA [] G T' (.tmp d) _
    rw [rd_tmp, rd_tmp, hd d rfl]
theorem sameDst_ok {d : Option Nat} {v : AV} (hs : sameDst (rdA [] G T) d v = .ok) : ∀ t, d = some t → T.at t = v := by
  rintro t rfl
  have hs : rdA [] G T (.tmp t) (fun y => iff' (sameA v y) .ok (.bad 95 0)) = .ok := hs
  rw [rd_tmp] at hs
  obtain ⟨h2, _⟩ := iff_yes hs
  exact (sameA_ok h2).symm
theorem eqI_refl (z : Int) : eqI z z = true := by rw [eqI_eq]; simp
theorem eqB_refl (b : Bool) : eqB b b = true := by cases b <;> rfl
theorem eqK_refl (k : IntKind) : eqK k k = true := by cases k <;> rfl
theorem iff3 {a b : Bool} (ha : a = true) (hb : b = true) : iff' a b false = true := by subst ha; exact hb
theorem sameA_refl : ∀ x : AV, sameA x x = true := by
  intro x
  induction x with
  | b x => exact eqB_refl x
  | i k z => exact iff3 (eqK_refl k) (eqI_refl z)
  | s n x => exact iff3 (Nat.beq_refl n) (Nat.beq_refl x)
  | p q o e st => exact iff3 (Nat.beq_refl _) (iff3 (Nat.beq_refl _) (iff3 (Nat.beq_refl _) (Nat.beq_refl _)))
  | sl q o n c sz st => exact iff3 (Nat.beq_refl _) (iff3 (Nat.beq_refl _) (iff3 (Nat.beq_refl _) (iff3 (Nat.beq_refl _) (iff3 (Nat.beq_refl _) (Nat.beq_refl _)))))
  | m q => exact Nat.beq_refl _
  | fn f a b iha ihb => exact iff3 (Nat.beq_refl _) (iff3 iha ihb)
  | agg l ih => exact ih
  | tup l ih => exact ih
  | cn x t ihx iht => exact iff3 ihx iht
  | _ => rfl
theorem sameDst_put (d : Option Nat) (v : AV) : sameDst (rdA [] G (putF T d v)) d v = .ok := by
  cases d with
  | none => rfl
  | some d =>
    show rdA [] G (putF T (some d) v) (.tmp d) (fun y => iff' (sameA v y) .ok (.bad 95 0)) = .ok
    rw [rd_tmp, putF_at, if_pos rfl, sameA_refl]
    rfl
theorem again_congr {l : List Oper} {o : Oper} (ha : Agree l o T T') (hd : ∀ t, o.dst = some t → T.at t = T'.at t) {call : CallF} : again P call l o (rdA [] G T) h = again P call l o (rdA [] G T') h := by
  have h1 : again1 P call o (rdA [] G T) h = again1 P call o (rdA [] G T') h := by
    unfold again1
    rw [ha.op]
    congr 1
    funext v _
    exact sameDst_congr hd v
  unfold again
  cases hg : o.guard with
  | none => exact h1
  | some g =>
    show guardK l g (rdA [] G T) _ _ = guardK l g (rdA [] G T') _ _
    rw [h1, sameDst_congr hd, ha.guard hg]
theorem freeOp_congr {o : Op} (hf : freeOp o = true) {call : CallF} {rd : Rd} {F : AV → Out} : evOp o P call rd h (fun v _ => F v) = evOp o P call rd h' (fun v _ => F v) := by
  cases o <;> first | (cases hf; done) | rfl
theorem again_free {l : List Oper} {o : Oper} (hf : freeOp o.op = true) {call : CallF} {rd : Rd} : again P call l o rd h = again P call l o rd h' := by
  have h1 : again1 P call o rd h = again1 P call o rd h' := freeOp_congr hf
  unfold again
  cases o.guard with
  | none => exact h1
  | some g =>
    show guardK l g rd _ _ = guardK l g rd _ _
    rw [h1]
theorem andO_ok' {a b : Out} (h : andO a b = .ok) : a = .ok ∧ b = .ok := by cases a <;> first | exact ⟨rfl, h⟩ | cases h
theorem agains_ok {call : CallF} {rd : Rd} {l : List Oper} : ∀ {X : List Nat}, agains X P call l rd h = .ok → ∀ x ∈ X, ∃ o, l[x]? = some o ∧ again P call l o rd h = .ok
  | [], _, x, hx => by cases hx
  | y :: X, hk, x, hx => by
    obtain ⟨h1, h2⟩ := andO_ok' (show andO (onO l[y]? (.bad 95 1) fun o => again P call l o rd h) (agains X P call l rd h) = .ok from hk)
    rcases List.mem_cons.1 hx with rfl | hx
    · obtain ⟨o, h3, h4⟩ := onO_ok h1
      exact ⟨o, h3, h4⟩
    · exact agains_ok h2 x hx
theorem guard_sel {l : List Oper} {g : Nat × Bool} {y n : Out} (hk : guardK l g (rdA [] G T) y n = .ok) :
    (y = .ok ∧ ∀ y' n', guardK l g (rdA [] G T) y' n' = y') ∨ (n = .ok ∧ ∀ y' n', guardK l g (rdA [] G T) y' n' = n') := by
  obtain ⟨d, h1, hk⟩ := onO_ok (show onO (dstOf l g.1) (.bad 70 0) (fun d => rdA [] G T (.tmp d) fun v => selG v g.2 y n) = .ok from hk)
  rw [rd_tmp] at hk
  have key : ∀ y' n', guardK l g (rdA [] G T) y' n' = selG (T.at d) g.2 y' n' := fun y' n' => by
    show onO (dstOf l g.1) (.bad 70 0) (fun d => rdA [] G T (.tmp d) fun v => selG v g.2 y' n') = _
    rw [h1]
    show rdA [] G T (.tmp d) (fun v => selG v g.2 y' n') = _
    rw [rd_tmp]
  generalize T.at d = v at hk key
  cases v with
  | b x =>
    rcases iff_ok (show iff' (eqB x g.2) y n = .ok from hk) with ⟨e, hk⟩ | ⟨e, hk⟩
    · exact .inl ⟨hk, fun y' n' => by rw [key]; show iff' (eqB x g.2) y' n' = y'; rw [e]; rfl⟩
    · exact .inr ⟨hk, fun y' n' => by rw [key]; show iff' (eqB x g.2) y' n' = n'; rw [e]; rfl⟩
  | tup l => exact .inr ⟨hk, fun y' n' => key y' n'⟩
  | _ => cases hk
/-- An operation that goes on with one value need not be made anew. -/
theorem quick_again {l : List Oper} {o : Oper} (ho : quick o = true) {call : CallF} {K : Fr → AH → Out} (hk : evOper P call l o (rdA [] G T) T h K = .ok) (hl : ∀ t ∈ looksA l o, o.dst ≠ some t) :
    ∃ v, K (putF T o.dst v) h = .ok ∧ again P call l o (rdA [] G (putF T o.dst v)) h = .ok ∧ (v = .tup .nl ∨ ∀ K', evOp o.op P call (rdA [] G T) h K' = K' v h) := by
  have ha : ∀ v, Agree l o (putF T o.dst v) T := fun v t ht => by rw [putF_at, if_neg (hl t ht)]
  have hrun : runOper P call o (rdA [] G T) T h K = .ok → ∃ v, K (putF T o.dst v) h = .ok ∧ again1 P call o (rdA [] G (putF T o.dst v)) h = .ok ∧ ∀ K', evOp o.op P call (rdA [] G T) h K' = K' v h := by
    intro hk
    have hk : evOp o.op P call (rdA [] G T) h (fun v h => K (putF T o.dst v) h) = .ok := hk
    obtain ⟨X, hX, he⟩ := oneOp_pa (P := P) (call := call) (rd := rdA [] G T) (h := h) (fun x => rdA_pa x) ho
    rw [he] at hk
    obtain ⟨v, hv⟩ := hX _ hk
    rw [hv] at hk
    refine ⟨v, hk, ?_, fun K' => by rw [he, hv]⟩
    unfold again1
    rw [(ha v).op, he, hv]
    exact sameDst_put o.dst v
  unfold evOper at hk
  cases hg : o.guard with
  | none =>
    rw [hg] at hk
    obtain ⟨v, h1, h2, h3⟩ := hrun hk
    refine ⟨v, h1, ?_, .inr h3⟩
    unfold again
    rw [hg]
    exact h2
  | some g =>
    rw [hg] at hk
    have hk : guardK l g (rdA [] G T) (runOper P call o (rdA [] G T) T h K) (K (putF T o.dst (.tup .nl)) h) = .ok := hk
    rcases guard_sel hk with ⟨h0, hsel⟩ | ⟨h0, hsel⟩
    · obtain ⟨v, h1, h2, h3⟩ := hrun h0
      refine ⟨v, h1, ?_, .inr h3⟩
      unfold again
      rw [hg]
      show guardK l g (rdA [] G (putF T o.dst v)) _ _ = .ok
      rw [(ha v).guard hg, hsel]
      exact h2
    · refine ⟨_, h0, ?_, .inl rfl⟩
      unfold again
      rw [hg]
      show guardK l g (rdA [] G (putF T o.dst (.tup .nl))) _ _ = .ok
      rw [(ha _).guard hg, hsel]
      exact sameDst_put o.dst _
end
end Go.Proofs.YtlblaopkmigheaaGreatDoor.Ev
namespace Go.Proofs.YtlblaopkmigheaaGreatDoor.Ev
open Go Go.RowKit

noncomputable section
variable {P : Program} {N0 : Nat} {ρ ρ' : Ren} {h h' : AH} {w w' : World} {T T' : Fr} {a : Act} {n Z : Nat} {G : List Nat}

/-- The slots of the operations X. -/
def dX (ops : Array Oper) (X : List Nat) : List Nat := X.filterMap fun x => (ops[x]?).bind (·.dst)
theorem mem_dX {ops : Array Oper} {X : List Nat} {t : Nat} : t ∈ dX ops X ↔ ∃ x ∈ X, ∃ o, ops[x]? = some o ∧ o.dst = some t := by
  unfold dX
  rw [List.mem_filterMap]
  constructor
  · rintro ⟨x, hx, hb⟩
    cases ho : ops[x]? with
    | none => rw [ho] at hb; cases hb
    | some o => rw [ho] at hb; exact ⟨x, hx, o, ho, hb⟩
  · rintro ⟨x, hx, o, ho, hd⟩
    exact ⟨x, hx, by rw [ho]; exact hd⟩

/-- What the plan's check says. -/
structure Good (ops : Array Oper) (n Z E : Nat) : Prop where
  reads : readsB ops.toList (ancs ops.toList) E (dstsOf ops.toList) = true
  uniq : uniqB (dstsOf ops.toList) = true
  back : backB ops.toList = true
  slots : opsOk ops.toList n = true
  els : opsE ops.toList Z true = true
theorem opsOk_ok : ∀ {l : List Oper}, opsOk l n = true → ∀ o ∈ l, dstOk n o.dst = true
  | [], _, o, ho => by cases ho
  | x :: l, h, o, ho => by
    obtain ⟨h1, h2⟩ := iff2 (show iff' (dstOk n x.dst) (opsOk l n) false = true from h)
    rcases List.mem_cons.1 ho with rfl | ho
    · exact h1
    · exact opsOk_ok h2 o ho
theorem opsE_ok : ∀ {l : List Oper}, opsE l Z true = true → ∀ o ∈ l, ∀ x, o.dst = some x → bitB Z x = false
  | [], _, o, ho => by cases ho
  | x :: l, h, o, ho => by
    obtain ⟨h1, h2⟩ := iff2 (show iff' (opE Z true x) (opsE l Z true) false = true from h)
    rcases List.mem_cons.1 ho with rfl | ho
    · exact opE_draw h1
    · exact opsE_ok h2 o ho
theorem at_list {ops : Array Oper} {i : Nat} {o : Oper} (ho : ops[i]? = some o) : ops.toList[i]? = some o := by rw [Array.getElem?_toList]; exact ho
theorem of_list {ops : Array Oper} {i : Nat} {o : Oper} (ho : ops.toList[i]? = some o) : ops[i]? = some o := by rw [Array.getElem?_toList] at ho; exact ho
theorem Good.dst {E : Nat} {ops : Array Oper} (hg : Good ops n Z E) {i : Nat} {o : Oper} (ho : ops[i]? = some o) : dstOk n o.dst = true :=
  opsOk_ok hg.slots o (List.mem_of_getElem? (at_list ho))
theorem Good.el {E : Nat} {ops : Array Oper} (hg : Good ops n Z E) {i : Nat} {o : Oper} (ho : ops[i]? = some o) : ∀ x, o.dst = some x → bitB Z x = false :=
  opsE_ok hg.els o (List.mem_of_getElem? (at_list ho))

/-- What is known ahead of the machine. m: what the evaluator has taken; X: what of it the machine has not. -/
structure Ahd (P : Program) (G : List Nat) (call : CallF) (ops : Array Oper) (n Z E m : Nat) (F : List Nat) (L : List Stp) (X : List Nat) (ρ : Ren) (T : Fr) (h : AH) (a : Act) : Prop where
  xm : ∀ x ∈ X, bitB m x = true
  xn : X.Nodup
  xf : ∀ x ∈ X, bitB E x = false ∧ ∃ o, ops[x]? = some o ∧ quietOp o.op = true ∧ (freeOp o.op = true ∨ x ∈ F) ∧ again P call ops.toList o (rdA [] G T) h = .ok
  mc : Shut ops (fun j => bitB m j = true)
  lo : loopB ops.toList (ancs ops.toList) E L m F = true
  fx : FX G ρ n Z T (dX ops X) a
  gh : ∃ g, FR G ρ n Z T g
/-- What the machine has taken. -/
structure Lst (ops : Array Oper) (listed : Array Bool) (m : Nat) (X : List Nat) : Prop where
  size : listed.size = ops.size
  un : ∀ j, j < ops.size → (listed.getD j false = true ↔ bitB m j = true ∧ j ∉ X)
  cl : Shut ops (fun j => listed.getD j false = true)

section
variable {call : CallF} {ops : Array Oper} {E m : Nat} {F : List Nat} {L : List Stp} {X : List Nat}

/-- Slot d of an operation that comes later: nothing that was taken looks at it. -/
theorem Ahd.apart (hg : Good ops n Z E) (ha : Ahd P G call ops n Z E m F L X ρ T h a) {x i : Nat} {o o' : Oper} (hx : x ∈ X) (ho : ops[x]? = some o) (hi : ops[i]? = some o') (hm : bitB m i = false) (hs : bitB E i = false ∨ bitB ((ancs ops.toList).getD i 0) x = false) (v : AV) :
    Agree ops.toList o (putF T o'.dst v) T ∧ ∀ t, o.dst = some t → (putF T o'.dst v).at t = T.at t := by
  have k1 : ∀ t ∈ looksA ops.toList o, o'.dst ≠ some t := fun t ht hd => by
    rcases readsB_ok hg.reads (at_list ho) ht (at_list hi) hd with h1 | ⟨h1, h2⟩
    · have h2 := anc_in ha.mc x o ho (ha.mc x o ho (ha.xm x hx)) i h1
      rw [hm] at h2; cases h2
    · rcases hs with hs | hs
      · rw [h1] at hs; cases hs
      · rcases h2 with rfl | h2
        · rw [ha.xm x hx] at hm; cases hm
        · rw [h2] at hs; cases hs
  have k2 : ∀ t, o.dst = some t → o'.dst ≠ some t := fun t ht hd => by
    have := uniqB_ok hg.uniq (at_list ho) ht (at_list hi) hd
    subst this
    rw [ha.xm x hx] at hm; cases hm
  exact ⟨fun t ht => by rw [putF_at, if_neg (k1 t ht)], fun t ht => by rw [putF_at, if_neg (k2 t ht)]⟩

/-- The evaluator takes the reads that come next. -/
theorem settle (hg : Good ops n Z E) {K : Fr → AH → Out} (hw : WR N0 ρ h w) : ∀ (L : List Stp) (m : Nat) (F : List Nat) (X : List Nat) (T : Fr), Ahd P G call ops n Z E m F L X ρ T h a → evPlan L P call ops.toList G T h K = .ok →
    ∃ L' m' F' X' T', Ahd P G call ops n Z E m' F' L' X' ρ T' h a ∧ evPlan L' P call ops.toList G T' h K = .ok ∧ (L' = [] ∨ ∃ s r, L' = s :: r ∧ s.eff = true) ∧ X'.length + L'.length = X.length + L.length ∧
      ∀ j, (bitB m' j = true ∧ j ∉ X') ↔ (bitB m j = true ∧ j ∉ X) := by
  intro L
  induction L with
  | nil => intro m F X T ha hk; exact ⟨[], m, F, X, T, ha, hk, .inl rfl, rfl, fun j => Iff.rfl⟩
  | cons s r ih =>
    intro m F X T ha hk
    obtain ⟨o, ho, hm, hsub, hE, hs⟩ := stepB_ok (loopB_head ha.lo)
    rcases hs with ⟨he, _⟩ | ⟨he, hq⟩
    · exact ⟨s :: r, m, F, X, T, ha, hk, .inr ⟨s, r, rfl, he⟩, rfl, fun j => Iff.rfl⟩
    have hk : onO ops.toList[s.i]? (.bad 95 2) (fun o => evOper P call ops.toList o (rdA [] G T) T h fun T h => iff' (iff' s.eff false (quick o)) (evPlan r P call ops.toList G T h K) (andO (iff' s.eff (agains s.chk P call ops.toList (rdA [] G T) h) (again P call ops.toList o (rdA [] G T) h)) (evPlan r P call ops.toList G T h K))) = .ok := hk
    rw [ho, he] at hk
    have hk : evOper P call ops.toList o (rdA [] G T) T h (fun T h => iff' (quick o) (evPlan r P call ops.toList G T h K) (andO (again P call ops.toList o (rdA [] G T) h) (evPlan r P call ops.toList G T h K))) = .ok := hk
    have hoA := of_list ho
    have hself : ∀ t ∈ looksA ops.toList o, o.dst ≠ some t := fun t ht hd => by
      rcases readsB_ok hg.reads ho ht ho hd with h1 | ⟨h1, _⟩
      · have h2 := anc_in ha.mc s.i o hoA (fun e hee hbi => subB_ok hsub (dmask_ok hee hbi)) s.i h1
        rw [hm] at h2; cases h2
      · rw [hE, he] at h1; cases h1
    -- what the step leaves
    have key : ∃ v, again P call ops.toList o (rdA [] G (putF T o.dst v)) h = .ok ∧ evPlan r P call ops.toList G (putF T o.dst v) h K = .ok ∧ ∃ y, VR ρ v y := by
      obtain ⟨g, hgh⟩ := ha.gh
      have hr := rdA_ok hgh AL.nil
      cases hqk : quick o with
      | true =>
        rw [hqk] at hk
        obtain ⟨v, k1, k2, k3⟩ := quick_again hqk hk hself
        rcases k3 with k3 | k3
        · subst k3; exact ⟨_, k2, k1, _, .tup .nl⟩
        have k4 := k3 (fun y _ => iff' (sameA y v) .ok (.bad 0 0))
        rw [sameA_refl] at k4
        obtain ⟨_, y, g1, g2, _⟩ := ev_quiet hw hr hq k4
        obtain ⟨g3, _⟩ := iff_yes g1
        rw [sameA_ok g3] at g2
        exact ⟨v, k2, k1, y, g2⟩
      | false =>
        rw [hqk] at hk
        have hk : evOper P call ops.toList o (rdA [] G T) T h (fun T h => andO (again P call ops.toList o (rdA [] G T) h) (evPlan r P call ops.toList G T h K)) = .ok := hk
        suffices hs : ∃ v, andO (again P call ops.toList o (rdA [] G (putF T o.dst v)) h) (evPlan r P call ops.toList G (putF T o.dst v) h K) = Out.ok ∧ ∃ y, VR ρ v y by
          obtain ⟨v, k1, k2⟩ := hs
          exact ⟨v, (andO_ok' k1).1, (andO_ok' k1).2, k2⟩
        have hrun : runOper P call o (rdA [] G T) T h (fun T h => andO (again P call ops.toList o (rdA [] G T) h) (evPlan r P call ops.toList G T h K)) = .ok → ∃ v, andO (again P call ops.toList o (rdA [] G (putF T o.dst v)) h) (evPlan r P call ops.toList G (putF T o.dst v) h K) = .ok ∧ ∃ y, VR ρ v y := by
          intro hk
          obtain ⟨v, y, k1, k2, _⟩ := ev_quiet (K := fun v h => andO (again P call ops.toList o (rdA [] G (putF T o.dst v)) h) (evPlan r P call ops.toList G (putF T o.dst v) h K)) hw hr hq hk
          exact ⟨v, k1, y, k2⟩
        unfold evOper at hk
        cases hgd : o.guard with
        | none => rw [hgd] at hk; exact hrun hk
        | some gd =>
          rw [hgd] at hk
          rcases guard_ok (ops := ops) hgd hr hk with ⟨_, hk⟩ | ⟨_, hk⟩
          · exact hrun hk
          · exact ⟨_, hk, _, .tup .nl⟩
    obtain ⟨v, hag, hk, y, hy⟩ := key
    have hsx : s.i ∉ X := fun hx => by rw [ha.xm _ hx] at hm; cases hm
    have hlo := loopB_cons ha.lo ho
    rw [he] at hlo
    have ha' : Ahd P G call ops n Z E (Nat.lor m (Nat.shiftLeft 1 s.i)) (iff' (iff' false true (freeOp o.op)) F (s.i :: F)) r (s.i :: X) ρ (putF T o.dst v) h a := by
      refine ⟨?_, List.nodup_cons.2 ⟨hsx, ha.xn⟩, ?_, ?_, hlo, ?_, ?_⟩
      · intro x hx
        rcases List.mem_cons.1 hx with rfl | hx
        · exact (bit_add' _ _ _).2 (.inl rfl)
        · exact (bit_add' _ _ _).2 (.inr (ha.xm x hx))
      · intro x hx
        rcases List.mem_cons.1 hx with rfl | hx
        · refine ⟨by rw [hE]; exact he, o, hoA, hq, ?_, hag⟩
          cases hf : freeOp o.op with
          | true => exact .inl rfl
          | false => exact .inr List.mem_cons_self
        · obtain ⟨h0, ox, h1, h2, h3, h4⟩ := ha.xf x hx
          obtain ⟨g1, g2⟩ := ha.apart hg hx h1 hoA hm (.inl (by rw [hE]; exact he)) v
          refine ⟨h0, ox, h1, h2, ?_, by rw [again_congr g1 g2]; exact h4⟩
          rcases h3 with h3 | h3
          · exact .inl h3
          · cases freeOp o.op with
            | true => exact .inr h3
            | false => exact .inr (List.mem_cons_of_mem _ h3)
      · intro j oj hj hb e hee hbi
        rcases (bit_add' _ _ _).1 hb with rfl | hb
        · rw [hoA] at hj
          obtain rfl := Option.some.inj hj
          exact (bit_add' _ _ _).2 (.inr (subB_ok hsub (dmask_ok hee hbi)))
        · exact (bit_add' _ _ _).2 (.inr (ha.mc j oj hj hb e hee hbi))
      · have hd := dstOk_ok (hg.dst hoA)
        have hz := hg.el hoA
        cases hdo : o.dst with
        | none =>
          have : dX ops (s.i :: X) = dX ops X := by simp [dX, hoA, hdo]
          rw [this]; exact ha.fx
        | some d =>
          have : dX ops (s.i :: X) = d :: dX ops X := by simp [dX, hoA, hdo]
          rw [this]
          exact ha.fx.ahead (hd d hdo) (hz d hdo) v
      · obtain ⟨g, hgh⟩ := ha.gh
        exact ⟨g.put o.dst y, hgh.put (hg.dst hoA) (hg.el hoA) ρ.le_refl hy⟩
    obtain ⟨L', m', F', X', T', k1, k2, k3, k4, k5⟩ := ih _ _ _ _ ha' hk
    refine ⟨L', m', F', X', T', k1, k2, k3, by rw [k4]; simp; omega, fun j => (k5 j).trans ?_⟩
    rw [bit_add', List.mem_cons, not_or]
    constructor
    · rintro ⟨rfl | h1, h2, h3⟩
      · exact absurd rfl h2
      · exact ⟨h1, h3⟩
    · rintro ⟨h1, h2⟩
      exact ⟨.inr h1, (fun e => by rw [e, hm] at h1; cases h1), h2⟩
end
end
end Go.Proofs.YtlblaopkmigheaaGreatDoor.Ev
namespace Go.Proofs.YtlblaopkmigheaaGreatDoor.Ev
open Go Go.RowKit

noncomputable section
variable {P : Program} {N0 : Nat} {ρ ρ' : Ren} {h h' : AH} {w w' : World} {T T' : Fr} {a : Act} {n Z : Nat} {G : List Nat}

theorem getD_on {listed : Array Bool} {i : Nat} (h : i < listed.size) (d : Bool) : (listed.setIfInBounds i true).getD i d = true := by simp [h]
theorem getD_off {listed : Array Bool} {i k : Nat} (d : Bool) (h : i ≠ k) : (listed.setIfInBounds i true).getD k d = listed.getD k d := by simp [Array.getElem?_setIfInBounds_ne h]
theorem getD_in {listed : Array Bool} {i : Nat} (h : i < listed.size) (d d' : Bool) : listed.getD i d = listed.getD i d' := by simp [h]

section
variable {call : CallF} {ops : Array Oper} {E m : Nat} {F : List Nat} {L : List Stp} {X : List Nat} {listed : Array Bool}

theorem Lst.lt {x : Nat} {o : Oper} (ho : ops[x]? = some o) : x < ops.size := (Array.getElem?_eq_some_iff.1 ho).1
theorem Lst.shut (hl : Lst ops listed m X) {i : Nat} (hi : i ∈ Region.ready .any ops listed) : Shut ops (fun j => (listed.setIfInBounds i true).getD j false = true) := by
  obtain ⟨_, oi, hoi, hall⟩ := mem_ready.1 hi
  have mono : ∀ k, listed.getD k false = true → (listed.setIfInBounds i true).getD k false = true := fun k hk => by
    by_cases hik : i = k
    · subst hik; exact getD_on (by rw [hl.size]; exact Lst.lt hoi) _
    · rw [getD_off _ hik]; exact hk
  intro j oj hj hb e he hbi
  by_cases hij : i = j
  · subst hij
    rw [hoi] at hj
    obtain rfl := Option.some.inj hj
    exact mono _ (hall e he hbi)
  · have hb : (listed.setIfInBounds i true).getD j false = true := hb
    rw [getD_off _ hij] at hb
    exact mono _ (hl.cl j oj hj hb e he hbi)
/-- What may come up has had all come up that it waits for. -/
theorem Lst.anc (hl : Lst ops listed m X) {i : Nat} (hi : i ∈ Region.ready .any ops listed) {j : Nat} (hj : bitB ((ancs ops.toList).getD i 0) j = true) : listed.getD j false = true := by
  obtain ⟨_, oi, hoi, hall⟩ := mem_ready.1 hi
  exact anc_in (C := fun j => listed.getD j false = true) hl.cl i oi hoi hall j hj
/-- .. it looks at no slot that is still to be filled. -/
theorem Lst.looks (hg : Good ops n Z E) (hl : Lst ops listed m X) (ha : Ahd P G call ops n Z E m F L X ρ T h a) {i : Nat} {o : Oper} (ho : ops[i]? = some o) (hi : i ∈ Region.ready .any ops listed) : Agree ops.toList o (mask T (dX ops X)) T := by
  refine fun t ht => mask_out _ _ fun hm => ?_
  obtain ⟨y, hy, oy, hoy, hd⟩ := mem_dX.1 hm
  rcases readsB_ok hg.reads (at_list ho) ht (at_list hoy) hd with h1 | ⟨h1, _⟩
  · exact ((hl.un y (Lst.lt hoy)).1 (hl.anc hi h1)).2 hy
  · rw [(ha.xf y hy).1] at h1; cases h1
theorem Lst.all (hg : Good ops n Z E) (hl : Lst ops listed m X) (hr : Region.ready .any ops listed = []) : ∀ j, j < ops.size → listed.getD j false = true := by
  intro j
  induction j using Nat.strongRecOn with
  | _ j ih =>
    intro hj
    cases hb : listed.getD j false with
    | true => rfl
    | false =>
      exfalso
      obtain ⟨o, ho⟩ : ∃ o, ops[j]? = some o := ⟨_, Array.getElem?_eq_getElem hj⟩
      have : j ∈ Region.ready .any ops listed := mem_ready.2 ⟨by rw [getD_in (d' := false) (by rw [hl.size]; exact hj)]; exact hb, o, ho, fun e he hbi => by
        have h1 := backB_ok hg.back (at_list ho) he hbi
        exact ih e.on h1 (by omega)⟩
      rw [hr] at this
      cases this

/-- The machine comes to a read that was taken. -/
theorem Ahd.comes (hg : Good ops n Z E) (ha : Ahd P G call ops n Z E m F L X ρ T h a) {x : Nat} {o : Oper} (ho : ops[x]? = some o) (hx : x ∈ X) {v : AV} {y : Value} (hv : ∀ d, o.dst = some d → T.at d = v) (hy : VR ρ v y) :
    Ahd P G call ops n Z E m F L (X.erase x) ρ T h (a.put o.dst y) := by
  refine ⟨fun z hz => ha.xm z (List.mem_of_mem_erase hz), ha.xn.erase x, fun z hz => ha.xf z (List.mem_of_mem_erase hz), ha.mc, ha.lo, ?_, ha.gh⟩
  have hsub : ∀ t, t ∈ dX ops (X.erase x) → t ∈ dX ops X := fun t ht => by
    obtain ⟨z, hz, oz, hoz, hd⟩ := mem_dX.1 ht
    exact mem_dX.2 ⟨z, List.mem_of_mem_erase hz, oz, hoz, hd⟩
  have hsup : ∀ t, t ∈ dX ops X → o.dst ≠ some t → t ∈ dX ops (X.erase x) := fun t ht hne => by
    obtain ⟨z, hz, oz, hoz, hd⟩ := mem_dX.1 ht
    refine mem_dX.2 ⟨z, (ha.xn.mem_erase_iff).2 ⟨fun e => ?_, hz⟩, oz, hoz, hd⟩
    subst e
    rw [ho] at hoz
    obtain rfl := Option.some.inj hoz
    exact hne hd
  have hdo := dstOk_ok (hg.dst ho)
  cases hd : o.dst with
  | none => exact ha.fx.same fun t => ⟨fun ht => hsup t ht (by rw [hd]; exact fun e => by cases e), hsub t⟩
  | some d => exact ha.fx.comes (by rw [hv d hd]; exact hy) (hdo d hd) hsub (fun t ht hne => hsup t ht (by rw [hd]; exact fun e => hne (Option.some.inj e).symm))
theorem Lst.comes (hl : Lst ops listed m X) {x : Nat} (hm : ∀ x ∈ X, bitB m x = true) (hn : X.Nodup) (hx : x ∈ X) (hi : x ∈ Region.ready .any ops listed) : Lst ops (listed.setIfInBounds x true) m (X.erase x) := by
  refine ⟨by simp [hl.size], fun j hj => ?_, hl.shut hi⟩
  by_cases hxj : x = j
  · subst hxj
    rw [getD_on (by rw [hl.size]; exact hj)]
    exact ⟨fun _ => ⟨hm x hx, fun h => (hn.mem_erase_iff.1 h).1 rfl⟩, fun _ => rfl⟩
  · rw [getD_off _ hxj, hl.un j hj, hn.mem_erase_iff]
    constructor
    · rintro ⟨h1, h2⟩; exact ⟨h1, fun h => h2 h.2⟩
    · rintro ⟨h1, h2⟩; exact ⟨h1, fun h => h2 ⟨Ne.symm hxj, h⟩⟩

/-- Both take an effect. -/
theorem Ahd.eff (hg : Good ops n Z E) (hl : Lst ops listed m X) {s : Stp} {r : List Stp} (ha : Ahd P G call ops n Z E m F (s :: r) X ρ T h a) (he : s.eff = true) {o : Oper} (ho : ops[s.i]? = some o) (hi : s.i ∈ Region.ready .any ops listed)
    {v : AV} {y : Value} (hle : ρ.le ρ') (hy : VR ρ' v y) (hch : agains s.chk P call ops.toList (rdA [] G (putF T o.dst v)) h' = .ok) :
    Ahd P G call ops n Z E (Nat.lor m (Nat.shiftLeft 1 s.i)) F r X ρ' (putF T o.dst v) h' (a.put o.dst y) := by
  obtain ⟨o', ho', hm, hsub, hE, hs⟩ := stepB_ok (loopB_head ha.lo)
  rw [at_list ho] at ho'
  obtain rfl := Option.some.inj ho'
  have hlo := loopB_cons ha.lo (at_list ho)
  rw [he] at hlo
  refine ⟨fun x hx => (bit_add' _ _ _).2 (.inr (ha.xm x hx)), ha.xn, ?_, ?_, hlo, ?_, ?_⟩
  · intro x hx
    obtain ⟨h0, ox, h1, h2, h3, h4⟩ := ha.xf x hx
    refine ⟨h0, ox, h1, h2, h3, ?_⟩
    have hnot : bitB ((ancs ops.toList).getD s.i 0) x = false := by
      cases hb : bitB ((ancs ops.toList).getD s.i 0) x with
      | false => rfl
      | true => exact absurd hx ((hl.un x (Lst.lt h1)).1 (hl.anc hi hb)).2
    cases hf : freeOp ox.op with
    | true =>
      obtain ⟨g1, g2⟩ := ha.apart hg hx h1 ho hm (.inr hnot) v
      rw [again_free (h' := h) hf, again_congr g1 g2]; exact h4
    | false =>
      rcases h3 with h3 | h3
      · rw [hf] at h3; cases h3
      rcases hs with ⟨_, _, h5⟩ | ⟨h5, _⟩
      · rcases h5 x h3 with h5 | h5
        · rw [hnot] at h5; cases h5
        · obtain ⟨ox', k1, k2⟩ := agains_ok hch x h5
          rw [at_list h1] at k1
          obtain rfl := Option.some.inj k1
          exact k2
      · rw [he] at h5; cases h5
  · intro j oj hj hb e hee hbi
    rcases (bit_add' _ _ _).1 hb with rfl | hb
    · rw [ho] at hj
      obtain rfl := Option.some.inj hj
      exact (bit_add' _ _ _).2 (.inr (subB_ok hsub (dmask_ok hee hbi)))
    · exact (bit_add' _ _ _).2 (.inr (ha.mc j oj hj hb e hee hbi))
  · have hdo := dstOk_ok (hg.dst ho)
    cases hd : o.dst with
    | none => exact ha.fx.mono hle
    | some d => exact (ha.fx.mono hle).both hy (hdo d hd) (hg.el ho d hd) (fun _ ht => ht) (fun _ ht _ => ht)
  · obtain ⟨g, hgh⟩ := ha.gh
    exact ⟨g.put o.dst y, hgh.put (hg.dst ho) (hg.el ho) hle hy⟩
theorem Lst.eff (hl : Lst ops listed m X) {i : Nat} (hx : i ∉ X) (hi : i ∈ Region.ready .any ops listed) : Lst ops (listed.setIfInBounds i true) (Nat.lor m (Nat.shiftLeft 1 i)) X := by
  refine ⟨by simp [hl.size], fun j hj => ?_, hl.shut hi⟩
  rw [bit_add']
  by_cases hij : i = j
  · subst hij
    rw [getD_on (by rw [hl.size]; exact hj)]
    exact ⟨fun _ => ⟨.inl rfl, hx⟩, fun _ => rfl⟩
  · rw [getD_off _ hij, hl.un j hj]
    constructor
    · rintro ⟨h1, h2⟩; exact ⟨.inr h1, h2⟩
    · rintro ⟨h1 | h1, h2⟩
      · exact absurd h1.symm hij
      · exact ⟨h1, h2⟩

theorem any_go (hg : Good ops n Z E) (hc : CallOK P N0 G call) {K : Fr → AH → Out} {Q : Exit → Act → World → Prop} : ∀ (fuel : Nat) {L : List Stp} {m : Nat} {F X : List Nat} {listed : Array Bool} {T : Fr} {h : AH} {ρ : Ren} {a : Act} {w : World},
    Ahd P G call ops n Z E m F L X ρ T h a → Lst ops listed m X → WR N0 ρ h w → evPlan L P call ops.toList G T h K = .ok → X.length + L.length ≤ fuel →
    (∀ T' h' a' w' ρ', K T' h' = .ok → Ext N0 ρ h w ρ' h' w' → FR G ρ' n Z T' a' → Q .normal a' w') → wpAny P .any ops Q fuel listed a w := by
  intro fuel
  induction fuel with
  | zero =>
    intro L m F X listed T h ρ a w ha hl hw hk hf hK
    have hX : X = [] := by cases X <;> first | rfl | (simp at hf)
    have hL : L = [] := by cases L <;> first | rfl | (simp at hf)
    subst hX hL
    refine ⟨?_, hK _ _ _ _ _ hk (Ext.refl hw) ha.fx.nil⟩
    cases hr : Region.ready .any ops listed with
    | nil => rfl
    | cons j js =>
      exfalso
      obtain ⟨h1, o, ho, _⟩ := mem_ready.1 (by rw [hr]; exact List.mem_cons_self : j ∈ Region.ready .any ops listed)
      have hj := Lst.lt ho
      rw [getD_in (d' := false) (by rw [hl.size]; exact hj)] at h1
      rcases loopB_cover ha.lo j (by simpa using hj) with h2 | ⟨s, hs, _⟩
      · rw [(hl.un j hj).2 ⟨h2, by simp⟩] at h1; cases h1
      · cases hs
  | succ fuel ih =>
    intro L m F X listed T h ρ a w ha hl hw hk hf hK
    obtain ⟨L', m', F', X', T', ha', hk', hL, hlen, hun⟩ := settle hg hw L m F X T ha hk
    have hl' : Lst ops listed m' X' := ⟨hl.size, fun j hj => (hl.un j hj).trans (hun j).symm, hl.cl⟩
    have hf' : X'.length + L'.length ≤ fuel + 1 := by omega
    clear ha hk hl hlen hun hf
    refine ⟨fun hr => ?_, fun i hi => ?_⟩
    · have hall := hl'.all hg hr
      have hX : X' = [] := by
        cases X' with
        | nil => rfl
        | cons x xs =>
          obtain ⟨_, o, ho, _⟩ := ha'.xf x List.mem_cons_self
          exact absurd List.mem_cons_self ((hl'.un x (Lst.lt ho)).1 (hall x (Lst.lt ho))).2
      have hL' : L' = [] := by
        cases L' with
        | nil => rfl
        | cons s r =>
          obtain ⟨o, ho, hm, _⟩ := stepB_ok (loopB_head ha'.lo)
          have := ((hl'.un s.i (Lst.lt (of_list ho))).1 (hall _ (Lst.lt (of_list ho)))).1
          rw [hm] at this; cases this
      subst hX hL'
      exact hK _ _ _ _ _ hk' (Ext.refl hw) ha'.fx.nil
    · obtain ⟨hun, o, ho, _⟩ := mem_ready.1 hi
      have hi' := Lst.lt ho
      rw [getD_in (d' := false) (by rw [hl'.size]; exact hi')] at hun
      have hag := hl'.looks hg ha' ho hi
      have hfr := ha'.fx.fr
      have hrd := rdA_ok hfr AL.nil
      by_cases hx : i ∈ X'
      · -- a read that was taken
        obtain ⟨_, o', ho', hq, _, hag2⟩ := ha'.xf i hx
        rw [ho] at ho'
        obtain rfl := Option.some.inj ho'
        have hlen : (X'.erase i).length + L'.length ≤ fuel := by
          rw [List.length_erase_of_mem hx]
          have := List.length_pos_of_mem hx
          omega
        have step : ∀ v y, (∀ d, o.dst = some d → T'.at d = v) → VR ρ v y → wpAny P .any ops Q fuel (listed.setIfInBounds i true) (a.put o.dst y) w := fun v y hv hy =>
          ih (ha'.comes hg ho hx hv hy) (hl'.comes ha'.xm ha'.xn hx hi) hw hk' hlen hK
        have hrun : again1 P call o (rdA [] G T') h = .ok → o.wp P a w (wpAny P .any ops Q fuel (listed.setIfInBounds i true)) Q := by
          intro h1
          have h1 : evOp o.op P call (rdA [] G T') h (fun v _ => sameDst (rdA [] G T') o.dst v) = .ok := h1
          rw [← hag.op] at h1
          obtain ⟨v, y, k1, k2, k3⟩ := ev_quiet hw hrd hq h1
          unfold Oper.wp
          rw [k3]
          exact step v y (sameDst_ok k1) k2
        show wpOp P ops Q i _ a w
        unfold wpOp
        rw [ho]
        dsimp only
        unfold again at hag2
        cases hgd : o.guard with
        | none =>
          rw [hgd] at hag2
          rw [if_pos (wanted_none hgd)]
          exact .inl (hrun hag2)
        | some gd =>
          rw [hgd] at hag2
          have hag2 : guardK ops.toList gd (rdA [] G T') (again1 P call o (rdA [] G T') h) (sameDst (rdA [] G T') o.dst (.tup .nl)) = .ok := hag2
          rw [← hag.guard hgd] at hag2
          rcases guard_ok hgd hrd hag2 with ⟨h1, h2⟩ | ⟨h1, h2⟩
          · rw [if_pos h1]; exact .inl (hrun h2)
          · rw [if_neg (by rw [h1]; exact Bool.false_ne_true)]
            exact step _ _ (sameDst_ok h2) (.tup .nl)
      · -- the effect that comes next
        have hbit : bitB m' i = false := by
          cases hb : bitB m' i with
          | false => rfl
          | true => rw [(hl'.un i hi').2 ⟨hb, hx⟩] at hun; cases hun
        rcases hL with rfl | ⟨s, r, rfl, he⟩
        · rcases loopB_cover ha'.lo i (by simpa using hi') with h2 | ⟨s, hs, _⟩
          · rw [hbit] at h2; cases h2
          · cases hs
        obtain ⟨os, hos, hm, hsub, _, hs⟩ := stepB_ok (loopB_head ha'.lo)
        have hsi : s.i = i := by
          rcases loopB_cover ha'.lo i (by simpa using hi') with h2 | ⟨s', hs', hsi'⟩
          · rw [hbit] at h2; cases h2
          · rcases List.mem_cons.1 hs' with rfl | hs'
            · exact hsi'
            · exfalso
              rcases hs with ⟨_, h3, _⟩ | ⟨h3, _⟩
              · have h4 := h3 s' hs'
                rw [hsi'] at h4
                have h5 := hl'.anc hi h4
                have := ((hl'.un s.i (Lst.lt (of_list hos))).1 h5).1
                rw [hm] at this; cases this
              · rw [he] at h3; cases h3
        subst hsi
        rw [at_list ho] at hos
        obtain rfl := Option.some.inj hos
        have hk' : onO ops.toList[s.i]? (.bad 95 2) (fun o => evOper P call ops.toList o (rdA [] G T') T' h fun T h => iff' (iff' s.eff false (quick o)) (evPlan r P call ops.toList G T h K) (andO (iff' s.eff (agains s.chk P call ops.toList (rdA [] G T) h) (again P call ops.toList o (rdA [] G T) h)) (evPlan r P call ops.toList G T h K))) = .ok := hk'
        rw [at_list ho, he] at hk'
        have hk' : evOper P call ops.toList o (rdA [] G T') T' h (fun T h => andO (agains s.chk P call ops.toList (rdA [] G T) h) (evPlan r P call ops.toList G T h K)) = .ok := hk'
        have step : ∀ v y h' w' ρ', andO (agains s.chk P call ops.toList (rdA [] G (putF T' o.dst v)) h') (evPlan r P call ops.toList G (putF T' o.dst v) h' K) = .ok → Ext N0 ρ h w ρ' h' w' → VR ρ' v y →
            wpAny P .any ops Q fuel (listed.setIfInBounds s.i true) (a.put o.dst y) w' := fun v y h' w' ρ' hk hext hy => by
          obtain ⟨k1, k2⟩ := andO_ok' hk
          exact ih (ha'.eff hg hl' he ho hi hext.le hy k1) (hl'.eff hx hi) hext.wr k2 (by simp at hf'; omega) (fun T'' h'' a'' w'' ρ'' q1 q2 q3 => hK _ _ _ _ _ q1 (hext.trans q2) q3)
        have hrun : runOper P call o (rdA [] G T') T' h (fun T h => andO (agains s.chk P call ops.toList (rdA [] G T) h) (evPlan r P call ops.toList G T h K)) = .ok → o.wp P a w (wpAny P .any ops Q fuel (listed.setIfInBounds s.i true)) Q := by
          intro h1
          have h1 : evOp o.op P call (rdA [] G T') h (fun v h => andO (agains s.chk P call ops.toList (rdA [] G (putF T' o.dst v)) h) (evPlan r P call ops.toList G (putF T' o.dst v) h K)) = .ok := h1
          rw [← hag.op] at h1
          refine evOp_ok hc hw hfr.g hrd h1 ?_
          intro v y h' w' ρ' g1 g2 g3
          exact step v y h' w' ρ' g1 g2 g3
        have hskip : andO (agains s.chk P call ops.toList (rdA [] G (putF T' o.dst (.tup .nl))) h) (evPlan r P call ops.toList G (putF T' o.dst (.tup .nl)) h K) = .ok → wpAny P .any ops Q fuel (listed.setIfInBounds s.i true) (a.put o.dst undef) w :=
          fun h1 => step _ _ _ _ _ h1 (Ext.refl hw) (.tup .nl)
        show wpOp P ops Q s.i _ a w
        unfold wpOp
        rw [ho]
        dsimp only
        unfold evOper at hk'
        cases hgd : o.guard with
        | none =>
          rw [hgd] at hk'
          rw [if_pos (wanted_none hgd)]
          exact .inl (hrun hk')
        | some gd =>
          rw [hgd] at hk'
          have hk' : guardK ops.toList gd (rdA [] G T') (runOper P call o (rdA [] G T') T' h fun T h => andO (agains s.chk P call ops.toList (rdA [] G T) h) (evPlan r P call ops.toList G T h K)) (andO (agains s.chk P call ops.toList (rdA [] G (putF T' o.dst (.tup .nl))) h) (evPlan r P call ops.toList G (putF T' o.dst (.tup .nl)) h K)) = .ok := hk'
          rw [← hag.guard hgd] at hk'
          rcases guard_ok hgd hrd hk' with ⟨h1, h2⟩ | ⟨h1, h2⟩
          · rw [if_pos h1]; exact .inl (hrun h2)
          · rw [if_neg (by rw [h1]; exact Bool.false_ne_true)]
            exact hskip h2
end
end
end Go.Proofs.YtlblaopkmigheaaGreatDoor.Ev
namespace Go.Proofs.YtlblaopkmigheaaGreatDoor.Ev
open Go Go.RowKit

noncomputable section
variable {P : Program} {N0 : Nat} {ρ ρ' : Ren} {h h' : AH} {w w' : World} {T T' : Fr} {a : Act} {n Z : Nat} {G : List Nat}

theorem Ext.drew (hw : WR N0 ρ h w) : Ext N0 ρ h w ρ h { w with drawn := w.drawn + 1 } :=
  ⟨ρ.le_refl, hw.drew, (Below.refl N0 w).drew, Nat.le_refl _, fun _ _ hq hb => ⟨hb, hq⟩⟩

theorem evAny_ok (hm : P.follows .mixedOrders = true) {call : CallF} (hc : CallOK P N0 G call) {ops : Array Oper} (hs : opsOk ops.toList n = true) (hz : opsE ops.toList Z true = true) {id : Nat} {K : Fr → AH → Out} {Q : Exit → Act → World → Prop}
    (hk : evAny ops.toList P call G T h K = .ok) (hw : WR N0 ρ h w) (hf : FR G ρ n Z T a)
    (hK : ∀ T' h' a' w' ρ', K T' h' = .ok → Ext N0 ρ h w ρ' h' w' → FR G ρ' n Z T' a' → Q .normal a' w') : (Code.region id ops true).wp P Q a w := by
  obtain ⟨hp, hk⟩ := iff_yes (show iff' (planB ops.toList) (evPlan (mkPlan ops.toList) P call ops.toList G T h K) (.bad 89 0) = .ok from hk)
  obtain ⟨h1, hp⟩ := iff2 (show iff' (loopB ops.toList (ancs ops.toList) (effMask ops.toList (ancs ops.toList)) (mkPlan ops.toList) 0 []) _ false = true from hp)
  obtain ⟨h2, hp⟩ := iff2 hp
  obtain ⟨h3, h4⟩ := iff2 hp
  refine wp_region_any hm ?_
  -- as many steps as operations, at the most
  have hlen : (mkPlan ops.toList).length ≤ ops.size := by
    have key : ∀ (f m : Nat) (F : List Nat) (A : List Nat) (E : Nat) (l : List (Nat × Oper)) (l' : List Oper), (planGo A E l l' f m F).length ≤ f := by
      intro f
      induction f with
      | zero => intro m F A E l l'; simp [planGo]
      | succ f ih =>
        intro m F A E l l'
        unfold planGo
        split
        · rw [List.length_cons, forceN_eq]; have := ih (Nat.lor m (Nat.shiftLeft (nat_lit 1) (Stp.i ‹Stp›))) (match l'[Stp.i ‹Stp›]? with | some o => iff' (freeOp o.op) F (Stp.i ‹Stp› :: F) | none => F) A E l l'; exact Nat.succ_le_succ this
        · split
          · rw [List.length_cons, forceN_eq]; exact Nat.succ_le_succ (ih _ _ _ _ _ _)
          · simp
    have := key ops.toList.length 0 [] (ancs ops.toList) (effMask ops.toList (ancs ops.toList)) ((List.range ops.toList.length).zip ops.toList) ops.toList
    simpa [mkPlan] using this
  refine any_go (n := n) ⟨h2, h3, h4, hs, hz⟩ hc ops.size (L := mkPlan ops.toList) (m := 0) (F := []) (X := []) (T := T) (h := h) (ρ := ρ) (K := K) ?_ ?_ hw.drew hk (by simpa using hlen) ?_
  · refine ⟨(fun x hx => nomatch hx), List.nodup_nil, (fun x hx => nomatch hx), fun j oj _ hb => ?_, h1, FX.of hf, a, hf⟩
    have hb : bitB 0 j = true := hb
    rw [bit_zero] at hb; cases hb
  · refine ⟨by simp, fun j hj => ?_, fun j oj hj hb => ?_⟩
    · rw [bit_zero]; simp [hj]
    · exfalso
      have hb : (Array.replicate ops.size false).getD j false = true := hb
      have hj' := (Array.getElem?_eq_some_iff.1 hj).1
      simp [hj'] at hb
  · intro T' h' a' w' ρ' k1 k2 k3
    exact hK _ _ _ _ _ k1 ((Ext.drew hw).trans k2) k3
end
end Go.Proofs.YtlblaopkmigheaaGreatDoor.Ev
namespace Go.Proofs.YtlblaopkmigheaaGreatDoor.Ev
open Go Go.RowKit

section
variable {P : Program} {N0 : Nat} {ρ ρ' : Ren} {h h' : AH} {w w' : World} {T : Fr} {a : Act} {n E : Nat} {G : List Nat}

def EX.out : EX → Exit
  | .nrm => .normal
  | .ex id => .exit id
  | .ret => .ret
/-- What the rest of the run answers for. -/
def KS (N0 : Nat) (G : List Nat) (n E : Nat) (ρ : Ren) (h : AH) (w : World) (K : KF) (Q : Exit → Act → World → Prop) : Prop :=
  ∀ e T' h' a' w' ρ', K e T' h' = .ok → Ext N0 ρ h w ρ' h' w' → FR G ρ' n E T' a' → Q e.out a' w'
theorem KS.ext {K : KF} {Q : Exit → Act → World → Prop} (hK : KS N0 G n E ρ h w K Q) (he : Ext N0 ρ h w ρ' h' w') : KS N0 G n E ρ' h' w' K Q :=
  fun e T'' h'' a'' w'' ρ'' h1 h2 h3 => hK e T'' h'' a'' w'' ρ'' h1 (he.trans h2) h3
/-- Code is run as the evaluator runs it. -/
def CodeOK (P : Program) (N0 : Nat) (G : List Nat) (E : Nat) (c : Code) (ev : Fr → AH → KF → Out) : Prop :=
  ∀ (n : Nat) (T : Fr) (h : AH) (K : KF) (ρ : Ren) (a : Act) (w : World) (Q : Exit → Act → World → Prop), codeOk c n E = true → ev T h K = .ok → WR N0 ρ h w → FR G ρ n E T a → KS N0 G n E ρ h w K Q → c.wp P Q a w
theorem evCode_ok (hm : P.follows .mixedOrders = true) {ev : EvF} {Tb : TbF} (hc : CallOK P N0 G (Tb (evCall P ev)))
    (hl : ∀ b, CodeOK P N0 G E b (evCode b P G Tb E ev) → CodeOK P N0 G E (.loop b) (evCode (.loop b) P G Tb E ev)) : ∀ c : Code, CodeOK P N0 G E c (evCode c P G Tb E ev) := by
  intro c
  induction c with
  | skip => intro n T h K ρ a w Q _ hk hw hf hK; exact wp_skip (hK .nrm _ _ _ _ _ hk (Ext.refl hw) hf)
  | region id ops draw =>
    intro n T h K ρ a w Q hok hk hw hf hK
    obtain ⟨ho1, ho2⟩ := two_ok hok
    cases draw with
    | true =>
      exact evAny_ok hm hc ho1 ho2 (show evAny ops.toList P (Tb (evCall P ev)) G T h (fun T h => K .nrm T h) = .ok from hk) hw hf (fun T' h' a' w' ρ' h1 h2 h3 => hK .nrm _ _ _ _ _ h1 h2 h3)
    | false =>
      refine wp_region ?_
      have := evOps_ok (n := n) (E := E) hc (ops := ops) (Q := Q) ops.toList 0 [] rfl ho1 ho2 (show evOps (cgo E ops.toList []) P (Tb (evCall P ev)) ops.toList G T h (fun T h => K .nrm T h) = .ok from hk) hw hf AL.nil (fun T' h' a' w' ρ' h1 h2 h3 => hK .nrm _ _ _ _ _ h1 h2 h3)
      rw [List.range_eq_range']
      exact this
  | seq x y ihx ihy =>
    intro n T h K ρ a w Q hok hk hw hf hK
    obtain ⟨o1, o2⟩ := two_ok hok
    refine wp_seq ?_
    refine ihx n T h (thenK (evCode y P G Tb E ev) K) ρ a w _ o1 hk hw hf ?_
    intro e T' h' a' w' ρ' h1 h2 h3
    cases e with
    | nrm => exact ihy n T' h' K ρ' a' w' Q o2 h1 h2.wr h3 (hK.ext h2)
    | ex id => exact hK (.ex id) _ _ _ _ _ h1 h2 h3
    | ret => exact hK .ret _ _ _ _ _ h1 h2 h3
  | cond x t e iht ihe =>
    intro n T h K ρ a w Q hok hk hw hf hK
    obtain ⟨o1, o2⟩ := two_ok hok
    obtain ⟨v, hv, hk⟩ := evX_ok (rdA_ok hf AL.nil) (show rdA [] G T x (fun v => v.on_b (.bad 81 0) fun b => iff' b (evCode t P G Tb E ev T h K) (evCode e P G Tb E ev T h K)) = .ok from hk)
    obtain ⟨b, rfl, hk⟩ := AV.b_ok hk
    generalize hx : a.eval x = y at hv
    cases hv
    cases b with
    | true => exact wp_cond_true hx (iht n T h K ρ a w Q o1 hk hw hf hK)
    | false => exact wp_cond_false hx (ihe n T h K ρ a w Q o2 hk hw hf hK)
  | block id b ih =>
    intro n T h K ρ a w Q hok hk hw hf hK
    refine wp_block ?_
    refine ih n T h (blockK id K) ρ a w _ hok hk hw hf ?_
    intro e T' h' a' w' ρ' h1 h2 h3
    cases e with
    | nrm => exact hK .nrm _ _ _ _ _ h1 h2 h3
    | ret => exact hK .ret _ _ _ _ _ h1 h2 h3
    | ex id' =>
      show (if id' = id then Q .normal a' w' else Q (.exit id') a' w')
      rcases iff_ok (show iff' (Nat.beq id' id) (K .nrm T' h') (K (.ex id') T' h') = .ok from h1) with ⟨e, h1⟩ | ⟨e, h1⟩
      · rw [if_pos (Nat.eq_of_beq_eq_true e)]; exact hK .nrm _ _ _ _ _ h1 h2 h3
      · rw [if_neg (fun e' => by rw [e', Nat.beq_refl] at e; cases e)]; exact hK (.ex id') _ _ _ _ _ h1 h2 h3
  | loop b ih => exact hl b ih
  | rangeFunc f ps asg b _ _ => intro n T h K ρ a w Q hok; cases hok
  | exit id => intro n T h K ρ a w Q _ hk hw hf hK; exact wp_exit (hK (.ex id) _ _ _ _ _ hk (Ext.refl hw) hf)
  | scope b ih =>
    intro n T h K ρ a w Q hok hk hw hf hK
    refine wp_scope_straight ?_
    refine ih n T h K ρ a w _ hok hk hw hf ?_
    intro e T' h' a' w' ρ' h1 h2 h3
    have := hK e _ _ _ _ _ h1 h2 h3
    cases e <;> exact this
  | label l => intro n T h K ρ a w Q _ hk hw hf hK; exact wp_label (hK .nrm _ _ _ _ _ hk (Ext.refl hw) hf)
  | goto l => intro n T h K ρ a w Q hok; cases hok
  | ret => intro n T h K ρ a w Q _ hk hw hf hK; exact wp_ret (hK .ret _ _ _ _ _ hk (Ext.refl hw) hf)
  | refuse why => intro n T h K ρ a w Q hok; cases hok
end
end Go.Proofs.YtlblaopkmigheaaGreatDoor.Ev
namespace Go.Proofs.YtlblaopkmigheaaGreatDoor.Ev
open Go Go.RowKit

section
variable {P : Program} {N0 : Nat} {ρ ρ' : Ren} {h h' : AH} {w w' : World} {T : Fr} {a : Act} {n E : Nat} {G : List Nat}

theorem freeE_ok {o : Nat} (h : freeE E o = true) {d : Nat} (hd : d < o) : bitB E d = false := by
  have h1 := nb h
  have e1 : Nat.land E (Nat.pred (Nat.shiftLeft 1 o)) = E &&& (2 ^ o - 1) := by
    show E &&& (Nat.pred (1 <<< o)) = _
    rw [Nat.one_shiftLeft]; rfl
  rw [e1] at h1
  rw [bitB_eq]
  cases hb : E.testBit d with
  | false => rfl
  | true =>
    have : (E &&& (2 ^ o - 1)).testBit d = true := by rw [Nat.testBit_and, hb, Nat.testBit_two_pow_sub_one]; simp [hd]
    rw [h1] at this
    simp at this
theorem layT_ok : ∀ {l : AV} {t : Fr} {o : Nat} {K : Fr → Nat → Out}, layT l t o K = .ok → ∃ t' m, K t' (o + m) = .ok ∧ ∀ (ρ : Ren) (vs : List Value), VL ρ l vs →
    m = vs.length ∧ (∀ k, (k < o ∨ o + vs.length ≤ k) → t'.at k = t.at k) ∧ ∀ k, o ≤ k → k < o + vs.length → ∃ x, vs[k - o]? = some x ∧ VR ρ (t'.at k) x := by
  intro l
  induction l with
  | nl =>
    intro t o K hk
    refine ⟨t, 0, hk, fun ρ vs hv => ?_⟩
    cases hv
    exact ⟨rfl, fun k _ => rfl, fun k h1 h2 => by simp at h2; omega⟩
  | cn x r _ ih =>
    intro t o K hk
    have hk : forceN (Nat.succ o) (fun o' => layT r (frS (slOf o) x t) o' K) = .ok := hk
    rw [forceN_eq] at hk
    obtain ⟨t', m, h1, h2⟩ := ih hk
    refine ⟨t', m + 1, by rw [show o + (m + 1) = o.succ + m by omega]; exact h1, fun ρ vs hv => ?_⟩
    cases hv with
    | @cn _ _ v0 vs hx hr =>
      obtain ⟨h0, h3, h4⟩ := h2 ρ vs hr
      have hlen : o.succ + vs.length = o + (v0 :: vs).length := by simp only [List.length_cons]; omega
      refine ⟨by simp only [List.length_cons, h0], ?_, ?_⟩
      · intro k hk2
        rw [h3 k (by omega), frS_at, if_neg]
        simp only [List.length_cons] at hk2
        omega
      · intro k k1 k2
        by_cases he : k = o
        · subst he
          refine ⟨v0, by simp, ?_⟩
          rw [h3 k (.inl (Nat.lt_succ_self k)), frS_at, if_pos rfl]
          exact hx
        · obtain ⟨y, g1, g2⟩ := h4 k (by omega) (by omega)
          refine ⟨y, ?_, g2⟩
          rw [show k - o = (k - o.succ) + 1 by omega, List.getElem?_cons_succ]
          exact g1
  | _ => intro t o K hk; cases hk

theorem enter_ok {l : AV} {vs : List Value} (hgv : GV G ρ) (hl : VL ρ l vs) {K : Fr → Nat → Out} (hk : layT l .e 0 K = .ok) (m : Nat) :
    ∃ T o, K T o = .ok ∧ (freeE E o = true → FR G ρ m E T { tmps := vs.toArray ++ Array.replicate (m - vs.toArray.size) undef, defers := [] }) := by
  obtain ⟨t', o, h1, h2⟩ := layT_ok hk
  obtain ⟨h0, h3, h4⟩ := h2 ρ vs hl
  rw [Nat.zero_add] at h1
  refine ⟨t', o, h1, fun hfree => ⟨fun t => ?_, hgv, rfl, by simp; omega, fun d hd => ?_⟩⟩
  · by_cases hlt : t < vs.length
    · obtain ⟨x, g1, g2⟩ := h4 t (by omega) (by omega)
      have : (vs.toArray ++ Array.replicate (m - vs.toArray.size) undef).getD t undef = x := by
        rw [Array.getD_eq_getD_getElem?, Array.getElem?_append_left (by simpa using hlt)]
        simp only [Nat.sub_zero] at g1
        simp [g1]
      rw [this]; exact g2
    · rw [h3 t (by omega)]
      exact .u _
  · by_cases hlt : d < vs.length
    · rw [freeE_ok hfree (by omega)] at hd; cases hd
    · rw [h3 d (by omega)]; rfl

theorem evRes_ok (hw : WR N0 ρ h w) (hT : FR G ρ n E T a) : ∀ {rs : List ResultVar} {K : AV → Out}, evRes rs P T h K = .ok → ∃ l vs, K l = .ok ∧ VL ρ l vs ∧
    (rs.mapM (m := Sem) fun
      | .tmp t => pure (a.tmps.getD t undef)
      | .cell x t => do loadVar t (← asAddr (a.tmps.getD x undef))).run P w = .ok vs w
  | [], K, hk => ⟨.nl, [], hk, .nl, by simp [List.mapM_nil]⟩
  | r :: rs, K, hk => by
    cases r with
    | tmp t =>
      have hk : frK (slOf t) T (fun v => evRes rs P T h fun l => K (.cn v l)) = .ok := hk
      rw [frK_eq] at hk
      have h1 := hT.t t
      obtain ⟨l, vs, h2, h3, h4⟩ := evRes_ok hw hT hk
      refine ⟨_, _, h2, .cn h1 h3, ?_⟩
      rw [List.mapM_cons]
      simp only [Sem.run_bind, Sem.run_pure, Result.andThen_ok, h4]
    | cell x t =>
      have hk : frK (slOf x) T (fun a => onO (aggSz P t) (.bad 87 t) fun an => loadK h an.1 an.2 a fun v => evRes rs P T h fun l => K (.cn v l)) = .ok := hk
      rw [frK_eq] at hk
      have h1 := hT.t x
      obtain ⟨an, h5, hk⟩ := onO_ok hk
      obtain ⟨q, y, hk, h6, h7⟩ := loadK_ok (P := P) h5 hw h1 hk
      obtain ⟨l, vs, h2, h3, h4⟩ := evRes_ok hw hT hk
      refine ⟨_, _, h2, .cn h6 h3, ?_⟩
      have h8 : (do loadVar t (← asAddr (a.tmps.getD x undef)) : Sem Value).run P w = .ok y w := by
        rw [← h7]
        generalize a.tmps.getD x undef = u at h7 ⊢
        cases u with
        | pointer p => cases p with
          | some p => rfl
          | none => simp [Instr.loadAt, Instr.sureAddr, stuck] at h7
        | _ => simp [Instr.loadAt, Instr.sureAddr, stuck] at h7
      rw [List.mapM_cons]
      simp only [Sem.run_bind, Sem.run_pure] at h8 ⊢
      rw [h8]
      simp only [Result.andThen_ok, h4]
end
end Go.Proofs.YtlblaopkmigheaaGreatDoor.Ev
namespace Go.Proofs.YtlblaopkmigheaaGreatDoor.Ev
open Go Go.RowKit

section
variable {P : Program} {N0 : Nat} {ρ ρ' : Ren} {h h' : AH} {w w' : World} {T : Fr} {a : Act} {n : Nat} {G : List Nat}

theorem giveK_ok {l : AV} {vs : List Value} (hl : VL ρ l vs) {K : AV → AH → Out} (hk : giveK l h K = .ok) :
    ∃ r y, K r h = .ok ∧ VR ρ r y ∧ (if h : vs.toArray.size = 1 then vs.toArray[0] else .tuple vs.toArray) = y := by
  cases hl with
  | nl => exact ⟨_, _, hk, .tup .nl, by simp⟩
  | @cn x t v vs hx ht =>
    cases ht with
    | nl => exact ⟨x, v, hk, hx, by simp⟩
    | @cn y s u us hy hs => exact ⟨_, .tuple (v :: u :: us).toArray, hk, .tup (.cn hx (.cn hy hs)), by simp⟩

theorem call_ok {ev : EvF} (hev : ∀ E c, CodeOK P N0 G E c (ev E c)) : CallOK P N0 G (evCall P ev) := by
  intro ρ f l vs h w K hk hw hgv hl hcc
  obtain ⟨fn, c, q1, q2, _, q4⟩ := canCall_ok hcc
  have hk : onO P.funcs[f]? (.bad 83 f) (fun fn => onO fn.body (.bad 84 f) fun c => layT l .e (nat_lit 0) fun T o => iff' (freeE (elOf fn) o) (ev (elOf fn) c T h fun e T h =>
    EX.rec (motive := fun _ => Out) (evRes fn.results.toList P T h fun l => giveK l h K) (fun _ => .bad 85 f) (evRes fn.results.toList P T h fun l => giveK l h K) e) (.bad 86 f)) = .ok := hk
  rw [q1] at hk
  obtain ⟨fn', e1, hk⟩ := onO_ok hk
  obtain rfl := Option.some.inj e1
  rw [q2] at hk
  obtain ⟨c', e2, hk⟩ := onO_ok hk
  obtain rfl := Option.some.inj e2
  obtain ⟨T, o, hk, hf⟩ := enter_ok (E := elOf fn) hgv hl hk fn.ntmps
  obtain ⟨hfree, hk⟩ := iff_yes hk
  have hf := hf hfree
  refine calls_of_wp q1 q2 ?_
  refine hev (elOf fn) c fn.ntmps T h _ ρ _ w _ q4 hk hw hf ?_
  have fin : ∀ T' h' a' w' ρ', evRes fn.results.toList P T' h' (fun l => giveK l h' K) = .ok → Ext N0 ρ h w ρ' h' w' → FR G ρ' fn.ntmps (elOf fn) T' a' →
      a'.defers = [] ∧ ∃ v, (results fn a'.tmps).run P w' = .ok v w' ∧ ∃ y, Ending.returned v = .returned y ∧ ∃ r h'' ρ'', K r h'' = .ok ∧ Ext N0 ρ h w ρ'' h'' w' ∧ VR ρ'' r y := by
    intro T' h' a' w' ρ' h1 h2 h3
    obtain ⟨l, vs, g1, g2, g3⟩ := evRes_ok (P := P) h2.wr h3 h1
    obtain ⟨r, y, g4, g5, g6⟩ := giveK_ok g2 g1
    refine ⟨h3.d, y, ?_, y, rfl, r, h', ρ', g4, h2, g5⟩
    unfold results
    rw [Array.mapM_eq_mapM_toList]
    have g7 := g3
    simp only [Sem.run_bind, Sem.run_map]
    erw [g7]
    show Result.ok _ w' = _
    exact congrArg (fun y => Result.ok y w') g6
  intro e T' h' a' w' ρ' h1 h2 h3
  cases e with
  | nrm => exact fin T' h' a' w' ρ' h1 h2 h3
  | ret => exact fin T' h' a' w' ρ' h1 h2 h3
  | ex id => cases h1

theorem evC_ok (hmx : P.follows .mixedOrders = true) {Tb : TbF} (hTb : ∀ c, CallOK P N0 G c → CallOK P N0 G (Tb c)) : ∀ (n E : Nat) (c : Code), CodeOK P N0 G E c (evC P G Tb n E c) := by
  intro n
  induction n using Nat.strongRecOn with
  | _ n ih =>
    cases n with
    | zero => intro E c n T h K ρ a w Q _ hk; cases hk
    | succ n =>
      intro E
      have hcall : CallOK P N0 G (Tb (evCall P (evC P G Tb n))) := hTb _ (call_ok (ih n (Nat.lt_succ_self n)))
      refine evCode_ok hmx (ev := evC P G Tb n) hcall ?_
      intro b hb m T h K ρ a w Q hok hk hw hf hK
      refine wp_loop_ghost (fun k a w' => ∃ T' h' ρ', k ≤ n + 1 ∧ evC P G Tb k E (.loop b) T' h' K = .ok ∧ Ext N0 ρ h w ρ' h' w' ∧ FR G ρ' m E T' a) (n + 1) ⟨T, h, ρ, Nat.le_refl _, hk, Ext.refl hw, hf⟩ ?_
      rintro k a' w' ⟨T', h', ρ', g1, g2, g3, g4⟩
      cases k with
      | zero => cases g2
      | succ k =>
        have hb' : CodeOK P N0 G E b (evCode b P G Tb E (evC P G Tb k)) := by
          by_cases he : k = n
          · subst he; exact hb
          · exact ih (k + 1) (by omega) E b
        refine hb' m T' h' (thenK (evC P G Tb k E (.loop b)) K) ρ' a' w' _ hok g2 g3.wr g4 ?_
        intro e T'' h'' a'' w'' ρ'' h1 h2 h3
        cases e with
        | nrm => exact ⟨k, Nat.lt_succ_self k, T'', h'', ρ'', by omega, h1, g3.trans h2, h3⟩
        | ex id => exact hK (.ex id) _ _ _ _ _ h1 (g3.trans h2) h3
        | ret => exact hK .ret _ _ _ _ _ h1 (g3.trans h2) h3
/-- A call that the evaluator carries out. -/
theorem evCall_ok (hmx : P.follows .mixedOrders = true) {Tb : TbF} (hTb : ∀ c, CallOK P N0 G c → CallOK P N0 G (Tb c)) (fuel : Nat) : CallOK P N0 G (evCall P (evC P G Tb fuel)) := call_ok (evC_ok hmx hTb fuel)
end
end Go.Proofs.YtlblaopkmigheaaGreatDoor.Ev
