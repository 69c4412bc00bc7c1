/- Calls that are known: what they give stands in the world. No program stands in it. -/
import Derived.Test.YtlblaopkmigheaaGreatDoorEvG
namespace Go.Proofs.YtlblaopkmigheaaGreatDoor.Ev
open Go Go.RowKit

noncomputable section
variable {P : Program} {N0 : Nat} {ρ ρ' : Ren} {h h' : AH} {w w' : World} {G : List Nat}

theorem memD_ok {D : List Rw} {q : Pos} {st : Nat} (h : memD D q st = true) : ∃ r ∈ D, q = posOf r.q ∧ st = r.cur := by
  induction D with
  | nil => cases h
  | cons r D ih =>
    rcases iffo (show iff' (iff' (Nat.beq q.val r.q) (Nat.beq st r.cur) false) true (memD D q st) = true from h) with h | h
    · obtain ⟨h1, h2⟩ := iff2 h
      exact ⟨r, List.mem_cons_self, Pos.val_inj _ _ (by rw [posOf_val]; exact nb h1), nb h2⟩
    · obtain ⟨r', h1, h2⟩ := ih h
      exact ⟨r', List.mem_cons_of_mem _ h1, h2⟩
mutual
theorem VR.move {D : List Rw} (hD : ∀ r ∈ D, ∀ L, ρ (posOf r.q) r.cur = some L → ρ' (posOf r.q) r.cur = some L) : ∀ {a : AV} {v : Value}, VR ρ a v → ptrB D a = true → VR ρ' a v
  | _, _, .u v, _ => .u v
  | _, _, .b x, _ => .b x
  | _, _, .i k z, _ => .i k z
  | _, _, .s n x, _ => .s n x
  | _, _, .p h1 h2 h3, hp => by
    obtain ⟨r, g1, rfl, rfl⟩ := memD_ok hp
    exact .p (hD r g1 _ h1) h2 h3
  | _, _, .pn, _ => .pn
  | _, _, .sl h1 h2 h3 h4, hp => by
    obtain ⟨r, g1, rfl, rfl⟩ := memD_ok hp
    exact .sl (hD r g1 _ h1) h2 h3 h4
  | _, _, .sn, _ => .sn
  | _, _, .mn, _ => .mn
  | _, _, .fn f h1 h2, hp => .fn f (VL.move hD h1 (iff2 hp).1) (VL.move hD h2 (iff2 hp).2)
  | _, _, .fz, _ => .fz
  | _, _, .agg h1, hp => .agg (VL.move hD h1 hp)
  | _, _, .tup h1, hp => .tup (VL.move hD h1 hp)
theorem VL.move {D : List Rw} (hD : ∀ r ∈ D, ∀ L, ρ (posOf r.q) r.cur = some L → ρ' (posOf r.q) r.cur = some L) : ∀ {a : AV} {v : List Value}, VL ρ a v → ptrB D a = true → VL ρ' a v
  | _, _, .nl, _ => .nl
  | _, _, .cn h1 h2, hp => .cn (VR.move hD h1 (iff2 hp).1) (VL.move hD h2 (iff2 hp).2)
end

theorem layV_or {D : List Rw} {t' : Tr AV} : ∀ (l : AV) (t : Tr AV) (o : Nat), cellsB l t' o = true → ptrB D l = true → ∀ i v, (layV l t o).get (posOf i) = some v → t.get (posOf i) = some v ∨ (t'.get (posOf i) = some v ∧ ptrB D v = true) := by
  intro l
  induction l with
  | nl => intro t o _ _ i v hv; exact .inl hv
  | cn x r _ ih =>
    intro t o hc hp i v hv
    obtain ⟨p1, p2⟩ := iff2 (show iff' (ptrB D x) (ptrB D r) false = true from hp)
    have hc : Option.rec (motive := fun _ => Bool) false (fun v => iff' (sameA v x) (cellsB r t' (Nat.succ o)) false) (t'.get (posOf o)) = true := hc
    cases hg : t'.get (posOf o) with
    | none => rw [hg] at hc; cases hc
    | some y =>
      rw [hg] at hc
      obtain ⟨c1, c2⟩ := iff2 (show iff' (sameA y x) (cellsB r t' (Nat.succ o)) false = true from hc)
      obtain rfl := sameA_ok c1
      have hv : (layV r (t.setK y (posOf o) id) (Nat.succ o)).get (posOf i) = some v := hv
      rcases ih _ _ c2 p2 i v hv with h1 | h1
      · have h1 : (t.set (posOf o) y).get (posOf i) = some v := h1
        by_cases he : o = i
        · subst he
          rw [Tr.get_same] at h1
          obtain rfl := Option.some.inj h1
          exact .inr ⟨hg, p1⟩
        · rw [Tr.get_set _ _ _ _ (fun e => he (posOf_inj e))] at h1
          exact .inl h1
      · exact .inr h1
  | _ => intro t o hc; cases hc

theorem qIn_no {q : Nat} {l : List Rw} (h : qIn q l = false) : ∀ r ∈ l, r.q ≠ q := by
  induction l with
  | nil => intro r hr; cases hr
  | cons x l ih =>
    intro r hr he
    have h : iff' (Nat.beq q x.q) true (qIn q l) = false := h
    cases hb : Nat.beq q x.q with
    | true => rw [hb] at h; cases h
    | false =>
      rw [hb] at h
      rcases List.mem_cons.1 hr with rfl | hr
      · rw [he, Nat.beq_refl] at hb; cases hb
      · exact ih h r hr he
theorem heapT_off {ro : Bool} : ∀ (l : List Rw) (t : Tr Blk) (q : Pos), (∀ r ∈ l, posOf r.q ≠ q) → (heapT l ro t).get q = t.get q
  | [], _, _, _ => rfl
  | r :: l, t, q, h => by
    show (heapT l ro (t.set (posOf r.q) (rowBlk r ro))).get q = _
    rw [heapT_off l _ q (fun r' hr' => h r' (List.mem_cons_of_mem _ hr')), Tr.get_set _ _ _ _ (h r List.mem_cons_self)]
theorem heapT_on {ro : Bool} : ∀ (l : List Rw) (t : Tr Blk), nodB l = true → ∀ r ∈ l, (heapT l ro t).get (posOf r.q) = some (rowBlk r ro)
  | [], _, _, _, hr => by cases hr
  | x :: l, t, hn, r, hr => by
    obtain ⟨n1, n2⟩ := iffn (show iff' (qIn x.q l) false (nodB l) = true from hn)
    show (heapT l ro (t.set (posOf x.q) (rowBlk x ro))).get (posOf r.q) = _
    rcases List.mem_cons.1 hr with rfl | hr
    · rw [heapT_off l _ _ (fun r' hr' e => qIn_no n1 r' hr' (posOf_inj e)), Tr.get_same]
    · exact heapT_on l _ n2 r hr
theorem heapT_some {ro : Bool} {l : List Rw} {t : Tr Blk} (hn : nodB l = true) {q : Pos} {B : Blk} (h : (heapT l ro t).get q = some B) : (∃ r ∈ l, q = posOf r.q ∧ B = rowBlk r ro) ∨ ((∀ r ∈ l, posOf r.q ≠ q) ∧ t.get q = some B) := by
  by_cases hex : ∃ r ∈ l, posOf r.q = q
  · obtain ⟨r, hr, rfl⟩ := hex
    rw [heapT_on l t hn r hr] at h
    exact .inl ⟨r, hr, rfl, (Option.some.inj h).symm⟩
  · have hno : ∀ r ∈ l, posOf r.q ≠ q := fun r hr e => hex ⟨r, hr, e⟩
    rw [heapT_off l t q hno] at h
    exact .inr ⟨hno, h⟩
theorem nodB_eq : ∀ {l : List Rw}, nodB l = true → ∀ r ∈ l, ∀ r' ∈ l, r.q = r'.q → r = r'
  | [], _, _, hr, _, _, _ => by cases hr
  | x :: l, hn, r, hr, r', hr', he => by
    obtain ⟨n1, n2⟩ := iffn (show iff' (qIn x.q l) false (nodB l) = true from hn)
    rcases List.mem_cons.1 hr with e1 | hr
    · rcases List.mem_cons.1 hr' with e2 | hr'
      · rw [e1, e2]
      · exact absurd (by rw [← he, e1]) (qIn_no n1 r' hr')
    · rcases List.mem_cons.1 hr' with e2 | hr'
      · exact absurd (by rw [he, e2]) (qIn_no n1 r hr)
      · exact nodB_eq n2 r hr r' hr' he
theorem rowB_ok {own : Bool} {r : Rw} (hr : rowB h own r = true) : ∃ t mw ro, h.get (posOf r.q) = some (.c r.n t r.cur mw ro) ∧ (own = true → ro = false) ∧ cellsB r.l t 0 = true := by
  unfold rowB at hr
  have e : h.tr.get (posOf r.q) = h.get (posOf r.q) := by obtain ⟨t, x⟩ := h; rfl
  rw [e] at hr
  cases hg : h.get (posOf r.q) with
  | none => rw [hg] at hr; cases hr
  | some B =>
    rw [hg] at hr
    cases B <;> first | (cases hr; done) | skip
    rename_i n t cur mw ro
    obtain ⟨h1, hr⟩ := iff2 (show iff' (Nat.beq n r.n) (iff' (Nat.beq cur r.cur) (iff' (iff' own ro false) false (cellsB r.l t (nat_lit 0))) false) false = true from hr)
    obtain ⟨h2, hr⟩ := iff2 hr
    obtain ⟨h3, h4⟩ := iffn hr
    rw [nb h1, nb h2]
    refine ⟨t, mw, ro, rfl, fun ho => ?_, h4⟩
    subst ho
    exact h3
theorem rowsB_ok {own : Bool} : ∀ {l : List Rw}, rowsB l h own = true → ∀ r ∈ l, rowB h own r = true
  | [], _, _, hr => by cases hr
  | x :: l, hl, r, hr => by
    obtain ⟨h1, h2⟩ := iff2 (show iff' (rowB h own x) (rowsB l h own) false = true from hl)
    rcases List.mem_cons.1 hr with rfl | hr
    · exact h1
    · exact rowsB_ok h2 r hr
theorem freeB_ok : ∀ {l : List Rw}, freeB l h = true → ∀ r ∈ l, h.get (posOf r.q) = none
  | [], _, _, hr => by cases hr
  | x :: l, hl, r, hr => by
    obtain ⟨h1, h2⟩ := iff2 (show iff' (Option.isNone (h.tr.get (posOf x.q))) (freeB l h) false = true from hl)
    rcases List.mem_cons.1 hr with rfl | hr
    · have e : h.tr.get (posOf r.q) = h.get (posOf r.q) := by obtain ⟨t, x⟩ := h; rfl
      rw [e] at h1
      cases hg : h.get (posOf r.q) with
      | none => rfl
      | some B => rw [hg] at h1; cases h1
    · exact freeB_ok h2 r hr
theorem belowB_ok {n : Nat} : ∀ {l : List Rw}, belowB l n = true → ∀ r ∈ l, r.q < n
  | [], _, _, hr => by cases hr
  | x :: l, hl, r, hr => by
    obtain ⟨h1, h2⟩ := iff2 (show iff' (Nat.blt x.q n) (belowB l n) false = true from hl)
    rcases List.mem_cons.1 hr with rfl | hr
    · have h1 : Nat.ble (r.q + 1) n = true := h1
      exact Nat.le_of_ble_eq_true h1
    · exact belowB_ok h2 r hr
theorem highB_ok : ∀ {l : List Rw}, highB l = true → ∀ r ∈ l, 64 ≤ r.q
  | [], _, _, hr => by cases hr
  | x :: l, hl, r, hr => by
    obtain ⟨h1, h2⟩ := iff2 (show iff' (Nat.ble 64 x.q) (highB l) false = true from hl)
    rcases List.mem_cons.1 hr with rfl | hr
    · exact Nat.le_of_ble_eq_true h1
    · exact highB_ok h2 r hr
theorem ptrsB_ok {D : List Rw} : ∀ {l : List Rw}, ptrsB D l = true → ∀ r ∈ l, ptrB D r.l = true
  | [], _, _, hr => by cases hr
  | x :: l, hl, r, hr => by
    obtain ⟨h1, h2⟩ := iff2 (show iff' (ptrB D x.l) (ptrsB D l) false = true from hl)
    rcases List.mem_cons.1 hr with rfl | hr
    · exact h1
    · exact ptrsB_ok h2 r hr
theorem globB_ok {D : List Rw} : ∀ {G : List Nat}, globB G D = true → ∀ g ∈ G, memD D (posOf g) 0 = true
  | [], _, _, hr => by cases hr
  | x :: l, hl, r, hr => by
    obtain ⟨h1, h2⟩ := iff2 (show iff' (memD D (posOf x) (nat_lit 0)) (globB l D) false = true from hl)
    rcases List.mem_cons.1 hr with rfl | hr
    · exact h1
    · exact globB_ok h2 r hr
theorem maxN_eq (a b : Nat) : maxN a b = max a b := by
  unfold maxN
  cases hb : Nat.ble a b with
  | true => have := Nat.le_of_ble_eq_true hb; show b = _; omega
  | false =>
    have : ¬ a ≤ b := fun h' => by rw [Nat.ble_eq_true_of_le h'] at hb; cases hb
    show a = _; omega
end
end Go.Proofs.YtlblaopkmigheaaGreatDoor.Ev
namespace Go.Proofs.YtlblaopkmigheaaGreatDoor.Ev
open Go Go.RowKit

noncomputable section
variable {P : Program} {N0 : Nat} {ρ ρ' : Ren} {h h' : AH} {w w' : World} {G : List Nat}

/-- A row that stands in the heap, as it is printed. -/
theorem row_BR {D : List Rw} {N1 : Nat} {r : Rw} {own ro : Bool} {L : Loc} (hw : WR N0 ρ h w) (hr : rowB h own r = true) (hL : ρ (posOf r.q) r.cur = some L) (hp : ptrB D r.l = true)
    (hD : ∀ r ∈ D, ∀ L, ρ (posOf r.q) r.cur = some L → ρ' (posOf r.q) r.cur = some L) (hro : ro = false → own = true ∧ N1 ≤ N0) : BR N1 ρ' (rowBlk r ro) r.cur L w := by
  obtain ⟨t, mw, ro', h1, h2, h3⟩ := rowB_ok hr
  obtain ⟨B, g1, g2⟩ := hw.blk _ _ _ hL
  rw [h1] at g1
  obtain rfl := Option.some.inj g1
  have hfz := CR.fz g2
  obtain ⟨k1, ⟨cs, el, fr, k2, k3, k4, k5⟩, k6, k7, k8, _⟩ := g2
  refine ⟨Nat.le_refl _, ⟨cs, el, fr, k2, ⟨k3.1, fun he => k3.2 (h2 (hro he).1)⟩, fun he => ?_, fun i v a b _ d => ?_⟩, k6, fun _ => k7 rfl, fun hne => absurd rfl hne, fun he hmw cs' el' fr' hc => ?_⟩
  · obtain ⟨e1, e2⟩ := hro he
    obtain ⟨e3, e4⟩ := k4 (h2 e1)
    exact ⟨Nat.le_trans e2 e3, e4⟩
  · rcases layV_or r.l .e 0 h3 hp i v d with d | ⟨d, e⟩
    · rw [Tr.get_e] at d; cases d
    · obtain ⟨x, g1, g2⟩ := k5 i v a b (.inl rfl) d
      exact ⟨x, g1, VR.move hD g2 e⟩
  · have hq : 64 ≤ (posOf r.q).val := by
      rw [posOf_val]
      cases hb : Nat.ble 64 r.q with
      | true => exact Nat.le_of_ble_eq_true hb
      | false =>
        exfalso
        have hmw : 0 < iff' (Nat.ble 64 r.q) bigN 0 := hmw
        rw [hb] at hmw
        exact Nat.lt_irrefl _ hmw
    rw [k2] at hc
    simp only [Option.some.injEq, Obj.cells.injEq] at hc
    obtain ⟨_, _, rfl⟩ := hc
    cases hr' : ro' with
    | false => exact (k4 hr').2
    | true =>
      rcases hw.own _ _ _ _ _ _ h1 hq with e | e
      · rw [hr'] at e; cases e
      · exact hfz hr' e cs el fr k2

theorem callT_ok {S : Sm} (hok : S.okB G = true) {call0 : CallF} (h0 : ∀ N1, CallOK P N1 G call0) (hA : call0 S.f S.args S.heap S.chk = .ok) {call : CallF} (hc : CallOK P N0 G call) : CallOK P N0 G (callT S call) := by
  intro ρ f l vs h w K hk hw hgv hl hcc
  obtain ⟨hnod, hok⟩ := iff2 (show iff' (iff' (nodB S.ins) (iff' (nodB S.outs) (highB S.outs) false) false) _ false = true from hok)
  obtain ⟨hn1, hnod⟩ := iff2 hnod
  obtain ⟨hn2, hhi⟩ := iff2 hnod
  obtain ⟨hb1, hok⟩ := iff2 hok
  obtain ⟨hb2, hok⟩ := iff2 hok
  obtain ⟨h64, hok⟩ := iff2 hok
  obtain ⟨hp1, hok⟩ := iff2 hok
  obtain ⟨hp2, hok⟩ := iff2 hok
  obtain ⟨hgl, hok⟩ := iff2 hok
  obtain ⟨hp3, hp4⟩ := iff2 hok
  have h64 : 64 ≤ S.nx := Nat.le_of_ble_eq_true h64
  rcases iff_ok (show iff' (Nat.beq f S.f) (iff' (iff' (sameA l S.args) (iff' (rowsB S.ins h false) (freeB S.outs h) false) false) (K S.v (S.join h)) (call f l h K)) (call f l h K) = .ok from hk) with ⟨hf, hk⟩ | ⟨_, hk⟩
  case inr => exact hc ρ f l vs h w K hk hw hgv hl hcc
  rcases iff_ok hk with ⟨hcond, hkk⟩ | ⟨_, hkk⟩
  case inr => exact hc ρ f l vs h w K hkk hw hgv hl hcc
  obtain ⟨ha, hcond⟩ := iff2 hcond
  obtain ⟨hins, hfree⟩ := iff2 hcond
  have hf := nb hf
  subst hf
  have ha := sameA_ok ha
  subst ha
  -- what is known of the rows that are read
  have hrows := rowsB_ok hins
  have hfr := freeB_ok hfree
  let ρ1 : Ren := fun q st => if memD S.ins q st = true then ρ q st else none
  have hρ1 : ∀ q st L, ρ1 q st = some L → ρ q st = some L ∧ ∃ r ∈ S.ins, q = posOf r.q ∧ st = r.cur := by
    intro q st L hL
    dsimp only [ρ1] at hL
    split at hL
    · rename_i hm; exact ⟨hL, memD_ok hm⟩
    · cases hL
  have hmem : ∀ {D : List Rw} {r : Rw}, r ∈ D → memD D (posOf r.q) r.cur = true := by
    intro D r hr
    induction D with
    | nil => cases hr
    | cons x D ih =>
      show iff' (iff' (Nat.beq (posOf r.q).val x.q) (Nat.beq r.cur x.cur) false) true (memD D (posOf r.q) r.cur) = true
      rcases List.mem_cons.1 hr with rfl | hr
      · rw [posOf_val, Nat.beq_refl, Nat.beq_refl]; rfl
      · rw [ih hr]
        cases iff' (Nat.beq (posOf r.q).val x.q) (Nat.beq r.cur x.cur) false <;> rfl
  have hD1 : ∀ r ∈ S.ins, ∀ L, ρ (posOf r.q) r.cur = some L → ρ1 (posOf r.q) r.cur = some L := fun r hr L hL => by
    dsimp only [ρ1]; rw [if_pos (hmem hr)]; exact hL
  have hw1 : WR w.heap.size ρ1 S.heap w := by
    refine ⟨fun q B hq => ?_, fun q st L hL => ?_, fun q st L q' st' L' g1 g2 g3 => ?_, Nat.le_refl _, fun q n t cur mw ro hq hq64 => ?_, ?_, fun q B hq _ => ?_⟩
    · have hq : (heapT S.ins true .e).get q = some B := hq
      rcases heapT_some hn1 hq with ⟨r, hr, rfl, _⟩ | ⟨_, hq⟩
      · show (posOf r.q).val < (posOf S.nx).val
        rw [posOf_val, posOf_val]; exact belowB_ok hb1 r hr
      · rw [Tr.get_e] at hq; cases hq
    · obtain ⟨g1, r, hr, rfl, rfl⟩ := hρ1 q st L hL
      exact ⟨_, heapT_on S.ins .e hn1 r hr, row_BR hw (hrows r hr) g1 (ptrsB_ok hp2 r hr) hD1 (fun e => by cases e)⟩
    · exact hw.inj _ _ _ _ _ _ (hρ1 _ _ _ g1).1 (hρ1 _ _ _ g2).1 g3
    · have hq : (heapT S.ins true .e).get q = some (.c n t cur mw ro) := hq
      rcases heapT_some hn1 hq with ⟨r, hr, rfl, he⟩ | ⟨_, hq⟩
      · rw [posOf_val] at hq64
        have he : Blk.c n t cur mw ro = .c r.n (layV r.l .e 0) r.cur (iff' (Nat.ble 64 r.q) bigN 0) true := he
        simp only [Blk.c.injEq] at he
        right
        rw [he.2.2.2.1, Nat.ble_eq_true_of_le hq64]
        exact Nat.succ_pos _
      · rw [Tr.get_e] at hq; cases hq
    · show 64 ≤ (posOf S.nx).val
      rw [posOf_val]; exact h64
    · have hq : (heapT S.ins true .e).get q = some B := hq
      rcases heapT_some hn1 hq with ⟨r, hr, rfl, he⟩ | ⟨_, hq⟩
      · exact ⟨_, _, _, _, he⟩
      · rw [Tr.get_e] at hq; cases hq
  have hgv1 : GV G ρ1 := fun g hg => by
    refine VR.move (D := S.ins) hD1 (hgv g hg) ?_
    exact globB_ok hgl g hg
  have hl1 : VL ρ1 S.args vs := VL.move (D := S.ins) hD1 hl hp1
  refine (h0 w.heap.size ρ1 S.f S.args vs S.heap w S.chk hA hw1 hgv1 hl1 hcc).mono ?_
  rintro e w' ⟨y, rfl, r0, h', ρ', hchk, hext, hy⟩
  obtain ⟨c1, c3⟩ := iff_yes (show iff' (sameA r0 S.v) (iff' (rowsB S.outs h' true) Out.ok (Out.bad 96 1)) (Out.bad 96 0) = Out.ok from hchk)
  have c1 := sameA_ok c1
  subst c1
  obtain ⟨c2, _⟩ := iff_yes (show iff' (rowsB S.outs h' true) Out.ok (Out.bad 96 1) = Out.ok from c3)
  have houts := rowsB_ok c2
  -- where all stands behind the call
  let ρ2 : Ren := fun q st => match ρ q st with
    | some L => some L
    | none => if memD S.outs q st = true then ρ' q st else none
  have hle : ρ.le ρ2 := fun q st L hL => by dsimp only [ρ2]; rw [hL]
  have hnone : ∀ r ∈ S.outs, ∀ st, ρ (posOf r.q) st = none := fun r hr st => by
    cases hL : ρ (posOf r.q) st with
    | none => rfl
    | some L =>
      obtain ⟨B, g1, _⟩ := hw.blk _ _ _ hL
      rw [hfr r hr] at g1; cases g1
  have hD2 : ∀ r ∈ S.ins ++ S.outs, ∀ L, ρ' (posOf r.q) r.cur = some L → ρ2 (posOf r.q) r.cur = some L := fun r hr L hL => by
    rcases List.mem_append.1 hr with hr | hr
    · cases hr1 : ρ1 (posOf r.q) r.cur with
      | some L1 =>
        have := hext.le _ _ _ hr1
        rw [hL] at this
        obtain rfl := Option.some.inj this
        exact hle _ _ _ (hρ1 _ _ _ hr1).1
      | none =>
        exfalso
        have hall : ∀ st, ρ1 (posOf r.q) st = none := fun st => by
          cases hs : ρ1 (posOf r.q) st with
          | none => rfl
          | some L2 =>
            obtain ⟨_, r', hr', e1, e2⟩ := hρ1 _ _ _ hs
            obtain rfl := nodB_eq hn1 r hr r' hr' (posOf_inj e1)
            rw [e2, hr1] at hs; cases hs
        have := (hext.pend _ _ hall (heapT_on S.ins .e hn1 r hr)).2 r.cur
        rw [hL] at this; cases this
    · dsimp only [ρ2]
      rw [hnone r hr, if_pos (hmem hr)]
      exact hL
  have hρ2 : ∀ q st L, ρ2 q st = some L → ρ q st = some L ∨ (∃ r ∈ S.outs, q = posOf r.q ∧ st = r.cur ∧ ρ' q st = some L) := by
    intro q st L hL
    dsimp only [ρ2] at hL
    cases hr : ρ q st with
    | some L1 => rw [hr] at hL; exact .inl hL
    | none =>
      rw [hr] at hL
      dsimp only at hL
      split at hL
      · rename_i hm
        obtain ⟨r, g1, g2, g3⟩ := memD_ok hm
        exact .inr ⟨r, g1, g2, g3, hL⟩
      · cases hL
  have hold : ∀ q, (∃ B, h.get q = some B) → ∀ r ∈ S.outs, posOf r.q ≠ q := fun q ⟨B, hB⟩ r hr e => by
    subst e; rw [hfr r hr] at hB; cases hB
  have hjoin : ∀ q, (S.join h).get q = (heapT S.outs false h.t).get q := fun q => by obtain ⟨t, x⟩ := h; rfl
  have hjnx : (S.join h).nx.val = max h.nx.val S.nx' := by
    obtain ⟨t, x⟩ := h
    show (posOf (maxN x.val S.nx')).val = _
    rw [posOf_val, maxN_eq]; rfl
  have hkeep : ∀ q B, h.get q = some B → (S.join h).get q = some B := fun q B hB => by
    rw [hjoin, heapT_off S.outs _ q (hold q ⟨B, hB⟩)]; exact hB
  have hcb : ∀ r ∈ S.outs, ∀ L, ρ' (posOf r.q) r.cur = some L → w.heap.size ≤ L.cb := fun r hr L hL => by
    obtain ⟨t, mw, ro, g1, g2, _⟩ := rowB_ok (houts r hr)
    obtain ⟨B, g3, g4⟩ := hext.wr.blk _ _ _ hL
    rw [g1] at g3
    obtain rfl := Option.some.inj g3
    obtain ⟨_, ⟨cs, el, fr, _, _, k4, _⟩, _⟩ := g4
    exact (k4 (g2 rfl)).1
  have hw2 : WR N0 ρ2 (S.join h) w' := by
    refine ⟨fun q B hq => ?_, fun q st L hL => ?_, fun q st L q' st' L' g1 g2 g3 => ?_, Nat.le_trans hw.size hext.below.size, fun q n t cur mw ro hq hq64 => ?_, ?_, fun q B hq hlt => ?_⟩
    · rw [hjoin] at hq
      rw [hjnx]
      rcases heapT_some hn2 hq with ⟨r, hr, rfl, _⟩ | ⟨_, hq⟩
      · rw [posOf_val]; have := belowB_ok hb2 r hr; omega
      · have := hw.fresh q B hq; omega
    · rcases hρ2 q st L hL with hL | ⟨r, hr, rfl, rfl, hL⟩
      · obtain ⟨B, g1, g2⟩ := hw.blk _ _ _ hL
        exact ⟨B, hkeep q B g1, (g2.frame (hext.below.block _ g2.lt)).mono hle⟩
      · refine ⟨_, by rw [hjoin]; exact heapT_on S.outs _ hn2 r hr, ?_⟩
        exact row_BR hext.wr (houts r hr) hL (ptrsB_ok hp4 r hr) hD2 (fun _ => ⟨rfl, hw.size⟩)
    · rcases hρ2 _ _ _ g1 with g1 | ⟨r, hr, rfl, rfl, g1⟩ <;> rcases hρ2 _ _ _ g2 with g2 | ⟨r', hr', rfl, rfl, g2⟩
      · exact hw.inj _ _ _ _ _ _ g1 g2 g3
      · obtain ⟨B, _, k2⟩ := hw.blk _ _ _ g1
        have := k2.lt
        have := hcb r' hr' _ g2
        exfalso; omega
      · obtain ⟨B, _, k2⟩ := hw.blk _ _ _ g2
        have := k2.lt
        have := hcb r hr _ g1
        exfalso; omega
      · exact hext.wr.inj _ _ _ _ _ _ g1 g2 g3
    · rw [hjoin] at hq
      rcases heapT_some hn2 hq with ⟨r, hr, rfl, he⟩ | ⟨_, hq⟩
      · have he : Blk.c n t cur mw ro = .c r.n (layV r.l .e 0) r.cur (iff' (Nat.ble 64 r.q) bigN 0) false := he
        simp only [Blk.c.injEq] at he
        exact .inl he.2.2.2.2
      · exact hw.own q n t cur mw ro hq hq64
    · rw [hjnx]; have := hw.nx; omega
    · rw [hjoin] at hq
      rcases heapT_some hn2 hq with ⟨r, hr, rfl, he⟩ | ⟨_, hq⟩
      · rw [posOf_val] at hlt; have := highB_ok hhi r hr; exfalso; omega
      · exact hw.low q B hq hlt
  refine ⟨y, rfl, S.v, S.join h, ρ2, hkk, ⟨hle, hw2, ?_, by rw [hjnx]; omega, fun q B hq hB => ⟨hkeep q B hB, fun st => ?_⟩⟩, VR.move (D := S.ins ++ S.outs) hD2 hy hp3⟩
  · exact ⟨hext.below.os, hext.below.tape, hext.below.output, hext.below.size, fun k hk => hext.below.block k (Nat.lt_of_lt_of_le hk hw.size)⟩
  · cases hs : ρ2 q st with
    | none => rfl
    | some L =>
      rcases hρ2 _ _ _ hs with g | ⟨r, hr, rfl, _, _⟩
      · rw [hq st] at g; cases g
      · rw [hfr r hr] at hB; cases hB
end
end Go.Proofs.YtlblaopkmigheaaGreatDoor.Ev
namespace Go.Proofs.YtlblaopkmigheaaGreatDoor.Ev
open Go Go.RowKit

noncomputable section
variable {P : Program} {N0 : Nat} {ρ ρ' : Ren} {h h' : AH} {w w' : World} {G : List Nat}

/-- What stands in the world at a listed variable. -/
def GI.holds (i : GI) (W : World) : Prop := match i with
  | .mk g _ len sz l => ∃ b off cap cs cs' el el' fr fr', W.heap[g]? = some (.cells cs el fr) ∧ cs[0]? = some (.slice (some ⟨b, off, none⟩) len cap) ∧ len ≤ cap ∧ W.heap[b]? = some (.cells cs' el' fr') ∧ off + len * sz ≤ cs'.size ∧
      ∀ j v, (layV l .e 0).get (posOf j) = some v → ∃ x, cs'[off + j]? = some x ∧ ∀ ρ, VR ρ v x
/-- A row that is only read. -/
theorem low_BR {r : Rw} {L : Loc} {cs : Array Value} {el : TypeId} {fr : Nat × Nat} (hc : r.cur = 0) (hq : r.q < 64) (hw : w.heap[L.cb]? = some (.cells cs el fr)) (hn : L.n = r.n) (hs : L.n + L.sh ≤ L.lo + cs.size) (ht : L.n ≤ L.tot)
    (hcell : ∀ i v, L.lo ≤ i → i < L.n → (layV r.l .e 0).get (posOf i) = some v → ∃ x, cs[L.sh + i - L.lo]? = some x ∧ VR ρ v x) : BR N0 ρ (rowBlk r true) 0 L w := by
  refine ⟨by rw [hc]; exact Nat.le_refl _, ⟨cs, el, fr, hw, ⟨hs, (fun e => nomatch e)⟩, (fun e => nomatch e), fun i v a b _ d => hcell i v a b d⟩, ht, fun _ => hn, fun hne => absurd hc.symm hne, fun _ hmw => ?_⟩
  exfalso
  have hmw : 0 < iff' (Nat.ble 64 r.q) bigN 0 := hmw
  have : Nat.ble 64 r.q = false := by
    cases hb : Nat.ble 64 r.q with
    | false => rfl
    | true => have := Nat.le_of_ble_eq_true hb; omega
  rw [this] at hmw
  exact Nat.lt_irrefl _ hmw

theorem first_go {W : World} : ∀ (I : List GI), nodB (rowsG I) = true → (∀ r ∈ rowsG I, r.q < 64) → (∀ i ∈ I, i.holds W) →
    ∃ ρ : Ren, (∀ q st L, ρ q st = some L → st = 0 ∧ ∃ r ∈ rowsG I, q = posOf r.q ∧ r.cur = 0 ∧ BR W.heap.size ρ (rowBlk r true) 0 L W) ∧ ∀ i ∈ I, ρ (posOf i.g) 0 = some ⟨i.g, 0, 1, 1, 0⟩
  | [], _, _, _ => ⟨fun _ _ => none, (fun q st L hL => nomatch hL), (fun i hi => nomatch hi)⟩
  | i :: I, hn, hlo, hh => by
    obtain ⟨n1, hn⟩ := iffn (show iff' (qIn i.r1.q (i.r2 :: rowsG I)) false (nodB (i.r2 :: rowsG I)) = true from hn)
    obtain ⟨n2, hn⟩ := iffn (show iff' (qIn i.r2.q (rowsG I)) false (nodB (rowsG I)) = true from hn)
    have hlo1 : i.r1.q < 64 := hlo i.r1 List.mem_cons_self
    have hlo2 : i.r2.q < 64 := hlo i.r2 (List.mem_cons_of_mem _ List.mem_cons_self)
    obtain ⟨ρ, h1, h2⟩ := first_go I hn (fun r hr => hlo r (List.mem_cons_of_mem _ (List.mem_cons_of_mem _ hr))) (fun j hj => hh j (List.mem_cons_of_mem _ hj))
    have hi := hh i List.mem_cons_self
    obtain ⟨g, d, len, sz, l⟩ := i
    obtain ⟨b, off, cap, cs, cs', el, el', fr, fr', k1, k2, k3, k4, k5, k6⟩ := hi
    have q1 := qIn_no (q := g) n1
    have q2 := qIn_no (q := d) n2
    have hgd : d ≠ g := q1 (.mk d (Nat.mul len sz) 0 l) List.mem_cons_self
    have hng : ∀ st, ρ (posOf g) st = none := fun st => by
      cases hL : ρ (posOf g) st with
      | none => rfl
      | some L =>
        obtain ⟨_, r, hr, e, _⟩ := h1 _ _ _ hL
        exact absurd (posOf_inj e).symm (q1 r (List.mem_cons_of_mem _ hr))
    have hnd : ∀ st, ρ (posOf d) st = none := fun st => by
      cases hL : ρ (posOf d) st with
      | none => rfl
      | some L =>
        obtain ⟨_, r, hr, e, _⟩ := h1 _ _ _ hL
        exact absurd (posOf_inj e).symm (q2 r hr)
    let ρ1 := ρ.with (posOf g) 0 ⟨g, 0, 1, 1, 0⟩
    have hnd1 : ρ1 (posOf d) 0 = none := by
      show (ρ.with (posOf g) 0 ⟨g, 0, 1, 1, 0⟩) (posOf d) 0 = none
      unfold Ren.with
      rw [if_neg (fun e => hgd (posOf_inj e.1).symm)]
      exact hnd 0
    let ρ2 := ρ1.with (posOf d) 0 ⟨b, 0, len * sz, cap * sz, off⟩
    have l1 : ρ.le ρ1 := Ren.le_with (hng 0)
    have l2 : ρ1.le ρ2 := Ren.le_with hnd1
    have l3 : ρ.le ρ2 := Ren.le_trans l1 l2
    refine ⟨ρ2, fun q st L hL => ?_, fun j hj => ?_⟩
    · rcases Ren.with_inv hL with ⟨rfl, rfl, rfl⟩ | hL
      · refine ⟨rfl, _, List.mem_cons_of_mem _ List.mem_cons_self, rfl, rfl, ?_⟩
        refine low_BR rfl hlo2 k4 rfl (by show len * sz + off ≤ 0 + cs'.size; omega) (Nat.mul_le_mul_right _ k3) (fun i v _ _ hv => ?_)
        obtain ⟨x, g1, g2⟩ := k6 i v hv
        exact ⟨x, g1, g2 _⟩
      · rcases Ren.with_inv hL with ⟨rfl, rfl, rfl⟩ | hL
        · refine ⟨rfl, _, List.mem_cons_self, rfl, rfl, ?_⟩
          have hsz : 0 < cs.size := (Array.getElem?_eq_some_iff.1 k2).1
          refine low_BR rfl hlo1 k1 rfl (by show 1 + 0 ≤ 0 + cs.size; omega) (Nat.le_refl 1) (fun i v _ hi hv => ?_)
          have hi : i < 1 := hi
          obtain rfl : i = 0 := by omega
          have hv : ((Tr.e : Tr AV).set (posOf 0) (.sl (posOf d) 0 len 0 sz 0)).get (posOf 0) = some v := hv
          rw [Tr.get_same] at hv
          obtain rfl := Option.some.inj hv
          refine ⟨_, k2, .sl (L := ⟨b, 0, len * sz, cap * sz, off⟩) (Ren.with_same _ _ _ _) (Nat.le_refl 0) (by rw [Nat.zero_add]; exact Nat.le_refl _) (.inl ⟨rfl, rfl, k3, Nat.zero_add _⟩)⟩
        · obtain ⟨e1, r, hr, e2, e3, e4⟩ := h1 _ _ _ hL
          exact ⟨e1, r, List.mem_cons_of_mem _ (List.mem_cons_of_mem _ hr), e2, e3, e4.mono l3⟩
    · rcases List.mem_cons.1 hj with rfl | hj
      · exact l2 _ _ _ (Ren.with_same _ _ _ _)
      · exact l3 _ _ _ (h2 j hj)

/-- The listed variables stand in the first heap. -/
theorem first_ok {W : World} {I : List GI} {nx : Nat} (hn : nodB (rowsG I) = true) (hb : belowB (rowsG I) 64 = true) (hnx : Nat.ble 64 nx = true) (hh : ∀ i ∈ I, i.holds W) :
    ∃ ρ : Ren, WR W.heap.size ρ (heapG I nx) W ∧ GV (globG I) ρ := by
  have hlo := belowB_ok hb
  obtain ⟨ρ, h1, h2⟩ := first_go I hn hlo hh
  have hnx : 64 ≤ nx := Nat.le_of_ble_eq_true hnx
  have key : ∀ q B, (heapG I nx).get q = some B → ∃ r ∈ rowsG I, q = posOf r.q ∧ B = rowBlk r true := fun q B hq => by
    have hq : (heapT (rowsG I) true .e).get q = some B := hq
    rcases heapT_some hn hq with h | ⟨_, hq⟩
    · exact h
    · rw [Tr.get_e] at hq; cases hq
  refine ⟨ρ, ⟨fun q B hq => ?_, fun q st L hL => ?_, fun q st L q' st' L' g1 g2 _ => ?_, Nat.le_refl _, fun q n t cur mw ro hq hq64 => ?_, ?_, fun q B hq _ => ?_⟩, ?_⟩
  · obtain ⟨r, hr, rfl, _⟩ := key q B hq
    show (posOf r.q).val < (posOf nx).val
    rw [posOf_val, posOf_val]; have := hlo r hr; omega
  · obtain ⟨rfl, r, hr, rfl, _, hB⟩ := h1 q st L hL
    exact ⟨_, heapT_on (rowsG I) .e hn r hr, hB⟩
  · obtain ⟨_, r, hr, rfl, _⟩ := h1 _ _ _ g1
    obtain ⟨_, r', hr', rfl, _⟩ := h1 _ _ _ g2
    right
    rw [posOf_val, posOf_val]
    exact ⟨hlo r hr, hlo r' hr'⟩
  · obtain ⟨r, hr, rfl, _⟩ := key q _ hq
    rw [posOf_val] at hq64; have := hlo r hr; omega
  · show 64 ≤ (posOf nx).val
    rw [posOf_val]; exact hnx
  · obtain ⟨r, hr, rfl, rfl⟩ := key q B hq
    exact ⟨_, _, _, _, rfl⟩
  · intro g hg
    have : ∃ i ∈ I, i.g = g := by
      clear h1 h2 key hlo hb hn hh
      induction I with
      | nil => cases hg
      | cons i I ih =>
        rcases List.mem_cons.1 (show g ∈ i.g :: globG I from hg) with rfl | hg
        · exact ⟨i, List.mem_cons_self, rfl⟩
        · obtain ⟨j, g1, g2⟩ := ih hg
          exact ⟨j, List.mem_cons_of_mem _ g1, g2⟩
    obtain ⟨i, hi, rfl⟩ := this
    exact .p (h2 i hi) (Nat.le_refl 0) (Nat.le_refl 1)
end
end Go.Proofs.YtlblaopkmigheaaGreatDoor.Ev
namespace Go.Proofs.YtlblaopkmigheaaGreatDoor.Ev
open Go Go.RowKit

noncomputable section
variable {P : Program}

/-- A table of calls that may be put in the place of runs. -/
def TbOK (P : Program) (G : List Nat) (Tb : TbF) : Prop := ∀ N c, CallOK P N G c → CallOK P N G (Tb c)
theorem TbOK.none {G : List Nat} : TbOK P G (fun c => c) := fun _ _ h => h
/-- One known call more: it was run with the table Tb at hand. -/
theorem TbOK.more (hmx : P.follows .mixedOrders = true) {G : List Nat} {Tb Tb' : TbF} (h : TbOK P G Tb) (h' : TbOK P G Tb') {S : Sm} {fuel : Nat} (hok : S.okB G = true)
    (hrun : evCall P (evC P G Tb' fuel) S.f S.args S.heap S.chk = .ok) : TbOK P G (fun c => callT S (Tb c)) :=
  fun N c hc => callT_ok hok (fun N1 => evCall_ok hmx (h' N1) fuel) hrun (h N c hc)
theorem run_ok (hmx : P.follows .mixedOrders = true) {I : List GI} {nx fuel f : Nat} {Tb : TbF} (hTb : TbOK P (globG I) Tb) (hn : nodB (rowsG I) = true) (hb : belowB (rowsG I) 64 = true) (hnx : Nat.ble 64 nx = true)
    (hcc : canCall P f = true) (hrun : evCall P (evC P (globG I) Tb fuel) f .nl (heapG I nx) finT = .ok) {W : World} (hh : ∀ i ∈ I, i.holds W) :
    Calls P f #[] W fun e W' => e = .returned (.bool true) ∧ Below W.heap.size W W' := by
  obtain ⟨ρ, hw, hgv⟩ := first_ok (W := W) hn hb hnx hh
  refine (evCall_ok (N0 := W.heap.size) hmx (hTb _) fuel ρ f .nl [] (heapG I nx) W finT hrun hw hgv .nl hcc).mono ?_
  rintro e W' ⟨y, rfl, r, h', ρ', h1, h2, h3⟩
  obtain ⟨b, rfl, h1⟩ := AV.b_ok (show r.on_b (.bad 97 0) (fun b => iff' b Out.ok (.bad 97 1)) = Out.ok from h1)
  obtain ⟨h4, _⟩ := iff_yes h1
  subst h4
  cases h3
  exact ⟨rfl, h2.below⟩
end
end Go.Proofs.YtlblaopkmigheaaGreatDoor.Ev
