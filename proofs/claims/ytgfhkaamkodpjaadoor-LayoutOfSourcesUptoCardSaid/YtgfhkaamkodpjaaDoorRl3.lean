/- walks: the reference's Insert -/
import Derived.Test.YtgfhkaamkodpjaaDoorRl2
import Derived.Test.YtgfhkaamkodpjaaDoorPlan2
import Derived.Deep.DeepCutAuto
import Derived.Deep.CutBlock
namespace Go.Proofs.YtgfhkaamkodpjaaDoor
open Go Go.RowKit
set_option maxHeartbeats 20000000
attribute [local irreducible] kwB syB clB

/-- In the reference's Insert, called in world W: the inserter at b, the cells r of the result's place, lb of the last place. -/
structure RFr (W : World) (b r lb : Nat) (wr : World) (x : RIns) (last : Pos) (vo vc : Value) : Prop where
  ins : RInsAt wr b x vo vc
  below : Below W.heap.size W wr
  lo : ∀ j, rfoot b vo vc j → W.heap.size ≤ j
  ret : Blk wr r 29 #[.int .i64 0, .int .i64 0]
  retf : ¬ rfoot b vo vc r
  lst : Blk wr lb 29 #[.int .i64 last.line, .int .i64 last.col]
  lstf : ¬ rfoot b vo vc lb
  llo : W.heap.size ≤ lb
  rlo : W.heap.size ≤ r
  rl : r ≠ lb

section
variable {W wr w' : World} {b r lb : Nat} {x x' : RIns} {last : Pos} {vo vc : Value}
theorem RFr.step (h : RFr W b r lb wr x last vo vc) (hS : RStep wr b vo vc x' w') : ∃ vo' vc', RFr W b r lb w' x' last vo' vc' := by
  obtain ⟨vo', vc', h1, h2, h3⟩ := hS
  have hsz := h.below.size
  refine ⟨vo', vc', h1, h.below.trans (h2.below hsz (fun j hj hf => absurd (h.lo j hf) (by omega))), fun j hj => (h3 j hj).elim (h.lo j) (fun h => Nat.le_trans hsz h), h.ret.out h2 h.retf, fun hj => (h3 _ hj).elim h.retf (fun h4 => ?_), h.lst.out h2 h.lstf, fun hj => (h3 _ hj).elim h.lstf (fun h4 => ?_), h.llo, h.rlo, h.rl⟩
  · have := h.ret.lt
    omega
  · have := h.lst.lt
    omega
theorem RFr.step1 {vo' vc' : Value} (h : RFr W b r lb wr x last vo vc) (h1 : RInsAt w' b x' vo' vc') (h2 : Outside (rfoot b vo vc) wr w') (h3 : ∀ k, rfoot b vo' vc' k → rfoot b vo vc k ∨ wr.heap.size ≤ k) : RFr W b r lb w' x' last vo' vc' := by
  have hsz := h.below.size
  refine ⟨h1, h.below.trans (h2.below hsz (fun j hj hf => absurd (h.lo j hf) (by omega))), fun j hj => (h3 j hj).elim (h.lo j) (fun h => Nat.le_trans hsz h), h.ret.out h2 h.retf, fun hj => (h3 _ hj).elim h.retf (fun h4 => ?_), h.lst.out h2 h.lstf, fun hj => (h3 _ hj).elim h.lstf (fun h4 => ?_), h.llo, h.rlo, h.rl⟩
  · have := h.ret.lt
    omega
  · have := h.lst.lt
    omega
theorem RFr.under (h : RFr W b r lb wr x last vo vc) (hb : Below wr.heap.size wr w') : RFr W b r lb w' x last vo vc :=
  ⟨h.ins.below hb, h.below.trans (hb.mono h.below.size), h.lo, h.ret.below hb h.ret.lt, h.retf, h.lst.below hb h.lst.lt, h.lstf, h.llo, h.rlo, h.rl⟩
theorem RFr.alloc (h : RFr W b r lb wr x last vo vc) (o : Obj) : RFr W b r lb (wr.alloc o) x last vo vc := h.under ((Below.refl _ _).alloc (Nat.le_refl _) o)
theorem RFr.drew (h : RFr W b r lb wr x last vo vc) : RFr W b r lb wr.drew x last vo vc := h.under ((Below.refl _ _).drew)
theorem RFr.putLast (h : RFr W b r lb wr x last vo vc) (p : Pos) : RFr W b r lb ((wr.setCell ⟨lb, 0, none⟩ (.int .i64 p.line)).setCell ⟨lb, 1, none⟩ (.int .i64 p.col)) x p vo vc := by
  have hO : Outside (fun k => k = lb) wr ((wr.setCell ⟨lb, 0, none⟩ (.int .i64 p.line)).setCell ⟨lb, 1, none⟩ (.int .i64 p.col)) := ((Outside.refl (fun k => k = lb) _).setCell (p := ⟨lb, 0, none⟩) (.inl rfl) _).setCell (p := ⟨lb, 1, none⟩) (.inl rfl) _
  exact ⟨h.ins.keep hO (fun k hk e => h.lstf (e ▸ hk)), (h.below.setCell (p := ⟨lb, 0, none⟩) h.llo _).setCell (p := ⟨lb, 1, none⟩) h.llo _, h.lo, h.ret.out hO h.rl, h.retf, (h.lst.put 0 _).put 1 _, h.lstf, h.llo, h.rlo, h.rl⟩
theorem RFr.putNx (h : RFr W b r lb wr x last vo vc) (p : Pos) : RFr W b r lb ((wr.setCell ⟨b, 2, none⟩ (.int .i64 p.line)).setCell ⟨b, 3, none⟩ (.int .i64 p.col)) { x with nx := p } last vo vc := by
  have hO : Outside (fun k => k = b) wr ((wr.setCell ⟨b, 2, none⟩ (.int .i64 p.line)).setCell ⟨b, 3, none⟩ (.int .i64 p.col)) := ((Outside.refl (fun k => k = b) _).setCell (p := ⟨b, 2, none⟩) (.inl rfl) _).setCell (p := ⟨b, 3, none⟩) (.inl rfl) _
  have hbl := h.lo b (.inl rfl)
  exact ⟨⟨(h.ins.blk.put 2 _).put 3 _, own_out h.ins.out hO (fun g hg e => own_apart h.ins.out h.ins.blk (by decide) (e ▸ hg)), own_out h.ins.cols hO (fun g hg e => own_apart h.ins.cols h.ins.blk (by decide) (e ▸ hg))⟩,
    (h.below.setCell (p := ⟨b, 2, none⟩) hbl _).setCell (p := ⟨b, 3, none⟩) hbl _, h.lo, h.ret.out hO (fun e => h.retf (.inl e)), h.retf, h.lst.out hO (fun e => h.lstf (.inl e)), h.lstf, h.llo, h.rlo, h.rl⟩
theorem RFr.putLt (h : RFr W b r lb wr x last vo vc) (p : Pos) : RFr W b r lb ((wr.setCell ⟨b, 4, none⟩ (.int .i64 p.line)).setCell ⟨b, 5, none⟩ (.int .i64 p.col)) { x with lt := p } last vo vc := by
  have hO : Outside (fun k => k = b) wr ((wr.setCell ⟨b, 4, none⟩ (.int .i64 p.line)).setCell ⟨b, 5, none⟩ (.int .i64 p.col)) := ((Outside.refl (fun k => k = b) _).setCell (p := ⟨b, 4, none⟩) (.inl rfl) _).setCell (p := ⟨b, 5, none⟩) (.inl rfl) _
  have hbl := h.lo b (.inl rfl)
  exact ⟨⟨(h.ins.blk.put 4 _).put 5 _, own_out h.ins.out hO (fun g hg e => own_apart h.ins.out h.ins.blk (by decide) (e ▸ hg)), own_out h.ins.cols hO (fun g hg e => own_apart h.ins.cols h.ins.blk (by decide) (e ▸ hg))⟩,
    (h.below.setCell (p := ⟨b, 4, none⟩) hbl _).setCell (p := ⟨b, 5, none⟩) hbl _, h.lo, h.ret.out hO (fun e => h.retf (.inl e)), h.retf, h.lst.out hO (fun e => h.lstf (.inl e)), h.lstf, h.llo, h.rlo, h.rl⟩
/-- the error's place is put into the result -/
theorem RFr.putRet (h : RFr W b r lb wr x last vo vc) (p : Pos) : ((wr.setCell ⟨r, 0, none⟩ (.int .i64 p.line)).cell? ⟨r, 0, none⟩ = some (.int .i64 p.line)) ∧
    (((wr.setCell ⟨r, 0, none⟩ (.int .i64 p.line)).setCell ⟨r, 1, none⟩ (.int .i64 p.col)).cell? ⟨r, 1, none⟩ = some (.int .i64 p.col)) ∧ Below W.heap.size W ((wr.setCell ⟨r, 0, none⟩ (.int .i64 p.line)).setCell ⟨r, 1, none⟩ (.int .i64 p.col)) := by
  have hp0 := h.ret.put 0 (.int .i64 p.line)
  have hp1 := hp0.put 1 (.int .i64 p.col)
  have hq0 := hp0.cell 0
  have hq1 := hp1.cell 1
  simp at hq0 hq1
  exact ⟨hq0, hq1, (h.below.setCell (p := ⟨r, 0, none⟩) h.rlo _).setCell (p := ⟨r, 1, none⟩) h.rlo _⟩
end

theorem rfoldS_cons (t : Tok) (r : List Tok) (f : Bool) (q : Pos) (x : RIns) : rfoldS (t :: r) f q x = if (rtokS x f q t).2 = 0 then rfoldS r false t.pos (rtokS x f q t).1 else ((rtokS x f q t).1, some (t.pos, (rtokS x f q t).2)) := rfl

theorem drop_at {l : List Tok} {k : Nat} {t : Tok} (h : l[k]? = some t) : l.drop k = t :: l.drop (k + 1) := by
  obtain ⟨hk, he⟩ := List.getElem?_eq_some_iff.1 h
  rw [List.drop_eq_getElem_cons hk, he]
theorem rins_err {l : List Tok} {k : Nat} {t : Tok} {f : Bool} {last : Pos} {x : RIns} {E : Int} (h : rfoldS (l.drop k) f last x = rfoldS l true ⟨1, 0⟩ rstart) (ht : l[k]? = some t) (he : (rtokS x f last t).2 = E) (hE : E ≠ 0) : rinsS l = ([], t.pos, E) := by
  rw [drop_at ht, rfoldS_cons, if_neg (by rw [he]; exact hE), he] at h
  unfold rinsS
  rw [← h]
theorem rins_next {l : List Tok} {k : Nat} {t : Tok} {f : Bool} {last : Pos} {x : RIns} (h : rfoldS (l.drop k) f last x = rfoldS l true ⟨1, 0⟩ rstart) (ht : l[k]? = some t) (he : (rtokS x f last t).2 = 0) :
    rfoldS (l.drop (k + 1)) (decide (k + 1 = 0)) t.pos (rtokS x f last t).1 = rfoldS l true ⟨1, 0⟩ rstart := by
  rw [drop_at ht, rfoldS_cons, if_pos he] at h
  simpa using h

theorem rtok_ok {t : Tok} {last : Pos} (h1 : validTok t = true) (h2 : ¬ t.pos.col < 1) (h3 : aft last t.pos = true) : ¬ (validTok t = false ∨ t.pos.col < 1 ∨ aft last t.pos = false) := by
  rw [h1, h3]
  rintro (h | h | h)
  · cases h
  · exact h2 h
  · cases h

theorem strB (s : ByteArray) (l : List UInt8) : (s.toList == l) = decide (s = bstr l) := by
  rw [ByteArray.toList_eq, Bool.eq_iff_iff]
  simp only [decide_eq_true_eq, beq_iff_eq]
  constructor
  · intro h; subst h; obtain ⟨a⟩ := s; simp [bstr]
  · rintro rfl; simp [bstr]
def PosOk (p : Pos) : Prop := p = zp ∨ 1 ≤ p.line
structure RInv (x : RIns) (k : Nat) : Prop where
  last : x.cols.getLast? = some 1
  nest : x.cols.length ≤ 64
  out : x.out.length ≤ 1 + 67 * k
  nx : PosOk x.nx
  lt : PosOk x.lt
def RRel (W : World) (l : List Tok) (b r lb k : Nat) (wr : World) : Prop :=
  ∃ x last vo vc, RFr W b r lb wr x last vo vc ∧ rfoldS (l.drop k) (decide (k = 0)) last x = rfoldS l true ⟨1, 0⟩ rstart ∧ 1 ≤ last.line ∧ RInv x k

theorem rbeginS_ok (x : RIns) (t : Tok) (hc : x.cols.getLast? = some 1) (hn : x.cols.length ≤ 64) :
    (rbeginS x t).1.cols.getLast? = some 1 ∧ (rbeginS x t).1.cols.length ≤ 64 ∧ (rbeginS x t).1.out.length ≤ x.out.length + 66 ∧ (rbeginS x t).1.nx = x.nx ∧ (rbeginS x t).1.lt = x.lt := by
  unfold rbeginS
  split
  · exact ⟨hc, hn, by simp, rfl, rfl⟩
  · split
    · exact ⟨hc, hn, by simp, rfl, rfl⟩
    · split
      · exact ⟨hc, hn, by simp, rfl, rfl⟩
      · refine ⟨?_, by simp; omega, by simp, rfl, rfl⟩
        cases hx : x.cols with
        | nil => rw [hx] at hc; cases hc
        | cons a r => rw [hx] at hc; simpa using hc
theorem rplainS_ok (x : RIns) (t : Tok) (st : Bool) (hc : x.cols.getLast? = some 1) (ht : 1 ≤ t.pos.col) :
    (rplainS x t st).cols.getLast? = some 1 ∧ (rplainS x t st).cols.length ≤ x.cols.length ∧ (rplainS x t st).out.length ≤ x.out.length + x.cols.length + 2 ∧ (rplainS x t st).nx = x.nx ∧ (rplainS x t st).lt = x.lt := by
  have hA : (rplainA x t st).2.getLast? = some 1 ∧ (rplainA x t st).2.length ≤ x.cols.length ∧ (rplainA x t st).1.length ≤ x.out.length + x.cols.length := by
    unfold rplainA
    split
    · exact ⟨closeLoop_last _ ht _ _ hc, (closeLoop_len _ _ _).1, (closeLoop_len _ _ _).2⟩
    · exact ⟨hc, Nat.le_refl _, Nat.le_add_right _ _⟩
  have hB : (rplainB t x.cols.length (rplainA x t st)).2.getLast? = some 1 ∧ (rplainB t x.cols.length (rplainA x t st)).2.length ≤ x.cols.length ∧ (rplainB t x.cols.length (rplainA x t st)).1.length ≤ x.out.length + x.cols.length + 1 := by
    unfold rplainB
    split
    · rename_i h
      simp only [Bool.and_eq_true, decide_eq_true_eq] at h
      exact ⟨tail_last hA.1 h.2, by simp; omega, by simp; omega⟩
    · exact ⟨hA.1, hA.2.1, by omega⟩
  refine ⟨hB.1, hB.2.1, ?_, rfl, rfl⟩
  unfold rplainS rplainC
  dsimp only
  split
  · simp; omega
  · omega

/-- a token's block has begun, or what stands in front of it has been put out -/
def PassRel (W : World) (b r lb N : Nat) (t : Tok) (p : RIns → Prop) (w' : World) : Prop :=
  ∃ y vo vc, RFr W b r lb w' y t.pos vo vc ∧ Blk w' N 40 #[.int .i64 t.kind, .int .i64 t.int, .string t.str, .int .i64 t.pos.line, .int .i64 t.pos.col] ∧ ¬ rfoot b vo vc N ∧ p y

theorem newRIns (w : World) : RInsAt (((w.alloc (.cells #[.int .i64 0, .int .i64 0] 29)).alloc (.cells #[.int .i64 1] 3)).alloc
      (.cells #[.slice none 0 0, .slice (some ⟨w.heap.size + 1, 0, none⟩) 1 1, .int .i64 0, .int .i64 0, .int .i64 0, .int .i64 0] 76))
    (w.heap.size + 1 + 1) ⟨[], [1], zp, zp⟩ (.slice none 0 0) (.slice (some ⟨w.heap.size + 1, 0, none⟩) 1 1) := by
  have hB : Blk ((w.alloc (.cells #[.int .i64 0, .int .i64 0] 29)).alloc (.cells #[.int .i64 1] 3)) (w.heap.size + 1) 3 #[.int .i64 1] := by
    have := Blk.new (w.alloc (.cells #[.int .i64 0, .int .i64 0] 29)) 3 #[.int .i64 1]
    simpa using this
  refine ⟨?_, World.ownsRow_nil _ _ _ _, ⟨rfl, .inr ⟨w.heap.size + 1, 1, #[.int .i64 1], rfl, Nat.zero_le _, hB.alloc _, Nat.le_refl _, by unfold maxLen; omega, rfl, rfl⟩⟩⟩
  have := Blk.new ((w.alloc (.cells #[.int .i64 0, .int .i64 0] 29)).alloc (.cells #[.int .i64 1] 3)) 76 #[.slice none 0 0, .slice (some ⟨w.heap.size + 1, 0, none⟩) 1 1, .int .i64 0, .int .i64 0, .int .i64 0, .int .i64 0]
  simpa [zp] using this

set_option maxRecDepth 100000 in
theorem rinsert_any (B1 : Nat) (A : Option Addr) (n c : Nat) (l : List Tok) (w : World) (hR : Rd w B1 5 A n (cellsOf Tok.cells l)) (hB1 : B1 ≤ w.heap.size)
    (hn : n ≤ 10000000) (hs : ∀ t ∈ l, t.str.size ≤ 1000000000000) :
    Calls Tryd.prog 25 #[.slice A n c] w fun e w' =>
      (∃ A' n' c', e = .returned (.tuple #[.slice A' n' c', (rinsS l).2.1.v, .int .i64 (rinsS l).2.2]) ∧ Rd w' w'.heap.size 5 A' n' (cellsOf Tok.cells (rinsS l).1)) ∧ Below w.heap.size w w' := by
  go_enter Tryd.func25, Tryd.ntmps25
  go_wp2_with fail
  have hI := newRIns w
  refine (put_step _ ⟨[], [1], zp, zp⟩ _ _ 5 ⟨1, 1⟩ _ hI (by decide)).mono ?_
  rintro e w1 ⟨rfl, hS⟩
  have hF0 : Blk (((w.alloc (.cells #[.int .i64 0, .int .i64 0] 29)).alloc (.cells #[.int .i64 1] 3)).alloc (.cells #[.slice none 0 0, .slice (some ⟨w.heap.size + 1, 0, none⟩) 1 1, .int .i64 0, .int .i64 0, .int .i64 0, .int .i64 0] 76)) w.heap.size 29 #[.int .i64 0, .int .i64 0] := ((Blk.new w _ _).alloc _).alloc _
  have hfr : ¬ rfoot (w.heap.size + 1 + 1) (.slice none 0 0) (.slice (some ⟨w.heap.size + 1, 0, none⟩) 1 1) w.heap.size := by
    intro hj
    rcases hj with hj | hj | hj
    · omega
    · cases hj
    · simp [Value.ownBlock] at hj
  have hlo : ∀ j, rfoot (w.heap.size + 1 + 1) (.slice none 0 0) (.slice (some ⟨w.heap.size + 1, 0, none⟩) 1 1) j → w.heap.size ≤ j := by
    intro j hj
    rcases hj with rfl | hj | hj
    · omega
    · cases hj
    · simp [Value.ownBlock] at hj; omega
  obtain ⟨vo1, vc1, hI1, hO1, hf1⟩ := hS
  have hsz1 : w.heap.size + 1 + 1 + 1 ≤ w1.heap.size := by simpa using hO1.size
  have hFr : RFr w (w.heap.size + 1 + 1) w.heap.size w1.heap.size (w1.alloc (.cells #[.int .i64 1, .int .i64 0] 29)) rstart ⟨1, 0⟩ vo1 vc1 := by
    have hbl : Below w.heap.size w w1 := ((((Below.refl w.heap.size w).alloc (Nat.le_refl _) _).alloc (by simp) _).alloc (by simp; omega) _).trans (hO1.below (by simp; omega) (fun k hk hf => absurd (hlo k hf) (by omega)))
    refine ⟨hI1.alloc _, hbl.alloc (by omega) _, fun j hj => ?_, (hF0.out hO1 hfr).alloc _, fun hj => ?_, Blk.new _ _ _, fun hj => ?_, by omega, Nat.le_refl _, by omega⟩
    · rcases hf1 j hj with h | h
      · exact hlo j h
      · simp at h; omega
    · rcases hf1 _ hj with h | h
      · exact hfr h
      · simp at h; omega
    · have := hI1.lt hj; omega
  have hrel : RRel w l (w.heap.size + 1 + 1) w.heap.size w1.heap.size 0 (w1.alloc (.cells #[.int .i64 1, .int .i64 0] 29)) := ⟨rstart, ⟨1, 0⟩, vo1, vc1, hFr, rfl, by decide, ⟨rfl, by decide, by decide, .inl rfl, .inl rfl⟩⟩
  have HR := Lib.hid hR
  have HS := Lib.hid hs
  have hlen := hR.len Tok.cells_len (by decide)
  have HL := Lib.hid hlen
  have HSZ := Lib.hid hsz1
  clear hI hFr hF0 hfr hlo hI1 hO1 hf1 hR hs hlen hsz1
  go_wp2_with fail
  go_loopw [7] (fun i wr => ∃ k : Nat, k ≤ n ∧ i = .int .i64 k ∧ RRel w l (w.heap.size + 1 + 1) w.heap.size w1.heap.size k wr) (fun i _ => n - (intOf i).toNat)
  case atStart => exact ⟨0, Nat.zero_le _, rfl, hrel⟩
  case round =>
    obtain ⟨k, hk, rfl, x, last, vo, vc, hF, hfold, hlin, hinv⟩ := hrel
    by_cases hlt : k < n
    · obtain ⟨tb, off, t, rfl, htb, ht, hc0, hc1, hc2, hc3, hc4⟩ := (HR.out.keep (w' := wr) (fun p hp => hF.below.cell (by omega))).tok hlt
      have HT := Lib.hid ht
      obtain ⟨f0, hf0⟩ : ∃ f0, ((k : Int) == 0) = f0 := ⟨_, rfl⟩
      have HF0 : Hid (decide (k = 0) = f0) := Lib.hid (by rw [← hf0, Bool.eq_iff_iff, beq_iff_eq, decide_eq_true_iff]; omega)
      obtain ⟨st, hst⟩ : ∃ st, decide (last.line < t.pos.line) = st := ⟨_, rfl⟩
      have HLL := Lib.hid hlin
      obtain ⟨v, hv⟩ : ∃ v, validTok t = v := ⟨_, rfl⟩
      obtain ⟨af, haf⟩ : ∃ af, aft last t.pos = af := ⟨_, rfl⟩
      have HST := Lib.hid hst
      have HV := Lib.hid hv
      have HAF := Lib.hid haf
      have HF := Lib.hid hF
      have HFa := Lib.hid (hF.alloc (.cells #[.int .i64 t.kind, .int .i64 t.int, .string t.str, .int .i64 t.pos.line, .int .i64 t.pos.col] 40))
      have HNr := Lib.hid (Blk.new wr 40 #[.int .i64 t.kind, .int .i64 t.int, .string t.str, .int .i64 t.pos.line, .int .i64 t.pos.col])
      have HFO := Lib.hid hfold
      have HI := Lib.hid hinv
      have hl0 := hF.lst.cell
      have hl1 := hF.lst.lt
      clear hF hfold hinv ht hv haf hlin
      cases f0
      · have HSS : Hid ((decide (k = 0) || decide (last.line < t.pos.line)) = st) := Lib.hid (by rw [HF0.out, HST.out]; rfl)
        go_wp2_with fail
        refine (rvalid_any t _ (HS.out t (List.mem_of_getElem? HT.out))).mono ?_
        rw [HV.out]
        rintro e w2 ⟨rfl, hb2⟩
        have F2 := Lib.hid (HFa.out.under hb2)
        have hN2 := HNr.out.below hb2 HNr.out.lt
        have HN2 := Lib.hid hN2
        have hT2 := hN2.cell
        have hTl := hN2.lt
        have hl2 := F2.out.lst.cell
        have hll := F2.out.lst.lt
        clear hb2 hN2 hl0 hl1
        cases v
        · have hr := F2.out.ret.cell
          have hrf := F2.out.ret.frozen
          have hrl := F2.out.ret.lt
          go_wp2_with (first | ((with_reducible show wpPlan _ _ _ _ _ (Act.put _ _ _) _); simp only [List.getElem_toArray, List.getElem_cons_succ, List.getElem_cons_zero, Act.put, List.setIfInBounds_toArray, List.set_cons_zero, List.set_cons_succ]) | ((with_reducible show wpPlan _ _ _ _ _ _ _); first | refine wpPlan_nil ?_ | (refine wpPlan_read0 rfl ?hw rfl (fun _ _ _ => ?_); case hw => ((conv => (lhs; whnf)); first | done | with_reducible rfl)) | (refine wpPlan_read1d rfl ?hw rfl rfl (fun _ _ _ => ?_); case hw => ((conv => (lhs; whnf)); first | done | with_reducible rfl)) | (refine wpPlan_eff rfl ?hw (fun _ _ => ?_); case hw => ((conv => (lhs; whnf)); first | done | with_reducible rfl)) | (refine wpPlan_skip0 rfl ?hw ?_; case hw => ((conv => (lhs; whnf)); first | done | with_reducible rfl)) | (refine wpPlan_skip1d rfl ?hw ?_; case hw => ((conv => (lhs; whnf)); first | done | with_reducible rfl)) | (refine wpPlan_skip2 rfl ?hw ?_; case hw => ((conv => (lhs; whnf)); first | done | with_reducible rfl)) | (refine wpPlan_read1 rfl ?hw rfl (fun _ _ _ => ?_); case hw => ((conv => (lhs; whnf)); first | done | with_reducible rfl)) | refine wpPlan_fork ?_ ?_) | ((with_reducible show Owed _ _ _ _ _ _ _ _ _); first | refine Owed.none_ ?_ | refine Owed.nil_ ?_ | refine Owed.miss rfl ?_ | refine Owed.hit ?_ ?_) | ((with_reducible show Same _ _ _ _ _); intro _; go_simp; done) | (with_reducible exact True.intro) | ((with_reducible show Code.wp _ (Code.region 10 _ true) _ _ _); refine wp_region_plan [(0, 1, []), (1, 1, []), (2, 0, []), (3, 2, []), (4, 0, [])] (by kernel_rfl) (by kernel_rfl) (by kernel_rfl) ?_) | ((with_reducible show Code.wp _ (Code.region 12 _ true) _ _ _); refine wp_region_plan [(0, 1, []), (1, 1, []), (2, 0, []), (3, 2, []), (4, 0, [])] (by kernel_rfl) (by kernel_rfl) (by kernel_rfl) ?_) | ((with_reducible show Code.wp _ (Code.region 21 _ true) _ _ _); refine wp_region_plan [(0, 1, []), (1, 1, []), (2, 0, []), (3, 0, []), (4, 2, []), (5, 0, [])] (by kernel_rfl) (by kernel_rfl) (by kernel_rfl) ?_) | ((with_reducible show Code.wp _ (Code.region 22 _ true) _ _ _); refine wp_region_plan [(0, 0, []), (1, 0, []), (2, 1, []), (3, 1, []), (4, 1, []), (5, 1, []), (6, 2, [2, 3, 4]), (7, 2, []), (8, 1, []), (9, 1, []), (10, 2, [])] (by kernel_rfl) (by kernel_rfl) (by kernel_rfl) ?_) | ((with_reducible show Code.wp _ (Code.region 31 _ true) _ _ _); refine wp_region_plan [(0, 0, []), (1, 1, []), (2, 1, []), (3, 1, []), (4, 1, []), (5, 1, []), (6, 0, []), (7, 0, []), (8, 1, []), (9, 1, []), (10, 1, []), (11, 1, []), (12, 1, []), (13, 0, []), (14, 0, []), (15, 1, []), (16, 1, []), (17, 1, []), (18, 0, []), (19, 1, []), (20, 1, []), (21, 1, []), (22, 2, []), (23, 0, []), (24, 0, [])] (by kernel_rfl) (by kernel_rfl) (by kernel_rfl) ?_) | ((with_reducible show Code.wp _ (Code.region 32 _ true) _ _ _); refine wp_region_plan [(0, 0, []), (1, 1, []), (2, 1, []), (3, 1, []), (4, 0, []), (5, 2, []), (6, 0, [])] (by kernel_rfl) (by kernel_rfl) (by kernel_rfl) ?_) | ((with_reducible show Code.wp _ (Code.region 34 _ true) _ _ _); refine wp_region_plan [(0, 0, []), (1, 1, []), (2, 1, []), (3, 1, []), (4, 0, []), (5, 2, []), (6, 0, [])] (by kernel_rfl) (by kernel_rfl) (by kernel_rfl) ?_))
          have hins : rinsS l = ([], t.pos, 1) := rins_err HFO.out HT.out (by unfold rtokS; rw [if_pos (.inl HV.out)]) (by decide)
          rw [hins]
          obtain ⟨q0, q1, qb⟩ := F2.out.putRet t.pos
          refine bodyPost_ret (v := .tuple #[.slice none 0 0, t.pos.v, .int .i64 1]) (by simp [results, Tryd.results25, go_sem, q0, q1]) rfl ⟨by first | exact ⟨none, 0, 0, rfl, Rd.nil⟩ | exact ⟨none, 0, ⟨0, rfl⟩, Rd.nil⟩, qb.drew⟩
        by_cases hcol : t.pos.col < 1
        · have hcolb : decide (t.pos.col < 1) = true := decide_eq_true hcol
          have HCO := Lib.hid hcol
          clear hcol
          have hr := F2.out.ret.cell
          have hrf := F2.out.ret.frozen
          have hrl := F2.out.ret.lt
          go_wp2_with (first | ((with_reducible show wpPlan _ _ _ _ _ (Act.put _ _ _) _); simp only [List.getElem_toArray, List.getElem_cons_succ, List.getElem_cons_zero, Act.put, List.setIfInBounds_toArray, List.set_cons_zero, List.set_cons_succ]) | ((with_reducible show wpPlan _ _ _ _ _ _ _); first | refine wpPlan_nil ?_ | (refine wpPlan_read0 rfl ?hw rfl (fun _ _ _ => ?_); case hw => ((conv => (lhs; whnf)); first | done | with_reducible rfl)) | (refine wpPlan_read1d rfl ?hw rfl rfl (fun _ _ _ => ?_); case hw => ((conv => (lhs; whnf)); first | done | with_reducible rfl)) | (refine wpPlan_eff rfl ?hw (fun _ _ => ?_); case hw => ((conv => (lhs; whnf)); first | done | with_reducible rfl)) | (refine wpPlan_skip0 rfl ?hw ?_; case hw => ((conv => (lhs; whnf)); first | done | with_reducible rfl)) | (refine wpPlan_skip1d rfl ?hw ?_; case hw => ((conv => (lhs; whnf)); first | done | with_reducible rfl)) | (refine wpPlan_skip2 rfl ?hw ?_; case hw => ((conv => (lhs; whnf)); first | done | with_reducible rfl)) | (refine wpPlan_read1 rfl ?hw rfl (fun _ _ _ => ?_); case hw => ((conv => (lhs; whnf)); first | done | with_reducible rfl)) | refine wpPlan_fork ?_ ?_) | ((with_reducible show Owed _ _ _ _ _ _ _ _ _); first | refine Owed.none_ ?_ | refine Owed.nil_ ?_ | refine Owed.miss rfl ?_ | refine Owed.hit ?_ ?_) | ((with_reducible show Same _ _ _ _ _); intro _; go_simp; done) | (with_reducible exact True.intro) | ((with_reducible show Code.wp _ (Code.region 10 _ true) _ _ _); refine wp_region_plan [(0, 1, []), (1, 1, []), (2, 0, []), (3, 2, []), (4, 0, [])] (by kernel_rfl) (by kernel_rfl) (by kernel_rfl) ?_) | ((with_reducible show Code.wp _ (Code.region 12 _ true) _ _ _); refine wp_region_plan [(0, 1, []), (1, 1, []), (2, 0, []), (3, 2, []), (4, 0, [])] (by kernel_rfl) (by kernel_rfl) (by kernel_rfl) ?_) | ((with_reducible show Code.wp _ (Code.region 21 _ true) _ _ _); refine wp_region_plan [(0, 1, []), (1, 1, []), (2, 0, []), (3, 0, []), (4, 2, []), (5, 0, [])] (by kernel_rfl) (by kernel_rfl) (by kernel_rfl) ?_) | ((with_reducible show Code.wp _ (Code.region 22 _ true) _ _ _); refine wp_region_plan [(0, 0, []), (1, 0, []), (2, 1, []), (3, 1, []), (4, 1, []), (5, 1, []), (6, 2, [2, 3, 4]), (7, 2, []), (8, 1, []), (9, 1, []), (10, 2, [])] (by kernel_rfl) (by kernel_rfl) (by kernel_rfl) ?_) | ((with_reducible show Code.wp _ (Code.region 31 _ true) _ _ _); refine wp_region_plan [(0, 0, []), (1, 1, []), (2, 1, []), (3, 1, []), (4, 1, []), (5, 1, []), (6, 0, []), (7, 0, []), (8, 1, []), (9, 1, []), (10, 1, []), (11, 1, []), (12, 1, []), (13, 0, []), (14, 0, []), (15, 1, []), (16, 1, []), (17, 1, []), (18, 0, []), (19, 1, []), (20, 1, []), (21, 1, []), (22, 2, []), (23, 0, []), (24, 0, [])] (by kernel_rfl) (by kernel_rfl) (by kernel_rfl) ?_) | ((with_reducible show Code.wp _ (Code.region 32 _ true) _ _ _); refine wp_region_plan [(0, 0, []), (1, 1, []), (2, 1, []), (3, 1, []), (4, 0, []), (5, 2, []), (6, 0, [])] (by kernel_rfl) (by kernel_rfl) (by kernel_rfl) ?_) | ((with_reducible show Code.wp _ (Code.region 34 _ true) _ _ _); refine wp_region_plan [(0, 0, []), (1, 1, []), (2, 1, []), (3, 1, []), (4, 0, []), (5, 2, []), (6, 0, [])] (by kernel_rfl) (by kernel_rfl) (by kernel_rfl) ?_))
          have hins : rinsS l = ([], t.pos, 1) := rins_err HFO.out HT.out (by unfold rtokS; rw [if_pos (.inr (.inl HCO.out))]) (by decide)
          rw [hins]
          obtain ⟨q0, q1, qb⟩ := F2.out.putRet t.pos
          refine bodyPost_ret (v := .tuple #[.slice none 0 0, t.pos.v, .int .i64 1]) (by simp [results, Tryd.results25, go_sem, q0, q1]) rfl ⟨by first | exact ⟨none, 0, 0, rfl, Rd.nil⟩ | exact ⟨none, 0, ⟨0, rfl⟩, Rd.nil⟩, qb.drew⟩
        have hcolb : decide (t.pos.col < 1) = false := decide_eq_false hcol
        have HCO := Lib.hid hcol
        clear hcol
        go_wp2_with fail
        refine (after_any last t.pos _).mono ?_
        rw [show decide (last.line < t.pos.line ∨ t.pos.line = last.line ∧ last.col < t.pos.col) = aft last t.pos from rfl, HAF.out]
        rintro e w3 ⟨rfl, hb3⟩
        have F3 := Lib.hid (F2.out.under hb3)
        have hN3 := HN2.out.below hb3 HN2.out.lt
        have HN3 := Lib.hid hN3
        have hT3 := hN3.cell
        have hTl3 := hN3.lt
        have hNl : Hid (w1.heap.size < wr.heap.size) := Lib.hid HF.out.lst.lt
        clear hb3 hN3 hT2 hTl hl2 hll hcolb
        cases af
        · have hr := F3.out.ret.cell
          have hrf := F3.out.ret.frozen
          have hrl := F3.out.ret.lt
          go_wp2_with (first | ((with_reducible show wpPlan _ _ _ _ _ (Act.put _ _ _) _); simp only [List.getElem_toArray, List.getElem_cons_succ, List.getElem_cons_zero, Act.put, List.setIfInBounds_toArray, List.set_cons_zero, List.set_cons_succ]) | ((with_reducible show wpPlan _ _ _ _ _ _ _); first | refine wpPlan_nil ?_ | (refine wpPlan_read0 rfl ?hw rfl (fun _ _ _ => ?_); case hw => ((conv => (lhs; whnf)); first | done | with_reducible rfl)) | (refine wpPlan_read1d rfl ?hw rfl rfl (fun _ _ _ => ?_); case hw => ((conv => (lhs; whnf)); first | done | with_reducible rfl)) | (refine wpPlan_eff rfl ?hw (fun _ _ => ?_); case hw => ((conv => (lhs; whnf)); first | done | with_reducible rfl)) | (refine wpPlan_skip0 rfl ?hw ?_; case hw => ((conv => (lhs; whnf)); first | done | with_reducible rfl)) | (refine wpPlan_skip1d rfl ?hw ?_; case hw => ((conv => (lhs; whnf)); first | done | with_reducible rfl)) | (refine wpPlan_skip2 rfl ?hw ?_; case hw => ((conv => (lhs; whnf)); first | done | with_reducible rfl)) | (refine wpPlan_read1 rfl ?hw rfl (fun _ _ _ => ?_); case hw => ((conv => (lhs; whnf)); first | done | with_reducible rfl)) | refine wpPlan_fork ?_ ?_) | ((with_reducible show Owed _ _ _ _ _ _ _ _ _); first | refine Owed.none_ ?_ | refine Owed.nil_ ?_ | refine Owed.miss rfl ?_ | refine Owed.hit ?_ ?_) | ((with_reducible show Same _ _ _ _ _); intro _; go_simp; done) | (with_reducible exact True.intro) | ((with_reducible show Code.wp _ (Code.region 10 _ true) _ _ _); refine wp_region_plan [(0, 1, []), (1, 1, []), (2, 0, []), (3, 2, []), (4, 0, [])] (by kernel_rfl) (by kernel_rfl) (by kernel_rfl) ?_) | ((with_reducible show Code.wp _ (Code.region 12 _ true) _ _ _); refine wp_region_plan [(0, 1, []), (1, 1, []), (2, 0, []), (3, 2, []), (4, 0, [])] (by kernel_rfl) (by kernel_rfl) (by kernel_rfl) ?_) | ((with_reducible show Code.wp _ (Code.region 21 _ true) _ _ _); refine wp_region_plan [(0, 1, []), (1, 1, []), (2, 0, []), (3, 0, []), (4, 2, []), (5, 0, [])] (by kernel_rfl) (by kernel_rfl) (by kernel_rfl) ?_) | ((with_reducible show Code.wp _ (Code.region 22 _ true) _ _ _); refine wp_region_plan [(0, 0, []), (1, 0, []), (2, 1, []), (3, 1, []), (4, 1, []), (5, 1, []), (6, 2, [2, 3, 4]), (7, 2, []), (8, 1, []), (9, 1, []), (10, 2, [])] (by kernel_rfl) (by kernel_rfl) (by kernel_rfl) ?_) | ((with_reducible show Code.wp _ (Code.region 31 _ true) _ _ _); refine wp_region_plan [(0, 0, []), (1, 1, []), (2, 1, []), (3, 1, []), (4, 1, []), (5, 1, []), (6, 0, []), (7, 0, []), (8, 1, []), (9, 1, []), (10, 1, []), (11, 1, []), (12, 1, []), (13, 0, []), (14, 0, []), (15, 1, []), (16, 1, []), (17, 1, []), (18, 0, []), (19, 1, []), (20, 1, []), (21, 1, []), (22, 2, []), (23, 0, []), (24, 0, [])] (by kernel_rfl) (by kernel_rfl) (by kernel_rfl) ?_) | ((with_reducible show Code.wp _ (Code.region 32 _ true) _ _ _); refine wp_region_plan [(0, 0, []), (1, 1, []), (2, 1, []), (3, 1, []), (4, 0, []), (5, 2, []), (6, 0, [])] (by kernel_rfl) (by kernel_rfl) (by kernel_rfl) ?_) | ((with_reducible show Code.wp _ (Code.region 34 _ true) _ _ _); refine wp_region_plan [(0, 0, []), (1, 1, []), (2, 1, []), (3, 1, []), (4, 0, []), (5, 2, []), (6, 0, [])] (by kernel_rfl) (by kernel_rfl) (by kernel_rfl) ?_))
          have hins : rinsS l = ([], t.pos, 1) := rins_err HFO.out HT.out (by unfold rtokS; rw [if_pos (.inr (.inr HAF.out))]) (by decide)
          rw [hins]
          obtain ⟨q0, q1, qb⟩ := F3.out.putRet t.pos
          refine bodyPost_ret (v := .tuple #[.slice none 0 0, t.pos.v, .int .i64 1]) (by simp [results, Tryd.results25, go_sem, q0, q1]) rfl ⟨by first | exact ⟨none, 0, 0, rfl, Rd.nil⟩ | exact ⟨none, 0, ⟨0, rfl⟩, Rd.nil⟩, qb.drew⟩
        have HG : Hid (¬ (decide (k = 0) = true ∧ t.pos.col ≠ 1)) := Lib.hid (fun h => by rw [HF0.out] at h; cases h.1)
        have HP : Hid (rtokS x (decide (k = 0)) last t = if (rpass x t st).2 = 0 then (rpushS (rpass x t st).1 t, 0) else rpass x t st) := Lib.hid (by unfold rtokS; rw [if_neg (rtok_ok HV.out (by have := HCO.out; omega) HAF.out), if_neg HG.out, HSS.out])
        have hl3 := F3.out.lst.cell
        have hlf3 := F3.out.lst.frozen
        have hll3 := F3.out.lst.lt
        go_upto_block 2 with (fail)
        have F4 := Lib.hid (F3.out.putLast t.pos)
        have hO4 : Outside (fun k => k = w1.heap.size) w3 ((w3.setCell ⟨w1.heap.size, 0, none⟩ (.int .i64 t.pos.line)).setCell ⟨w1.heap.size, 1, none⟩ (.int .i64 t.pos.col)) := ((Outside.refl (fun k => k = w1.heap.size) _).setCell (p := ⟨w1.heap.size, 0, none⟩) (.inl rfl) _).setCell (p := ⟨w1.heap.size, 1, none⟩) (.inl rfl) _
        have HN4 := Lib.hid (HN3.out.out hO4 (by have := hNl.out; omega))
        clear hT3 hTl3 hl3 hlf3 hll3 hO4
        generalize ((w3.setCell ⟨w1.heap.size, 0, none⟩ (.int .i64 t.pos.line)).setCell ⟨w1.heap.size, 1, none⟩ (.int .i64 t.pos.col)) = w4 at F4 HN4 ⊢
        have hnx := HI.out.nx
        have hlt := HI.out.lt
        have hnest := HI.out.nest
        have hout := HI.out.out
        have HLA := Lib.hid HI.out.last
        have hcne : x.cols ≠ [] := by have := HI.out.last; rintro e; rw [e] at this; cases this
        have HNE := Lib.hid hcne
        clear hcne
        go_cut [] (fun w' => PassRel w (w.heap.size + 1 + 1) w.heap.size w1.heap.size wr.heap.size t (fun y => rtokS x (decide (k = 0)) last t = (rpushS y t, 0) ∧ y.cols.getLast? = some 1 ∧ y.cols.length ≤ 64 ∧ y.out.length ≤ x.out.length + 66 ∧ PosOk y.nx ∧ PosOk y.lt) w')
        case first =>
          obtain ⟨xo, xc, xn, xl⟩ := x
          dsimp only at hnx hlt hnest hout
          have HNF : Hid (¬ rfoot (w.heap.size + 1 + 1) vo vc wr.heap.size) := Lib.hid (fun hf => by have := HF.out.ins.lt hf; omega)
          rcases hnx with rfl | hnx
          · have hn1 : zp.line = 0 := rfl
            have hn2 : zp.col = 0 := rfl
            rcases hlt with rfl | hlt
            · have HB : Hid (rpass ⟨xo, xc, zp, zp⟩ t st = (rplainS ⟨xo, xc, zp, zp⟩ t st, 0)) := Lib.hid (by unfold rpass; rw [if_neg (by rintro (h | h); exact h rfl; exact h.1 rfl)])
              have hC4 := F4.out.ins.cell
              have hf4 := F4.out.ins.free
              have hbl4 := F4.out.ins.blk.lt
              have hT4 := HN4.out.cell
              have hTl4 := HN4.out.lt
              go_wp2_with fail
              refine (rplain_any _ ⟨xo, xc, zp, zp⟩ _ _ t st _ F4.out.ins (by dsimp only; omega) HLA.out (by dsimp only; omega) (by have := HCO.out; omega)).mono ?_
              have hps := rplainS_ok ⟨xo, xc, zp, zp⟩ t st HLA.out (by have := HCO.out; omega)
              rintro e w6 ⟨rfl, hS⟩
              have hS1 := hS
              obtain ⟨vo6, vc6, hI6, hO6, hf6⟩ := hS1
              have hF6 := F4.out.step1 hI6 hO6 hf6
              have hNl6 := HN4.out.lt
              have HNF6 : Hid (¬ rfoot (w.heap.size + 1 + 1) vo6 vc6 wr.heap.size) := Lib.hid (fun hf => (hf6 _ hf).elim HNF.out (fun h => by omega))
              have F6 := Lib.hid hF6
              have HN6 := Lib.hid (HN4.out.out hO6 HNF.out)
              have HPS := Lib.hid hps
              clear hS hI6 hO6 hf6 hF6 hps hT4 hTl4 hC4 hf4 hbl4
              go_wp2_with (first | ((with_reducible show wpPlan _ _ _ _ _ (Act.put _ _ _) _); simp only [List.getElem_toArray, List.getElem_cons_succ, List.getElem_cons_zero, Act.put, List.setIfInBounds_toArray, List.set_cons_zero, List.set_cons_succ]) | ((with_reducible show wpPlan _ _ _ _ _ _ _); first | refine wpPlan_nil ?_ | (refine wpPlan_read0 rfl ?hw rfl (fun _ _ _ => ?_); case hw => ((conv => (lhs; whnf)); first | done | with_reducible rfl)) | (refine wpPlan_read1d rfl ?hw rfl rfl (fun _ _ _ => ?_); case hw => ((conv => (lhs; whnf)); first | done | with_reducible rfl)) | (refine wpPlan_eff rfl ?hw (fun _ _ => ?_); case hw => ((conv => (lhs; whnf)); first | done | with_reducible rfl)) | (refine wpPlan_skip0 rfl ?hw ?_; case hw => ((conv => (lhs; whnf)); first | done | with_reducible rfl)) | (refine wpPlan_skip1d rfl ?hw ?_; case hw => ((conv => (lhs; whnf)); first | done | with_reducible rfl)) | (refine wpPlan_skip2 rfl ?hw ?_; case hw => ((conv => (lhs; whnf)); first | done | with_reducible rfl)) | (refine wpPlan_read1 rfl ?hw rfl (fun _ _ _ => ?_); case hw => ((conv => (lhs; whnf)); first | done | with_reducible rfl)) | refine wpPlan_fork ?_ ?_) | ((with_reducible show Owed _ _ _ _ _ _ _ _ _); first | refine Owed.none_ ?_ | refine Owed.nil_ ?_ | refine Owed.miss rfl ?_ | refine Owed.hit ?_ ?_) | ((with_reducible show Same _ _ _ _ _); intro _; go_simp; done) | (with_reducible exact True.intro) | ((with_reducible show Code.wp _ (Code.region 10 _ true) _ _ _); refine wp_region_plan [(0, 1, []), (1, 1, []), (2, 0, []), (3, 2, []), (4, 0, [])] (by kernel_rfl) (by kernel_rfl) (by kernel_rfl) ?_) | ((with_reducible show Code.wp _ (Code.region 12 _ true) _ _ _); refine wp_region_plan [(0, 1, []), (1, 1, []), (2, 0, []), (3, 2, []), (4, 0, [])] (by kernel_rfl) (by kernel_rfl) (by kernel_rfl) ?_) | ((with_reducible show Code.wp _ (Code.region 21 _ true) _ _ _); refine wp_region_plan [(0, 1, []), (1, 1, []), (2, 0, []), (3, 0, []), (4, 2, []), (5, 0, [])] (by kernel_rfl) (by kernel_rfl) (by kernel_rfl) ?_) | ((with_reducible show Code.wp _ (Code.region 22 _ true) _ _ _); refine wp_region_plan [(0, 0, []), (1, 0, []), (2, 1, []), (3, 1, []), (4, 1, []), (5, 1, []), (6, 2, [2, 3, 4]), (7, 2, []), (8, 1, []), (9, 1, []), (10, 2, [])] (by kernel_rfl) (by kernel_rfl) (by kernel_rfl) ?_) | ((with_reducible show Code.wp _ (Code.region 31 _ true) _ _ _); refine wp_region_plan [(0, 0, []), (1, 1, []), (2, 1, []), (3, 1, []), (4, 1, []), (5, 1, []), (6, 0, []), (7, 0, []), (8, 1, []), (9, 1, []), (10, 1, []), (11, 1, []), (12, 1, []), (13, 0, []), (14, 0, []), (15, 1, []), (16, 1, []), (17, 1, []), (18, 0, []), (19, 1, []), (20, 1, []), (21, 1, []), (22, 2, []), (23, 0, []), (24, 0, [])] (by kernel_rfl) (by kernel_rfl) (by kernel_rfl) ?_) | ((with_reducible show Code.wp _ (Code.region 32 _ true) _ _ _); refine wp_region_plan [(0, 0, []), (1, 1, []), (2, 1, []), (3, 1, []), (4, 0, []), (5, 2, []), (6, 0, [])] (by kernel_rfl) (by kernel_rfl) (by kernel_rfl) ?_) | ((with_reducible show Code.wp _ (Code.region 34 _ true) _ _ _); refine wp_region_plan [(0, 0, []), (1, 1, []), (2, 1, []), (3, 1, []), (4, 0, []), (5, 2, []), (6, 0, [])] (by kernel_rfl) (by kernel_rfl) (by kernel_rfl) ?_))
              go_meet
              case rel => exact ⟨_, _, _, F6.out, HN6.out, HNF6.out, by rw [HP.out, HB.out, if_pos rfl], HPS.out.1, by have := HPS.out.2.1; (try dsimp only at this ⊢); omega, by have := HPS.out.2.2.1; (try dsimp only at this ⊢); omega, HI.out.nx, HI.out.lt⟩
            · have HX : Hid (xl ≠ zp) := Lib.hid (fun e => by rw [e] at hlt; exact absurd hlt (by decide))
              have hll : ¬ xl.line = 0 := by omega
              cases st
              · have HB : Hid (rpass ⟨xo, xc, zp, xl⟩ t false = (rplainS ⟨xo, xc, zp, xl⟩ t false, 0)) := Lib.hid (by unfold rpass; rw [if_neg (by rintro (h | h); exact h rfl; cases h.2)])
                have hC4 := F4.out.ins.cell
                have hf4 := F4.out.ins.free
                have hbl4 := F4.out.ins.blk.lt
                have hT4 := HN4.out.cell
                have hTl4 := HN4.out.lt
                go_wp2_with fail
                refine (rplain_any _ ⟨xo, xc, zp, xl⟩ _ _ t false _ F4.out.ins (by dsimp only; omega) HLA.out (by dsimp only; omega) (by have := HCO.out; omega)).mono ?_
                have hps := rplainS_ok ⟨xo, xc, zp, xl⟩ t false HLA.out (by have := HCO.out; omega)
                rintro e w6 ⟨rfl, hS⟩
                have hS1 := hS
                obtain ⟨vo6, vc6, hI6, hO6, hf6⟩ := hS1
                have hF6 := F4.out.step1 hI6 hO6 hf6
                have hNl6 := HN4.out.lt
                have HNF6 : Hid (¬ rfoot (w.heap.size + 1 + 1) vo6 vc6 wr.heap.size) := Lib.hid (fun hf => (hf6 _ hf).elim HNF.out (fun h => by omega))
                have F6 := Lib.hid hF6
                have HN6 := Lib.hid (HN4.out.out hO6 HNF.out)
                have HPS := Lib.hid hps
                clear hS hI6 hO6 hf6 hF6 hps hT4 hTl4 hC4 hf4 hbl4
                go_wp2_with (first | ((with_reducible show wpPlan _ _ _ _ _ (Act.put _ _ _) _); simp only [List.getElem_toArray, List.getElem_cons_succ, List.getElem_cons_zero, Act.put, List.setIfInBounds_toArray, List.set_cons_zero, List.set_cons_succ]) | ((with_reducible show wpPlan _ _ _ _ _ _ _); first | refine wpPlan_nil ?_ | (refine wpPlan_read0 rfl ?hw rfl (fun _ _ _ => ?_); case hw => ((conv => (lhs; whnf)); first | done | with_reducible rfl)) | (refine wpPlan_read1d rfl ?hw rfl rfl (fun _ _ _ => ?_); case hw => ((conv => (lhs; whnf)); first | done | with_reducible rfl)) | (refine wpPlan_eff rfl ?hw (fun _ _ => ?_); case hw => ((conv => (lhs; whnf)); first | done | with_reducible rfl)) | (refine wpPlan_skip0 rfl ?hw ?_; case hw => ((conv => (lhs; whnf)); first | done | with_reducible rfl)) | (refine wpPlan_skip1d rfl ?hw ?_; case hw => ((conv => (lhs; whnf)); first | done | with_reducible rfl)) | (refine wpPlan_skip2 rfl ?hw ?_; case hw => ((conv => (lhs; whnf)); first | done | with_reducible rfl)) | (refine wpPlan_read1 rfl ?hw rfl (fun _ _ _ => ?_); case hw => ((conv => (lhs; whnf)); first | done | with_reducible rfl)) | refine wpPlan_fork ?_ ?_) | ((with_reducible show Owed _ _ _ _ _ _ _ _ _); first | refine Owed.none_ ?_ | refine Owed.nil_ ?_ | refine Owed.miss rfl ?_ | refine Owed.hit ?_ ?_) | ((with_reducible show Same _ _ _ _ _); intro _; go_simp; done) | (with_reducible exact True.intro) | ((with_reducible show Code.wp _ (Code.region 10 _ true) _ _ _); refine wp_region_plan [(0, 1, []), (1, 1, []), (2, 0, []), (3, 2, []), (4, 0, [])] (by kernel_rfl) (by kernel_rfl) (by kernel_rfl) ?_) | ((with_reducible show Code.wp _ (Code.region 12 _ true) _ _ _); refine wp_region_plan [(0, 1, []), (1, 1, []), (2, 0, []), (3, 2, []), (4, 0, [])] (by kernel_rfl) (by kernel_rfl) (by kernel_rfl) ?_) | ((with_reducible show Code.wp _ (Code.region 21 _ true) _ _ _); refine wp_region_plan [(0, 1, []), (1, 1, []), (2, 0, []), (3, 0, []), (4, 2, []), (5, 0, [])] (by kernel_rfl) (by kernel_rfl) (by kernel_rfl) ?_) | ((with_reducible show Code.wp _ (Code.region 22 _ true) _ _ _); refine wp_region_plan [(0, 0, []), (1, 0, []), (2, 1, []), (3, 1, []), (4, 1, []), (5, 1, []), (6, 2, [2, 3, 4]), (7, 2, []), (8, 1, []), (9, 1, []), (10, 2, [])] (by kernel_rfl) (by kernel_rfl) (by kernel_rfl) ?_) | ((with_reducible show Code.wp _ (Code.region 31 _ true) _ _ _); refine wp_region_plan [(0, 0, []), (1, 1, []), (2, 1, []), (3, 1, []), (4, 1, []), (5, 1, []), (6, 0, []), (7, 0, []), (8, 1, []), (9, 1, []), (10, 1, []), (11, 1, []), (12, 1, []), (13, 0, []), (14, 0, []), (15, 1, []), (16, 1, []), (17, 1, []), (18, 0, []), (19, 1, []), (20, 1, []), (21, 1, []), (22, 2, []), (23, 0, []), (24, 0, [])] (by kernel_rfl) (by kernel_rfl) (by kernel_rfl) ?_) | ((with_reducible show Code.wp _ (Code.region 32 _ true) _ _ _); refine wp_region_plan [(0, 0, []), (1, 1, []), (2, 1, []), (3, 1, []), (4, 0, []), (5, 2, []), (6, 0, [])] (by kernel_rfl) (by kernel_rfl) (by kernel_rfl) ?_) | ((with_reducible show Code.wp _ (Code.region 34 _ true) _ _ _); refine wp_region_plan [(0, 0, []), (1, 1, []), (2, 1, []), (3, 1, []), (4, 0, []), (5, 2, []), (6, 0, [])] (by kernel_rfl) (by kernel_rfl) (by kernel_rfl) ?_))
                go_meet
                case rel => exact ⟨_, _, _, F6.out, HN6.out, HNF6.out, by rw [HP.out, HB.out, if_pos rfl], HPS.out.1, by have := HPS.out.2.1; (try dsimp only at this ⊢); omega, by have := HPS.out.2.2.1; (try dsimp only at this ⊢); omega, HI.out.nx, HI.out.lt⟩
              · have HB : Hid (rpass ⟨xo, xc, zp, xl⟩ t true = rbeginS ⟨xo, xc, ⟨0, 0⟩, ⟨0, 0⟩⟩ t) := Lib.hid (by unfold rpass; rw [if_pos (.inr ⟨HX.out, rfl⟩)]; rfl)
                have hC4 := F4.out.ins.cell
                have hf4 := F4.out.ins.free
                have hbl4 := F4.out.ins.blk.lt
                go_upto_region 19 with (fail)
                have F5 := Lib.hid ((F4.out.putLt ⟨0, 0⟩).putNx ⟨0, 0⟩)
                have HN5 : Hid (Blk (((((w4.setCell ⟨w.heap.size + 1 + 1, 4, none⟩ (.int .i64 0)).setCell ⟨w.heap.size + 1 + 1, 5, none⟩ (.int .i64 0)).setCell ⟨w.heap.size + 1 + 1, 2, none⟩ (.int .i64 0)).setCell ⟨w.heap.size + 1 + 1, 3, none⟩ (.int .i64 0))) wr.heap.size 40 _) := Lib.hid (HN4.out.out (R := fun k => k = w.heap.size + 1 + 1) (((((Outside.refl (fun k => k = w.heap.size + 1 + 1) _).setCell (p := ⟨w.heap.size + 1 + 1, 4, none⟩) (.inl rfl) _).setCell (p := ⟨w.heap.size + 1 + 1, 5, none⟩) (.inl rfl) _).setCell (p := ⟨w.heap.size + 1 + 1, 2, none⟩) (.inl rfl) _).setCell (p := ⟨w.heap.size + 1 + 1, 3, none⟩) (.inl rfl) _) (fun e => HNF.out (.inl e)))
                clear hC4 hf4 hbl4
                generalize ((((w4.setCell ⟨w.heap.size + 1 + 1, 4, none⟩ (.int .i64 0)).setCell ⟨w.heap.size + 1 + 1, 5, none⟩ (.int .i64 0)).setCell ⟨w.heap.size + 1 + 1, 2, none⟩ (.int .i64 0)).setCell ⟨w.heap.size + 1 + 1, 3, none⟩ (.int .i64 0)) = w5 at F5 HN5 ⊢
                have hT5 := HN5.out.cell
                have hTl5 := HN5.out.lt
                go_wp2_with fail
                refine (rbegin_any _ ⟨xo, xc, ⟨0, 0⟩, ⟨0, 0⟩⟩ _ _ t _ F5.out.ins (by dsimp only; omega) HNE.out (by dsimp only; omega)).mono ?_
                have hbs := rbeginS_ok ⟨xo, xc, ⟨0, 0⟩, ⟨0, 0⟩⟩ t HLA.out hnest
                obtain ⟨E, hE⟩ : ∃ E, (rbeginS ⟨xo, xc, ⟨0, 0⟩, ⟨0, 0⟩⟩ t).2 = E := ⟨_, rfl⟩
                have HE := Lib.hid hE
                rw [hE]
                rintro e w6 ⟨rfl, hS⟩
                have hS1 := hS
                obtain ⟨vo6, vc6, hI6, hO6, hf6⟩ := hS1
                have hF6 := F5.out.step1 hI6 hO6 hf6
                have F6 := Lib.hid hF6
                have HN6 := Lib.hid (HN5.out.out hO6 HNF.out)
                have HBS := Lib.hid hbs
                have hT6 := HN6.out.cell
                have hTl6 := HN6.out.lt
                have HNF6 : Hid (¬ rfoot (w.heap.size + 1 + 1) vo6 vc6 wr.heap.size) := Lib.hid (fun hf => (hf6 _ hf).elim HNF.out (fun h => by have := HN5.out.lt; omega))
                clear hS hI6 hO6 hf6 hF6 hbs hE hT5 hTl5
                by_cases h0 : E = 0
                · have h0b : (E != 0) = false := by simpa using h0
                  have H0 := Lib.hid h0
                  clear h0
                  go_wp2_with (first | ((with_reducible show wpPlan _ _ _ _ _ (Act.put _ _ _) _); simp only [List.getElem_toArray, List.getElem_cons_succ, List.getElem_cons_zero, Act.put, List.setIfInBounds_toArray, List.set_cons_zero, List.set_cons_succ]) | ((with_reducible show wpPlan _ _ _ _ _ _ _); first | refine wpPlan_nil ?_ | (refine wpPlan_read0 rfl ?hw rfl (fun _ _ _ => ?_); case hw => ((conv => (lhs; whnf)); first | done | with_reducible rfl)) | (refine wpPlan_read1d rfl ?hw rfl rfl (fun _ _ _ => ?_); case hw => ((conv => (lhs; whnf)); first | done | with_reducible rfl)) | (refine wpPlan_eff rfl ?hw (fun _ _ => ?_); case hw => ((conv => (lhs; whnf)); first | done | with_reducible rfl)) | (refine wpPlan_skip0 rfl ?hw ?_; case hw => ((conv => (lhs; whnf)); first | done | with_reducible rfl)) | (refine wpPlan_skip1d rfl ?hw ?_; case hw => ((conv => (lhs; whnf)); first | done | with_reducible rfl)) | (refine wpPlan_skip2 rfl ?hw ?_; case hw => ((conv => (lhs; whnf)); first | done | with_reducible rfl)) | (refine wpPlan_read1 rfl ?hw rfl (fun _ _ _ => ?_); case hw => ((conv => (lhs; whnf)); first | done | with_reducible rfl)) | refine wpPlan_fork ?_ ?_) | ((with_reducible show Owed _ _ _ _ _ _ _ _ _); first | refine Owed.none_ ?_ | refine Owed.nil_ ?_ | refine Owed.miss rfl ?_ | refine Owed.hit ?_ ?_) | ((with_reducible show Same _ _ _ _ _); intro _; go_simp; done) | (with_reducible exact True.intro) | ((with_reducible show Code.wp _ (Code.region 10 _ true) _ _ _); refine wp_region_plan [(0, 1, []), (1, 1, []), (2, 0, []), (3, 2, []), (4, 0, [])] (by kernel_rfl) (by kernel_rfl) (by kernel_rfl) ?_) | ((with_reducible show Code.wp _ (Code.region 12 _ true) _ _ _); refine wp_region_plan [(0, 1, []), (1, 1, []), (2, 0, []), (3, 2, []), (4, 0, [])] (by kernel_rfl) (by kernel_rfl) (by kernel_rfl) ?_) | ((with_reducible show Code.wp _ (Code.region 21 _ true) _ _ _); refine wp_region_plan [(0, 1, []), (1, 1, []), (2, 0, []), (3, 0, []), (4, 2, []), (5, 0, [])] (by kernel_rfl) (by kernel_rfl) (by kernel_rfl) ?_) | ((with_reducible show Code.wp _ (Code.region 22 _ true) _ _ _); refine wp_region_plan [(0, 0, []), (1, 0, []), (2, 1, []), (3, 1, []), (4, 1, []), (5, 1, []), (6, 2, [2, 3, 4]), (7, 2, []), (8, 1, []), (9, 1, []), (10, 2, [])] (by kernel_rfl) (by kernel_rfl) (by kernel_rfl) ?_) | ((with_reducible show Code.wp _ (Code.region 31 _ true) _ _ _); refine wp_region_plan [(0, 0, []), (1, 1, []), (2, 1, []), (3, 1, []), (4, 1, []), (5, 1, []), (6, 0, []), (7, 0, []), (8, 1, []), (9, 1, []), (10, 1, []), (11, 1, []), (12, 1, []), (13, 0, []), (14, 0, []), (15, 1, []), (16, 1, []), (17, 1, []), (18, 0, []), (19, 1, []), (20, 1, []), (21, 1, []), (22, 2, []), (23, 0, []), (24, 0, [])] (by kernel_rfl) (by kernel_rfl) (by kernel_rfl) ?_) | ((with_reducible show Code.wp _ (Code.region 32 _ true) _ _ _); refine wp_region_plan [(0, 0, []), (1, 1, []), (2, 1, []), (3, 1, []), (4, 0, []), (5, 2, []), (6, 0, [])] (by kernel_rfl) (by kernel_rfl) (by kernel_rfl) ?_) | ((with_reducible show Code.wp _ (Code.region 34 _ true) _ _ _); refine wp_region_plan [(0, 0, []), (1, 1, []), (2, 1, []), (3, 1, []), (4, 0, []), (5, 2, []), (6, 0, [])] (by kernel_rfl) (by kernel_rfl) (by kernel_rfl) ?_))
                  go_meet
                  case rel => exact ⟨_, _, _, F6.out, HN6.out, HNF6.out, by rw [HP.out, HB.out, if_pos (by rw [HE.out]; exact H0.out)], HBS.out.1, HBS.out.2.1, HBS.out.2.2.1, by rw [HBS.out.2.2.2.1]; exact .inl rfl, by rw [HBS.out.2.2.2.2]; exact .inl rfl⟩
                · have h0b : (E != 0) = true := by simpa using h0
                  have H0 := Lib.hid h0
                  clear h0
                  have hr := F6.out.ret.cell
                  have hrf := F6.out.ret.frozen
                  have hrl := F6.out.ret.lt
                  go_wp2_with (first | ((with_reducible show wpPlan _ _ _ _ _ (Act.put _ _ _) _); simp only [List.getElem_toArray, List.getElem_cons_succ, List.getElem_cons_zero, Act.put, List.setIfInBounds_toArray, List.set_cons_zero, List.set_cons_succ]) | ((with_reducible show wpPlan _ _ _ _ _ _ _); first | refine wpPlan_nil ?_ | (refine wpPlan_read0 rfl ?hw rfl (fun _ _ _ => ?_); case hw => ((conv => (lhs; whnf)); first | done | with_reducible rfl)) | (refine wpPlan_read1d rfl ?hw rfl rfl (fun _ _ _ => ?_); case hw => ((conv => (lhs; whnf)); first | done | with_reducible rfl)) | (refine wpPlan_eff rfl ?hw (fun _ _ => ?_); case hw => ((conv => (lhs; whnf)); first | done | with_reducible rfl)) | (refine wpPlan_skip0 rfl ?hw ?_; case hw => ((conv => (lhs; whnf)); first | done | with_reducible rfl)) | (refine wpPlan_skip1d rfl ?hw ?_; case hw => ((conv => (lhs; whnf)); first | done | with_reducible rfl)) | (refine wpPlan_skip2 rfl ?hw ?_; case hw => ((conv => (lhs; whnf)); first | done | with_reducible rfl)) | (refine wpPlan_read1 rfl ?hw rfl (fun _ _ _ => ?_); case hw => ((conv => (lhs; whnf)); first | done | with_reducible rfl)) | refine wpPlan_fork ?_ ?_) | ((with_reducible show Owed _ _ _ _ _ _ _ _ _); first | refine Owed.none_ ?_ | refine Owed.nil_ ?_ | refine Owed.miss rfl ?_ | refine Owed.hit ?_ ?_) | ((with_reducible show Same _ _ _ _ _); intro _; go_simp; done) | (with_reducible exact True.intro) | ((with_reducible show Code.wp _ (Code.region 10 _ true) _ _ _); refine wp_region_plan [(0, 1, []), (1, 1, []), (2, 0, []), (3, 2, []), (4, 0, [])] (by kernel_rfl) (by kernel_rfl) (by kernel_rfl) ?_) | ((with_reducible show Code.wp _ (Code.region 12 _ true) _ _ _); refine wp_region_plan [(0, 1, []), (1, 1, []), (2, 0, []), (3, 2, []), (4, 0, [])] (by kernel_rfl) (by kernel_rfl) (by kernel_rfl) ?_) | ((with_reducible show Code.wp _ (Code.region 21 _ true) _ _ _); refine wp_region_plan [(0, 1, []), (1, 1, []), (2, 0, []), (3, 0, []), (4, 2, []), (5, 0, [])] (by kernel_rfl) (by kernel_rfl) (by kernel_rfl) ?_) | ((with_reducible show Code.wp _ (Code.region 22 _ true) _ _ _); refine wp_region_plan [(0, 0, []), (1, 0, []), (2, 1, []), (3, 1, []), (4, 1, []), (5, 1, []), (6, 2, [2, 3, 4]), (7, 2, []), (8, 1, []), (9, 1, []), (10, 2, [])] (by kernel_rfl) (by kernel_rfl) (by kernel_rfl) ?_) | ((with_reducible show Code.wp _ (Code.region 31 _ true) _ _ _); refine wp_region_plan [(0, 0, []), (1, 1, []), (2, 1, []), (3, 1, []), (4, 1, []), (5, 1, []), (6, 0, []), (7, 0, []), (8, 1, []), (9, 1, []), (10, 1, []), (11, 1, []), (12, 1, []), (13, 0, []), (14, 0, []), (15, 1, []), (16, 1, []), (17, 1, []), (18, 0, []), (19, 1, []), (20, 1, []), (21, 1, []), (22, 2, []), (23, 0, []), (24, 0, [])] (by kernel_rfl) (by kernel_rfl) (by kernel_rfl) ?_) | ((with_reducible show Code.wp _ (Code.region 32 _ true) _ _ _); refine wp_region_plan [(0, 0, []), (1, 1, []), (2, 1, []), (3, 1, []), (4, 0, []), (5, 2, []), (6, 0, [])] (by kernel_rfl) (by kernel_rfl) (by kernel_rfl) ?_) | ((with_reducible show Code.wp _ (Code.region 34 _ true) _ _ _); refine wp_region_plan [(0, 0, []), (1, 1, []), (2, 1, []), (3, 1, []), (4, 0, []), (5, 2, []), (6, 0, [])] (by kernel_rfl) (by kernel_rfl) (by kernel_rfl) ?_))
                  have hins : rinsS l = ([], t.pos, E) := rins_err HFO.out HT.out (by rw [HP.out, HB.out, if_neg (by rw [HE.out]; exact H0.out)]; exact HE.out) H0.out
                  rw [hins]
                  obtain ⟨q0, q1, qb⟩ := F6.out.putRet t.pos
                  refine bodyPost_ret (v := .tuple #[.slice none 0 0, t.pos.v, .int .i64 E]) (by simp [results, Tryd.results25, go_sem, q0, q1]) rfl ⟨by first | exact ⟨none, 0, 0, rfl, Rd.nil⟩ | exact ⟨none, 0, ⟨0, rfl⟩, Rd.nil⟩, qb.drew⟩
          · have HX : Hid (xn ≠ zp) := Lib.hid (fun e => by rw [e] at hnx; exact absurd hnx (by decide))
            have hnl : ¬ xn.line = 0 := by omega
            have HB : Hid (rpass ⟨xo, xc, xn, xl⟩ t st = rbeginS ⟨xo, xc, ⟨0, 0⟩, xl⟩ t) := Lib.hid (by unfold rpass; rw [if_pos (.inl HX.out)]; show rbeginS ⟨xo, xc, zp, if xn = zp then zp else xl⟩ t = _; rw [if_neg HX.out]; rfl)
            have hC4 := F4.out.ins.cell
            have hf4 := F4.out.ins.free
            have hbl4 := F4.out.ins.blk.lt
            go_upto_region 19 with (fail)
            have F5 := Lib.hid (F4.out.putNx ⟨0, 0⟩)
            have HN5 : Hid (Blk (((w4.setCell ⟨w.heap.size + 1 + 1, 2, none⟩ (.int .i64 0)).setCell ⟨w.heap.size + 1 + 1, 3, none⟩ (.int .i64 0))) wr.heap.size 40 _) := Lib.hid (HN4.out.out (R := fun k => k = w.heap.size + 1 + 1) (((Outside.refl (fun k => k = w.heap.size + 1 + 1) _).setCell (p := ⟨w.heap.size + 1 + 1, 2, none⟩) (.inl rfl) _).setCell (p := ⟨w.heap.size + 1 + 1, 3, none⟩) (.inl rfl) _) (fun e => HNF.out (.inl e)))
            clear hC4 hf4 hbl4
            generalize ((w4.setCell ⟨w.heap.size + 1 + 1, 2, none⟩ (.int .i64 0)).setCell ⟨w.heap.size + 1 + 1, 3, none⟩ (.int .i64 0)) = w5 at F5 HN5 ⊢
            have hT5 := HN5.out.cell
            have hTl5 := HN5.out.lt
            go_wp2_with fail
            refine (rbegin_any _ ⟨xo, xc, ⟨0, 0⟩, xl⟩ _ _ t _ F5.out.ins (by dsimp only; omega) HNE.out (by dsimp only; omega)).mono ?_
            have hbs := rbeginS_ok ⟨xo, xc, ⟨0, 0⟩, xl⟩ t HLA.out hnest
            obtain ⟨E, hE⟩ : ∃ E, (rbeginS ⟨xo, xc, ⟨0, 0⟩, xl⟩ t).2 = E := ⟨_, rfl⟩
            have HE := Lib.hid hE
            rw [hE]
            rintro e w6 ⟨rfl, hS⟩
            have hS1 := hS
            obtain ⟨vo6, vc6, hI6, hO6, hf6⟩ := hS1
            have hF6 := F5.out.step1 hI6 hO6 hf6
            have F6 := Lib.hid hF6
            have HN6 := Lib.hid (HN5.out.out hO6 HNF.out)
            have HBS := Lib.hid hbs
            have hT6 := HN6.out.cell
            have hTl6 := HN6.out.lt
            have HNF6 : Hid (¬ rfoot (w.heap.size + 1 + 1) vo6 vc6 wr.heap.size) := Lib.hid (fun hf => (hf6 _ hf).elim HNF.out (fun h => by have := HN5.out.lt; omega))
            clear hS hI6 hO6 hf6 hF6 hbs hE hT5 hTl5
            by_cases h0 : E = 0
            · have h0b : (E != 0) = false := by simpa using h0
              have H0 := Lib.hid h0
              clear h0
              go_wp2_with (first | ((with_reducible show wpPlan _ _ _ _ _ (Act.put _ _ _) _); simp only [List.getElem_toArray, List.getElem_cons_succ, List.getElem_cons_zero, Act.put, List.setIfInBounds_toArray, List.set_cons_zero, List.set_cons_succ]) | ((with_reducible show wpPlan _ _ _ _ _ _ _); first | refine wpPlan_nil ?_ | (refine wpPlan_read0 rfl ?hw rfl (fun _ _ _ => ?_); case hw => ((conv => (lhs; whnf)); first | done | with_reducible rfl)) | (refine wpPlan_read1d rfl ?hw rfl rfl (fun _ _ _ => ?_); case hw => ((conv => (lhs; whnf)); first | done | with_reducible rfl)) | (refine wpPlan_eff rfl ?hw (fun _ _ => ?_); case hw => ((conv => (lhs; whnf)); first | done | with_reducible rfl)) | (refine wpPlan_skip0 rfl ?hw ?_; case hw => ((conv => (lhs; whnf)); first | done | with_reducible rfl)) | (refine wpPlan_skip1d rfl ?hw ?_; case hw => ((conv => (lhs; whnf)); first | done | with_reducible rfl)) | (refine wpPlan_skip2 rfl ?hw ?_; case hw => ((conv => (lhs; whnf)); first | done | with_reducible rfl)) | (refine wpPlan_read1 rfl ?hw rfl (fun _ _ _ => ?_); case hw => ((conv => (lhs; whnf)); first | done | with_reducible rfl)) | refine wpPlan_fork ?_ ?_) | ((with_reducible show Owed _ _ _ _ _ _ _ _ _); first | refine Owed.none_ ?_ | refine Owed.nil_ ?_ | refine Owed.miss rfl ?_ | refine Owed.hit ?_ ?_) | ((with_reducible show Same _ _ _ _ _); intro _; go_simp; done) | (with_reducible exact True.intro) | ((with_reducible show Code.wp _ (Code.region 10 _ true) _ _ _); refine wp_region_plan [(0, 1, []), (1, 1, []), (2, 0, []), (3, 2, []), (4, 0, [])] (by kernel_rfl) (by kernel_rfl) (by kernel_rfl) ?_) | ((with_reducible show Code.wp _ (Code.region 12 _ true) _ _ _); refine wp_region_plan [(0, 1, []), (1, 1, []), (2, 0, []), (3, 2, []), (4, 0, [])] (by kernel_rfl) (by kernel_rfl) (by kernel_rfl) ?_) | ((with_reducible show Code.wp _ (Code.region 21 _ true) _ _ _); refine wp_region_plan [(0, 1, []), (1, 1, []), (2, 0, []), (3, 0, []), (4, 2, []), (5, 0, [])] (by kernel_rfl) (by kernel_rfl) (by kernel_rfl) ?_) | ((with_reducible show Code.wp _ (Code.region 22 _ true) _ _ _); refine wp_region_plan [(0, 0, []), (1, 0, []), (2, 1, []), (3, 1, []), (4, 1, []), (5, 1, []), (6, 2, [2, 3, 4]), (7, 2, []), (8, 1, []), (9, 1, []), (10, 2, [])] (by kernel_rfl) (by kernel_rfl) (by kernel_rfl) ?_) | ((with_reducible show Code.wp _ (Code.region 31 _ true) _ _ _); refine wp_region_plan [(0, 0, []), (1, 1, []), (2, 1, []), (3, 1, []), (4, 1, []), (5, 1, []), (6, 0, []), (7, 0, []), (8, 1, []), (9, 1, []), (10, 1, []), (11, 1, []), (12, 1, []), (13, 0, []), (14, 0, []), (15, 1, []), (16, 1, []), (17, 1, []), (18, 0, []), (19, 1, []), (20, 1, []), (21, 1, []), (22, 2, []), (23, 0, []), (24, 0, [])] (by kernel_rfl) (by kernel_rfl) (by kernel_rfl) ?_) | ((with_reducible show Code.wp _ (Code.region 32 _ true) _ _ _); refine wp_region_plan [(0, 0, []), (1, 1, []), (2, 1, []), (3, 1, []), (4, 0, []), (5, 2, []), (6, 0, [])] (by kernel_rfl) (by kernel_rfl) (by kernel_rfl) ?_) | ((with_reducible show Code.wp _ (Code.region 34 _ true) _ _ _); refine wp_region_plan [(0, 0, []), (1, 1, []), (2, 1, []), (3, 1, []), (4, 0, []), (5, 2, []), (6, 0, [])] (by kernel_rfl) (by kernel_rfl) (by kernel_rfl) ?_))
              go_meet
              case rel => exact ⟨_, _, _, F6.out, HN6.out, HNF6.out, by rw [HP.out, HB.out, if_pos (by rw [HE.out]; exact H0.out)], HBS.out.1, HBS.out.2.1, HBS.out.2.2.1, by rw [HBS.out.2.2.2.1]; exact .inl rfl, by rw [HBS.out.2.2.2.2]; exact HI.out.lt⟩
            · have h0b : (E != 0) = true := by simpa using h0
              have H0 := Lib.hid h0
              clear h0
              have hr := F6.out.ret.cell
              have hrf := F6.out.ret.frozen
              have hrl := F6.out.ret.lt
              go_wp2_with (first | ((with_reducible show wpPlan _ _ _ _ _ (Act.put _ _ _) _); simp only [List.getElem_toArray, List.getElem_cons_succ, List.getElem_cons_zero, Act.put, List.setIfInBounds_toArray, List.set_cons_zero, List.set_cons_succ]) | ((with_reducible show wpPlan _ _ _ _ _ _ _); first | refine wpPlan_nil ?_ | (refine wpPlan_read0 rfl ?hw rfl (fun _ _ _ => ?_); case hw => ((conv => (lhs; whnf)); first | done | with_reducible rfl)) | (refine wpPlan_read1d rfl ?hw rfl rfl (fun _ _ _ => ?_); case hw => ((conv => (lhs; whnf)); first | done | with_reducible rfl)) | (refine wpPlan_eff rfl ?hw (fun _ _ => ?_); case hw => ((conv => (lhs; whnf)); first | done | with_reducible rfl)) | (refine wpPlan_skip0 rfl ?hw ?_; case hw => ((conv => (lhs; whnf)); first | done | with_reducible rfl)) | (refine wpPlan_skip1d rfl ?hw ?_; case hw => ((conv => (lhs; whnf)); first | done | with_reducible rfl)) | (refine wpPlan_skip2 rfl ?hw ?_; case hw => ((conv => (lhs; whnf)); first | done | with_reducible rfl)) | (refine wpPlan_read1 rfl ?hw rfl (fun _ _ _ => ?_); case hw => ((conv => (lhs; whnf)); first | done | with_reducible rfl)) | refine wpPlan_fork ?_ ?_) | ((with_reducible show Owed _ _ _ _ _ _ _ _ _); first | refine Owed.none_ ?_ | refine Owed.nil_ ?_ | refine Owed.miss rfl ?_ | refine Owed.hit ?_ ?_) | ((with_reducible show Same _ _ _ _ _); intro _; go_simp; done) | (with_reducible exact True.intro) | ((with_reducible show Code.wp _ (Code.region 10 _ true) _ _ _); refine wp_region_plan [(0, 1, []), (1, 1, []), (2, 0, []), (3, 2, []), (4, 0, [])] (by kernel_rfl) (by kernel_rfl) (by kernel_rfl) ?_) | ((with_reducible show Code.wp _ (Code.region 12 _ true) _ _ _); refine wp_region_plan [(0, 1, []), (1, 1, []), (2, 0, []), (3, 2, []), (4, 0, [])] (by kernel_rfl) (by kernel_rfl) (by kernel_rfl) ?_) | ((with_reducible show Code.wp _ (Code.region 21 _ true) _ _ _); refine wp_region_plan [(0, 1, []), (1, 1, []), (2, 0, []), (3, 0, []), (4, 2, []), (5, 0, [])] (by kernel_rfl) (by kernel_rfl) (by kernel_rfl) ?_) | ((with_reducible show Code.wp _ (Code.region 22 _ true) _ _ _); refine wp_region_plan [(0, 0, []), (1, 0, []), (2, 1, []), (3, 1, []), (4, 1, []), (5, 1, []), (6, 2, [2, 3, 4]), (7, 2, []), (8, 1, []), (9, 1, []), (10, 2, [])] (by kernel_rfl) (by kernel_rfl) (by kernel_rfl) ?_) | ((with_reducible show Code.wp _ (Code.region 31 _ true) _ _ _); refine wp_region_plan [(0, 0, []), (1, 1, []), (2, 1, []), (3, 1, []), (4, 1, []), (5, 1, []), (6, 0, []), (7, 0, []), (8, 1, []), (9, 1, []), (10, 1, []), (11, 1, []), (12, 1, []), (13, 0, []), (14, 0, []), (15, 1, []), (16, 1, []), (17, 1, []), (18, 0, []), (19, 1, []), (20, 1, []), (21, 1, []), (22, 2, []), (23, 0, []), (24, 0, [])] (by kernel_rfl) (by kernel_rfl) (by kernel_rfl) ?_) | ((with_reducible show Code.wp _ (Code.region 32 _ true) _ _ _); refine wp_region_plan [(0, 0, []), (1, 1, []), (2, 1, []), (3, 1, []), (4, 0, []), (5, 2, []), (6, 0, [])] (by kernel_rfl) (by kernel_rfl) (by kernel_rfl) ?_) | ((with_reducible show Code.wp _ (Code.region 34 _ true) _ _ _); refine wp_region_plan [(0, 0, []), (1, 1, []), (2, 1, []), (3, 1, []), (4, 0, []), (5, 2, []), (6, 0, [])] (by kernel_rfl) (by kernel_rfl) (by kernel_rfl) ?_))
              have hins : rinsS l = ([], t.pos, E) := rins_err HFO.out HT.out (by rw [HP.out, HB.out, if_neg (by rw [HE.out]; exact H0.out)]; exact HE.out) H0.out
              rw [hins]
              obtain ⟨q0, q1, qb⟩ := F6.out.putRet t.pos
              refine bodyPost_ret (v := .tuple #[.slice none 0 0, t.pos.v, .int .i64 E]) (by simp [results, Tryd.results25, go_sem, q0, q1]) rfl ⟨by first | exact ⟨none, 0, 0, rfl, Rd.nil⟩ | exact ⟨none, 0, ⟨0, rfl⟩, Rd.nil⟩, qb.drew⟩
        case rest =>
          obtain ⟨y, vo5, vc5, hF5, hN5, hnf5, htk, hla5, hne5, hou5, hnx5, hlt5⟩ := hcut
          have F5 := Lib.hid hF5
          have HN5 := Lib.hid hN5
          have HTK := Lib.hid htk
          have HLA5 := Lib.hid hla5
          obtain ⟨A5, cap5, rfl, _, _⟩ := own_form hF5.ins.out
          have hC5 := hF5.ins.cell
          have hf5 := hF5.ins.free
          have hbl5 := hF5.ins.blk.lt
          have hT5 := hN5.cell
          have hTl5 := hN5.lt
          have hob5 := HI.out.out
          have HO5 := Lib.hid hF5.ins.out
          have HB5 := Lib.hid hF5.ins.blk
          have HNF5 := Lib.hid hnf5
          clear hF5 hN5 htk hla5 hnf5
          go_wp2_with (first | ((with_reducible show wpPlan _ _ _ ((7, 2, _) :: _) _ _ _); refine Stop.intro ?_) | ((with_reducible show wpPlan _ _ _ _ _ (Act.put _ _ _) _); simp only [List.getElem_toArray, List.getElem_cons_succ, List.getElem_cons_zero, Act.put, List.setIfInBounds_toArray, List.set_cons_zero, List.set_cons_succ]) | ((with_reducible show wpPlan _ _ _ _ _ _ _); first | refine wpPlan_nil ?_ | (refine wpPlan_read0 rfl ?hw rfl (fun _ _ _ => ?_); case hw => ((conv => (lhs; whnf)); first | done | with_reducible rfl)) | (refine wpPlan_read1d rfl ?hw rfl rfl (fun _ _ _ => ?_); case hw => ((conv => (lhs; whnf)); first | done | with_reducible rfl)) | (refine wpPlan_eff rfl ?hw (fun _ _ => ?_); case hw => ((conv => (lhs; whnf)); first | done | with_reducible rfl)) | (refine wpPlan_skip0 rfl ?hw ?_; case hw => ((conv => (lhs; whnf)); first | done | with_reducible rfl)) | (refine wpPlan_skip1d rfl ?hw ?_; case hw => ((conv => (lhs; whnf)); first | done | with_reducible rfl)) | (refine wpPlan_skip2 rfl ?hw ?_; case hw => ((conv => (lhs; whnf)); first | done | with_reducible rfl)) | (refine wpPlan_read1 rfl ?hw rfl (fun _ _ _ => ?_); case hw => ((conv => (lhs; whnf)); first | done | with_reducible rfl)) | refine wpPlan_fork ?_ ?_) | ((with_reducible show Owed _ _ _ _ _ _ _ _ _); first | refine Owed.none_ ?_ | refine Owed.nil_ ?_ | refine Owed.miss rfl ?_ | refine Owed.hit ?_ ?_) | ((with_reducible show Same _ _ _ _ _); intro _; go_simp; done) | (with_reducible exact True.intro) | ((with_reducible show Code.wp _ (Code.region 10 _ true) _ _ _); refine wp_region_plan [(0, 1, []), (1, 1, []), (2, 0, []), (3, 2, []), (4, 0, [])] (by kernel_rfl) (by kernel_rfl) (by kernel_rfl) ?_) | ((with_reducible show Code.wp _ (Code.region 12 _ true) _ _ _); refine wp_region_plan [(0, 1, []), (1, 1, []), (2, 0, []), (3, 2, []), (4, 0, [])] (by kernel_rfl) (by kernel_rfl) (by kernel_rfl) ?_) | ((with_reducible show Code.wp _ (Code.region 21 _ true) _ _ _); refine wp_region_plan [(0, 1, []), (1, 1, []), (2, 0, []), (3, 0, []), (4, 2, []), (5, 0, [])] (by kernel_rfl) (by kernel_rfl) (by kernel_rfl) ?_) | ((with_reducible show Code.wp _ (Code.region 22 _ true) _ _ _); refine wp_region_plan [(0, 0, []), (1, 0, []), (2, 1, []), (3, 1, []), (4, 1, []), (5, 1, []), (6, 2, [2, 3, 4]), (7, 2, []), (8, 1, []), (9, 1, []), (10, 2, [])] (by kernel_rfl) (by kernel_rfl) (by kernel_rfl) ?_) | ((with_reducible show Code.wp _ (Code.region 31 _ true) _ _ _); refine wp_region_plan [(0, 0, []), (1, 1, []), (2, 1, []), (3, 1, []), (4, 1, []), (5, 1, []), (6, 0, []), (7, 0, []), (8, 1, []), (9, 1, []), (10, 1, []), (11, 1, []), (12, 1, []), (13, 0, []), (14, 0, []), (15, 1, []), (16, 1, []), (17, 1, []), (18, 0, []), (19, 1, []), (20, 1, []), (21, 1, []), (22, 2, []), (23, 0, []), (24, 0, [])] (by kernel_rfl) (by kernel_rfl) (by kernel_rfl) ?_) | ((with_reducible show Code.wp _ (Code.region 32 _ true) _ _ _); refine wp_region_plan [(0, 0, []), (1, 1, []), (2, 1, []), (3, 1, []), (4, 0, []), (5, 2, []), (6, 0, [])] (by kernel_rfl) (by kernel_rfl) (by kernel_rfl) ?_) | ((with_reducible show Code.wp _ (Code.region 34 _ true) _ _ _); refine wp_region_plan [(0, 0, []), (1, 1, []), (2, 1, []), (3, 1, []), (4, 0, []), (5, 2, []), (6, 0, [])] (by kernel_rfl) (by kernel_rfl) (by kernel_rfl) ?_))
          unfold Stop
          refine wpPlan_eff rfl rfl (fun _ hK => ?_)
          refine app_blk slTok rfl ((HO5.out.alloc _).drew) rfl (news := t.cells) ((heap_alloc_at rfl) : Blk _ wc.heap.size _ _) rfl rfl (by simp [Tok.cells, Value.oneCell']) (by decide) (by unfold maxLen; omega) (by omega) ?_
          intro g6 cap6 w6 hown6 hgrow6 hat6
          refine hK _ _ ?_
          clear hK
          have hb6 := ((HB5.out.alloc _).drew).grown hgrow6 (Ne.symm (own_apart F5.out.ins.out F5.out.ins.blk (by decide)))
          have hf6 := hb6.frozen
          have hc6 := hb6.cell
          have hbl6 := hb6.lt
          simp only [Act.put, List.setIfInBounds_toArray]
          go_upto_region 23 with (first | ((with_reducible show wpPlan _ _ _ _ _ (Act.put _ _ _) _); simp only [List.getElem_toArray, List.getElem_cons_succ, List.getElem_cons_zero, Act.put, List.setIfInBounds_toArray, List.set_cons_zero, List.set_cons_succ]) | ((with_reducible show wpPlan _ _ _ _ _ _ _); first | refine wpPlan_nil ?_ | (refine wpPlan_read0 rfl ?hw rfl (fun _ _ _ => ?_); case hw => ((conv => (lhs; whnf)); first | done | with_reducible rfl)) | (refine wpPlan_read1d rfl ?hw rfl rfl (fun _ _ _ => ?_); case hw => ((conv => (lhs; whnf)); first | done | with_reducible rfl)) | (refine wpPlan_eff rfl ?hw (fun _ _ => ?_); case hw => ((conv => (lhs; whnf)); first | done | with_reducible rfl)) | (refine wpPlan_skip0 rfl ?hw ?_; case hw => ((conv => (lhs; whnf)); first | done | with_reducible rfl)) | (refine wpPlan_skip1d rfl ?hw ?_; case hw => ((conv => (lhs; whnf)); first | done | with_reducible rfl)) | (refine wpPlan_skip2 rfl ?hw ?_; case hw => ((conv => (lhs; whnf)); first | done | with_reducible rfl)) | (refine wpPlan_read1 rfl ?hw rfl (fun _ _ _ => ?_); case hw => ((conv => (lhs; whnf)); first | done | with_reducible rfl)) | refine wpPlan_fork ?_ ?_) | ((with_reducible show Owed _ _ _ _ _ _ _ _ _); first | refine Owed.none_ ?_ | refine Owed.nil_ ?_ | refine Owed.miss rfl ?_ | refine Owed.hit ?_ ?_) | ((with_reducible show Same _ _ _ _ _); intro _; go_simp; done) | (with_reducible exact True.intro) | ((with_reducible show Code.wp _ (Code.region 10 _ true) _ _ _); refine wp_region_plan [(0, 1, []), (1, 1, []), (2, 0, []), (3, 2, []), (4, 0, [])] (by kernel_rfl) (by kernel_rfl) (by kernel_rfl) ?_) | ((with_reducible show Code.wp _ (Code.region 12 _ true) _ _ _); refine wp_region_plan [(0, 1, []), (1, 1, []), (2, 0, []), (3, 2, []), (4, 0, [])] (by kernel_rfl) (by kernel_rfl) (by kernel_rfl) ?_) | ((with_reducible show Code.wp _ (Code.region 21 _ true) _ _ _); refine wp_region_plan [(0, 1, []), (1, 1, []), (2, 0, []), (3, 0, []), (4, 2, []), (5, 0, [])] (by kernel_rfl) (by kernel_rfl) (by kernel_rfl) ?_) | ((with_reducible show Code.wp _ (Code.region 22 _ true) _ _ _); refine wp_region_plan [(0, 0, []), (1, 0, []), (2, 1, []), (3, 1, []), (4, 1, []), (5, 1, []), (6, 2, [2, 3, 4]), (7, 2, []), (8, 1, []), (9, 1, []), (10, 2, [])] (by kernel_rfl) (by kernel_rfl) (by kernel_rfl) ?_) | ((with_reducible show Code.wp _ (Code.region 31 _ true) _ _ _); refine wp_region_plan [(0, 0, []), (1, 1, []), (2, 1, []), (3, 1, []), (4, 1, []), (5, 1, []), (6, 0, []), (7, 0, []), (8, 1, []), (9, 1, []), (10, 1, []), (11, 1, []), (12, 1, []), (13, 0, []), (14, 0, []), (15, 1, []), (16, 1, []), (17, 1, []), (18, 0, []), (19, 1, []), (20, 1, []), (21, 1, []), (22, 2, []), (23, 0, []), (24, 0, [])] (by kernel_rfl) (by kernel_rfl) (by kernel_rfl) ?_) | ((with_reducible show Code.wp _ (Code.region 32 _ true) _ _ _); refine wp_region_plan [(0, 0, []), (1, 1, []), (2, 1, []), (3, 1, []), (4, 0, []), (5, 2, []), (6, 0, [])] (by kernel_rfl) (by kernel_rfl) (by kernel_rfl) ?_) | ((with_reducible show Code.wp _ (Code.region 34 _ true) _ _ _); refine wp_region_plan [(0, 0, []), (1, 1, []), (2, 1, []), (3, 1, []), (4, 0, []), (5, 2, []), (6, 0, [])] (by kernel_rfl) (by kernel_rfl) (by kernel_rfl) ?_))
          have hP := rpushOut (c := t) F5.out.ins (((Outside.refl _ _).alloc _).drew) hgrow6 hown6 (hat6.imp id (fun h => ⟨g6, rfl, h⟩))
          obtain ⟨vo7, vc7, hI7, hO7, hf7⟩ := hP
          have F7 := Lib.hid (F5.out.step1 hI7 hO7 hf7)
          have HN7 := Lib.hid (HN5.out.out hO7 HNF5.out)
          clear hI7 hf7 hC5 hf5 hbl5 hT5 hTl5 hf6 hc6 hbl6 hb6 hown6 hgrow6 hat6 hO7
          generalize (w6.setCell ⟨w.heap.size + 1 + 1, 0, none⟩ (.slice (some ⟨g6, 0, none⟩) (y.out.length + 1) cap6)) = w7 at F7 HN7 ⊢
          have hT7 := HN7.out.cell
          have hTl7 := HN7.out.lt
          have HLN : Hid (1 ≤ t.pos.line) := Lib.hid (by have := HAF.out; have := HLL.out; unfold aft at *; simp at *; omega)
          have HMK : Hid (rpushS y t = rmarkS { y with out := y.out ++ [t] } t) := Lib.hid rfl
          by_cases hk3 : t.kind = 3
          · have hk3b : (t.kind == 3) = true := by simpa using hk3
            have HK3 := Lib.hid hk3
            clear hk3
            have HBL : Hid ((t.str.toList == [108, 101, 116]) = decide (t.str = letB)) := Lib.hid (strB _ _)
            have HBE : Hid ((t.str.toList == [101, 120, 112, 111, 114, 116, 115]) = decide (t.str = exportsB)) := Lib.hid (strB _ _)
            have HBM : Hid ((t.str.toList == [109, 111, 100, 117, 108, 101]) = decide (t.str = moduleB)) := Lib.hid (strB _ _)
            have HBT : Hid ((t.str.toList == [84, 105, 109, 101, 100]) = decide (t.str = timedB)) := Lib.hid (strB _ _)
            by_cases hsL : t.str = letB
            · have HShL := Lib.hid hsL
              clear hsL
              have hL : (t.str.toList == [108, 101, 116]) = true := by rw [HBL.out]; exact decide_eq_true HShL.out
              have HM : Hid (rpushS y t = { y with out := y.out ++ [t], nx := t.pos }) := Lib.hid (by rw [HMK.out]; unfold rmarkS; rw [if_pos HK3.out, if_pos (.inl HShL.out)])
              have hC7 := F7.out.ins.cell
              have hf7 := F7.out.ins.free
              have hbl7 := F7.out.ins.blk.lt
              go_wp2_with (first | ((with_reducible show wpPlan _ _ _ _ _ (Act.put _ _ _) _); simp only [List.getElem_toArray, List.getElem_cons_succ, List.getElem_cons_zero, Act.put, List.setIfInBounds_toArray, List.set_cons_zero, List.set_cons_succ]) | ((with_reducible show wpPlan _ _ _ _ _ _ _); first | refine wpPlan_nil ?_ | (refine wpPlan_read0 rfl ?hw rfl (fun _ _ _ => ?_); case hw => ((conv => (lhs; whnf)); first | done | with_reducible rfl)) | (refine wpPlan_read1d rfl ?hw rfl rfl (fun _ _ _ => ?_); case hw => ((conv => (lhs; whnf)); first | done | with_reducible rfl)) | (refine wpPlan_eff rfl ?hw (fun _ _ => ?_); case hw => ((conv => (lhs; whnf)); first | done | with_reducible rfl)) | (refine wpPlan_skip0 rfl ?hw ?_; case hw => ((conv => (lhs; whnf)); first | done | with_reducible rfl)) | (refine wpPlan_skip1d rfl ?hw ?_; case hw => ((conv => (lhs; whnf)); first | done | with_reducible rfl)) | (refine wpPlan_skip2 rfl ?hw ?_; case hw => ((conv => (lhs; whnf)); first | done | with_reducible rfl)) | (refine wpPlan_read1 rfl ?hw rfl (fun _ _ _ => ?_); case hw => ((conv => (lhs; whnf)); first | done | with_reducible rfl)) | refine wpPlan_fork ?_ ?_) | ((with_reducible show Owed _ _ _ _ _ _ _ _ _); first | refine Owed.none_ ?_ | refine Owed.nil_ ?_ | refine Owed.miss rfl ?_ | refine Owed.hit ?_ ?_) | ((with_reducible show Same _ _ _ _ _); intro _; go_simp; done) | (with_reducible exact True.intro) | ((with_reducible show Code.wp _ (Code.region 10 _ true) _ _ _); refine wp_region_plan [(0, 1, []), (1, 1, []), (2, 0, []), (3, 2, []), (4, 0, [])] (by kernel_rfl) (by kernel_rfl) (by kernel_rfl) ?_) | ((with_reducible show Code.wp _ (Code.region 12 _ true) _ _ _); refine wp_region_plan [(0, 1, []), (1, 1, []), (2, 0, []), (3, 2, []), (4, 0, [])] (by kernel_rfl) (by kernel_rfl) (by kernel_rfl) ?_) | ((with_reducible show Code.wp _ (Code.region 21 _ true) _ _ _); refine wp_region_plan [(0, 1, []), (1, 1, []), (2, 0, []), (3, 0, []), (4, 2, []), (5, 0, [])] (by kernel_rfl) (by kernel_rfl) (by kernel_rfl) ?_) | ((with_reducible show Code.wp _ (Code.region 22 _ true) _ _ _); refine wp_region_plan [(0, 0, []), (1, 0, []), (2, 1, []), (3, 1, []), (4, 1, []), (5, 1, []), (6, 2, [2, 3, 4]), (7, 2, []), (8, 1, []), (9, 1, []), (10, 2, [])] (by kernel_rfl) (by kernel_rfl) (by kernel_rfl) ?_) | ((with_reducible show Code.wp _ (Code.region 31 _ true) _ _ _); refine wp_region_plan [(0, 0, []), (1, 1, []), (2, 1, []), (3, 1, []), (4, 1, []), (5, 1, []), (6, 0, []), (7, 0, []), (8, 1, []), (9, 1, []), (10, 1, []), (11, 1, []), (12, 1, []), (13, 0, []), (14, 0, []), (15, 1, []), (16, 1, []), (17, 1, []), (18, 0, []), (19, 1, []), (20, 1, []), (21, 1, []), (22, 2, []), (23, 0, []), (24, 0, [])] (by kernel_rfl) (by kernel_rfl) (by kernel_rfl) ?_) | ((with_reducible show Code.wp _ (Code.region 32 _ true) _ _ _); refine wp_region_plan [(0, 0, []), (1, 1, []), (2, 1, []), (3, 1, []), (4, 0, []), (5, 2, []), (6, 0, [])] (by kernel_rfl) (by kernel_rfl) (by kernel_rfl) ?_) | ((with_reducible show Code.wp _ (Code.region 34 _ true) _ _ _); refine wp_region_plan [(0, 0, []), (1, 1, []), (2, 1, []), (3, 1, []), (4, 0, []), (5, 2, []), (6, 0, [])] (by kernel_rfl) (by kernel_rfl) (by kernel_rfl) ?_))
              go_roundw
              case rel => exact ⟨k + 1, by omega, by go_num, _, t.pos, _, _, (F7.out.putNx t.pos), by have := rins_next HFO.out HT.out (by rw [HTK.out]); rw [HTK.out, HM.out] at this; exact this, HLN.out, HLA5.out, hne5, (by have := hou5; have := HI.out.out; simp; omega), .inr HLN.out, hlt5⟩
              case measure => simp [intOf]; omega
            · have HShL := Lib.hid hsL
              clear hsL
              have hL : (t.str.toList == [108, 101, 116]) = false := by rw [HBL.out]; exact decide_eq_false HShL.out
              by_cases hsE : t.str = exportsB
              · have HShE := Lib.hid hsE
                clear hsE
                have hE : (t.str.toList == [101, 120, 112, 111, 114, 116, 115]) = true := by rw [HBE.out]; exact decide_eq_true HShE.out
                have HM : Hid (rpushS y t = { y with out := y.out ++ [t], nx := t.pos }) := Lib.hid (by rw [HMK.out]; unfold rmarkS; rw [if_pos HK3.out, if_pos (.inr HShE.out)])
                have hC7 := F7.out.ins.cell
                have hf7 := F7.out.ins.free
                have hbl7 := F7.out.ins.blk.lt
                go_wp2_with (first | ((with_reducible show wpPlan _ _ _ _ _ (Act.put _ _ _) _); simp only [List.getElem_toArray, List.getElem_cons_succ, List.getElem_cons_zero, Act.put, List.setIfInBounds_toArray, List.set_cons_zero, List.set_cons_succ]) | ((with_reducible show wpPlan _ _ _ _ _ _ _); first | refine wpPlan_nil ?_ | (refine wpPlan_read0 rfl ?hw rfl (fun _ _ _ => ?_); case hw => ((conv => (lhs; whnf)); first | done | with_reducible rfl)) | (refine wpPlan_read1d rfl ?hw rfl rfl (fun _ _ _ => ?_); case hw => ((conv => (lhs; whnf)); first | done | with_reducible rfl)) | (refine wpPlan_eff rfl ?hw (fun _ _ => ?_); case hw => ((conv => (lhs; whnf)); first | done | with_reducible rfl)) | (refine wpPlan_skip0 rfl ?hw ?_; case hw => ((conv => (lhs; whnf)); first | done | with_reducible rfl)) | (refine wpPlan_skip1d rfl ?hw ?_; case hw => ((conv => (lhs; whnf)); first | done | with_reducible rfl)) | (refine wpPlan_skip2 rfl ?hw ?_; case hw => ((conv => (lhs; whnf)); first | done | with_reducible rfl)) | (refine wpPlan_read1 rfl ?hw rfl (fun _ _ _ => ?_); case hw => ((conv => (lhs; whnf)); first | done | with_reducible rfl)) | refine wpPlan_fork ?_ ?_) | ((with_reducible show Owed _ _ _ _ _ _ _ _ _); first | refine Owed.none_ ?_ | refine Owed.nil_ ?_ | refine Owed.miss rfl ?_ | refine Owed.hit ?_ ?_) | ((with_reducible show Same _ _ _ _ _); intro _; go_simp; done) | (with_reducible exact True.intro) | ((with_reducible show Code.wp _ (Code.region 10 _ true) _ _ _); refine wp_region_plan [(0, 1, []), (1, 1, []), (2, 0, []), (3, 2, []), (4, 0, [])] (by kernel_rfl) (by kernel_rfl) (by kernel_rfl) ?_) | ((with_reducible show Code.wp _ (Code.region 12 _ true) _ _ _); refine wp_region_plan [(0, 1, []), (1, 1, []), (2, 0, []), (3, 2, []), (4, 0, [])] (by kernel_rfl) (by kernel_rfl) (by kernel_rfl) ?_) | ((with_reducible show Code.wp _ (Code.region 21 _ true) _ _ _); refine wp_region_plan [(0, 1, []), (1, 1, []), (2, 0, []), (3, 0, []), (4, 2, []), (5, 0, [])] (by kernel_rfl) (by kernel_rfl) (by kernel_rfl) ?_) | ((with_reducible show Code.wp _ (Code.region 22 _ true) _ _ _); refine wp_region_plan [(0, 0, []), (1, 0, []), (2, 1, []), (3, 1, []), (4, 1, []), (5, 1, []), (6, 2, [2, 3, 4]), (7, 2, []), (8, 1, []), (9, 1, []), (10, 2, [])] (by kernel_rfl) (by kernel_rfl) (by kernel_rfl) ?_) | ((with_reducible show Code.wp _ (Code.region 31 _ true) _ _ _); refine wp_region_plan [(0, 0, []), (1, 1, []), (2, 1, []), (3, 1, []), (4, 1, []), (5, 1, []), (6, 0, []), (7, 0, []), (8, 1, []), (9, 1, []), (10, 1, []), (11, 1, []), (12, 1, []), (13, 0, []), (14, 0, []), (15, 1, []), (16, 1, []), (17, 1, []), (18, 0, []), (19, 1, []), (20, 1, []), (21, 1, []), (22, 2, []), (23, 0, []), (24, 0, [])] (by kernel_rfl) (by kernel_rfl) (by kernel_rfl) ?_) | ((with_reducible show Code.wp _ (Code.region 32 _ true) _ _ _); refine wp_region_plan [(0, 0, []), (1, 1, []), (2, 1, []), (3, 1, []), (4, 0, []), (5, 2, []), (6, 0, [])] (by kernel_rfl) (by kernel_rfl) (by kernel_rfl) ?_) | ((with_reducible show Code.wp _ (Code.region 34 _ true) _ _ _); refine wp_region_plan [(0, 0, []), (1, 1, []), (2, 1, []), (3, 1, []), (4, 0, []), (5, 2, []), (6, 0, [])] (by kernel_rfl) (by kernel_rfl) (by kernel_rfl) ?_))
                go_roundw
                case rel => exact ⟨k + 1, by omega, by go_num, _, t.pos, _, _, (F7.out.putNx t.pos), by have := rins_next HFO.out HT.out (by rw [HTK.out]); rw [HTK.out, HM.out] at this; exact this, HLN.out, HLA5.out, hne5, (by have := hou5; have := HI.out.out; simp; omega), .inr HLN.out, hlt5⟩
                case measure => simp [intOf]; omega
              · have HShE := Lib.hid hsE
                clear hsE
                have hE : (t.str.toList == [101, 120, 112, 111, 114, 116, 115]) = false := by rw [HBE.out]; exact decide_eq_false HShE.out
                by_cases hsM : t.str = moduleB
                · have HShM := Lib.hid hsM
                  clear hsM
                  have hM : (t.str.toList == [109, 111, 100, 117, 108, 101]) = true := by rw [HBM.out]; exact decide_eq_true HShM.out
                  have HM : Hid (rpushS y t = { y with out := y.out ++ [t], lt := t.pos }) := Lib.hid (by rw [HMK.out]; unfold rmarkS; rw [if_pos HK3.out, if_neg (by rintro (e | e); exact HShL.out e; exact HShE.out e), if_pos (.inl HShM.out)])
                  have hC7 := F7.out.ins.cell
                  have hf7 := F7.out.ins.free
                  have hbl7 := F7.out.ins.blk.lt
                  go_wp2_with (first | ((with_reducible show wpPlan _ _ _ _ _ (Act.put _ _ _) _); simp only [List.getElem_toArray, List.getElem_cons_succ, List.getElem_cons_zero, Act.put, List.setIfInBounds_toArray, List.set_cons_zero, List.set_cons_succ]) | ((with_reducible show wpPlan _ _ _ _ _ _ _); first | refine wpPlan_nil ?_ | (refine wpPlan_read0 rfl ?hw rfl (fun _ _ _ => ?_); case hw => ((conv => (lhs; whnf)); first | done | with_reducible rfl)) | (refine wpPlan_read1d rfl ?hw rfl rfl (fun _ _ _ => ?_); case hw => ((conv => (lhs; whnf)); first | done | with_reducible rfl)) | (refine wpPlan_eff rfl ?hw (fun _ _ => ?_); case hw => ((conv => (lhs; whnf)); first | done | with_reducible rfl)) | (refine wpPlan_skip0 rfl ?hw ?_; case hw => ((conv => (lhs; whnf)); first | done | with_reducible rfl)) | (refine wpPlan_skip1d rfl ?hw ?_; case hw => ((conv => (lhs; whnf)); first | done | with_reducible rfl)) | (refine wpPlan_skip2 rfl ?hw ?_; case hw => ((conv => (lhs; whnf)); first | done | with_reducible rfl)) | (refine wpPlan_read1 rfl ?hw rfl (fun _ _ _ => ?_); case hw => ((conv => (lhs; whnf)); first | done | with_reducible rfl)) | refine wpPlan_fork ?_ ?_) | ((with_reducible show Owed _ _ _ _ _ _ _ _ _); first | refine Owed.none_ ?_ | refine Owed.nil_ ?_ | refine Owed.miss rfl ?_ | refine Owed.hit ?_ ?_) | ((with_reducible show Same _ _ _ _ _); intro _; go_simp; done) | (with_reducible exact True.intro) | ((with_reducible show Code.wp _ (Code.region 10 _ true) _ _ _); refine wp_region_plan [(0, 1, []), (1, 1, []), (2, 0, []), (3, 2, []), (4, 0, [])] (by kernel_rfl) (by kernel_rfl) (by kernel_rfl) ?_) | ((with_reducible show Code.wp _ (Code.region 12 _ true) _ _ _); refine wp_region_plan [(0, 1, []), (1, 1, []), (2, 0, []), (3, 2, []), (4, 0, [])] (by kernel_rfl) (by kernel_rfl) (by kernel_rfl) ?_) | ((with_reducible show Code.wp _ (Code.region 21 _ true) _ _ _); refine wp_region_plan [(0, 1, []), (1, 1, []), (2, 0, []), (3, 0, []), (4, 2, []), (5, 0, [])] (by kernel_rfl) (by kernel_rfl) (by kernel_rfl) ?_) | ((with_reducible show Code.wp _ (Code.region 22 _ true) _ _ _); refine wp_region_plan [(0, 0, []), (1, 0, []), (2, 1, []), (3, 1, []), (4, 1, []), (5, 1, []), (6, 2, [2, 3, 4]), (7, 2, []), (8, 1, []), (9, 1, []), (10, 2, [])] (by kernel_rfl) (by kernel_rfl) (by kernel_rfl) ?_) | ((with_reducible show Code.wp _ (Code.region 31 _ true) _ _ _); refine wp_region_plan [(0, 0, []), (1, 1, []), (2, 1, []), (3, 1, []), (4, 1, []), (5, 1, []), (6, 0, []), (7, 0, []), (8, 1, []), (9, 1, []), (10, 1, []), (11, 1, []), (12, 1, []), (13, 0, []), (14, 0, []), (15, 1, []), (16, 1, []), (17, 1, []), (18, 0, []), (19, 1, []), (20, 1, []), (21, 1, []), (22, 2, []), (23, 0, []), (24, 0, [])] (by kernel_rfl) (by kernel_rfl) (by kernel_rfl) ?_) | ((with_reducible show Code.wp _ (Code.region 32 _ true) _ _ _); refine wp_region_plan [(0, 0, []), (1, 1, []), (2, 1, []), (3, 1, []), (4, 0, []), (5, 2, []), (6, 0, [])] (by kernel_rfl) (by kernel_rfl) (by kernel_rfl) ?_) | ((with_reducible show Code.wp _ (Code.region 34 _ true) _ _ _); refine wp_region_plan [(0, 0, []), (1, 1, []), (2, 1, []), (3, 1, []), (4, 0, []), (5, 2, []), (6, 0, [])] (by kernel_rfl) (by kernel_rfl) (by kernel_rfl) ?_))
                  go_roundw
                  case rel => exact ⟨k + 1, by omega, by go_num, _, t.pos, _, _, (F7.out.putLt t.pos), by have := rins_next HFO.out HT.out (by rw [HTK.out]); rw [HTK.out, HM.out] at this; exact this, HLN.out, HLA5.out, hne5, (by have := hou5; have := HI.out.out; simp; omega), hnx5, .inr HLN.out⟩
                  case measure => simp [intOf]; omega
                · have HShM := Lib.hid hsM
                  clear hsM
                  have hM : (t.str.toList == [109, 111, 100, 117, 108, 101]) = false := by rw [HBM.out]; exact decide_eq_false HShM.out
                  by_cases hsT : t.str = timedB
                  · have HShT := Lib.hid hsT
                    clear hsT
                    have hT : (t.str.toList == [84, 105, 109, 101, 100]) = true := by rw [HBT.out]; exact decide_eq_true HShT.out
                    have HM : Hid (rpushS y t = { y with out := y.out ++ [t], lt := t.pos }) := Lib.hid (by rw [HMK.out]; unfold rmarkS; rw [if_pos HK3.out, if_neg (by rintro (e | e); exact HShL.out e; exact HShE.out e), if_pos (.inr HShT.out)])
                    have hC7 := F7.out.ins.cell
                    have hf7 := F7.out.ins.free
                    have hbl7 := F7.out.ins.blk.lt
                    go_wp2_with (first | ((with_reducible show wpPlan _ _ _ _ _ (Act.put _ _ _) _); simp only [List.getElem_toArray, List.getElem_cons_succ, List.getElem_cons_zero, Act.put, List.setIfInBounds_toArray, List.set_cons_zero, List.set_cons_succ]) | ((with_reducible show wpPlan _ _ _ _ _ _ _); first | refine wpPlan_nil ?_ | (refine wpPlan_read0 rfl ?hw rfl (fun _ _ _ => ?_); case hw => ((conv => (lhs; whnf)); first | done | with_reducible rfl)) | (refine wpPlan_read1d rfl ?hw rfl rfl (fun _ _ _ => ?_); case hw => ((conv => (lhs; whnf)); first | done | with_reducible rfl)) | (refine wpPlan_eff rfl ?hw (fun _ _ => ?_); case hw => ((conv => (lhs; whnf)); first | done | with_reducible rfl)) | (refine wpPlan_skip0 rfl ?hw ?_; case hw => ((conv => (lhs; whnf)); first | done | with_reducible rfl)) | (refine wpPlan_skip1d rfl ?hw ?_; case hw => ((conv => (lhs; whnf)); first | done | with_reducible rfl)) | (refine wpPlan_skip2 rfl ?hw ?_; case hw => ((conv => (lhs; whnf)); first | done | with_reducible rfl)) | (refine wpPlan_read1 rfl ?hw rfl (fun _ _ _ => ?_); case hw => ((conv => (lhs; whnf)); first | done | with_reducible rfl)) | refine wpPlan_fork ?_ ?_) | ((with_reducible show Owed _ _ _ _ _ _ _ _ _); first | refine Owed.none_ ?_ | refine Owed.nil_ ?_ | refine Owed.miss rfl ?_ | refine Owed.hit ?_ ?_) | ((with_reducible show Same _ _ _ _ _); intro _; go_simp; done) | (with_reducible exact True.intro) | ((with_reducible show Code.wp _ (Code.region 10 _ true) _ _ _); refine wp_region_plan [(0, 1, []), (1, 1, []), (2, 0, []), (3, 2, []), (4, 0, [])] (by kernel_rfl) (by kernel_rfl) (by kernel_rfl) ?_) | ((with_reducible show Code.wp _ (Code.region 12 _ true) _ _ _); refine wp_region_plan [(0, 1, []), (1, 1, []), (2, 0, []), (3, 2, []), (4, 0, [])] (by kernel_rfl) (by kernel_rfl) (by kernel_rfl) ?_) | ((with_reducible show Code.wp _ (Code.region 21 _ true) _ _ _); refine wp_region_plan [(0, 1, []), (1, 1, []), (2, 0, []), (3, 0, []), (4, 2, []), (5, 0, [])] (by kernel_rfl) (by kernel_rfl) (by kernel_rfl) ?_) | ((with_reducible show Code.wp _ (Code.region 22 _ true) _ _ _); refine wp_region_plan [(0, 0, []), (1, 0, []), (2, 1, []), (3, 1, []), (4, 1, []), (5, 1, []), (6, 2, [2, 3, 4]), (7, 2, []), (8, 1, []), (9, 1, []), (10, 2, [])] (by kernel_rfl) (by kernel_rfl) (by kernel_rfl) ?_) | ((with_reducible show Code.wp _ (Code.region 31 _ true) _ _ _); refine wp_region_plan [(0, 0, []), (1, 1, []), (2, 1, []), (3, 1, []), (4, 1, []), (5, 1, []), (6, 0, []), (7, 0, []), (8, 1, []), (9, 1, []), (10, 1, []), (11, 1, []), (12, 1, []), (13, 0, []), (14, 0, []), (15, 1, []), (16, 1, []), (17, 1, []), (18, 0, []), (19, 1, []), (20, 1, []), (21, 1, []), (22, 2, []), (23, 0, []), (24, 0, [])] (by kernel_rfl) (by kernel_rfl) (by kernel_rfl) ?_) | ((with_reducible show Code.wp _ (Code.region 32 _ true) _ _ _); refine wp_region_plan [(0, 0, []), (1, 1, []), (2, 1, []), (3, 1, []), (4, 0, []), (5, 2, []), (6, 0, [])] (by kernel_rfl) (by kernel_rfl) (by kernel_rfl) ?_) | ((with_reducible show Code.wp _ (Code.region 34 _ true) _ _ _); refine wp_region_plan [(0, 0, []), (1, 1, []), (2, 1, []), (3, 1, []), (4, 0, []), (5, 2, []), (6, 0, [])] (by kernel_rfl) (by kernel_rfl) (by kernel_rfl) ?_))
                    go_roundw
                    case rel => exact ⟨k + 1, by omega, by go_num, _, t.pos, _, _, (F7.out.putLt t.pos), by have := rins_next HFO.out HT.out (by rw [HTK.out]); rw [HTK.out, HM.out] at this; exact this, HLN.out, HLA5.out, hne5, (by have := hou5; have := HI.out.out; simp; omega), hnx5, .inr HLN.out⟩
                    case measure => simp [intOf]; omega
                  · have HShT := Lib.hid hsT
                    clear hsT
                    have hT : (t.str.toList == [84, 105, 109, 101, 100]) = false := by rw [HBT.out]; exact decide_eq_false HShT.out
                    have HM : Hid (rpushS y t = { y with out := y.out ++ [t] }) := Lib.hid (by rw [HMK.out]; unfold rmarkS; rw [if_pos HK3.out, if_neg (by rintro (e | e); exact HShL.out e; exact HShE.out e), if_neg (by rintro (e | e); exact HShM.out e; exact HShT.out e)])
                    go_wp2_with (first | ((with_reducible show wpPlan _ _ _ _ _ (Act.put _ _ _) _); simp only [List.getElem_toArray, List.getElem_cons_succ, List.getElem_cons_zero, Act.put, List.setIfInBounds_toArray, List.set_cons_zero, List.set_cons_succ]) | ((with_reducible show wpPlan _ _ _ _ _ _ _); first | refine wpPlan_nil ?_ | (refine wpPlan_read0 rfl ?hw rfl (fun _ _ _ => ?_); case hw => ((conv => (lhs; whnf)); first | done | with_reducible rfl)) | (refine wpPlan_read1d rfl ?hw rfl rfl (fun _ _ _ => ?_); case hw => ((conv => (lhs; whnf)); first | done | with_reducible rfl)) | (refine wpPlan_eff rfl ?hw (fun _ _ => ?_); case hw => ((conv => (lhs; whnf)); first | done | with_reducible rfl)) | (refine wpPlan_skip0 rfl ?hw ?_; case hw => ((conv => (lhs; whnf)); first | done | with_reducible rfl)) | (refine wpPlan_skip1d rfl ?hw ?_; case hw => ((conv => (lhs; whnf)); first | done | with_reducible rfl)) | (refine wpPlan_skip2 rfl ?hw ?_; case hw => ((conv => (lhs; whnf)); first | done | with_reducible rfl)) | (refine wpPlan_read1 rfl ?hw rfl (fun _ _ _ => ?_); case hw => ((conv => (lhs; whnf)); first | done | with_reducible rfl)) | refine wpPlan_fork ?_ ?_) | ((with_reducible show Owed _ _ _ _ _ _ _ _ _); first | refine Owed.none_ ?_ | refine Owed.nil_ ?_ | refine Owed.miss rfl ?_ | refine Owed.hit ?_ ?_) | ((with_reducible show Same _ _ _ _ _); intro _; go_simp; done) | (with_reducible exact True.intro) | ((with_reducible show Code.wp _ (Code.region 10 _ true) _ _ _); refine wp_region_plan [(0, 1, []), (1, 1, []), (2, 0, []), (3, 2, []), (4, 0, [])] (by kernel_rfl) (by kernel_rfl) (by kernel_rfl) ?_) | ((with_reducible show Code.wp _ (Code.region 12 _ true) _ _ _); refine wp_region_plan [(0, 1, []), (1, 1, []), (2, 0, []), (3, 2, []), (4, 0, [])] (by kernel_rfl) (by kernel_rfl) (by kernel_rfl) ?_) | ((with_reducible show Code.wp _ (Code.region 21 _ true) _ _ _); refine wp_region_plan [(0, 1, []), (1, 1, []), (2, 0, []), (3, 0, []), (4, 2, []), (5, 0, [])] (by kernel_rfl) (by kernel_rfl) (by kernel_rfl) ?_) | ((with_reducible show Code.wp _ (Code.region 22 _ true) _ _ _); refine wp_region_plan [(0, 0, []), (1, 0, []), (2, 1, []), (3, 1, []), (4, 1, []), (5, 1, []), (6, 2, [2, 3, 4]), (7, 2, []), (8, 1, []), (9, 1, []), (10, 2, [])] (by kernel_rfl) (by kernel_rfl) (by kernel_rfl) ?_) | ((with_reducible show Code.wp _ (Code.region 31 _ true) _ _ _); refine wp_region_plan [(0, 0, []), (1, 1, []), (2, 1, []), (3, 1, []), (4, 1, []), (5, 1, []), (6, 0, []), (7, 0, []), (8, 1, []), (9, 1, []), (10, 1, []), (11, 1, []), (12, 1, []), (13, 0, []), (14, 0, []), (15, 1, []), (16, 1, []), (17, 1, []), (18, 0, []), (19, 1, []), (20, 1, []), (21, 1, []), (22, 2, []), (23, 0, []), (24, 0, [])] (by kernel_rfl) (by kernel_rfl) (by kernel_rfl) ?_) | ((with_reducible show Code.wp _ (Code.region 32 _ true) _ _ _); refine wp_region_plan [(0, 0, []), (1, 1, []), (2, 1, []), (3, 1, []), (4, 0, []), (5, 2, []), (6, 0, [])] (by kernel_rfl) (by kernel_rfl) (by kernel_rfl) ?_) | ((with_reducible show Code.wp _ (Code.region 34 _ true) _ _ _); refine wp_region_plan [(0, 0, []), (1, 1, []), (2, 1, []), (3, 1, []), (4, 0, []), (5, 2, []), (6, 0, [])] (by kernel_rfl) (by kernel_rfl) (by kernel_rfl) ?_))
                    go_roundw
                    case rel => exact ⟨k + 1, by omega, by go_num, _, t.pos, _, _, F7.out, by have := rins_next HFO.out HT.out (by rw [HTK.out]); rw [HTK.out, HM.out] at this; exact this, HLN.out, HLA5.out, hne5, (by have := hou5; have := HI.out.out; simp; omega), hnx5, hlt5⟩
                    case measure => simp [intOf]; omega
          · have hk3b : (t.kind == 3) = false := by simpa using hk3
            have HK3 := Lib.hid hk3
            clear hk3
            have HM : Hid (rpushS y t = { y with out := y.out ++ [t] }) := Lib.hid (by rw [HMK.out]; unfold rmarkS; rw [if_neg HK3.out])
            go_wp2_with (first | ((with_reducible show wpPlan _ _ _ _ _ (Act.put _ _ _) _); simp only [List.getElem_toArray, List.getElem_cons_succ, List.getElem_cons_zero, Act.put, List.setIfInBounds_toArray, List.set_cons_zero, List.set_cons_succ]) | ((with_reducible show wpPlan _ _ _ _ _ _ _); first | refine wpPlan_nil ?_ | (refine wpPlan_read0 rfl ?hw rfl (fun _ _ _ => ?_); case hw => ((conv => (lhs; whnf)); first | done | with_reducible rfl)) | (refine wpPlan_read1d rfl ?hw rfl rfl (fun _ _ _ => ?_); case hw => ((conv => (lhs; whnf)); first | done | with_reducible rfl)) | (refine wpPlan_eff rfl ?hw (fun _ _ => ?_); case hw => ((conv => (lhs; whnf)); first | done | with_reducible rfl)) | (refine wpPlan_skip0 rfl ?hw ?_; case hw => ((conv => (lhs; whnf)); first | done | with_reducible rfl)) | (refine wpPlan_skip1d rfl ?hw ?_; case hw => ((conv => (lhs; whnf)); first | done | with_reducible rfl)) | (refine wpPlan_skip2 rfl ?hw ?_; case hw => ((conv => (lhs; whnf)); first | done | with_reducible rfl)) | (refine wpPlan_read1 rfl ?hw rfl (fun _ _ _ => ?_); case hw => ((conv => (lhs; whnf)); first | done | with_reducible rfl)) | refine wpPlan_fork ?_ ?_) | ((with_reducible show Owed _ _ _ _ _ _ _ _ _); first | refine Owed.none_ ?_ | refine Owed.nil_ ?_ | refine Owed.miss rfl ?_ | refine Owed.hit ?_ ?_) | ((with_reducible show Same _ _ _ _ _); intro _; go_simp; done) | (with_reducible exact True.intro) | ((with_reducible show Code.wp _ (Code.region 10 _ true) _ _ _); refine wp_region_plan [(0, 1, []), (1, 1, []), (2, 0, []), (3, 2, []), (4, 0, [])] (by kernel_rfl) (by kernel_rfl) (by kernel_rfl) ?_) | ((with_reducible show Code.wp _ (Code.region 12 _ true) _ _ _); refine wp_region_plan [(0, 1, []), (1, 1, []), (2, 0, []), (3, 2, []), (4, 0, [])] (by kernel_rfl) (by kernel_rfl) (by kernel_rfl) ?_) | ((with_reducible show Code.wp _ (Code.region 21 _ true) _ _ _); refine wp_region_plan [(0, 1, []), (1, 1, []), (2, 0, []), (3, 0, []), (4, 2, []), (5, 0, [])] (by kernel_rfl) (by kernel_rfl) (by kernel_rfl) ?_) | ((with_reducible show Code.wp _ (Code.region 22 _ true) _ _ _); refine wp_region_plan [(0, 0, []), (1, 0, []), (2, 1, []), (3, 1, []), (4, 1, []), (5, 1, []), (6, 2, [2, 3, 4]), (7, 2, []), (8, 1, []), (9, 1, []), (10, 2, [])] (by kernel_rfl) (by kernel_rfl) (by kernel_rfl) ?_) | ((with_reducible show Code.wp _ (Code.region 31 _ true) _ _ _); refine wp_region_plan [(0, 0, []), (1, 1, []), (2, 1, []), (3, 1, []), (4, 1, []), (5, 1, []), (6, 0, []), (7, 0, []), (8, 1, []), (9, 1, []), (10, 1, []), (11, 1, []), (12, 1, []), (13, 0, []), (14, 0, []), (15, 1, []), (16, 1, []), (17, 1, []), (18, 0, []), (19, 1, []), (20, 1, []), (21, 1, []), (22, 2, []), (23, 0, []), (24, 0, [])] (by kernel_rfl) (by kernel_rfl) (by kernel_rfl) ?_) | ((with_reducible show Code.wp _ (Code.region 32 _ true) _ _ _); refine wp_region_plan [(0, 0, []), (1, 1, []), (2, 1, []), (3, 1, []), (4, 0, []), (5, 2, []), (6, 0, [])] (by kernel_rfl) (by kernel_rfl) (by kernel_rfl) ?_) | ((with_reducible show Code.wp _ (Code.region 34 _ true) _ _ _); refine wp_region_plan [(0, 0, []), (1, 1, []), (2, 1, []), (3, 1, []), (4, 0, []), (5, 2, []), (6, 0, [])] (by kernel_rfl) (by kernel_rfl) (by kernel_rfl) ?_))
            go_roundw
            case rel => exact ⟨k + 1, by omega, by go_num, _, t.pos, _, _, F7.out, by have := rins_next HFO.out HT.out (by rw [HTK.out]); rw [HTK.out, HM.out] at this; exact this, HLN.out, HLA5.out, hne5, (by have := hou5; have := HI.out.out; simp; omega), hnx5, hlt5⟩
            case measure => simp [intOf]; omega
      · have HSS : Hid ((decide (k = 0) || decide (last.line < t.pos.line)) = true) := Lib.hid (by rw [HF0.out, HST.out]; rfl)
        go_wp2_with fail
        refine (rvalid_any t _ (HS.out t (List.mem_of_getElem? HT.out))).mono ?_
        rw [HV.out]
        rintro e w2 ⟨rfl, hb2⟩
        have F2 := Lib.hid (HFa.out.under hb2)
        have hN2 := HNr.out.below hb2 HNr.out.lt
        have HN2 := Lib.hid hN2
        have hT2 := hN2.cell
        have hTl := hN2.lt
        have hl2 := F2.out.lst.cell
        have hll := F2.out.lst.lt
        clear hb2 hN2 hl0 hl1
        cases v
        · have hr := F2.out.ret.cell
          have hrf := F2.out.ret.frozen
          have hrl := F2.out.ret.lt
          go_wp2_with (first | ((with_reducible show wpPlan _ _ _ _ _ (Act.put _ _ _) _); simp only [List.getElem_toArray, List.getElem_cons_succ, List.getElem_cons_zero, Act.put, List.setIfInBounds_toArray, List.set_cons_zero, List.set_cons_succ]) | ((with_reducible show wpPlan _ _ _ _ _ _ _); first | refine wpPlan_nil ?_ | (refine wpPlan_read0 rfl ?hw rfl (fun _ _ _ => ?_); case hw => ((conv => (lhs; whnf)); first | done | with_reducible rfl)) | (refine wpPlan_read1d rfl ?hw rfl rfl (fun _ _ _ => ?_); case hw => ((conv => (lhs; whnf)); first | done | with_reducible rfl)) | (refine wpPlan_eff rfl ?hw (fun _ _ => ?_); case hw => ((conv => (lhs; whnf)); first | done | with_reducible rfl)) | (refine wpPlan_skip0 rfl ?hw ?_; case hw => ((conv => (lhs; whnf)); first | done | with_reducible rfl)) | (refine wpPlan_skip1d rfl ?hw ?_; case hw => ((conv => (lhs; whnf)); first | done | with_reducible rfl)) | (refine wpPlan_skip2 rfl ?hw ?_; case hw => ((conv => (lhs; whnf)); first | done | with_reducible rfl)) | (refine wpPlan_read1 rfl ?hw rfl (fun _ _ _ => ?_); case hw => ((conv => (lhs; whnf)); first | done | with_reducible rfl)) | refine wpPlan_fork ?_ ?_) | ((with_reducible show Owed _ _ _ _ _ _ _ _ _); first | refine Owed.none_ ?_ | refine Owed.nil_ ?_ | refine Owed.miss rfl ?_ | refine Owed.hit ?_ ?_) | ((with_reducible show Same _ _ _ _ _); intro _; go_simp; done) | (with_reducible exact True.intro) | ((with_reducible show Code.wp _ (Code.region 10 _ true) _ _ _); refine wp_region_plan [(0, 1, []), (1, 1, []), (2, 0, []), (3, 2, []), (4, 0, [])] (by kernel_rfl) (by kernel_rfl) (by kernel_rfl) ?_) | ((with_reducible show Code.wp _ (Code.region 12 _ true) _ _ _); refine wp_region_plan [(0, 1, []), (1, 1, []), (2, 0, []), (3, 2, []), (4, 0, [])] (by kernel_rfl) (by kernel_rfl) (by kernel_rfl) ?_) | ((with_reducible show Code.wp _ (Code.region 21 _ true) _ _ _); refine wp_region_plan [(0, 1, []), (1, 1, []), (2, 0, []), (3, 0, []), (4, 2, []), (5, 0, [])] (by kernel_rfl) (by kernel_rfl) (by kernel_rfl) ?_) | ((with_reducible show Code.wp _ (Code.region 22 _ true) _ _ _); refine wp_region_plan [(0, 0, []), (1, 0, []), (2, 1, []), (3, 1, []), (4, 1, []), (5, 1, []), (6, 2, [2, 3, 4]), (7, 2, []), (8, 1, []), (9, 1, []), (10, 2, [])] (by kernel_rfl) (by kernel_rfl) (by kernel_rfl) ?_) | ((with_reducible show Code.wp _ (Code.region 31 _ true) _ _ _); refine wp_region_plan [(0, 0, []), (1, 1, []), (2, 1, []), (3, 1, []), (4, 1, []), (5, 1, []), (6, 0, []), (7, 0, []), (8, 1, []), (9, 1, []), (10, 1, []), (11, 1, []), (12, 1, []), (13, 0, []), (14, 0, []), (15, 1, []), (16, 1, []), (17, 1, []), (18, 0, []), (19, 1, []), (20, 1, []), (21, 1, []), (22, 2, []), (23, 0, []), (24, 0, [])] (by kernel_rfl) (by kernel_rfl) (by kernel_rfl) ?_) | ((with_reducible show Code.wp _ (Code.region 32 _ true) _ _ _); refine wp_region_plan [(0, 0, []), (1, 1, []), (2, 1, []), (3, 1, []), (4, 0, []), (5, 2, []), (6, 0, [])] (by kernel_rfl) (by kernel_rfl) (by kernel_rfl) ?_) | ((with_reducible show Code.wp _ (Code.region 34 _ true) _ _ _); refine wp_region_plan [(0, 0, []), (1, 1, []), (2, 1, []), (3, 1, []), (4, 0, []), (5, 2, []), (6, 0, [])] (by kernel_rfl) (by kernel_rfl) (by kernel_rfl) ?_))
          have hins : rinsS l = ([], t.pos, 1) := rins_err HFO.out HT.out (by unfold rtokS; rw [if_pos (.inl HV.out)]) (by decide)
          rw [hins]
          obtain ⟨q0, q1, qb⟩ := F2.out.putRet t.pos
          refine bodyPost_ret (v := .tuple #[.slice none 0 0, t.pos.v, .int .i64 1]) (by simp [results, Tryd.results25, go_sem, q0, q1]) rfl ⟨by first | exact ⟨none, 0, 0, rfl, Rd.nil⟩ | exact ⟨none, 0, ⟨0, rfl⟩, Rd.nil⟩, qb.drew⟩
        by_cases hcol : t.pos.col < 1
        · have hcolb : decide (t.pos.col < 1) = true := decide_eq_true hcol
          have HCO := Lib.hid hcol
          clear hcol
          have hr := F2.out.ret.cell
          have hrf := F2.out.ret.frozen
          have hrl := F2.out.ret.lt
          go_wp2_with (first | ((with_reducible show wpPlan _ _ _ _ _ (Act.put _ _ _) _); simp only [List.getElem_toArray, List.getElem_cons_succ, List.getElem_cons_zero, Act.put, List.setIfInBounds_toArray, List.set_cons_zero, List.set_cons_succ]) | ((with_reducible show wpPlan _ _ _ _ _ _ _); first | refine wpPlan_nil ?_ | (refine wpPlan_read0 rfl ?hw rfl (fun _ _ _ => ?_); case hw => ((conv => (lhs; whnf)); first | done | with_reducible rfl)) | (refine wpPlan_read1d rfl ?hw rfl rfl (fun _ _ _ => ?_); case hw => ((conv => (lhs; whnf)); first | done | with_reducible rfl)) | (refine wpPlan_eff rfl ?hw (fun _ _ => ?_); case hw => ((conv => (lhs; whnf)); first | done | with_reducible rfl)) | (refine wpPlan_skip0 rfl ?hw ?_; case hw => ((conv => (lhs; whnf)); first | done | with_reducible rfl)) | (refine wpPlan_skip1d rfl ?hw ?_; case hw => ((conv => (lhs; whnf)); first | done | with_reducible rfl)) | (refine wpPlan_skip2 rfl ?hw ?_; case hw => ((conv => (lhs; whnf)); first | done | with_reducible rfl)) | (refine wpPlan_read1 rfl ?hw rfl (fun _ _ _ => ?_); case hw => ((conv => (lhs; whnf)); first | done | with_reducible rfl)) | refine wpPlan_fork ?_ ?_) | ((with_reducible show Owed _ _ _ _ _ _ _ _ _); first | refine Owed.none_ ?_ | refine Owed.nil_ ?_ | refine Owed.miss rfl ?_ | refine Owed.hit ?_ ?_) | ((with_reducible show Same _ _ _ _ _); intro _; go_simp; done) | (with_reducible exact True.intro) | ((with_reducible show Code.wp _ (Code.region 10 _ true) _ _ _); refine wp_region_plan [(0, 1, []), (1, 1, []), (2, 0, []), (3, 2, []), (4, 0, [])] (by kernel_rfl) (by kernel_rfl) (by kernel_rfl) ?_) | ((with_reducible show Code.wp _ (Code.region 12 _ true) _ _ _); refine wp_region_plan [(0, 1, []), (1, 1, []), (2, 0, []), (3, 2, []), (4, 0, [])] (by kernel_rfl) (by kernel_rfl) (by kernel_rfl) ?_) | ((with_reducible show Code.wp _ (Code.region 21 _ true) _ _ _); refine wp_region_plan [(0, 1, []), (1, 1, []), (2, 0, []), (3, 0, []), (4, 2, []), (5, 0, [])] (by kernel_rfl) (by kernel_rfl) (by kernel_rfl) ?_) | ((with_reducible show Code.wp _ (Code.region 22 _ true) _ _ _); refine wp_region_plan [(0, 0, []), (1, 0, []), (2, 1, []), (3, 1, []), (4, 1, []), (5, 1, []), (6, 2, [2, 3, 4]), (7, 2, []), (8, 1, []), (9, 1, []), (10, 2, [])] (by kernel_rfl) (by kernel_rfl) (by kernel_rfl) ?_) | ((with_reducible show Code.wp _ (Code.region 31 _ true) _ _ _); refine wp_region_plan [(0, 0, []), (1, 1, []), (2, 1, []), (3, 1, []), (4, 1, []), (5, 1, []), (6, 0, []), (7, 0, []), (8, 1, []), (9, 1, []), (10, 1, []), (11, 1, []), (12, 1, []), (13, 0, []), (14, 0, []), (15, 1, []), (16, 1, []), (17, 1, []), (18, 0, []), (19, 1, []), (20, 1, []), (21, 1, []), (22, 2, []), (23, 0, []), (24, 0, [])] (by kernel_rfl) (by kernel_rfl) (by kernel_rfl) ?_) | ((with_reducible show Code.wp _ (Code.region 32 _ true) _ _ _); refine wp_region_plan [(0, 0, []), (1, 1, []), (2, 1, []), (3, 1, []), (4, 0, []), (5, 2, []), (6, 0, [])] (by kernel_rfl) (by kernel_rfl) (by kernel_rfl) ?_) | ((with_reducible show Code.wp _ (Code.region 34 _ true) _ _ _); refine wp_region_plan [(0, 0, []), (1, 1, []), (2, 1, []), (3, 1, []), (4, 0, []), (5, 2, []), (6, 0, [])] (by kernel_rfl) (by kernel_rfl) (by kernel_rfl) ?_))
          have hins : rinsS l = ([], t.pos, 1) := rins_err HFO.out HT.out (by unfold rtokS; rw [if_pos (.inr (.inl HCO.out))]) (by decide)
          rw [hins]
          obtain ⟨q0, q1, qb⟩ := F2.out.putRet t.pos
          refine bodyPost_ret (v := .tuple #[.slice none 0 0, t.pos.v, .int .i64 1]) (by simp [results, Tryd.results25, go_sem, q0, q1]) rfl ⟨by first | exact ⟨none, 0, 0, rfl, Rd.nil⟩ | exact ⟨none, 0, ⟨0, rfl⟩, Rd.nil⟩, qb.drew⟩
        have hcolb : decide (t.pos.col < 1) = false := decide_eq_false hcol
        have HCO := Lib.hid hcol
        clear hcol
        go_wp2_with fail
        refine (after_any last t.pos _).mono ?_
        rw [show decide (last.line < t.pos.line ∨ t.pos.line = last.line ∧ last.col < t.pos.col) = aft last t.pos from rfl, HAF.out]
        rintro e w3 ⟨rfl, hb3⟩
        have F3 := Lib.hid (F2.out.under hb3)
        have hN3 := HN2.out.below hb3 HN2.out.lt
        have HN3 := Lib.hid hN3
        have hT3 := hN3.cell
        have hTl3 := hN3.lt
        have hNl : Hid (w1.heap.size < wr.heap.size) := Lib.hid HF.out.lst.lt
        clear hb3 hN3 hT2 hTl hl2 hll hcolb
        cases af
        · have hr := F3.out.ret.cell
          have hrf := F3.out.ret.frozen
          have hrl := F3.out.ret.lt
          go_wp2_with (first | ((with_reducible show wpPlan _ _ _ _ _ (Act.put _ _ _) _); simp only [List.getElem_toArray, List.getElem_cons_succ, List.getElem_cons_zero, Act.put, List.setIfInBounds_toArray, List.set_cons_zero, List.set_cons_succ]) | ((with_reducible show wpPlan _ _ _ _ _ _ _); first | refine wpPlan_nil ?_ | (refine wpPlan_read0 rfl ?hw rfl (fun _ _ _ => ?_); case hw => ((conv => (lhs; whnf)); first | done | with_reducible rfl)) | (refine wpPlan_read1d rfl ?hw rfl rfl (fun _ _ _ => ?_); case hw => ((conv => (lhs; whnf)); first | done | with_reducible rfl)) | (refine wpPlan_eff rfl ?hw (fun _ _ => ?_); case hw => ((conv => (lhs; whnf)); first | done | with_reducible rfl)) | (refine wpPlan_skip0 rfl ?hw ?_; case hw => ((conv => (lhs; whnf)); first | done | with_reducible rfl)) | (refine wpPlan_skip1d rfl ?hw ?_; case hw => ((conv => (lhs; whnf)); first | done | with_reducible rfl)) | (refine wpPlan_skip2 rfl ?hw ?_; case hw => ((conv => (lhs; whnf)); first | done | with_reducible rfl)) | (refine wpPlan_read1 rfl ?hw rfl (fun _ _ _ => ?_); case hw => ((conv => (lhs; whnf)); first | done | with_reducible rfl)) | refine wpPlan_fork ?_ ?_) | ((with_reducible show Owed _ _ _ _ _ _ _ _ _); first | refine Owed.none_ ?_ | refine Owed.nil_ ?_ | refine Owed.miss rfl ?_ | refine Owed.hit ?_ ?_) | ((with_reducible show Same _ _ _ _ _); intro _; go_simp; done) | (with_reducible exact True.intro) | ((with_reducible show Code.wp _ (Code.region 10 _ true) _ _ _); refine wp_region_plan [(0, 1, []), (1, 1, []), (2, 0, []), (3, 2, []), (4, 0, [])] (by kernel_rfl) (by kernel_rfl) (by kernel_rfl) ?_) | ((with_reducible show Code.wp _ (Code.region 12 _ true) _ _ _); refine wp_region_plan [(0, 1, []), (1, 1, []), (2, 0, []), (3, 2, []), (4, 0, [])] (by kernel_rfl) (by kernel_rfl) (by kernel_rfl) ?_) | ((with_reducible show Code.wp _ (Code.region 21 _ true) _ _ _); refine wp_region_plan [(0, 1, []), (1, 1, []), (2, 0, []), (3, 0, []), (4, 2, []), (5, 0, [])] (by kernel_rfl) (by kernel_rfl) (by kernel_rfl) ?_) | ((with_reducible show Code.wp _ (Code.region 22 _ true) _ _ _); refine wp_region_plan [(0, 0, []), (1, 0, []), (2, 1, []), (3, 1, []), (4, 1, []), (5, 1, []), (6, 2, [2, 3, 4]), (7, 2, []), (8, 1, []), (9, 1, []), (10, 2, [])] (by kernel_rfl) (by kernel_rfl) (by kernel_rfl) ?_) | ((with_reducible show Code.wp _ (Code.region 31 _ true) _ _ _); refine wp_region_plan [(0, 0, []), (1, 1, []), (2, 1, []), (3, 1, []), (4, 1, []), (5, 1, []), (6, 0, []), (7, 0, []), (8, 1, []), (9, 1, []), (10, 1, []), (11, 1, []), (12, 1, []), (13, 0, []), (14, 0, []), (15, 1, []), (16, 1, []), (17, 1, []), (18, 0, []), (19, 1, []), (20, 1, []), (21, 1, []), (22, 2, []), (23, 0, []), (24, 0, [])] (by kernel_rfl) (by kernel_rfl) (by kernel_rfl) ?_) | ((with_reducible show Code.wp _ (Code.region 32 _ true) _ _ _); refine wp_region_plan [(0, 0, []), (1, 1, []), (2, 1, []), (3, 1, []), (4, 0, []), (5, 2, []), (6, 0, [])] (by kernel_rfl) (by kernel_rfl) (by kernel_rfl) ?_) | ((with_reducible show Code.wp _ (Code.region 34 _ true) _ _ _); refine wp_region_plan [(0, 0, []), (1, 1, []), (2, 1, []), (3, 1, []), (4, 0, []), (5, 2, []), (6, 0, [])] (by kernel_rfl) (by kernel_rfl) (by kernel_rfl) ?_))
          have hins : rinsS l = ([], t.pos, 1) := rins_err HFO.out HT.out (by unfold rtokS; rw [if_pos (.inr (.inr HAF.out))]) (by decide)
          rw [hins]
          obtain ⟨q0, q1, qb⟩ := F3.out.putRet t.pos
          refine bodyPost_ret (v := .tuple #[.slice none 0 0, t.pos.v, .int .i64 1]) (by simp [results, Tryd.results25, go_sem, q0, q1]) rfl ⟨by first | exact ⟨none, 0, 0, rfl, Rd.nil⟩ | exact ⟨none, 0, ⟨0, rfl⟩, Rd.nil⟩, qb.drew⟩
        by_cases hc1 : t.pos.col = 1
        rotate_left
        · have hc1b : (t.pos.col != 1) = true := by simpa using hc1
          have HC1 := Lib.hid hc1
          clear hc1
          have hr := F3.out.ret.cell
          have hrf := F3.out.ret.frozen
          have hrl := F3.out.ret.lt
          go_wp2_with (first | ((with_reducible show wpPlan _ _ _ _ _ (Act.put _ _ _) _); simp only [List.getElem_toArray, List.getElem_cons_succ, List.getElem_cons_zero, Act.put, List.setIfInBounds_toArray, List.set_cons_zero, List.set_cons_succ]) | ((with_reducible show wpPlan _ _ _ _ _ _ _); first | refine wpPlan_nil ?_ | (refine wpPlan_read0 rfl ?hw rfl (fun _ _ _ => ?_); case hw => ((conv => (lhs; whnf)); first | done | with_reducible rfl)) | (refine wpPlan_read1d rfl ?hw rfl rfl (fun _ _ _ => ?_); case hw => ((conv => (lhs; whnf)); first | done | with_reducible rfl)) | (refine wpPlan_eff rfl ?hw (fun _ _ => ?_); case hw => ((conv => (lhs; whnf)); first | done | with_reducible rfl)) | (refine wpPlan_skip0 rfl ?hw ?_; case hw => ((conv => (lhs; whnf)); first | done | with_reducible rfl)) | (refine wpPlan_skip1d rfl ?hw ?_; case hw => ((conv => (lhs; whnf)); first | done | with_reducible rfl)) | (refine wpPlan_skip2 rfl ?hw ?_; case hw => ((conv => (lhs; whnf)); first | done | with_reducible rfl)) | (refine wpPlan_read1 rfl ?hw rfl (fun _ _ _ => ?_); case hw => ((conv => (lhs; whnf)); first | done | with_reducible rfl)) | refine wpPlan_fork ?_ ?_) | ((with_reducible show Owed _ _ _ _ _ _ _ _ _); first | refine Owed.none_ ?_ | refine Owed.nil_ ?_ | refine Owed.miss rfl ?_ | refine Owed.hit ?_ ?_) | ((with_reducible show Same _ _ _ _ _); intro _; go_simp; done) | (with_reducible exact True.intro) | ((with_reducible show Code.wp _ (Code.region 10 _ true) _ _ _); refine wp_region_plan [(0, 1, []), (1, 1, []), (2, 0, []), (3, 2, []), (4, 0, [])] (by kernel_rfl) (by kernel_rfl) (by kernel_rfl) ?_) | ((with_reducible show Code.wp _ (Code.region 12 _ true) _ _ _); refine wp_region_plan [(0, 1, []), (1, 1, []), (2, 0, []), (3, 2, []), (4, 0, [])] (by kernel_rfl) (by kernel_rfl) (by kernel_rfl) ?_) | ((with_reducible show Code.wp _ (Code.region 21 _ true) _ _ _); refine wp_region_plan [(0, 1, []), (1, 1, []), (2, 0, []), (3, 0, []), (4, 2, []), (5, 0, [])] (by kernel_rfl) (by kernel_rfl) (by kernel_rfl) ?_) | ((with_reducible show Code.wp _ (Code.region 22 _ true) _ _ _); refine wp_region_plan [(0, 0, []), (1, 0, []), (2, 1, []), (3, 1, []), (4, 1, []), (5, 1, []), (6, 2, [2, 3, 4]), (7, 2, []), (8, 1, []), (9, 1, []), (10, 2, [])] (by kernel_rfl) (by kernel_rfl) (by kernel_rfl) ?_) | ((with_reducible show Code.wp _ (Code.region 31 _ true) _ _ _); refine wp_region_plan [(0, 0, []), (1, 1, []), (2, 1, []), (3, 1, []), (4, 1, []), (5, 1, []), (6, 0, []), (7, 0, []), (8, 1, []), (9, 1, []), (10, 1, []), (11, 1, []), (12, 1, []), (13, 0, []), (14, 0, []), (15, 1, []), (16, 1, []), (17, 1, []), (18, 0, []), (19, 1, []), (20, 1, []), (21, 1, []), (22, 2, []), (23, 0, []), (24, 0, [])] (by kernel_rfl) (by kernel_rfl) (by kernel_rfl) ?_) | ((with_reducible show Code.wp _ (Code.region 32 _ true) _ _ _); refine wp_region_plan [(0, 0, []), (1, 1, []), (2, 1, []), (3, 1, []), (4, 0, []), (5, 2, []), (6, 0, [])] (by kernel_rfl) (by kernel_rfl) (by kernel_rfl) ?_) | ((with_reducible show Code.wp _ (Code.region 34 _ true) _ _ _); refine wp_region_plan [(0, 0, []), (1, 1, []), (2, 1, []), (3, 1, []), (4, 0, []), (5, 2, []), (6, 0, [])] (by kernel_rfl) (by kernel_rfl) (by kernel_rfl) ?_))
          have hins : rinsS l = ([], t.pos, 3) := rins_err HFO.out HT.out (by unfold rtokS; rw [if_neg (rtok_ok HV.out (by have := HCO.out; omega) HAF.out), if_pos ⟨HF0.out, HC1.out⟩]) (by decide)
          rw [hins]
          obtain ⟨q0, q1, qb⟩ := F3.out.putRet t.pos
          refine bodyPost_ret (v := .tuple #[.slice none 0 0, t.pos.v, .int .i64 3]) (by simp [results, Tryd.results25, go_sem, q0, q1]) rfl ⟨by first | exact ⟨none, 0, 0, rfl, Rd.nil⟩ | exact ⟨none, 0, ⟨0, rfl⟩, Rd.nil⟩, qb.drew⟩
        have hc1b : (t.pos.col != 1) = false := by simpa using hc1
        have HC1 := Lib.hid hc1
        have HG : Hid (¬ (decide (k = 0) = true ∧ t.pos.col ≠ 1)) := Lib.hid (fun h => h.2 HC1.out)
        clear hc1
        have HP : Hid (rtokS x (decide (k = 0)) last t = if (rpass x t true).2 = 0 then (rpushS (rpass x t true).1 t, 0) else rpass x t true) := Lib.hid (by unfold rtokS; rw [if_neg (rtok_ok HV.out (by have := HCO.out; omega) HAF.out), if_neg HG.out, HSS.out])
        have hl3 := F3.out.lst.cell
        have hlf3 := F3.out.lst.frozen
        have hll3 := F3.out.lst.lt
        go_upto_block 2 with (fail)
        have F4 := Lib.hid (F3.out.putLast t.pos)
        have hO4 : Outside (fun k => k = w1.heap.size) w3 ((w3.setCell ⟨w1.heap.size, 0, none⟩ (.int .i64 t.pos.line)).setCell ⟨w1.heap.size, 1, none⟩ (.int .i64 t.pos.col)) := ((Outside.refl (fun k => k = w1.heap.size) _).setCell (p := ⟨w1.heap.size, 0, none⟩) (.inl rfl) _).setCell (p := ⟨w1.heap.size, 1, none⟩) (.inl rfl) _
        have HN4 := Lib.hid (HN3.out.out hO4 (by have := hNl.out; omega))
        clear hT3 hTl3 hl3 hlf3 hll3 hO4
        generalize ((w3.setCell ⟨w1.heap.size, 0, none⟩ (.int .i64 t.pos.line)).setCell ⟨w1.heap.size, 1, none⟩ (.int .i64 t.pos.col)) = w4 at F4 HN4 ⊢
        have hnx := HI.out.nx
        have hlt := HI.out.lt
        have hnest := HI.out.nest
        have hout := HI.out.out
        have HLA := Lib.hid HI.out.last
        have hcne : x.cols ≠ [] := by have := HI.out.last; rintro e; rw [e] at this; cases this
        have HNE := Lib.hid hcne
        clear hcne
        go_cut [] (fun w' => PassRel w (w.heap.size + 1 + 1) w.heap.size w1.heap.size wr.heap.size t (fun y => rtokS x (decide (k = 0)) last t = (rpushS y t, 0) ∧ y.cols.getLast? = some 1 ∧ y.cols.length ≤ 64 ∧ y.out.length ≤ x.out.length + 66 ∧ PosOk y.nx ∧ PosOk y.lt) w')
        case first =>
          obtain ⟨xo, xc, xn, xl⟩ := x
          dsimp only at hnx hlt hnest hout
          have HNF : Hid (¬ rfoot (w.heap.size + 1 + 1) vo vc wr.heap.size) := Lib.hid (fun hf => by have := HF.out.ins.lt hf; omega)
          rcases hnx with rfl | hnx
          · have hn1 : zp.line = 0 := rfl
            have hn2 : zp.col = 0 := rfl
            rcases hlt with rfl | hlt
            · have HB : Hid (rpass ⟨xo, xc, zp, zp⟩ t true = (rplainS ⟨xo, xc, zp, zp⟩ t true, 0)) := Lib.hid (by unfold rpass; rw [if_neg (by rintro (h | h); exact h rfl; exact h.1 rfl)])
              have hC4 := F4.out.ins.cell
              have hf4 := F4.out.ins.free
              have hbl4 := F4.out.ins.blk.lt
              have hT4 := HN4.out.cell
              have hTl4 := HN4.out.lt
              go_wp2_with fail
              refine (rplain_any _ ⟨xo, xc, zp, zp⟩ _ _ t true _ F4.out.ins (by dsimp only; omega) HLA.out (by dsimp only; omega) (by have := HCO.out; omega)).mono ?_
              have hps := rplainS_ok ⟨xo, xc, zp, zp⟩ t true HLA.out (by have := HCO.out; omega)
              rintro e w6 ⟨rfl, hS⟩
              have hS1 := hS
              obtain ⟨vo6, vc6, hI6, hO6, hf6⟩ := hS1
              have hF6 := F4.out.step1 hI6 hO6 hf6
              have hNl6 := HN4.out.lt
              have HNF6 : Hid (¬ rfoot (w.heap.size + 1 + 1) vo6 vc6 wr.heap.size) := Lib.hid (fun hf => (hf6 _ hf).elim HNF.out (fun h => by omega))
              have F6 := Lib.hid hF6
              have HN6 := Lib.hid (HN4.out.out hO6 HNF.out)
              have HPS := Lib.hid hps
              clear hS hI6 hO6 hf6 hF6 hps hT4 hTl4 hC4 hf4 hbl4
              go_wp2_with (first | ((with_reducible show wpPlan _ _ _ _ _ (Act.put _ _ _) _); simp only [List.getElem_toArray, List.getElem_cons_succ, List.getElem_cons_zero, Act.put, List.setIfInBounds_toArray, List.set_cons_zero, List.set_cons_succ]) | ((with_reducible show wpPlan _ _ _ _ _ _ _); first | refine wpPlan_nil ?_ | (refine wpPlan_read0 rfl ?hw rfl (fun _ _ _ => ?_); case hw => ((conv => (lhs; whnf)); first | done | with_reducible rfl)) | (refine wpPlan_read1d rfl ?hw rfl rfl (fun _ _ _ => ?_); case hw => ((conv => (lhs; whnf)); first | done | with_reducible rfl)) | (refine wpPlan_eff rfl ?hw (fun _ _ => ?_); case hw => ((conv => (lhs; whnf)); first | done | with_reducible rfl)) | (refine wpPlan_skip0 rfl ?hw ?_; case hw => ((conv => (lhs; whnf)); first | done | with_reducible rfl)) | (refine wpPlan_skip1d rfl ?hw ?_; case hw => ((conv => (lhs; whnf)); first | done | with_reducible rfl)) | (refine wpPlan_skip2 rfl ?hw ?_; case hw => ((conv => (lhs; whnf)); first | done | with_reducible rfl)) | (refine wpPlan_read1 rfl ?hw rfl (fun _ _ _ => ?_); case hw => ((conv => (lhs; whnf)); first | done | with_reducible rfl)) | refine wpPlan_fork ?_ ?_) | ((with_reducible show Owed _ _ _ _ _ _ _ _ _); first | refine Owed.none_ ?_ | refine Owed.nil_ ?_ | refine Owed.miss rfl ?_ | refine Owed.hit ?_ ?_) | ((with_reducible show Same _ _ _ _ _); intro _; go_simp; done) | (with_reducible exact True.intro) | ((with_reducible show Code.wp _ (Code.region 10 _ true) _ _ _); refine wp_region_plan [(0, 1, []), (1, 1, []), (2, 0, []), (3, 2, []), (4, 0, [])] (by kernel_rfl) (by kernel_rfl) (by kernel_rfl) ?_) | ((with_reducible show Code.wp _ (Code.region 12 _ true) _ _ _); refine wp_region_plan [(0, 1, []), (1, 1, []), (2, 0, []), (3, 2, []), (4, 0, [])] (by kernel_rfl) (by kernel_rfl) (by kernel_rfl) ?_) | ((with_reducible show Code.wp _ (Code.region 21 _ true) _ _ _); refine wp_region_plan [(0, 1, []), (1, 1, []), (2, 0, []), (3, 0, []), (4, 2, []), (5, 0, [])] (by kernel_rfl) (by kernel_rfl) (by kernel_rfl) ?_) | ((with_reducible show Code.wp _ (Code.region 22 _ true) _ _ _); refine wp_region_plan [(0, 0, []), (1, 0, []), (2, 1, []), (3, 1, []), (4, 1, []), (5, 1, []), (6, 2, [2, 3, 4]), (7, 2, []), (8, 1, []), (9, 1, []), (10, 2, [])] (by kernel_rfl) (by kernel_rfl) (by kernel_rfl) ?_) | ((with_reducible show Code.wp _ (Code.region 31 _ true) _ _ _); refine wp_region_plan [(0, 0, []), (1, 1, []), (2, 1, []), (3, 1, []), (4, 1, []), (5, 1, []), (6, 0, []), (7, 0, []), (8, 1, []), (9, 1, []), (10, 1, []), (11, 1, []), (12, 1, []), (13, 0, []), (14, 0, []), (15, 1, []), (16, 1, []), (17, 1, []), (18, 0, []), (19, 1, []), (20, 1, []), (21, 1, []), (22, 2, []), (23, 0, []), (24, 0, [])] (by kernel_rfl) (by kernel_rfl) (by kernel_rfl) ?_) | ((with_reducible show Code.wp _ (Code.region 32 _ true) _ _ _); refine wp_region_plan [(0, 0, []), (1, 1, []), (2, 1, []), (3, 1, []), (4, 0, []), (5, 2, []), (6, 0, [])] (by kernel_rfl) (by kernel_rfl) (by kernel_rfl) ?_) | ((with_reducible show Code.wp _ (Code.region 34 _ true) _ _ _); refine wp_region_plan [(0, 0, []), (1, 1, []), (2, 1, []), (3, 1, []), (4, 0, []), (5, 2, []), (6, 0, [])] (by kernel_rfl) (by kernel_rfl) (by kernel_rfl) ?_))
              go_meet
              case rel => exact ⟨_, _, _, F6.out, HN6.out, HNF6.out, by rw [HP.out, HB.out, if_pos rfl], HPS.out.1, by have := HPS.out.2.1; (try dsimp only at this ⊢); omega, by have := HPS.out.2.2.1; (try dsimp only at this ⊢); omega, HI.out.nx, HI.out.lt⟩
            · have HX : Hid (xl ≠ zp) := Lib.hid (fun e => by rw [e] at hlt; exact absurd hlt (by decide))
              have hll : ¬ xl.line = 0 := by omega
              have HB : Hid (rpass ⟨xo, xc, zp, xl⟩ t true = rbeginS ⟨xo, xc, ⟨0, 0⟩, ⟨0, 0⟩⟩ t) := Lib.hid (by unfold rpass; rw [if_pos (.inr ⟨HX.out, rfl⟩)]; rfl)
              have hC4 := F4.out.ins.cell
              have hf4 := F4.out.ins.free
              have hbl4 := F4.out.ins.blk.lt
              go_upto_region 19 with (fail)
              have F5 := Lib.hid ((F4.out.putLt ⟨0, 0⟩).putNx ⟨0, 0⟩)
              have HN5 : Hid (Blk (((((w4.setCell ⟨w.heap.size + 1 + 1, 4, none⟩ (.int .i64 0)).setCell ⟨w.heap.size + 1 + 1, 5, none⟩ (.int .i64 0)).setCell ⟨w.heap.size + 1 + 1, 2, none⟩ (.int .i64 0)).setCell ⟨w.heap.size + 1 + 1, 3, none⟩ (.int .i64 0))) wr.heap.size 40 _) := Lib.hid (HN4.out.out (R := fun k => k = w.heap.size + 1 + 1) (((((Outside.refl (fun k => k = w.heap.size + 1 + 1) _).setCell (p := ⟨w.heap.size + 1 + 1, 4, none⟩) (.inl rfl) _).setCell (p := ⟨w.heap.size + 1 + 1, 5, none⟩) (.inl rfl) _).setCell (p := ⟨w.heap.size + 1 + 1, 2, none⟩) (.inl rfl) _).setCell (p := ⟨w.heap.size + 1 + 1, 3, none⟩) (.inl rfl) _) (fun e => HNF.out (.inl e)))
              clear hC4 hf4 hbl4
              generalize ((((w4.setCell ⟨w.heap.size + 1 + 1, 4, none⟩ (.int .i64 0)).setCell ⟨w.heap.size + 1 + 1, 5, none⟩ (.int .i64 0)).setCell ⟨w.heap.size + 1 + 1, 2, none⟩ (.int .i64 0)).setCell ⟨w.heap.size + 1 + 1, 3, none⟩ (.int .i64 0)) = w5 at F5 HN5 ⊢
              have hT5 := HN5.out.cell
              have hTl5 := HN5.out.lt
              go_wp2_with fail
              refine (rbegin_any _ ⟨xo, xc, ⟨0, 0⟩, ⟨0, 0⟩⟩ _ _ t _ F5.out.ins (by dsimp only; omega) HNE.out (by dsimp only; omega)).mono ?_
              have hbs := rbeginS_ok ⟨xo, xc, ⟨0, 0⟩, ⟨0, 0⟩⟩ t HLA.out hnest
              obtain ⟨E, hE⟩ : ∃ E, (rbeginS ⟨xo, xc, ⟨0, 0⟩, ⟨0, 0⟩⟩ t).2 = E := ⟨_, rfl⟩
              have HE := Lib.hid hE
              rw [hE]
              rintro e w6 ⟨rfl, hS⟩
              have hS1 := hS
              obtain ⟨vo6, vc6, hI6, hO6, hf6⟩ := hS1
              have hF6 := F5.out.step1 hI6 hO6 hf6
              have F6 := Lib.hid hF6
              have HN6 := Lib.hid (HN5.out.out hO6 HNF.out)
              have HBS := Lib.hid hbs
              have hT6 := HN6.out.cell
              have hTl6 := HN6.out.lt
              have HNF6 : Hid (¬ rfoot (w.heap.size + 1 + 1) vo6 vc6 wr.heap.size) := Lib.hid (fun hf => (hf6 _ hf).elim HNF.out (fun h => by have := HN5.out.lt; omega))
              clear hS hI6 hO6 hf6 hF6 hbs hE hT5 hTl5
              by_cases h0 : E = 0
              · have h0b : (E != 0) = false := by simpa using h0
                have H0 := Lib.hid h0
                clear h0
                go_wp2_with (first | ((with_reducible show wpPlan _ _ _ _ _ (Act.put _ _ _) _); simp only [List.getElem_toArray, List.getElem_cons_succ, List.getElem_cons_zero, Act.put, List.setIfInBounds_toArray, List.set_cons_zero, List.set_cons_succ]) | ((with_reducible show wpPlan _ _ _ _ _ _ _); first | refine wpPlan_nil ?_ | (refine wpPlan_read0 rfl ?hw rfl (fun _ _ _ => ?_); case hw => ((conv => (lhs; whnf)); first | done | with_reducible rfl)) | (refine wpPlan_read1d rfl ?hw rfl rfl (fun _ _ _ => ?_); case hw => ((conv => (lhs; whnf)); first | done | with_reducible rfl)) | (refine wpPlan_eff rfl ?hw (fun _ _ => ?_); case hw => ((conv => (lhs; whnf)); first | done | with_reducible rfl)) | (refine wpPlan_skip0 rfl ?hw ?_; case hw => ((conv => (lhs; whnf)); first | done | with_reducible rfl)) | (refine wpPlan_skip1d rfl ?hw ?_; case hw => ((conv => (lhs; whnf)); first | done | with_reducible rfl)) | (refine wpPlan_skip2 rfl ?hw ?_; case hw => ((conv => (lhs; whnf)); first | done | with_reducible rfl)) | (refine wpPlan_read1 rfl ?hw rfl (fun _ _ _ => ?_); case hw => ((conv => (lhs; whnf)); first | done | with_reducible rfl)) | refine wpPlan_fork ?_ ?_) | ((with_reducible show Owed _ _ _ _ _ _ _ _ _); first | refine Owed.none_ ?_ | refine Owed.nil_ ?_ | refine Owed.miss rfl ?_ | refine Owed.hit ?_ ?_) | ((with_reducible show Same _ _ _ _ _); intro _; go_simp; done) | (with_reducible exact True.intro) | ((with_reducible show Code.wp _ (Code.region 10 _ true) _ _ _); refine wp_region_plan [(0, 1, []), (1, 1, []), (2, 0, []), (3, 2, []), (4, 0, [])] (by kernel_rfl) (by kernel_rfl) (by kernel_rfl) ?_) | ((with_reducible show Code.wp _ (Code.region 12 _ true) _ _ _); refine wp_region_plan [(0, 1, []), (1, 1, []), (2, 0, []), (3, 2, []), (4, 0, [])] (by kernel_rfl) (by kernel_rfl) (by kernel_rfl) ?_) | ((with_reducible show Code.wp _ (Code.region 21 _ true) _ _ _); refine wp_region_plan [(0, 1, []), (1, 1, []), (2, 0, []), (3, 0, []), (4, 2, []), (5, 0, [])] (by kernel_rfl) (by kernel_rfl) (by kernel_rfl) ?_) | ((with_reducible show Code.wp _ (Code.region 22 _ true) _ _ _); refine wp_region_plan [(0, 0, []), (1, 0, []), (2, 1, []), (3, 1, []), (4, 1, []), (5, 1, []), (6, 2, [2, 3, 4]), (7, 2, []), (8, 1, []), (9, 1, []), (10, 2, [])] (by kernel_rfl) (by kernel_rfl) (by kernel_rfl) ?_) | ((with_reducible show Code.wp _ (Code.region 31 _ true) _ _ _); refine wp_region_plan [(0, 0, []), (1, 1, []), (2, 1, []), (3, 1, []), (4, 1, []), (5, 1, []), (6, 0, []), (7, 0, []), (8, 1, []), (9, 1, []), (10, 1, []), (11, 1, []), (12, 1, []), (13, 0, []), (14, 0, []), (15, 1, []), (16, 1, []), (17, 1, []), (18, 0, []), (19, 1, []), (20, 1, []), (21, 1, []), (22, 2, []), (23, 0, []), (24, 0, [])] (by kernel_rfl) (by kernel_rfl) (by kernel_rfl) ?_) | ((with_reducible show Code.wp _ (Code.region 32 _ true) _ _ _); refine wp_region_plan [(0, 0, []), (1, 1, []), (2, 1, []), (3, 1, []), (4, 0, []), (5, 2, []), (6, 0, [])] (by kernel_rfl) (by kernel_rfl) (by kernel_rfl) ?_) | ((with_reducible show Code.wp _ (Code.region 34 _ true) _ _ _); refine wp_region_plan [(0, 0, []), (1, 1, []), (2, 1, []), (3, 1, []), (4, 0, []), (5, 2, []), (6, 0, [])] (by kernel_rfl) (by kernel_rfl) (by kernel_rfl) ?_))
                go_meet
                case rel => exact ⟨_, _, _, F6.out, HN6.out, HNF6.out, by rw [HP.out, HB.out, if_pos (by rw [HE.out]; exact H0.out)], HBS.out.1, HBS.out.2.1, HBS.out.2.2.1, by rw [HBS.out.2.2.2.1]; exact .inl rfl, by rw [HBS.out.2.2.2.2]; exact .inl rfl⟩
              · have h0b : (E != 0) = true := by simpa using h0
                have H0 := Lib.hid h0
                clear h0
                have hr := F6.out.ret.cell
                have hrf := F6.out.ret.frozen
                have hrl := F6.out.ret.lt
                go_wp2_with (first | ((with_reducible show wpPlan _ _ _ _ _ (Act.put _ _ _) _); simp only [List.getElem_toArray, List.getElem_cons_succ, List.getElem_cons_zero, Act.put, List.setIfInBounds_toArray, List.set_cons_zero, List.set_cons_succ]) | ((with_reducible show wpPlan _ _ _ _ _ _ _); first | refine wpPlan_nil ?_ | (refine wpPlan_read0 rfl ?hw rfl (fun _ _ _ => ?_); case hw => ((conv => (lhs; whnf)); first | done | with_reducible rfl)) | (refine wpPlan_read1d rfl ?hw rfl rfl (fun _ _ _ => ?_); case hw => ((conv => (lhs; whnf)); first | done | with_reducible rfl)) | (refine wpPlan_eff rfl ?hw (fun _ _ => ?_); case hw => ((conv => (lhs; whnf)); first | done | with_reducible rfl)) | (refine wpPlan_skip0 rfl ?hw ?_; case hw => ((conv => (lhs; whnf)); first | done | with_reducible rfl)) | (refine wpPlan_skip1d rfl ?hw ?_; case hw => ((conv => (lhs; whnf)); first | done | with_reducible rfl)) | (refine wpPlan_skip2 rfl ?hw ?_; case hw => ((conv => (lhs; whnf)); first | done | with_reducible rfl)) | (refine wpPlan_read1 rfl ?hw rfl (fun _ _ _ => ?_); case hw => ((conv => (lhs; whnf)); first | done | with_reducible rfl)) | refine wpPlan_fork ?_ ?_) | ((with_reducible show Owed _ _ _ _ _ _ _ _ _); first | refine Owed.none_ ?_ | refine Owed.nil_ ?_ | refine Owed.miss rfl ?_ | refine Owed.hit ?_ ?_) | ((with_reducible show Same _ _ _ _ _); intro _; go_simp; done) | (with_reducible exact True.intro) | ((with_reducible show Code.wp _ (Code.region 10 _ true) _ _ _); refine wp_region_plan [(0, 1, []), (1, 1, []), (2, 0, []), (3, 2, []), (4, 0, [])] (by kernel_rfl) (by kernel_rfl) (by kernel_rfl) ?_) | ((with_reducible show Code.wp _ (Code.region 12 _ true) _ _ _); refine wp_region_plan [(0, 1, []), (1, 1, []), (2, 0, []), (3, 2, []), (4, 0, [])] (by kernel_rfl) (by kernel_rfl) (by kernel_rfl) ?_) | ((with_reducible show Code.wp _ (Code.region 21 _ true) _ _ _); refine wp_region_plan [(0, 1, []), (1, 1, []), (2, 0, []), (3, 0, []), (4, 2, []), (5, 0, [])] (by kernel_rfl) (by kernel_rfl) (by kernel_rfl) ?_) | ((with_reducible show Code.wp _ (Code.region 22 _ true) _ _ _); refine wp_region_plan [(0, 0, []), (1, 0, []), (2, 1, []), (3, 1, []), (4, 1, []), (5, 1, []), (6, 2, [2, 3, 4]), (7, 2, []), (8, 1, []), (9, 1, []), (10, 2, [])] (by kernel_rfl) (by kernel_rfl) (by kernel_rfl) ?_) | ((with_reducible show Code.wp _ (Code.region 31 _ true) _ _ _); refine wp_region_plan [(0, 0, []), (1, 1, []), (2, 1, []), (3, 1, []), (4, 1, []), (5, 1, []), (6, 0, []), (7, 0, []), (8, 1, []), (9, 1, []), (10, 1, []), (11, 1, []), (12, 1, []), (13, 0, []), (14, 0, []), (15, 1, []), (16, 1, []), (17, 1, []), (18, 0, []), (19, 1, []), (20, 1, []), (21, 1, []), (22, 2, []), (23, 0, []), (24, 0, [])] (by kernel_rfl) (by kernel_rfl) (by kernel_rfl) ?_) | ((with_reducible show Code.wp _ (Code.region 32 _ true) _ _ _); refine wp_region_plan [(0, 0, []), (1, 1, []), (2, 1, []), (3, 1, []), (4, 0, []), (5, 2, []), (6, 0, [])] (by kernel_rfl) (by kernel_rfl) (by kernel_rfl) ?_) | ((with_reducible show Code.wp _ (Code.region 34 _ true) _ _ _); refine wp_region_plan [(0, 0, []), (1, 1, []), (2, 1, []), (3, 1, []), (4, 0, []), (5, 2, []), (6, 0, [])] (by kernel_rfl) (by kernel_rfl) (by kernel_rfl) ?_))
                have hins : rinsS l = ([], t.pos, E) := rins_err HFO.out HT.out (by rw [HP.out, HB.out, if_neg (by rw [HE.out]; exact H0.out)]; exact HE.out) H0.out
                rw [hins]
                obtain ⟨q0, q1, qb⟩ := F6.out.putRet t.pos
                refine bodyPost_ret (v := .tuple #[.slice none 0 0, t.pos.v, .int .i64 E]) (by simp [results, Tryd.results25, go_sem, q0, q1]) rfl ⟨by first | exact ⟨none, 0, 0, rfl, Rd.nil⟩ | exact ⟨none, 0, ⟨0, rfl⟩, Rd.nil⟩, qb.drew⟩
          · have HX : Hid (xn ≠ zp) := Lib.hid (fun e => by rw [e] at hnx; exact absurd hnx (by decide))
            have hnl : ¬ xn.line = 0 := by omega
            have HB : Hid (rpass ⟨xo, xc, xn, xl⟩ t true = rbeginS ⟨xo, xc, ⟨0, 0⟩, xl⟩ t) := Lib.hid (by unfold rpass; rw [if_pos (.inl HX.out)]; show rbeginS ⟨xo, xc, zp, if xn = zp then zp else xl⟩ t = _; rw [if_neg HX.out]; rfl)
            have hC4 := F4.out.ins.cell
            have hf4 := F4.out.ins.free
            have hbl4 := F4.out.ins.blk.lt
            go_upto_region 19 with (fail)
            have F5 := Lib.hid (F4.out.putNx ⟨0, 0⟩)
            have HN5 : Hid (Blk (((w4.setCell ⟨w.heap.size + 1 + 1, 2, none⟩ (.int .i64 0)).setCell ⟨w.heap.size + 1 + 1, 3, none⟩ (.int .i64 0))) wr.heap.size 40 _) := Lib.hid (HN4.out.out (R := fun k => k = w.heap.size + 1 + 1) (((Outside.refl (fun k => k = w.heap.size + 1 + 1) _).setCell (p := ⟨w.heap.size + 1 + 1, 2, none⟩) (.inl rfl) _).setCell (p := ⟨w.heap.size + 1 + 1, 3, none⟩) (.inl rfl) _) (fun e => HNF.out (.inl e)))
            clear hC4 hf4 hbl4
            generalize ((w4.setCell ⟨w.heap.size + 1 + 1, 2, none⟩ (.int .i64 0)).setCell ⟨w.heap.size + 1 + 1, 3, none⟩ (.int .i64 0)) = w5 at F5 HN5 ⊢
            have hT5 := HN5.out.cell
            have hTl5 := HN5.out.lt
            go_wp2_with fail
            refine (rbegin_any _ ⟨xo, xc, ⟨0, 0⟩, xl⟩ _ _ t _ F5.out.ins (by dsimp only; omega) HNE.out (by dsimp only; omega)).mono ?_
            have hbs := rbeginS_ok ⟨xo, xc, ⟨0, 0⟩, xl⟩ t HLA.out hnest
            obtain ⟨E, hE⟩ : ∃ E, (rbeginS ⟨xo, xc, ⟨0, 0⟩, xl⟩ t).2 = E := ⟨_, rfl⟩
            have HE := Lib.hid hE
            rw [hE]
            rintro e w6 ⟨rfl, hS⟩
            have hS1 := hS
            obtain ⟨vo6, vc6, hI6, hO6, hf6⟩ := hS1
            have hF6 := F5.out.step1 hI6 hO6 hf6
            have F6 := Lib.hid hF6
            have HN6 := Lib.hid (HN5.out.out hO6 HNF.out)
            have HBS := Lib.hid hbs
            have hT6 := HN6.out.cell
            have hTl6 := HN6.out.lt
            have HNF6 : Hid (¬ rfoot (w.heap.size + 1 + 1) vo6 vc6 wr.heap.size) := Lib.hid (fun hf => (hf6 _ hf).elim HNF.out (fun h => by have := HN5.out.lt; omega))
            clear hS hI6 hO6 hf6 hF6 hbs hE hT5 hTl5
            by_cases h0 : E = 0
            · have h0b : (E != 0) = false := by simpa using h0
              have H0 := Lib.hid h0
              clear h0
              go_wp2_with (first | ((with_reducible show wpPlan _ _ _ _ _ (Act.put _ _ _) _); simp only [List.getElem_toArray, List.getElem_cons_succ, List.getElem_cons_zero, Act.put, List.setIfInBounds_toArray, List.set_cons_zero, List.set_cons_succ]) | ((with_reducible show wpPlan _ _ _ _ _ _ _); first | refine wpPlan_nil ?_ | (refine wpPlan_read0 rfl ?hw rfl (fun _ _ _ => ?_); case hw => ((conv => (lhs; whnf)); first | done | with_reducible rfl)) | (refine wpPlan_read1d rfl ?hw rfl rfl (fun _ _ _ => ?_); case hw => ((conv => (lhs; whnf)); first | done | with_reducible rfl)) | (refine wpPlan_eff rfl ?hw (fun _ _ => ?_); case hw => ((conv => (lhs; whnf)); first | done | with_reducible rfl)) | (refine wpPlan_skip0 rfl ?hw ?_; case hw => ((conv => (lhs; whnf)); first | done | with_reducible rfl)) | (refine wpPlan_skip1d rfl ?hw ?_; case hw => ((conv => (lhs; whnf)); first | done | with_reducible rfl)) | (refine wpPlan_skip2 rfl ?hw ?_; case hw => ((conv => (lhs; whnf)); first | done | with_reducible rfl)) | (refine wpPlan_read1 rfl ?hw rfl (fun _ _ _ => ?_); case hw => ((conv => (lhs; whnf)); first | done | with_reducible rfl)) | refine wpPlan_fork ?_ ?_) | ((with_reducible show Owed _ _ _ _ _ _ _ _ _); first | refine Owed.none_ ?_ | refine Owed.nil_ ?_ | refine Owed.miss rfl ?_ | refine Owed.hit ?_ ?_) | ((with_reducible show Same _ _ _ _ _); intro _; go_simp; done) | (with_reducible exact True.intro) | ((with_reducible show Code.wp _ (Code.region 10 _ true) _ _ _); refine wp_region_plan [(0, 1, []), (1, 1, []), (2, 0, []), (3, 2, []), (4, 0, [])] (by kernel_rfl) (by kernel_rfl) (by kernel_rfl) ?_) | ((with_reducible show Code.wp _ (Code.region 12 _ true) _ _ _); refine wp_region_plan [(0, 1, []), (1, 1, []), (2, 0, []), (3, 2, []), (4, 0, [])] (by kernel_rfl) (by kernel_rfl) (by kernel_rfl) ?_) | ((with_reducible show Code.wp _ (Code.region 21 _ true) _ _ _); refine wp_region_plan [(0, 1, []), (1, 1, []), (2, 0, []), (3, 0, []), (4, 2, []), (5, 0, [])] (by kernel_rfl) (by kernel_rfl) (by kernel_rfl) ?_) | ((with_reducible show Code.wp _ (Code.region 22 _ true) _ _ _); refine wp_region_plan [(0, 0, []), (1, 0, []), (2, 1, []), (3, 1, []), (4, 1, []), (5, 1, []), (6, 2, [2, 3, 4]), (7, 2, []), (8, 1, []), (9, 1, []), (10, 2, [])] (by kernel_rfl) (by kernel_rfl) (by kernel_rfl) ?_) | ((with_reducible show Code.wp _ (Code.region 31 _ true) _ _ _); refine wp_region_plan [(0, 0, []), (1, 1, []), (2, 1, []), (3, 1, []), (4, 1, []), (5, 1, []), (6, 0, []), (7, 0, []), (8, 1, []), (9, 1, []), (10, 1, []), (11, 1, []), (12, 1, []), (13, 0, []), (14, 0, []), (15, 1, []), (16, 1, []), (17, 1, []), (18, 0, []), (19, 1, []), (20, 1, []), (21, 1, []), (22, 2, []), (23, 0, []), (24, 0, [])] (by kernel_rfl) (by kernel_rfl) (by kernel_rfl) ?_) | ((with_reducible show Code.wp _ (Code.region 32 _ true) _ _ _); refine wp_region_plan [(0, 0, []), (1, 1, []), (2, 1, []), (3, 1, []), (4, 0, []), (5, 2, []), (6, 0, [])] (by kernel_rfl) (by kernel_rfl) (by kernel_rfl) ?_) | ((with_reducible show Code.wp _ (Code.region 34 _ true) _ _ _); refine wp_region_plan [(0, 0, []), (1, 1, []), (2, 1, []), (3, 1, []), (4, 0, []), (5, 2, []), (6, 0, [])] (by kernel_rfl) (by kernel_rfl) (by kernel_rfl) ?_))
              go_meet
              case rel => exact ⟨_, _, _, F6.out, HN6.out, HNF6.out, by rw [HP.out, HB.out, if_pos (by rw [HE.out]; exact H0.out)], HBS.out.1, HBS.out.2.1, HBS.out.2.2.1, by rw [HBS.out.2.2.2.1]; exact .inl rfl, by rw [HBS.out.2.2.2.2]; exact HI.out.lt⟩
            · have h0b : (E != 0) = true := by simpa using h0
              have H0 := Lib.hid h0
              clear h0
              have hr := F6.out.ret.cell
              have hrf := F6.out.ret.frozen
              have hrl := F6.out.ret.lt
              go_wp2_with (first | ((with_reducible show wpPlan _ _ _ _ _ (Act.put _ _ _) _); simp only [List.getElem_toArray, List.getElem_cons_succ, List.getElem_cons_zero, Act.put, List.setIfInBounds_toArray, List.set_cons_zero, List.set_cons_succ]) | ((with_reducible show wpPlan _ _ _ _ _ _ _); first | refine wpPlan_nil ?_ | (refine wpPlan_read0 rfl ?hw rfl (fun _ _ _ => ?_); case hw => ((conv => (lhs; whnf)); first | done | with_reducible rfl)) | (refine wpPlan_read1d rfl ?hw rfl rfl (fun _ _ _ => ?_); case hw => ((conv => (lhs; whnf)); first | done | with_reducible rfl)) | (refine wpPlan_eff rfl ?hw (fun _ _ => ?_); case hw => ((conv => (lhs; whnf)); first | done | with_reducible rfl)) | (refine wpPlan_skip0 rfl ?hw ?_; case hw => ((conv => (lhs; whnf)); first | done | with_reducible rfl)) | (refine wpPlan_skip1d rfl ?hw ?_; case hw => ((conv => (lhs; whnf)); first | done | with_reducible rfl)) | (refine wpPlan_skip2 rfl ?hw ?_; case hw => ((conv => (lhs; whnf)); first | done | with_reducible rfl)) | (refine wpPlan_read1 rfl ?hw rfl (fun _ _ _ => ?_); case hw => ((conv => (lhs; whnf)); first | done | with_reducible rfl)) | refine wpPlan_fork ?_ ?_) | ((with_reducible show Owed _ _ _ _ _ _ _ _ _); first | refine Owed.none_ ?_ | refine Owed.nil_ ?_ | refine Owed.miss rfl ?_ | refine Owed.hit ?_ ?_) | ((with_reducible show Same _ _ _ _ _); intro _; go_simp; done) | (with_reducible exact True.intro) | ((with_reducible show Code.wp _ (Code.region 10 _ true) _ _ _); refine wp_region_plan [(0, 1, []), (1, 1, []), (2, 0, []), (3, 2, []), (4, 0, [])] (by kernel_rfl) (by kernel_rfl) (by kernel_rfl) ?_) | ((with_reducible show Code.wp _ (Code.region 12 _ true) _ _ _); refine wp_region_plan [(0, 1, []), (1, 1, []), (2, 0, []), (3, 2, []), (4, 0, [])] (by kernel_rfl) (by kernel_rfl) (by kernel_rfl) ?_) | ((with_reducible show Code.wp _ (Code.region 21 _ true) _ _ _); refine wp_region_plan [(0, 1, []), (1, 1, []), (2, 0, []), (3, 0, []), (4, 2, []), (5, 0, [])] (by kernel_rfl) (by kernel_rfl) (by kernel_rfl) ?_) | ((with_reducible show Code.wp _ (Code.region 22 _ true) _ _ _); refine wp_region_plan [(0, 0, []), (1, 0, []), (2, 1, []), (3, 1, []), (4, 1, []), (5, 1, []), (6, 2, [2, 3, 4]), (7, 2, []), (8, 1, []), (9, 1, []), (10, 2, [])] (by kernel_rfl) (by kernel_rfl) (by kernel_rfl) ?_) | ((with_reducible show Code.wp _ (Code.region 31 _ true) _ _ _); refine wp_region_plan [(0, 0, []), (1, 1, []), (2, 1, []), (3, 1, []), (4, 1, []), (5, 1, []), (6, 0, []), (7, 0, []), (8, 1, []), (9, 1, []), (10, 1, []), (11, 1, []), (12, 1, []), (13, 0, []), (14, 0, []), (15, 1, []), (16, 1, []), (17, 1, []), (18, 0, []), (19, 1, []), (20, 1, []), (21, 1, []), (22, 2, []), (23, 0, []), (24, 0, [])] (by kernel_rfl) (by kernel_rfl) (by kernel_rfl) ?_) | ((with_reducible show Code.wp _ (Code.region 32 _ true) _ _ _); refine wp_region_plan [(0, 0, []), (1, 1, []), (2, 1, []), (3, 1, []), (4, 0, []), (5, 2, []), (6, 0, [])] (by kernel_rfl) (by kernel_rfl) (by kernel_rfl) ?_) | ((with_reducible show Code.wp _ (Code.region 34 _ true) _ _ _); refine wp_region_plan [(0, 0, []), (1, 1, []), (2, 1, []), (3, 1, []), (4, 0, []), (5, 2, []), (6, 0, [])] (by kernel_rfl) (by kernel_rfl) (by kernel_rfl) ?_))
              have hins : rinsS l = ([], t.pos, E) := rins_err HFO.out HT.out (by rw [HP.out, HB.out, if_neg (by rw [HE.out]; exact H0.out)]; exact HE.out) H0.out
              rw [hins]
              obtain ⟨q0, q1, qb⟩ := F6.out.putRet t.pos
              refine bodyPost_ret (v := .tuple #[.slice none 0 0, t.pos.v, .int .i64 E]) (by simp [results, Tryd.results25, go_sem, q0, q1]) rfl ⟨by first | exact ⟨none, 0, 0, rfl, Rd.nil⟩ | exact ⟨none, 0, ⟨0, rfl⟩, Rd.nil⟩, qb.drew⟩
        case rest =>
          obtain ⟨y, vo5, vc5, hF5, hN5, hnf5, htk, hla5, hne5, hou5, hnx5, hlt5⟩ := hcut
          have F5 := Lib.hid hF5
          have HN5 := Lib.hid hN5
          have HTK := Lib.hid htk
          have HLA5 := Lib.hid hla5
          obtain ⟨A5, cap5, rfl, _, _⟩ := own_form hF5.ins.out
          have hC5 := hF5.ins.cell
          have hf5 := hF5.ins.free
          have hbl5 := hF5.ins.blk.lt
          have hT5 := hN5.cell
          have hTl5 := hN5.lt
          have hob5 := HI.out.out
          have HO5 := Lib.hid hF5.ins.out
          have HB5 := Lib.hid hF5.ins.blk
          have HNF5 := Lib.hid hnf5
          clear hF5 hN5 htk hla5 hnf5
          go_wp2_with (first | ((with_reducible show wpPlan _ _ _ ((7, 2, _) :: _) _ _ _); refine Stop.intro ?_) | ((with_reducible show wpPlan _ _ _ _ _ (Act.put _ _ _) _); simp only [List.getElem_toArray, List.getElem_cons_succ, List.getElem_cons_zero, Act.put, List.setIfInBounds_toArray, List.set_cons_zero, List.set_cons_succ]) | ((with_reducible show wpPlan _ _ _ _ _ _ _); first | refine wpPlan_nil ?_ | (refine wpPlan_read0 rfl ?hw rfl (fun _ _ _ => ?_); case hw => ((conv => (lhs; whnf)); first | done | with_reducible rfl)) | (refine wpPlan_read1d rfl ?hw rfl rfl (fun _ _ _ => ?_); case hw => ((conv => (lhs; whnf)); first | done | with_reducible rfl)) | (refine wpPlan_eff rfl ?hw (fun _ _ => ?_); case hw => ((conv => (lhs; whnf)); first | done | with_reducible rfl)) | (refine wpPlan_skip0 rfl ?hw ?_; case hw => ((conv => (lhs; whnf)); first | done | with_reducible rfl)) | (refine wpPlan_skip1d rfl ?hw ?_; case hw => ((conv => (lhs; whnf)); first | done | with_reducible rfl)) | (refine wpPlan_skip2 rfl ?hw ?_; case hw => ((conv => (lhs; whnf)); first | done | with_reducible rfl)) | (refine wpPlan_read1 rfl ?hw rfl (fun _ _ _ => ?_); case hw => ((conv => (lhs; whnf)); first | done | with_reducible rfl)) | refine wpPlan_fork ?_ ?_) | ((with_reducible show Owed _ _ _ _ _ _ _ _ _); first | refine Owed.none_ ?_ | refine Owed.nil_ ?_ | refine Owed.miss rfl ?_ | refine Owed.hit ?_ ?_) | ((with_reducible show Same _ _ _ _ _); intro _; go_simp; done) | (with_reducible exact True.intro) | ((with_reducible show Code.wp _ (Code.region 10 _ true) _ _ _); refine wp_region_plan [(0, 1, []), (1, 1, []), (2, 0, []), (3, 2, []), (4, 0, [])] (by kernel_rfl) (by kernel_rfl) (by kernel_rfl) ?_) | ((with_reducible show Code.wp _ (Code.region 12 _ true) _ _ _); refine wp_region_plan [(0, 1, []), (1, 1, []), (2, 0, []), (3, 2, []), (4, 0, [])] (by kernel_rfl) (by kernel_rfl) (by kernel_rfl) ?_) | ((with_reducible show Code.wp _ (Code.region 21 _ true) _ _ _); refine wp_region_plan [(0, 1, []), (1, 1, []), (2, 0, []), (3, 0, []), (4, 2, []), (5, 0, [])] (by kernel_rfl) (by kernel_rfl) (by kernel_rfl) ?_) | ((with_reducible show Code.wp _ (Code.region 22 _ true) _ _ _); refine wp_region_plan [(0, 0, []), (1, 0, []), (2, 1, []), (3, 1, []), (4, 1, []), (5, 1, []), (6, 2, [2, 3, 4]), (7, 2, []), (8, 1, []), (9, 1, []), (10, 2, [])] (by kernel_rfl) (by kernel_rfl) (by kernel_rfl) ?_) | ((with_reducible show Code.wp _ (Code.region 31 _ true) _ _ _); refine wp_region_plan [(0, 0, []), (1, 1, []), (2, 1, []), (3, 1, []), (4, 1, []), (5, 1, []), (6, 0, []), (7, 0, []), (8, 1, []), (9, 1, []), (10, 1, []), (11, 1, []), (12, 1, []), (13, 0, []), (14, 0, []), (15, 1, []), (16, 1, []), (17, 1, []), (18, 0, []), (19, 1, []), (20, 1, []), (21, 1, []), (22, 2, []), (23, 0, []), (24, 0, [])] (by kernel_rfl) (by kernel_rfl) (by kernel_rfl) ?_) | ((with_reducible show Code.wp _ (Code.region 32 _ true) _ _ _); refine wp_region_plan [(0, 0, []), (1, 1, []), (2, 1, []), (3, 1, []), (4, 0, []), (5, 2, []), (6, 0, [])] (by kernel_rfl) (by kernel_rfl) (by kernel_rfl) ?_) | ((with_reducible show Code.wp _ (Code.region 34 _ true) _ _ _); refine wp_region_plan [(0, 0, []), (1, 1, []), (2, 1, []), (3, 1, []), (4, 0, []), (5, 2, []), (6, 0, [])] (by kernel_rfl) (by kernel_rfl) (by kernel_rfl) ?_))
          unfold Stop
          refine wpPlan_eff rfl rfl (fun _ hK => ?_)
          refine app_blk slTok rfl ((HO5.out.alloc _).drew) rfl (news := t.cells) ((heap_alloc_at rfl) : Blk _ wc.heap.size _ _) rfl rfl (by simp [Tok.cells, Value.oneCell']) (by decide) (by unfold maxLen; omega) (by omega) ?_
          intro g6 cap6 w6 hown6 hgrow6 hat6
          refine hK _ _ ?_
          clear hK
          have hb6 := ((HB5.out.alloc _).drew).grown hgrow6 (Ne.symm (own_apart F5.out.ins.out F5.out.ins.blk (by decide)))
          have hf6 := hb6.frozen
          have hc6 := hb6.cell
          have hbl6 := hb6.lt
          simp only [Act.put, List.setIfInBounds_toArray]
          go_upto_region 23 with (first | ((with_reducible show wpPlan _ _ _ _ _ (Act.put _ _ _) _); simp only [List.getElem_toArray, List.getElem_cons_succ, List.getElem_cons_zero, Act.put, List.setIfInBounds_toArray, List.set_cons_zero, List.set_cons_succ]) | ((with_reducible show wpPlan _ _ _ _ _ _ _); first | refine wpPlan_nil ?_ | (refine wpPlan_read0 rfl ?hw rfl (fun _ _ _ => ?_); case hw => ((conv => (lhs; whnf)); first | done | with_reducible rfl)) | (refine wpPlan_read1d rfl ?hw rfl rfl (fun _ _ _ => ?_); case hw => ((conv => (lhs; whnf)); first | done | with_reducible rfl)) | (refine wpPlan_eff rfl ?hw (fun _ _ => ?_); case hw => ((conv => (lhs; whnf)); first | done | with_reducible rfl)) | (refine wpPlan_skip0 rfl ?hw ?_; case hw => ((conv => (lhs; whnf)); first | done | with_reducible rfl)) | (refine wpPlan_skip1d rfl ?hw ?_; case hw => ((conv => (lhs; whnf)); first | done | with_reducible rfl)) | (refine wpPlan_skip2 rfl ?hw ?_; case hw => ((conv => (lhs; whnf)); first | done | with_reducible rfl)) | (refine wpPlan_read1 rfl ?hw rfl (fun _ _ _ => ?_); case hw => ((conv => (lhs; whnf)); first | done | with_reducible rfl)) | refine wpPlan_fork ?_ ?_) | ((with_reducible show Owed _ _ _ _ _ _ _ _ _); first | refine Owed.none_ ?_ | refine Owed.nil_ ?_ | refine Owed.miss rfl ?_ | refine Owed.hit ?_ ?_) | ((with_reducible show Same _ _ _ _ _); intro _; go_simp; done) | (with_reducible exact True.intro) | ((with_reducible show Code.wp _ (Code.region 10 _ true) _ _ _); refine wp_region_plan [(0, 1, []), (1, 1, []), (2, 0, []), (3, 2, []), (4, 0, [])] (by kernel_rfl) (by kernel_rfl) (by kernel_rfl) ?_) | ((with_reducible show Code.wp _ (Code.region 12 _ true) _ _ _); refine wp_region_plan [(0, 1, []), (1, 1, []), (2, 0, []), (3, 2, []), (4, 0, [])] (by kernel_rfl) (by kernel_rfl) (by kernel_rfl) ?_) | ((with_reducible show Code.wp _ (Code.region 21 _ true) _ _ _); refine wp_region_plan [(0, 1, []), (1, 1, []), (2, 0, []), (3, 0, []), (4, 2, []), (5, 0, [])] (by kernel_rfl) (by kernel_rfl) (by kernel_rfl) ?_) | ((with_reducible show Code.wp _ (Code.region 22 _ true) _ _ _); refine wp_region_plan [(0, 0, []), (1, 0, []), (2, 1, []), (3, 1, []), (4, 1, []), (5, 1, []), (6, 2, [2, 3, 4]), (7, 2, []), (8, 1, []), (9, 1, []), (10, 2, [])] (by kernel_rfl) (by kernel_rfl) (by kernel_rfl) ?_) | ((with_reducible show Code.wp _ (Code.region 31 _ true) _ _ _); refine wp_region_plan [(0, 0, []), (1, 1, []), (2, 1, []), (3, 1, []), (4, 1, []), (5, 1, []), (6, 0, []), (7, 0, []), (8, 1, []), (9, 1, []), (10, 1, []), (11, 1, []), (12, 1, []), (13, 0, []), (14, 0, []), (15, 1, []), (16, 1, []), (17, 1, []), (18, 0, []), (19, 1, []), (20, 1, []), (21, 1, []), (22, 2, []), (23, 0, []), (24, 0, [])] (by kernel_rfl) (by kernel_rfl) (by kernel_rfl) ?_) | ((with_reducible show Code.wp _ (Code.region 32 _ true) _ _ _); refine wp_region_plan [(0, 0, []), (1, 1, []), (2, 1, []), (3, 1, []), (4, 0, []), (5, 2, []), (6, 0, [])] (by kernel_rfl) (by kernel_rfl) (by kernel_rfl) ?_) | ((with_reducible show Code.wp _ (Code.region 34 _ true) _ _ _); refine wp_region_plan [(0, 0, []), (1, 1, []), (2, 1, []), (3, 1, []), (4, 0, []), (5, 2, []), (6, 0, [])] (by kernel_rfl) (by kernel_rfl) (by kernel_rfl) ?_))
          have hP := rpushOut (c := t) F5.out.ins (((Outside.refl _ _).alloc _).drew) hgrow6 hown6 (hat6.imp id (fun h => ⟨g6, rfl, h⟩))
          obtain ⟨vo7, vc7, hI7, hO7, hf7⟩ := hP
          have F7 := Lib.hid (F5.out.step1 hI7 hO7 hf7)
          have HN7 := Lib.hid (HN5.out.out hO7 HNF5.out)
          clear hI7 hf7 hC5 hf5 hbl5 hT5 hTl5 hf6 hc6 hbl6 hb6 hown6 hgrow6 hat6 hO7
          generalize (w6.setCell ⟨w.heap.size + 1 + 1, 0, none⟩ (.slice (some ⟨g6, 0, none⟩) (y.out.length + 1) cap6)) = w7 at F7 HN7 ⊢
          have hT7 := HN7.out.cell
          have hTl7 := HN7.out.lt
          have HLN : Hid (1 ≤ t.pos.line) := Lib.hid (by have := HAF.out; have := HLL.out; unfold aft at *; simp at *; omega)
          have HMK : Hid (rpushS y t = rmarkS { y with out := y.out ++ [t] } t) := Lib.hid rfl
          by_cases hk3 : t.kind = 3
          · have hk3b : (t.kind == 3) = true := by simpa using hk3
            have HK3 := Lib.hid hk3
            clear hk3
            have HBL : Hid ((t.str.toList == [108, 101, 116]) = decide (t.str = letB)) := Lib.hid (strB _ _)
            have HBE : Hid ((t.str.toList == [101, 120, 112, 111, 114, 116, 115]) = decide (t.str = exportsB)) := Lib.hid (strB _ _)
            have HBM : Hid ((t.str.toList == [109, 111, 100, 117, 108, 101]) = decide (t.str = moduleB)) := Lib.hid (strB _ _)
            have HBT : Hid ((t.str.toList == [84, 105, 109, 101, 100]) = decide (t.str = timedB)) := Lib.hid (strB _ _)
            by_cases hsL : t.str = letB
            · have HShL := Lib.hid hsL
              clear hsL
              have hL : (t.str.toList == [108, 101, 116]) = true := by rw [HBL.out]; exact decide_eq_true HShL.out
              have HM : Hid (rpushS y t = { y with out := y.out ++ [t], nx := t.pos }) := Lib.hid (by rw [HMK.out]; unfold rmarkS; rw [if_pos HK3.out, if_pos (.inl HShL.out)])
              have hC7 := F7.out.ins.cell
              have hf7 := F7.out.ins.free
              have hbl7 := F7.out.ins.blk.lt
              go_wp2_with (first | ((with_reducible show wpPlan _ _ _ _ _ (Act.put _ _ _) _); simp only [List.getElem_toArray, List.getElem_cons_succ, List.getElem_cons_zero, Act.put, List.setIfInBounds_toArray, List.set_cons_zero, List.set_cons_succ]) | ((with_reducible show wpPlan _ _ _ _ _ _ _); first | refine wpPlan_nil ?_ | (refine wpPlan_read0 rfl ?hw rfl (fun _ _ _ => ?_); case hw => ((conv => (lhs; whnf)); first | done | with_reducible rfl)) | (refine wpPlan_read1d rfl ?hw rfl rfl (fun _ _ _ => ?_); case hw => ((conv => (lhs; whnf)); first | done | with_reducible rfl)) | (refine wpPlan_eff rfl ?hw (fun _ _ => ?_); case hw => ((conv => (lhs; whnf)); first | done | with_reducible rfl)) | (refine wpPlan_skip0 rfl ?hw ?_; case hw => ((conv => (lhs; whnf)); first | done | with_reducible rfl)) | (refine wpPlan_skip1d rfl ?hw ?_; case hw => ((conv => (lhs; whnf)); first | done | with_reducible rfl)) | (refine wpPlan_skip2 rfl ?hw ?_; case hw => ((conv => (lhs; whnf)); first | done | with_reducible rfl)) | (refine wpPlan_read1 rfl ?hw rfl (fun _ _ _ => ?_); case hw => ((conv => (lhs; whnf)); first | done | with_reducible rfl)) | refine wpPlan_fork ?_ ?_) | ((with_reducible show Owed _ _ _ _ _ _ _ _ _); first | refine Owed.none_ ?_ | refine Owed.nil_ ?_ | refine Owed.miss rfl ?_ | refine Owed.hit ?_ ?_) | ((with_reducible show Same _ _ _ _ _); intro _; go_simp; done) | (with_reducible exact True.intro) | ((with_reducible show Code.wp _ (Code.region 10 _ true) _ _ _); refine wp_region_plan [(0, 1, []), (1, 1, []), (2, 0, []), (3, 2, []), (4, 0, [])] (by kernel_rfl) (by kernel_rfl) (by kernel_rfl) ?_) | ((with_reducible show Code.wp _ (Code.region 12 _ true) _ _ _); refine wp_region_plan [(0, 1, []), (1, 1, []), (2, 0, []), (3, 2, []), (4, 0, [])] (by kernel_rfl) (by kernel_rfl) (by kernel_rfl) ?_) | ((with_reducible show Code.wp _ (Code.region 21 _ true) _ _ _); refine wp_region_plan [(0, 1, []), (1, 1, []), (2, 0, []), (3, 0, []), (4, 2, []), (5, 0, [])] (by kernel_rfl) (by kernel_rfl) (by kernel_rfl) ?_) | ((with_reducible show Code.wp _ (Code.region 22 _ true) _ _ _); refine wp_region_plan [(0, 0, []), (1, 0, []), (2, 1, []), (3, 1, []), (4, 1, []), (5, 1, []), (6, 2, [2, 3, 4]), (7, 2, []), (8, 1, []), (9, 1, []), (10, 2, [])] (by kernel_rfl) (by kernel_rfl) (by kernel_rfl) ?_) | ((with_reducible show Code.wp _ (Code.region 31 _ true) _ _ _); refine wp_region_plan [(0, 0, []), (1, 1, []), (2, 1, []), (3, 1, []), (4, 1, []), (5, 1, []), (6, 0, []), (7, 0, []), (8, 1, []), (9, 1, []), (10, 1, []), (11, 1, []), (12, 1, []), (13, 0, []), (14, 0, []), (15, 1, []), (16, 1, []), (17, 1, []), (18, 0, []), (19, 1, []), (20, 1, []), (21, 1, []), (22, 2, []), (23, 0, []), (24, 0, [])] (by kernel_rfl) (by kernel_rfl) (by kernel_rfl) ?_) | ((with_reducible show Code.wp _ (Code.region 32 _ true) _ _ _); refine wp_region_plan [(0, 0, []), (1, 1, []), (2, 1, []), (3, 1, []), (4, 0, []), (5, 2, []), (6, 0, [])] (by kernel_rfl) (by kernel_rfl) (by kernel_rfl) ?_) | ((with_reducible show Code.wp _ (Code.region 34 _ true) _ _ _); refine wp_region_plan [(0, 0, []), (1, 1, []), (2, 1, []), (3, 1, []), (4, 0, []), (5, 2, []), (6, 0, [])] (by kernel_rfl) (by kernel_rfl) (by kernel_rfl) ?_))
              go_roundw
              case rel => exact ⟨k + 1, by omega, by go_num, _, t.pos, _, _, (F7.out.putNx t.pos), by have := rins_next HFO.out HT.out (by rw [HTK.out]); rw [HTK.out, HM.out] at this; exact this, HLN.out, HLA5.out, hne5, (by have := hou5; have := HI.out.out; simp; omega), .inr HLN.out, hlt5⟩
              case measure => simp [intOf]; omega
            · have HShL := Lib.hid hsL
              clear hsL
              have hL : (t.str.toList == [108, 101, 116]) = false := by rw [HBL.out]; exact decide_eq_false HShL.out
              by_cases hsE : t.str = exportsB
              · have HShE := Lib.hid hsE
                clear hsE
                have hE : (t.str.toList == [101, 120, 112, 111, 114, 116, 115]) = true := by rw [HBE.out]; exact decide_eq_true HShE.out
                have HM : Hid (rpushS y t = { y with out := y.out ++ [t], nx := t.pos }) := Lib.hid (by rw [HMK.out]; unfold rmarkS; rw [if_pos HK3.out, if_pos (.inr HShE.out)])
                have hC7 := F7.out.ins.cell
                have hf7 := F7.out.ins.free
                have hbl7 := F7.out.ins.blk.lt
                go_wp2_with (first | ((with_reducible show wpPlan _ _ _ _ _ (Act.put _ _ _) _); simp only [List.getElem_toArray, List.getElem_cons_succ, List.getElem_cons_zero, Act.put, List.setIfInBounds_toArray, List.set_cons_zero, List.set_cons_succ]) | ((with_reducible show wpPlan _ _ _ _ _ _ _); first | refine wpPlan_nil ?_ | (refine wpPlan_read0 rfl ?hw rfl (fun _ _ _ => ?_); case hw => ((conv => (lhs; whnf)); first | done | with_reducible rfl)) | (refine wpPlan_read1d rfl ?hw rfl rfl (fun _ _ _ => ?_); case hw => ((conv => (lhs; whnf)); first | done | with_reducible rfl)) | (refine wpPlan_eff rfl ?hw (fun _ _ => ?_); case hw => ((conv => (lhs; whnf)); first | done | with_reducible rfl)) | (refine wpPlan_skip0 rfl ?hw ?_; case hw => ((conv => (lhs; whnf)); first | done | with_reducible rfl)) | (refine wpPlan_skip1d rfl ?hw ?_; case hw => ((conv => (lhs; whnf)); first | done | with_reducible rfl)) | (refine wpPlan_skip2 rfl ?hw ?_; case hw => ((conv => (lhs; whnf)); first | done | with_reducible rfl)) | (refine wpPlan_read1 rfl ?hw rfl (fun _ _ _ => ?_); case hw => ((conv => (lhs; whnf)); first | done | with_reducible rfl)) | refine wpPlan_fork ?_ ?_) | ((with_reducible show Owed _ _ _ _ _ _ _ _ _); first | refine Owed.none_ ?_ | refine Owed.nil_ ?_ | refine Owed.miss rfl ?_ | refine Owed.hit ?_ ?_) | ((with_reducible show Same _ _ _ _ _); intro _; go_simp; done) | (with_reducible exact True.intro) | ((with_reducible show Code.wp _ (Code.region 10 _ true) _ _ _); refine wp_region_plan [(0, 1, []), (1, 1, []), (2, 0, []), (3, 2, []), (4, 0, [])] (by kernel_rfl) (by kernel_rfl) (by kernel_rfl) ?_) | ((with_reducible show Code.wp _ (Code.region 12 _ true) _ _ _); refine wp_region_plan [(0, 1, []), (1, 1, []), (2, 0, []), (3, 2, []), (4, 0, [])] (by kernel_rfl) (by kernel_rfl) (by kernel_rfl) ?_) | ((with_reducible show Code.wp _ (Code.region 21 _ true) _ _ _); refine wp_region_plan [(0, 1, []), (1, 1, []), (2, 0, []), (3, 0, []), (4, 2, []), (5, 0, [])] (by kernel_rfl) (by kernel_rfl) (by kernel_rfl) ?_) | ((with_reducible show Code.wp _ (Code.region 22 _ true) _ _ _); refine wp_region_plan [(0, 0, []), (1, 0, []), (2, 1, []), (3, 1, []), (4, 1, []), (5, 1, []), (6, 2, [2, 3, 4]), (7, 2, []), (8, 1, []), (9, 1, []), (10, 2, [])] (by kernel_rfl) (by kernel_rfl) (by kernel_rfl) ?_) | ((with_reducible show Code.wp _ (Code.region 31 _ true) _ _ _); refine wp_region_plan [(0, 0, []), (1, 1, []), (2, 1, []), (3, 1, []), (4, 1, []), (5, 1, []), (6, 0, []), (7, 0, []), (8, 1, []), (9, 1, []), (10, 1, []), (11, 1, []), (12, 1, []), (13, 0, []), (14, 0, []), (15, 1, []), (16, 1, []), (17, 1, []), (18, 0, []), (19, 1, []), (20, 1, []), (21, 1, []), (22, 2, []), (23, 0, []), (24, 0, [])] (by kernel_rfl) (by kernel_rfl) (by kernel_rfl) ?_) | ((with_reducible show Code.wp _ (Code.region 32 _ true) _ _ _); refine wp_region_plan [(0, 0, []), (1, 1, []), (2, 1, []), (3, 1, []), (4, 0, []), (5, 2, []), (6, 0, [])] (by kernel_rfl) (by kernel_rfl) (by kernel_rfl) ?_) | ((with_reducible show Code.wp _ (Code.region 34 _ true) _ _ _); refine wp_region_plan [(0, 0, []), (1, 1, []), (2, 1, []), (3, 1, []), (4, 0, []), (5, 2, []), (6, 0, [])] (by kernel_rfl) (by kernel_rfl) (by kernel_rfl) ?_))
                go_roundw
                case rel => exact ⟨k + 1, by omega, by go_num, _, t.pos, _, _, (F7.out.putNx t.pos), by have := rins_next HFO.out HT.out (by rw [HTK.out]); rw [HTK.out, HM.out] at this; exact this, HLN.out, HLA5.out, hne5, (by have := hou5; have := HI.out.out; simp; omega), .inr HLN.out, hlt5⟩
                case measure => simp [intOf]; omega
              · have HShE := Lib.hid hsE
                clear hsE
                have hE : (t.str.toList == [101, 120, 112, 111, 114, 116, 115]) = false := by rw [HBE.out]; exact decide_eq_false HShE.out
                by_cases hsM : t.str = moduleB
                · have HShM := Lib.hid hsM
                  clear hsM
                  have hM : (t.str.toList == [109, 111, 100, 117, 108, 101]) = true := by rw [HBM.out]; exact decide_eq_true HShM.out
                  have HM : Hid (rpushS y t = { y with out := y.out ++ [t], lt := t.pos }) := Lib.hid (by rw [HMK.out]; unfold rmarkS; rw [if_pos HK3.out, if_neg (by rintro (e | e); exact HShL.out e; exact HShE.out e), if_pos (.inl HShM.out)])
                  have hC7 := F7.out.ins.cell
                  have hf7 := F7.out.ins.free
                  have hbl7 := F7.out.ins.blk.lt
                  go_wp2_with (first | ((with_reducible show wpPlan _ _ _ _ _ (Act.put _ _ _) _); simp only [List.getElem_toArray, List.getElem_cons_succ, List.getElem_cons_zero, Act.put, List.setIfInBounds_toArray, List.set_cons_zero, List.set_cons_succ]) | ((with_reducible show wpPlan _ _ _ _ _ _ _); first | refine wpPlan_nil ?_ | (refine wpPlan_read0 rfl ?hw rfl (fun _ _ _ => ?_); case hw => ((conv => (lhs; whnf)); first | done | with_reducible rfl)) | (refine wpPlan_read1d rfl ?hw rfl rfl (fun _ _ _ => ?_); case hw => ((conv => (lhs; whnf)); first | done | with_reducible rfl)) | (refine wpPlan_eff rfl ?hw (fun _ _ => ?_); case hw => ((conv => (lhs; whnf)); first | done | with_reducible rfl)) | (refine wpPlan_skip0 rfl ?hw ?_; case hw => ((conv => (lhs; whnf)); first | done | with_reducible rfl)) | (refine wpPlan_skip1d rfl ?hw ?_; case hw => ((conv => (lhs; whnf)); first | done | with_reducible rfl)) | (refine wpPlan_skip2 rfl ?hw ?_; case hw => ((conv => (lhs; whnf)); first | done | with_reducible rfl)) | (refine wpPlan_read1 rfl ?hw rfl (fun _ _ _ => ?_); case hw => ((conv => (lhs; whnf)); first | done | with_reducible rfl)) | refine wpPlan_fork ?_ ?_) | ((with_reducible show Owed _ _ _ _ _ _ _ _ _); first | refine Owed.none_ ?_ | refine Owed.nil_ ?_ | refine Owed.miss rfl ?_ | refine Owed.hit ?_ ?_) | ((with_reducible show Same _ _ _ _ _); intro _; go_simp; done) | (with_reducible exact True.intro) | ((with_reducible show Code.wp _ (Code.region 10 _ true) _ _ _); refine wp_region_plan [(0, 1, []), (1, 1, []), (2, 0, []), (3, 2, []), (4, 0, [])] (by kernel_rfl) (by kernel_rfl) (by kernel_rfl) ?_) | ((with_reducible show Code.wp _ (Code.region 12 _ true) _ _ _); refine wp_region_plan [(0, 1, []), (1, 1, []), (2, 0, []), (3, 2, []), (4, 0, [])] (by kernel_rfl) (by kernel_rfl) (by kernel_rfl) ?_) | ((with_reducible show Code.wp _ (Code.region 21 _ true) _ _ _); refine wp_region_plan [(0, 1, []), (1, 1, []), (2, 0, []), (3, 0, []), (4, 2, []), (5, 0, [])] (by kernel_rfl) (by kernel_rfl) (by kernel_rfl) ?_) | ((with_reducible show Code.wp _ (Code.region 22 _ true) _ _ _); refine wp_region_plan [(0, 0, []), (1, 0, []), (2, 1, []), (3, 1, []), (4, 1, []), (5, 1, []), (6, 2, [2, 3, 4]), (7, 2, []), (8, 1, []), (9, 1, []), (10, 2, [])] (by kernel_rfl) (by kernel_rfl) (by kernel_rfl) ?_) | ((with_reducible show Code.wp _ (Code.region 31 _ true) _ _ _); refine wp_region_plan [(0, 0, []), (1, 1, []), (2, 1, []), (3, 1, []), (4, 1, []), (5, 1, []), (6, 0, []), (7, 0, []), (8, 1, []), (9, 1, []), (10, 1, []), (11, 1, []), (12, 1, []), (13, 0, []), (14, 0, []), (15, 1, []), (16, 1, []), (17, 1, []), (18, 0, []), (19, 1, []), (20, 1, []), (21, 1, []), (22, 2, []), (23, 0, []), (24, 0, [])] (by kernel_rfl) (by kernel_rfl) (by kernel_rfl) ?_) | ((with_reducible show Code.wp _ (Code.region 32 _ true) _ _ _); refine wp_region_plan [(0, 0, []), (1, 1, []), (2, 1, []), (3, 1, []), (4, 0, []), (5, 2, []), (6, 0, [])] (by kernel_rfl) (by kernel_rfl) (by kernel_rfl) ?_) | ((with_reducible show Code.wp _ (Code.region 34 _ true) _ _ _); refine wp_region_plan [(0, 0, []), (1, 1, []), (2, 1, []), (3, 1, []), (4, 0, []), (5, 2, []), (6, 0, [])] (by kernel_rfl) (by kernel_rfl) (by kernel_rfl) ?_))
                  go_roundw
                  case rel => exact ⟨k + 1, by omega, by go_num, _, t.pos, _, _, (F7.out.putLt t.pos), by have := rins_next HFO.out HT.out (by rw [HTK.out]); rw [HTK.out, HM.out] at this; exact this, HLN.out, HLA5.out, hne5, (by have := hou5; have := HI.out.out; simp; omega), hnx5, .inr HLN.out⟩
                  case measure => simp [intOf]; omega
                · have HShM := Lib.hid hsM
                  clear hsM
                  have hM : (t.str.toList == [109, 111, 100, 117, 108, 101]) = false := by rw [HBM.out]; exact decide_eq_false HShM.out
                  by_cases hsT : t.str = timedB
                  · have HShT := Lib.hid hsT
                    clear hsT
                    have hT : (t.str.toList == [84, 105, 109, 101, 100]) = true := by rw [HBT.out]; exact decide_eq_true HShT.out
                    have HM : Hid (rpushS y t = { y with out := y.out ++ [t], lt := t.pos }) := Lib.hid (by rw [HMK.out]; unfold rmarkS; rw [if_pos HK3.out, if_neg (by rintro (e | e); exact HShL.out e; exact HShE.out e), if_pos (.inr HShT.out)])
                    have hC7 := F7.out.ins.cell
                    have hf7 := F7.out.ins.free
                    have hbl7 := F7.out.ins.blk.lt
                    go_wp2_with (first | ((with_reducible show wpPlan _ _ _ _ _ (Act.put _ _ _) _); simp only [List.getElem_toArray, List.getElem_cons_succ, List.getElem_cons_zero, Act.put, List.setIfInBounds_toArray, List.set_cons_zero, List.set_cons_succ]) | ((with_reducible show wpPlan _ _ _ _ _ _ _); first | refine wpPlan_nil ?_ | (refine wpPlan_read0 rfl ?hw rfl (fun _ _ _ => ?_); case hw => ((conv => (lhs; whnf)); first | done | with_reducible rfl)) | (refine wpPlan_read1d rfl ?hw rfl rfl (fun _ _ _ => ?_); case hw => ((conv => (lhs; whnf)); first | done | with_reducible rfl)) | (refine wpPlan_eff rfl ?hw (fun _ _ => ?_); case hw => ((conv => (lhs; whnf)); first | done | with_reducible rfl)) | (refine wpPlan_skip0 rfl ?hw ?_; case hw => ((conv => (lhs; whnf)); first | done | with_reducible rfl)) | (refine wpPlan_skip1d rfl ?hw ?_; case hw => ((conv => (lhs; whnf)); first | done | with_reducible rfl)) | (refine wpPlan_skip2 rfl ?hw ?_; case hw => ((conv => (lhs; whnf)); first | done | with_reducible rfl)) | (refine wpPlan_read1 rfl ?hw rfl (fun _ _ _ => ?_); case hw => ((conv => (lhs; whnf)); first | done | with_reducible rfl)) | refine wpPlan_fork ?_ ?_) | ((with_reducible show Owed _ _ _ _ _ _ _ _ _); first | refine Owed.none_ ?_ | refine Owed.nil_ ?_ | refine Owed.miss rfl ?_ | refine Owed.hit ?_ ?_) | ((with_reducible show Same _ _ _ _ _); intro _; go_simp; done) | (with_reducible exact True.intro) | ((with_reducible show Code.wp _ (Code.region 10 _ true) _ _ _); refine wp_region_plan [(0, 1, []), (1, 1, []), (2, 0, []), (3, 2, []), (4, 0, [])] (by kernel_rfl) (by kernel_rfl) (by kernel_rfl) ?_) | ((with_reducible show Code.wp _ (Code.region 12 _ true) _ _ _); refine wp_region_plan [(0, 1, []), (1, 1, []), (2, 0, []), (3, 2, []), (4, 0, [])] (by kernel_rfl) (by kernel_rfl) (by kernel_rfl) ?_) | ((with_reducible show Code.wp _ (Code.region 21 _ true) _ _ _); refine wp_region_plan [(0, 1, []), (1, 1, []), (2, 0, []), (3, 0, []), (4, 2, []), (5, 0, [])] (by kernel_rfl) (by kernel_rfl) (by kernel_rfl) ?_) | ((with_reducible show Code.wp _ (Code.region 22 _ true) _ _ _); refine wp_region_plan [(0, 0, []), (1, 0, []), (2, 1, []), (3, 1, []), (4, 1, []), (5, 1, []), (6, 2, [2, 3, 4]), (7, 2, []), (8, 1, []), (9, 1, []), (10, 2, [])] (by kernel_rfl) (by kernel_rfl) (by kernel_rfl) ?_) | ((with_reducible show Code.wp _ (Code.region 31 _ true) _ _ _); refine wp_region_plan [(0, 0, []), (1, 1, []), (2, 1, []), (3, 1, []), (4, 1, []), (5, 1, []), (6, 0, []), (7, 0, []), (8, 1, []), (9, 1, []), (10, 1, []), (11, 1, []), (12, 1, []), (13, 0, []), (14, 0, []), (15, 1, []), (16, 1, []), (17, 1, []), (18, 0, []), (19, 1, []), (20, 1, []), (21, 1, []), (22, 2, []), (23, 0, []), (24, 0, [])] (by kernel_rfl) (by kernel_rfl) (by kernel_rfl) ?_) | ((with_reducible show Code.wp _ (Code.region 32 _ true) _ _ _); refine wp_region_plan [(0, 0, []), (1, 1, []), (2, 1, []), (3, 1, []), (4, 0, []), (5, 2, []), (6, 0, [])] (by kernel_rfl) (by kernel_rfl) (by kernel_rfl) ?_) | ((with_reducible show Code.wp _ (Code.region 34 _ true) _ _ _); refine wp_region_plan [(0, 0, []), (1, 1, []), (2, 1, []), (3, 1, []), (4, 0, []), (5, 2, []), (6, 0, [])] (by kernel_rfl) (by kernel_rfl) (by kernel_rfl) ?_))
                    go_roundw
                    case rel => exact ⟨k + 1, by omega, by go_num, _, t.pos, _, _, (F7.out.putLt t.pos), by have := rins_next HFO.out HT.out (by rw [HTK.out]); rw [HTK.out, HM.out] at this; exact this, HLN.out, HLA5.out, hne5, (by have := hou5; have := HI.out.out; simp; omega), hnx5, .inr HLN.out⟩
                    case measure => simp [intOf]; omega
                  · have HShT := Lib.hid hsT
                    clear hsT
                    have hT : (t.str.toList == [84, 105, 109, 101, 100]) = false := by rw [HBT.out]; exact decide_eq_false HShT.out
                    have HM : Hid (rpushS y t = { y with out := y.out ++ [t] }) := Lib.hid (by rw [HMK.out]; unfold rmarkS; rw [if_pos HK3.out, if_neg (by rintro (e | e); exact HShL.out e; exact HShE.out e), if_neg (by rintro (e | e); exact HShM.out e; exact HShT.out e)])
                    go_wp2_with (first | ((with_reducible show wpPlan _ _ _ _ _ (Act.put _ _ _) _); simp only [List.getElem_toArray, List.getElem_cons_succ, List.getElem_cons_zero, Act.put, List.setIfInBounds_toArray, List.set_cons_zero, List.set_cons_succ]) | ((with_reducible show wpPlan _ _ _ _ _ _ _); first | refine wpPlan_nil ?_ | (refine wpPlan_read0 rfl ?hw rfl (fun _ _ _ => ?_); case hw => ((conv => (lhs; whnf)); first | done | with_reducible rfl)) | (refine wpPlan_read1d rfl ?hw rfl rfl (fun _ _ _ => ?_); case hw => ((conv => (lhs; whnf)); first | done | with_reducible rfl)) | (refine wpPlan_eff rfl ?hw (fun _ _ => ?_); case hw => ((conv => (lhs; whnf)); first | done | with_reducible rfl)) | (refine wpPlan_skip0 rfl ?hw ?_; case hw => ((conv => (lhs; whnf)); first | done | with_reducible rfl)) | (refine wpPlan_skip1d rfl ?hw ?_; case hw => ((conv => (lhs; whnf)); first | done | with_reducible rfl)) | (refine wpPlan_skip2 rfl ?hw ?_; case hw => ((conv => (lhs; whnf)); first | done | with_reducible rfl)) | (refine wpPlan_read1 rfl ?hw rfl (fun _ _ _ => ?_); case hw => ((conv => (lhs; whnf)); first | done | with_reducible rfl)) | refine wpPlan_fork ?_ ?_) | ((with_reducible show Owed _ _ _ _ _ _ _ _ _); first | refine Owed.none_ ?_ | refine Owed.nil_ ?_ | refine Owed.miss rfl ?_ | refine Owed.hit ?_ ?_) | ((with_reducible show Same _ _ _ _ _); intro _; go_simp; done) | (with_reducible exact True.intro) | ((with_reducible show Code.wp _ (Code.region 10 _ true) _ _ _); refine wp_region_plan [(0, 1, []), (1, 1, []), (2, 0, []), (3, 2, []), (4, 0, [])] (by kernel_rfl) (by kernel_rfl) (by kernel_rfl) ?_) | ((with_reducible show Code.wp _ (Code.region 12 _ true) _ _ _); refine wp_region_plan [(0, 1, []), (1, 1, []), (2, 0, []), (3, 2, []), (4, 0, [])] (by kernel_rfl) (by kernel_rfl) (by kernel_rfl) ?_) | ((with_reducible show Code.wp _ (Code.region 21 _ true) _ _ _); refine wp_region_plan [(0, 1, []), (1, 1, []), (2, 0, []), (3, 0, []), (4, 2, []), (5, 0, [])] (by kernel_rfl) (by kernel_rfl) (by kernel_rfl) ?_) | ((with_reducible show Code.wp _ (Code.region 22 _ true) _ _ _); refine wp_region_plan [(0, 0, []), (1, 0, []), (2, 1, []), (3, 1, []), (4, 1, []), (5, 1, []), (6, 2, [2, 3, 4]), (7, 2, []), (8, 1, []), (9, 1, []), (10, 2, [])] (by kernel_rfl) (by kernel_rfl) (by kernel_rfl) ?_) | ((with_reducible show Code.wp _ (Code.region 31 _ true) _ _ _); refine wp_region_plan [(0, 0, []), (1, 1, []), (2, 1, []), (3, 1, []), (4, 1, []), (5, 1, []), (6, 0, []), (7, 0, []), (8, 1, []), (9, 1, []), (10, 1, []), (11, 1, []), (12, 1, []), (13, 0, []), (14, 0, []), (15, 1, []), (16, 1, []), (17, 1, []), (18, 0, []), (19, 1, []), (20, 1, []), (21, 1, []), (22, 2, []), (23, 0, []), (24, 0, [])] (by kernel_rfl) (by kernel_rfl) (by kernel_rfl) ?_) | ((with_reducible show Code.wp _ (Code.region 32 _ true) _ _ _); refine wp_region_plan [(0, 0, []), (1, 1, []), (2, 1, []), (3, 1, []), (4, 0, []), (5, 2, []), (6, 0, [])] (by kernel_rfl) (by kernel_rfl) (by kernel_rfl) ?_) | ((with_reducible show Code.wp _ (Code.region 34 _ true) _ _ _); refine wp_region_plan [(0, 0, []), (1, 1, []), (2, 1, []), (3, 1, []), (4, 0, []), (5, 2, []), (6, 0, [])] (by kernel_rfl) (by kernel_rfl) (by kernel_rfl) ?_))
                    go_roundw
                    case rel => exact ⟨k + 1, by omega, by go_num, _, t.pos, _, _, F7.out, by have := rins_next HFO.out HT.out (by rw [HTK.out]); rw [HTK.out, HM.out] at this; exact this, HLN.out, HLA5.out, hne5, (by have := hou5; have := HI.out.out; simp; omega), hnx5, hlt5⟩
                    case measure => simp [intOf]; omega
          · have hk3b : (t.kind == 3) = false := by simpa using hk3
            have HK3 := Lib.hid hk3
            clear hk3
            have HM : Hid (rpushS y t = { y with out := y.out ++ [t] }) := Lib.hid (by rw [HMK.out]; unfold rmarkS; rw [if_neg HK3.out])
            go_wp2_with (first | ((with_reducible show wpPlan _ _ _ _ _ (Act.put _ _ _) _); simp only [List.getElem_toArray, List.getElem_cons_succ, List.getElem_cons_zero, Act.put, List.setIfInBounds_toArray, List.set_cons_zero, List.set_cons_succ]) | ((with_reducible show wpPlan _ _ _ _ _ _ _); first | refine wpPlan_nil ?_ | (refine wpPlan_read0 rfl ?hw rfl (fun _ _ _ => ?_); case hw => ((conv => (lhs; whnf)); first | done | with_reducible rfl)) | (refine wpPlan_read1d rfl ?hw rfl rfl (fun _ _ _ => ?_); case hw => ((conv => (lhs; whnf)); first | done | with_reducible rfl)) | (refine wpPlan_eff rfl ?hw (fun _ _ => ?_); case hw => ((conv => (lhs; whnf)); first | done | with_reducible rfl)) | (refine wpPlan_skip0 rfl ?hw ?_; case hw => ((conv => (lhs; whnf)); first | done | with_reducible rfl)) | (refine wpPlan_skip1d rfl ?hw ?_; case hw => ((conv => (lhs; whnf)); first | done | with_reducible rfl)) | (refine wpPlan_skip2 rfl ?hw ?_; case hw => ((conv => (lhs; whnf)); first | done | with_reducible rfl)) | (refine wpPlan_read1 rfl ?hw rfl (fun _ _ _ => ?_); case hw => ((conv => (lhs; whnf)); first | done | with_reducible rfl)) | refine wpPlan_fork ?_ ?_) | ((with_reducible show Owed _ _ _ _ _ _ _ _ _); first | refine Owed.none_ ?_ | refine Owed.nil_ ?_ | refine Owed.miss rfl ?_ | refine Owed.hit ?_ ?_) | ((with_reducible show Same _ _ _ _ _); intro _; go_simp; done) | (with_reducible exact True.intro) | ((with_reducible show Code.wp _ (Code.region 10 _ true) _ _ _); refine wp_region_plan [(0, 1, []), (1, 1, []), (2, 0, []), (3, 2, []), (4, 0, [])] (by kernel_rfl) (by kernel_rfl) (by kernel_rfl) ?_) | ((with_reducible show Code.wp _ (Code.region 12 _ true) _ _ _); refine wp_region_plan [(0, 1, []), (1, 1, []), (2, 0, []), (3, 2, []), (4, 0, [])] (by kernel_rfl) (by kernel_rfl) (by kernel_rfl) ?_) | ((with_reducible show Code.wp _ (Code.region 21 _ true) _ _ _); refine wp_region_plan [(0, 1, []), (1, 1, []), (2, 0, []), (3, 0, []), (4, 2, []), (5, 0, [])] (by kernel_rfl) (by kernel_rfl) (by kernel_rfl) ?_) | ((with_reducible show Code.wp _ (Code.region 22 _ true) _ _ _); refine wp_region_plan [(0, 0, []), (1, 0, []), (2, 1, []), (3, 1, []), (4, 1, []), (5, 1, []), (6, 2, [2, 3, 4]), (7, 2, []), (8, 1, []), (9, 1, []), (10, 2, [])] (by kernel_rfl) (by kernel_rfl) (by kernel_rfl) ?_) | ((with_reducible show Code.wp _ (Code.region 31 _ true) _ _ _); refine wp_region_plan [(0, 0, []), (1, 1, []), (2, 1, []), (3, 1, []), (4, 1, []), (5, 1, []), (6, 0, []), (7, 0, []), (8, 1, []), (9, 1, []), (10, 1, []), (11, 1, []), (12, 1, []), (13, 0, []), (14, 0, []), (15, 1, []), (16, 1, []), (17, 1, []), (18, 0, []), (19, 1, []), (20, 1, []), (21, 1, []), (22, 2, []), (23, 0, []), (24, 0, [])] (by kernel_rfl) (by kernel_rfl) (by kernel_rfl) ?_) | ((with_reducible show Code.wp _ (Code.region 32 _ true) _ _ _); refine wp_region_plan [(0, 0, []), (1, 1, []), (2, 1, []), (3, 1, []), (4, 0, []), (5, 2, []), (6, 0, [])] (by kernel_rfl) (by kernel_rfl) (by kernel_rfl) ?_) | ((with_reducible show Code.wp _ (Code.region 34 _ true) _ _ _); refine wp_region_plan [(0, 0, []), (1, 1, []), (2, 1, []), (3, 1, []), (4, 0, []), (5, 2, []), (6, 0, [])] (by kernel_rfl) (by kernel_rfl) (by kernel_rfl) ?_))
            go_roundw
            case rel => exact ⟨k + 1, by omega, by go_num, _, t.pos, _, _, F7.out, by have := rins_next HFO.out HT.out (by rw [HTK.out]); rw [HTK.out, HM.out] at this; exact this, HLN.out, HLA5.out, hne5, (by have := hou5; have := HI.out.out; simp; omega), hnx5, hlt5⟩
            case measure => simp [intOf]; omega
    · have hfo : rfoldS l true ⟨1, 0⟩ rstart = (x, none) := by
        rw [← hfold, List.drop_of_length_le (by have := HL.out; omega)]
        rfl
      have HI := Lib.hid hinv
      have HFO : Hid (rinsS l = if x.lt ≠ zp ∧ (x.nx = zp ∨ aft x.lt x.nx = true) then ([], x.lt, 3) else if x.nx ≠ zp then ([], x.nx, 3) else (closeAll x.out x.cols.length, zp, 0)) := Lib.hid (by unfold rinsS; rw [hfo])
      obtain ⟨xo, xc, xn, xl⟩ := x
      have HF := Lib.hid hF
      have hC := hF.ins.cell
      have hbl := hF.ins.blk.lt
      have hr := hF.ret.cell
      have hrf := hF.ret.frozen
      have hrl := hF.ret.lt
      have hnx := hinv.nx
      have hlt' := hinv.lt
      clear hfold hfo hF hinv
      dsimp only at hnx hlt'
      rcases hlt' with rfl | hlt'
      · rcases hnx with rfl | hnx
        · have hn1 : zp.line = 0 := rfl
          have hn2 : zp.col = 0 := rfl
          go_wp2_with (first | ((with_reducible show wpPlan _ _ _ _ _ (Act.put _ _ _) _); simp only [List.getElem_toArray, List.getElem_cons_succ, List.getElem_cons_zero, Act.put, List.setIfInBounds_toArray, List.set_cons_zero, List.set_cons_succ]) | ((with_reducible show wpPlan _ _ _ _ _ _ _); first | refine wpPlan_nil ?_ | (refine wpPlan_read0 rfl ?hw rfl (fun _ _ _ => ?_); case hw => ((conv => (lhs; whnf)); first | done | with_reducible rfl)) | (refine wpPlan_read1d rfl ?hw rfl rfl (fun _ _ _ => ?_); case hw => ((conv => (lhs; whnf)); first | done | with_reducible rfl)) | (refine wpPlan_eff rfl ?hw (fun _ _ => ?_); case hw => ((conv => (lhs; whnf)); first | done | with_reducible rfl)) | (refine wpPlan_skip0 rfl ?hw ?_; case hw => ((conv => (lhs; whnf)); first | done | with_reducible rfl)) | (refine wpPlan_skip1d rfl ?hw ?_; case hw => ((conv => (lhs; whnf)); first | done | with_reducible rfl)) | (refine wpPlan_skip2 rfl ?hw ?_; case hw => ((conv => (lhs; whnf)); first | done | with_reducible rfl)) | (refine wpPlan_read1 rfl ?hw rfl (fun _ _ _ => ?_); case hw => ((conv => (lhs; whnf)); first | done | with_reducible rfl)) | refine wpPlan_fork ?_ ?_) | ((with_reducible show Owed _ _ _ _ _ _ _ _ _); first | refine Owed.none_ ?_ | refine Owed.nil_ ?_ | refine Owed.miss rfl ?_ | refine Owed.hit ?_ ?_) | ((with_reducible show Same _ _ _ _ _); intro _; go_simp; done) | (with_reducible exact True.intro) | ((with_reducible show Code.wp _ (Code.region 10 _ true) _ _ _); refine wp_region_plan [(0, 1, []), (1, 1, []), (2, 0, []), (3, 2, []), (4, 0, [])] (by kernel_rfl) (by kernel_rfl) (by kernel_rfl) ?_) | ((with_reducible show Code.wp _ (Code.region 12 _ true) _ _ _); refine wp_region_plan [(0, 1, []), (1, 1, []), (2, 0, []), (3, 2, []), (4, 0, [])] (by kernel_rfl) (by kernel_rfl) (by kernel_rfl) ?_) | ((with_reducible show Code.wp _ (Code.region 21 _ true) _ _ _); refine wp_region_plan [(0, 1, []), (1, 1, []), (2, 0, []), (3, 0, []), (4, 2, []), (5, 0, [])] (by kernel_rfl) (by kernel_rfl) (by kernel_rfl) ?_) | ((with_reducible show Code.wp _ (Code.region 22 _ true) _ _ _); refine wp_region_plan [(0, 0, []), (1, 0, []), (2, 1, []), (3, 1, []), (4, 1, []), (5, 1, []), (6, 2, [2, 3, 4]), (7, 2, []), (8, 1, []), (9, 1, []), (10, 2, [])] (by kernel_rfl) (by kernel_rfl) (by kernel_rfl) ?_) | ((with_reducible show Code.wp _ (Code.region 31 _ true) _ _ _); refine wp_region_plan [(0, 0, []), (1, 1, []), (2, 1, []), (3, 1, []), (4, 1, []), (5, 1, []), (6, 0, []), (7, 0, []), (8, 1, []), (9, 1, []), (10, 1, []), (11, 1, []), (12, 1, []), (13, 0, []), (14, 0, []), (15, 1, []), (16, 1, []), (17, 1, []), (18, 0, []), (19, 1, []), (20, 1, []), (21, 1, []), (22, 2, []), (23, 0, []), (24, 0, [])] (by kernel_rfl) (by kernel_rfl) (by kernel_rfl) ?_) | ((with_reducible show Code.wp _ (Code.region 32 _ true) _ _ _); refine wp_region_plan [(0, 0, []), (1, 1, []), (2, 1, []), (3, 1, []), (4, 0, []), (5, 2, []), (6, 0, [])] (by kernel_rfl) (by kernel_rfl) (by kernel_rfl) ?_) | ((with_reducible show Code.wp _ (Code.region 34 _ true) _ _ _); refine wp_region_plan [(0, 0, []), (1, 1, []), (2, 1, []), (3, 1, []), (4, 0, []), (5, 2, []), (6, 0, [])] (by kernel_rfl) (by kernel_rfl) (by kernel_rfl) ?_))
          clear hC hbl hr hrf hrl hn1 hn2
          go_loopg [] xc.length (fun j wz => ∃ (y : RIns) (vo vc : Value), RFr w (w.heap.size + 1 + 1) w.heap.size w1.heap.size wz y last vo vc ∧ y.cols.length = j ∧ closeAll y.out y.cols.length = closeAll xo xc.length ∧ y.out.length + y.cols.length = xo.length + xc.length)
          case atStart => exact ⟨_, _, _, HF.out.drew, rfl, rfl, rfl⟩
          case round =>
            obtain ⟨y, vo, vc, hF, hj, hcl, hsum⟩ := hrel
            have hnest := HI.out.nest
            have hout := HI.out.out
            dsimp only at hnest hout
            obtain ⟨Ac, capc, rfl, _, _⟩ := own_form hF.ins.cols
            obtain ⟨Ao, capo, rfl, hco, hcm⟩ := own_form hF.ins.out
            have hC := hF.ins.cell
            have hbl := hF.ins.blk.lt
            have hr := hF.ret.cell
            have hrf := hF.ret.frozen
            have hrl := hF.ret.lt
            have HF2 := Lib.hid hF
            have HJ := Lib.hid hj
            have HCL := Lib.hid hcl
            have HSU := Lib.hid hsum
            clear hF hj hcl hsum
            by_cases hc0 : 0 < y.cols.length
            · have hcb : decide ((0:Int) < (y.cols.length : Int)) = true := decide_eq_true (by omega)
              clear hr hrf hrl
              go_wp2_with (first | ((with_reducible show wpPlan _ _ _ _ _ (Act.put _ _ _) _); simp only [List.getElem_toArray, List.getElem_cons_succ, List.getElem_cons_zero, Act.put, List.setIfInBounds_toArray, List.set_cons_zero, List.set_cons_succ]) | ((with_reducible show wpPlan _ _ _ _ _ _ _); first | refine wpPlan_nil ?_ | (refine wpPlan_read0 rfl ?hw rfl (fun _ _ _ => ?_); case hw => ((conv => (lhs; whnf)); first | done | with_reducible rfl)) | (refine wpPlan_read1d rfl ?hw rfl rfl (fun _ _ _ => ?_); case hw => ((conv => (lhs; whnf)); first | done | with_reducible rfl)) | (refine wpPlan_eff rfl ?hw (fun _ _ => ?_); case hw => ((conv => (lhs; whnf)); first | done | with_reducible rfl)) | (refine wpPlan_skip0 rfl ?hw ?_; case hw => ((conv => (lhs; whnf)); first | done | with_reducible rfl)) | (refine wpPlan_skip1d rfl ?hw ?_; case hw => ((conv => (lhs; whnf)); first | done | with_reducible rfl)) | (refine wpPlan_skip2 rfl ?hw ?_; case hw => ((conv => (lhs; whnf)); first | done | with_reducible rfl)) | (refine wpPlan_read1 rfl ?hw rfl (fun _ _ _ => ?_); case hw => ((conv => (lhs; whnf)); first | done | with_reducible rfl)) | refine wpPlan_fork ?_ ?_) | ((with_reducible show Owed _ _ _ _ _ _ _ _ _); first | refine Owed.none_ ?_ | refine Owed.nil_ ?_ | refine Owed.miss rfl ?_ | refine Owed.hit ?_ ?_) | ((with_reducible show Same _ _ _ _ _); intro _; go_simp; done) | (with_reducible exact True.intro) | ((with_reducible show Code.wp _ (Code.region 10 _ true) _ _ _); refine wp_region_plan [(0, 1, []), (1, 1, []), (2, 0, []), (3, 2, []), (4, 0, [])] (by kernel_rfl) (by kernel_rfl) (by kernel_rfl) ?_) | ((with_reducible show Code.wp _ (Code.region 12 _ true) _ _ _); refine wp_region_plan [(0, 1, []), (1, 1, []), (2, 0, []), (3, 2, []), (4, 0, [])] (by kernel_rfl) (by kernel_rfl) (by kernel_rfl) ?_) | ((with_reducible show Code.wp _ (Code.region 21 _ true) _ _ _); refine wp_region_plan [(0, 1, []), (1, 1, []), (2, 0, []), (3, 0, []), (4, 2, []), (5, 0, [])] (by kernel_rfl) (by kernel_rfl) (by kernel_rfl) ?_) | ((with_reducible show Code.wp _ (Code.region 22 _ true) _ _ _); refine wp_region_plan [(0, 0, []), (1, 0, []), (2, 1, []), (3, 1, []), (4, 1, []), (5, 1, []), (6, 2, [2, 3, 4]), (7, 2, []), (8, 1, []), (9, 1, []), (10, 2, [])] (by kernel_rfl) (by kernel_rfl) (by kernel_rfl) ?_) | ((with_reducible show Code.wp _ (Code.region 31 _ true) _ _ _); refine wp_region_plan [(0, 0, []), (1, 1, []), (2, 1, []), (3, 1, []), (4, 1, []), (5, 1, []), (6, 0, []), (7, 0, []), (8, 1, []), (9, 1, []), (10, 1, []), (11, 1, []), (12, 1, []), (13, 0, []), (14, 0, []), (15, 1, []), (16, 1, []), (17, 1, []), (18, 0, []), (19, 1, []), (20, 1, []), (21, 1, []), (22, 2, []), (23, 0, []), (24, 0, [])] (by kernel_rfl) (by kernel_rfl) (by kernel_rfl) ?_) | ((with_reducible show Code.wp _ (Code.region 32 _ true) _ _ _); refine wp_region_plan [(0, 0, []), (1, 1, []), (2, 1, []), (3, 1, []), (4, 0, []), (5, 2, []), (6, 0, [])] (by kernel_rfl) (by kernel_rfl) (by kernel_rfl) ?_) | ((with_reducible show Code.wp _ (Code.region 34 _ true) _ _ _); refine wp_region_plan [(0, 0, []), (1, 1, []), (2, 1, []), (3, 1, []), (4, 0, []), (5, 2, []), (6, 0, [])] (by kernel_rfl) (by kernel_rfl) (by kernel_rfl) ?_))
              refine (close_any _ y _ _ ⟨0, 0⟩ _ HF2.out.ins (fun e => by rw [e] at hc0; cases hc0) (by have := HSU.out; omega) (by have := HSU.out; omega)).mono ?_
              rintro e w2 ⟨rfl, hS⟩
              obtain ⟨vo2, vc2, hF3⟩ := HF2.out.step hS
              have HF3 := Lib.hid hF3
              clear hS hF3
              go_wp2_with fail
              go_roundg (y.cols.length - 1)
              · refine ⟨_, _, _, HF3.out, by simp, ?_, ?_⟩
                · rw [← HCL.out]
                  cases hy : y.cols with
                  | nil => rw [hy] at hc0; cases hc0
                  | cons a r => simp [closeAll, List.replicate_succ]
                · have := HSU.out
                  simp
                  omega
              · have := HJ.out; omega
            · have hcb : decide ((0:Int) < (y.cols.length : Int)) = false := decide_eq_false (by omega)
              go_wp2_with (first | ((with_reducible show wpPlan _ _ _ _ _ (Act.put _ _ _) _); simp only [List.getElem_toArray, List.getElem_cons_succ, List.getElem_cons_zero, Act.put, List.setIfInBounds_toArray, List.set_cons_zero, List.set_cons_succ]) | ((with_reducible show wpPlan _ _ _ _ _ _ _); first | refine wpPlan_nil ?_ | (refine wpPlan_read0 rfl ?hw rfl (fun _ _ _ => ?_); case hw => ((conv => (lhs; whnf)); first | done | with_reducible rfl)) | (refine wpPlan_read1d rfl ?hw rfl rfl (fun _ _ _ => ?_); case hw => ((conv => (lhs; whnf)); first | done | with_reducible rfl)) | (refine wpPlan_eff rfl ?hw (fun _ _ => ?_); case hw => ((conv => (lhs; whnf)); first | done | with_reducible rfl)) | (refine wpPlan_skip0 rfl ?hw ?_; case hw => ((conv => (lhs; whnf)); first | done | with_reducible rfl)) | (refine wpPlan_skip1d rfl ?hw ?_; case hw => ((conv => (lhs; whnf)); first | done | with_reducible rfl)) | (refine wpPlan_skip2 rfl ?hw ?_; case hw => ((conv => (lhs; whnf)); first | done | with_reducible rfl)) | (refine wpPlan_read1 rfl ?hw rfl (fun _ _ _ => ?_); case hw => ((conv => (lhs; whnf)); first | done | with_reducible rfl)) | refine wpPlan_fork ?_ ?_) | ((with_reducible show Owed _ _ _ _ _ _ _ _ _); first | refine Owed.none_ ?_ | refine Owed.nil_ ?_ | refine Owed.miss rfl ?_ | refine Owed.hit ?_ ?_) | ((with_reducible show Same _ _ _ _ _); intro _; go_simp; done) | (with_reducible exact True.intro) | ((with_reducible show Code.wp _ (Code.region 10 _ true) _ _ _); refine wp_region_plan [(0, 1, []), (1, 1, []), (2, 0, []), (3, 2, []), (4, 0, [])] (by kernel_rfl) (by kernel_rfl) (by kernel_rfl) ?_) | ((with_reducible show Code.wp _ (Code.region 12 _ true) _ _ _); refine wp_region_plan [(0, 1, []), (1, 1, []), (2, 0, []), (3, 2, []), (4, 0, [])] (by kernel_rfl) (by kernel_rfl) (by kernel_rfl) ?_) | ((with_reducible show Code.wp _ (Code.region 21 _ true) _ _ _); refine wp_region_plan [(0, 1, []), (1, 1, []), (2, 0, []), (3, 0, []), (4, 2, []), (5, 0, [])] (by kernel_rfl) (by kernel_rfl) (by kernel_rfl) ?_) | ((with_reducible show Code.wp _ (Code.region 22 _ true) _ _ _); refine wp_region_plan [(0, 0, []), (1, 0, []), (2, 1, []), (3, 1, []), (4, 1, []), (5, 1, []), (6, 2, [2, 3, 4]), (7, 2, []), (8, 1, []), (9, 1, []), (10, 2, [])] (by kernel_rfl) (by kernel_rfl) (by kernel_rfl) ?_) | ((with_reducible show Code.wp _ (Code.region 31 _ true) _ _ _); refine wp_region_plan [(0, 0, []), (1, 1, []), (2, 1, []), (3, 1, []), (4, 1, []), (5, 1, []), (6, 0, []), (7, 0, []), (8, 1, []), (9, 1, []), (10, 1, []), (11, 1, []), (12, 1, []), (13, 0, []), (14, 0, []), (15, 1, []), (16, 1, []), (17, 1, []), (18, 0, []), (19, 1, []), (20, 1, []), (21, 1, []), (22, 2, []), (23, 0, []), (24, 0, [])] (by kernel_rfl) (by kernel_rfl) (by kernel_rfl) ?_) | ((with_reducible show Code.wp _ (Code.region 32 _ true) _ _ _); refine wp_region_plan [(0, 0, []), (1, 1, []), (2, 1, []), (3, 1, []), (4, 0, []), (5, 2, []), (6, 0, [])] (by kernel_rfl) (by kernel_rfl) (by kernel_rfl) ?_) | ((with_reducible show Code.wp _ (Code.region 34 _ true) _ _ _); refine wp_region_plan [(0, 0, []), (1, 1, []), (2, 1, []), (3, 1, []), (4, 0, []), (5, 2, []), (6, 0, [])] (by kernel_rfl) (by kernel_rfl) (by kernel_rfl) ?_))
              have hy0 : y.cols.length = 0 := by omega
              have hins : rinsS l = (y.out, zp, 0) := by
                have hc := HCL.out
                rw [HFO.out, if_neg (fun h => h.1 rfl), if_neg (fun h => h rfl), ← hc, hy0]
                simp [closeAll]
              rw [hins]
              have hp0 := HF2.out.ret.put 0 (.int .i64 0)
              have hp1 := hp0.put 1 (.int .i64 0)
              have hq0 := hp0.cell 0
              have hq1 := hp1.cell 1
              simp at hq0 hq1
              have hne : (Value.slice Ao y.out.length capo).ownBlock ≠ some w.heap.size := fun e => HF2.out.retf (.inr (.inl e))
              have hown := own_setCell (p := ⟨w.heap.size, 1, none⟩) (own_setCell (p := ⟨w.heap.size, 0, none⟩) HF2.out.ins.out hne (.int .i64 0)) hne (.int .i64 0)
              have hrd := Rd.ofOwn hown
              refine bodyPost_ret (v := .tuple #[.slice Ao y.out.length capo, .agg #[.int .i64 0, .int .i64 0], .int .i64 0]) (by simp [results, Tryd.results25, go_sem, hq0, hq1]) rfl ⟨by first | exact ⟨Ao, y.out.length, capo, rfl, hrd⟩ | exact ⟨Ao, y.out.length, ⟨capo, rfl⟩, hrd⟩, ?_⟩
              exact ((HF2.out.below.setCell (p := ⟨w.heap.size, 0, none⟩) (Nat.le_refl _) _).setCell (p := ⟨w.heap.size, 1, none⟩) (Nat.le_refl _) _)
        · have HXxn : Hid (xn ≠ zp) := Lib.hid (fun e => by rw [e] at hnx; exact absurd hnx (by decide))
          have hxnl : ¬ xn.line = 0 := by omega
          clear hnx
          have hn1 : zp.line = 0 := rfl
          have hn2 : zp.col = 0 := rfl
          go_wp2_with (first | ((with_reducible show wpPlan _ _ _ _ _ (Act.put _ _ _) _); simp only [List.getElem_toArray, List.getElem_cons_succ, List.getElem_cons_zero, Act.put, List.setIfInBounds_toArray, List.set_cons_zero, List.set_cons_succ]) | ((with_reducible show wpPlan _ _ _ _ _ _ _); first | refine wpPlan_nil ?_ | (refine wpPlan_read0 rfl ?hw rfl (fun _ _ _ => ?_); case hw => ((conv => (lhs; whnf)); first | done | with_reducible rfl)) | (refine wpPlan_read1d rfl ?hw rfl rfl (fun _ _ _ => ?_); case hw => ((conv => (lhs; whnf)); first | done | with_reducible rfl)) | (refine wpPlan_eff rfl ?hw (fun _ _ => ?_); case hw => ((conv => (lhs; whnf)); first | done | with_reducible rfl)) | (refine wpPlan_skip0 rfl ?hw ?_; case hw => ((conv => (lhs; whnf)); first | done | with_reducible rfl)) | (refine wpPlan_skip1d rfl ?hw ?_; case hw => ((conv => (lhs; whnf)); first | done | with_reducible rfl)) | (refine wpPlan_skip2 rfl ?hw ?_; case hw => ((conv => (lhs; whnf)); first | done | with_reducible rfl)) | (refine wpPlan_read1 rfl ?hw rfl (fun _ _ _ => ?_); case hw => ((conv => (lhs; whnf)); first | done | with_reducible rfl)) | refine wpPlan_fork ?_ ?_) | ((with_reducible show Owed _ _ _ _ _ _ _ _ _); first | refine Owed.none_ ?_ | refine Owed.nil_ ?_ | refine Owed.miss rfl ?_ | refine Owed.hit ?_ ?_) | ((with_reducible show Same _ _ _ _ _); intro _; go_simp; done) | (with_reducible exact True.intro) | ((with_reducible show Code.wp _ (Code.region 10 _ true) _ _ _); refine wp_region_plan [(0, 1, []), (1, 1, []), (2, 0, []), (3, 2, []), (4, 0, [])] (by kernel_rfl) (by kernel_rfl) (by kernel_rfl) ?_) | ((with_reducible show Code.wp _ (Code.region 12 _ true) _ _ _); refine wp_region_plan [(0, 1, []), (1, 1, []), (2, 0, []), (3, 2, []), (4, 0, [])] (by kernel_rfl) (by kernel_rfl) (by kernel_rfl) ?_) | ((with_reducible show Code.wp _ (Code.region 21 _ true) _ _ _); refine wp_region_plan [(0, 1, []), (1, 1, []), (2, 0, []), (3, 0, []), (4, 2, []), (5, 0, [])] (by kernel_rfl) (by kernel_rfl) (by kernel_rfl) ?_) | ((with_reducible show Code.wp _ (Code.region 22 _ true) _ _ _); refine wp_region_plan [(0, 0, []), (1, 0, []), (2, 1, []), (3, 1, []), (4, 1, []), (5, 1, []), (6, 2, [2, 3, 4]), (7, 2, []), (8, 1, []), (9, 1, []), (10, 2, [])] (by kernel_rfl) (by kernel_rfl) (by kernel_rfl) ?_) | ((with_reducible show Code.wp _ (Code.region 31 _ true) _ _ _); refine wp_region_plan [(0, 0, []), (1, 1, []), (2, 1, []), (3, 1, []), (4, 1, []), (5, 1, []), (6, 0, []), (7, 0, []), (8, 1, []), (9, 1, []), (10, 1, []), (11, 1, []), (12, 1, []), (13, 0, []), (14, 0, []), (15, 1, []), (16, 1, []), (17, 1, []), (18, 0, []), (19, 1, []), (20, 1, []), (21, 1, []), (22, 2, []), (23, 0, []), (24, 0, [])] (by kernel_rfl) (by kernel_rfl) (by kernel_rfl) ?_) | ((with_reducible show Code.wp _ (Code.region 32 _ true) _ _ _); refine wp_region_plan [(0, 0, []), (1, 1, []), (2, 1, []), (3, 1, []), (4, 0, []), (5, 2, []), (6, 0, [])] (by kernel_rfl) (by kernel_rfl) (by kernel_rfl) ?_) | ((with_reducible show Code.wp _ (Code.region 34 _ true) _ _ _); refine wp_region_plan [(0, 0, []), (1, 1, []), (2, 1, []), (3, 1, []), (4, 0, []), (5, 2, []), (6, 0, [])] (by kernel_rfl) (by kernel_rfl) (by kernel_rfl) ?_))
          have hins : rinsS l = ([], xn, 3) := by rw [HFO.out]; rw [if_neg (by simp), if_pos HXxn.out]
          rw [hins]
          obtain ⟨q0, q1, qb⟩ := HF.out.putRet xn
          refine bodyPost_ret (v := .tuple #[.slice none 0 0, xn.v, .int .i64 3]) (by simp [results, Tryd.results25, go_sem, q0, q1]) rfl ⟨by first | exact ⟨none, 0, 0, rfl, Rd.nil⟩ | exact ⟨none, 0, ⟨0, rfl⟩, Rd.nil⟩, qb.drew.drew⟩
      · have HXxl : Hid (xl ≠ zp) := Lib.hid (fun e => by rw [e] at hlt'; exact absurd hlt' (by decide))
        have hxll : ¬ xl.line = 0 := by omega
        clear hlt'
        rcases hnx with rfl | hnx
        · have hn1 : zp.line = 0 := rfl
          have hn2 : zp.col = 0 := rfl
          go_wp2_with (first | ((with_reducible show wpPlan _ _ _ _ _ (Act.put _ _ _) _); simp only [List.getElem_toArray, List.getElem_cons_succ, List.getElem_cons_zero, Act.put, List.setIfInBounds_toArray, List.set_cons_zero, List.set_cons_succ]) | ((with_reducible show wpPlan _ _ _ _ _ _ _); first | refine wpPlan_nil ?_ | (refine wpPlan_read0 rfl ?hw rfl (fun _ _ _ => ?_); case hw => ((conv => (lhs; whnf)); first | done | with_reducible rfl)) | (refine wpPlan_read1d rfl ?hw rfl rfl (fun _ _ _ => ?_); case hw => ((conv => (lhs; whnf)); first | done | with_reducible rfl)) | (refine wpPlan_eff rfl ?hw (fun _ _ => ?_); case hw => ((conv => (lhs; whnf)); first | done | with_reducible rfl)) | (refine wpPlan_skip0 rfl ?hw ?_; case hw => ((conv => (lhs; whnf)); first | done | with_reducible rfl)) | (refine wpPlan_skip1d rfl ?hw ?_; case hw => ((conv => (lhs; whnf)); first | done | with_reducible rfl)) | (refine wpPlan_skip2 rfl ?hw ?_; case hw => ((conv => (lhs; whnf)); first | done | with_reducible rfl)) | (refine wpPlan_read1 rfl ?hw rfl (fun _ _ _ => ?_); case hw => ((conv => (lhs; whnf)); first | done | with_reducible rfl)) | refine wpPlan_fork ?_ ?_) | ((with_reducible show Owed _ _ _ _ _ _ _ _ _); first | refine Owed.none_ ?_ | refine Owed.nil_ ?_ | refine Owed.miss rfl ?_ | refine Owed.hit ?_ ?_) | ((with_reducible show Same _ _ _ _ _); intro _; go_simp; done) | (with_reducible exact True.intro) | ((with_reducible show Code.wp _ (Code.region 10 _ true) _ _ _); refine wp_region_plan [(0, 1, []), (1, 1, []), (2, 0, []), (3, 2, []), (4, 0, [])] (by kernel_rfl) (by kernel_rfl) (by kernel_rfl) ?_) | ((with_reducible show Code.wp _ (Code.region 12 _ true) _ _ _); refine wp_region_plan [(0, 1, []), (1, 1, []), (2, 0, []), (3, 2, []), (4, 0, [])] (by kernel_rfl) (by kernel_rfl) (by kernel_rfl) ?_) | ((with_reducible show Code.wp _ (Code.region 21 _ true) _ _ _); refine wp_region_plan [(0, 1, []), (1, 1, []), (2, 0, []), (3, 0, []), (4, 2, []), (5, 0, [])] (by kernel_rfl) (by kernel_rfl) (by kernel_rfl) ?_) | ((with_reducible show Code.wp _ (Code.region 22 _ true) _ _ _); refine wp_region_plan [(0, 0, []), (1, 0, []), (2, 1, []), (3, 1, []), (4, 1, []), (5, 1, []), (6, 2, [2, 3, 4]), (7, 2, []), (8, 1, []), (9, 1, []), (10, 2, [])] (by kernel_rfl) (by kernel_rfl) (by kernel_rfl) ?_) | ((with_reducible show Code.wp _ (Code.region 31 _ true) _ _ _); refine wp_region_plan [(0, 0, []), (1, 1, []), (2, 1, []), (3, 1, []), (4, 1, []), (5, 1, []), (6, 0, []), (7, 0, []), (8, 1, []), (9, 1, []), (10, 1, []), (11, 1, []), (12, 1, []), (13, 0, []), (14, 0, []), (15, 1, []), (16, 1, []), (17, 1, []), (18, 0, []), (19, 1, []), (20, 1, []), (21, 1, []), (22, 2, []), (23, 0, []), (24, 0, [])] (by kernel_rfl) (by kernel_rfl) (by kernel_rfl) ?_) | ((with_reducible show Code.wp _ (Code.region 32 _ true) _ _ _); refine wp_region_plan [(0, 0, []), (1, 1, []), (2, 1, []), (3, 1, []), (4, 0, []), (5, 2, []), (6, 0, [])] (by kernel_rfl) (by kernel_rfl) (by kernel_rfl) ?_) | ((with_reducible show Code.wp _ (Code.region 34 _ true) _ _ _); refine wp_region_plan [(0, 0, []), (1, 1, []), (2, 1, []), (3, 1, []), (4, 0, []), (5, 2, []), (6, 0, [])] (by kernel_rfl) (by kernel_rfl) (by kernel_rfl) ?_))
          have hins : rinsS l = ([], xl, 3) := by rw [HFO.out]; rw [if_pos ⟨HXxl.out, .inl (by simp)⟩]
          rw [hins]
          obtain ⟨q0, q1, qb⟩ := HF.out.putRet xl
          refine bodyPost_ret (v := .tuple #[.slice none 0 0, xl.v, .int .i64 3]) (by simp [results, Tryd.results25, go_sem, q0, q1]) rfl ⟨by first | exact ⟨none, 0, 0, rfl, Rd.nil⟩ | exact ⟨none, 0, ⟨0, rfl⟩, Rd.nil⟩, qb.drew.drew⟩
        · have HXxn : Hid (xn ≠ zp) := Lib.hid (fun e => by rw [e] at hnx; exact absurd hnx (by decide))
          have hxnl : ¬ xn.line = 0 := by omega
          clear hnx
          obtain ⟨af, haf⟩ : ∃ af, aft xl xn = af := ⟨_, rfl⟩
          have HAF := Lib.hid haf
          clear haf
          go_wp2_with (first | ((with_reducible show wpPlan _ _ _ _ _ (Act.put _ _ _) _); simp only [List.getElem_toArray, List.getElem_cons_succ, List.getElem_cons_zero, Act.put, List.setIfInBounds_toArray, List.set_cons_zero, List.set_cons_succ]) | ((with_reducible show wpPlan _ _ _ _ _ _ _); first | refine wpPlan_nil ?_ | (refine wpPlan_read0 rfl ?hw rfl (fun _ _ _ => ?_); case hw => ((conv => (lhs; whnf)); first | done | with_reducible rfl)) | (refine wpPlan_read1d rfl ?hw rfl rfl (fun _ _ _ => ?_); case hw => ((conv => (lhs; whnf)); first | done | with_reducible rfl)) | (refine wpPlan_eff rfl ?hw (fun _ _ => ?_); case hw => ((conv => (lhs; whnf)); first | done | with_reducible rfl)) | (refine wpPlan_skip0 rfl ?hw ?_; case hw => ((conv => (lhs; whnf)); first | done | with_reducible rfl)) | (refine wpPlan_skip1d rfl ?hw ?_; case hw => ((conv => (lhs; whnf)); first | done | with_reducible rfl)) | (refine wpPlan_skip2 rfl ?hw ?_; case hw => ((conv => (lhs; whnf)); first | done | with_reducible rfl)) | (refine wpPlan_read1 rfl ?hw rfl (fun _ _ _ => ?_); case hw => ((conv => (lhs; whnf)); first | done | with_reducible rfl)) | refine wpPlan_fork ?_ ?_) | ((with_reducible show Owed _ _ _ _ _ _ _ _ _); first | refine Owed.none_ ?_ | refine Owed.nil_ ?_ | refine Owed.miss rfl ?_ | refine Owed.hit ?_ ?_) | ((with_reducible show Same _ _ _ _ _); intro _; go_simp; done) | (with_reducible exact True.intro) | ((with_reducible show Code.wp _ (Code.region 10 _ true) _ _ _); refine wp_region_plan [(0, 1, []), (1, 1, []), (2, 0, []), (3, 2, []), (4, 0, [])] (by kernel_rfl) (by kernel_rfl) (by kernel_rfl) ?_) | ((with_reducible show Code.wp _ (Code.region 12 _ true) _ _ _); refine wp_region_plan [(0, 1, []), (1, 1, []), (2, 0, []), (3, 2, []), (4, 0, [])] (by kernel_rfl) (by kernel_rfl) (by kernel_rfl) ?_) | ((with_reducible show Code.wp _ (Code.region 21 _ true) _ _ _); refine wp_region_plan [(0, 1, []), (1, 1, []), (2, 0, []), (3, 0, []), (4, 2, []), (5, 0, [])] (by kernel_rfl) (by kernel_rfl) (by kernel_rfl) ?_) | ((with_reducible show Code.wp _ (Code.region 22 _ true) _ _ _); refine wp_region_plan [(0, 0, []), (1, 0, []), (2, 1, []), (3, 1, []), (4, 1, []), (5, 1, []), (6, 2, [2, 3, 4]), (7, 2, []), (8, 1, []), (9, 1, []), (10, 2, [])] (by kernel_rfl) (by kernel_rfl) (by kernel_rfl) ?_) | ((with_reducible show Code.wp _ (Code.region 31 _ true) _ _ _); refine wp_region_plan [(0, 0, []), (1, 1, []), (2, 1, []), (3, 1, []), (4, 1, []), (5, 1, []), (6, 0, []), (7, 0, []), (8, 1, []), (9, 1, []), (10, 1, []), (11, 1, []), (12, 1, []), (13, 0, []), (14, 0, []), (15, 1, []), (16, 1, []), (17, 1, []), (18, 0, []), (19, 1, []), (20, 1, []), (21, 1, []), (22, 2, []), (23, 0, []), (24, 0, [])] (by kernel_rfl) (by kernel_rfl) (by kernel_rfl) ?_) | ((with_reducible show Code.wp _ (Code.region 32 _ true) _ _ _); refine wp_region_plan [(0, 0, []), (1, 1, []), (2, 1, []), (3, 1, []), (4, 0, []), (5, 2, []), (6, 0, [])] (by kernel_rfl) (by kernel_rfl) (by kernel_rfl) ?_) | ((with_reducible show Code.wp _ (Code.region 34 _ true) _ _ _); refine wp_region_plan [(0, 0, []), (1, 1, []), (2, 1, []), (3, 1, []), (4, 0, []), (5, 2, []), (6, 0, [])] (by kernel_rfl) (by kernel_rfl) (by kernel_rfl) ?_))
          refine (after_any xl xn _).mono ?_
          rw [show decide (xl.line < xn.line ∨ xn.line = xl.line ∧ xl.col < xn.col) = aft xl xn from rfl, HAF.out]
          rintro e w3 ⟨rfl, hb3⟩
          have F3 := Lib.hid (HF.out.drew.under hb3)
          have hC3 := F3.out.ins.cell
          have hbl3 := F3.out.ins.blk.lt
          have hr3 := F3.out.ret.cell
          have hrf3 := F3.out.ret.frozen
          have hrl3 := F3.out.ret.lt
          clear hb3 hC hbl hr hrf hrl
          cases af
          · go_wp2_with (first | ((with_reducible show wpPlan _ _ _ _ _ (Act.put _ _ _) _); simp only [List.getElem_toArray, List.getElem_cons_succ, List.getElem_cons_zero, Act.put, List.setIfInBounds_toArray, List.set_cons_zero, List.set_cons_succ]) | ((with_reducible show wpPlan _ _ _ _ _ _ _); first | refine wpPlan_nil ?_ | (refine wpPlan_read0 rfl ?hw rfl (fun _ _ _ => ?_); case hw => ((conv => (lhs; whnf)); first | done | with_reducible rfl)) | (refine wpPlan_read1d rfl ?hw rfl rfl (fun _ _ _ => ?_); case hw => ((conv => (lhs; whnf)); first | done | with_reducible rfl)) | (refine wpPlan_eff rfl ?hw (fun _ _ => ?_); case hw => ((conv => (lhs; whnf)); first | done | with_reducible rfl)) | (refine wpPlan_skip0 rfl ?hw ?_; case hw => ((conv => (lhs; whnf)); first | done | with_reducible rfl)) | (refine wpPlan_skip1d rfl ?hw ?_; case hw => ((conv => (lhs; whnf)); first | done | with_reducible rfl)) | (refine wpPlan_skip2 rfl ?hw ?_; case hw => ((conv => (lhs; whnf)); first | done | with_reducible rfl)) | (refine wpPlan_read1 rfl ?hw rfl (fun _ _ _ => ?_); case hw => ((conv => (lhs; whnf)); first | done | with_reducible rfl)) | refine wpPlan_fork ?_ ?_) | ((with_reducible show Owed _ _ _ _ _ _ _ _ _); first | refine Owed.none_ ?_ | refine Owed.nil_ ?_ | refine Owed.miss rfl ?_ | refine Owed.hit ?_ ?_) | ((with_reducible show Same _ _ _ _ _); intro _; go_simp; done) | (with_reducible exact True.intro) | ((with_reducible show Code.wp _ (Code.region 10 _ true) _ _ _); refine wp_region_plan [(0, 1, []), (1, 1, []), (2, 0, []), (3, 2, []), (4, 0, [])] (by kernel_rfl) (by kernel_rfl) (by kernel_rfl) ?_) | ((with_reducible show Code.wp _ (Code.region 12 _ true) _ _ _); refine wp_region_plan [(0, 1, []), (1, 1, []), (2, 0, []), (3, 2, []), (4, 0, [])] (by kernel_rfl) (by kernel_rfl) (by kernel_rfl) ?_) | ((with_reducible show Code.wp _ (Code.region 21 _ true) _ _ _); refine wp_region_plan [(0, 1, []), (1, 1, []), (2, 0, []), (3, 0, []), (4, 2, []), (5, 0, [])] (by kernel_rfl) (by kernel_rfl) (by kernel_rfl) ?_) | ((with_reducible show Code.wp _ (Code.region 22 _ true) _ _ _); refine wp_region_plan [(0, 0, []), (1, 0, []), (2, 1, []), (3, 1, []), (4, 1, []), (5, 1, []), (6, 2, [2, 3, 4]), (7, 2, []), (8, 1, []), (9, 1, []), (10, 2, [])] (by kernel_rfl) (by kernel_rfl) (by kernel_rfl) ?_) | ((with_reducible show Code.wp _ (Code.region 31 _ true) _ _ _); refine wp_region_plan [(0, 0, []), (1, 1, []), (2, 1, []), (3, 1, []), (4, 1, []), (5, 1, []), (6, 0, []), (7, 0, []), (8, 1, []), (9, 1, []), (10, 1, []), (11, 1, []), (12, 1, []), (13, 0, []), (14, 0, []), (15, 1, []), (16, 1, []), (17, 1, []), (18, 0, []), (19, 1, []), (20, 1, []), (21, 1, []), (22, 2, []), (23, 0, []), (24, 0, [])] (by kernel_rfl) (by kernel_rfl) (by kernel_rfl) ?_) | ((with_reducible show Code.wp _ (Code.region 32 _ true) _ _ _); refine wp_region_plan [(0, 0, []), (1, 1, []), (2, 1, []), (3, 1, []), (4, 0, []), (5, 2, []), (6, 0, [])] (by kernel_rfl) (by kernel_rfl) (by kernel_rfl) ?_) | ((with_reducible show Code.wp _ (Code.region 34 _ true) _ _ _); refine wp_region_plan [(0, 0, []), (1, 1, []), (2, 1, []), (3, 1, []), (4, 0, []), (5, 2, []), (6, 0, [])] (by kernel_rfl) (by kernel_rfl) (by kernel_rfl) ?_))
            have hins : rinsS l = ([], xn, 3) := by rw [HFO.out]; rw [if_neg (fun h => h.2.elim HXxn.out (fun e => by rw [HAF.out] at e; cases e)), if_pos HXxn.out]
            rw [hins]
            obtain ⟨q0, q1, qb⟩ := F3.out.putRet xn
            refine bodyPost_ret (v := .tuple #[.slice none 0 0, xn.v, .int .i64 3]) (by simp [results, Tryd.results25, go_sem, q0, q1]) rfl ⟨by first | exact ⟨none, 0, 0, rfl, Rd.nil⟩ | exact ⟨none, 0, ⟨0, rfl⟩, Rd.nil⟩, qb.drew⟩
          · go_wp2_with (first | ((with_reducible show wpPlan _ _ _ _ _ (Act.put _ _ _) _); simp only [List.getElem_toArray, List.getElem_cons_succ, List.getElem_cons_zero, Act.put, List.setIfInBounds_toArray, List.set_cons_zero, List.set_cons_succ]) | ((with_reducible show wpPlan _ _ _ _ _ _ _); first | refine wpPlan_nil ?_ | (refine wpPlan_read0 rfl ?hw rfl (fun _ _ _ => ?_); case hw => ((conv => (lhs; whnf)); first | done | with_reducible rfl)) | (refine wpPlan_read1d rfl ?hw rfl rfl (fun _ _ _ => ?_); case hw => ((conv => (lhs; whnf)); first | done | with_reducible rfl)) | (refine wpPlan_eff rfl ?hw (fun _ _ => ?_); case hw => ((conv => (lhs; whnf)); first | done | with_reducible rfl)) | (refine wpPlan_skip0 rfl ?hw ?_; case hw => ((conv => (lhs; whnf)); first | done | with_reducible rfl)) | (refine wpPlan_skip1d rfl ?hw ?_; case hw => ((conv => (lhs; whnf)); first | done | with_reducible rfl)) | (refine wpPlan_skip2 rfl ?hw ?_; case hw => ((conv => (lhs; whnf)); first | done | with_reducible rfl)) | (refine wpPlan_read1 rfl ?hw rfl (fun _ _ _ => ?_); case hw => ((conv => (lhs; whnf)); first | done | with_reducible rfl)) | refine wpPlan_fork ?_ ?_) | ((with_reducible show Owed _ _ _ _ _ _ _ _ _); first | refine Owed.none_ ?_ | refine Owed.nil_ ?_ | refine Owed.miss rfl ?_ | refine Owed.hit ?_ ?_) | ((with_reducible show Same _ _ _ _ _); intro _; go_simp; done) | (with_reducible exact True.intro) | ((with_reducible show Code.wp _ (Code.region 10 _ true) _ _ _); refine wp_region_plan [(0, 1, []), (1, 1, []), (2, 0, []), (3, 2, []), (4, 0, [])] (by kernel_rfl) (by kernel_rfl) (by kernel_rfl) ?_) | ((with_reducible show Code.wp _ (Code.region 12 _ true) _ _ _); refine wp_region_plan [(0, 1, []), (1, 1, []), (2, 0, []), (3, 2, []), (4, 0, [])] (by kernel_rfl) (by kernel_rfl) (by kernel_rfl) ?_) | ((with_reducible show Code.wp _ (Code.region 21 _ true) _ _ _); refine wp_region_plan [(0, 1, []), (1, 1, []), (2, 0, []), (3, 0, []), (4, 2, []), (5, 0, [])] (by kernel_rfl) (by kernel_rfl) (by kernel_rfl) ?_) | ((with_reducible show Code.wp _ (Code.region 22 _ true) _ _ _); refine wp_region_plan [(0, 0, []), (1, 0, []), (2, 1, []), (3, 1, []), (4, 1, []), (5, 1, []), (6, 2, [2, 3, 4]), (7, 2, []), (8, 1, []), (9, 1, []), (10, 2, [])] (by kernel_rfl) (by kernel_rfl) (by kernel_rfl) ?_) | ((with_reducible show Code.wp _ (Code.region 31 _ true) _ _ _); refine wp_region_plan [(0, 0, []), (1, 1, []), (2, 1, []), (3, 1, []), (4, 1, []), (5, 1, []), (6, 0, []), (7, 0, []), (8, 1, []), (9, 1, []), (10, 1, []), (11, 1, []), (12, 1, []), (13, 0, []), (14, 0, []), (15, 1, []), (16, 1, []), (17, 1, []), (18, 0, []), (19, 1, []), (20, 1, []), (21, 1, []), (22, 2, []), (23, 0, []), (24, 0, [])] (by kernel_rfl) (by kernel_rfl) (by kernel_rfl) ?_) | ((with_reducible show Code.wp _ (Code.region 32 _ true) _ _ _); refine wp_region_plan [(0, 0, []), (1, 1, []), (2, 1, []), (3, 1, []), (4, 0, []), (5, 2, []), (6, 0, [])] (by kernel_rfl) (by kernel_rfl) (by kernel_rfl) ?_) | ((with_reducible show Code.wp _ (Code.region 34 _ true) _ _ _); refine wp_region_plan [(0, 0, []), (1, 1, []), (2, 1, []), (3, 1, []), (4, 0, []), (5, 2, []), (6, 0, [])] (by kernel_rfl) (by kernel_rfl) (by kernel_rfl) ?_))
            have hins : rinsS l = ([], xl, 3) := by rw [HFO.out]; rw [if_pos ⟨HXxl.out, .inr HAF.out⟩]
            rw [hins]
            obtain ⟨q0, q1, qb⟩ := F3.out.putRet xl
            refine bodyPost_ret (v := .tuple #[.slice none 0 0, xl.v, .int .i64 3]) (by simp [results, Tryd.results25, go_sem, q0, q1]) rfl ⟨by first | exact ⟨none, 0, 0, rfl, Rd.nil⟩ | exact ⟨none, 0, ⟨0, rfl⟩, Rd.nil⟩, qb.drew⟩

end Go.Proofs.YtgfhkaamkodpjaaDoor
