/- the reference's Insert as a function on lists, and that it answers as layout.Insert does; no program stands in it -/
import Derived.Test.YtgfhkaamkodpjaaDoorLay7
namespace Go.Proofs.YtgfhkaamkodpjaaDoor
open Go Go.RowKit

structure RIns where
  out : List Tok
  cols : List Int
  nx : Pos
  lt : Pos

def zp : Pos := ⟨0, 0⟩
def aft (p q : Pos) : Bool := decide (p.line < q.line ∨ q.line = p.line ∧ p.col < q.col)
def openTok (p : Pos) : Tok := ⟨5, 0, ByteArray.empty, p⟩
def sepTok (p : Pos) : Tok := ⟨6, 0, ByteArray.empty, p⟩
def rbeginS (x : RIns) (t : Tok) : RIns × Int :=
  if isClose t then ({ x with out := x.out ++ [openTok t.pos] ++ [closeTok t.pos] }, 0)
  else if t.pos.col ≤ x.cols.headD 0 then (x, 3)
  else if 64 ≤ x.cols.length then (x, 10)
  else ({ x with out := x.out ++ [openTok t.pos], cols := t.pos.col :: x.cols }, 0)
def rplainA (x : RIns) (t : Tok) (st : Bool) : List Tok × List Int := if st then closeLoop t.pos x.out x.cols else (x.out, x.cols)
def rplainB (t : Tok) (n : Nat) (a : List Tok × List Int) : List Tok × List Int :=
  if isClose t && !decide (a.2.length < n) && decide (1 < a.2.length) then (a.1 ++ [closeTok t.pos], a.2.tail) else a
def rplainC (t : Tok) (st : Bool) (a : List Tok × List Int) : List Tok :=
  if st && !isClose t && decide (t.pos.col = a.2.headD 0) && decide (1 < a.1.length) then a.1 ++ [sepTok t.pos] else a.1
def rplainS (x : RIns) (t : Tok) (st : Bool) : RIns :=
  { x with out := rplainC t st (rplainB t x.cols.length (rplainA x t st)), cols := (rplainB t x.cols.length (rplainA x t st)).2 }
def letB : ByteArray := bstr [108, 101, 116]
def exportsB : ByteArray := bstr [101, 120, 112, 111, 114, 116, 115]
def moduleB : ByteArray := bstr [109, 111, 100, 117, 108, 101]
def timedB : ByteArray := bstr [84, 105, 109, 101, 100]
def rmarkS (x : RIns) (t : Tok) : RIns :=
  if t.kind = 3 then
    if t.str = letB ∨ t.str = exportsB then { x with nx := t.pos }
    else if t.str = moduleB ∨ t.str = timedB then { x with lt := t.pos } else x
  else x
/-- one token: its block's begin, or what stands in front of it; then the token -/
def rpass (x : RIns) (t : Tok) (st : Bool) : RIns × Int :=
  if x.nx ≠ zp ∨ x.lt ≠ zp ∧ st = true then rbeginS { x with nx := zp, lt := if x.nx = zp then zp else x.lt } t else (rplainS x t st, 0)
def rpushS (x : RIns) (t : Tok) : RIns := rmarkS { x with out := x.out ++ [t] } t
def rtokS (x : RIns) (first : Bool) (last : Pos) (t : Tok) : RIns × Int :=
  if validTok t = false ∨ t.pos.col < 1 ∨ aft last t.pos = false then (x, 1)
  else if first = true ∧ t.pos.col ≠ 1 then (x, 3)
  else if (rpass x t (first || decide (last.line < t.pos.line))).2 = 0 then (rpushS (rpass x t (first || decide (last.line < t.pos.line))).1 t, 0)
  else rpass x t (first || decide (last.line < t.pos.line))
def rfoldS : List Tok → Bool → Pos → RIns → RIns × Option (Pos × Int)
  | [], _, _, x => (x, none)
  | t :: r, first, last, x => if (rtokS x first last t).2 = 0 then rfoldS r false t.pos (rtokS x first last t).1 else ((rtokS x first last t).1, some (t.pos, (rtokS x first last t).2))
def rstart : RIns := ⟨[openTok ⟨1, 1⟩], [1], zp, zp⟩
def rinsS (l : List Tok) : List Tok × Pos × Int :=
  match rfoldS l true ⟨1, 0⟩ rstart with
  | (_, some (p, e)) => ([], p, e)
  | (x, none) =>
    if x.lt ≠ zp ∧ (x.nx = zp ∨ aft x.lt x.nx = true) then ([], x.lt, 3)
    else if x.nx ≠ zp then ([], x.nx, 3)
    else (closeAll x.out x.cols.length, zp, 0)

/-- the two states behind at least one token -/
structure RSame (x : Ins) (y : RIns) (last : Pos) : Prop where
  out : x.out = y.out
  cols : x.cols = y.cols
  pos : x.bf.pos = last
  line : 1 ≤ last.line
  nx : x.nx = decide (y.nx ≠ zp)
  nxp : x.nx = true → y.nx = last
  wt : x.wt = decide (y.lt ≠ zp)
  wtp : x.wt = true → y.lt = x.ow
  opn : x.opn = (if x.wt then [x.ow] else []) ++ (if x.nx then [last] else [])
  lo : x.wt = true → x.nx = true → aft x.ow last = true
  lo2 : x.wt = true → x.ow = last ∨ aft x.ow last = true
  two : 2 ≤ x.out.length
  last : x.cols.getLast? = some 1
  nest : x.cols.length ≤ 64

theorem afterT_eq {p q : Pos} (h : 1 ≤ p.line) : afterT p q = true ↔ ¬ (q.col < 1 ∨ aft p q = false) := by
  unfold afterT aft
  simp
  omega
theorem afterT_first {q : Pos} : afterT ⟨0, 0⟩ q = true ↔ ¬ (q.col < 1 ∨ aft ⟨1, 0⟩ q = false) := by
  unfold afterT aft
  simp
  omega
theorem aft_ne {p q : Pos} (h : aft p q = true) : p ≠ q := by
  rintro rfl
  unfold aft at h
  simp at h
theorem aft_trans {p q r : Pos} (h : aft p q = true) (k : aft q r = true) : aft p r = true := by
  unfold aft at *
  simp at *
  omega

/-- the same in between: no block is owed to the token before -/
structure MSame (x : Ins) (y : RIns) (last : Pos) : Prop where
  out : x.out = y.out
  cols : x.cols = y.cols
  nx : x.nx = false
  nxz : y.nx = zp
  wt : x.wt = decide (y.lt ≠ zp)
  wtp : x.wt = true → y.lt = x.ow
  opn : x.opn = if x.wt then [x.ow] else []
  lo2 : x.wt = true → x.ow = last ∨ aft x.ow last = true
  two : 1 ≤ x.out.length
  last : x.cols.getLast? = some 1
  nest : x.cols.length ≤ 64

theorem keepOf_self (p : Pos) : keepOf [p] p = [] := by simp [keepOf]
theorem keepOf_two {p q : Pos} (h : p ≠ q) : keepOf [p, q] q = [p] := by simp [keepOf, h]
theorem memS_two (a b s : ByteArray) : memS [a, b] s = true ↔ s = a ∨ s = b := by
  simp only [memS, List.any_cons, List.any_nil, Bool.or_false, Bool.or_eq_true, decide_eq_true_eq]
  constructor
  · rintro (e | e)
    · exact .inl e.symm
    · exact .inr e.symm
  · rintro (e | e)
    · exact .inl e.symm
    · exact .inr e.symm

theorem push_same {x : Ins} {y : RIns} {last : Pos} {t : Tok} (h : MSame x y last) (ha : aft last t.pos = true) (hl : 1 ≤ t.pos.line) : RSame (pushS x t) (rpushS y t) t.pos := by
  have hz : t.pos ≠ zp := by
    intro e
    rw [e] at hl
    exact absurd hl (by decide)
  have how : x.wt = true → aft x.ow t.pos = true := fun hw => by
    rcases h.lo2 hw with e | e
    · rw [e]; exact ha
    · exact aft_trans e ha
  have h2 := h.two
  have hkeep : (if x.wt then keepOf x.opn x.ow else x.opn) = [] := by
    rw [h.opn]
    cases x.wt
    · rfl
    · exact keepOf_self _
  unfold pushS rpushS rememberS rmarkS isKw
  by_cases hk : t.kind = 3
  · by_cases h1 : t.str = letB ∨ t.str = exportsB
    · have h1' := (memS_two letB exportsB t.str).2 h1
      unfold letB exportsB at h1'
      simp only [hk, decide_true, h1', Bool.and_self, if_true, h1]
      refine ⟨by simp [h.out], h.cols, rfl, hl, by simp [hz], fun _ => rfl, h.wt, h.wtp, by simp [h.opn], fun hw _ => how hw, fun hw => .inr (how hw), by simp; omega, h.last, h.nest⟩
    · have h1' : memS [letB, exportsB] t.str = false := by rw [Bool.eq_false_iff]; exact fun e => h1 ((memS_two _ _ _).1 e)
      by_cases h3 : t.str = moduleB ∨ t.str = timedB
      · have h3' := (memS_two moduleB timedB t.str).2 h3
        unfold letB exportsB at h1'
        unfold moduleB timedB at h3'
        simp only [hk, decide_true, h1', h3', Bool.and_self, Bool.and_false, Bool.false_eq_true, if_true, if_false, h1, h3]
        refine ⟨by simp [h.out], h.cols, rfl, hl, ?_, ?_, by simp [hz], fun _ => rfl, ?_, ?_, fun _ => .inl rfl, by simp; omega, h.last, h.nest⟩
        · simp [h.nx, h.nxz]
        · intro e; simp [h.nx] at e
        · simp only [hkeep, h.nx]; simp
        · intro _ e; simp [h.nx] at e
      · have h3' : memS [moduleB, timedB] t.str = false := by rw [Bool.eq_false_iff]; exact fun e => h3 ((memS_two _ _ _).1 e)
        unfold letB exportsB at h1'
        unfold moduleB timedB at h3'
        simp only [hk, decide_true, h1', h3', Bool.and_false, Bool.false_eq_true, if_true, if_false, h1, h3]
        refine ⟨by simp [h.out], h.cols, rfl, hl, ?_, ?_, h.wt, h.wtp, ?_, fun hw _ => how hw, fun hw => .inr (how hw), by simp; omega, h.last, h.nest⟩
        · simp [h.nx, h.nxz]
        · intro e; simp [h.nx] at e
        · simp only [h.opn, h.nx]; simp
  · simp only [hk, decide_false, Bool.false_and, Bool.false_eq_true, if_false]
    refine ⟨by simp [h.out], h.cols, rfl, hl, ?_, ?_, h.wt, h.wtp, ?_, fun hw _ => how hw, fun hw => .inr (how hw), by simp; omega, h.last, h.nest⟩
    · simp [h.nx, h.nxz]
    · intro e; simp [h.nx] at e
    · simp only [h.opn, h.nx]; simp

theorem began_same {x : Ins} {y : RIns} {last : Pos} (h : RSame x y last) (hb : x.nx = true ∨ x.wt = true) : MSame (beganS x) { y with nx := zp, lt := if y.nx = zp then zp else y.lt } last := by
  have h2 := h.two
  unfold beganS
  by_cases hn : x.nx = true
  · have hy : y.nx ≠ zp := by have := h.nx; rw [hn] at this; simpa using this.symm
    rw [if_pos hn]
    refine ⟨h.out, h.cols, rfl, rfl, ?_, ?_, ?_, h.lo2, by dsimp only; omega, h.last, h.nest⟩
    · simp only [if_neg hy]; exact h.wt
    · simp only [if_neg hy]; exact h.wtp
    · dsimp only
      rw [h.pos, h.opn, hn]
      by_cases hw : x.wt = true
      · rw [hw]; exact keepOf_two (aft_ne (h.lo hw hn))
      · rw [Bool.eq_false_iff.2 hw]; exact keepOf_self _
  · have hn' : x.nx = false := by simpa using hn
    have hw : x.wt = true := hb.resolve_left hn
    have hy : y.nx = zp := by have := h.nx; rw [hn'] at this; simpa using this.symm
    rw [if_neg hn]
    refine ⟨h.out, h.cols, hn', rfl, ?_, ?_, ?_, ?_, by dsimp only; omega, h.last, h.nest⟩
    · simp [hy]
    · intro e; cases e
    · dsimp only
      rw [h.opn, hn', hw]
      exact keepOf_self _
    · intro e; cases e

theorem begin_same {x : Ins} {y : RIns} {last : Pos} (t : Tok) (h : RSame x y last) (hb : x.nx = true ∨ x.wt = true) :
    (beginS x t).2 = (rbeginS { y with nx := zp, lt := if y.nx = zp then zp else y.lt } t).2 ∧
      ((beginS x t).2 = 0 → MSame (beginS x t).1 (rbeginS { y with nx := zp, lt := if y.nx = zp then zp else y.lt } t).1 last) := by
  have hm := began_same h hb
  have hc := beginS_cols x t h.last h.nest
  revert hc
  unfold beginS rbeginS
  generalize beganS x = z at *
  generalize ({ y with nx := zp, lt := if y.nx = zp then zp else y.lt } : RIns) = u at *
  dsimp only
  have hco := hm.cols
  have hou := hm.out
  have h1 := hm.two
  have hl := hm.last
  have hn := hm.nest
  rw [← hco]
  by_cases hcl : isClose t = true
  · rw [if_pos hcl, if_pos hcl]
    intro hc
    exact ⟨rfl, fun _ => ⟨by simp [hou, openTok, closeTok], rfl, hm.nx, hm.nxz, hm.wt, hm.wtp, hm.opn, hm.lo2, by simp, hc.1, hc.2⟩⟩
  · rw [if_neg hcl, if_neg hcl]
    by_cases h2 : t.pos.col ≤ z.cols.headD 0
    · rw [if_pos h2, if_pos h2]
      exact fun _ => ⟨rfl, fun e => by cases e⟩
    · rw [if_neg h2, if_neg h2]
      by_cases h3 : z.cols.length = 64
      · rw [if_pos h3, if_pos (by omega)]
        exact fun _ => ⟨rfl, fun e => by cases e⟩
      · rw [if_neg h3, if_neg (by omega)]
        exact fun hc => ⟨rfl, fun _ => ⟨by simp [hou, openTok], rfl, hm.nx, hm.nxz, hm.wt, hm.wtp, hm.opn, hm.lo2, by simp, hc.1, hc.2⟩⟩

theorem closeLoop_out (p : Pos) : ∀ (cs : List Int) (o : List Tok), o.length ≤ (closeLoop p o cs).1.length ∧ (closeLoop p o cs).2.length ≤ cs.length
  | [], o => ⟨Nat.le_refl _, Nat.le_refl _⟩
  | c :: r, o => by
    unfold closeLoop
    split
    · have := closeLoop_out p r (o ++ [closeTok p])
      simp at this ⊢
      omega
    · exact ⟨Nat.le_refl _, Nat.le_refl _⟩

theorem place_same {x : Ins} {y : RIns} {last : Pos} (t : Tok) (h : MSame x y last) (h2 : 2 ≤ x.out.length) (hp : x.bf.pos = last) (ht : 1 ≤ t.pos.col) : MSame (placeS x t) (rplainS y t (decide (last.line < t.pos.line))) last := by
  have hc := placeS_cols x t h.last ht
  have hA : placeA t x (decide (last.line < t.pos.line)) = rplainA y t (decide (last.line < t.pos.line)) := by
    unfold placeA rplainA; rw [h.out, h.cols]
  have hle : (rplainA y t (decide (last.line < t.pos.line))).2.length ≤ y.cols.length := by
    unfold rplainA
    split
    · exact (closeLoop_out _ _ _).2
    · exact Nat.le_refl _
  have hlo : 2 ≤ (rplainA y t (decide (last.line < t.pos.line))).1.length := by
    rw [h.out] at h2
    unfold rplainA
    split
    · exact Nat.le_trans h2 (closeLoop_out _ _ _).1
    · exact h2
  have hB : ∀ a : List Tok × List Int, a.2.length ≤ y.cols.length → placeB t x (isClose t) a = rplainB t y.cols.length a := fun a ha => by
    unfold placeB rplainB
    rw [h.cols, show decide (a.2.length = y.cols.length) = !decide (a.2.length < y.cols.length) from by rw [Bool.eq_iff_iff]; simp; omega]
  have hlo2 : 2 ≤ (rplainB t y.cols.length (rplainA y t (decide (last.line < t.pos.line)))).1.length := by
    unfold rplainB
    split
    · simp; omega
    · exact hlo
  have hC : ∀ (st : Bool) (a : List Tok × List Int), 2 ≤ a.1.length → placeC t st (isClose t) a = rplainC t st a := fun st a ha => by
    unfold placeC rplainC
    rw [show decide (1 < a.1.length) = true from by simp; omega, Bool.and_true]
    rfl
  have hout : (placeS x t).out = (rplainS y t (decide (last.line < t.pos.line))).out := by
    unfold placeS rplainS
    dsimp only
    rw [hp, hA, hB _ hle, hC _ _ hlo2]
  refine ⟨hout, ?_, h.nx, h.nxz, h.wt, h.wtp, h.opn, h.lo2, ?_, hc.1, Nat.le_trans hc.2 h.nest⟩
  · unfold placeS rplainS
    dsimp only
    rw [hp, hA, hB _ hle]
  · rw [hout]
    unfold rplainS rplainC
    dsimp only
    split
    · simp
    · omega

theorem step_same {x : Ins} {y : RIns} {last : Pos} (t : Tok) (h : RSame x y last) :
    (tokenS x t).2 = (rtokS y false last t).2 ∧ ((tokenS x t).2 = 0 → RSame (tokenS x t).1 (rtokS y false last t).1 t.pos) := by
  have h2 := h.two
  unfold tokenS rtokS
  rw [h.pos]
  by_cases hv : validTok t = true
  · by_cases ha : afterT last t.pos = true
    · have ha' := (afterT_eq h.line).1 ha
      have hna : aft last t.pos = true := by simpa using fun e => ha' (.inr e)
      have hl : 1 ≤ t.pos.line := by unfold afterT at ha; simp at ha; exact ha.1.1
      have ht : 1 ≤ t.pos.col := by omega
      have g1 : (validTok t && afterT last t.pos) = true := by rw [hv, ha]; rfl
      have g2 : ¬ x.out.length = 1 := by omega
      have g3 : ¬ (validTok t = false ∨ t.pos.col < 1 ∨ aft last t.pos = false) := fun e => by
        rcases e with e | e
        · rw [hv] at e; cases e
        · exact ha' e
      have g4 : ¬ (false = true ∧ t.pos.col ≠ 1) := fun e => by cases e.1
      rw [if_pos g1, if_neg g2, if_neg g3, if_neg g4, Bool.false_or]
      by_cases hb : (x.nx || x.wt && decide (last.line < t.pos.line)) = true
      · have hb1 : x.nx = true ∨ x.wt = true := by
          simp at hb
          exact hb.imp id (fun e => e.1)
        have hp : y.nx ≠ zp ∨ y.lt ≠ zp ∧ decide (last.line < t.pos.line) = true := by
          have e1 := h.nx
          have e2 := h.wt
          rw [e1, e2] at hb
          simpa using hb
        have hs := begin_same t h hb1
        rw [if_pos hb]
        unfold rpass
        rw [if_pos hp]
        rw [← hs.1]
        by_cases h0 : (beginS x t).2 = 0
        · rw [if_pos h0, if_pos h0]
          exact ⟨rfl, fun _ => push_same (hs.2 h0) hna hl⟩
        · rw [if_neg h0, if_neg h0]
          exact ⟨hs.1, fun e => absurd e h0⟩
      · have hp : ¬ (y.nx ≠ zp ∨ y.lt ≠ zp ∧ decide (last.line < t.pos.line) = true) := by
          have e1 := h.nx
          have e2 := h.wt
          rw [e1, e2] at hb
          simpa using hb
        have hn : x.nx = false := by
          cases e : x.nx
          · rfl
          · rw [e] at hb; exact absurd rfl hb
        have hyn : y.nx = zp := by
          have e1 := h.nx
          rw [hn] at e1
          simpa using e1.symm
        have hm : MSame x y last := ⟨h.out, h.cols, hn, hyn, h.wt, h.wtp, by rw [h.opn, hn]; simp, h.lo2, by omega, h.last, h.nest⟩
        rw [if_neg hb]
        unfold rpass
        rw [if_neg hp, if_pos rfl]
        exact ⟨rfl, fun _ => push_same (place_same t hm h2 h.pos ht) hna hl⟩
    · have ha' : t.pos.col < 1 ∨ aft last t.pos = false := by
        have := mt (afterT_eq h.line).2 ha
        exact Classical.byContradiction this
      have g1 : ¬ (validTok t && afterT last t.pos) = true := by simp [ha]
      have g3 : validTok t = false ∨ t.pos.col < 1 ∨ aft last t.pos = false := .inr ha'
      rw [if_neg g1, if_pos g3]
      exact ⟨rfl, fun e => by cases e⟩
  · have hv' : validTok t = false := by simpa using hv
    have g1 : ¬ (validTok t && afterT last t.pos) = true := by simp [hv']
    have g3 : validTok t = false ∨ t.pos.col < 1 ∨ aft last t.pos = false := .inl hv'
    rw [if_neg g1, if_pos g3]
    exact ⟨rfl, fun e => by cases e⟩

theorem fold_same : ∀ (l : List Tok) {x : Ins} {y : RIns} {last : Pos}, RSame x y last →
    (foldS l x).2 = (rfoldS l false last y).2 ∧ ((foldS l x).2 = none → ∃ q, RSame (foldS l x).1 (rfoldS l false last y).1 q)
  | [], x, y, last, h => ⟨rfl, fun _ => ⟨last, h⟩⟩
  | t :: r, x, y, last, h => by
    have hs := step_same t h
    unfold foldS rfoldS
    rw [← hs.1]
    by_cases h0 : (tokenS x t).2 = 0
    · rw [if_pos h0, if_pos h0]
      exact fold_same r (hs.2 h0)
    · rw [if_neg h0, if_neg h0]
      exact ⟨rfl, fun e => by cases e⟩

theorem start_same (t : Tok) : (tokenS startIns t).2 = (rtokS rstart true ⟨1, 0⟩ t).2 ∧ ((tokenS startIns t).2 = 0 → RSame (tokenS startIns t).1 (rtokS rstart true ⟨1, 0⟩ t).1 t.pos) := by
  have hm : MSame startIns rstart ⟨1, 0⟩ := ⟨rfl, rfl, rfl, rfl, by decide, fun e => (by cases e), rfl, fun e => (by cases e), by decide, rfl, by decide⟩
  unfold tokenS rtokS
  rw [show startIns.bf.pos = ⟨0, 0⟩ from rfl]
  by_cases hv : validTok t = true
  · by_cases ha : afterT ⟨0, 0⟩ t.pos = true
    · have ha' := afterT_first.1 ha
      have hna : aft ⟨1, 0⟩ t.pos = true := by simpa using fun e => ha' (.inr e)
      have hl : 1 ≤ t.pos.line := by unfold afterT at ha; simp at ha; exact ha.1.1
      have g1 : (validTok t && afterT ⟨0, 0⟩ t.pos) = true := by rw [hv, ha]; rfl
      have g2 : startIns.out.length = 1 := rfl
      have g3 : ¬ (validTok t = false ∨ t.pos.col < 1 ∨ aft ⟨1, 0⟩ t.pos = false) := fun e => by
        rcases e with e | e
        · rw [hv] at e; cases e
        · exact ha' e
      rw [if_pos g1, if_pos g2, if_neg g3]
      by_cases hc : t.pos.col = 1
      · rw [if_pos hc, if_neg (by simp [hc]), Bool.true_or]
        have hpl : rplainS rstart t true = rstart := by
          have hcl : closeLoop t.pos rstart.out rstart.cols = (rstart.out, rstart.cols) := by
            show closeLoop t.pos rstart.out [1] = _
            unfold closeLoop
            rw [if_neg (by rw [hc]; decide)]
            rfl
          have hb : rplainB t rstart.cols.length (rstart.out, rstart.cols) = (rstart.out, rstart.cols) := by
            unfold rplainB
            rw [if_neg (by simp [rstart])]
          have hcc : rplainC t true (rstart.out, rstart.cols) = rstart.out := by
            unfold rplainC
            rw [if_neg (by simp [rstart])]
          unfold rplainS rplainA
          rw [if_pos rfl, hcl, hb, hcc]
        have g5 : ¬ (rstart.nx ≠ zp ∨ rstart.lt ≠ zp ∧ true = true) := by decide
        unfold rpass
        rw [if_neg g5, if_pos rfl, hpl]
        exact ⟨rfl, fun _ => push_same hm hna hl⟩
      · rw [if_neg hc, if_pos ⟨rfl, hc⟩]
        exact ⟨rfl, fun e => by cases e⟩
    · have ha' : t.pos.col < 1 ∨ aft ⟨1, 0⟩ t.pos = false := Classical.byContradiction (mt afterT_first.2 ha)
      have g1 : ¬ (validTok t && afterT ⟨0, 0⟩ t.pos) = true := by simp [ha]
      have g3 : validTok t = false ∨ t.pos.col < 1 ∨ aft ⟨1, 0⟩ t.pos = false := .inr ha'
      rw [if_neg g1, if_pos g3]
      exact ⟨rfl, fun e => by cases e⟩
  · have hv' : validTok t = false := by simpa using hv
    have g1 : ¬ (validTok t && afterT ⟨0, 0⟩ t.pos) = true := by simp [hv']
    have g3 : validTok t = false ∨ t.pos.col < 1 ∨ aft ⟨1, 0⟩ t.pos = false := .inl hv'
    rw [if_neg g1, if_pos g3]
    exact ⟨rfl, fun e => by cases e⟩

theorem insS_eq (l : List Tok) : insS l = rinsS l := by
  unfold insS rinsS
  cases l with
  | nil => rfl
  | cons t r =>
    have hs := start_same t
    unfold foldS rfoldS
    rw [← hs.1]
    by_cases h0 : (tokenS startIns t).2 = 0
    · rw [if_pos h0, if_pos h0]
      have hf := fold_same r (hs.2 h0)
      have hf2 := hf.2
      have hf1 := hf.1
      clear hf hs
      generalize foldS r (tokenS startIns t).1 = A at *
      generalize rfoldS r false t.pos (rtokS rstart true ⟨1, 0⟩ t).1 = Bb at *
      obtain ⟨x, a⟩ := A
      obtain ⟨y, b⟩ := Bb
      dsimp only at hf1 hf2
      subst hf1
      cases a with
      | some pe => rfl
      | none =>
        obtain ⟨q, hq⟩ := hf2 rfl
        dsimp only at hq ⊢
        have e1 := hq.nx
        have e2 := hq.wt
        have e3 := hq.opn
        rw [e3]
        cases hw : x.wt
        · have hl : y.lt = zp := by rw [hw] at e2; simpa using e2.symm
          have gL : ¬ (y.lt ≠ zp ∧ (y.nx = zp ∨ aft y.lt y.nx = true)) := fun h => h.1 hl
          rw [if_neg gL]
          cases hn : x.nx
          · have hy : y.nx = zp := by rw [hn] at e1; simpa using e1.symm
            have gN : ¬ y.nx ≠ zp := fun h => h hy
            rw [if_neg gN, hq.out, hq.cols]
            rfl
          · have hy : y.nx ≠ zp := by rw [hn] at e1; simpa using e1.symm
            rw [if_pos hy, hq.nxp hn]
            rfl
        · have hl : y.lt ≠ zp := by rw [hw] at e2; simpa using e2.symm
          have gL : y.lt ≠ zp ∧ (y.nx = zp ∨ aft y.lt y.nx = true) := ⟨hl, by
            cases hn : x.nx
            · exact .inl (by rw [hn] at e1; simpa using e1.symm)
            · exact .inr (by rw [hq.wtp hw, hq.nxp hn]; exact hq.lo hw hn)⟩
          rw [if_pos gL, hq.wtp hw]
          rfl
    · rw [if_neg h0, if_neg h0]

end Go.Proofs.YtgfhkaamkodpjaaDoor
