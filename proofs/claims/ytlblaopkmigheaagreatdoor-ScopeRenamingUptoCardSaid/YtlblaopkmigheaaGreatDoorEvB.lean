/- The evaluator's values, blocks and heap, as they stand in a world of the model. No program stands in it. -/
import Derived.Test.YtlblaopkmigheaaGreatDoorEvA
import Derived.WalkKit
import Derived.Laws.CopyRow
import Derived.ChangeKeysEq
import Derived.Shelf.Abstract
import Derived.Laws.CopyOwn
import Derived.Laws.StructEq
import Derived.LaidEql
namespace Go.Proofs.YtlblaopkmigheaaGreatDoor.Ev
open Go Go.RowKit

/-- Where a version of a block lies: block cb, whose cell 0 is the version's cell lo; its cells below n are known; all its cells lie below tot. -/
structure Loc where
  cb : Nat
  lo : Nat
  n : Nat
  tot : Nat
  sh : Nat := 0
abbrev Ren := Pos → Nat → Option Loc
def SlOK (L : Loc) (o n c sz : Nat) (a : Addr) (cap : Nat) : Prop :=
  (c = 0 ∧ a = ⟨L.cb, L.sh + o - L.lo, none⟩ ∧ n ≤ cap ∧ o + cap * sz = L.tot) ∨ (c = 0 ∧ n = 0 ∧ cap = 0 ∧ o = L.tot) ∨ (c = cap + 1 ∧ n ≤ cap ∧ a = ⟨L.cb, L.sh + o - L.lo, none⟩) ∨ (c = 1 ∧ cap = 0 ∧ n = 0)

mutual
inductive VR (ρ : Ren) : AV → Value → Prop
  | u (v : Value) : VR ρ .u v
  | b (x : Bool) : VR ρ (.b x) (.bool x)
  | i (k : IntKind) (z : Int) : VR ρ (.i k z) (.int k z)
  | s (n x : Nat) : VR ρ (.s n x) (.string (bytesOf n x))
  | p {q : Pos} {o e st : Nat} {L : Loc} : ρ q st = some L → L.lo ≤ o → e ≤ L.n → VR ρ (.p q o e st) (.pointer (some ⟨L.cb, L.sh + o - L.lo, none⟩))
  | pn : VR ρ .pn (.pointer none)
  | sl {q : Pos} {o n c sz st : Nat} {L : Loc} {a : Addr} {cap : Nat} : ρ q st = some L → L.lo ≤ o → o + n * sz ≤ L.n → SlOK L o n c sz a cap → VR ρ (.sl q o n c sz st) (.slice (some a) n cap)
  | sn : VR ρ .sn (.slice none 0 0)
  | m {q : Pos} {L : Loc} : ρ q 0 = some L → VR ρ (.m q) (.map (some L.cb))
  | mn : VR ρ .mn (.map none)
  | fn (f : Nat) {r c : AV} {x y : List Value} : VL ρ r x → VL ρ c y → VR ρ (.fn f r c) (.func (.func f) x.toArray y.toArray)
  | fz : VR ρ .fz .nilFunc
  | agg {l : AV} {x : List Value} : VL ρ l x → VR ρ (.agg l) (.agg x.toArray)
  | tup {l : AV} {x : List Value} : VL ρ l x → VR ρ (.tup l) (.tuple x.toArray)
inductive VL (ρ : Ren) : AV → List Value → Prop
  | nl : VL ρ .nl []
  | cn {x t : AV} {v : Value} {vs : List Value} : VR ρ x v → VL ρ t vs → VL ρ (.cn x t) (v :: vs)
end

def Ren.le (ρ ρ' : Ren) : Prop := ∀ q st L, ρ q st = some L → ρ' q st = some L
theorem Ren.le_refl (ρ : Ren) : ρ.le ρ := fun _ _ _ h => h
theorem Ren.le_trans {a b c : Ren} (h : a.le b) (k : b.le c) : a.le c := fun q st L x => k q st L (h q st L x)

mutual
theorem VR.mono {ρ ρ' : Ren} (hl : ρ.le ρ') : ∀ {a : AV} {v : Value}, VR ρ a v → VR ρ' a v
  | _, _, .u v => .u v
  | _, _, .b x => .b x
  | _, _, .i k z => .i k z
  | _, _, .s n x => .s n x
  | _, _, .p h1 h2 h3 => .p (hl _ _ _ h1) h2 h3
  | _, _, .pn => .pn
  | _, _, .sl h1 h2 h3 h4 => .sl (hl _ _ _ h1) h2 h3 h4
  | _, _, .sn => .sn
  | _, _, .m h1 => .m (hl _ _ _ h1)
  | _, _, .mn => .mn
  | _, _, .fn f h1 h2 => .fn f (VL.mono hl h1) (VL.mono hl h2)
  | _, _, .fz => .fz
  | _, _, .agg h1 => .agg (VL.mono hl h1)
  | _, _, .tup h1 => .tup (VL.mono hl h1)
theorem VL.mono {ρ ρ' : Ren} (hl : ρ.le ρ') : ∀ {a : AV} {v : List Value}, VL ρ a v → VL ρ' a v
  | _, _, .nl => .nl
  | _, _, .cn h1 h2 => .cn (VR.mono hl h1) (VL.mono hl h2)
end

noncomputable section
def AH.t : AH → Tr Blk | .mk t _ => t
def AH.nx : AH → Pos | .mk _ x => x
def AH.get (h : AH) (q : Pos) : Option Blk := h.t.get q
def AH.put (h : AH) (q : Pos) (B : Blk) : AH := .mk (h.t.set q B) h.nx
def AH.add (h : AH) (B : Blk) : AH := .mk (h.t.set h.nx B) h.nx.succ
theorem putBlk_eq (h : AH) (q : Pos) (B : Blk) (K : AH → Out) : putBlk h q B K = K (h.put q B) := by
  obtain ⟨t, x⟩ := h
  exact Tr.setK_eq B t q _
theorem newBlk_eq (h : AH) (B : Blk) (K : Pos → AH → Out) : newBlk h B K = K h.nx (h.add B) := by
  obtain ⟨t, x⟩ := h
  exact (Tr.setK_eq B t x _).trans (Pos.succK_eq x _)
theorem AH.get_put (h : AH) (q q' : Pos) (B : Blk) : (h.put q B).get q' = if q = q' then some B else h.get q' := by
  show (h.t.set q B).get q' = _
  split
  · rename_i e; subst e; exact Tr.get_same B q _
  · rename_i e; exact Tr.get_set B q _ q' e
theorem AH.get_add (h : AH) (q' : Pos) (B : Blk) : (h.add B).get q' = if h.nx = q' then some B else h.get q' := by
  show (h.t.set h.nx B).get q' = _
  split
  · rename_i e; subst e; exact Tr.get_same B _ _
  · rename_i e; exact Tr.get_set B _ _ q' e
theorem AH.nx_put (h : AH) (q : Pos) (B : Blk) : (h.put q B).nx = h.nx := rfl
theorem AH.nx_add (h : AH) (B : Blk) : (h.add B).nx = h.nx.succ := rfl
theorem onBlk_ok {h : AH} {q : Pos} {K : Nat → Tr AV → Nat → Nat → Bool → Out} (hk : onBlk h q K = .ok) : ∃ n t cur mw ro, h.get q = some (.c n t cur mw ro) ∧ K n t cur mw ro = .ok := by
  obtain ⟨t, x⟩ := h
  obtain ⟨B, h1, h2⟩ := onO_ok hk
  cases B <;> first | exact ⟨_, _, _, _, _, h1, h2⟩ | cases h2
theorem onMap_ok {h : AH} {q : Pos} {K : Ents → Out} (hk : onMap h q K = .ok) : ∃ es, h.get q = some (.mp es) ∧ K es = .ok := by
  obtain ⟨t, x⟩ := h
  obtain ⟨B, h1, h2⟩ := onO_ok hk
  cases B <;> first | exact ⟨_, h1, h2⟩ | cases h2
theorem onIt_ok {h : AH} {q : Pos} {K : Pos → Nat → List Nat → Out} (hk : onIt h q K = .ok) : ∃ m n l, h.get q = some (.it m n l) ∧ K m n l = .ok := by
  obtain ⟨t, x⟩ := h
  obtain ⟨B, h1, h2⟩ := onO_ok hk
  cases B <;> first | exact ⟨_, _, _, h1, h2⟩ | cases h2
theorem onSi_ok {h : AH} {q : Pos} {K : Nat → Nat → Nat → Out} (hk : onSi h q K = .ok) : ∃ n x p, h.get q = some (.si n x p) ∧ K n x p = .ok := by
  obtain ⟨t, x⟩ := h
  obtain ⟨B, h1, h2⟩ := onO_ok hk
  cases B <;> first | exact ⟨_, _, _, h1, h2⟩ | cases h2
end

/-- A version of a row, in a world. -/
structure CR (N0 : Nat) (ρ : Ren) (n : Nat) (t : Tr AV) (cur mw : Nat) (ro : Bool) (st : Nat) (L : Loc) (w : World) : Prop where
  le : st ≤ cur
  row : ∃ cs el fr, w.heap[L.cb]? = some (.cells cs el fr) ∧ (L.n + L.sh ≤ L.lo + cs.size ∧ (ro = false → L.lo + cs.size = L.tot + L.sh)) ∧ (ro = false → N0 ≤ L.cb ∧ fr = (0, 0)) ∧
    ∀ i v, L.lo ≤ i → i < L.n → (st = cur ∨ i < mw) → t.get (posOf i) = some v → ∃ x, cs[L.sh + i - L.lo]? = some x ∧ VR ρ v x
  ntot : L.n ≤ L.tot
  ncur : st = cur → L.n = n
  nold : st ≠ cur → L.n ≤ n ∨ mw ≤ n
  fz : ro = true → 0 < mw → ∀ cs el fr, w.heap[L.cb]? = some (.cells cs el fr) → fr = (0, 0)
/-- The entries of a map: each was born at its number. -/
inductive ER (ρ : Ren) : Ents → Nat → List MapEntry → Prop
  | nl (i : Nat) : ER ρ .nl i []
  | cn {k v : AV} {t : Ents} {i : Nat} {x y : Value} {r : List MapEntry} : VR ρ k x → VR ρ v y → ER ρ t (i + 1) r → ER ρ (.cn k v t) i ({ key := x, val := y, born := i } :: r)
theorem ER.mono {ρ ρ' : Ren} (hl : ρ.le ρ') {es : Ents} {i : Nat} {r : List MapEntry} (h : ER ρ es i r) : ER ρ' es i r := by
  induction h with
  | nl i => exact .nl i
  | cn h1 h2 _ ih => exact .cn (h1.mono hl) (h2.mono hl) ih

structure MR (N0 : Nat) (ρ : Ren) (es : Ents) (L : Loc) (w : World) : Prop where
  low : N0 ≤ L.cb
  row : ∃ r, w.heap[L.cb]? = some (.map r.toArray r.length) ∧ ER ρ es 0 r
structure IR (N0 : Nat) (ρ : Ren) (m : Pos) (n : Nat) (seen : List Nat) (L : Loc) (w : World) : Prop where
  low : N0 ≤ L.cb
  row : ∃ Lm, ρ m 0 = some Lm ∧ w.heap[L.cb]? = some (.mapIter (some Lm.cb) n seen.reverse.toArray n)
structure SR (N0 : Nat) (n x pos : Nat) (L : Loc) (w : World) : Prop where
  low : N0 ≤ L.cb
  row : w.heap[L.cb]? = some (.stringIter (bytesOf n x) pos)
def BR (N0 : Nat) (ρ : Ren) (B : Blk) (st : Nat) (L : Loc) (w : World) : Prop :=
  match B with
  | .c n t cur mw ro => CR N0 ρ n t cur mw ro st L w
  | .mp es => st = 0 ∧ L.n = 0 ∧ MR N0 ρ es L w
  | .it m n seen => st = 0 ∧ L.n = 0 ∧ L.lo = 0 ∧ L.sh = 0 ∧ IR N0 ρ m n seen L w
  | .si n x pos => st = 0 ∧ L.n = 0 ∧ L.lo = 0 ∧ L.sh = 0 ∧ SR N0 n x pos L w

/-- The heap of the evaluator stands in the world. -/
structure WR (N0 : Nat) (ρ : Ren) (h : AH) (w : World) : Prop where
  fresh : ∀ q B, h.get q = some B → q.val < h.nx.val
  blk : ∀ q st L, ρ q st = some L → ∃ B, h.get q = some B ∧ BR N0 ρ B st L w
  inj : ∀ q st L q' st' L', ρ q st = some L → ρ q' st' = some L' → L.cb = L'.cb → (q = q' ∧ L.lo = L'.lo ∧ L.sh = L'.sh) ∨ (q.val < 64 ∧ q'.val < 64)
  size : N0 ≤ w.heap.size
  own : ∀ q n t cur mw ro, h.get q = some (.c n t cur mw ro) → 64 ≤ q.val → ro = false ∨ 0 < mw
  nx : 64 ≤ h.nx.val
  low : ∀ q B, h.get q = some B → q.val < 64 → ∃ n t cur mw, B = .c n t cur mw true
/-- An operand is read as the machine reads it. -/
def RdOK (ρ : Ren) (rd : Rd) (a : Act) : Prop := ∀ x K, rd x K = .ok → ∃ v, VR ρ v (a.eval x) ∧ K v = .ok
/-- The table of globals. -/
def GV (G : List Nat) (ρ : Ren) : Prop := ∀ g ∈ G, VR ρ (.p (posOf g) 0 1 0) (.pointer (some ⟨g, 0, none⟩))
theorem GV.mono {G : List Nat} {ρ ρ' : Ren} (h : GV G ρ) (hl : ρ.le ρ') : GV G ρ' := fun g hg => (h g hg).mono hl
/-- What came of a step. -/
structure Ext (N0 : Nat) (ρ : Ren) (h : AH) (w : World) (ρ' : Ren) (h' : AH) (w' : World) : Prop where
  le : ρ.le ρ'
  wr : WR N0 ρ' h' w'
  below : Below N0 w w'
  nx : h.nx.val ≤ h'.nx.val
  pend : ∀ q B, (∀ st, ρ q st = none) → h.get q = some B → h'.get q = some B ∧ ∀ st, ρ' q st = none

section
variable {N0 : Nat} {ρ ρ' : Ren} {h h' : AH} {w w' : World}
theorem Ext.refl (hw : WR N0 ρ h w) : Ext N0 ρ h w ρ h w := ⟨ρ.le_refl, hw, Below.refl _ _, Nat.le_refl _, fun _ _ hq hb => ⟨hb, hq⟩⟩
theorem Ext.trans {ρ'' : Ren} {h'' : AH} {w'' : World} (a : Ext N0 ρ h w ρ' h' w') (b : Ext N0 ρ' h' w' ρ'' h'' w'') : Ext N0 ρ h w ρ'' h'' w'' :=
  ⟨Ren.le_trans a.le b.le, b.wr, a.below.trans b.below, Nat.le_trans a.nx b.nx, fun q B hq hb => let ⟨h1, h2⟩ := a.pend q B hq hb; b.pend q B h2 h1⟩
theorem BR.mono {B : Blk} {st : Nat} {L : Loc} (hb : BR N0 ρ B st L w) (hl : ρ.le ρ') : BR N0 ρ' B st L w := by
  cases B with
  | c n t cur mw ro =>
    obtain ⟨h1, ⟨cs, el, fr, h2, h3, h4, h5⟩, h6, h7, h8, h9⟩ := hb
    exact ⟨h1, ⟨cs, el, fr, h2, h3, h4, fun i v a b c d => let ⟨x, e, f⟩ := h5 i v a b c d; ⟨x, e, f.mono hl⟩⟩, h6, h7, h8, h9⟩
  | mp es =>
    obtain ⟨h0, hn, h1, r, h2, h3⟩ := hb
    exact ⟨h0, hn, h1, r, h2, h3.mono hl⟩
  | it m n seen =>
    obtain ⟨h0, hn, h00, h01, h1, Lm, h2, h3⟩ := hb
    exact ⟨h0, hn, h00, h01, h1, Lm, hl _ _ _ h2, h3⟩
  | si n x pos => exact hb
/-- Only block cb of the world matters to a version. -/
theorem BR.frame {B : Blk} {st : Nat} {L : Loc} (hb : BR N0 ρ B st L w) (hw : w'.heap[L.cb]? = w.heap[L.cb]?) : BR N0 ρ B st L w' := by
  cases B with
  | c n t cur mw ro =>
    obtain ⟨h1, ⟨cs, el, fr, h2, h3⟩, h6, h7, h8, h9⟩ := hb
    exact ⟨h1, ⟨cs, el, fr, hw.trans h2, h3⟩, h6, h7, h8, fun a b cs el fr hc => h9 a b cs el fr (hw.symm.trans hc)⟩
  | mp es =>
    obtain ⟨h0, hn, h1, r, h2, h3⟩ := hb
    exact ⟨h0, hn, h1, r, hw.trans h2, h3⟩
  | it m n seen =>
    obtain ⟨h0, hn, h00, h01, h1, Lm, h2, h3⟩ := hb
    exact ⟨h0, hn, h00, h01, h1, Lm, h2, hw.trans h3⟩
  | si n x pos =>
    obtain ⟨h0, hn, h00, h01, h1, h2⟩ := hb
    exact ⟨h0, hn, h00, h01, h1, hw.trans h2⟩
theorem BR.lt {B : Blk} {st : Nat} {L : Loc} (hb : BR N0 ρ B st L w) : L.cb < w.heap.size := by
  have key : ∀ o, w.heap[L.cb]? = some o → L.cb < w.heap.size := fun o ho => (Array.getElem?_eq_some_iff.1 ho).1
  cases B with
  | c n t cur mw ro => obtain ⟨h1, ⟨cs, el, fr, h2, _⟩, _⟩ := hb; exact key _ h2
  | mp es => obtain ⟨_, _, _, r, h2, _⟩ := hb; exact key _ h2
  | it m n seen => obtain ⟨_, _, _, _, _, Lm, _, h2⟩ := hb; exact key _ h2
  | si n x pos => obtain ⟨_, _, _, _, _, h2⟩ := hb; exact key _ h2

/-- A new block, of whatever kind, that has been laid in the world already or is laid now (at the world's end). -/
noncomputable def Ren.with (ρ : Ren) (q : Pos) (st : Nat) (L : Loc) : Ren := fun q' st' => if q = q' ∧ st = st' then some L else ρ q' st'
theorem Ren.with_same (ρ : Ren) (q : Pos) (st : Nat) (L : Loc) : ρ.with q st L q st = some L := by simp [Ren.with]
theorem Ren.le_with {q : Pos} {st : Nat} {L : Loc} (hn : ρ q st = none) : ρ.le (ρ.with q st L) := by
  intro q' st' L' h1
  unfold Ren.with
  split
  · rename_i e; obtain ⟨rfl, rfl⟩ := e; rw [hn] at h1; cases h1
  · exact h1
theorem Ren.with_inv {q q' : Pos} {st st' : Nat} {L L' : Loc} (h1 : ρ.with q st L q' st' = some L') : (q = q' ∧ st = st' ∧ L = L') ∨ ρ q' st' = some L' := by
  unfold Ren.with at h1
  split at h1
  · rename_i e; exact .inl ⟨e.1, e.2, Option.some.inj h1⟩
  · exact .inr h1
theorem Below.pushed (w : World) (o : Obj) (h0 : N0 ≤ w.heap.size) : Below N0 w (w.alloc o) := (Below.refl N0 w).alloc h0 o
/-- A block that is in the heap, and that the world does not hold yet, is laid at the world's end. -/
theorem WR.lay {q : Pos} {B : Blk} {o : Obj} {L : Loc} (hw : WR N0 ρ h w) (hq : h.get q = some B) (hn : ∀ st, ρ q st = none) (hL : L.cb = w.heap.size)
    (hB : BR N0 (ρ.with q 0 L) B 0 L (w.alloc o)) : WR N0 (ρ.with q 0 L) h (w.alloc o) := by
  have hle : ρ.le (ρ.with q 0 L) := Ren.le_with (hn 0)
  refine ⟨hw.fresh, ?_, ?_, Nat.le_trans hw.size (by simp), hw.own, hw.nx, hw.low⟩
  · intro q' st' L' h1
    rcases Ren.with_inv h1 with ⟨rfl, rfl, rfl⟩ | h1
    · exact ⟨B, hq, hB⟩
    · obtain ⟨B', h2, h3⟩ := hw.blk q' st' L' h1
      exact ⟨B', h2, (h3.frame (Below.heap_alloc w o L'.cb h3.lt)).mono hle⟩
  · intro q1 st1 L1 q2 st2 L2 h1 h2 he
    rcases Ren.with_inv h1 with ⟨rfl, rfl, rfl⟩ | h1 <;> rcases Ren.with_inv h2 with ⟨rfl, rfl, rfl⟩ | h2
    · exact .inl ⟨rfl, rfl, rfl⟩
    · obtain ⟨B', _, h3⟩ := hw.blk q2 st2 L2 h2
      have := h3.lt
      omega
    · obtain ⟨B', _, h3⟩ := hw.blk q1 st1 L1 h1
      have := h3.lt
      omega
    · exact hw.inj _ _ _ _ _ _ h1 h2 he
/-- A block that the world does not hold. -/
noncomputable def Blk.mine : Blk → Prop | .c _ _ _ _ ro => ro = false | _ => True
theorem WR.added (hw : WR N0 ρ h w) (B : Blk) (hB : B.mine) : WR N0 ρ (h.add B) w ∧ (∀ st, ρ h.nx st = none) := by
  have hno : ∀ st, ρ h.nx st = none := fun st => by
    cases hr : ρ h.nx st with
    | none => rfl
    | some L =>
      obtain ⟨B', h1, _⟩ := hw.blk _ _ _ hr
      have := hw.fresh _ _ h1
      omega
  refine ⟨⟨?_, ?_, hw.inj, hw.size, ?_, by rw [AH.nx_add, Pos.succ_val]; have := hw.nx; omega, ?_⟩, hno⟩
  · intro q B' h1
    rw [AH.get_add] at h1
    rw [AH.nx_add, Pos.succ_val]
    split at h1
    · rename_i e; subst e; omega
    · have := hw.fresh _ _ h1; omega
  · intro q st L h1
    obtain ⟨B', h2, h3⟩ := hw.blk _ _ _ h1
    refine ⟨B', ?_, h3⟩
    rw [AH.get_add, if_neg]
    · exact h2
    · rintro rfl; rw [hno] at h1; cases h1
  · intro q n t cur mw ro h1 h2
    rw [AH.get_add] at h1
    split at h1
    · obtain rfl := Option.some.inj h1
      exact .inl hB
    · exact hw.own _ _ _ _ _ _ h1 h2
  · intro q B' h1 h2
    rw [AH.get_add] at h1
    split at h1
    · rename_i e; subst e; have := hw.nx; omega
    · exact hw.low _ _ h1 h2
theorem WR.inj' (hw : WR N0 ρ h w) {q q' : Pos} {st st' : Nat} {L L' : Loc} (h1 : ρ q st = some L) (h2 : ρ q' st' = some L') (he : L.cb = L'.cb) (hq : 64 ≤ q.val ∨ 64 ≤ q'.val) : q = q' ∧ L.lo = L'.lo ∧ L.sh = L'.sh := by
  rcases hw.inj _ _ _ _ _ _ h1 h2 he with h | h
  · exact h
  · omega
theorem WR.high (hw : WR N0 ρ h w) {q : Pos} {n : Nat} {t : Tr AV} {cur mw : Nat} {ro : Bool} (hq : h.get q = some (.c n t cur mw ro)) (hro : ro = false) : 64 ≤ q.val := by
  rcases Nat.lt_or_ge q.val 64 with h1 | h1
  · obtain ⟨_, _, _, _, e⟩ := hw.low _ _ hq h1
    simp only [Blk.c.injEq] at e
    rw [hro] at e
    cases e.2.2.2.2
  · exact h1
theorem WR.highO (hw : WR N0 ρ h w) {q : Pos} {B : Blk} (hq : h.get q = some B) (hB : ∀ n t cur mw ro, B ≠ .c n t cur mw ro) : 64 ≤ q.val := by
  rcases Nat.lt_or_ge q.val 64 with h1 | h1
  · obtain ⟨_, _, _, _, e⟩ := hw.low _ _ hq h1
    exact absurd e (hB _ _ _ _ _)
  · exact h1
theorem Ext.new (hw : WR N0 ρ h w) (B : Blk) (hm : B.mine) (o : Obj) (L : Loc) (hL : L.cb = w.heap.size) (hB : BR N0 (ρ.with h.nx 0 L) B 0 L (w.alloc o)) :
    Ext N0 ρ h w (ρ.with h.nx 0 L) (h.add B) (w.alloc o) := by
  obtain ⟨h1, hno⟩ := hw.added B hm
  refine ⟨Ren.le_with (hno 0), h1.lay (by rw [AH.get_add, if_pos rfl]) hno hL hB, Below.pushed w o hw.size, by rw [AH.nx_add, Pos.succ_val]; omega, ?_⟩
  intro q B' hq hb
  have hne : h.nx ≠ q := by rintro rfl; have := hw.fresh _ _ hb; omega
  refine ⟨by rw [AH.get_add, if_neg hne]; exact hb, fun st => ?_⟩
  unfold Ren.with
  rw [if_neg (fun e => hne e.1)]
  exact hq st
end

end Go.Proofs.YtlblaopkmigheaaGreatDoor.Ev
namespace Go.Proofs.YtlblaopkmigheaaGreatDoor.Ev
open Go Go.RowKit

section
variable {P : Program} {N0 : Nat} {ρ ρ' : Ren} {h h' : AH} {w w' : World}

theorem aggSz_ok {t : TypeId} {an : Bool × Nat} (ha : aggSz P t = some an) : ∃ d i, P.underlying t = some d ∧ P.info? t = some i ∧ an.2 = i.size ∧ an.1 = (match d with | .struct _ | .array _ _ => true | _ => false) ∧ (an.1 = false → an.2 = 1) := by
  unfold aggSz at ha
  split at ha <;> first
    | (rename_i h1 h2; obtain rfl := Option.some.inj ha; exact ⟨_, _, h1, h2, rfl, rfl, by simp⟩)
    | (rename_i d i hn1 hn2 h1 h2
       split at ha
       · rename_i h3
         obtain rfl := Option.some.inj ha
         refine ⟨_, _, h1, h2, h3.symm, ?_, fun _ => rfl⟩
         cases d <;> first | rfl | (exact absurd h1 (by simp_all))
       · cases ha)
    | cases ha
theorem isAgg_run {t : TypeId} {an : Bool × Nat} (ha : aggSz P t = some an) (w : World) : (isAgg t).run P w = .ok an.1 w := by
  obtain ⟨d, i, h1, h2, h3, h4, _⟩ := aggSz_ok ha
  rw [h4]
  cases d <;> simp [isAgg, run_underlying h1]
theorem sizeOf_run {t : TypeId} {an : Bool × Nat} (ha : aggSz P t = some an) (w : World) : (sizeOf t).run P w = .ok an.2 w := by
  obtain ⟨d, i, h1, h2, h3, h4, _⟩ := aggSz_ok ha
  simp [sizeOf, run_typeInfo w h2, h3]

theorem addr_add (g o j : Nat) : ((⟨g, o, none⟩ : Addr).add j) = ⟨g, o + j, none⟩ := by
  unfold Addr.add
  split
  · rename_i e; subst e; rfl
  · rfl
theorem cell_at {g k : Nat} {cs : Array Value} {t : TypeId} {fr : Nat × Nat} (hg : w.heap[g]? = some (.cells cs t fr)) : w.cell? ⟨g, k, none⟩ = cs[k]? := by
  simp [World.cell?, hg]

theorem VL.length {l : AV} {vs : List Value} (hv : VL ρ l vs) : lenL l = vs.length := by
  induction vs generalizing l with
  | nil => cases hv; rfl
  | cons v vs ih =>
    cases hv with
    | cn _ h2 => exact congrArg Nat.succ (ih h2)

theorem mayRead_ok {st cur mw e : Nat} (hm : mayRead st cur mw e = true) : st = cur ∨ e ≤ mw := by
  unfold mayRead at hm
  rw [iff'_eq] at hm
  split at hm
  · rename_i hb; exact .inl (Nat.eq_of_beq_eq_true hb)
  · exact .inr (Nat.le_of_ble_eq_true hm)

theorem readK_ok : ∀ {n : Nat} {t : Tr AV} {o : Nat} {K : AV → Out}, readK n t o K = .ok → ∃ l, K l = .ok ∧ ∀ (ρ : Ren) (vs : List Value), vs.length = n →
    (∀ i v, i < n → t.get (posOf (o + i)) = some v → ∃ x, vs[i]? = some x ∧ VR ρ v x) → VL ρ l vs
  | 0, t, o, K, hk => ⟨.nl, hk, fun ρ vs hl _ => by obtain rfl : vs = [] := List.eq_nil_of_length_eq_zero hl; exact .nl⟩
  | n + 1, t, o, K, hk => by
    obtain ⟨v, h1, h2⟩ := onO_ok (show onO (t.get (posOf o)) (.bad 13 o) (fun v => forceN (Nat.succ o) fun o' => readK n t o' fun l => K (.cn v l)) = .ok from hk)
    rw [forceN_eq] at h2
    obtain ⟨l, h3, h4⟩ := readK_ok h2
    refine ⟨_, h3, fun ρ vs hl hv => ?_⟩
    cases vs with
    | nil => simp at hl
    | cons x vs =>
      obtain ⟨y, hy1, hy2⟩ := hv 0 v (by omega) h1
      obtain rfl : x = y := by simpa using hy1
      refine .cn hy2 (h4 ρ vs (by simpa using hl) fun i v hi hg => ?_)
      have := hv (i + 1) v (by omega) (by rw [← hg]; congr 2; omega)
      simpa using this

/-- What a version's cells hold. -/
theorem CR.cells {n : Nat} {t : Tr AV} {cur mw : Nat} {ro : Bool} {st : Nat} {L : Loc} (hc : CR N0 ρ n t cur mw ro st L w) {o m : Nat} (hlo : L.lo ≤ o) (hm : o + m ≤ L.n) (hr : st = cur ∨ o + m ≤ mw) :
    ∃ vs : List Value, vs.length = m ∧ (∀ j v, vs[j]? = some v → w.cell? ((⟨L.cb, L.sh + o - L.lo, none⟩ : Addr).add j) = some v) ∧
      ∀ i v, i < m → t.get (posOf (o + i)) = some v → ∃ x, vs[i]? = some x ∧ VR ρ v x := by
  obtain ⟨hle, ⟨cs, el, fr, h1, h2, h3, h4⟩, h5, h6, h7⟩ := hc
  have hsz : (L.sh + o - L.lo) + m ≤ cs.size := by omega
  refine ⟨(cs.toList.drop (L.sh + o - L.lo)).take m, by simp; omega, ?_, ?_⟩
  · intro j v hj
    rw [addr_add, cell_at h1]
    rw [List.getElem?_take] at hj
    split at hj
    · rw [List.getElem?_drop] at hj
      simpa using hj
    · cases hj
  · intro i v hi hg
    obtain ⟨x, h8, h9⟩ := h4 (o + i) v (by omega) (by omega) (by rcases hr with hr | hr <;> first | exact .inl hr | exact .inr (by omega)) hg
    refine ⟨x, ?_, h9⟩
    rw [List.getElem?_take, if_pos hi, List.getElem?_drop]
    rw [show L.sh + (o + i) - L.lo = L.sh + o - L.lo + i by omega] at h8
    simpa using h8

theorem WR.c (hw : WR N0 ρ h w) {q : Pos} {n : Nat} {t : Tr AV} {cur mw : Nat} {ro : Bool} (hq : h.get q = some (.c n t cur mw ro)) {st : Nat} {L : Loc} (hL : ρ q st = some L) : CR N0 ρ n t cur mw ro st L w := by
  obtain ⟨B, h1, h2⟩ := hw.blk _ _ _ hL
  rw [hq] at h1
  obtain rfl := Option.some.inj h1
  exact h2

theorem loadK_ok {t : TypeId} {an : Bool × Nat} (ha : aggSz P t = some an) (hw : WR N0 ρ h w) {v : AV} {x : Value} (hv : VR ρ v x) {K : AV → Out} (hk : loadK h an.1 an.2 v K = .ok) :
    ∃ r y, K r = .ok ∧ VR ρ r y ∧ (Instr.loadAt t x).run P w = .ok y w := by
  obtain ⟨q, o, e, st, rfl, hk⟩ := AV.p_ok hk
  cases hv with
  | @p _ _ _ _ L hL hlo he =>
    obtain ⟨n, tr, cur, mw, ro, hq, hk⟩ := onBlk_ok hk
    rw [forceN_eq] at hk
    obtain ⟨h1, hk⟩ := iff_yes hk
    obtain ⟨h2, hk⟩ := iff_yes hk
    have h1 := Nat.le_of_ble_eq_true h1
    have h1 : o + an.2 ≤ L.n := Nat.le_trans h1 he
    obtain ⟨vs, hl, hc, hg⟩ := (hw.c hq hL).cells hlo h1 (mayRead_ok h2)
    have hrun : (Instr.loadAt t (.pointer (some ⟨L.cb, L.sh + o - L.lo, none⟩))).run P w = (loadVar t ⟨L.cb, L.sh + o - L.lo, none⟩).run P w := by simp [Instr.loadAt, Instr.sureAddr]
    rcases iff_ok hk with ⟨hb, hk⟩ | ⟨hb, hk⟩
    · obtain ⟨l, h3, h4⟩ := readK_ok hk
      refine ⟨_, .agg vs.toArray, h3, .agg (h4 ρ vs hl hg), ?_⟩
      rw [hrun]
      have := run_loadCells_list (P := P) w _ vs hc
      rw [hl] at this
      simp [loadVar, isAgg_run ha, hb, sizeOf_run ha, this]
    · obtain ⟨v, h3, h4⟩ := onO_ok hk
      obtain ⟨_, _, _, _, _, _, hone⟩ := aggSz_ok ha
      have hone := hone hb
      obtain ⟨y, h5, h6⟩ := hg 0 v (by omega) (by simpa using h3)
      refine ⟨v, y, h4, h6, ?_⟩
      rw [hrun]
      have := hc 0 y h5
      simp only [addr_add, Nat.add_zero] at this
      simp [loadVar, isAgg_run ha, hb, this]

theorem AV.one_ok {v : AV} {x : Value} (h1 : v.one = true) (hv : VR ρ v x) : x.oneCell' = true := by
  cases hv <;> first | rfl | (exact absurd h1 (by simp [AV.one]))

theorem cellsK_ok {v : AV} {K : AV → Out} (hk : cellsK v K = .ok) : ∃ l, K l = .ok ∧ ∀ (ρ : Ren) (x : Value), VR ρ v x → VL ρ l x.cells.toList := by
  cases v <;> first
    | (refine ⟨_, hk, fun ρ x hx => ?_⟩; cases hx; first | assumption | exact .cn (by constructor <;> assumption) .nl)
    | cases hk
theorem layK_ok : ∀ {l : AV} {t : Tr AV} {o : Nat} {K : Tr AV → Nat → Out}, layK l t o K = .ok → ∃ t', K t' (o + lenL l) = .ok ∧
    (∀ k, (k < o ∨ o + lenL l ≤ k) → t'.get (posOf k) = t.get (posOf k)) ∧
    ∀ (ρ : Ren) (vs : List Value), VL ρ l vs → (∀ v ∈ vs, v.oneCell' = true) ∧ ∀ i v, i < vs.length → t'.get (posOf (o + i)) = some v → ∃ x, vs[i]? = some x ∧ VR ρ v x := by
  intro l
  induction l with
  | nl =>
    intro t o K hk
    refine ⟨t, hk, fun k _ => rfl, fun ρ vs hv => ?_⟩
    cases hv
    exact ⟨by simp, fun i v hi => by simp at hi⟩
  | cn x l _ ih =>
    intro t o K hk
    obtain ⟨h1, hk⟩ := iff_yes (show iff' x.one (t.setK x (posOf o) fun t' => forceN (Nat.succ o) fun o' => layK l t' o' K) (.bad 12 1) = .ok from hk)
    rw [Tr.setK_eq, forceN_eq] at hk
    obtain ⟨t', h2, h3, h4⟩ := ih hk
    have hlen : lenL (.cn x l) = lenL l + 1 := rfl
    refine ⟨t', by rw [hlen]; rw [show o + (lenL l + 1) = Nat.succ o + lenL l by omega]; exact h2, fun k hk => ?_, fun ρ vs hv => ?_⟩
    · rw [hlen] at hk
      rw [h3 k (by omega)]
      exact Tr.get_set _ _ _ _ (fun e => by have := posOf_inj e; omega)
    · cases hv with
      | @cn _ _ y ys hx hl =>
        obtain ⟨h5, h6⟩ := h4 ρ ys hl
        refine ⟨fun v hv => ?_, fun i v hi hg => ?_⟩
        · rcases List.mem_cons.1 hv with rfl | hv
          · exact AV.one_ok h1 hx
          · exact h5 v hv
        · cases i with
          | zero =>
            rw [Nat.add_zero, h3 o (by omega), Tr.get_same] at hg
            obtain rfl := Option.some.inj hg
            exact ⟨y, rfl, hx⟩
          | succ i =>
            have := h6 i v (by simpa using hi) (by rw [← hg]; congr 2; omega)
            simpa using this
  | _ => intro t o K hk; cases hk
end
end Go.Proofs.YtlblaopkmigheaaGreatDoor.Ev
namespace Go.Proofs.YtlblaopkmigheaaGreatDoor.Ev
open Go Go.RowKit

section
variable {P : Program} {N0 : Nat} {ρ ρ' : Ren} {h h' : AH} {w w' : World}

/-- A row with vs written from off on. -/
def over (cs : Array Value) (off : Nat) (vs : List Value) : Array Value := (cs.toList.take off ++ vs ++ cs.toList.drop (off + vs.length)).toArray
theorem over_size {cs : Array Value} {off : Nat} {vs : List Value} (hl : off + vs.length ≤ cs.size) : (over cs off vs).size = cs.size := by
  simp [over]; omega
theorem over_get {cs : Array Value} {off : Nat} {vs : List Value} (hl : off + vs.length ≤ cs.size) (j : Nat) :
    (over cs off vs)[j]? = if off ≤ j ∧ j < off + vs.length then vs[j - off]? else cs[j]? := by
  unfold over
  rw [List.getElem?_toArray, List.append_assoc, List.getElem?_append]
  simp only [List.length_take, Array.length_toList]
  have h1 : min off cs.size = off := by omega
  rw [h1]
  split
  · rename_i h2
    rw [List.getElem?_take, if_pos h2, if_neg (by omega)]
    simp
  · rename_i h2
    rw [List.getElem?_append]
    split
    · rename_i h3
      rw [if_pos (by omega)]
    · rename_i h3
      rw [if_neg (by omega), List.getElem?_drop]
      rw [show off + vs.length + (j - off - vs.length) = j by omega]
      simp

theorem writeK_ok {q : Pos} {o st : Nat} {l : AV} {K : AH → Out} (hk : writeK h q o st l K = .ok) (hw : WR N0 ρ h w) {L : Loc} (hL : ρ q st = some L) (hlo : L.lo ≤ o) {vs : List Value} (hv : VL ρ l vs) :
    ∃ h' w', K h' = .ok ∧ Ext N0 ρ h w ρ h' w' ∧ (storeCells ⟨L.cb, L.sh + o - L.lo, none⟩ vs).run P w = .ok () w' := by
  obtain ⟨n, t, cur, mw, ro, hq, hk⟩ := onBlk_ok hk
  obtain ⟨hro, hk⟩ := iff_no hk
  obtain ⟨hst, hk⟩ := iff_yes hk
  have hst := Nat.eq_of_beq_eq_true hst
  subst hst
  obtain ⟨t', hk, htk, htv⟩ := layK_ok hk
  obtain ⟨hn, hk⟩ := iff_yes hk
  have hn := Nat.le_of_ble_eq_true hn
  have hlen := hv.length
  rw [hlen] at hn htk
  obtain ⟨hone, htv⟩ := htv ρ vs hv
  have hc := hw.c hq hL
  obtain ⟨hle, ⟨cs, el, fr, h1, h2, h3, h4⟩, h5, h6, h7⟩ := hc
  obtain ⟨h8, rfl⟩ := h3 hro
  have h6 := h6 rfl
  have hfit : (L.sh + o - L.lo) + vs.length ≤ cs.size := by omega
  have hrun := run_storeCells_at P L.cb (L.sh + o - L.lo) el vs 0 cs w h1 (by simpa using hfit) hone
  simp only [Nat.add_zero] at hrun
  refine ⟨h.put q (.c n t' st (if st = 0 then mw else min mw o) false), w.setRow L.cb (over cs (L.sh + o - L.lo) vs), ?_, ?_, hrun⟩
  · rw [iff'_eq] at hk
    split at hk
    · rename_i hz
      rw [if_pos (Nat.eq_of_beq_eq_true hz)]
      rw [putBlk_eq] at hk
      exact hk
    · rename_i hz
      rw [if_neg (fun e => hz (by rw [e]; rfl))]
      rw [forceN_eq, minN_eq, putBlk_eq] at hk
      exact hk
  · have h64 := hw.high hq hro
    refine ⟨ρ.le_refl, ⟨?_, ?_, hw.inj, ?_, ?_, hw.nx, ?_⟩, below_setRow (Below.refl _ _) h8 _, Nat.le_refl _, ?_⟩
    · intro q' B' hb
      rw [AH.get_put] at hb
      rw [AH.nx_put]
      split at hb
      · rename_i e; subst e; exact hw.fresh _ _ hq
      · exact hw.fresh _ _ hb
    · intro q' st' L' hL'
      by_cases hqq : q = q'
      · subst hqq
        refine ⟨_, by rw [AH.get_put, if_pos rfl], ?_⟩
        obtain ⟨hle', ⟨cs', el', fr', g1, g2, g3, g4⟩, g5, g6, g7⟩ := hw.c hq hL'
        have hmw : (if st = 0 then mw else min mw o) ≤ mw := by split <;> omega
        have hold : st' ≠ st → (if st = 0 then mw else min mw o) ≤ o := fun hne => by
          rw [if_neg (by omega)]; omega
        refine ⟨hle', ?_, g5, g6, fun hne => (g7 hne).imp id (fun h => Nat.le_trans hmw h), fun hh => by first | cases hh | (rw [hro] at hh; cases hh)⟩
        by_cases hcb : L'.cb = L.cb
        · have hlo' := (hw.inj' hL' hL hcb (.inl h64)).2
          rw [hcb] at g1 ⊢
          rw [h1] at g1
          simp only [Option.some.injEq, Obj.cells.injEq] at g1
          obtain ⟨rfl, rfl, rfl⟩ := g1
          refine ⟨_, _, _, setRow_heap w _ _ _ _ _ h1, by rw [over_size hfit]; exact ⟨g2.1, fun _ => g2.2 hro⟩, fun _ => ⟨h8, rfl⟩, ?_⟩
          intro i v a b c d
          rw [over_get hfit]
          by_cases hin : o ≤ i ∧ i < o + vs.length
          · rw [if_pos (by omega)]
            have := htv (i - o) v (by omega) (by rw [← d]; congr 2; omega)
            rw [show L'.sh + i - L'.lo - (L.sh + o - L.lo) = i - o by omega]
            exact this
          · rw [if_neg (by omega)]
            rw [htk i (by omega)] at d
            exact g4 i v a b (by rcases c with c | c <;> first | exact .inl c | exact .inr (by omega)) d
        · refine ⟨cs', el', fr', by rw [setRow_other _ _ _ _ hcb]; exact g1, ⟨g2.1, fun _ => g2.2 hro⟩, fun _ => g3 hro, ?_⟩
          intro i v a b c d
          have hne : st' ≠ st := by
            rintro rfl
            rw [hL] at hL'
            exact hcb (by rw [Option.some.inj hL'])
          have hio : i < o := by
            rcases c with c | c
            · exact absurd c hne
            · have := hold hne; omega
          rw [htk i (by omega)] at d
          exact g4 i v a b (by rcases c with c | c <;> first | exact .inl c | exact .inr (by omega)) d
      · obtain ⟨B', g1, g2⟩ := hw.blk _ _ _ hL'
        refine ⟨B', by rw [AH.get_put, if_neg hqq]; exact g1, g2.frame (setRow_other _ _ _ _ fun e => hqq (hw.inj' hL hL' e.symm (.inl h64)).1)⟩
    · rw [setRow_size]; exact hw.size
    · intro q' n' t'' cur' mw' ro' g1 g2
      rw [AH.get_put] at g1
      split at g1
      · simp only [Option.some.injEq, Blk.c.injEq] at g1
        exact .inl g1.2.2.2.2.symm
      · exact hw.own _ _ _ _ _ _ g1 g2
    · intro q' B' g1 g2
      rw [AH.get_put] at g1
      split at g1
      · rename_i e; subst e; omega
      · exact hw.low _ _ g1 g2
    · intro q' B' hn' hb
      refine ⟨?_, hn'⟩
      rw [AH.get_put, if_neg]
      · exact hb
      · rintro rfl; rw [hn'] at hL; cases hL

theorem storeK_ok {t : TypeId} {an : Bool × Nat} (ha : aggSz P t = some an) (hw : WR N0 ρ h w) {a v : AV} {x y : Value} (hx : VR ρ a x) (hy : VR ρ v y) {K : AH → Out} (hk : storeK h an.2 a v K = .ok) :
    ∃ h' w', K h' = .ok ∧ Ext N0 ρ h w ρ h' w' ∧ (Instr.storeAt t x y).run P w = .ok () w' := by
  obtain ⟨q, o, e, st, rfl, hk⟩ := AV.p_ok hk
  cases hx with
  | @p _ _ _ _ L hL hlo he =>
    obtain ⟨h1, hk⟩ := iff_yes hk
    obtain ⟨l, hk, hl⟩ := cellsK_ok hk
    obtain ⟨h2, hk⟩ := iff_yes hk
    have h2 := Nat.eq_of_beq_eq_true h2
    have hl := hl ρ y hy
    obtain ⟨h', w', h3, h4, h5⟩ := writeK_ok (P := P) hk hw hL hlo hl
    refine ⟨h', w', h3, h4, ?_⟩
    have h6 : y.cells.size = an.2 := by rw [← h2, hl.length]; simp
    simp only [Instr.storeAt, Instr.sureAddr, storeVar, Sem.run_bind, Sem.run_pure, Result.andThen_ok, sizeOf_run ha, h6]
    simpa using h5

/-- A new row: its tree holds what vs holds; behind it there may be more cells. -/
theorem newTree_ok (hw : WR N0 ρ h w) {t' : Tr AV} {vs : List Value} (htv : ∀ i v, i < vs.length → t'.get (posOf i) = some v → ∃ x, vs[i]? = some x ∧ VR ρ v x) (t : TypeId) (extra : List Value) :
    ∃ ρ', Ext N0 ρ h w ρ' (h.add (.c vs.length t' 0 bigN false)) (w.alloc (.cells (vs ++ extra).toArray t)) ∧ ρ' h.nx 0 = some ⟨w.heap.size, 0, vs.length, vs.length + extra.length, 0⟩ := by
  refine ⟨_, Ext.new hw (.c _ _ _ _ false) rfl _ ⟨w.heap.size, 0, vs.length, vs.length + extra.length, 0⟩ rfl ?_, Ren.with_same _ _ _ _⟩
  have hle : ρ.le (ρ.with h.nx 0 ⟨w.heap.size, 0, vs.length, vs.length + extra.length, 0⟩) := Ren.le_with ((hw.added (.mp .nl) trivial).2 0)
  refine ⟨Nat.le_refl _, ⟨_, _, _, heap_alloc_new _ _, by simp, fun _ => ⟨hw.size, rfl⟩, ?_⟩, Nat.le_add_right _ _, fun _ => rfl, fun hne => absurd rfl hne, fun hh => by cases hh⟩
  intro i v _ hi _ hg
  obtain ⟨x, h1, h2⟩ := htv i v hi hg
  refine ⟨x, ?_, h2.mono hle⟩
  simp only [Nat.sub_zero, Nat.zero_add, List.getElem?_toArray]
  rw [List.getElem?_append_left hi]
  exact h1
/-- A new row. -/
theorem newCells_ok (hw : WR N0 ρ h w) {l : AV} {K : Pos → Nat → AH → Out} (hk : newCells h l K = .ok) {vs : List Value} (hv : VL ρ l vs) (t : TypeId) (extra : List Value) :
    ∃ q h' ρ', K q vs.length h' = .ok ∧ Ext N0 ρ h w ρ' h' (w.alloc (.cells (vs ++ extra).toArray t)) ∧ ρ' q 0 = some ⟨w.heap.size, 0, vs.length, vs.length + extra.length, 0⟩ ∧ (∀ v ∈ vs, v.oneCell' = true) := by
  obtain ⟨t', hk, htk, htv⟩ := layK_ok hk
  rw [newBlk_eq, Nat.zero_add, hv.length] at hk
  obtain ⟨hone, htv⟩ := htv ρ vs hv
  obtain ⟨ρ', h1, h2⟩ := newTree_ok hw (t' := t') (vs := vs) (fun i v hi hg => htv i v hi (by rw [Nat.zero_add]; exact hg)) t extra
  exact ⟨_, _, ρ', hk, h1, h2, hone⟩
end
end Go.Proofs.YtlblaopkmigheaaGreatDoor.Ev
namespace Go.Proofs.YtlblaopkmigheaaGreatDoor.Ev
open Go Go.RowKit

section
variable {P : Program} {N0 : Nat} {ρ ρ' : Ren} {h h' : AH} {w w' : World} {T : Tr AV} {a : Act}

theorem avOne_ok (v : Value) : VR ρ (avOne v) v := by
  unfold avOne
  split <;> first
    | constructor
    | (rename_i s; have := VR.s (ρ := ρ) s.size (packL s.data.toList); rw [bytesOf_pack] at this; exact this)
theorem avList_ok : ∀ (l : List Value), VL ρ (avList (l.map avOne)) l
  | [] => .nl
  | v :: l => .cn (avOne_ok v) (avList_ok l)
theorem avOf_ok (v : Value) : VR ρ (avOf v) v := by
  unfold avOf
  split
  · rename_i cs
    have := VR.agg (avList_ok (ρ := ρ) cs.toList)
    simpa using this
  · exact avOne_ok v

theorem evX_ok {rd : Rd} (hT : RdOK ρ rd a) {x : Operand} {K : AV → Out} (hk : rd x K = .ok) : ∃ v, VR ρ v (a.eval x) ∧ K v = .ok := hT x K hk
theorem evXs_ok {rd : Rd} (hT : RdOK ρ rd a) : ∀ {l : List Operand} {K : AV → Out}, evXs l rd K = .ok → ∃ v, VL ρ v (l.map a.eval) ∧ K v = .ok
  | [], K, hk => ⟨.nl, .nl, hk⟩
  | x :: l, K, hk => by
    obtain ⟨v, h1, h2⟩ := evX_ok hT (show rd x (fun v => evXs l rd fun l => K (.cn v l)) = .ok from hk)
    obtain ⟨r, h3, h4⟩ := evXs_ok hT h2
    exact ⟨_, .cn h1 h3, h4⟩
/-- An operand that may be left out. -/
def OR (ρ : Ren) : Option AV → Option Value → Prop
  | none, none => True
  | some v, some x => VR ρ v x
  | _, _ => False
theorem evXo_ok {rd : Rd} (hT : RdOK ρ rd a) {x : Option Operand} {K : Option AV → Out} (hk : evXo rd x K = .ok) : ∃ v, OR ρ v (x.map a.eval) ∧ K v = .ok := by
  cases x with
  | none => exact ⟨none, trivial, hk⟩
  | some x =>
    obtain ⟨v, h1, h2⟩ := evX_ok hT (show rd x (fun v => K (some v)) = .ok from hk)
    exact ⟨some v, h1, h2⟩

theorem appK_ok : ∀ {x y : AV} {K : AV → Out}, appK x y K = .ok → ∃ r, K r = .ok ∧ ∀ (ρ : Ren) (l m : List Value), VL ρ x l → VL ρ y m → VL ρ r (l ++ m) := by
  intro x
  induction x with
  | nl => intro y K hk; exact ⟨y, hk, fun ρ l m h1 h2 => by cases h1; exact h2⟩
  | cn x t _ ih =>
    intro y K hk
    obtain ⟨r, h1, h2⟩ := ih (show appK t y (fun l => K (.cn x l)) = .ok from hk)
    refine ⟨_, h1, fun ρ l m h3 h4 => ?_⟩
    cases h3 with
    | cn a b => exact .cn a (h2 ρ _ _ b h4)
  | _ => intro y K hk; cases hk
theorem nthK_ok : ∀ {i : Nat} {l : AV} {K : AV → Out}, nthK i l K = .ok → ∃ v, K v = .ok ∧ ∀ (ρ : Ren) (vs : List Value), VL ρ l vs → ∃ x, vs[i]? = some x ∧ VR ρ v x
  | 0, l, K, hk => by
    obtain ⟨x, t, rfl, hk⟩ := AV.cn_ok hk
    refine ⟨x, hk, fun ρ vs hv => ?_⟩
    cases hv with
    | cn a b => exact ⟨_, rfl, a⟩
  | i + 1, l, K, hk => by
    obtain ⟨x, t, rfl, hk⟩ := AV.cn_ok hk
    obtain ⟨v, h1, h2⟩ := nthK_ok (i := i) hk
    refine ⟨v, h1, fun ρ vs hv => ?_⟩
    cases hv with
    | cn a b => simpa using h2 ρ _ b
theorem takeK_ok : ∀ {n : Nat} {l : AV} {K : AV → Out}, takeK n l K = .ok → ∃ r, K r = .ok ∧ ∀ (ρ : Ren) (vs : List Value), VL ρ l vs → n ≤ vs.length ∧ VL ρ r (vs.take n)
  | 0, l, K, hk => ⟨.nl, hk, fun ρ vs hv => ⟨by omega, by simpa using VL.nl⟩⟩
  | n + 1, l, K, hk => by
    obtain ⟨x, t, rfl, hk⟩ := AV.cn_ok hk
    obtain ⟨r, h1, h2⟩ := takeK_ok (n := n) hk
    refine ⟨_, h1, fun ρ vs hv => ?_⟩
    cases hv with
    | cn a b =>
      obtain ⟨h3, h4⟩ := h2 ρ _ b
      exact ⟨by simp; omega, .cn a h4⟩
theorem dropK_ok : ∀ {n : Nat} {l : AV} {K : AV → Out}, dropK n l K = .ok → ∃ r, K r = .ok ∧ ∀ (ρ : Ren) (vs : List Value), VL ρ l vs → n ≤ vs.length ∧ VL ρ r (vs.drop n)
  | 0, l, K, hk => ⟨l, hk, fun ρ vs hv => ⟨by omega, by simpa using hv⟩⟩
  | n + 1, l, K, hk => by
    obtain ⟨x, t, rfl, hk⟩ := AV.cn_ok hk
    obtain ⟨r, h1, h2⟩ := dropK_ok (n := n) hk
    refine ⟨_, h1, fun ρ vs hv => ?_⟩
    cases hv with
    | cn a b =>
      obtain ⟨h3, h4⟩ := h2 ρ _ b
      exact ⟨by simp; omega, h4⟩
theorem partK_ok {t : TypeId} {an : Bool × Nat} (ha : aggSz P t = some an) {off : Nat} {l : AV} {K : AV → Out} (hk : partK an.1 off an.2 l K = .ok) {vs : List Value} (hv : VL ρ l vs) :
    ∃ v x, K v = .ok ∧ VR ρ v x ∧ (part t vs.toArray off).run P w = .ok x w := by
  cases hb : an.1 with
  | true =>
    rw [hb] at hk
    obtain ⟨r, hk, h1⟩ := dropK_ok (show dropK off l (fun r => takeK an.2 r fun r => K (.agg r)) = .ok from hk)
    obtain ⟨r', hk, h2⟩ := takeK_ok hk
    obtain ⟨h3, h4⟩ := h1 ρ vs hv
    obtain ⟨h5, h6⟩ := h2 ρ _ h4
    refine ⟨_, _, hk, .agg h6, ?_⟩
    simp only [part, Sem.run_bind, isAgg_run ha, hb, Result.andThen_ok, if_true, sizeOf_run ha, Sem.run_pure]
    congr 2
    apply Array.ext'
    simp
  | false =>
    rw [hb] at hk
    obtain ⟨v, hk, h1⟩ := nthK_ok (show nthK off l K = .ok from hk)
    obtain ⟨x, h2, h3⟩ := h1 ρ vs hv
    refine ⟨_, _, hk, h3, ?_⟩
    simp [part, isAgg_run ha, hb, h2]
theorem overK_ok : ∀ {r l : AV} {K : AV → Out}, overK r l K = .ok → ∃ m, K m = .ok ∧ ∀ (ρ : Ren) (x y : List Value), VL ρ r x → VL ρ l y → x.length ≤ y.length ∧ VL ρ m (x ++ y.drop x.length) := by
  intro r
  induction r with
  | nl => intro l K hk; exact ⟨l, hk, fun ρ x y h1 h2 => by cases h1; exact ⟨by simp, by simpa using h2⟩⟩
  | cn x t _ ih =>
    intro l K hk
    obtain ⟨y, s, rfl, hk⟩ := AV.cn_ok (show l.on_cn (.bad 6 1) (fun _ s => overK t s fun t' => K (.cn x t')) = .ok from hk)
    obtain ⟨m, h1, h2⟩ := ih hk
    refine ⟨_, h1, fun ρ x y h3 h4 => ?_⟩
    cases h3 with
    | cn a b => cases h4 with
      | cn c d =>
        obtain ⟨h5, h6⟩ := h2 ρ _ _ b d
        exact ⟨by simpa using h5, by simpa using VL.cn a h6⟩
  | _ => intro l K hk; cases hk
theorem overAtK_ok : ∀ {off : Nat} {r l : AV} {K : AV → Out}, overAtK off r l K = .ok → ∃ m, K m = .ok ∧ ∀ (ρ : Ren) (x y : List Value), VL ρ r x → VL ρ l y → off + x.length ≤ y.length ∧ VL ρ m (y.take off ++ x ++ y.drop (off + x.length))
  | 0, r, l, K, hk => by
    obtain ⟨m, h1, h2⟩ := overK_ok hk
    exact ⟨m, h1, fun ρ x y a b => by simpa using h2 ρ x y a b⟩
  | off + 1, r, l, K, hk => by
    obtain ⟨y, s, rfl, hk⟩ := AV.cn_ok (show l.on_cn (.bad 7 1) (fun x t => overAtK off r t fun t' => K (.cn x t')) = .ok from hk)
    obtain ⟨m, h1, h2⟩ := overAtK_ok (off := off) hk
    refine ⟨_, h1, fun ρ x y h3 h4 => ?_⟩
    cases h4 with
    | cn c d =>
      obtain ⟨h5, h6⟩ := h2 ρ _ _ h3 d
      refine ⟨by simp; omega, ?_⟩
      rw [show off + 1 + x.length = (off + x.length) + 1 by omega]
      simpa using VL.cn c h6
theorem repL_ok : ∀ {n : Nat} {z : AV} {K : AV → Out}, repL z n K = .ok → ∃ r, K r = .ok ∧ ∀ (ρ : Ren) (vs : List Value), VL ρ z vs → VL ρ r (List.replicate n vs).flatten
  | 0, z, K, hk => ⟨.nl, hk, fun ρ vs _ => by simpa using VL.nl⟩
  | n + 1, z, K, hk => by
    obtain ⟨r, hk, h1⟩ := repL_ok (show repL z n (fun r => appK z r K) = .ok from hk)
    obtain ⟨r', hk, h2⟩ := appK_ok hk
    refine ⟨r', hk, fun ρ vs hv => ?_⟩
    rw [List.replicate_succ, List.flatten_cons]
    exact h2 ρ _ _ hv (h1 ρ vs hv)

theorem eqK_ok {k k' : IntKind} (h : eqK k k' = true) : k = k' := by
  cases k <;> cases k' <;> first | rfl | (exact absurd h (by decide))

theorem and_mod (x y n : Nat) : (x % 2 ^ n) &&& (y % 2 ^ n) = Nat.land x y % 2 ^ n := (Nat.and_mod_two_pow).symm
theorem or_mod (x y n : Nat) : (x % 2 ^ n) ||| (y % 2 ^ n) = Nat.lor x y % 2 ^ n := (Nat.or_mod_two_pow).symm
theorem wrap_bits {k : IntKind} {z : Nat} (h : inRange k (.ofNat z) = true) : k.wrap ((z % 2 ^ k.bits : Nat) : Int) = (z : Int) := by
  have h1 := inRange_wrap h
  have h2 : z < 2 ^ k.bits := by
    have hz : inRange k (.ofNat z) = true := h
    cases k with
    | i8 => have : z ≤ 127 := Nat.le_of_ble_eq_true hz; simp [IntKind.bits]; omega
    | i16 => have : z ≤ 32767 := Nat.le_of_ble_eq_true hz; simp [IntKind.bits]; omega
    | i32 => have : z ≤ 2147483647 := Nat.le_of_ble_eq_true hz; simp [IntKind.bits]; omega
    | i64 => have : z ≤ 9223372036854775807 := Nat.le_of_ble_eq_true hz; simp [IntKind.bits]; omega
    | u8 => have : z ≤ 255 := Nat.le_of_ble_eq_true hz; simp [IntKind.bits]; omega
    | u16 => have : z ≤ 65535 := Nat.le_of_ble_eq_true hz; simp [IntKind.bits]; omega
    | u32 => have : z ≤ 4294967295 := Nat.le_of_ble_eq_true hz; simp [IntKind.bits]; omega
    | u64 => have : z ≤ 18446744073709551615 := Nat.le_of_ble_eq_true hz; simp [IntKind.bits]; omega
  rw [Nat.mod_eq_of_lt h2]
  exact h1

theorem ibin_ok {op : BinOp} {k k' : IntKind} {x y : Int} {K : AV → Out} (hk : ibin op k k' x y K = .ok) (t : TypeId) :
    ∃ v r, K v = .ok ∧ VR ρ v r ∧ (binOp op t (.int k x) (.int k' y)).run P w = .ok r w := by
  cases op
  case add => obtain ⟨e, hz⟩ := iff_yes hk; obtain rfl := eqK_ok e; replace hk := hz; clear hz; rw [wrapK_eq] at hk; exact ⟨_, _, hk, .i _ _, by simp [binOp, Op.intArith]⟩
  case sub => obtain ⟨e, hz⟩ := iff_yes hk; obtain rfl := eqK_ok e; replace hk := hz; clear hz; rw [wrapK_eq] at hk; exact ⟨_, _, hk, .i _ _, by simp [binOp, Op.intArith]; rfl⟩
  case mul => obtain ⟨e, hz⟩ := iff_yes hk; obtain rfl := eqK_ok e; replace hk := hz; clear hz; rw [wrapK_eq] at hk; exact ⟨_, _, hk, .i _ _, by simp [binOp, Op.intArith]⟩
  case quo =>
    obtain ⟨e, hz⟩ := iff_yes hk; obtain rfl := eqK_ok e; replace hk := hz; clear hz
    obtain ⟨e, hk⟩ := iff_no (show iff' (eqI y (.ofNat 0)) (.bad 21 0) (wrapK k (Int.tdiv x y) K) = .ok from hk)
    rw [eqI_eq] at e
    rw [wrapK_eq] at hk
    have e : ¬ y = 0 := by simpa using e
    exact ⟨_, _, hk, .i _ _, by simp [binOp, Op.intDiv, e]⟩
  case rem =>
    obtain ⟨e, hz⟩ := iff_yes hk; obtain rfl := eqK_ok e; replace hk := hz; clear hz
    obtain ⟨e, hk⟩ := iff_no (show iff' (eqI y (.ofNat 0)) (.bad 21 1) (forceI (Int.tmod x y) fun z => K (.i k z)) = .ok from hk)
    rw [eqI_eq] at e
    rw [forceI_eq] at hk
    have e : ¬ y = 0 := by simpa using e
    exact ⟨_, _, hk, .i _ _, by simp [binOp, Op.intDiv, e]⟩
  case and =>
    obtain ⟨e, hz⟩ := iff_yes hk; obtain rfl := eqK_ok e; replace hk := hz; clear hz
    obtain ⟨m, hm, h2⟩ := natOf_ok hk
    obtain ⟨n, hn, h3⟩ := natOf_ok h2
    rw [forceN_eq] at h3
    obtain ⟨e, h4⟩ := iff_yes h3
    clear hk h2 h3
    subst hm; subst hn
    replace hk := h4
    refine ⟨_, _, hk, .i _ _, ?_⟩
    have := wrap_bits e
    rw [← and_mod] at this
    simpa [binOp, Op.intBits] using this
  case or =>
    obtain ⟨e, hz⟩ := iff_yes hk; obtain rfl := eqK_ok e; replace hk := hz; clear hz
    obtain ⟨m, hm, h2⟩ := natOf_ok hk
    obtain ⟨n, hn, h3⟩ := natOf_ok h2
    rw [forceN_eq] at h3
    obtain ⟨e, h4⟩ := iff_yes h3
    clear hk h2 h3
    subst hm; subst hn
    replace hk := h4
    refine ⟨_, _, hk, .i _ _, ?_⟩
    have := wrap_bits e
    rw [← or_mod] at this
    simpa [binOp, Op.intBits] using this
  case shl =>
    obtain ⟨m, hm, h2⟩ := natOf_ok hk
    obtain ⟨e, h3⟩ := iff_yes h2
    rw [wrapK_eq] at h3
    clear hk h2
    subst hm
    replace hk := h3
    refine ⟨_, _, hk, .i _ _, ?_⟩
    have h0 : ¬ ((m : Int) < 0) := by omega
    simp only [binOp, Op.shift, h0, if_false, Int.toNat_natCast, Sem.run_pure, minN_eq]
    congr 3
    show _ = Int.mul x _
    congr 1
    show _ = ((1 <<< min m k.bits : Nat) : Int)
    rw [Nat.one_shiftLeft]
    simp
  case shr =>
    obtain ⟨m, hm, h2⟩ := natOf_ok hk
    obtain ⟨n, hn, h3⟩ := natOf_ok h2
    rw [forceN_eq] at h3
    clear hk h2
    subst hm; subst hn
    replace hk := h3
    refine ⟨_, _, hk, .i _ _, ?_⟩
    have h0 : ¬ ((n : Int) < 0) := by omega
    simp only [binOp, Op.shift, h0, if_false, Int.toNat_natCast, Sem.run_pure, minN_eq]
    congr 2
    show _ = ((m >>> min n k.bits : Nat) : Int)
    rw [Nat.shiftRight_eq_div_pow]
    rw [Int.fdiv_eq_ediv_of_nonneg _ (Int.pow_nonneg (by decide))]
    simp
  case eql => obtain ⟨e, hz⟩ := iff_yes hk; obtain rfl := eqK_ok e; replace hk := hz; clear hz; rw [bK_eq, eqI_eq] at hk; exact ⟨_, _, hk, .b _, by simp [binOp, Op.intCmp]; rfl⟩
  case neq => obtain ⟨e, hz⟩ := iff_yes hk; obtain rfl := eqK_ok e; replace hk := hz; clear hz; rw [bK_eq, notB_eq, eqI_eq] at hk; exact ⟨_, _, hk, .b _, by simp [binOp, Op.intCmp, bne]; rfl⟩
  case lss => obtain ⟨e, hz⟩ := iff_yes hk; obtain rfl := eqK_ok e; replace hk := hz; clear hz; rw [bK_eq, notB_eq, leI_eq] at hk; exact ⟨_, _, hk, .b _, by simp [binOp, Op.intCmp, ← decide_not, Int.not_le]⟩
  case leq => obtain ⟨e, hz⟩ := iff_yes hk; obtain rfl := eqK_ok e; replace hk := hz; clear hz; rw [bK_eq, leI_eq] at hk; exact ⟨_, _, hk, .b _, by simp [binOp, Op.intCmp]⟩
  case gtr => obtain ⟨e, hz⟩ := iff_yes hk; obtain rfl := eqK_ok e; replace hk := hz; clear hz; rw [bK_eq, notB_eq, leI_eq] at hk; exact ⟨_, _, hk, .b _, by simp [binOp, Op.intCmp, ← decide_not, Int.not_le]⟩
  case geq => obtain ⟨e, hz⟩ := iff_yes hk; obtain rfl := eqK_ok e; replace hk := hz; clear hz; rw [bK_eq, leI_eq] at hk; exact ⟨_, _, hk, .b _, by simp [binOp, Op.intCmp]⟩
  all_goals cases hk
end
end Go.Proofs.YtlblaopkmigheaaGreatDoor.Ev
namespace Go.Proofs.YtlblaopkmigheaaGreatDoor.Ev
open Go Go.RowKit

section
variable {P : Program} {N0 : Nat} {ρ ρ' : Ren} {h h' : AH} {w w' : World} {T : Tr AV} {a : Act}

theorem u8_lt (x y : Nat) : (UInt8.ofNat (x % 256) < UInt8.ofNat (y % 256)) ↔ x % 256 < y % 256 := by
  rw [UInt8.lt_iff_toNat_lt]; simp
theorem u8_eq (x y : Nat) : (UInt8.ofNat (x % 256) = UInt8.ofNat (y % 256)) ↔ x % 256 = y % 256 := by
  constructor
  · intro h
    have := congrArg UInt8.toNat h
    simpa using this
  · intro h; rw [h]
theorem ltS_eq : ∀ n x m y, ltS n x m y = Op.bytesLess (bytesL n x) (bytesL m y)
  | 0, x, 0, y => rfl
  | 0, x, m + 1, y => rfl
  | n + 1, x, 0, y => rfl
  | n + 1, x, m + 1, y => by
    have key : ltS (n + 1) x (m + 1) y = iff' (Nat.beq (x % 256) (y % 256)) (ltS n (x / 256) m (y / 256)) (Nat.blt (x % 256) (y % 256)) := rfl
    rw [key, iff'_eq, ltS_eq n]
    show _ = (decide (UInt8.ofNat (x % 256) < UInt8.ofNat (y % 256)) || (UInt8.ofNat (x % 256) == UInt8.ofNat (y % 256) && Op.bytesLess (bytesL n (x / 256)) (bytesL m (y / 256))))
    have e1 := u8_lt x y
    have e2 := u8_eq x y
    split
    · rename_i he
      have he := Nat.eq_of_beq_eq_true he
      have h1 : ¬ UInt8.ofNat (x % 256) < UInt8.ofNat (y % 256) := by rw [e1]; omega
      simp [he]
    · rename_i he
      have he : ¬ x % 256 = y % 256 := fun e => he (by rw [e]; exact Nat.beq_refl _)
      have h2 : (UInt8.ofNat (x % 256) == UInt8.ofNat (y % 256)) = false := by rw [beq_eq_false_iff_ne, ne_eq, e2]; exact he
      rw [h2, Bool.false_and, Bool.or_false]
      rw [Bool.eq_iff_iff, decide_eq_true_iff, e1]
      simp [Nat.blt]
      omega
theorem bytesOf_list (n x : Nat) : (bytesOf n x).toList = bytesL n x := by rw [ByteArray.toList_eq]; rfl
theorem bytesOf_beq (n x m y : Nat) : ((bytesOf n x).toList == (bytesOf m y).toList) = eqS n x m y := by
  rw [bytesOf_list, bytesOf_list, eqS_eq]
  rw [Bool.eq_iff_iff, beq_iff_eq, decide_eq_true_iff]
theorem sbin_ok {op : BinOp} {n x m y : Nat} {K : AV → Out} (hk : sbin op n x m y K = .ok) (t : TypeId) :
    ∃ v r, K v = .ok ∧ VR ρ v r ∧ (binOp op t (.string (bytesOf n x)) (.string (bytesOf m y))).run P w = .ok r w := by
  have hlt : ∀ n x m y, Op.bytesLess (bytesOf n x).toList (bytesOf m y).toList = ltS n x m y := fun n x m y => by rw [bytesOf_list, bytesOf_list, ltS_eq]
  have hnot : ∀ n x m y, ltS m y n x = !(ltS n x m y || eqS n x m y) := by
    intro n x m y
    rw [ltS_eq, ltS_eq, eqS_eq]
    generalize bytesL n x = a
    generalize bytesL m y = b
    induction a generalizing b with
    | nil => cases b <;> simp [Op.bytesLess]
    | cons c a ih =>
      cases b with
      | nil => simp [Op.bytesLess]
      | cons d b =>
        have := ih b
        simp only [Op.bytesLess, List.cons.injEq]
        rcases Nat.lt_trichotomy c.toNat d.toNat with h1 | h1 | h1
        · have h2 : c < d := UInt8.lt_iff_toNat_lt.2 h1
          have h3 : ¬ d < c := fun h => by have := UInt8.lt_iff_toNat_lt.1 h; omega
          have h4 : ¬ d = c := fun h => by subst h; omega
          simp [h2, h3, h4]
        · have h2 : c = d := UInt8.toNat_inj.1 h1
          subst h2
          simpa using this
        · have h2 : d < c := UInt8.lt_iff_toNat_lt.2 h1
          have h3 : ¬ c < d := fun h => by have := UInt8.lt_iff_toNat_lt.1 h; omega
          have h4 : ¬ c = d := fun h => by subst h; omega
          simp [h2, h3, h4]
  cases op
  case add =>
    rw [show sbin .add n x m y K = forceN (Nat.add n m) (fun l => forceN (Nat.add (cutS n x) (Nat.shiftLeft y (bits8 n))) fun z => iff' (Nat.ble l (nat_lit 1000000)) (K (.s l z)) (.bad 22 0)) from rfl, forceN_eq, forceN_eq] at hk
    obtain ⟨e, hk⟩ := iff_yes hk
    have e : n + m ≤ 1000000 := Nat.le_of_ble_eq_true e
    refine ⟨_, _, hk, .s _ _, ?_⟩
    have hb : bytesOf (n + m) (cutS n x + y <<< bits8 n) = bytesOf n x ++ bytesOf m y := by
      have h1 := bytesL_append n x m y
      rw [cutS_eq, Nat.shiftLeft_eq]
      rw [show (2 : Nat) ^ bits8 n = 256 ^ n from Nat.pow_mul 2 8 n]
      apply ByteArray.ext
      show (⟨bytesL (n + m) _⟩ : Array UInt8) = _
      rw [h1]
      apply Array.ext'
      simp [bytesOf]
    have hs : ¬ (((bytesOf n x).size + (bytesOf m y).size : Nat) : Int) > IntKind.i64.max := by
      rw [bytesOf_size, bytesOf_size]
      simp [IntKind.max, IntKind.signed, IntKind.bits]; omega
    simp only [binOp, Op.stringOp, hs, if_false, Sem.run_pure]
    exact congrArg (fun b => Result.ok (Value.string b) w) hb.symm
  case eql => rw [show sbin .eql n x m y K = bK (eqS n x m y) K from rfl, bK_eq] at hk; exact ⟨_, _, hk, .b _, by simp [binOp, Op.stringOp, bytesOf_beq]⟩
  case neq => rw [show sbin .neq n x m y K = bK (notB (eqS n x m y)) K from rfl, bK_eq, notB_eq] at hk; exact ⟨_, _, hk, .b _, by simp [binOp, Op.stringOp, bytesOf_beq]⟩
  case lss => rw [show sbin .lss n x m y K = bK (ltS n x m y) K from rfl, bK_eq] at hk; exact ⟨_, _, hk, .b _, by simp [binOp, Op.stringOp, hlt]⟩
  case geq => rw [show sbin .geq n x m y K = bK (notB (ltS n x m y)) K from rfl, bK_eq, notB_eq] at hk; exact ⟨_, _, hk, .b _, by simp [binOp, Op.stringOp, hlt]⟩
  case gtr => rw [show sbin .gtr n x m y K = bK (ltS m y n x) K from rfl, bK_eq, hnot] at hk; exact ⟨_, _, hk, .b _, by simp [binOp, Op.stringOp, hlt, bytesOf_beq]⟩
  case leq => rw [show sbin .leq n x m y K = bK (notB (ltS m y n x)) K from rfl, bK_eq, notB_eq, hnot] at hk; exact ⟨_, _, hk, .b _, by simp [binOp, Op.stringOp, hlt, bytesOf_beq]⟩
  all_goals cases hk

theorem pkOf_one {t : TypeId} {k : Pk} (hp : pkOf P t = some k) (w : World) : (isAgg t).run P w = .ok false w := by
  unfold pkOf at hp
  split at hp <;> first
    | (rename_i hd; simp [isAgg, run_underlying hd])
    | cases hp
/-- Two plain values. -/
theorem eqPk_ok {k : Pk} {x y : AV} {K : Bool → Out} (hk : eqPk k x y K = .ok) {u v : Value} (hx : VR ρ x u) (hy : VR ρ y v) {t : TypeId} (ht : pkOf P t = some k) (d : Nat) :
    ∃ e, K e = .ok ∧ (Op.equalIn (d + 1) t u v).run P w = .ok e w ∧ (e = true → u = v) := by
  unfold pkOf at ht
  split at ht
  · rename_i hd
    obtain rfl := Option.some.inj ht
    obtain ⟨k, p, rfl, h1⟩ := AV.i_ok (show x.on_i (.bad 23 0) (fun k a => y.on_i (.bad 23 1) fun k' b => iff' (eqK k k') (K (eqI a b)) (.bad 23 2)) = .ok from hk)
    obtain ⟨k', q, rfl, h2⟩ := AV.i_ok h1
    obtain ⟨e1, h3⟩ := iff_yes h2
    cases hx; cases hy
    exact ⟨_, h3, by simp [Op.equalIn, run_underlying hd, eqK_ok e1, eqI_eq]; rfl, fun he => by rw [eqI_eq] at he; rw [eqK_ok e1, of_decide_eq_true he]⟩
  · rename_i hd
    obtain rfl := Option.some.inj ht
    obtain ⟨n, p, rfl, h1⟩ := AV.s_ok (show x.on_s (.bad 23 3) (fun n a => y.on_s (.bad 23 4) fun m b => K (eqS n a m b)) = .ok from hk)
    obtain ⟨m, q, rfl, h2⟩ := AV.s_ok h1
    cases hx; cases hy
    rw [← bytesOf_beq] at h2
    exact ⟨_, h2, by simp [Op.equalIn, run_underlying hd, beq_toListBytes], fun he => by rw [bytesOf_list, bytesOf_list, beq_iff_eq] at he; unfold bytesOf; rw [he]⟩
  · rename_i hd
    obtain rfl := Option.some.inj ht
    obtain ⟨p, rfl, h1⟩ := AV.b_ok (show x.on_b (.bad 23 5) (fun a => y.on_b (.bad 23 6) fun b => K (eqB a b)) = .ok from hk)
    obtain ⟨q, rfl, h2⟩ := AV.b_ok h1
    cases hx; cases hy
    rw [eqB_eq] at h2
    exact ⟨_, h2, by simp [Op.equalIn, run_underlying hd], fun he => by rw [beq_iff_eq.1 he]⟩
  · cases ht
theorem isEnd_ok {l : AV} {y : Out} {a b : Nat} (hk : isEnd l y (.bad a b) = .ok) : l = .nl ∧ y = .ok := by cases l <;> first | exact ⟨rfl, hk⟩ | cases hk
theorem eqLs_fields (d : Nat) (xs ys : Array Value) : ∀ (fs : List Field) (i : Nat) (ks : List Pk) (l r : AV) (K : Bool → Out), fsKs P fs i = some ks → eqLs ks l r K = .ok →
    VL ρ l (xs.toList.drop i) → VL ρ r (ys.toList.drop i) → ∃ e, K e = .ok ∧ (Op.eqFields (d + 1) xs ys fs).run P w = .ok e w ∧ (e = true → xs.toList.drop i = ys.toList.drop i)
  | [], i, ks, l, r, K, hf, hk, hl, hr => by
    obtain rfl := Option.some.inj hf
    obtain ⟨rfl, h1⟩ := isEnd_ok (show isEnd l (isEnd r (K true) (.bad 24 3)) (.bad 24 2) = .ok from hk)
    obtain ⟨rfl, h2⟩ := isEnd_ok h1
    generalize xs.toList.drop i = xl at hl ⊢
    generalize ys.toList.drop i = yl at hr ⊢
    cases hl; cases hr
    exact ⟨true, h2, by simp [Op.eqFields], fun _ => rfl⟩
  | f :: fs, i, ks, l, r, K, hf, hk, hl, hr => by
    unfold fsKs at hf
    split at hf
    · rename_i hname
      split at hf
      · rename_i k ks' hp hks
        obtain rfl := Option.some.inj hf
        obtain ⟨x, s, rfl, h1⟩ := AV.cn_ok (show l.on_cn (.bad 24 0) (fun a s => r.on_cn (.bad 24 1) fun b t => eqPk k a b fun e => iff' e (eqLs ks' s t K) (K false)) = .ok from hk)
        obtain ⟨y, t, rfl, h2⟩ := AV.cn_ok h1
        generalize hxs : xs.toList.drop i = xl at hl
        generalize hys : ys.toList.drop i = yl at hr
        cases hl with
        | @cn _ _ u us hu hus => cases hr with
          | @cn _ _ v vs hv hvs =>
            obtain ⟨e, h3, h4, h4e⟩ := eqPk_ok (P := P) (w := w) h2 hu hv hp d
            have gx : xs[i]? = some u := by have := congrArg (·[0]?) hxs; simpa using this
            have gy : ys[i]? = some v := by have := congrArg (·[0]?) hys; simpa using this
            have dx : xs.toList.drop (i + 1) = us := by rw [← List.drop_drop, hxs]; rfl
            have dy : ys.toList.drop (i + 1) = vs := by rw [← List.drop_drop, hys]; rfl
            have px : (part f.type xs f.offset).run P w = .ok u w := by rw [hname.2]; simp [part, pkOf_one hp, gx]
            have py : (part f.type ys f.offset).run P w = .ok v w := by rw [hname.2]; simp [part, pkOf_one hp, gy]
            cases e with
            | true =>
              obtain ⟨e', h5, h6, h7⟩ := eqLs_fields d xs ys fs (i + 1) ks' s t K hks h3 (by rw [dx]; exact hus) (by rw [dy]; exact hvs)
              refine ⟨e', h5, by simp [Op.eqFields, hname.1, px, py, h4, h6], fun he => ?_⟩
              rw [h4e rfl, ← dx, ← dy, h7 he]
            | false => exact ⟨false, h3, by simp [Op.eqFields, hname.1, px, py, h4], fun he => by cases he⟩
      · cases hf
    · cases hf
theorem eqLs_items (d : Nat) (xs ys : Array Value) {e : TypeId} {k : Pk} (he : pkOf P e = some k) : ∀ (n i : Nat) (l r : AV) (K : Bool → Out), eqLs (List.replicate n k) l r K = .ok →
    VL ρ l (xs.toList.drop i) → VL ρ r (ys.toList.drop i) → ∃ b, K b = .ok ∧ (Op.eqItems (d + 1) e 1 xs ys (List.range' i n)).run P w = .ok b w ∧ (b = true → xs.toList.drop i = ys.toList.drop i)
  | 0, i, l, r, K, hk, hl, hr => by
    obtain ⟨rfl, h1⟩ := isEnd_ok (show isEnd l (isEnd r (K true) (.bad 24 3)) (.bad 24 2) = .ok from hk)
    obtain ⟨rfl, h2⟩ := isEnd_ok h1
    generalize xs.toList.drop i = xl at hl ⊢
    generalize ys.toList.drop i = yl at hr ⊢
    cases hl; cases hr
    exact ⟨true, h2, by simp [Op.eqItems], fun _ => rfl⟩
  | n + 1, i, l, r, K, hk, hl, hr => by
    obtain ⟨x, s, rfl, h1⟩ := AV.cn_ok (show l.on_cn (.bad 24 0) (fun a s => r.on_cn (.bad 24 1) fun b t => eqPk k a b fun e => iff' e (eqLs (List.replicate n k) s t K) (K false)) = .ok from hk)
    obtain ⟨y, t, rfl, h2⟩ := AV.cn_ok h1
    generalize hxs : xs.toList.drop i = xl at hl
    generalize hys : ys.toList.drop i = yl at hr
    cases hl with
    | @cn _ _ u us hu hus => cases hr with
      | @cn _ _ v vs hv hvs =>
        obtain ⟨b, h3, h4, h4e⟩ := eqPk_ok (P := P) (w := w) h2 hu hv he d
        have gx : xs[i]? = some u := by have := congrArg (·[0]?) hxs; simpa using this
        have gy : ys[i]? = some v := by have := congrArg (·[0]?) hys; simpa using this
        have dx : xs.toList.drop (i + 1) = us := by rw [← List.drop_drop, hxs]; rfl
        have dy : ys.toList.drop (i + 1) = vs := by rw [← List.drop_drop, hys]; rfl
        have px : (part e xs (i * 1)).run P w = .ok u w := by simp [part, pkOf_one he, gx]
        have py : (part e ys (i * 1)).run P w = .ok v w := by simp [part, pkOf_one he, gy]
        rw [List.range'_succ]
        cases b with
        | true =>
          obtain ⟨b', h5, h6, h7⟩ := eqLs_items d xs ys he n (i + 1) s t K h3 (by rw [dx]; exact hus) (by rw [dy]; exact hvs)
          refine ⟨b', h5, by simp only [Op.eqItems, Sem.run_bind, px, py, h4, Result.andThen_ok]; simpa using h6, fun he' => ?_⟩
          rw [h4e rfl, ← dx, ← dy, h7 he']
        | false => exact ⟨false, h3, by simp only [Op.eqItems, Sem.run_bind, px, py, h4, Result.andThen_ok]; simp, fun he' => by cases he'⟩

theorem eqA_ok {t : TypeId} {ks : List Pk} (hf : flatKs P t = some ks) {x y : AV} {K : Bool → Out} (hk : eqA ks x y K = .ok) {u v : Value} (hx : VR ρ x u) (hy : VR ρ y v) (d : Nat) :
    ∃ e, K e = .ok ∧ (Op.equalIn (d + 2) t u v).run P w = .ok e w ∧ P.eqGuardType P.depth t = false ∧ (e = true → u = v) := by
  obtain ⟨l, rfl, h1⟩ := AV.agg_ok hk
  obtain ⟨r, rfl, h2⟩ := AV.agg_ok h1
  cases hx with
  | @agg _ us hl => cases hy with
    | @agg _ vs hr =>
      unfold flatKs at hf
      split at hf
      · rename_i fs hd
        split at hf
        · rename_i hc
          obtain ⟨e, h3, h4, h5⟩ := eqLs_fields (P := P) (w := w) d us.toArray vs.toArray fs.toList 0 ks l r K hf h2 (by simpa using hl) (by simpa using hr)
          refine ⟨e, h3, ?_, hc.2, fun he => by have := h5 he; simp at this; rw [this]⟩
          have hfs : P.fieldsOf t = fs := by simp [Program.fieldsOf, hd]
          rw [run_equalIn_struct w (d + 1) t _ _ (by rw [hfs]; exact hd) hc.1, hfs]
          exact h4
        · cases hf
      · rename_i n e hd
        split at hf
        · rename_i k hp
          split at hf
          · rename_i hc
            obtain rfl := Option.some.inj hf
            obtain ⟨b, h3, h4, h5⟩ := eqLs_items (P := P) (w := w) d us.toArray vs.toArray hp n 0 l r K h2 (by simpa using hl) (by simpa using hr)
            refine ⟨b, h3, ?_, hc.2, fun he => by have := h5 he; simp at this; rw [this]⟩
            cases hi : P.info? e with
            | none => rw [hi] at hc; simp at hc
            | some i =>
              have hsz : P.cellsOf e = 1 := by unfold Program.cellsOf; rw [hc.1]; rfl
              rw [run_equalIn_array w (d + 1) _ _ hd hi, hsz, List.range_eq_range']
              exact h4
          · cases hf
        · cases hf
      · cases hf

theorem row_of (hw : WR N0 ρ h w) {q : Pos} {o e st : Nat} {L : Loc} (hL : ρ q st = some L) (he : e ≤ L.n) (ho : o < e) (h64 : 64 ≤ q.val) : ∃ cs t, w.heap[L.cb]? = some (.cells cs t (0, 0)) := by
  obtain ⟨B, h1, h2⟩ := hw.blk _ _ _ hL
  cases B with
  | c n t cur mw ro =>
    have hfz := CR.fz h2
    obtain ⟨_, ⟨cs, el, fr, g1, _, g3, _⟩, _⟩ := h2
    rcases hw.own _ _ _ _ _ _ h1 h64 with hr | hr
    · obtain ⟨_, rfl⟩ := g3 hr
      exact ⟨cs, el, g1⟩
    · cases ro with
      | false => obtain ⟨_, rfl⟩ := g3 rfl; exact ⟨cs, el, g1⟩
      | true => obtain rfl := hfz rfl hr cs el fr g1; exact ⟨cs, el, g1⟩
  | mp es => obtain ⟨_, hn, _⟩ := h2; omega
  | it m n seen => obtain ⟨_, hn, _⟩ := h2; omega
  | si n x pos => obtain ⟨_, hn, _⟩ := h2; omega
theorem eqPP_ok (hw : WR N0 ρ h w) {q q' : Pos} {o e st o' e' st' : Nat} {K : Bool → Out} (hk : eqPP q o e st q' o' e' st' K = .ok) {L L' : Loc} (hL : ρ q st = some L) (hlo : L.lo ≤ o) (he : e ≤ L.n)
    (hL' : ρ q' st' = some L') (hlo' : L'.lo ≤ o') (he' : e' ≤ L'.n) :
    ∃ b, K b = .ok ∧ (sameAddr ⟨L.cb, L.sh + o - L.lo, none⟩ ⟨L'.cb, L'.sh + o' - L'.lo, none⟩).run P w = .ok b w ∧ (b = true → (⟨L.cb, L.sh + o - L.lo, none⟩ : Addr) = ⟨L'.cb, L'.sh + o' - L'.lo, none⟩) := by
  rcases iff_ok hk with ⟨hb, h1⟩ | ⟨hb, hk⟩
  · obtain ⟨hs, h2⟩ := iff_yes h1
    clear hk h1
    have hq := Pos.val_inj _ _ (Nat.eq_of_beq_eq_true hb)
    subst hq
    have hs := Nat.eq_of_beq_eq_true hs
    subst hs
    rw [hL] at hL'
    obtain rfl := Option.some.inj hL'
    refine ⟨_, h2, ?_, fun he => by rw [Nat.eq_of_beq_eq_true he]⟩
    simp only [sameAddr, beq_self_eq_true, if_true]
    rw [Sem.run_pure]
    congr 1
    rw [Bool.eq_iff_iff, Nat.beq_eq, beq_iff_eq]
    simp
    omega
  · obtain ⟨h1, hk⟩ := iff_yes hk
    obtain ⟨h2, hk⟩ := iff_yes hk
    obtain ⟨h3, hk⟩ := iff_yes hk
    obtain ⟨h4, hk⟩ := iff_yes hk
    have h1 := Nat.le_of_ble_eq_true h1
    have h2 := Nat.le_of_ble_eq_true h2
    have h3 : o < e := by simpa using h3
    have h4 : o' < e' := by simpa using h4
    obtain ⟨cs, t, g1⟩ := row_of hw hL he h3 h1
    obtain ⟨cs', t', g2⟩ := row_of hw hL' he' h4 h2
    refine ⟨false, hk, run_sameAddr_other (P := P) w (a := ⟨L.cb, L.sh + o - L.lo, none⟩) (b := ⟨L'.cb, L'.sh + o' - L'.lo, none⟩) ?_ g1 g2, fun he => by cases he⟩
    intro e
    simp only [Addr.mk.injEq] at e
    have := (hw.inj' hL hL' e.1 (.inl h1)).1
    subst this
    simp at hb
end
end Go.Proofs.YtlblaopkmigheaaGreatDoor.Ev
