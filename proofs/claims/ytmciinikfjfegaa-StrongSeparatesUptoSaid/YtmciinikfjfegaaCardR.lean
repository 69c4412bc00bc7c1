/- (seat 3) what the claims share: arguments opened (ints, systems), bulk, the post of a law whose call only makes memory -/
import Derived.Test.YtmciinikfjfegaaRwMem
import Derived.Test.YtmciinikfjfegaaRows
import Derived.Deep.Slices
import Derived.Carry
import Derived.WalkKit
import Derived.ProofKit
import Derived.OpenShut
import Derived.Below
import Derived.ChangeSame
import Derived.ChangeArms
import Derived.JoinedCond
namespace Go.Proofs.Ytmciinikfjfegaa
open Go Go.RowKit Go.ChangeShapes Go.WideShapes Go.Deep Go.ChangeAt
set_option maxRecDepth 100000

section
variable {H : Type} {enc : TypeId × Value → H} {P : Program} {w : World} {base : Nat} {spare : Nat → Bool} {held : Bool}

theorem addr_add (b off j : Nat) : (⟨b, off, none⟩ : Addr).add j = ⟨b, off + j, none⟩ := by
  first
    | (simp [Addr.add]; done)
    | (simp [Addr.add]; intro h0; subst h0; rfl)

/-- A slice whose elements read as things of k cells each. -/
theorem open_list {α : Type} (en : α → List Value) (k : Nat) (Q : α → DataW H → Prop) {t e : TypeId} {fuel : Nat} {cs : List Value} {x : DataW H × List MemPlace} (hk0 : 0 < k) (hk : ∀ y, (en y).length = k) (hC : P.cellsOf e = k)
    (hdec : ∀ (n : Nat) (cs' : List Value) (d : DataW H) (pl : List MemPlace), DataW.trod enc P w base spare held n e cs' = some (d, pl) → ∃ y, cs' = en y ∧ Q y d)
    (ht : P.underlying t = some (.slice e)) (h : DataW.trod enc P w base spare held fuel t cs = some x) :
    ∃ (A : Option Addr) (n c : Nat) (l : List α), cs = [.slice A n c] ∧ n ≤ c ∧ c ≤ maxLen ∧ Rd w w.heap.size k A n (cellsOf en l) ∧ l.length = n ∧
      (x.1 = .nil ∧ l = [] ∨ ∃ ds sp, x.1 = .slice ds sp ∧ ds.length = n ∧ ∀ (i : Nat) y, l[i]? = some y → ∃ d, ds[i]? = some d ∧ Q y d) := by
  rcases open_slice ht h with ⟨rfl, rfl⟩ | ⟨a, len, cap, m, n, D, Pl, rfl, _, hl, hm, hmm, rfl, hi⟩
  · exact ⟨none, 0, 0, [], rfl, Nat.le_refl _, by simp [maxLen], Rd.nil, rfl, .inl ⟨rfl, rfl⟩⟩
  · have hlm : len ≤ m := by rw [hmm]; split <;> omega
    have hex : ∀ i, i < len → ∃ y, (∀ j u, (en y)[j]? = some u → w.cell? ((a.add (i * k)).add j) = some u) ∧ Q y (D i) := fun i hil => by
      obtain ⟨cs', hc, htr⟩ := hi i (by omega)
      rw [hC] at hc
      obtain ⟨y, rfl, hq⟩ := hdec n cs' _ _ htr
      obtain ⟨_, hcl, hat⟩ := World.cells?_some hc
      refine ⟨y, fun j u hu => ?_, hq⟩
      have hj : j < k := by rw [← hk y]; exact (List.getElem?_eq_some_iff.1 hu).1
      rw [hat j hj, hu]
    let l : List α := (List.range len).pmap (fun i (h : i < len) => (hex i h).choose) (fun i h => List.mem_range.1 h)
    have hll : l.length = len := by simp [l]
    have hget : ∀ i (h : i < len), l[i]? = some (hex i h).choose := fun i h => by simp [l, h]
    refine ⟨some a, len, cap, l, rfl, hl, hm, ⟨by rw [cellsOf_length hk, hll], fun hn => ?_⟩, hll, .inr ⟨_, _, rfl, by simp, fun i y hy => ?_⟩⟩
    · obtain ⟨b, off, spot⟩ := a
      have h0 := (hex 0 hn).choose_spec.1
      have hlen0 := hk (hex 0 hn).choose
      obtain ⟨u, hu⟩ : ∃ u, (en (hex 0 hn).choose)[0]? = some u := ⟨_, List.getElem?_eq_getElem (by omega)⟩
      have hc0 := h0 0 u hu
      have hspot : spot = none := by simpa [Addr.add] using World.cell?_spot hc0
      subst hspot
      rw [addr_add, addr_add] at hc0
      refine ⟨b, off, rfl, World.block_lt_of_cell? w _ hc0, fun j v hv => ?_⟩
      have hj : j < (cellsOf en l).length := (List.getElem?_eq_some_iff.1 hv).1
      rw [cellsOf_length hk, hll] at hj
      have hjk : j / k < len := Nat.div_lt_of_lt_mul (by rw [Nat.mul_comm]; exact hj)
      have hmod : j % k < k := Nat.mod_lt _ hk0
      have he : j = j / k * k + j % k := by rw [Nat.mul_comm]; exact (Nat.div_add_mod j k).symm
      rw [he, cellsOf_get hk l _ _ hmod, hget _ hjk] at hv
      have := (hex (j / k) hjk).choose_spec.1 (j % k) v hv
      rw [addr_add, addr_add, Nat.add_assoc] at this
      rw [he]
      exact this
    · have hil : i < len := by rw [← hll]; exact (List.getElem?_eq_some_iff.1 hy).1
      rw [hget i hil] at hy
      cases hy
      exact ⟨D i, by simp [hil], (hex i hil).choose_spec.2⟩
end

theorem own : ownKnob Try.prog.godebug = none := by kernel_rfl
theorem cInt : Try.prog.cellsOf 3 = 1 := by kernel_rfl
theorem cArc : Try.prog.cellsOf 23 = 2 := by kernel_rfl
theorem cRow : Try.prog.cellsOf 24 = 1 := by kernel_rfl
theorem cRows : Try.prog.cellsOf 25 = 1 := by kernel_rfl
theorem cLts : Try.prog.cellsOf 27 = 1 := by kernel_rfl
theorem laidP : laidOutB Try.prog = true := by kernel_rfl

theorem part_le {H : Type} {d : DataW H} {l : List (DataW H)} (h : d ∈ l) : Rows.uptoBulk d ≤ Rows.uptoBulkAll l := by
  induction l with
  | nil => cases h
  | cons x r ih =>
    simp only [Rows.uptoBulkAll]
    cases List.mem_cons.1 h with
    | inl e => subst e; omega
    | inr e => have := ih e; omega
theorem one_le {H : Type} (d : DataW H) : 1 ≤ Rows.uptoBulk d := by
  cases d with
  | lit l => cases l <;> simp [Rows.uptoBulk]
  | nil => simp [Rows.uptoBulk]
  | ptr d => simp [Rows.uptoBulk]
  | slice elems spare => simp [Rows.uptoBulk]
  | agg parts => simp [Rows.uptoBulk]
  | iface t d => simp [Rows.uptoBulk]
  | map entries => simp [Rows.uptoBulk]
  | held h => simp [Rows.uptoBulk]
theorem bulk_length {H : Type} (l : List (DataW H)) : l.length ≤ Rows.uptoBulkAll l := by
  induction l with
  | nil => simp [Rows.uptoBulkAll]
  | cons x r ih => have := one_le x; simp only [Rows.uptoBulkAll, List.length_cons]; omega
/-- an argument that is read: as it read before -/
theorem arg_stays {H : Type} {enc : TypeId × Value → H} {t : TypeId} (hr : Try.prog.readableRec t = true) (hrow : t < Try.prog.types.size) {W W' : World} {v : Value} {d : DataW H} {ps : List MemPlace}
    (h : DataW.Trod enc Try.prog W 0 (fun _ => true) true t v d ps) (hb : Below W.heap.size W W') (hlt : ∀ x ∈ ps, x.block < W.heap.size) (sp : Nat → Bool) (hsp : ∀ x ∈ ps, sp x.block = true) : DataW.Trod enc Try.prog W' 0 sp true t v d ps :=
  WideElems.Trod_stays laidP hr hrow h (fun x hx => hb.same (hlt x hx)) hsp

/-- the post of a law, where the call has only made memory -/
theorem post_of_below {H : Type} {enc : TypeId × Value → H} {P : Program} {f : Func} {s : ChangeSpec} {apart fresh handsOn again : Bool} {W W' : World} {args : Array Value} {v : Value} {ds gs : List (DataW H)} {before pa pv : List MemPlace}
    (hW : DataW.Whole enc P f.params.toList s.vars apart W args.toList ds gs before)
    (hres : ∀ (b : Nat) (sp : Nat → Bool) (hd : Bool), DataW.TrodAll enc P W' b sp hd f.resultTypes.toList (v.resultList f.resultTypes.size) (s.fn H (ds ++ gs)).results [])
    (hargs : ∀ sp : Nat → Bool, (∀ p ∈ before, sp p.block = true) → DataW.TrodAll enc P W' 0 sp true f.params.toList args.toList (s.fn H (ds ++ gs)).args pa)
    (hvars : ∀ sp : Nat → Bool, (∀ p ∈ before, sp p.block = true) → DataW.TrodVars enc P W' sp s.vars (s.fn H (ds ++ gs)).vars pv)
    (hps : before = pa ++ pv) (hb : Below W.heap.size W W')
    (hok : ∀ (j : Nat) (t : TypeId) (r : Value), f.resultTypes[j]? = some t → (v.resultList f.resultTypes.size)[j]? = some r → Value.okWide P W' .any 0 t r) :
    s.post enc P f apart fresh handsOn again W args v W' := by
  have hlt : ∀ p ∈ before, p.block < W.heap.size := fun p hp => hW.lt p hp
  have hold : ∀ p ∈ before, (fun b => decide (b < W.heap.size)) p.block = true := fun p hp => by simpa using hlt p hp
  refine ⟨ds, gs, before, [], pa, pv, hW, hres _ _ _, hargs _ hold, hvars _ hold, World.keptBut_mono (fun p hp => ⟨hp, ?_⟩) (hb.frame (· ∈ before)), fun _ => ?_⟩
  · rw [hps, List.mem_append] at hp
    exact Or.inr hp
  · obtain ⟨_, _, _, _, _, hz, hn⟩ := hW
    refine ⟨hok, _, _, ([] ++ pa) ++ pv, ⟨[] ++ pa, pv, trodAll_append (hargs _ (fun _ _ => rfl)) (hres _ _ _), hvars _ (fun _ _ => rfl), rfl, ?_, ?_⟩, ?_⟩
    · intro b off hp
      have hin : MemPlace.cell b off ∈ before := by rw [hps]; simpa using hp
      rw [hb.frozen (hlt _ hin)]
      exact hz b off hin
    · intro ha
      have := hn ha
      rw [hps] at this
      simpa using this
    · intro p hp _
      rw [hps]
      simpa using hp


theorem open_nil {H : Type} {enc : TypeId × Value → H} {P : Program} {w : World} {base : Nat} {spare : Nat → Bool} {held : Bool} {t e : TypeId} {fuel : Nat} {A : Option Addr} {n c : Nat} {x : DataW H × List MemPlace} (ht : P.underlying t = some (.slice e))
    (h : DataW.trod enc P w base spare held fuel t (Value.slice A n c).cells.toList = some x) (hA : A = none) : c = 0 ∧ n = 0 := by
  rcases Deep.open_slice ht h with ⟨h1, _⟩ | ⟨a, len, cap, m, n', D, Pl, h1, _⟩
  · simp [Value.cells] at h1
    exact ⟨h1.2.2, h1.2.1⟩
  · simp [Value.cells] at h1
    rw [hA] at h1
    cases h1.1


/-- a row as a value -/
structure RowV where
  A : Option Addr
  n : Nat
  c : Nat
  l : List Arc
def RowV.cells (r : RowV) : List Value := [.slice r.A r.n r.c]
theorem RowV.cells_len (r : RowV) : r.cells.length = 1 := rfl
section
variable {H : Type} {enc : TypeId × Value → H} {w : World} {base : Nat} {spare : Nat → Bool} {held : Bool}
theorem dec_int (n : Nat) (cs : List Value) (d : DataW H) (pl : List MemPlace) (h : DataW.trod enc Try.prog w base spare held n 3 cs = some (d, pl)) : ∃ y : Int, cs = icell y ∧ d = .lit (.int .i64 y) := by
  obtain ⟨k, e0, e1, _⟩ := DataW.trod_int Try.underlying3 h
  simp only [Prod.mk.injEq] at e1
  exact ⟨k, e0, e1.1⟩
theorem dec_arc (n : Nat) (cs : List Value) (d : DataW H) (pl : List MemPlace) (h : DataW.trod enc Try.prog w base spare held n 23 cs = some (d, pl)) : ∃ y : Arc, cs = y.cells ∧ True := by
  have hcl := h
  obtain ⟨y0, y1, m2, _, hl, g0, g1⟩ := trod_struct2 Try.underlying23 h
  (try dsimp only at g0 g1)
  rw [cArc] at hl
  rw [cInt] at g0 g1
  obtain ⟨a, e3, _, _⟩ := DataW.trod_int Try.underlying3 g0
  obtain ⟨b, e4, _, _⟩ := DataW.trod_int Try.underlying3 g1
  match cs, hl with
  | [c0, c1], _ =>
    simp at e3 e4
    subst e3 e4
    exact ⟨⟨a, b⟩, rfl, trivial⟩
theorem dec_row (n : Nat) (cs : List Value) (d : DataW H) (pl : List MemPlace) (h : DataW.trod enc Try.prog w base spare held n 24 cs = some (d, pl)) :
    ∃ y : RowV, cs = y.cells ∧ Rd w w.heap.size 2 y.A y.n (cellsOf Arc.cells y.l) ∧ y.n ≤ Rows.uptoBulk d := by
  obtain ⟨A, n', c, l, rfl, _, _, hR, hln, hx⟩ := open_list Arc.cells 2 (fun _ _ => True) (by decide) Arc.cells_len cArc (fun n cs' d pl hh => dec_arc n cs' d pl hh) Try.underlying24 h
  refine ⟨⟨A, n', c, l⟩, rfl, hR, ?_⟩
  rcases hx with ⟨_, rfl⟩ | ⟨es, sp, e0, hdl, _⟩
  · rw [← hln]; simp
  · dsimp only at e0
    rw [e0]
    simp only [Rows.uptoBulk]
    have h2 := bulk_length es
    omega
theorem dec_rows (n : Nat) (cs : List Value) (x : DataW H × List MemPlace) (h : DataW.trod enc Try.prog w base spare held n 25 cs = some x) :
    ∃ (A : Option Addr) (n' c' : Nat) (ls : List (List Arc)), cs = [.slice A n' c'] ∧ RdL w w.heap.size A n' ls ∧ n' ≤ Rows.uptoBulk x.1 ∧ ∀ l ∈ ls, l.length ≤ Rows.uptoBulk x.1 := by
  obtain ⟨A, n', c, l, rfl, _, _, hR, hln, hx⟩ := open_list RowV.cells 1 (fun (y : RowV) d => Rd w w.heap.size 2 y.A y.n (cellsOf Arc.cells y.l) ∧ y.n ≤ Rows.uptoBulk d) (by decide) RowV.cells_len cRow (fun n cs' d pl hh => dec_row n cs' d pl hh) Try.underlying25 h
  rcases hx with ⟨_, rfl⟩ | ⟨es, sp, e0, hdl, hq⟩
  · simp at hln
    subst hln
    exact ⟨A, 0, c, [], rfl, RdL.nil, Nat.zero_le _, fun l hl => by cases hl⟩
  · have hcell : ∀ i (y : RowV), l[i]? = some y → (cellsOf RowV.cells l)[i]? = some (Value.slice y.A y.n y.c) := fun i y hy => by
      have := cellsOf_get RowV.cells_len l i 0 (by decide)
      simp only [Nat.mul_one, Nat.add_zero] at this
      rw [this, hy]
      rfl
    refine ⟨A, n', c, l.map RowV.l, rfl, ⟨cellsOf RowV.cells l, hR, by simp [hln], fun i r hr => ?_⟩, ?_, fun r hr => ?_⟩
    · rw [List.getElem?_map] at hr
      cases hy : l[i]? with
      | none => rw [hy] at hr; cases hr
      | some y =>
        rw [hy] at hr
        obtain ⟨d, hd1, hd2, _⟩ := hq i y hy
        have : y.l = r := by simpa using hr
        subst this
        exact ⟨y.A, y.n, y.c, hcell i y hy, hd2⟩
    · rw [e0]
      simp only [Rows.uptoBulk]
      have h2 := bulk_length es
      omega
    · obtain ⟨y, hy, rfl⟩ := List.mem_map.1 hr
      obtain ⟨i, hi, rfl⟩ := List.getElem_of_mem hy
      obtain ⟨d, hd1, hd2, hd3⟩ := hq i _ (List.getElem?_eq_getElem hi)
      have h3 := part_le (List.mem_of_getElem? hd1)
      rw [hd2.len Arc.cells_len (by decide), e0]
      simp only [Rows.uptoBulk]
      omega
theorem dec_lts (n : Nat) (cs : List Value) (x : DataW H × List MemPlace) (h : DataW.trod enc Try.prog w base spare held n 27 cs = some x) :
    ∃ (A : Option Addr) (n' c' : Nat) (ls : List (List Arc)), cs = [.slice A n' c'] ∧ RdL w w.heap.size A n' ls ∧ n' ≤ Rows.uptoBulk x.1 ∧ ∀ l ∈ ls, l.length ≤ Rows.uptoBulk x.1 := by
  obtain ⟨xs, m, _, hx, hl, hxl, hf⟩ := DataW.trod_struct Try.underlying27 h
  rw [cLts] at hl
  match cs, hl, xs, hxl with
  | [c0], _, [x0], _ =>
    have f0 : DataW.trod enc Try.prog w base spare held m 25 (([c0].drop 0).take (Try.prog.cellsOf 25)) = some x0 := hf 0 _ rfl
    rw [cRows] at f0
    obtain ⟨A, n', c', ls, e, h1, h2, h3⟩ := dec_rows _ _ _ f0
    have hb : Rows.uptoBulk x0.1 ≤ Rows.uptoBulk x.1 := by
      rw [hx]
      simp only [Rows.uptoBulk, Rows.uptoBulkAll, List.map_cons, List.map_nil]
      omega
    exact ⟨A, n', c', ls, e, h1, by omega, fun l hl => Nat.le_trans (h3 l hl) hb⟩
end

end Go.Proofs.Ytmciinikfjfegaa
