/- arguments and listed variables opened: slices of tokens, ints, strings -/
import Derived.Test.YtlblaopkmigheaaGreatDoorNames
import Derived.Test.YtlblaopkmigheaaGreatDoorMem
import Derived.Deep.Slices
import Derived.Carry
import Derived.ProofKit
import Derived.OpenShut
import Derived.Below
import Derived.ChangeSame
import Derived.ChangeArms
namespace Go.Proofs.YtlblaopkmigheaaGreatDoor
open Go Go.RowKit Go.ChangeShapes Go.WideShapes Go.Deep
set_option maxRecDepth 100000

section
variable {H : Type} {enc : TypeId × Value → H} {P : Program} {w : World} {base : Nat} {spare : Nat → Bool} {held : Bool}

theorem addr_add (b off j : Nat) : (⟨b, off, none⟩ : Addr).add j = ⟨b, off + j, none⟩ := by
  first
    | (simp [Addr.add]; done)
    | (simp [Addr.add]; intro h0; subst h0; rfl)

/-- A slice whose elements read as things of k cells each. -/
theorem open_list {α : Type} (en : α → List Value) (k : Nat) (Q : α → DataW H → Prop) {t e : TypeId} {fuel : Nat} {cs : List Value} {x : DataW H × List MemPlace} (hk0 : 0 < k) (hk : ∀ y, (en y).length = k) (hC : P.cellsOf e = k)
    (hdec : ∀ (n : Nat) (cs' : List Value) (d : DataW H) (pl : List MemPlace), DataW.trod enc P w base spare held n e cs' = some (d, pl) → ∃ y, cs' = en y ∧ Q y d)
    (ht : P.underlying t = some (.slice e)) (h : DataW.trod enc P w base spare held fuel t cs = some x) :
    ∃ (A : Option Addr) (n c : Nat) (l : List α), cs = [.slice A n c] ∧ n ≤ c ∧ c ≤ maxLen ∧ Rd w w.heap.size k A n (cellsOf en l) ∧ l.length = n ∧
      (x.1 = .nil ∧ l = [] ∨ ∃ ds sp, x.1 = .slice ds sp ∧ ds.length = n ∧ ∀ (i : Nat) y, l[i]? = some y → ∃ d, ds[i]? = some d ∧ Q y d) := by
  rcases open_slice ht h with ⟨rfl, rfl⟩ | ⟨a, len, cap, m, n, D, Pl, rfl, _, hl, hm, hmm, rfl, hi⟩
  · exact ⟨none, 0, 0, [], rfl, Nat.le_refl _, by simp [maxLen], Rd.nil, rfl, .inl ⟨rfl, rfl⟩⟩
  · have hlm : len ≤ m := by rw [hmm]; split <;> omega
    have hex : ∀ i, i < len → ∃ y, (∀ j u, (en y)[j]? = some u → w.cell? ((a.add (i * k)).add j) = some u) ∧ Q y (D i) := fun i hil => by
      obtain ⟨cs', hc, htr⟩ := hi i (by omega)
      rw [hC] at hc
      obtain ⟨y, rfl, hq⟩ := hdec n cs' _ _ htr
      obtain ⟨_, hcl, hat⟩ := World.cells?_some hc
      refine ⟨y, fun j u hu => ?_, hq⟩
      have hj : j < k := by rw [← hk y]; exact (List.getElem?_eq_some_iff.1 hu).1
      rw [hat j hj, hu]
    let l : List α := (List.range len).pmap (fun i (h : i < len) => (hex i h).choose) (fun i h => List.mem_range.1 h)
    have hll : l.length = len := by simp [l]
    have hget : ∀ i (h : i < len), l[i]? = some (hex i h).choose := fun i h => by simp [l, h]
    refine ⟨some a, len, cap, l, rfl, hl, hm, ⟨by rw [cellsOf_length hk, hll], fun hn => ?_⟩, hll, .inr ⟨_, _, rfl, by simp, fun i y hy => ?_⟩⟩
    · obtain ⟨b, off, spot⟩ := a
      have h0 := (hex 0 hn).choose_spec.1
      have hlen0 := hk (hex 0 hn).choose
      obtain ⟨u, hu⟩ : ∃ u, (en (hex 0 hn).choose)[0]? = some u := ⟨_, List.getElem?_eq_getElem (by omega)⟩
      have hc0 := h0 0 u hu
      have hspot : spot = none := by simpa [Addr.add] using World.cell?_spot hc0
      subst hspot
      rw [addr_add, addr_add] at hc0
      refine ⟨b, off, rfl, World.block_lt_of_cell? w _ hc0, fun j v hv => ?_⟩
      have hj : j < (cellsOf en l).length := (List.getElem?_eq_some_iff.1 hv).1
      rw [cellsOf_length hk, hll] at hj
      have hjk : j / k < len := Nat.div_lt_of_lt_mul (by rw [Nat.mul_comm]; exact hj)
      have hmod : j % k < k := Nat.mod_lt _ hk0
      have he : j = j / k * k + j % k := by rw [Nat.mul_comm]; exact (Nat.div_add_mod j k).symm
      rw [he, cellsOf_get hk l _ _ hmod, hget _ hjk] at hv
      have := (hex (j / k) hjk).choose_spec.1 (j % k) v hv
      rw [addr_add, addr_add, Nat.add_assoc] at this
      rw [he]
      exact this
    · have hil : i < len := by rw [← hll]; exact (List.getElem?_eq_some_iff.1 hy).1
      rw [hget i hil] at hy
      cases hy
      exact ⟨D i, by simp [hil], (hex i hil).choose_spec.2⟩
def tokData (y : Tok) : DataW H := .agg [.lit (.int .i64 y.kind), .lit (.int .i64 y.int), .lit (.string y.str.data.toList), .agg [.lit (.int .i64 y.pos.line), .lit (.int .i64 y.pos.col)]]
end

theorem cTok : Tryz.prog.cellsOf 144 = 5 := by kernel_rfl
theorem cPos : Tryz.prog.cellsOf 30 = 2 := by kernel_rfl
theorem cInt : Tryz.prog.cellsOf 3 = 1 := by kernel_rfl
theorem cI64 : Tryz.prog.cellsOf 2 = 1 := by kernel_rfl
theorem cStr : Tryz.prog.cellsOf 9 = 1 := by kernel_rfl
theorem laidP : laidOutB Tryz.prog = true := by kernel_rfl

section
variable {H : Type} {enc : TypeId × Value → H} {w : World} {base : Nat} {spare : Nat → Bool} {held : Bool}
theorem dec_tok (n : Nat) (cs : List Value) (d : DataW H) (pl : List MemPlace) (h : DataW.trod enc Tryz.prog w base spare held n 144 cs = some (d, pl)) : ∃ y : Tok, cs = y.cells ∧ d = tokData y := by
  obtain ⟨xs, m, _, hx, hl, hxl, hf⟩ := DataW.trod_struct Tryz.underlying144 h
  rw [cTok] at hl
  match cs, hl, xs, hxl with
  | [c0, c1, c2, c3, c4], _, [x0, x1, x2, x3], _ =>
    have f0 : DataW.trod enc Tryz.prog w base spare held m 3 (([c0, c1, c2, c3, c4].drop 0).take (Tryz.prog.cellsOf 3)) = some x0 := hf 0 _ rfl
    have f1 : DataW.trod enc Tryz.prog w base spare held m 2 (([c0, c1, c2, c3, c4].drop 1).take (Tryz.prog.cellsOf 2)) = some x1 := hf 1 _ rfl
    have f2 : DataW.trod enc Tryz.prog w base spare held m 9 (([c0, c1, c2, c3, c4].drop 2).take (Tryz.prog.cellsOf 9)) = some x2 := hf 2 _ rfl
    have f3 : DataW.trod enc Tryz.prog w base spare held m 30 (([c0, c1, c2, c3, c4].drop 3).take (Tryz.prog.cellsOf 30)) = some x3 := hf 3 _ rfl
    rw [cInt] at f0
    rw [cI64] at f1
    rw [cStr] at f2
    rw [cPos] at f3
    obtain ⟨k, e0, rfl, _⟩ := DataW.trod_int Tryz.underlying3 f0
    obtain ⟨v, e1, rfl, _⟩ := DataW.trod_int Tryz.underlying2 f1
    obtain ⟨s, e2, rfl, _⟩ := DataW.trod_string Tryz.underlying9 f2
    obtain ⟨y0, y1, m2, rfl, _, g0, g1⟩ := trod_struct2 Tryz.underlying30 f3
    (try dsimp only at g0 g1)
    rw [cInt] at g0 g1
    obtain ⟨a, e3, rfl, _⟩ := DataW.trod_int Tryz.underlying3 g0
    obtain ⟨b, e4, rfl, _⟩ := DataW.trod_int Tryz.underlying3 g1
    simp at e0 e1 e2 e3 e4
    subst e0 e1 e2 e3 e4
    simp only [Prod.mk.injEq] at hx
    exact ⟨⟨k, v, s, ⟨a, b⟩⟩, rfl, by rw [hx.1]; rfl⟩
theorem dec_int (n : Nat) (cs : List Value) (d : DataW H) (pl : List MemPlace) (h : DataW.trod enc Tryz.prog w base spare held n 3 cs = some (d, pl)) : ∃ y : Int, cs = icell y ∧ d = .lit (.int .i64 y) := by
  obtain ⟨k, e0, e1, _⟩ := DataW.trod_int Tryz.underlying3 h
  simp only [Prod.mk.injEq] at e1
  exact ⟨k, e0, e1.1⟩
theorem dec_str (n : Nat) (cs : List Value) (d : DataW H) (pl : List MemPlace) (h : DataW.trod enc Tryz.prog w base spare held n 9 cs = some (d, pl)) : ∃ y : ByteArray, cs = scell y ∧ d = .lit (.string y.data.toList) := by
  obtain ⟨k, e0, e1, _⟩ := DataW.trod_string Tryz.underlying9 h
  simp only [Prod.mk.injEq] at e1
  exact ⟨k, e0, e1.1⟩

/-- a listed variable of type []string -/
theorem laid_strs {name : String} {g : Nat} {ls : List (List UInt8)} {rest : List (String × DataW Unit)} {W : World} {ps : List MemPlace} (hg : Tryz.prog.globalNamed name = some g) (hty : (Tryz.prog.globals[g]?).map (·.type) = some 25)
    (h : DataW.LaidVars Tryz.prog W ((name, .slice (ls.map fun b => .lit (.string b)) []) :: rest) ps) : HoldsStrs W.heap.size W g (ls.map bstr) ∧ ∃ q, DataW.LaidVars Tryz.prog W rest q := by
  obtain ⟨g', t', cs, fuel, p, q, hg', ht', hvar, hd, hrest, _⟩ := h
  obtain rfl := Option.some.inj (hg.symm.trans hg')
  obtain rfl := Option.some.inj (hty.symm.trans ht')
  refine ⟨?_, q, hrest⟩
  obtain ⟨A, n, c, l, hcs, _, _, hR, hln, hx⟩ := open_list scell 1 (fun y d => d = .lit (.string y.data.toList)) (by decide) scell_len cStr (fun n cs' d pl hh => dec_str n cs' d pl hh) Tryz.underlying25 hd
  rcases hx with ⟨h0, _⟩ | ⟨ds, sp, h0, hdl, hq⟩
  · cases h0
  · simp only [DataW.slice.injEq] at h0
    obtain ⟨rfl, _⟩ := h0
    have hl : l = ls.map bstr := by
      have hlen : l.length = ls.length := by rw [hln, ← hdl]; simp
      apply List.ext_getElem?
      intro i
      by_cases hi : i < l.length
      · have hy : l[i]? = some l[i] := List.getElem?_eq_getElem hi
        obtain ⟨d, hd1, hd2⟩ := hq i _ hy
        rw [hy]
        simp only [List.getElem?_map, Option.map_eq_some_iff] at hd1 ⊢
        obtain ⟨b, hb, rfl⟩ := hd1
        simp only [DataW.lit.injEq, Lit.string.injEq] at hd2
        rw [hb, hd2]
        simp only [Option.map_some, bstr]
      · rw [List.getElem?_eq_none (by omega), List.getElem?_eq_none (by simp; omega)]
    subst hl
    have hlt : g < W.heap.size := by
      unfold World.var? at hvar
      rw [hg] at hvar
      simp only [Option.bind_some] at hvar
      cases hh : W.heap[g]? with
      | none => rw [hh] at hvar; cases hvar
      | some o => exact (Array.getElem?_eq_some_iff.1 hh).1
    refine ⟨hlt, A, c, ?_, ?_⟩
    · have := World.var?_cell hg hvar 0
      rw [this]
      obtain ⟨cl⟩ := cs
      simp at hcs
      subst hcs
      simp [hln]
    · rw [hln]; exact hR
end

end Go.Proofs.YtlblaopkmigheaaGreatDoor
