/- (the seat of ScopeBuiltins) a world that holds the listed variables is a first heap of the evaluator -/
import Derived.Test.YtlblaopkmigheaaGreatDoorEvL0
namespace Go.Proofs.YtlblaopkmigheaaGreatDoor
open Go Go.RowKit Go.ChangeShapes Go.WideShapes Go.Deep
set_option maxRecDepth 100000

/-- A listed variable that holds a slice. -/
theorem laid_gi {α : Type} (en : α → List Value) (k : Nat) (dat : α → DataW Unit) {name : String} {g d : Nat} {ti te : TypeId} {rest : List (String × DataW Unit)} {W : World} {ps : List MemPlace} (hk0 : 0 < k) (hlen : ∀ y, (en y).length = k)
    (hdec : ∀ (enc : TypeId × Value → Unit) (base : Nat) (spare : Nat → Bool) (held : Bool) (n : Nat) (cs' : List Value) (dd : DataW Unit) (pl : List MemPlace), DataW.trod enc Tryz.prog W base spare held n te cs' = some (dd, pl) → ∃ y, cs' = en y ∧ dd = dat y)
    (hinj : ∀ y z, dat y = dat z → y = z) (hu : Tryz.prog.underlying ti = some (.slice te)) (hC : Tryz.prog.cellsOf te = k) (hg : Tryz.prog.globalNamed name = some g) (hty : (Tryz.prog.globals[g]?).map (·.type) = some ti) (ls : List α)
    (h : DataW.LaidVars Tryz.prog W ((name, .slice (ls.map dat) []) :: rest) ps) (hpos : 0 < ls.length) {cells : Ev.AV} (hl : cells = Ev.avList ((cellsOf en ls).map Ev.avOne)) :
    (Ev.GI.mk g d ls.length k cells).holds W ∧ ∃ q, DataW.LaidVars Tryz.prog W rest q := by
  obtain ⟨g', t', cs, fuel, p, q, hg', ht', hvar, hd, hrest, _⟩ := h
  obtain rfl := Option.some.inj (hg.symm.trans hg')
  obtain rfl := Option.some.inj (hty.symm.trans ht')
  refine ⟨?_, q, hrest⟩
  obtain ⟨A, n, c, l, hcs, hnc, _, hR, hln, hx⟩ := open_list en k (fun y d => d = dat y) hk0 hlen hC (fun n cs' d pl hh => hdec _ _ _ _ n cs' d pl hh) hu hd
  rcases hx with ⟨h0, _⟩ | ⟨ds, sp, h0, hdl, hq⟩
  · cases h0
  · simp only [DataW.slice.injEq] at h0
    obtain ⟨rfl, _⟩ := h0
    have hll : l = ls := by
      have hlen : l.length = ls.length := by rw [hln, ← hdl]; simp
      apply List.ext_getElem?
      intro i
      by_cases hi : i < l.length
      · have hy : l[i]? = some l[i] := List.getElem?_eq_getElem hi
        obtain ⟨d, hd1, hd2⟩ := hq i _ hy
        rw [hy]
        simp only [List.getElem?_map, Option.map_eq_some_iff] at hd1
        obtain ⟨b, hb, rfl⟩ := hd1
        rw [hb, hinj _ _ hd2]
      · rw [List.getElem?_eq_none (by omega), List.getElem?_eq_none (by omega)]
    subst hll
    have hcell : W.cell? ⟨g, 0, none⟩ = some (.slice A n c) := by
      have := World.var?_cell hg hvar 0
      rw [this]
      obtain ⟨cl⟩ := cs
      simp at hcs
      subst hcs
      simp
    rw [hln]
    exact gi_of hcell hnc hR (by rw [cellsOf_length hlen, hln]) (Nat.mul_pos (by omega) hk0) hl

theorem gKw : Tryz.prog.globalNamed "cspcheck/lexer.keywords" = some 1 := by kernel_rfl
theorem gSy : Tryz.prog.globalNamed "cspcheck/lexer.symbols" = some 2 := by kernel_rfl
theorem gBu : Tryz.prog.globalNamed "cspcheck/scope.builtins" = some 0 := by kernel_rfl
theorem gKwT : (Tryz.prog.globals[1]?).map (·.type) = some 25 := by kernel_rfl
theorem gSyT : (Tryz.prog.globals[2]?).map (·.type) = some 25 := by kernel_rfl
theorem gBuT : (Tryz.prog.globals[0]?).map (·.type) = some 28 := by kernel_rfl

abbrev laidL : List (String × DataW Unit) := [("unicode/utf8.acceptRanges", Rows.laid_unicode_utf8_acceptRanges), ("cspcheck/lexer.keywords", Rows.laid_cspcheck_lexer_keywords), ("cspcheck/lexer.symbols", Rows.laid_cspcheck_lexer_symbols), ("cspcheck/scope.builtins", Rows.laid_cspcheck_scope_builtins), ("unicode/utf8.first", Rows.laid_unicode_utf8_first)]
theorem laid_tail {P : Program} {x : String × DataW Unit} {r : List (String × DataW Unit)} {W : World} (h : laidMet P (x :: r) W) : laidMet P r W := by
  obtain ⟨ps, ⟨g, t, cs, fu, p, q, h1, h2, h3, h4, h5, rfl⟩, h6, h7⟩ := h
  exact ⟨q, h5, (List.nodup_append.1 h6).2.1, fun b off hm => h7 b off (List.mem_append_right _ hm)⟩
def sdat (y : ByteArray) : DataW Unit := .lit (.string y.data.toList)
def budat (y : ByteArray × Int × Int × Int) : DataW Unit := .agg [.lit (.string y.1.data.toList), .lit (.int .i64 y.2.1), .lit (.int .i64 y.2.2.1), .lit (.int .i64 y.2.2.2)]
theorem ba_inj {y z : ByteArray} (h : y.data.toList = z.data.toList) : y = z := by
  obtain ⟨⟨a⟩⟩ := y; obtain ⟨⟨b⟩⟩ := z
  simp at h
  subst h; rfl
theorem sdat_inj (y z : ByteArray) (h : sdat y = sdat z) : y = z := by
  simp only [sdat, DataW.lit.injEq, Lit.string.injEq] at h
  exact ba_inj h
theorem budat_inj (y z : ByteArray × Int × Int × Int) (h : budat y = budat z) : y = z := by
  obtain ⟨y1, y2, y3, y4⟩ := y
  obtain ⟨z1, z2, z3, z4⟩ := z
  simp only [budat, DataW.agg.injEq, List.cons.injEq, DataW.lit.injEq, Lit.string.injEq, Lit.int.injEq, true_and, and_true] at h
  obtain ⟨h1, h2, h3, h4⟩ := h
  rw [ba_inj h1, h2, h3, h4]
theorem kw_data : (Rows.laid_cspcheck_lexer_keywords : DataW Unit) = .slice (kwB.map sdat) [] := by rfl
theorem sy_data : (Rows.laid_cspcheck_lexer_symbols : DataW Unit) = .slice (syB.map sdat) [] := by rfl
theorem bu_data : (Rows.laid_cspcheck_scope_builtins : DataW Unit) = .slice ((buL.map buOf).map budat) [] := by rfl
theorem all3 {α : Type} {p : α → Prop} {a b c : α} (ha : p a) (hb : p b) (hc : p c) : ∀ i ∈ [a, b, c], p i := by
  intro i hi
  rcases List.mem_cons.1 hi with rfl | hi
  · exact ha
  rcases List.mem_cons.1 hi with rfl | hi
  · exact hb
  rcases List.mem_cons.1 hi with rfl | hi
  · exact hc
  · cases hi

theorem gis_hold {W : World} (h : laidMetH Tryz.prog laidL W) : ∀ i ∈ gis, i.holds W := by
  have h0 : laidMet Tryz.prog laidL W := h
  obtain ⟨ps, h1, _⟩ := laid_tail h0
  rw [kw_data, sy_data, bu_data] at h1
  have key : ∀ c1 c2 c3, c1 = Ev.avList ((cellsOf scell kwB).map Ev.avOne) → c2 = Ev.avList ((cellsOf scell syB).map Ev.avOne) → c3 = Ev.avList ((cellsOf bucell (buL.map buOf)).map Ev.avOne) →
      (Ev.GI.mk 0 63 25 4 c3).holds W ∧ (Ev.GI.mk 1 62 25 1 c1).holds W ∧ (Ev.GI.mk 2 61 59 1 c2).holds W := by
    intro c1 c2 c3 e1 e2 e3
    obtain ⟨k1, q, h2⟩ := laid_gi (d := 62) scell 1 sdat (by decide) scell_len (fun _ _ _ _ n cs' d pl hh => dec_str n cs' d pl hh) sdat_inj Tryz.underlying25 cStr gKw gKwT kwB h1 (by decide) e1
    obtain ⟨k2, q, h3⟩ := laid_gi (d := 61) scell 1 sdat (by decide) scell_len (fun _ _ _ _ n cs' d pl hh => dec_str n cs' d pl hh) sdat_inj Tryz.underlying25 cStr gSy gSyT syB h2 (by decide) e2
    obtain ⟨k3, q, _⟩ := laid_gi (d := 63) bucell 4 budat (by decide) (fun _ => rfl) (fun _ _ _ _ n cs' d pl hh => dec_sym n cs' d pl hh) budat_inj Tryz.underlying28 cSym gBu gBuT (buL.map buOf) h3 (by decide) e3
    exact ⟨k3, k1, k2⟩
  show ∀ i ∈ gis, i.holds W
  unfold gis
  obtain ⟨a, b, c⟩ := key _ _ _ rfl rfl rfl
  refine all3 ?_ ?_ ?_
  · refine (key _ _ _ rfl rfl ?_).1
    kernel_rfl
  · refine (key _ _ _ ?_ rfl rfl).2.1
    kernel_rfl
  · refine (key _ _ _ rfl ?_ rfl).2.2
    kernel_rfl
end Go.Proofs.YtlblaopkmigheaaGreatDoor
