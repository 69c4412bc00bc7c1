/- what every card of the seat has in common: the listed variables, a world that holds them, bulk, and the post of a law whose call only makes memory -/
import Derived.Test.YtgfhkaamkodpjaaDoorCards
import Derived.Test.YtgfhkaamkodpjaaDoorTie
import Derived.Test.YtgfhkaamkodpjaaDoorOpen
import Derived.Deep.DeepHandedRow
import Derived.Deep.DeepWitnessRowRef
namespace Go.Proofs.YtgfhkaamkodpjaaDoor
open Go Go.RowKit Go.ChangeShapes Go.WideShapes Go.ChangeAt

theorem own : ownKnob Tryd.prog.godebug = none := by kernel_rfl
theorem gKw : Tryd.prog.globalNamed "cspcheck/lexer.keywords" = some 0 := by kernel_rfl
theorem gSy : Tryd.prog.globalNamed "cspcheck/lexer.symbols" = some 1 := by kernel_rfl
theorem gCl : Tryd.prog.globalNamed "cspcheck/layout.closers" = some 2 := by kernel_rfl
theorem gKwT : (Tryd.prog.globals[0]?).map (·.type) = some 50 := by kernel_rfl
theorem gSyT : (Tryd.prog.globals[1]?).map (·.type) = some 50 := by kernel_rfl
theorem gClT : (Tryd.prog.globals[2]?).map (·.type) = some 50 := by kernel_rfl

/-- what the rows list -/
abbrev laidL : List (String × DataW Unit) := [("cspcheck/lexer.keywords", .slice (kwL.map fun b => .lit (.string b)) []), ("cspcheck/lexer.symbols", .slice (syL.map fun b => .lit (.string b)) []), ("cspcheck/layout.closers", .slice (clL.map fun b => .lit (.string b)) [])]
theorem glob_of {W : World} (h : laidMetH Tryd.prog laidL W) : Glob W.heap.size W := by
  obtain ⟨ps, h1, _⟩ := (show laidMet Tryd.prog laidL W from h)
  obtain ⟨a, q, h2⟩ := laid_strs gKw gKwT h1
  obtain ⟨b, q, h3⟩ := laid_strs gSy gSyT h2
  obtain ⟨c, q, _⟩ := laid_strs gCl gClT h3
  exact { kw := a, sy := b, cl := c, size := Nat.le_refl _ }

/-- A world in which the three variables hold what their initialisers lay. -/
noncomputable def laidWorld (os : Os) : World :=
  let w0 := World.holding Tryd.prog os ⟨#[], #[], []⟩
  let n := w0.heap.size
  let put (h : Array Obj) (g : Nat) (cs : Array Value) : Array Obj := h.modify g fun
    | .cells _ t frozen => .cells cs t frozen
    | o => o
  let h1 := put w0.heap 0 #[.slice (some ⟨n, 0, none⟩) 25 25]
  let h2 := put h1 1 #[.slice (some ⟨n + 1, 0, none⟩) 59 59]
  let h3 := put h2 2 #[.slice (some ⟨n + 2, 0, none⟩) 4 4]
  { w0 with heap := ((h3.push (.cells (kwB.map Value.string).toArray 9)).push (.cells (syB.map Value.string).toArray 9)).push (.cells (clB.map Value.string).toArray 9) }
theorem laid_met (os : Os) (args : Array Value) : laidMet Tryd.prog laidL ((laidWorld os).forCall (fun _ _ => 0) ⟨#[], args, []⟩).memory :=
  laidMet_of_run' 8 (by kernel_rfl) (by kernel_rfl)

theorem part_le {H : Type} {d : DataW H} {l : List (DataW H)} (h : d ∈ l) : Rows.uptoBulk d ≤ Rows.uptoBulkAll l := by
  induction l with
  | nil => cases h
  | cons x r ih =>
    simp only [Rows.uptoBulkAll]
    cases List.mem_cons.1 h with
    | inl e => subst e; omega
    | inr e => have := ih e; omega
theorem one_le {H : Type} (d : DataW H) : 1 ≤ Rows.uptoBulk d := by
  cases d with
  | lit l => cases l <;> simp [Rows.uptoBulk]
  | nil => simp [Rows.uptoBulk]
  | ptr d => simp [Rows.uptoBulk]
  | slice elems spare => simp [Rows.uptoBulk]
  | agg parts => simp [Rows.uptoBulk]
  | iface t d => simp [Rows.uptoBulk]
  | map entries => simp [Rows.uptoBulk]
  | held h => simp [Rows.uptoBulk]
theorem bulk_length {H : Type} (l : List (DataW H)) : l.length ≤ Rows.uptoBulkAll l := by
  induction l with
  | nil => simp [Rows.uptoBulkAll]
  | cons x r ih => have := one_le x; simp only [Rows.uptoBulkAll, List.length_cons]; omega
theorem bulk_tok {H : Type} (y : Tok) : y.str.size ≤ Rows.uptoBulk (tokData (H := H) y) := by
  have : y.str.data.toList.length = y.str.size := blen _
  simp only [tokData, Rows.uptoBulk, Rows.uptoBulkAll]
  omega

/-- an argument that is read: as it read before -/
theorem arg_stays {H : Type} {enc : TypeId × Value → H} {t : TypeId} (hr : Tryd.prog.readableRec t = true) (hrow : t < Tryd.prog.types.size) {W W' : World} {v : Value} {d : DataW H} {ps : List MemPlace}
    (h : DataW.Trod enc Tryd.prog W 0 (fun _ => true) true t v d ps) (hb : Below W.heap.size W W') (hlt : ∀ x ∈ ps, x.block < W.heap.size) (sp : Nat → Bool) (hsp : ∀ x ∈ ps, sp x.block = true) : DataW.Trod enc Tryd.prog W' 0 sp true t v d ps :=
  WideElems.Trod_stays laidP hr hrow h (fun x hx => hb.same (hlt x hx)) hsp

/-- the post of a law, where the call has only made memory -/
theorem post_of_below {H : Type} {enc : TypeId × Value → H} {P : Program} {f : Func} {s : ChangeSpec} {apart fresh handsOn again : Bool} {W W' : World} {args : Array Value} {v : Value} {ds gs : List (DataW H)} {before pa pv : List MemPlace}
    (hW : DataW.Whole enc P f.params.toList s.vars apart W args.toList ds gs before)
    (hres : ∀ (b : Nat) (sp : Nat → Bool) (hd : Bool), DataW.TrodAll enc P W' b sp hd f.resultTypes.toList (v.resultList f.resultTypes.size) (s.fn H (ds ++ gs)).results [])
    (hargs : ∀ sp : Nat → Bool, (∀ p ∈ before, sp p.block = true) → DataW.TrodAll enc P W' 0 sp true f.params.toList args.toList (s.fn H (ds ++ gs)).args pa)
    (hvars : ∀ sp : Nat → Bool, (∀ p ∈ before, sp p.block = true) → DataW.TrodVars enc P W' sp s.vars (s.fn H (ds ++ gs)).vars pv)
    (hps : before = pa ++ pv) (hb : Below W.heap.size W W')
    (hok : ∀ (j : Nat) (t : TypeId) (r : Value), f.resultTypes[j]? = some t → (v.resultList f.resultTypes.size)[j]? = some r → Value.okWide P W' .any 0 t r) :
    s.post enc P f apart fresh handsOn again W args v W' := by
  have hlt : ∀ p ∈ before, p.block < W.heap.size := fun p hp => hW.lt p hp
  have hold : ∀ p ∈ before, (fun b => decide (b < W.heap.size)) p.block = true := fun p hp => by simpa using hlt p hp
  refine ⟨ds, gs, before, [], pa, pv, hW, hres _ _ _, hargs _ hold, hvars _ hold, World.keptBut_mono (fun p hp => ⟨hp, ?_⟩) (hb.frame (· ∈ before)), fun _ => ?_⟩
  · rw [hps, List.mem_append] at hp
    exact Or.inr hp
  · obtain ⟨_, _, _, _, _, hz, hn⟩ := hW
    refine ⟨hok, _, _, ([] ++ pa) ++ pv, ⟨[] ++ pa, pv, trodAll_append (hargs _ (fun _ _ => rfl)) (hres _ _ _), hvars _ (fun _ _ => rfl), rfl, ?_, ?_⟩, ?_⟩
    · intro b off hp
      have hin : MemPlace.cell b off ∈ before := by rw [hps]; simpa using hp
      rw [hb.frozen (hlt _ hin)]
      exact hz b off hin
    · intro ha
      have := hn ha
      rw [hps] at this
      simpa using this
    · intro p hp _
      rw [hps]
      simpa using hp


def bcell (b : Nat) : List Value := [.int .u8 b]
theorem bcell_len (b : Nat) : (bcell b).length = 1 := rfl
theorem Rd.byte {w : World} {B n : Nat} {A : Option Addr} {l : List Nat} (h : Rd w B 1 A n (cellsOf bcell l)) {i : Nat} (hi : i < n) :
    ∃ b off t, A = some ⟨b, off, none⟩ ∧ b < B ∧ l[i]? = some t ∧ w.cell? ⟨b, off + i, none⟩ = some (.int .u8 (t : Nat)) := by
  obtain ⟨b, off, t, e, hb, hl, hc⟩ := h.at_ bcell_len (by decide) hi
  refine ⟨b, off, t, e, hb, hl, ?_⟩
  have := hc 0 _ rfl
  simpa using this
theorem dec_u8 {H : Type} {enc : TypeId × Value → H} {w : World} {base : Nat} {spare : Nat → Bool} {held : Bool} (n : Nat) (cs : List Value) (d : DataW H) (pl : List MemPlace) (h : DataW.trod enc Tryd.prog w base spare held n 5 cs = some (d, pl)) :
    ∃ y : Nat, cs = bcell y ∧ (d = .lit (.int .u8 y) ∧ y < 256) := by
  obtain ⟨k, e0, e1, hw⟩ := DataW.trod_int Tryd.underlying5 h
  simp only [Prod.mk.injEq] at e1
  have h1 : 0 ≤ k ∧ k < 256 := by
    have h2 : (decide (IntKind.u8.min ≤ k) && decide (k ≤ IntKind.u8.max)) = true := hw
    rw [show IntKind.u8.min = 0 by decide, show IntKind.u8.max = 255 by decide] at h2
    simp at h2
    omega
  exact ⟨k.toNat, by rw [e0, bcell, Int.toNat_of_nonneg h1.1], by rw [e1.1, Int.toNat_of_nonneg h1.1], by omega⟩
theorem cU8 : Tryd.prog.cellsOf 5 = 1 := by kernel_rfl

/-- a nil slice has no length and no capacity -/
theorem open_nil {H : Type} {enc : TypeId × Value → H} {P : Program} {w : World} {base : Nat} {spare : Nat → Bool} {held : Bool} {t e : TypeId} {fuel : Nat} {A : Option Addr} {n c : Nat} {x : DataW H × List MemPlace} (ht : P.underlying t = some (.slice e))
    (h : DataW.trod enc P w base spare held fuel t (Value.slice A n c).cells.toList = some x) (hA : A = none) : c = 0 ∧ n = 0 := by
  rcases Deep.open_slice ht h with ⟨h1, _⟩ | ⟨a, len, cap, m, n', D, Pl, h1, _⟩
  · simp [Value.cells] at h1
    exact ⟨h1.2.2, h1.2.1⟩
  · simp [Value.cells] at h1
    rw [hA] at h1
    cases h1.1

end Go.Proofs.YtgfhkaamkodpjaaDoor
