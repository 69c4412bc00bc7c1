/- ScopeRenaming, for every input of bulk at most 1048576: renaming a bound variable consistently changes no number; true, and the arguments read as before. Conditions: the listed variables as the program's text lays them; the bound. -/
import Derived.Test.YtlblaopkmigheaaGreatDoorCards
import Derived.Test.YtlblaopkmigheaaGreatDoorTie
import Derived.Test.YtlblaopkmigheaaGreatDoorEvL1
import Derived.Test.YtlblaopkmigheaaGreatDoorRr
import Derived.Test.YtlblaopkmigheaaGreatDoorEvJRn
import Derived.Test.YtlblaopkmigheaaGreatDoorEvJ2Rn
import Derived.Deep.DeepHandedRow
import Derived.Deep.DeepWitnessRowRef
import Derived.Stop.LaidErr
import Derived.LaidLaws
namespace Go.Proofs.YtlblaopkmigheaaGreatDoor
open Go Go.RowKit Go.ChangeShapes Go.WideShapes Go.ChangeAt

theorem own : ownKnob Tryz.prog.godebug = none := by kernel_rfl
/-- A world in which the variables hold what their initialisers lay. -/
def litVal : DataW Unit → Value
  | .lit (.int k n) => .int k n
  | _ => undef
def litCells : DataW Unit → List Value
  | .agg l => l.flatMap fun d => match d with
    | .agg m => m.map litVal
    | d => [litVal d]
  | _ => []
noncomputable def laidWorld (os : Os) : World :=
  let w0 := World.holding Tryz.prog os ⟨#[], #[], []⟩
  let n := w0.heap.size
  let put (h : Array Obj) (g : Nat) (cs : Array Value) : Array Obj := h.modify g fun
    | .cells _ t frozen => .cells cs t frozen
    | o => o
  let h1 := put w0.heap 1 #[.slice (some ⟨n, 0, none⟩) 25 25]
  let h2 := put h1 2 #[.slice (some ⟨n + 1, 0, none⟩) 59 59]
  let h3 := put h2 0 #[.slice (some ⟨n + 2, 0, none⟩) 25 25]
  let h4 := put h3 5 (litCells Rows.laid_unicode_utf8_acceptRanges).toArray
  let h5 := put h4 4 (litCells Rows.laid_unicode_utf8_first).toArray
  { w0 with heap := ((h5.push (.cells (kwB.map Value.string).toArray 9)).push (.cells (syB.map Value.string).toArray 9)).push (.cells (cellsOf bucell (buL.map buOf)).toArray 41) }
theorem laid_met (os : Os) (args : Array Value) : laidMet Tryz.prog laidL ((laidWorld os).forCall (fun _ _ => 0) ⟨#[], args, []⟩).memory :=
  laidMet_of_run' 8 (by kernel_rfl) (by kernel_rfl)

theorem part_le {H : Type} {d : DataW H} {l : List (DataW H)} (h : d ∈ l) : Rows.uptoBulk d ≤ Rows.uptoBulkAll l := by
  induction l with
  | nil => cases h
  | cons x r ih =>
    simp only [Rows.uptoBulkAll]
    cases List.mem_cons.1 h with
    | inl e => subst e; omega
    | inr e => have := ih e; omega
theorem one_le {H : Type} (d : DataW H) : 1 ≤ Rows.uptoBulk d := by
  cases d with
  | lit l => cases l <;> simp [Rows.uptoBulk]
  | nil => simp [Rows.uptoBulk]
  | ptr d => simp [Rows.uptoBulk]
  | slice elems spare => simp [Rows.uptoBulk]
  | agg parts => simp [Rows.uptoBulk]
  | iface t d => simp [Rows.uptoBulk]
  | map entries => simp [Rows.uptoBulk]
  | held h => simp [Rows.uptoBulk]
theorem bulk_length {H : Type} (l : List (DataW H)) : l.length ≤ Rows.uptoBulkAll l := by
  induction l with
  | nil => simp [Rows.uptoBulkAll]
  | cons x r ih => have := one_le x; simp only [Rows.uptoBulkAll, List.length_cons]; omega
theorem bulk_tok {H : Type} (y : Tok) : y.str.size ≤ Rows.uptoBulk (tokData (H := H) y) := by
  have : y.str.data.toList.length = y.str.size := blen _
  simp only [tokData, Rows.uptoBulk, Rows.uptoBulkAll]
  omega

/-- an argument that is read: as it read before -/
theorem arg_stays {H : Type} {enc : TypeId × Value → H} {t : TypeId} (hr : Tryz.prog.readableRec t = true) (hrow : t < Tryz.prog.types.size) {W W' : World} {v : Value} {d : DataW H} {ps : List MemPlace}
    (h : DataW.Trod enc Tryz.prog W 0 (fun _ => true) true t v d ps) (hb : Below W.heap.size W W') (hlt : ∀ x ∈ ps, x.block < W.heap.size) (sp : Nat → Bool) (hsp : ∀ x ∈ ps, sp x.block = true) : DataW.Trod enc Tryz.prog W' 0 sp true t v d ps :=
  WideElems.Trod_stays laidP hr hrow h (fun x hx => hb.same (hlt x hx)) hsp

/-- the post of a law, where the call has only made memory -/
theorem post_of_below {H : Type} {enc : TypeId × Value → H} {P : Program} {f : Func} {s : ChangeSpec} {apart fresh handsOn again : Bool} {W W' : World} {args : Array Value} {v : Value} {ds gs : List (DataW H)} {before pa pv : List MemPlace}
    (hW : DataW.Whole enc P f.params.toList s.vars apart W args.toList ds gs before)
    (hres : ∀ (b : Nat) (sp : Nat → Bool) (hd : Bool), DataW.TrodAll enc P W' b sp hd f.resultTypes.toList (v.resultList f.resultTypes.size) (s.fn H (ds ++ gs)).results [])
    (hargs : ∀ sp : Nat → Bool, (∀ p ∈ before, sp p.block = true) → DataW.TrodAll enc P W' 0 sp true f.params.toList args.toList (s.fn H (ds ++ gs)).args pa)
    (hvars : ∀ sp : Nat → Bool, (∀ p ∈ before, sp p.block = true) → DataW.TrodVars enc P W' sp s.vars (s.fn H (ds ++ gs)).vars pv)
    (hps : before = pa ++ pv) (hb : Below W.heap.size W W')
    (hok : ∀ (j : Nat) (t : TypeId) (r : Value), f.resultTypes[j]? = some t → (v.resultList f.resultTypes.size)[j]? = some r → Value.okWide P W' .any 0 t r) :
    s.post enc P f apart fresh handsOn again W args v W' := by
  have hlt : ∀ p ∈ before, p.block < W.heap.size := fun p hp => hW.lt p hp
  have hold : ∀ p ∈ before, (fun b => decide (b < W.heap.size)) p.block = true := fun p hp => by simpa using hlt p hp
  refine ⟨ds, gs, before, [], pa, pv, hW, hres _ _ _, hargs _ hold, hvars _ hold, World.keptBut_mono (fun p hp => ⟨hp, ?_⟩) (hb.frame (· ∈ before)), fun _ => ?_⟩
  · rw [hps, List.mem_append] at hp
    exact Or.inr hp
  · obtain ⟨_, _, _, _, _, hz, hn⟩ := hW
    refine ⟨hok, _, _, ([] ++ pa) ++ pv, ⟨[] ++ pa, pv, trodAll_append (hargs _ (fun _ _ => rfl)) (hres _ _ _), hvars _ (fun _ _ => rfl), rfl, ?_, ?_⟩, ?_⟩
    · intro b off hp
      have hin : MemPlace.cell b off ∈ before := by rw [hps]; simpa using hp
      rw [hb.frozen (hlt _ hin)]
      exact hz b off hin
    · intro ha
      have := hn ha
      rw [hps] at this
      simpa using this
    · intro p hp _
      rw [hps]
      simpa using hp


def bcell (b : Nat) : List Value := [.int .u8 b]
theorem bcell_len (b : Nat) : (bcell b).length = 1 := rfl
theorem Rd.byte {w : World} {B n : Nat} {A : Option Addr} {l : List Nat} (h : Rd w B 1 A n (cellsOf bcell l)) {i : Nat} (hi : i < n) :
    ∃ b off t, A = some ⟨b, off, none⟩ ∧ b < B ∧ l[i]? = some t ∧ w.cell? ⟨b, off + i, none⟩ = some (.int .u8 (t : Nat)) := by
  obtain ⟨b, off, t, e, hb, hl, hc⟩ := h.at_ bcell_len (by decide) hi
  refine ⟨b, off, t, e, hb, hl, ?_⟩
  have := hc 0 _ rfl
  simpa using this
theorem dec_u8 {H : Type} {enc : TypeId × Value → H} {w : World} {base : Nat} {spare : Nat → Bool} {held : Bool} (n : Nat) (cs : List Value) (d : DataW H) (pl : List MemPlace) (h : DataW.trod enc Tryz.prog w base spare held n 5 cs = some (d, pl)) :
    ∃ y : Nat, cs = bcell y ∧ (d = .lit (.int .u8 y) ∧ y < 256) := by
  obtain ⟨k, e0, e1, hw⟩ := DataW.trod_int Tryz.underlying5 h
  simp only [Prod.mk.injEq] at e1
  have h1 : 0 ≤ k ∧ k < 256 := by
    have h2 : (decide (IntKind.u8.min ≤ k) && decide (k ≤ IntKind.u8.max)) = true := hw
    rw [show IntKind.u8.min = 0 by decide, show IntKind.u8.max = 255 by decide] at h2
    simp at h2
    omega
  exact ⟨k.toNat, by rw [e0, bcell, Int.toNat_of_nonneg h1.1], by rw [e1.1, Int.toNat_of_nonneg h1.1], by omega⟩
theorem cU8 : Tryz.prog.cellsOf 5 = 1 := by kernel_rfl

/-- a nil slice has no length and no capacity -/
theorem open_nil {H : Type} {enc : TypeId × Value → H} {P : Program} {w : World} {base : Nat} {spare : Nat → Bool} {held : Bool} {t e : TypeId} {fuel : Nat} {A : Option Addr} {n c : Nat} {x : DataW H × List MemPlace} (ht : P.underlying t = some (.slice e))
    (h : DataW.trod enc P w base spare held fuel t (Value.slice A n c).cells.toList = some x) (hA : A = none) : c = 0 ∧ n = 0 := by
  rcases Deep.open_slice ht h with ⟨h1, _⟩ | ⟨a, len, cap, m, n', D, Pl, h1, _⟩
  · simp [Value.cells] at h1
    exact ⟨h1.2.2, h1.2.1⟩
  · simp [Value.cells] at h1
    rw [hA] at h1
    cases h1.1


theorem laid_eq : Rows.scopeRenamingUptoRow.laid = laidL := by rfl

set_option maxRecDepth 100000 in
theorem contract (H : Type) (enc : TypeId × Value → H) (W : World) (base : Nat) (args : Array Value) (ds gs : List (DataW H)) (before : List MemPlace)
    (hval : ∀ (j : Nat) t v, Tryz.f3.params[j]? = some t → args[j]? = some v → Value.okWide Tryz.prog W .any base t v)
    (hW : DataW.Whole enc Tryz.prog Tryz.f3.params.toList Rows.scopeRenamingSpec.vars false W args.toList ds gs before)
    (hk : Rows.uptoSmall H (ds ++ gs) = true) (hL : laidMetH Tryz.prog laidL W) :
    Calls Tryz.prog 3 args W fun e W' => ∃ v, e = .returned v ∧ Rows.scopeRenamingSpec.post enc Tryz.prog Tryz.f3 false true false false W args v W' := by
  have hG := gis_hold hL
  have hW' := hW
  obtain ⟨p, q, hA0, hV, rfl, _, _⟩ := hW
  have hA : DataW.TrodAll enc Tryz.prog W 0 (fun _ => true) true Tryz.f3.params.toList args.toList ds p := hA0
  rw [Tryz.params3] at hA hval
  obtain ⟨v0, v1, d0, d1, p0, p1, rfl, rfl, rfl, h0, h1⟩ := trodAll_two hA
  obtain ⟨rfl, rfl⟩ := trodVars_none hV
  clear hA0 hA hV
  simp only [List.append_nil] at hW' hk
  have hlt : ∀ x ∈ p0 ++ p1, x.block < W.heap.size := fun x hx => hW'.lt x hx
  have hbk := of_decide_eq_true hk
  simp only [Rows.uptoBulkAll] at hbk
  have g0 := h0
  have g1 := h1
  obtain ⟨x0, rfl⟩ := okWide_int Tryz.underlying5 (hval 0 _ v0 rfl rfl)
  obtain ⟨fu0, hf0⟩ := h0
  obtain ⟨b0, hcs0, _, hs0⟩ := dec_u8 _ _ _ _ hf0
  obtain rfl : x0 = (b0 : Int) := by simpa [Value.cells, bcell] using hcs0
  obtain ⟨a1, len1, cap1, rfl⟩ := okWide_slice Tryz.underlying22 (hval 1 _ v1 rfl rfl)
  obtain ⟨fu1, hf1⟩ := h1
  obtain ⟨A1, n1, c1, l1, hcs1, _, _, hR1, hln1, hx1⟩ := open_list icell 1 (fun y d => d = .lit (.int .i64 y)) (by decide) icell_len cInt (fun n cs' d pl hh => dec_int n cs' d pl hh) Tryz.underlying22 hf1
  have hnil1 := open_nil Tryz.underlying22 hf1
  simp [Value.cells] at hcs1
  obtain ⟨rfl, rfl, rfl⟩ := hcs1
  have hn1 : len1 ≤ 1048576 := by
    rcases hx1 with ⟨_, rfl⟩ | ⟨es, sp, e0, hdl, _⟩
    · rw [← hln1]; simp
    · dsimp only at e0
      rw [e0] at hbk
      simp only [Rows.uptoBulk] at hbk
      have h2 := bulk_length es
      omega
  refine (scopeRenaming_law W hG b0 hs0 a1 len1 cap1 l1 hR1 hn1).mono ?_
  rintro e W' ⟨rfl, hb⟩
  refine ⟨_, rfl, post_of_below (pa := p0 ++ p1) (pv := []) hW' (fun _ _ _ => trodAll_cons_mk (shut_bool Tryz.underlying4 _) trodAll_mk0) (fun sp hsp => ?_) (fun _ _ => rfl) (by simp) hb (ok_one (by kernel_rfl) rfl (okWide_bool_mk Tryz.underlying4 _))⟩
  rw [Tryz.params3]
  exact trodAll_mk2 (arg_stays (by kernel_rfl) (of_decide_eq_true (by kernel_rfl)) g0 hb (fun x hx => hlt x (List.mem_append_left _ hx)) sp (fun x hx => hsp x (List.mem_append_left _ hx)))
    (arg_stays (by kernel_rfl) (of_decide_eq_true (by kernel_rfl)) g1 hb (fun x hx => hlt x (List.mem_append_right _ hx)) sp (fun x hx => hsp x (List.mem_append_right _ hx)))

theorem witness_row (os : Os) {H : Type} (enc : TypeId × Value → H) :
    (Rows.OpenSpec.upto Rows.scopeRenamingSpec).preRow enc Tryz.prog Tryz.f3 Rows.scopeRenamingUptoRow.domain false laidL ((laidWorld os).forCall (fun _ _ => 0) ⟨#[], #[.int .u8 0, .slice none 0 0], []⟩).memory #[.int .u8 0, .slice none 0 0] := by
  have hw : (DataW.whole enc Tryz.prog ((laidWorld os).forCall (fun _ _ => 0) ⟨#[], #[.int .u8 0, .slice none 0 0], []⟩).memory Tryz.f3.params.toList Rows.scopeRenamingSpec.vars false #[Value.int .u8 0, Value.slice none 0 0].toList 8).map (fun x => (x.1, x.2.1)) =
      some ([.lit (.int .u8 0), .nil], []) := by kernel_rfl
  obtain ⟨⟨x1, x2, x3⟩, hx, hx1⟩ := Option.map_eq_some_iff.1 hw
  simp only [Prod.mk.injEq] at hx1
  obtain ⟨rfl, rfl⟩ := hx1
  exact OpenSpec.preRow_of_cond 8 hx (by kernel_rfl) (fun k hk => by cases hk; kernel_rfl) (by kernel_rfl) (laid_met os _)

set_option maxRecDepth 100000 in
theorem lifted (os : Os) (started : os.Started) (H : Type) (enc : TypeId × Value → H) (F : Stop.Interp) :
    ReturnsInHanded {} Tryz.checked os 3 .any ((Rows.OpenSpec.upto Rows.scopeRenamingSpec).preRow enc Tryz.prog Tryz.f3 Rows.scopeRenamingUptoRow.domain false laidL) (((Rows.OpenSpec.upto Rows.scopeRenamingSpec).at F).post enc Tryz.prog Tryz.f3 false true false false) := by
  refine returnsInHanded_of_row (C := Tryz.checked) (s := Rows.OpenSpec.upto Rows.scopeRenamingSpec) own started (by kernel_rfl) Tryz.func3
    (witness_row_atRef (enc := enc) (C := Tryz.checked) false (laidWorld os) #[.int .u8 0, .slice none 0 0] rfl (by kernel_rfl) (by kernel_rfl) (by kernel_rfl) (witness_row os enc)) ?_
  intro W base args ds gs before hval hW _ hk _ hL _ _
  exact contract H enc W base args ds gs before hval hW (hk _ rfl) hL

theorem said : Rows.ScopeRenamingUptoSaid :=
  OpenClaim.holds_of_cond 3 Tryz.f3 rfl rfl rfl rfl rfl rfl rfl ⟨rfl, rfl, rfl, rfl, rfl⟩ rfl rfl rfl rfl rfl jfn Tryz.func3 joined jinst jwrap
    (fun os started H enc _ F => by rw [OpenClaim.pre_eq_preRow]; exact lifted os started H enc F)

theorem plain (f : FuncId) (fn : Func) (hf : Tryz.pinned.checked.prog.funcNamed "cspcheck/cspchecklaw6.ScopeRenaming" = some f) (hfn : Tryz.pinned.checked.prog.funcs[f]? = some fn) :
    false = Tryz.pinned.checked.prog.looks [] ∧ ∀ (j : Nat) t, fn.params[j]? = some t → Tryz.pinned.checked.prog.wantsStandIn t = false := by
  obtain rfl : f = 3 := Option.some.inj ((show Tryz.pinned.checked.prog.funcNamed "cspcheck/cspchecklaw6.ScopeRenaming" = some 3 from jfn).symm.trans hf) |>.symm
  obtain rfl : fn = Tryz.f3 := (Option.some.inj (Tryz.func3.symm.trans hfn)).symm
  refine ⟨jlooks, fun j t ht => ?_⟩
  rw [Tryz.params3] at ht
  have hm : t ∈ #[5, 22] := Array.mem_of_getElem? ht
  simp at hm
  rcases hm with rfl | rfl
  · exact (show Tryz.prog.wantsStandIn 5 = false by kernel_rfl)
  · exact (show Tryz.prog.wantsStandIn 22 = false by kernel_rfl)

/-- the card -/
theorem scopeRenaming_card : Rows.ScopeRenamingUptoCardSaid :=
  Claim7.holds_tied_plain_at .later [] _ _ _ _ said (fun _ h => by cases h) (by kernel_rfl) (fun _ h => by cases h) scopeRenamingUpto_row_tie rfl ⟨rfl, rfl⟩ (by kernel_rfl) rfl plain (by kernel_rfl)

#print axioms scopeRenaming_card
end Go.Proofs.YtlblaopkmigheaaGreatDoor
