/- LexerFormats, for every input of bulk at most 1048576: Valid and Format return the specified results for arbitrary tokens and for lists of at most 40 mostly valid ones; true, and the arguments read as before. Conditions: the listed variables as the program's text lays them; the bound. -/
import Derived.Test.YtafoahojdiglfaaDoorCardL
import Derived.Test.YtafoahojdiglfaaDoorCardT
import Derived.Test.YtafoahojdiglfaaDoorLawFmt
namespace Go.Proofs.YtafoahojdiglfaaDoor
open Go Go.RowKit Go.ChangeShapes Go.WideShapes Go.ChangeAt

theorem laid_eq : Rows.lexerFormatsUptoRow.laid = laidL := by rfl

set_option maxRecDepth 100000 in
theorem contract (H : Type) (enc : TypeId × Value → H) (W : World) (base : Nat) (args : Array Value) (ds gs : List (DataW H)) (before : List MemPlace)
    (hval : ∀ (j : Nat) t v, Tryd.f10.params[j]? = some t → args[j]? = some v → Value.okWide Tryd.prog W .any base t v)
    (hW : DataW.Whole enc Tryd.prog Tryd.f10.params.toList Rows.lexerFormatsSpec.vars false W args.toList ds gs before)
    (hk : Rows.uptoSmall H (ds ++ gs) = true) (hL : laidMetH Tryd.prog laidL W) :
    Calls Tryd.prog 10 args W fun e W' => ∃ v, e = .returned v ∧ Rows.lexerFormatsSpec.post enc Tryd.prog Tryd.f10 false true false false W args v W' := by
  have hG := glob_of hL
  have hW' := hW
  obtain ⟨p, q, hA0, hV, rfl, _, _⟩ := hW
  have hA : DataW.TrodAll enc Tryd.prog W 0 (fun _ => true) true Tryd.f10.params.toList args.toList ds p := hA0
  rw [Tryd.params10] at hA hval
  obtain ⟨v0, v1, d0, d1, p0, p1, rfl, rfl, rfl, h0, h1⟩ := trodAll_two hA
  obtain ⟨rfl, rfl⟩ := trodVars_none hV
  clear hA0 hA hV
  simp only [List.append_nil] at hW' hk
  have hlt : ∀ x ∈ p0 ++ p1, x.block < W.heap.size := fun x hx => hW'.lt x hx
  have hbk := of_decide_eq_true hk
  simp only [Rows.uptoBulkAll] at hbk
  have g0 := h0
  have g1 := h1
  obtain ⟨cs0, hvs0, _⟩ := okWide_struct Tryd.underlying37 (hval 0 _ v0 rfl rfl)
  subst hvs0
  obtain ⟨fu0, hf0⟩ := h0
  obtain ⟨y0, hcs0, hd0, hI0⟩ := dec_tokI _ _ _ _ hf0
  obtain rfl : cs0 = y0.cells.toArray := by
    have h9 : cs0.toList = y0.cells := by simpa [Value.cells] using hcs0
    rw [← h9, Array.toArray_toList]
  have hy0 : TokIn y0 := by
    rw [hd0] at hbk
    have h9 := bulk_tok (H := H) y0
    exact ⟨hI0, by omega⟩
  obtain ⟨a1, len1, cap1, rfl⟩ := okWide_slice Tryd.underlying30 (hval 1 _ v1 rfl rfl)
  obtain ⟨fu1, hf1⟩ := h1
  obtain ⟨A1, n1, c1, l1, hcs1, _, _, hR1, hln1, hx1⟩ := open_list Tok.cells 5 (fun y d => d = tokData y ∧ IntsIn y) (by decide) Tok.cells_len cTok (fun n cs' d pl hh => dec_tokI n cs' d pl hh) Tryd.underlying30 hf1
  have hnil1 := open_nil Tryd.underlying30 hf1
  simp [Value.cells] at hcs1
  obtain ⟨rfl, rfl, rfl⟩ := hcs1
  have hn1 : len1 ≤ 1048576 := by
    rcases hx1 with ⟨_, rfl⟩ | ⟨es, sp, e0, hdl, _⟩
    · rw [← hln1]; simp
    · dsimp only at e0
      rw [e0] at hbk
      simp only [Rows.uptoBulk] at hbk
      have h2 := bulk_length es
      omega
  have hs1 : ∀ t ∈ l1, TokIn t := by
    rcases hx1 with ⟨_, rfl⟩ | ⟨es, sp, e0, hdl, hq⟩
    · intro t ht; cases ht
    · dsimp only at e0
      rw [e0] at hbk
      simp only [Rows.uptoBulk] at hbk
      intro t ht
      obtain ⟨i, hi, rfl⟩ := List.getElem_of_mem ht
      obtain ⟨d, hd1, rfl, hd2⟩ := hq i _ (List.getElem?_eq_getElem hi)
      have h3 := part_le (List.mem_of_getElem? hd1)
      have h4 := bulk_tok (H := H) l1[i]
      exact ⟨hd2, by omega⟩
  refine (lexerFormats_law W hG (tab_of hL) y0 hy0 a1 len1 cap1 l1 hR1 hnil1 hn1 hs1).mono ?_
  rintro e W' ⟨rfl, hb⟩
  refine ⟨_, rfl, post_of_below (pa := p0 ++ p1) (pv := []) hW' (fun _ _ _ => trodAll_cons_mk (shut_bool Tryd.underlying4 _) trodAll_mk0) (fun sp hsp => ?_) (fun _ _ => rfl) (by simp) hb (ok_one (by kernel_rfl) rfl (okWide_bool_mk Tryd.underlying4 _))⟩
  rw [Tryd.params10]
  exact trodAll_mk2 (arg_stays (by kernel_rfl) (of_decide_eq_true (by kernel_rfl)) g0 hb (fun x hx => hlt x (List.mem_append_left _ hx)) sp (fun x hx => hsp x (List.mem_append_left _ hx)))
    (arg_stays (by kernel_rfl) (of_decide_eq_true (by kernel_rfl)) g1 hb (fun x hx => hlt x (List.mem_append_right _ hx)) sp (fun x hx => hsp x (List.mem_append_right _ hx)))

theorem witness_row (os : Os) {H : Type} (enc : TypeId × Value → H) :
    (Rows.OpenSpec.upto Rows.lexerFormatsSpec).preRow enc Tryd.prog Tryd.f10 Rows.lexerFormatsUptoRow.domain false laidL ((laidWorld os).forCall (fun _ _ => 0) ⟨#[], #[.agg #[.int .i64 0, .int .i64 0, .string ⟨#[]⟩, .int .i64 0, .int .i64 0], .slice none 0 0], []⟩).memory #[.agg #[.int .i64 0, .int .i64 0, .string ⟨#[]⟩, .int .i64 0, .int .i64 0], .slice none 0 0] := by
  have hw : (DataW.whole enc Tryd.prog ((laidWorld os).forCall (fun _ _ => 0) ⟨#[], #[.agg #[.int .i64 0, .int .i64 0, .string ⟨#[]⟩, .int .i64 0, .int .i64 0], .slice none 0 0], []⟩).memory Tryd.f10.params.toList Rows.lexerFormatsSpec.vars false #[Value.agg #[.int .i64 0, .int .i64 0, .string ⟨#[]⟩, .int .i64 0, .int .i64 0], Value.slice none 0 0].toList 8).map (fun x => (x.1, x.2.1)) =
      some ([.agg [.lit (.int .i64 0), .lit (.int .i64 0), .lit (.string []), .agg [.lit (.int .i64 0), .lit (.int .i64 0)]], .nil], []) := by kernel_rfl
  obtain ⟨⟨x1, x2, x3⟩, hx, hx1⟩ := Option.map_eq_some_iff.1 hw
  simp only [Prod.mk.injEq] at hx1
  obtain ⟨rfl, rfl⟩ := hx1
  exact OpenSpec.preRow_of_cond 8 hx (by kernel_rfl) (fun k hk => by cases hk; kernel_rfl) (by kernel_rfl) (laid_met os _)

set_option maxRecDepth 100000 in
theorem lifted (os : Os) (started : os.Started) (H : Type) (enc : TypeId × Value → H) (F : Stop.Interp) :
    ReturnsInHanded {} Tryd.checked os 10 .any ((Rows.OpenSpec.upto Rows.lexerFormatsSpec).preRow enc Tryd.prog Tryd.f10 Rows.lexerFormatsUptoRow.domain false laidL) (((Rows.OpenSpec.upto Rows.lexerFormatsSpec).at F).post enc Tryd.prog Tryd.f10 false true false false) := by
  refine returnsInHanded_of_row (C := Tryd.checked) (s := Rows.OpenSpec.upto Rows.lexerFormatsSpec) own started (by kernel_rfl) Tryd.func10
    (witness_row_atRef (enc := enc) (C := Tryd.checked) false (laidWorld os) #[.agg #[.int .i64 0, .int .i64 0, .string ⟨#[]⟩, .int .i64 0, .int .i64 0], .slice none 0 0] rfl (by kernel_rfl) (by kernel_rfl) (by kernel_rfl) (witness_row os enc)) ?_
  intro W base args ds gs before hval hW _ hk _ hL _ _
  exact contract H enc W base args ds gs before hval hW (hk _ rfl) hL

theorem said : Rows.LexerFormatsUptoSaid :=
  OpenClaim.holds_of_cond 10 Tryd.f10 rfl rfl rfl rfl rfl rfl rfl ⟨rfl, rfl, rfl, rfl, rfl⟩ rfl rfl rfl rfl rfl (by kernel_rfl) Tryd.func10 (by kernel_rfl)
    (of_decide_eq_true (by kernel_rfl)) (by unfold Func.isWrapper; first | (rw [if_pos (by decide +kernel)]; kernel_rfl) | (rw [if_neg (by decide +kernel)]; exact ⟨rfl, rfl⟩))
    (fun os started H enc _ F => by rw [OpenClaim.pre_eq_preRow]; exact lifted os started H enc F)

theorem plain (f : FuncId) (fn : Func) (hf : Tryd.pinned.checked.prog.funcNamed "cspcheck/cspchecklaw1.LexerFormats" = some f) (hfn : Tryd.pinned.checked.prog.funcs[f]? = some fn) :
    true = Tryd.pinned.checked.prog.looks [] ∧ ∀ (j : Nat) t, fn.params[j]? = some t → Tryd.pinned.checked.prog.wantsStandIn t = false := by
  obtain rfl : f = 10 := Option.some.inj ((show Tryd.prog.funcNamed "cspcheck/cspchecklaw1.LexerFormats" = some 10 by kernel_rfl).symm.trans hf) |>.symm
  obtain rfl : fn = Tryd.f10 := (Option.some.inj (Tryd.func10.symm.trans hfn)).symm
  refine ⟨by kernel_rfl, fun j t ht => ?_⟩
  rw [Tryd.params10] at ht
  have hm : t ∈ #[37, 30] := Array.mem_of_getElem? ht
  simp at hm
  rcases hm with rfl | rfl
  · exact (show Tryd.prog.wantsStandIn 37 = false by kernel_rfl)
  · exact (show Tryd.prog.wantsStandIn 30 = false by kernel_rfl)

/-- the card -/
theorem lexerFormats_card : Rows.LexerFormatsUptoCardSaid :=
  Claim7.holds_tied_plain_at .later [] _ _ _ _ said (fun _ h => by cases h) (by kernel_rfl) (fun _ h => by cases h) lexerFormatsUpto_row_tie rfl ⟨rfl, rfl⟩ (by kernel_rfl) rfl plain (by kernel_rfl)

#print axioms lexerFormats_card
end Go.Proofs.YtafoahojdiglfaaDoor
