/- LexerScansExactly, for every input of bulk at most 1048576: Scan returns the specified tokens, or the specified error and position, for arbitrary strings and for strings of typical pieces; true, and the arguments read as before. Conditions: the listed variables as the program's text lays them; the bound. -/
import Derived.Test.YtafoahojdiglfaaDoorCardL
import Derived.Test.YtafoahojdiglfaaDoorPcs
namespace Go.Proofs.YtafoahojdiglfaaDoor
open Go Go.RowKit Go.ChangeShapes Go.WideShapes Go.ChangeAt

theorem laid_eq : Rows.lexerScansExactlyUptoRow.laid = laidL := by rfl

set_option maxRecDepth 100000 in
theorem contract (H : Type) (enc : TypeId × Value → H) (W : World) (base : Nat) (args : Array Value) (ds gs : List (DataW H)) (before : List MemPlace)
    (hval : ∀ (j : Nat) t v, Tryd.f3.params[j]? = some t → args[j]? = some v → Value.okWide Tryd.prog W .any base t v)
    (hW : DataW.Whole enc Tryd.prog Tryd.f3.params.toList Rows.lexerScansExactlySpec.vars false W args.toList ds gs before)
    (hk : Rows.uptoSmall H (ds ++ gs) = true) (hL : laidMetH Tryd.prog laidL W) :
    Calls Tryd.prog 3 args W fun e W' => ∃ v, e = .returned v ∧ Rows.lexerScansExactlySpec.post enc Tryd.prog Tryd.f3 false true false false W args v W' := by
  have hG := glob_of hL
  have hW' := hW
  obtain ⟨p, q, hA0, hV, rfl, _, _⟩ := hW
  have hA : DataW.TrodAll enc Tryd.prog W 0 (fun _ => true) true Tryd.f3.params.toList args.toList ds p := hA0
  rw [Tryd.params3] at hA hval
  obtain ⟨v0, v1, d0, d1, p0, p1, rfl, rfl, rfl, h0, h1⟩ := trodAll_two hA
  obtain ⟨rfl, rfl⟩ := trodVars_none hV
  clear hA0 hA hV
  simp only [List.append_nil] at hW' hk
  have hlt : ∀ x ∈ p0 ++ p1, x.block < W.heap.size := fun x hx => hW'.lt x hx
  have hbk := of_decide_eq_true hk
  simp only [Rows.uptoBulkAll] at hbk
  have g0 := h0
  have g1 := h1
  obtain ⟨x0, rfl⟩ := okWide_string Tryd.underlying9 (hval 0 _ v0 rfl rfl)
  obtain ⟨fu0, hf0⟩ := h0
  obtain ⟨s0, hcs0, he0, _⟩ := DataW.trod_string Tryd.underlying9 hf0
  obtain rfl : x0 = s0 := by simpa [Value.cells] using hcs0
  have hn0 : x0.size ≤ 1048576 := by
    have h9 := congrArg Prod.fst he0
    dsimp only at h9
    rw [h9] at hbk
    simp only [Rows.uptoBulk] at hbk
    have h8 := blen x0
    omega
  obtain ⟨a1, len1, cap1, rfl⟩ := okWide_slice Tryd.underlying22 (hval 1 _ v1 rfl rfl)
  obtain ⟨fu1, hf1⟩ := h1
  obtain ⟨A1, n1, c1, l1, hcs1, _, _, hR1, hln1, hx1⟩ := open_list bcell 1 (fun y d => d = .lit (.int .u8 y) ∧ y < 256) (by decide) bcell_len cU8 (fun n cs' d pl hh => dec_u8 n cs' d pl hh) Tryd.underlying22 hf1
  have hnil1 := open_nil Tryd.underlying22 hf1
  simp [Value.cells] at hcs1
  obtain ⟨rfl, rfl, rfl⟩ := hcs1
  have hn1 : len1 ≤ 1048576 := by
    rcases hx1 with ⟨_, rfl⟩ | ⟨es, sp, e0, hdl, _⟩
    · rw [← hln1]; simp
    · dsimp only at e0
      rw [e0] at hbk
      simp only [Rows.uptoBulk] at hbk
      have h2 := bulk_length es
      omega
  have hs1 : ∀ y ∈ l1, y < 256 := by
    rcases hx1 with ⟨_, rfl⟩ | ⟨es, sp, e0, hdl, hq⟩
    · intro t ht; cases ht
    · intro t ht
      obtain ⟨i, hi, rfl⟩ := List.getElem_of_mem ht
      obtain ⟨d, hd1, _, hd2⟩ := hq i _ (List.getElem?_eq_getElem hi)
      exact hd2
  refine (lexerScansExactly_law W hG x0 hn0 a1 len1 cap1 l1 hR1 hn1 hs1).mono ?_
  rintro e W' ⟨rfl, hb⟩
  refine ⟨_, rfl, post_of_below (pa := p0 ++ p1) (pv := []) hW' (fun _ _ _ => trodAll_cons_mk (shut_bool Tryd.underlying4 _) trodAll_mk0) (fun sp hsp => ?_) (fun _ _ => rfl) (by simp) hb (ok_one (by kernel_rfl) rfl (okWide_bool_mk Tryd.underlying4 _))⟩
  rw [Tryd.params3]
  exact trodAll_mk2 (arg_stays (by kernel_rfl) (of_decide_eq_true (by kernel_rfl)) g0 hb (fun x hx => hlt x (List.mem_append_left _ hx)) sp (fun x hx => hsp x (List.mem_append_left _ hx)))
    (arg_stays (by kernel_rfl) (of_decide_eq_true (by kernel_rfl)) g1 hb (fun x hx => hlt x (List.mem_append_right _ hx)) sp (fun x hx => hsp x (List.mem_append_right _ hx)))

theorem witness_row (os : Os) {H : Type} (enc : TypeId × Value → H) :
    (Rows.OpenSpec.upto Rows.lexerScansExactlySpec).preRow enc Tryd.prog Tryd.f3 Rows.lexerScansExactlyUptoRow.domain false laidL ((laidWorld os).forCall (fun _ _ => 0) ⟨#[], #[.string ⟨#[]⟩, .slice none 0 0], []⟩).memory #[.string ⟨#[]⟩, .slice none 0 0] := by
  have hw : (DataW.whole enc Tryd.prog ((laidWorld os).forCall (fun _ _ => 0) ⟨#[], #[.string ⟨#[]⟩, .slice none 0 0], []⟩).memory Tryd.f3.params.toList Rows.lexerScansExactlySpec.vars false #[Value.string ⟨#[]⟩, Value.slice none 0 0].toList 8).map (fun x => (x.1, x.2.1)) =
      some ([.lit (.string []), .nil], []) := by kernel_rfl
  obtain ⟨⟨x1, x2, x3⟩, hx, hx1⟩ := Option.map_eq_some_iff.1 hw
  simp only [Prod.mk.injEq] at hx1
  obtain ⟨rfl, rfl⟩ := hx1
  exact OpenSpec.preRow_of_cond 8 hx (by kernel_rfl) (fun k hk => by cases hk; kernel_rfl) (by kernel_rfl) (laid_met os _)

set_option maxRecDepth 100000 in
theorem lifted (os : Os) (started : os.Started) (H : Type) (enc : TypeId × Value → H) (F : Stop.Interp) :
    ReturnsInHanded {} Tryd.checked os 3 .any ((Rows.OpenSpec.upto Rows.lexerScansExactlySpec).preRow enc Tryd.prog Tryd.f3 Rows.lexerScansExactlyUptoRow.domain false laidL) (((Rows.OpenSpec.upto Rows.lexerScansExactlySpec).at F).post enc Tryd.prog Tryd.f3 false true false false) := by
  refine returnsInHanded_of_row (C := Tryd.checked) (s := Rows.OpenSpec.upto Rows.lexerScansExactlySpec) own started (by kernel_rfl) Tryd.func3
    (witness_row_atRef (enc := enc) (C := Tryd.checked) false (laidWorld os) #[.string ⟨#[]⟩, .slice none 0 0] rfl (by kernel_rfl) (by kernel_rfl) (by kernel_rfl) (witness_row os enc)) ?_
  intro W base args ds gs before hval hW _ hk _ hL _ _
  exact contract H enc W base args ds gs before hval hW (hk _ rfl) hL

theorem said : Rows.LexerScansExactlyUptoSaid :=
  OpenClaim.holds_of_cond 3 Tryd.f3 rfl rfl rfl rfl rfl rfl rfl ⟨rfl, rfl, rfl, rfl, rfl⟩ rfl rfl rfl rfl rfl (by kernel_rfl) Tryd.func3 (by kernel_rfl)
    (of_decide_eq_true (by kernel_rfl)) (by unfold Func.isWrapper; first | (rw [if_pos (by decide +kernel)]; kernel_rfl) | (rw [if_neg (by decide +kernel)]; exact ⟨rfl, rfl⟩))
    (fun os started H enc _ F => by rw [OpenClaim.pre_eq_preRow]; exact lifted os started H enc F)

theorem plain (f : FuncId) (fn : Func) (hf : Tryd.pinned.checked.prog.funcNamed "cspcheck/cspchecklaw1.LexerScansExactly" = some f) (hfn : Tryd.pinned.checked.prog.funcs[f]? = some fn) :
    true = Tryd.pinned.checked.prog.looks [] ∧ ∀ (j : Nat) t, fn.params[j]? = some t → Tryd.pinned.checked.prog.wantsStandIn t = false := by
  obtain rfl : f = 3 := Option.some.inj ((show Tryd.prog.funcNamed "cspcheck/cspchecklaw1.LexerScansExactly" = some 3 by kernel_rfl).symm.trans hf) |>.symm
  obtain rfl : fn = Tryd.f3 := (Option.some.inj (Tryd.func3.symm.trans hfn)).symm
  refine ⟨by kernel_rfl, fun j t ht => ?_⟩
  rw [Tryd.params3] at ht
  have hm : t ∈ #[9, 22] := Array.mem_of_getElem? ht
  simp at hm
  rcases hm with rfl | rfl
  · exact (show Tryd.prog.wantsStandIn 9 = false by kernel_rfl)
  · exact (show Tryd.prog.wantsStandIn 22 = false by kernel_rfl)

/-- the card -/
theorem lexerScansExactly_card : Rows.LexerScansExactlyUptoCardSaid :=
  Claim7.holds_tied_plain_at .later [] _ _ _ _ said (fun _ h => by cases h) (by kernel_rfl) (fun _ h => by cases h) lexerScansExactlyUpto_row_tie rfl ⟨rfl, rfl⟩ (by kernel_rfl) rfl plain (by kernel_rfl)

#print axioms lexerScansExactly_card
end Go.Proofs.YtafoahojdiglfaaDoor
