/- StrongEqual, for every input of bulk at most 1048576: which systems are bisimilar, against the reference; true, and the arguments read as before. Conditions: the bound. -/
import Derived.Test.YtmciinikfjfegaaCardR
import Derived.Test.YtmciinikfjfegaaSgLs
namespace Go.Proofs.Ytmciinikfjfegaa
open Go Go.RowKit Go.ChangeShapes Go.WideShapes Go.ChangeAt

set_option maxRecDepth 100000 in
theorem contract (H : Type) (enc : TypeId × Value → H) (W : World) (base : Nat) (args : Array Value) (ds gs : List (DataW H)) (before : List MemPlace)
    (hval : ∀ (j : Nat) t v, Try.f7.params[j]? = some t → args[j]? = some v → Value.okWide Try.prog W .any base t v)
    (hW : DataW.Whole enc Try.prog Try.f7.params.toList Rows.strongEqualSpec.vars false W args.toList ds gs before)
    (hk : Rows.uptoSmall H (ds ++ gs) = true) :
    Calls Try.prog 7 args W fun e W' => ∃ v, e = .returned v ∧ Rows.strongEqualSpec.post enc Try.prog Try.f7 false true false false W args v W' := by
  have hW' := hW
  obtain ⟨p, q, hA0, hV, rfl, _, _⟩ := hW
  have hA : DataW.TrodAll enc Try.prog W 0 (fun _ => true) true Try.f7.params.toList args.toList ds p := hA0
  rw [Try.params7] at hA hval
  obtain ⟨v0, v1, v2, d0, d1, d2, p0, p1, p2, rfl, rfl, rfl, h0, h1, h2⟩ := trodAll_three hA
  obtain ⟨rfl, rfl⟩ := trodVars_none hV
  clear hA0 hA hV
  simp only [List.append_nil] at hW' hk
  have hlt : ∀ x ∈ p0 ++ p1 ++ p2, x.block < W.heap.size := fun x hx => hW'.lt x hx
  have hbk := of_decide_eq_true hk
  simp only [Rows.uptoBulkAll] at hbk
  have g0 := h0
  obtain ⟨a0, len0, cap0, rfl⟩ := okWide_slice Try.underlying29 (hval 0 _ v0 rfl rfl)
  obtain ⟨fu0, hf0⟩ := h0
  obtain ⟨A0, n0, c0, l0, hcs0, hcp0, _, hR0, hln0, hx0⟩ := open_list icell 1 (fun y d => d = .lit (.int .i64 y)) (by decide) icell_len cInt (fun n cs' d pl hh => dec_int n cs' d pl hh) Try.underlying29 hf0
  simp [Value.cells] at hcs0
  obtain ⟨rfl, rfl, rfl⟩ := hcs0
  have hn0 : len0 ≤ 1048576 := by
    rcases hx0 with ⟨_, rfl⟩ | ⟨es, sp, e0, hdl, _⟩
    · rw [← hln0]; simp
    · dsimp only at e0
      rw [e0] at hbk
      simp only [Rows.uptoBulk] at hbk
      have h2 := bulk_length es
      omega
  have g1 := h1
  obtain ⟨cs1, hvs1, _⟩ := okWide_struct Try.underlying27 (hval 1 _ v1 rfl rfl)
  subst hvs1
  obtain ⟨fu1, hf1⟩ := h1
  obtain ⟨a1, len1, cap1, l1, hcs1, hR1, hn1, hs1⟩ := dec_lts _ _ _ hf1
  obtain rfl : cs1 = #[.slice a1 len1 cap1] := by
    have h9 : cs1.toList = [.slice a1 len1 cap1] := by simpa [Value.cells] using hcs1
    rw [← Array.toArray_toList (xs := cs1), h9]
  dsimp only at hn1 hs1
  have g2 := h2
  obtain ⟨cs2, hvs2, _⟩ := okWide_struct Try.underlying27 (hval 2 _ v2 rfl rfl)
  subst hvs2
  obtain ⟨fu2, hf2⟩ := h2
  obtain ⟨a2, len2, cap2, l2, hcs2, hR2, hn2, hs2⟩ := dec_lts _ _ _ hf2
  obtain rfl : cs2 = #[.slice a2 len2 cap2] := by
    have h9 : cs2.toList = [.slice a2 len2 cap2] := by simpa [Value.cells] using hcs2
    rw [← Array.toArray_toList (xs := cs2), h9]
  dsimp only at hn2 hs2
  refine (strongEqual_law W a0 len0 cap0 l0 hR0 hn0 a1 len1 cap1 l1 hR1 (by omega) (fun l hl => by have := hs1 l hl; omega) a2 len2 cap2 l2 hR2 (by omega) (fun l hl => by have := hs2 l hl; omega)).mono ?_
  rintro e W' ⟨rfl, hb⟩
  refine ⟨_, rfl, post_of_below (pa := p0 ++ p1 ++ p2) (pv := []) hW' (fun _ _ _ => trodAll_cons_mk (shut_bool Try.underlying4 _) trodAll_mk0) (fun sp hsp => ?_) (fun _ _ => rfl) (by simp) hb (ok_one (by kernel_rfl) rfl (okWide_bool_mk Try.underlying4 _))⟩
  rw [Try.params7]
  rw [List.append_assoc]
  exact trodAll_mk3 (arg_stays (by kernel_rfl) (of_decide_eq_true (by kernel_rfl)) g0 hb (fun x hx => hlt x (List.mem_append_left _ (List.mem_append_left _ hx))) sp (fun x hx => hsp x (List.mem_append_left _ (List.mem_append_left _ hx))))
    (arg_stays (by kernel_rfl) (of_decide_eq_true (by kernel_rfl)) g1 hb (fun x hx => hlt x (List.mem_append_left _ (List.mem_append_right _ hx))) sp (fun x hx => hsp x (List.mem_append_left _ (List.mem_append_right _ hx))))
    (arg_stays (by kernel_rfl) (of_decide_eq_true (by kernel_rfl)) g2 hb (fun x hx => hlt x (List.mem_append_right _ hx)) sp (fun x hx => hsp x (List.mem_append_right _ hx)))

set_option maxRecDepth 100000 in
theorem lifted (os : Os) (started : os.Started) (H : Type) (enc : TypeId × Value → H) (F : Stop.Interp) :
    ReturnsInHanded {} Try.checked os 7 .any ((Rows.OpenSpec.upto Rows.strongEqualSpec).pre6 enc Try.prog Try.f7 Rows.strongEqualUptoRow.domain false) (((Rows.OpenSpec.upto Rows.strongEqualSpec).at F).post enc Try.prog Try.f7 false true false false) := by
  refine returnsInHanded_of_cond (C := Try.checked) (s := Rows.OpenSpec.upto Rows.strongEqualSpec) (k := Rows.uptoSmall) rfl own started (by kernel_rfl) Try.func7
    (OpenSpec.witness (enc := enc) (C := Try.checked) (s := Rows.OpenSpec.upto Rows.strongEqualSpec) (k := Rows.uptoSmall) rfl false ⟨#[], #[.slice none 0 0, .agg #[.slice none 0 0], .agg #[.slice none 0 0]], []⟩ 8 (by kernel_rfl) (by kernel_rfl) (by kernel_rfl)
      (x := ([.nil, .agg [.nil], .agg [.nil]], [], [])) (by kernel_rfl) rfl (by kernel_rfl)) ?_
  intro W base args ds gs before hval hW _ hk _
  exact contract H enc W base args ds gs before hval hW hk

theorem strongEqual_said : Rows.StrongEqualUptoSaid :=
  OpenClaim.holds_of_cond 7 Try.f7 rfl rfl rfl rfl rfl rfl rfl ⟨rfl, rfl, rfl, rfl, rfl⟩ rfl rfl rfl rfl rfl (by kernel_rfl) Try.func7 (by kernel_rfl)
    (of_decide_eq_true (by kernel_rfl)) (by unfold Func.isWrapper; first | (rw [if_pos (by decide +kernel)]; kernel_rfl) | (rw [if_neg (by decide +kernel)]; exact ⟨rfl, rfl⟩))
    (fun os started H enc _ F => lifted os started H enc F)

#print axioms strongEqual_said
end Go.Proofs.Ytmciinikfjfegaa
