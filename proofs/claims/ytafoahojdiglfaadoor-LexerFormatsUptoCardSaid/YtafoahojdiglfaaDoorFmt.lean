/- lexer.Format and the reference's FormatTokens: the text of valid tokens, else nothing -/
import Derived.Test.YtafoahojdiglfaaDoorJoin
import Derived.Test.YtafoahojdiglfaaDoorLawSepa
import Derived.Lib.AppendIntMem
import Derived.OwnWalk
namespace Go.Proofs.YtafoahojdiglfaaDoor
open Go Go.RowKit
set_option maxHeartbeats 4000000
attribute [local irreducible] kwB syB clB

def tB (t : Tok) : ByteArray := bstr (textS t)
/-- what Format gives -/
def fmtB (l : List Tok) : ByteArray := if l.all validTok then bstr (txt (joinL l)) else ⟨#[]⟩
theorem fmtB_ok {l : List Tok} (h : l.all validTok = true) : fmtB l = bstr (txt (joinL l)) := by rw [fmtB, if_pos h]
theorem fmtB_no {l : List Tok} {k : Nat} {t : Tok} (h : l[k]? = some t) (ht : validTok t = false) : fmtB l = ⟨#[]⟩ := by
  rw [fmtB, if_neg]
  intro h2
  rw [List.all_eq_true.1 h2 t (List.mem_of_getElem? h)] at ht
  cases ht
theorem all_next {l : List Tok} {k : Nat} {t : Tok} (h : l[k]? = some t) (ht : validTok t = true) (h2 : (l.take k).all validTok = true) : (l.take (k + 1)).all validTok = true := by
  obtain ⟨hk, he⟩ := List.getElem?_eq_some_iff.1 h
  rw [List.take_succ_eq_append_getElem hk, he, List.all_append, h2]
  simp [ht]
theorem tB_next {l : List Tok} {k : Nat} {t : Tok} (h : l[k]? = some t) : (l.take (k + 1)).map tB = (l.take k).map tB ++ [tB t] := by
  obtain ⟨hk, he⟩ := List.getElem?_eq_some_iff.1 h
  rw [List.take_succ_eq_append_getElem hk, he, List.map_append]
  rfl
theorem tB_bl (l : List Tok) : joinW ((l.map tB).map bl) = txt (joinL l) := by
  rw [txt_joinW, List.map_map]
  exact congrArg joinW (List.map_congr_left fun t _ => (by simp [bl, tB, bstr_list]))
theorem dec_eq (n : Nat) : Lib.decDigits n = decL n := by
  by_cases h : n < 10
  · rw [Lib.decDigits, dif_pos h, decL_small h]
    rfl
  · rw [Lib.decDigits, dif_neg h, decL_big h, dec_eq (n / 10)]
    rfl
termination_by n
decreasing_by omega
theorem itoa_text {i : Int} {s : ByteArray} {p : Pos} (h : 0 ≤ i) : (⟨(Lib.itoa i).toArray⟩ : ByteArray) = tB ⟨2, i, s, p⟩ := by
  unfold tB textS
  rw [if_pos rfl]
  unfold Lib.itoa
  rw [if_neg (by omega), dec_eq]
  rfl
theorem tok_text {t : Tok} (h : validTok t = true) (hi : TokIn t) : (tB t).size ≤ 64 := (text_ok h hi.1.2).len

/-- the table that FormatInt reads -/
def Tab (B : Nat) (w : World) : Prop := Lib.TabBelow Tryd.prog B w "internal/strconv.uint64pow10" .u64 Lib.pow10Tab

set_option maxRecDepth 100000 in
theorem lformat_any (A : Option Addr) (n c B B1 : Nat) (l : List Tok) (w : World) (hG : Glob B w) (hT : Tab B w) (h : Rd w B1 5 A n (cellsOf Tok.cells l)) (hB : B1 ≤ w.heap.size) (hn : n ≤ 1000) (hl : ∀ t ∈ l, TokIn t) :
    Calls Tryd.prog 29 #[.slice A n c] w fun e w' => e = .returned (.string (fmtB l)) ∧ Below w.heap.size w w' := by
  have H := Lib.hid h
  have HG := Lib.hid hG
  have HT := Lib.hid hT
  have HL := Lib.hid hl
  have HN := Lib.hid (h.len Tok.cells_len (by decide))
  have HBW := Lib.hid hG.size
  clear h hG hT hl
  obtain ⟨i0, hi, hz0, hz1, hz2⟩ := info_parts infoStr
  go_enter Tryd.func29, Tryd.ntmps29
  go_wp2_with (at_make; refine wpList_make_own _ rfl _ _ 27 rfl 0 9 i0 (.string ByteArray.empty) 1 Tryd.underlying27 hi hz0 hz1 _ _ _ n rfl rfl rfl (by rw [hz2]; omega) (by unfold maxLen; omega) (Nat.zero_le _) ?_; intro w0 hown0 hgrow0)
  have HO0 := Lib.hid hown0
  have HB0 := Lib.hid ((Below.refl w.heap.size w).grown hgrow0 (Nat.le_refl _) (fun k hk => by cases hk))
  clear hown0 hgrow0
  go_wp2
  go_loopw [3, 11] (fun vo vk wr => ∃ k : Nat, k ≤ n ∧ vk = .int .i64 k ∧ Hid (wr.ownsRow 0 9 1 vo k (cellsOf scell ((l.take k).map tB)) ∧ (∀ g, vo.ownBlock = some g → w.heap.size ≤ g) ∧ (l.take k).all validTok = true ∧ Below w.heap.size w wr)) (fun _ vk _ => n - (intOf vk).toNat)
  case atStart => exact ⟨0, Nat.zero_le _, rfl, Lib.hid ⟨by simpa [cellsOf] using HO0.out, fun g hg => (by cases hg; exact Nat.le_refl _), rfl, HB0.out⟩⟩
  case round =>
    obtain ⟨k, hk, rfl, HW⟩ := hrel
    obtain ⟨Ao, capo, rfl, hcap, _⟩ := own_form HW.out.1
    clear HO0 HB0
    by_cases hlt : k < n
    · obtain ⟨b1, o1, t, rfl, hb1, ht, c0, c1, c2, c3, c4⟩ := (H.out.keep (w' := wr) (fun p hp => HW.out.2.2.2.cell (by omega))).tok hlt
      obtain ⟨tk, ti, ts, ⟨tl, tc⟩⟩ := t
      have htin := HL.out _ (List.mem_of_getElem? ht)
      have HTI := Lib.hid htin
      have HTT := Lib.hid ht
      have HN1 := Lib.hid (Blk.new wr 37 #[.int .i64 tk, .int .i64 ti, .string ts, .int .i64 tl, .int .i64 tc])
      have HB1 := Lib.hid (HW.out.2.2.2.alloc HW.out.2.2.2.size (.cells #[.int .i64 tk, .int .i64 ti, .string ts, .int .i64 tl, .int .i64 tc] 37))
      have HO1 := Lib.hid (HW.out.1.alloc (.cells #[.int .i64 tk, .int .i64 ti, .string ts, .int .i64 tl, .int .i64 tc] 37))
      have hts : (Tok.mk tk ti ts ⟨tl, tc⟩).str.size ≤ 1000000000000 := Nat.le_trans htin.2 (by decide)
      obtain ⟨q, hq⟩ : ∃ q, validTok ⟨tk, ti, ts, ⟨tl, tc⟩⟩ = q := ⟨_, rfl⟩
      have HQ := Lib.hid hq
      clear hq ht htin
      dsimp only at c0 c1 c2 c3 c4
      go_wp2_with fail
      refine (valid_any B ⟨tk, ti, ts, ⟨tl, tc⟩⟩ _ (HG.out.below (HB1.out.mono HBW.out)) hts).mono ?_
      rw [HQ.out]
      rintro e w2 ⟨rfl, hb2⟩
      have HB2 := Lib.hid (HB1.out.trans (hb2.mono HB1.out.size))
      have hN2 := HN1.out.below hb2 HN1.out.lt
      have HN2 := Lib.hid hN2
      have HO2 := Lib.hid (own_out HO1.out (Below.new hb2) (fun _ _ h => h))
      have hN2c := hN2.cell
      have hN2l := hN2.lt
      have hN2f := hN2.frozen
      clear hb2 hN2 c0 c1 c2 c3 c4 HN1 HO1
      cases q
      · have HF := Lib.hid (fmtB_no HTT.out HQ.out)
        go_wp2_with fail
        go_ret
        exact ⟨ret_str HF.out.symm, HB2.out⟩
      · by_cases hk2 : tk = 2
        · subst hk2
          have h0i : 0 ≤ ti := valid_int HQ.out rfl
          have hrng := HTI.out.1
          have HE := Lib.hid (itoa_text (s := ts) (p := ⟨tl, tc⟩) h0i)
          have hlen := tok_text HQ.out HTI.out
          go_wp2_with fail
          refine (format_lay ti hrng.1 hrng.2 _ (HT.out _ (HB2.out.mono HBW.out))).mono ?_
          rintro e w3 ⟨rfl, kd, os, hw3⟩
          rw [HE.out]
          obtain ⟨x, hx⟩ : ∃ x, tB ⟨2, ti, ts, ⟨tl, tc⟩⟩ = x := ⟨_, rfl⟩
          rw [hx] at hlen ⊢
          have HX := Lib.hid hx
          have hb3 : Below w2.heap.size w2 w3 := by rw [hw3]; exact Lib.below_grow _ _ (Nat.le_refl _) kd os
          have HB3 := Lib.hid (HB2.out.trans (hb3.mono HB2.out.size))
          have hN3 := HN2.out.below hb3 HN2.out.lt
          have HN3 := Lib.hid hN3
          have HO3 := Lib.hid (own_out HO2.out (Below.new hb3) (fun _ _ h => h))
          have hN3c := hN3.cell
          have hN3l := hN3.lt
          have hN3f := hN3.frozen
          have e2 := cell_put HN3.out 2 (by simp) (.string x)
          have hgo : ∀ g, (Value.slice Ao k capo).ownBlock = some g → ¬ g = wr.heap.size := fun g hg => by have := own_lt HW.out.1 hg; omega
          have HO4 := Lib.hid (own_out HO3.out ((Outside.refl (fun z => z = wr.heap.size) w3).setCell (p := ⟨wr.heap.size, 2, none⟩) (.inl rfl) (.string x)) hgo)
          have HB4 := Lib.hid (HB3.out.setCell (p := ⟨wr.heap.size, 2, none⟩) HW.out.2.2.2.size (.string x))
          clear hb3 hN3 hw3 hx hN2c hN2l hN2f HN2 HO2 hgo
          go_wp2_with (first | (at_builtin; refine appList_blk rfl slStr rfl (HO4.out.alloc _) rfl (news := [.string x]) ((heap_alloc_at (by simp)) : Blk _ w3.heap.size _ _) rfl rfl (by simp [Value.oneCell']) (by decide) (by unfold maxLen; omega) (by omega) ?_; intro g7 cap7 w7 hown7 hgrow7 hat7))
          go_roundw
          case rel =>
            refine ⟨k + 1, by omega, by go_num, Lib.hid ⟨?_, fun g hg => ?_, all_next HTT.out HQ.out HW.out.2.2.1, ?_⟩⟩
            · rw [tB_next HTT.out, HX.out]
              simpa [cellsOf, scell] using hown7
            · cases hg
              rcases hat7 with h1 | h1
              · exact HW.out.2.1 _ h1
              · have := HB4.out.size
                simp at h1
                show w.heap.size ≤ g7
                (try simp at this)
                omega
            · have hbb := HB4.out.alloc HB4.out.size (.cells [Value.string x].toArray 9)
              have hO : Outside (fun z => (Value.slice Ao k capo).ownBlock = some z) _ w7 := (Outside.refl _ _).grown hgrow7 (fun z hz => .inl hz)
              exact hbb.trans (hO.below hbb.size (fun z hz e => by have := HW.out.2.1 z e; omega))
          case measure => simp [intOf]; omega
        · have hk2b : (tk == 2) = false := beq_eq_false_iff_ne.2 hk2
          have hlen := tok_text HQ.out HTI.out
          have HX := Lib.hid (show tB ⟨tk, ti, ts, ⟨tl, tc⟩⟩ = ts from bstr_text hk2)
          rw [HX.out] at hlen
          obtain ⟨x, hx⟩ : ∃ x, ts = x := ⟨_, rfl⟩
          subst hx
          have HO4 := HO2
          have HB4 := HB2
          go_wp2_with (first | (at_builtin; refine appList_blk rfl slStr rfl (HO4.out.alloc _) rfl (news := [.string ts]) ((heap_alloc_at rfl) : Blk _ w2.heap.size _ _) rfl rfl (by simp [Value.oneCell']) (by decide) (by unfold maxLen; omega) (by omega) ?_; intro g7 cap7 w7 hown7 hgrow7 hat7))
          go_roundw
          case rel =>
            refine ⟨k + 1, by omega, by go_num, Lib.hid ⟨?_, fun g hg => ?_, all_next HTT.out HQ.out HW.out.2.2.1, ?_⟩⟩
            · rw [tB_next HTT.out, HX.out]
              simpa [cellsOf, scell] using hown7
            · cases hg
              rcases hat7 with h1 | h1
              · exact HW.out.2.1 _ h1
              · have := HB4.out.size
                simp at h1
                show w.heap.size ≤ g7
                (try simp at this)
                omega
            · have hbb := HB4.out.alloc HB4.out.size (.cells [Value.string ts].toArray 9)
              have hO : Outside (fun z => (Value.slice Ao k capo).ownBlock = some z) _ w7 := (Outside.refl _ _).grown hgrow7 (fun z hz => .inl hz)
              exact hbb.trans (hO.below hbb.size (fun z hz e => by have := HW.out.2.1 z e; omega))
          case measure => simp [intOf]; omega
    · have hk3 : l.take k = l := List.take_of_length_le (by rw [HN.out]; omega)
      have hkn : k = n := by omega
      subst hkn
      have hA := HW.out.2.2.1
      have hO := HW.out.1
      rw [hk3] at hA hO
      have HF := Lib.hid (fmtB_ok hA)
      have HR := Lib.hid (Rd.ofOwn hO)
      have HA := Lib.hid hA
      have HJ := Lib.hid (tB_bl l)
      have hsm : ∀ x ∈ l.map tB, x.size ≤ 100 := fun x hx => by
        obtain ⟨t, ht, rfl⟩ := List.mem_map.1 hx
        exact Nat.le_trans (tok_text (List.all_eq_true.1 HA.out t ht) (HL.out t ht)) (by decide)
      have HSM := Lib.hid hsm
      clear hA hO hk3 hsm
      go_wp2_with fail
      refine (join_any Ao k capo wr.heap.size (l.map tB) _ HR.out (Nat.le_refl _) hn hcap HSM.out).mono ?_
      rintro e w3 ⟨rfl, hb3⟩
      have HB3 := Lib.hid (HW.out.2.2.2.trans (hb3.mono HW.out.2.2.2.size))
      clear hb3
      go_wp2_with fail
      go_ret
      exact ⟨ret_str (by rw [HF.out, ← HJ.out, List.map_map]), HB3.out⟩

end Go.Proofs.YtafoahojdiglfaaDoor
