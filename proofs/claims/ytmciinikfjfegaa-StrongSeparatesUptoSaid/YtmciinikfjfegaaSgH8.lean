/- a drawn formula -/
import Derived.Test.YtmciinikfjfegaaSgR2
import Derived.Test.YtmciinikfjfegaaSgH1
import Derived.Test.YtmciinikfjfegaaRwG2
namespace Go.Proofs.Ytmciinikfjfegaa
open Go Go.RowKit
set_option maxHeartbeats 8000000

/-- a drawn formula: its row is one's own -/
def GfPost (w : World) (B b : Nat) (A : Option Addr) (n c i : Nat) (zs : List Int) (d : Nat) (e : Ending) (w' : World) : Prop :=
  ∃ (v : Value) (F : Form), e = .returned v ∧ w'.ownsRow 0 58 3 v F.enc.length (cellsOf FNode.cells F.enc) ∧ (∀ g, v.ownBlock = some g → w.heap.size ≤ g) ∧ FormOk F ∧ F.enc.length + 1 ≤ 2 * 2 ^ d ∧ (∃ j, j + 3 ≤ i + 4 * 2 ^ d ∧ TpAt w' B b A n c zs j) ∧ Outside (fun k => k = b) w w'

/-- a node's literal, then a subformula's row behind it -/
theorem gf_app {w w3 w8 : World} {B b : Nat} {A : Option Addr} {n c j : Nat} {zs : List Int} {vl v8 : Value} (hb : b < w.heap.size) (hT : TpAt w3 B b A n c zs j) (hO : Outside (fun k => k = b) w w3)
    (hbl : ∀ g, vl.ownBlock = some g → w.heap.size ≤ g) (hg : w3.grownBy w8 vl.ownBlock) (hat : v8.ownBlock = vl.ownBlock ∨ v8.ownBlock = some w3.heap.size) :
    TpAt w8 B b A n c zs j ∧ Outside (fun k => k = b) w w8 ∧ (∀ g, v8.ownBlock = some g → w.heap.size ≤ g) ∧ Outside (fun x => vl.ownBlock = some x) w3 w8 := by
  have hO8 : Outside (fun x => vl.ownBlock = some x) w3 w8 := (Outside.refl (fun x => vl.ownBlock = some x) w3).grown hg (fun z hz => .inl hz)
  have hsz := hO.size
  refine ⟨hT.out hO8 (fun e => by have := hbl b e; omega) (fun k hk e => by have := hbl k e; have := hT.lo; omega),
    ((hO.mono fun k _ e => .inl e).trans (hO8.mono fun k _ e => .inr (hbl k e)) : Outside (fun k => k = b ∨ w.heap.size ≤ k) w w8).mono fun k hk e => e.resolve_right (by omega), fun g hg => ?_, hO8⟩
  rcases hat with h | h
  · rw [h] at hg
    exact hbl g hg
  · rw [h] at hg
    injection hg with hg
    omega

set_option maxRecDepth 100000 in
theorem gform_any (B b : Nat) (A : Option Addr) (n c : Nat) (zs : List Int) (hn : n ≤ 1000000000000) : ∀ (d : Nat), d ≤ 4 → ∀ (i : Nat) (w : World), TpAt w B b A n c zs i → i + 4 * 2 ^ d ≤ 1000000 →
    Calls Try.prog 30 #[.pointer (some ⟨b, 0, none⟩), .int .i64 d] w (GfPost w B b A n c i zs d)
  | 0, _, i, w, h, hi => by
    have H := Lib.hid h
    have hbw : b < w.heap.size := h.blk.lt
    clear h
    go_enter Try.func30, Try.ntmps30
    go_wp2_with fail
    refine (tnext_any B b A n c i zs 5 w H.out hn (by omega) (by decide) (by decide)).mono ?_
    rintro e w2 ⟨⟨r, rfl, hr0, hr1⟩, hT2, hO2⟩
    have HZ := Lib.hid (show GfPost w B b A n c i zs 0 (.returned (.slice (some ⟨w2.heap.size, 0, none⟩) 1 1)) (w2.alloc (.cells #[.int .i64 1, .int .i64 0, .int .i64 0] 58)) from
      ⟨_, .tru, rfl, own_new w2 58 3 1 [.int .i64 1, .int .i64 0, .int .i64 0] rfl (by decide), fun g hg => by
        have h1 : w2.heap.size = g := by simpa [Value.ownBlock] using hg
        have := hO2.size
        omega, trivial, by simp [Form.enc], ⟨i + 1, by simp, hT2.alloc _⟩, hO2.alloc _⟩)
    clear hT2 hO2
    go_wp2_with fail
    go_ret
    exact HZ.out
  | d + 1, hd, i, w, h, hi => by
    have H := Lib.hid h
    have hbw : b < w.heap.size := h.blk.lt
    have HI := Lib.hid (gform_any B b A n c zs hn d (by omega))
    have hd0 : (((d : Int) + 1) == 0) = false := beq_eq_false_iff_ne.2 (by omega)
    have hp : 2 ^ (d + 1) = 2 * 2 ^ d := by rw [Nat.pow_succ]; omega
    have hp1 : 1 ≤ 2 ^ d := Nat.one_le_two_pow
    have hp4 : 2 ^ d ≤ 8 := Nat.le_trans (Nat.pow_le_pow_right (by decide) (show d ≤ 3 by omega)) (by decide)
    clear h
    go_enter Try.func30, Try.ntmps30
    go_wp2_with fail
    refine (tnext_any B b A n c i zs 5 w H.out hn (by omega) (by decide) (by decide)).mono ?_
    rintro e w2 ⟨⟨r, rfl, hr0, hr1⟩, hT2, hO2⟩
    have hs2 := hO2.size
    have HT2 := Lib.hid hT2
    have HO2 := Lib.hid hO2
    clear hT2 hO2
    rcases (show r = 0 ∨ r = 1 ∨ r = 2 ∨ 3 ≤ r by omega) with rfl | rfl | rfl | hr3
    · have HZ := Lib.hid (show GfPost w B b A n c i zs (d + 1) (.returned (.slice (some ⟨w2.heap.size, 0, none⟩) 1 1)) (w2.alloc (.cells #[.int .i64 1, .int .i64 0, .int .i64 0] 58)) from
        ⟨_, .tru, rfl, own_new w2 58 3 1 [.int .i64 1, .int .i64 0, .int .i64 0] rfl (by decide), fun g hg => by
          have h1 : w2.heap.size = g := by simpa [Value.ownBlock] using hg
          omega, trivial, (show 1 + 1 ≤ 2 * 2 ^ (d + 1) by omega), ⟨i + 1, by omega, HT2.out.alloc _⟩, HO2.out.alloc _⟩)
      go_wp2_with fail
      go_ret
      exact HZ.out
    · go_wp2_with fail
      refine (HI.out (i + 1) _ (HT2.out.alloc (.cells #[.int .i64 3, .int .i64 0, .int .i64 1] 58)) (by omega)).mono ?_
      rintro e w3 ⟨v3, F3, rfl, hown3, hb3, hok3, hl3, ⟨j3, hj3, hT3⟩, hO3⟩
      obtain ⟨A3, c3, rfl, _, _⟩ := own_form hown3
      have HLit := Lib.hid (own_out (own_new w2 58 3 1 [.int .i64 3, .int .i64 0, .int .i64 1] rfl (by decide)) hO3 (fun x hx e => by
        have h1 : w2.heap.size = x := by simpa [Value.ownBlock] using hx
        have e1 : x = b := e
        omega))
      have HR3 := Lib.hid (Rd.ofOwn hown3)
      have HT3 := Lib.hid hT3
      have HO3 := Lib.hid ((HO2.out.alloc (.cells #[.int .i64 3, .int .i64 0, .int .i64 1] 58)).trans hO3)
      clear hown3 hb3 hT3 hO3
      go_wp2_with (first | (at_builtin; go_must (refine appList_opt rfl slFN rfl HLit.out rfl HR3.out (c := c3) rfl (node_ones _) (by unfold maxLen; omega) (by omega) ?_); intro v8 w8 hown8 hgrow8 hat8; refine Stop7.intro ?_))
      unfold Stop7
      obtain ⟨hT8, hO8, hB8, _⟩ := gf_app hbw HT3.out HO3.out (fun x hx => by
        have h1 : w2.heap.size = x := by simpa [Value.ownBlock] using hx
        omega) hgrow8 hat8
      have hlen : (Form.neg F3).enc.length = 1 + F3.enc.length := by rw [Form.enc, List.length_cons]; omega
      have HZ := Lib.hid (show GfPost w B b A n c i zs (d + 1) (.returned v8) w8 from
        ⟨v8, Form.neg F3, rfl, by rw [hlen, Form.enc]; exact hown8, hB8, hok3, by omega, ⟨j3, by omega, hT8⟩, hO8⟩)
      clear hown8 hgrow8 hat8 hT8 hO8 hB8
      go_wp2_with fail
      go_ret
      exact HZ.out
    · go_wp2_with fail
      refine (HI.out (i + 1) w2 HT2.out (by omega)).mono ?_
      rintro e w3 ⟨v3, F3, rfl, hown3, hb3, hok3, hl3, ⟨j3, hj3, hT3⟩, hO3⟩
      obtain ⟨A3, c3, rfl, _, _⟩ := own_form hown3
      have HW3 := Lib.hid (And.intro hown3 (And.intro hT3 (HO2.out.trans hO3)))
      have hs3 := hO3.size
      clear hown3 hb3 hT3 hO3
      go_wp2_with fail
      refine (HI.out j3 w3 HW3.out.2.1 (by omega)).mono ?_
      rintro e w4 ⟨v4, F4, rfl, hown4, hb4, hok4, hl4, ⟨j4, hj4, hT4⟩, hO4⟩
      obtain ⟨A4, c4, rfl, _, _⟩ := own_form hown4
      have hs4 := hO4.size
      have HR3 := Lib.hid ((Rd.ofOwn (own_out HW3.out.1 hO4 (fun x hx e => own_apart HW3.out.1 HW3.out.2.1.blk (by decide) (by rw [hx, e])))).alloc (Nat.le_refl _) (.cells #[.int .i64 4, .int .i64 0, .int .i64 2] 58))
      have HLit := Lib.hid (own_new w4 58 3 1 [.int .i64 4, .int .i64 0, .int .i64 2] rfl (by decide))
      have H4 := Lib.hid (And.intro (hown4.alloc (.cells #[.int .i64 4, .int .i64 0, .int .i64 2] 58)) (And.intro (hT4.alloc (.cells #[.int .i64 4, .int .i64 0, .int .i64 2] 58)) ((HW3.out.2.2.trans hO4).alloc (.cells #[.int .i64 4, .int .i64 0, .int .i64 2] 58))))
      have HL4 := Lib.hid (show ∀ x, (Value.slice A4 F4.enc.length c4).ownBlock = some x → x < w4.heap.size from fun x hx => own_lt hown4 hx)
      clear hown4 hb4 hT4 hO4
      go_wp2_with (first | (at_builtin; go_must (refine appList_opt rfl slFN rfl HLit.out rfl HR3.out (c := c3) rfl (node_ones _) (by unfold maxLen; omega) (by omega) ?_); intro v8 w8 hown8 hgrow8 hat8; refine Stop7.intro ?_))
      unfold Stop7
      obtain ⟨hT8, hO8, hB8, hX8⟩ := gf_app hbw H4.out.2.1 H4.out.2.2 (fun x hx => by
        have h1 : w4.heap.size = x := by simpa [Value.ownBlock] using hx
        omega) hgrow8 hat8
      obtain ⟨A8, c8, rfl, _, _⟩ := own_form hown8
      have HO8 := Lib.hid hown8
      have HX8 := Lib.hid (And.intro hT8 (And.intro hO8 hB8))
      have HR4 := Lib.hid (Rd.ofOwn (own_out H4.out.1 hX8 (fun x hx e => by
        have h1 : w4.heap.size = x := by simpa [Value.ownBlock] using e
        have := HL4.out x hx
        omega)))
      clear hown8 hgrow8 hat8 hT8 hO8 hB8 hX8
      go_wp2_with (first | (at_builtin; go_must (refine appList_opt rfl slFN rfl HO8.out rfl HR4.out (c := c4) rfl (node_ones _) (by unfold maxLen; omega) (by omega) ?_); intro v9 w9 hown9 hgrow9 hat9; refine Stop7.intro ?_))
      unfold Stop7
      obtain ⟨hT9, hO9, hB9, _⟩ := gf_app hbw HX8.out.1 HX8.out.2.1 HX8.out.2.2 hgrow9 hat9
      have henc : (Form.con (.cons F3 (.cons F4 .nil))).enc = [FNode.mk 4 0 2] ++ F3.enc ++ F4.enc := by
        rw [Form.enc, Forms.enc, Forms.enc, Forms.enc, List.append_nil]
        rfl
      have hlen : (Form.con (.cons F3 (.cons F4 .nil))).enc.length = 1 + F3.enc.length + F4.enc.length := by rw [henc, List.length_append, List.length_append]; rfl
      have HZ := Lib.hid (show GfPost w B b A n c i zs (d + 1) (.returned v9) w9 from
        ⟨v9, .con (.cons F3 (.cons F4 .nil)), rfl, by rw [hlen, henc, cellsOf_append, cellsOf_append]; exact hown9, hB9, ⟨hok3, hok4, trivial⟩, by omega, ⟨j4, by omega, hT9⟩, hO9⟩)
      clear hown9 hgrow9 hat9 hT9 hO9 hB9
      go_wp2_with fail
      go_ret
      exact HZ.out
    · have hr0' : (r == 0) = false := beq_eq_false_iff_ne.2 (by omega)
      have hr1' : (r == 1) = false := beq_eq_false_iff_ne.2 (by omega)
      have hr2' : (r == 2) = false := beq_eq_false_iff_ne.2 (by omega)
      go_wp2_with fail
      refine (event_any B b A n c (i + 1) zs w2 HT2.out hn (by omega)).mono ?_
      rintro e w5 ⟨⟨ev_, rfl, he0, he1⟩, hT5, hO5⟩
      have HT5 := Lib.hid hT5
      have HO5 := Lib.hid (HO2.out.trans hO5)
      have hs5 := hO5.size
      clear hT5 hO5
      go_wp2_with fail
      refine (HI.out (i + 1 + 1) _ (HT5.out.alloc (.cells #[.int .i64 2, .int .i64 ev_, .int .i64 1] 58)) (by omega)).mono ?_
      rintro e w3 ⟨v3, F3, rfl, hown3, hb3, hok3, hl3, ⟨j3, hj3, hT3⟩, hO3⟩
      obtain ⟨A3, c3, rfl, _, _⟩ := own_form hown3
      have HLit := Lib.hid (own_out (own_new w5 58 3 1 [.int .i64 2, .int .i64 ev_, .int .i64 1] rfl (by decide)) hO3 (fun x hx e => by
        have h1 : w5.heap.size = x := by simpa [Value.ownBlock] using hx
        have e1 : x = b := e
        omega))
      have HR3 := Lib.hid (Rd.ofOwn hown3)
      have HT3 := Lib.hid hT3
      have HO3 := Lib.hid ((HO5.out.alloc (.cells #[.int .i64 2, .int .i64 ev_, .int .i64 1] 58)).trans hO3)
      clear hown3 hb3 hT3 hO3
      go_wp2_with (first | (at_builtin; go_must (refine appList_opt rfl slFN rfl HLit.out rfl HR3.out (c := c3) rfl (node_ones _) (by unfold maxLen; omega) (by omega) ?_); intro v8 w8 hown8 hgrow8 hat8; refine Stop7.intro ?_))
      unfold Stop7
      obtain ⟨hT8, hO8, hB8, _⟩ := gf_app hbw HT3.out HO3.out (fun x hx => by
        have h1 : w5.heap.size = x := by simpa [Value.ownBlock] using hx
        omega) hgrow8 hat8
      have hlen : (Form.may ev_ F3).enc.length = 1 + F3.enc.length := by rw [Form.enc, List.length_cons]; omega
      have HZ := Lib.hid (show GfPost w B b A n c i zs (d + 1) (.returned v8) w8 from
        ⟨v8, Form.may ev_ F3, rfl, by rw [hlen, Form.enc]; exact hown8, hB8, ⟨⟨by omega, by omega⟩, hok3⟩, by omega, ⟨j3, by omega, hT8⟩, hO8⟩)
      clear hown8 hgrow8 hat8 hT8 hO8 hB8
      go_wp2_with fail
      go_ret
      exact HZ.out

end Go.Proofs.Ytmciinikfjfegaa
