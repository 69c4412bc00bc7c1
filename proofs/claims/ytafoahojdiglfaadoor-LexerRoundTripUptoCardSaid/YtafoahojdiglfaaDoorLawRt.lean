/- LexerRoundTrip: the law -/
import Derived.Test.YtafoahojdiglfaaDoorFmt
namespace Go.Proofs.YtafoahojdiglfaaDoor
open Go Go.RowKit
set_option maxHeartbeats 4000000
attribute [local irreducible] kwB syB clB

set_option maxRecDepth 100000 in
theorem lexerRoundTrip_law (w : World) (hG : GlobE w.heap.size w) (hT : Tab w.heap.size w)
    (a0 : Option Addr) (n0 c0 : Nat) (l0 : List Tok) (hR0 : Rd w w.heap.size 5 a0 n0 (cellsOf Tok.cells l0)) (_hnil0 : a0 = none → c0 = 0 ∧ n0 = 0) (hn0 : n0 ≤ 1048576) (hs0 : ∀ t ∈ l0, TokIn t) :
    Calls Tryd.prog 11 #[.slice a0 n0 c0] w fun e w' => e = .returned (.bool true) ∧ Below w.heap.size w w' := by
  have HG := Lib.hid hG
  have HT := Lib.hid hT
  have HR0 := Lib.hid hR0
  have HS0 := Lib.hid hs0
  clear hG hT hR0 hs0
  go_enter Tryd.func11, Tryd.ntmps11
  go_wp2_with fail
  refine (someTokens_any a0 n0 c0 w.heap.size l0 _ HR0.out (Nat.le_refl _) (by omega) HS0.out).mono ?_
  rintro e w1 ⟨⟨A1, m1, d1, ls, rfl, hRs, hls, hm1⟩, hb1⟩
  have HB1 := Lib.hid hb1
  have HRs := Lib.hid hRs
  have HLs := Lib.hid hls
  clear hRs hls hb1 HR0 HS0
  go_wp2_with fail
  refine (lvalid_any A1 m1 d1 w1.heap.size ls _ HRs.out (Nat.le_refl _) (by omega) HLs.out).mono ?_
  rintro e w2 ⟨⟨A2, m2, d2, lv, rfl, hRv, hlv, hm2⟩, hb2⟩
  have HB2 := Lib.hid (HB1.out.trans (hb2.mono HB1.out.size))
  have HRv := Lib.hid hRv
  have HLv := Lib.hid hlv
  have HLn := Lib.hid (hRv.len Tok.cells_len (by decide))
  clear hRv hlv hb2 HRs HLs HB1
  have hall : lv.all validTok = true := List.all_eq_true.2 fun t ht => (HLv.out t ht).2
  have hF := fmtB_ok hall
  obtain ⟨out, ho1, ho2⟩ := round_trip lv (fun t ht => text_ok (HLv.out t ht).2 (HLv.out t ht).1.1.2) (by rw [HLn.out]; omega)
  have hsz : (fmtB lv).size ≤ 65536 := by
    rw [hF]
    have h1 := joinL_txt_len lv (fun t ht => text_ok (HLv.out t ht).2 (HLv.out t ht).1.1.2)
    have h2 := HLn.out
    show (txt (joinL lv)).length ≤ _
    omega
  have hsc : scanS (fmtB lv).data.toList = (out, ⟨0, 0⟩, 0) := by rw [hF, bstr_list, ho1]
  obtain ⟨s, hs⟩ : ∃ s, fmtB lv = s := ⟨_, rfl⟩
  rw [hs] at hsz hsc
  have HS := Lib.hid hs
  have HO1 := Lib.hid hsc
  have HO2 := Lib.hid ho2
  clear hall hF ho1 ho2 hsc hs
  go_wp2_with fail
  refine (lformat_any A2 m2 d2 w.heap.size w2.heap.size lv _ (HG.out.below HB2.out).g (fun w' hb => HT.out w' (HB2.out.trans hb)) HRv.out (Nat.le_refl _) (by omega) (fun t ht => (HLv.out t ht).1)).mono ?_
  rw [HS.out]
  rintro e w3 ⟨rfl, hb3⟩
  have HB3 := Lib.hid (HB2.out.trans (hb3.mono HB2.out.size))
  have HV3 := Lib.hid (HRv.out.below hb3)
  have HS3 := Lib.hid hb3.size
  clear hb3
  go_wp2_with fail
  refine (lscan_any _ s _ (HG.out.below HB3.out) (by omega)).mono ?_
  unfold ScPost
  rw [HO1.out]
  rintro e w4 ⟨⟨A4, n4, c4, rfl, _, _, hR4⟩, hb4⟩
  have hn4 : n4 = m2 := by
    have h1 := hR4.len Tok.cells_len (by decide)
    have h2 := out_len HO2.out
    have h3 := HLn.out
    dsimp only at h1
    omega
  subst hn4
  have HB4 := Lib.hid (HB3.out.trans ((hb4.mono HB3.out.size).alloc (Nat.le_trans HB3.out.size hb4.size) (.cells #[.int .i64 0, .int .i64 0] 32)))
  have HV4 := Lib.hid ((HV3.out.below (((hb4.mono HS3.out).alloc (Nat.le_trans HS3.out hb4.size) (.cells #[.int .i64 0, .int .i64 0] 32)))))
  have HR4 := Lib.hid (hR4.alloc (Nat.le_refl _) (.cells #[.int .i64 0, .int .i64 0] 32))
  have HS4 := Lib.hid (Nat.le_trans HS3.out hb4.size)
  clear hR4 hb4
  dsimp only [Pos.v]
  go_wp2_with fail
  refine (lawake_any _ _ (HG.out.below HB4.out)).mono ?_
  rintro e w5 ⟨rfl, hb5⟩
  have HB5 := Lib.hid (HB4.out.trans (hb5.mono HB4.out.size))
  have HR5 := Lib.hid (HR4.out.below (hb5.mono (by simp)))
  have HV5 := Lib.hid ((HV4.out.below (hb5.mono (by have := HS4.out; simp; omega))).more HS4.out)
  have HS5 := Lib.hid (show w4.heap.size ≤ w5.heap.size from Nat.le_trans (by simp) hb5.size)
  clear hb5
  go_wp2_with fail
  refine (same_any A4 A2 n4 c4 d2 w4.heap.size out lv _ HR5.out HV5.out HS5.out (by omega) HO2.out).mono ?_
  rintro e w6 ⟨rfl, hb6⟩
  have HB6 := Lib.hid (HB5.out.trans (hb6.mono HB5.out.size))
  clear hb6
  go_wp2_with fail
  go_ret
  exact ⟨ret_bool (by simp), HB6.out⟩

end Go.Proofs.YtafoahojdiglfaaDoor
