/- the lexer's laws: awake, agrees -/
import Derived.Test.YtafoahojdiglfaaDoorLs8
import Derived.Test.YtafoahojdiglfaaDoorLw1
namespace Go.Proofs.YtafoahojdiglfaaDoor
open Go Go.RowKit
set_option maxHeartbeats 4000000

theorem aw_one : (scanS [80, 32, 61, 32, 97, 45, 62, 83, 84, 79, 80, 32, 45, 45, 32, 120]).2 = (⟨0, 0⟩, 0) ∧ (scanS [80, 32, 61, 32, 97, 45, 62, 83, 84, 79, 80, 32, 45, 45, 32, 120]).1.length = 5 ∧
    (scanS [80, 32, 61, 32, 97, 45, 62, 83, 84, 79, 80, 32, 45, 45, 32, 120]).1[3]? = some ⟨4, 0, ⟨#[45, 62]⟩, ⟨1, 6⟩⟩ := by decide +kernel
theorem aw_two : (scanS [48, 48, 55]).2 = (⟨1, 1⟩, 2) := by decide +kernel
attribute [local irreducible] kwB syB clB

set_option maxRecDepth 100000 in
theorem lagrees_any (B : Nat) (s : ByteArray) (w : World) (hG : GlobE B w) (hs : s.size ≤ 1000000000000) :
    Calls Tryd.prog 13 #[.string s] w fun e w' => e = .returned (.bool true) ∧ Below w.heap.size w w' := by
  have HG := Lib.hid hG
  clear hG
  have hsm := scanS_small s.data.toList
  rw [blen] at hsm
  go_enter Tryd.func13, Tryd.ntmps13
  go_wp2_with fail
  refine (lscan_any B s _ HG.out hs).mono ?_
  unfold ScPost
  obtain ⟨⟨ol, op, oe⟩, hol⟩ : ∃ x, scanS s.data.toList = x := ⟨_, rfl⟩
  rw [hol] at hsm ⊢
  have HOL := Lib.hid hol
  clear hol
  rintro e w1 ⟨⟨A1, n1, c1, rfl, _, _, hR1⟩, hb1⟩
  have HL1 := Lib.hid (hR1.len Tok.cells_len (by decide))
  have HR1 := Lib.hid (hR1.alloc (Nat.le_refl _) (.cells #[.int .i64 op.line, .int .i64 op.col] 32))
  have HB1 := Lib.hid (hb1.alloc hb1.size (.cells #[.int .i64 op.line, .int .i64 op.col] 32))
  have HN1 := Lib.hid (Blk.new w1 32 #[.int .i64 op.line, .int .i64 op.col])
  clear hR1 hb1
  dsimp only [Pos.v]
  go_wp2_with fail
  refine (scan_any s _ hs).mono ?_
  unfold ScPost
  rw [HOL.out]
  rintro e w2 ⟨⟨A2, n2, c2, rfl, _, _, hR2⟩, hb2⟩
  have hn2 : n2 = n1 := (hR2.len Tok.cells_len (by decide)).symm.trans HL1.out
  subst hn2
  have HB2 := Lib.hid (HB1.out.trans (hb2.mono HB1.out.size))
  have HR1b := Lib.hid (((HR1.out.below (hb2.mono (by simp))).more (show w1.heap.size ≤ w2.heap.size from Nat.le_trans (by simp) hb2.size)).alloc (Nat.le_refl _) (.cells #[.int .i64 op.line, .int .i64 op.col] 32))
  have HR2 := Lib.hid (hR2.alloc (Nat.le_refl _) (.cells #[.int .i64 op.line, .int .i64 op.col] 32))
  have HN1b := Lib.hid ((HN1.out.below hb2 HN1.out.lt).alloc (.cells #[.int .i64 op.line, .int .i64 op.col] 32))
  have HN2 := Lib.hid (Blk.new w2 32 #[.int .i64 op.line, .int .i64 op.col])
  have HB2a := Lib.hid (HB2.out.alloc HB2.out.size (.cells #[.int .i64 op.line, .int .i64 op.col] 32))
  have hn1 : n2 ≤ 1000000000 := by
    have h1 := hsm.2
    have h2 := HL1.out
    (try dsimp only at h1 h2)
    omega
  clear hR2 hb2
  dsimp only [Pos.v]
  go_wp2_with fail
  refine (equal_same A1 A2 n2 c1 c2 w2.heap.size ol _ HR1b.out HR2.out (by simp) hn1).mono ?_
  rintro e w3 ⟨rfl, hb3⟩
  have HB3 := Lib.hid (HB2a.out.trans (hb3.mono HB2a.out.size))
  have hX := HN1b.out.below hb3 HN1b.out.lt
  have hY := HN2.out.below hb3 HN2.out.lt
  have hXc := hX.cell
  have hXl := hX.lt
  have hYc := hY.cell
  have hYl := hY.lt
  clear hX hY hb3
  go_wp2_with fail
  go_ret
  exact ⟨ret_bool (by simp), HB3.out⟩

set_option maxRecDepth 100000 in
theorem lawake_any (B : Nat) (w : World) (hG : GlobE B w) : Calls Tryd.prog 12 #[] w fun e w' => e = .returned (.bool true) ∧ Below w.heap.size w w' := by
  have HG := Lib.hid hG
  clear hG
  go_enter Tryd.func12, Tryd.ntmps12
  go_wp2_with fail
  refine (lscan_any B _ _ HG.out (by decide)).mono ?_
  unfold ScPost
  obtain ⟨⟨ol, op, oe⟩, hol⟩ : ∃ x, scanS [80, 32, 61, 32, 97, 45, 62, 83, 84, 79, 80, 32, 45, 45, 32, 120] = x := ⟨_, rfl⟩
  dsimp only
  rw [hol]
  have a1 := aw_one
  rw [hol] at a1
  obtain ⟨ha, hb, hc⟩ := a1
  injection ha with ha1 ha2
  dsimp only at hb hc
  subst ha1 ha2
  clear hol
  rintro e w1 ⟨⟨A1, n1, c1, rfl, _, _, hR1⟩, hb1⟩
  have hn : n1 = 5 := (hR1.len Tok.cells_len (by decide)).symm.trans hb
  subst hn
  have HC := Lib.hid hc
  have HR1 := Lib.hid (hR1.alloc (Nat.le_refl _) (.cells #[.int .i64 0, .int .i64 0] 32))
  have HB1 := Lib.hid (hb1.alloc hb1.size (.cells #[.int .i64 0, .int .i64 0] 32))
  have HN1 := Lib.hid (Blk.new w1 32 #[.int .i64 0, .int .i64 0])
  clear hR1 hb1 hb hc
  dsimp only [Pos.v]
  go_wp2_with fail
  refine (lscan_any B _ _ (HG.out.below (HB1.out.mono HG.out.g.size)) (by decide)).mono ?_
  unfold ScPost
  obtain ⟨⟨ol2, op2, oe2⟩, hol2⟩ : ∃ x, scanS [48, 48, 55] = x := ⟨_, rfl⟩
  dsimp only
  rw [hol2]
  have a2 := aw_two
  rw [hol2] at a2
  injection a2 with ha1 ha2
  subst ha1 ha2
  clear hol2
  rintro e w2 ⟨⟨A2, n2, c2, rfl, _, _, _⟩, hb2⟩
  have HB2 := Lib.hid (HB1.out.trans (hb2.mono HB1.out.size))
  have hX := HN1.out.below hb2 HN1.out.lt
  have hXc := hX.cell
  have hXl := hX.lt
  obtain ⟨b1, o1, t, rfl, hb1', ht, c0, c1, c2', c3, c4⟩ := (HR1.out.below (hb2.mono (by simp))).tok (i := 3) (by decide)
  have hbl : b1 < w2.heap.size := Nat.lt_of_lt_of_le hb1' (Nat.le_trans (by simp) hb2.size)
  obtain rfl : t = ⟨4, 0, ⟨#[45, 62]⟩, ⟨1, 6⟩⟩ := by rw [HC.out] at ht; exact (Option.some.inj ht).symm
  dsimp only at c0 c1 c2' c3 c4
  clear hX hb2 ht
  dsimp only [Pos.v]
  go_wp2_with fail
  go_ret
  exact ⟨ret_bool (by first | rfl | simp | decide), HB2.out.alloc HB2.out.size _⟩

end Go.Proofs.YtafoahojdiglfaaDoor
