/- LexerErrorStays: the law's walk -/
import Derived.Test.YtafoahojdiglfaaDoorPcs
import Derived.Test.YtafoahojdiglfaaDoorEs
namespace Go.Proofs.YtafoahojdiglfaaDoor
open Go Go.RowKit
set_option maxHeartbeats 4000000
attribute [local irreducible] kwB syB clB

theorem list_app (s t : ByteArray) : (s ++ t).data.toList = s.data.toList ++ t.data.toList := by simp

theorem stays3 (s b : ByteArray) (hs : s.size ≤ 1000) (hb : b.size ≤ 100) :
    ((scanS (s ++ ⟨#[10]⟩).data.toList).2.2 ≠ 0 ∧ (scanS (s ++ ⟨#[10, 1]⟩).data.toList).2.2 ≠ 0) ∨
    ∃ q, scanS (s ++ ⟨#[10, 1]⟩).data.toList = ([], q, 2) ∧ scanS ((s ++ ⟨#[10, 1]⟩) ++ b).data.toList = ([], q, 2) := by
  have hl : s.data.toList.length ≤ 60000 := by rw [blen]; omega
  rcases stays s.data.toList hl with ⟨h1, h2⟩ | ⟨q, h⟩
  · left
    rw [list_app, list_app]
    exact ⟨h1, h2⟩
  · right
    refine ⟨q, ?_, ?_⟩
    · rw [list_app]
      exact h [] (by simp)
    · rw [list_app, list_app, List.append_assoc]
      exact h b.data.toList (by rw [blen]; omega)

set_option maxRecDepth 100000 in
theorem lexerErrorStays_law (w : World) (hG : GlobE w.heap.size w)
    (a0 : Option Addr) (n0 c0 : Nat) (l0 : List Nat) (hR0 : Rd w w.heap.size 1 a0 n0 (cellsOf bcell l0)) (hn0 : n0 ≤ 1048576) (hs0 : ∀ y ∈ l0, y < 256)
    (s : ByteArray) (hs : s.size ≤ 1048576) :
    Calls Tryd.prog 7 #[.slice a0 n0 c0, .string s] w fun e w' => e = .returned (.bool true) ∧ Below w.heap.size w w' := by
  have HG := Lib.hid hG
  clear hG
  go_enter Tryd.func7, Tryd.ntmps7
  go_wp2_with fail
  refine (pieces_any w.heap.size a0 n0 c0 l0 _ hR0 (Nat.le_refl _) hn0 hs0).mono ?_
  rintro e w1 ⟨⟨sp, rfl, hsp⟩, hb1⟩
  have HB1 := Lib.hid hb1
  clear hb1 hR0 hs0
  go_wp2_with fail
  have hz1 : (sp ++ ⟨#[10, 1]⟩ : ByteArray).size ≤ 1002 := by
    rw [ByteArray.size_append]
    show sp.size + 2 ≤ 1002
    omega
  have HZ1 := Lib.hid hz1
  clear hz1
  refine (lscan_any _ _ _ (HG.out.below HB1.out) (by have := HZ1.out; omega)).mono ?_
  unfold ScPost
  obtain ⟨bx, hbx⟩ : ∃ bx : ByteArray, s.extract 0 (min (s.size : Int) 100).toNat = bx := ⟨_, rfl⟩
  have hbx1 : bx.size ≤ 100 := by rw [← hbx, ByteArray.size_extract]; omega
  have hst := stays3 sp bx hsp hbx1
  obtain ⟨⟨ol1, op1, oe1⟩, hX1⟩ : ∃ x, scanS (sp ++ ⟨#[10, 1]⟩).data.toList = x := ⟨_, rfl⟩
  obtain ⟨⟨ol2, op2, oe2⟩, hX2⟩ : ∃ x, scanS ((sp ++ ⟨#[10, 1]⟩) ++ bx).data.toList = x := ⟨_, rfl⟩
  obtain ⟨⟨ol3, op3, oe3⟩, hX3⟩ : ∃ x, scanS (sp ++ ⟨#[10]⟩).data.toList = x := ⟨_, rfl⟩
  rw [hX1, hX2, hX3] at hst
  rw [hX1]
  have HX := Lib.hid hst
  have HX2 := Lib.hid hX2
  have HX3 := Lib.hid hX3
  have HBX := Lib.hid hbx
  have HBX1 := Lib.hid hbx1
  clear hst hX1 hX2 hX3 hbx hbx1
  rintro e w2 ⟨⟨A1, n1, c1, rfl, _, _, _⟩, hb2⟩
  have HB2 := Lib.hid (HB1.out.trans ((hb2.mono HB1.out.size).alloc (Nat.le_trans HB1.out.size hb2.size) (.cells #[.int .i64 op1.line, .int .i64 op1.col] 32)))
  have HN2 := Lib.hid (Blk.new w2 32 #[.int .i64 op1.line, .int .i64 op1.col])
  clear hb2
  dsimp only [Pos.v]
  go_wp2_with fail
  rw [HBX.out]
  refine (lscan_any _ _ _ (HG.out.below HB2.out) (by have := HZ1.out; have := HBX1.out; rw [ByteArray.size_append]; omega)).mono ?_
  unfold ScPost
  rw [HX2.out]
  rintro e w3 ⟨⟨A2, n2, c2, rfl, _, _, _⟩, hb3⟩
  have HB3 := Lib.hid (HB2.out.trans ((hb3.mono HB2.out.size).alloc (Nat.le_trans HB2.out.size hb3.size) (.cells #[.int .i64 op2.line, .int .i64 op2.col] 32)))
  have HN3 := Lib.hid (Blk.new w3 32 #[.int .i64 op2.line, .int .i64 op2.col])
  have HM3 := Lib.hid ((HN2.out.below hb3 HN2.out.lt).alloc (.cells #[.int .i64 op2.line, .int .i64 op2.col] 32))
  clear hb3 HN2
  dsimp only [Pos.v]
  go_wp2_with fail
  refine (scan_any _ _ (by rw [ByteArray.size_append]; show sp.size + 1 ≤ _; omega)).mono ?_
  unfold ScPost
  rw [HX3.out]
  rintro e w4 ⟨⟨A3, n3, c3, rfl, _, _, _⟩, hb4⟩
  have HB4 := Lib.hid (HB3.out.trans ((hb4.mono HB3.out.size).alloc (Nat.le_trans HB3.out.size hb4.size) (.cells #[.int .i64 op3.line, .int .i64 op3.col] 32)))
  have HN4 := Lib.hid ((HN3.out.below hb4 HN3.out.lt).alloc (.cells #[.int .i64 op3.line, .int .i64 op3.col] 32))
  have HM4 := Lib.hid ((HM3.out.below hb4 HM3.out.lt).alloc (.cells #[.int .i64 op3.line, .int .i64 op3.col] 32))
  clear hb4 HN3 HM3
  dsimp only [Pos.v]
  go_wp2_with fail
  refine (lawake_any _ _ (HG.out.below HB4.out)).mono ?_
  rintro e w5 ⟨rfl, hb5⟩
  have HB5 := Lib.hid (HB4.out.trans (hb5.mono HB4.out.size))
  have hN5 := HN4.out.below hb5 HN4.out.lt
  have hM5 := HM4.out.below hb5 HM4.out.lt
  have hN5c := hN5.cell
  have hN5l := hN5.lt
  have hM5c := hM5.cell
  have hM5l := hM5.lt
  clear hb5 HN4 HM4 hN5 hM5
  rcases HX.out with ⟨h3, h1⟩ | ⟨q, hq1, hq2⟩
  · skip
    go_wp2_with fail
    go_ret
    exact ⟨ret_bool (by first | rfl | (simp; done) | (simp; exact h1) | (simp; exact h3)), HB5.out⟩
  · injection hq1 with e1 e2
    injection e2 with e2 e3
    injection hq2 with f1 f2
    injection f2 with f2 f3
    subst e3 f3
    subst e2
    subst f2
    by_cases h3 : oe3 = 0
    · go_wp2_with fail
      go_ret
      exact ⟨ret_bool (by first | rfl | (simp; done) | (simp; exact h1) | (simp; exact h3)), HB5.out⟩
    · go_wp2_with fail
      go_ret
      exact ⟨ret_bool (by first | rfl | (simp; done) | (simp; exact h1) | (simp; exact h3)), HB5.out⟩

end Go.Proofs.YtafoahojdiglfaaDoor
