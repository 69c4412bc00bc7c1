/- LayoutRemoves: the law's walk -/
import Derived.Test.YtgfhkaamkodpjaaDoorLw3
import Derived.Test.YtgfhkaamkodpjaaDoorTks
import Derived.Test.YtgfhkaamkodpjaaDoorGen2
import Derived.Test.YtgfhkaamkodpjaaDoorInsP
import Derived.Test.YtgfhkaamkodpjaaDoorDelT
import Derived.Test.YtgfhkaamkodpjaaDoorCardK
namespace Go.Proofs.YtgfhkaamkodpjaaDoor
open Go Go.RowKit
set_option maxHeartbeats 4000000
attribute [local irreducible] kwB syB clB

/-- behind the choice of the tokens -/
def RmRel (W : World) (v : Value) (w' : World) : Prop :=
  ∃ (A : Option Addr) (n c : Nat) (l : List Tok), v = .slice A n c ∧ Rd w' w'.heap.size 5 A n (cellsOf Tok.cells l) ∧ n ≤ 10000000 ∧ (∀ t ∈ l, t.str.size ≤ 1000000000000) ∧ Below W.heap.size W w'

set_option maxRecDepth 100000 in
theorem layoutRemoves_law (w : World) (hG : Glob w.heap.size w) (a0 : Option Addr) (n0 c0 : Nat) (l0 : List Int) (hR0 : Rd w w.heap.size 1 a0 n0 (cellsOf icell l0)) (hn0 : n0 ≤ 1048576) (M : Bool) :
    Calls Tryd.prog 9 #[.slice a0 n0 c0, .bool M] w fun e w' => e = .returned (.bool true) ∧ Below w.heap.size w w' := by
  have H0 := Lib.hid hR0
  have HG := Lib.hid hG
  clear hR0 hG
  go_enter Tryd.func9, Tryd.ntmps9
  go_wp2_with fail
  refine (tokens_any w.heap.size a0 n0 c0 l0 _ H0.out (Nat.le_refl _) (by omega)).mono ?_
  rintro e w1 ⟨A1, n1, c1, l1, rfl, _, _, hn1, hR1, ht1, _, hb1⟩
  have HB1 := Lib.hid hb1
  have HR1 := Lib.hid hR1
  have HT1 := Lib.hid ht1
  clear hb1 hR1 ht1
  go_upto_if 11 with (fail)
  go_cut [5] (fun v5 w' => RmRel w v5 w')
  case first =>
    cases M with
    | false =>
      go_wp2_with fail
      go_meet
      case rel => exact ⟨_, _, _, _, rfl, HR1.out, by omega, fun t ht => by have := (HT1.out t ht).1; omega, HB1.out⟩
    | true =>
      go_wp2_with fail
      refine (layouted_any w.heap.size a0 n0 c0 l0 _ (H0.out.below HB1.out) HB1.out.size (by omega)).mono ?_
      rintro e w2 ⟨⟨s, rfl, hs⟩, hb2⟩
      have HB2 := Lib.hid (HB1.out.trans (hb2.mono HB1.out.size))
      clear hb2
      go_wp2_with fail
      refine (scan_any s _ (by omega)).mono ?_
      have hsm := scanS_small s.data.toList
      rw [blen] at hsm
      unfold ScPost
      generalize scanS s.data.toList = X at hsm
      obtain ⟨tl, sp, se⟩ := X
      rintro e w3 ⟨⟨A3, n3, c3, rfl, hn3, hc3, hR3⟩, hb3⟩
      have HB3 := Lib.hid (HB2.out.trans (hb3.mono HB2.out.size))
      have HR3 := Lib.hid hR3
      have HSM := Lib.hid hsm
      have HL3 := Lib.hid (hR3.len Tok.cells_len (by decide))
      clear hb3 hR3 hsm
      dsimp only [Pos.v]
      go_wp2_with fail
      go_meet
      case rel => exact ⟨_, _, _, tl, rfl, HR3.out, by have h1 := HSM.out.2; have h2 := HL3.out; (try dsimp only at h1 h2); omega, fun t ht => by have := HSM.out.1 t ht; omega, HB3.out⟩
  case rest =>
    obtain ⟨A, n, c, l, rfl, hR, hn, hs, hb⟩ := hcut
    have HR := Lib.hid hR
    have HS := Lib.hid hs
    have HB := Lib.hid hb
    have hsz := hb.size
    clear hR hs hb
    go_wp2_with fail
    refine (linsert_any w.heap.size _ A n c l _ HR.out (Nat.le_refl _) (HG.out.below (HB.out.mono HG.out.size)) hn HS.out).mono ?_
    have hk := insS_kept l
    have hkl := insS_len l
    generalize insS l = X at hk hkl
    obtain ⟨ol, op, oe⟩ := X
    rintro e w4 ⟨⟨A4, n4, rfl, hR4, _⟩, hb4⟩
    have HB4 := Lib.hid (HB.out.trans (hb4.mono HB.out.size))
    have HRb := Lib.hid (HR.out.below hb4)
    have HR4 := Lib.hid hR4
    have HL4 := Lib.hid (hR4.len Tok.cells_len (by decide))
    have hs4 := hb4.size
    clear hb4 hR4
    dsimp only [Pos.v]
    rcases hk with ⟨h1, h2⟩ | ⟨h1, h2, h3⟩
    · have hne : (oe != 0) = true := by simpa using h1
      have hn4 : n4 = 0 := by have := HL4.out; (try dsimp only at this h2); rw [h2] at this; simpa using this.symm
      subst hn4
      clear h1 h2
      go_wp2_with fail
      have HBa := Lib.hid (HB4.out.alloc HB4.out.size (Obj.cells #[.int .i64 op.line, .int .i64 op.col] 29))
      refine (awake_any w.heap.size _ (HG.out.below (HBa.out.mono HG.out.size))).mono ?_
      rintro e w5 ⟨rfl, hb5⟩
      have HB5 := Lib.hid (HBa.out.trans (hb5.mono HBa.out.size))
      clear hb5
      go_wp2_with fail
      go_ret
      exact ⟨ret_bool (by first | rfl | simp), HB5.out⟩
    · dsimp only at h1 h2 h3
      subst h1
      have H2 := Lib.hid h2
      have H3 := Lib.hid h3
      clear h2 h3
      have hn4 : n4 ≤ 1000000000 := by
        have h5 := HL4.out
        have h6 := HR.out.len Tok.cells_len (by decide)
        (try dsimp only at h5 hkl)
        omega
      have hA4 : A4 = none → n4 = 0 ∧ n4 = 0 := fun hA => by
        subst hA
        rcases Nat.eq_zero_or_pos n4 with h | h
        · exact ⟨h, h⟩
        · obtain ⟨b, off, e, _⟩ := HR4.out.2 h
          cases e
      go_wp2_with fail
      have HBa := Lib.hid (HB4.out.alloc HB4.out.size (Obj.cells #[.int .i64 op.line, .int .i64 op.col] 29))
      refine (awake_any w.heap.size _ (HG.out.below (HBa.out.mono HG.out.size))).mono ?_
      rintro e w5 ⟨rfl, hb5⟩
      have HB5 := Lib.hid (HBa.out.trans (hb5.mono HBa.out.size))
      have HR5 := Lib.hid ((HR4.out.alloc (Nat.le_refl _) (Obj.cells #[.int .i64 op.line, .int .i64 op.col] 29)).below (hb5.mono (by simp)))
      have HRc := Lib.hid ((HRb.out.alloc hs4 (Obj.cells #[.int .i64 op.line, .int .i64 op.col] 29)).below (hb5.mono (by simp; omega)))
      have hs5 : w4.heap.size ≤ w5.heap.size := Nat.le_trans (by simp) hb5.size
      clear hb5
      go_wp2_with fail
      refine (lremove_any A4 n4 n4 _ ol _ HR5.out hs5 hA4 hn4).mono ?_
      rw [H2.out]
      rintro e w6 ⟨A6, n6, rfl, hR6, hb6⟩
      have HB6 := Lib.hid (HB5.out.trans (hb6.mono HB5.out.size))
      have HR6 := Lib.hid hR6
      have HRd := Lib.hid ((HRc.out.below (hb6.mono (by omega))).more (by have := hb6.size; omega : _ ≤ w6.heap.size))
      have HR7 := Lib.hid (HR5.out.below (hb6.mono hs5))
      have hs6 : w4.heap.size ≤ w6.heap.size := Nat.le_trans hs5 hb6.size
      obtain rfl : n = n6 := (HR.out.len Tok.cells_len (by decide)).symm.trans (hR6.len Tok.cells_len (by decide))
      clear hb6 hR6
      go_wp2_with fail
      refine (equal_same A6 A n _ _ _ l _ HR6.out HRd.out (Nat.le_refl _) (by omega)).mono ?_
      rintro e w7 ⟨rfl, hb7⟩
      have HB7 := Lib.hid (HB6.out.trans (hb7.mono HB6.out.size))
      have HR8 := Lib.hid (HR7.out.below (hb7.mono hs6))
      have hs7 : w4.heap.size ≤ w7.heap.size := Nat.le_trans hs6 hb7.size
      clear hb7
      go_wp2_with fail
      refine (balanced_any A4 n4 n4 _ ol _ HR8.out hs7 hn4).mono ?_
      rw [H3.out]
      rintro e w8 ⟨rfl, hb8⟩
      have HB8 := Lib.hid (HB7.out.trans (hb8.mono HB7.out.size))
      clear hb8
      go_wp2_with fail
      go_ret
      exact ⟨ret_bool (by first | rfl | simp), HB8.out⟩

end Go.Proofs.YtgfhkaamkodpjaaDoor
