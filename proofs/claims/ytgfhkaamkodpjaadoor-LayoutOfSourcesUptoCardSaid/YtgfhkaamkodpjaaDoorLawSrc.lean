/- LayoutOfSources: the law's walk -/
import Derived.Test.YtgfhkaamkodpjaaDoorLw3
import Derived.Test.YtgfhkaamkodpjaaDoorGen2
import Derived.Test.YtgfhkaamkodpjaaDoorWr7
import Derived.Test.YtgfhkaamkodpjaaDoorCardK
namespace Go.Proofs.YtgfhkaamkodpjaaDoor
open Go Go.RowKit
set_option maxHeartbeats 4000000
attribute [local irreducible] kwB syB clB

set_option maxRecDepth 100000 in
theorem layoutOfSources_law (w : World) (hG : Glob w.heap.size w) (a0 : Option Addr) (n0 c0 : Nat) (l0 : List Int) (hR0 : Rd w w.heap.size 1 a0 n0 (cellsOf icell l0)) (hn0 : n0 ≤ 1048576) :
    Calls Tryd.prog 4 #[.slice a0 n0 c0] w fun e w' => e = .returned (.bool true) ∧ Below w.heap.size w w' := by
  have H0 := Lib.hid hR0
  have HG := Lib.hid hG
  clear hR0 hG
  go_enter Tryd.func4, Tryd.ntmps4
  go_wp2_with fail
  refine (layouted_any w.heap.size a0 n0 c0 l0 _ H0.out (Nat.le_refl _) (by omega)).mono ?_
  rintro e w2 ⟨⟨s, rfl, hs⟩, hb2⟩
  have HB2 := Lib.hid hb2
  clear hb2
  go_wp2_with fail
  refine (scan_any s _ (by omega)).mono ?_
  have hsm := scanS_small s.data.toList
  rw [blen] at hsm
  unfold ScPost
  generalize scanS s.data.toList = X at hsm
  obtain ⟨tl, sp, se⟩ := X
  rintro e w3 ⟨⟨A3, n3, c3, rfl, hn3, hc3, hR3⟩, hb3⟩
  have HB3 := Lib.hid (HB2.out.trans (hb3.mono HB2.out.size))
  have HR3 := Lib.hid hR3
  have HSM := Lib.hid hsm
  have HL3 := Lib.hid (hR3.len Tok.cells_len (by decide))
  clear hb3 hR3 hsm
  dsimp only [Pos.v]
  go_wp2_with fail
  have HBa := Lib.hid (HB3.out.alloc HB3.out.size (.cells #[.int .i64 sp.line, .int .i64 sp.col] 29))
  have HRa := Lib.hid (HR3.out.alloc (Nat.le_refl _) (.cells #[.int .i64 sp.line, .int .i64 sp.col] 29))
  have HZ3 := Lib.hid (show w3.heap.size ≤ (w3.alloc (.cells #[.int .i64 sp.line, .int .i64 sp.col] 29)).heap.size by simp)
  refine (source_any w.heap.size a0 n0 c0 l0 _ (H0.out.below HBa.out) HBa.out.size (by omega)).mono ?_
  rintro e w4 ⟨⟨s4, rfl, hs4⟩, hb4⟩
  have HB4 := Lib.hid (HBa.out.trans (hb4.mono HBa.out.size))
  have HR4 := Lib.hid (HRa.out.below (hb4.mono HZ3.out))
  have HZ4 := Lib.hid (Nat.le_trans HZ3.out hb4.size)
  clear hb4
  go_wp2_with fail
  refine (scan_any s4 _ (by omega)).mono ?_
  have hsm5 := scanS_small s4.data.toList
  rw [blen] at hsm5
  unfold ScPost
  generalize scanS s4.data.toList = X at hsm5
  obtain ⟨tl5, sp5, se5⟩ := X
  rintro e w5 ⟨⟨A5, n5, c5, rfl, hn5, hc5, hR5⟩, hb5⟩
  have HB5 := Lib.hid (HB4.out.trans (hb5.mono HB4.out.size))
  have HR35 := Lib.hid (HR4.out.below (hb5.mono HZ4.out))
  have HZ5 := Lib.hid (Nat.le_trans HZ4.out hb5.size)
  have HR5 := Lib.hid hR5
  have HSM5 := Lib.hid hsm5
  have HL5 := Lib.hid (hR5.len Tok.cells_len (by decide))
  clear hb5 hR5 hsm5
  dsimp only [Pos.v]
  go_wp2_with fail
  have HBb := Lib.hid (HB5.out.alloc HB5.out.size (.cells #[.int .i64 sp5.line, .int .i64 sp5.col] 29))
  have HRb := Lib.hid (HR5.out.alloc (Nat.le_refl _) (.cells #[.int .i64 sp5.line, .int .i64 sp5.col] 29))
  have HR3b := Lib.hid (HR35.out.alloc HZ5.out (.cells #[.int .i64 sp5.line, .int .i64 sp5.col] 29))
  have HZb := Lib.hid (show w5.heap.size ≤ (w5.alloc (.cells #[.int .i64 sp5.line, .int .i64 sp5.col] 29)).heap.size by simp)
  refine (awake_any w.heap.size _ (HG.out.below HBb.out)).mono ?_
  rintro e w6 ⟨rfl, hb6⟩
  have HB6 := Lib.hid (HBb.out.trans (hb6.mono HBb.out.size))
  have HR6 := Lib.hid (HRb.out.below (hb6.mono HZb.out))
  have HR36 := Lib.hid (HR3b.out.below (hb6.mono (Nat.le_trans HZ5.out HZb.out)))
  have HZ6 := Lib.hid (Nat.le_trans HZb.out hb6.size)
  clear hb6
  go_wp2_with fail
  refine (agrees_any w.heap.size w3.heap.size A3 n3 c3 tl _ HR36.out (Nat.le_trans HZ5.out HZ6.out) (HG.out.below HB6.out) (by have h1 := HSM.out.2; have h2 := HL3.out; (try dsimp only at h1 h2); omega) (fun t ht => by have := HSM.out.1 t ht; omega)).mono ?_
  rintro e w7 ⟨rfl, hb7⟩
  have HB7 := Lib.hid (HB6.out.trans (hb7.mono HB6.out.size))
  have HR7 := Lib.hid (HR6.out.below (hb7.mono HZ6.out))
  have HZ7 := Lib.hid (Nat.le_trans HZ6.out hb7.size)
  clear hb7
  go_wp2_with fail
  refine (agrees_any w.heap.size w5.heap.size A5 n5 c5 tl5 _ HR7.out HZ7.out (HG.out.below HB7.out) (by have h1 := HSM5.out.2; have h2 := HL5.out; (try dsimp only at h1 h2); omega) (fun t ht => by have := HSM5.out.1 t ht; omega)).mono ?_
  rintro e w8 ⟨rfl, hb8⟩
  have HB8 := Lib.hid (HB7.out.trans (hb8.mono HB7.out.size))
  clear hb8
  go_wp2_with fail
  go_ret
  exact ⟨rfl, HB8.out⟩

end Go.Proofs.YtgfhkaamkodpjaaDoor
