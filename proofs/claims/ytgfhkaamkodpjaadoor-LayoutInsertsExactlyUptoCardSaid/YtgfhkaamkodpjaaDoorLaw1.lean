/- LayoutInsertsExactly: the law's walk -/
import Derived.Test.YtgfhkaamkodpjaaDoorLw3
import Derived.Test.YtgfhkaamkodpjaaDoorTks
namespace Go.Proofs.YtgfhkaamkodpjaaDoor
open Go Go.RowKit
set_option maxHeartbeats 8000000
attribute [local irreducible] kwB syB clB

theorem law1_any (B B1 : Nat) (A A' : Option Addr) (n c n' c' : Nat) (l : List Tok) (zs : List Int) (w : World) (hR : Rd w B1 5 A n (cellsOf Tok.cells l)) (hZ : Rd w B1 1 A' n' (cellsOf icell zs)) (hB1 : B1 ≤ w.heap.size) (hG : Glob B w)
    (hn : n ≤ 10000000) (hs : ∀ t ∈ l, t.str.size ≤ 1000000000000) (hn' : n' ≤ 1000000000000) :
    Calls Tryd.prog 3 #[.slice A n c, .slice A' n' c'] w fun e w' => e = .returned (.bool true) ∧ Below w.heap.size w w' := by
  have HR := Lib.hid hR
  have HZ := Lib.hid hZ
  have HG := Lib.hid hG
  have HS := Lib.hid hs
  clear hR hZ hG hs
  go_enter Tryd.func3, Tryd.ntmps3
  go_wp2_with fail
  refine (awake_any B _ HG.out).mono ?_
  rintro e w1 ⟨rfl, hb1⟩
  have HB1 := Lib.hid hb1
  clear hb1
  go_wp2_with fail
  refine (agrees_any B B1 A n c l _ (HR.out.below (HB1.out.mono hB1)) (Nat.le_trans hB1 HB1.out.size) (HG.out.below (HB1.out.mono HG.out.size)) hn HS.out).mono ?_
  rintro e w2 ⟨rfl, hb2⟩
  have HB2 := Lib.hid (HB1.out.trans (hb2.mono HB1.out.size))
  clear hb2
  go_wp2_with fail
  refine (tokens_any B1 A' n' c' zs _ (HZ.out.below (HB2.out.mono hB1)) (Nat.le_trans hB1 HB2.out.size) hn').mono ?_
  rintro e w3 ⟨A3, n3, c3, l3, rfl, _, _, hn3, hR3, ht3, _, hb3⟩
  have HB3 := Lib.hid (HB2.out.trans (hb3.mono HB2.out.size))
  have HR3 := Lib.hid hR3
  have HT3 := Lib.hid ht3
  clear hb3 hR3 ht3
  go_wp2_with fail
  refine (agrees_any B w3.heap.size A3 n3 c3 l3 _ HR3.out (Nat.le_refl _) (HG.out.below (HB3.out.mono HG.out.size)) (by omega) (fun t ht => by have := (HT3.out t ht).1; omega)).mono ?_
  rintro e w4 ⟨rfl, hb4⟩
  have HB4 := Lib.hid (HB3.out.trans (hb4.mono HB3.out.size))
  clear hb4
  go_wp2_with fail
  go_ret
  exact ⟨rfl, HB4.out⟩

end Go.Proofs.YtgfhkaamkodpjaaDoor
