/- the lexer's laws: pieces -/
import Derived.Test.YtafoahojdiglfaaDoorLl1
import Derived.Test.YtafoahojdiglfaaDoorCardL
import Derived.Test.YtafoahojdiglfaaDoorGen2
namespace Go.Proofs.YtafoahojdiglfaaDoor
open Go Go.RowKit
set_option maxHeartbeats 4000000
attribute [local irreducible] kwB syB clB

def allP : List ByteArray := [⟨#[80]⟩, ⟨#[97, 49, 39]⟩, ⟨#[108, 101, 116]⟩, ⟨#[119, 105, 116, 104, 105, 110]⟩, ⟨#[83, 84, 79, 80]⟩, ⟨#[32]⟩, ⟨#[10]⟩, ⟨#[9]⟩, ⟨#[48]⟩, ⟨#[55]⟩, ⟨#[52, 50]⟩, ⟨#[57, 50, 50, 51, 51, 55, 50, 48, 51, 54, 56, 53, 52, 55, 55, 53, 56, 48, 55]⟩, ⟨#[57, 50, 50, 51, 51, 55, 50, 48, 51, 54, 56, 53, 52, 55, 55, 53, 56, 48, 56]⟩, ⟨#[48, 55]⟩, ⟨#[51, 120]⟩, ⟨#[45, 45]⟩, ⟨#[45]⟩, ⟨#[123, 45]⟩, ⟨#[45, 125]⟩, ⟨#[123]⟩, ⟨#[124]⟩, ⟨#[126]⟩, ⟨#[91]⟩, ⟨#[93]⟩, ⟨#[40]⟩, ⟨#[41]⟩, ⟨#[60]⟩, ⟨#[62]⟩, ⟨#[61]⟩, ⟨#[33]⟩, ⟨#[43]⟩, ⟨#[47]⟩, ⟨#[92]⟩, ⟨#[95]⟩, ⟨#[46]⟩, ⟨#[58]⟩, ⟨#[64]⟩, ⟨#[70, 68]⟩, ⟨#[84, 61]⟩, ⟨#[127]⟩, ⟨#[39]⟩]
theorem allP_small : ∀ x ∈ allP, x.size ≤ 19 := by decide
theorem allP_len : allP.length = 41 := by rfl

set_option maxRecDepth 100000 in
theorem pieces_any (B : Nat) (A : Option Addr) (n c : Nat) (l : List Nat) (w : World) (hR : Rd w B 1 A n (cellsOf bcell l)) (hB : B ≤ w.heap.size) (_hn : n ≤ 1048576) (hs : ∀ y ∈ l, y < 256) :
    Calls Tryd.prog 14 #[.slice A n c] w fun e w' => (∃ s : ByteArray, e = .returned (.string s) ∧ s.size ≤ 1000) ∧ Below w.heap.size w w' := by
  have H := Lib.hid (hR.alloc hB (.cells (cellsOf scell allP).toArray 9))
  have HN := Lib.hid (Blk.new w 9 (cellsOf scell allP).toArray)
  have HB := Lib.hid ((Below.refl w.heap.size w).alloc (Nat.le_refl _) (.cells (cellsOf scell allP).toArray 9))
  have HS := Lib.hid hs
  clear hR hs
  go_enter Tryd.func14, Tryd.ntmps14
  go_wp2
  go_loopw [4, 5] (fun vs vk wr => ∃ (k : Nat) (s : ByteArray), k ≤ n ∧ k ≤ 50 ∧ vk = .int .i64 k ∧ vs = .string s ∧ s.size ≤ 20 * k ∧ Hid (Rd wr B 1 A n (cellsOf bcell l) ∧ Blk wr w.heap.size 9 (cellsOf scell allP).toArray ∧ Below w.heap.size w wr)) (fun _ vk _ => n - (intOf vk).toNat)
  case atStart => exact ⟨0, _, Nat.zero_le _, by decide, rfl, rfl, by decide, Lib.hid ⟨H.out, HN.out, HB.out⟩⟩
  case round =>
    obtain ⟨k, s, hk, hk50, rfl, rfl, hsz, HW⟩ := hrel
    clear H HN HB
    by_cases hlt : k < n ∧ k < 50
    · obtain ⟨hlt1, hlt2⟩ := hlt
      obtain ⟨b1, o1, y, rfl, hb1, hy, c0'⟩ := HW.out.1.byte hlt1
      have hy256 := HS.out y (List.mem_of_getElem? hy)
      obtain ⟨x, hx, hxs⟩ := pick_at HW.out.2.1 (y % 41) (by rw [allP_len]; omega) 19 allP_small
      clear hy
      go_wp2_with fail
      go_round
      case rel => exact ⟨k + 1, s ++ x, by omega, by omega, by go_num, rfl, by rw [ByteArray.size_append]; omega, HW⟩
      case measure => simp [intOf]; omega
    · by_cases h1 : k < n
      · have h2 : ¬ k < 50 := fun h => hlt ⟨h1, h⟩
        go_wp2_with fail
        go_ret
        exact ⟨⟨s, rfl, by omega⟩, HW.out.2.2⟩
      · go_wp2_with fail
        go_ret
        exact ⟨⟨s, rfl, by omega⟩, HW.out.2.2⟩

set_option maxRecDepth 100000 in
theorem lexerScansExactly_law (w : World) (hG : GlobE w.heap.size w) (s : ByteArray) (hs : s.size ≤ 1048576)
    (a1 : Option Addr) (n1 c1 : Nat) (l1 : List Nat) (hR1 : Rd w w.heap.size 1 a1 n1 (cellsOf bcell l1)) (hn1 : n1 ≤ 1048576) (hs1 : ∀ y ∈ l1, y < 256) :
    Calls Tryd.prog 3 #[.string s, .slice a1 n1 c1] w fun e w' => e = .returned (.bool true) ∧ Below w.heap.size w w' := by
  have HG := Lib.hid hG
  have H1 := Lib.hid hR1
  have HS1 := Lib.hid hs1
  clear hG hR1 hs1
  go_enter Tryd.func3, Tryd.ntmps3
  go_wp2_with fail
  refine (lawake_any _ _ HG.out).mono ?_
  rintro e w1 ⟨rfl, hb1⟩
  have HB1 := Lib.hid hb1
  clear hb1
  go_wp2_with fail
  refine (lagrees_any _ s _ (HG.out.below HB1.out) (by omega)).mono ?_
  rintro e w2 ⟨rfl, hb2⟩
  have HB2 := Lib.hid (HB1.out.trans (hb2.mono HB1.out.size))
  clear hb2
  go_wp2_with fail
  refine (pieces_any w.heap.size a1 n1 c1 l1 _ (H1.out.below HB2.out) HB2.out.size hn1 HS1.out).mono ?_
  rintro e w3 ⟨⟨sp, rfl, hsp⟩, hb3⟩
  have HB3 := Lib.hid (HB2.out.trans (hb3.mono HB2.out.size))
  clear hb3
  go_wp2_with fail
  refine (lagrees_any _ sp _ (HG.out.below HB3.out) (by omega)).mono ?_
  rintro e w4 ⟨rfl, hb4⟩
  have HB4 := Lib.hid (HB3.out.trans (hb4.mono HB3.out.size))
  clear hb4
  go_wp2_with fail
  go_ret
  exact ⟨rfl, HB4.out⟩

end Go.Proofs.YtafoahojdiglfaaDoor
