/- RowsPack: the law's walk -/
import Derived.Test.YtonpdclccgpceaaRwSa
import Derived.Test.YtonpdclccgpceaaRwG6
namespace Go.Proofs.Ytonpdclccgpceaa
open Go Go.RowKit
set_option maxHeartbeats 8000000

/-- packs at a drawn system -/
theorem packs_gen {w : World} {A : Option Addr} {n c N bd : Nat} {ls : List (List Arc)} (h : RdL w w.heap.size A n ls) (hn : n ≤ N) (hs : ∀ l ∈ ls, l.length ≤ bd) (hN : N ≤ 100) (hbd : bd ≤ 250) :
    Calls Try.prog 14 #[lts A n c] w fun e w' => e = .returned (.bool true) ∧ Below w.heap.size w w' := by
  have ht := total_all ls 100 250 (fun l hl => Nat.le_trans (hs l hl) hbd) (by rw [h.len]; omega)
  exact packs_any A n c w.heap.size ls w h (Nat.le_refl _) (by omega) (fun l hl => by have := hs l hl; omega) (packs_small (by rw [h.len]; omega) (by omega))

set_option maxRecDepth 100000 in
theorem rowsPack_law (w : World) (A : Option Addr) (n c : Nat) (zs : List Int) (h : Rd w w.heap.size 1 A n (cellsOf icell zs)) (hn : n ≤ 1048576)
    (Al : Option Addr) (m cl : Nat) (ls : List (List Arc)) (hl : RdL w w.heap.size Al m ls) (hm : m ≤ 1048576) (hs : ∀ l ∈ ls, l.length ≤ 1048576) :
    Calls Try.prog 3 #[.slice A n c, lts Al m cl] w fun e w' => e = .returned (.bool true) ∧ Below w.heap.size w w' := by
  have HR0 := Lib.hid (h.alloc (Nat.le_refl _) (.cells #[.slice Al m cl] 25))
  have HL := Lib.hid hl
  have HS := Lib.hid hs
  have HB0 := Lib.hid ((Below.refl w.heap.size w).alloc (Nat.le_refl _) (.cells #[.slice Al m cl] 25))
  have HN0 := Lib.hid (Blk.new w 25 #[.slice Al m cl])
  clear h hl hs
  go_enter Try.func3, Try.ntmps3
  go_wp2_with fail
  refine (tnew_any w.heap.size A n c zs _ HR0.out (by simp)).mono ?_
  rintro e w1 ⟨rfl, hT1, hb1, hz1⟩
  have hz : (w.alloc (.cells #[.slice Al m cl] 25)).heap.size = w.heap.size + 1 := by simp
  rw [hz] at hT1 hb1 hz1 ⊢
  have HX := Lib.hid (And.intro hT1 (And.intro (HN0.out.below hb1 (by omega)) (HB0.out.trans (hb1.mono (by omega)))))
  have hsz : w.heap.size + 2 ≤ w1.heap.size := by omega
  clear hT1 hb1 hz hz1
  go_wp2_with fail
  go_loopw [6] (fun vi wr => ∃ (k j : Nat), k ≤ 3 ∧ vi = .int .i64 k ∧ j ≤ 500 * k ∧ w.heap.size + 2 ≤ wr.heap.size ∧
    Hid (TpAt wr w.heap.size (w.heap.size + 1) A n c zs j ∧ Blk wr w.heap.size 25 #[.slice Al m cl] ∧ Below w.heap.size w wr)) (fun vi _ => 3 - (intOf vi).toNat)
  case atStart => exact ⟨0, 0, by decide, rfl, by decide, hsz, HX⟩
  case round =>
    obtain ⟨k, j, hk, rfl, hj, hsz, HW⟩ := hrel
    by_cases hlt : k < 3
    · go_wp2_with fail
      refine (ltsGen_any w.heap.size (w.heap.size + 1) A n c j zs 20 _ HW.out.1 (by omega) (by omega) (by decide) (by decide)).mono ?_
      rintro e w2 ⟨⟨A2, n2, c2, l2, rfl, hR2, hnc2, hn2, hs2⟩, ⟨j2, hj2, hT2⟩, hO2⟩
      have HT2 := Lib.hid (hT2.alloc (.cells #[.slice A2 n2 c2] 25))
      have HR2 := Lib.hid (hR2.alloc (Nat.le_refl _) (.cells #[.slice A2 n2 c2] 25))
      have HS2 := Lib.hid hs2
      have HN2 := Lib.hid (Blk.new w2 25 #[.slice A2 n2 c2])
      have HO2 := Lib.hid (hO2.alloc (.cells #[.slice A2 n2 c2] 25))
      clear hT2 hR2 hs2 hO2
      have h2c := HN2.out.cell
      have h2l := HN2.out.lt
      go_wp2_with fail
      refine (packs_gen (HR2.out.more (by simp)) hn2 HS2.out (by decide) (by decide)).mono ?_
      rintro e w3 ⟨rfl, hb3⟩
      have HT3 := Lib.hid (HT2.out.below hb3)
      have HR3 := Lib.hid ((HR2.out.more (show w2.heap.size ≤ (w2.alloc (.cells #[.slice A2 n2 c2] 25)).heap.size by simp)).below hb3 |>.more hb3.size)
      have HN3 := Lib.hid (HN2.out.below hb3 HN2.out.lt)
      have HO3 := Lib.hid (HO2.out.trans (Below.new hb3 |>.mono fun k _ h => h.elim))
      clear hb3
      have h3c := HN3.out.cell
      have h3l := HN3.out.lt
      go_wp2_with fail
      refine (spoil_any w.heap.size (w.heap.size + 1) A n c j2 zs A2 n2 c2 60 l2 _ HT3.out HR3.out (by omega) HS2.out (by decide) (by omega) (by omega)).mono ?_
      rintro e w4 ⟨⟨A4, n4, c4, l4, rfl, hR4, hnc4, hn4, hs4⟩, ⟨j4, hj4, hT4⟩, hO4⟩
      have HT4 := Lib.hid hT4
      have HR4 := Lib.hid hR4
      have HS4 := Lib.hid hs4
      have HO4 := Lib.hid (HO3.out.trans hO4)
      clear hT4 hR4 hs4 hO4
      go_wp2_with fail
      refine (packs_gen HR4.out (Nat.le_trans hn4 hn2) HS4.out (by decide) (by decide)).mono ?_
      rintro e w5 ⟨rfl, hb5⟩
      have HO5 := Lib.hid (HO4.out.trans (Below.new hb5 |>.mono fun k _ h => h.elim))
      have HT5 := Lib.hid (HT4.out.below hb5)
      have HZ := Lib.hid (And.intro HT5.out (And.intro (HW.out.2.1.out HO5.out (by omega)) (HW.out.2.2.trans (HO5.out.below (Nat.le_trans (by omega) hsz) (fun k hk e => by omega)))))
      have hsz5 : w.heap.size + 2 ≤ w5.heap.size := Nat.le_trans hsz HO5.out.size
      clear hb5
      go_wp2_with fail
      go_roundw
      case rel => exact ⟨k + 1, j4, by omega, by go_num, by omega, hsz5, HZ⟩
      case measure => simp [intOf]; omega
    · have h6c := HW.out.2.1.cell
      have h6l := HW.out.2.1.lt
      have HR6 := Lib.hid (HL.out.below HW.out.2.2)
      have HLN := Lib.hid HL.out.len
      go_wp2_with fail
      refine (huge_any Al m cl w.heap.size ls _ HR6.out (by omega) (by omega) (fun l hl => by have := HS.out l hl; omega)).mono ?_
      rintro e w7 ⟨⟨q, rfl, hq⟩, hb7⟩
      have HB7 := Lib.hid (HW.out.2.2.trans (hb7.mono HW.out.2.2.size))
      have HR7 := Lib.hid (HR6.out.below (hb7.mono (by omega)))
      have hN7 := HW.out.2.1.below hb7 HW.out.2.1.lt
      have h7c := hN7.cell
      have h7l := hN7.lt
      have HQ := Lib.hid hq
      clear hN7 hb7 hq
      cases q
      · have HF := Lib.hid (HQ.out rfl)
        go_wp2_with fail
        refine (packs_any Al m cl w.heap.size ls _ HR7.out HB7.out.size (by omega) (fun l hl => by have := HS.out l hl; omega) (packs_small (by have := HF.out.1; omega) (by have := HF.out.2; omega))).mono ?_
        rintro e w8 ⟨rfl, hb8⟩
        have HB8 := Lib.hid (HB7.out.trans (hb8.mono HB7.out.size))
        clear hb8
        go_wp2_with fail
        refine (sane_any _).mono ?_
        rintro e w9 ⟨rfl, hb9⟩
        have HB9 := Lib.hid (HB8.out.trans (hb9.mono HB8.out.size))
        clear hb9
        go_wp2_with fail
        go_ret
        exact ⟨ret_bool (by simp), HB9.out⟩
      · go_wp2_with fail
        go_ret
        exact ⟨ret_bool (by simp), HB7.out⟩

end Go.Proofs.Ytonpdclccgpceaa
