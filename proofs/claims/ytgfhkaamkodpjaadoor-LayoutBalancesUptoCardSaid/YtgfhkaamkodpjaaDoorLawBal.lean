/- LayoutBalances: the law's walk -/
import Derived.Test.YtgfhkaamkodpjaaDoorLw3
import Derived.Test.YtgfhkaamkodpjaaDoorDelT
import Derived.Test.YtgfhkaamkodpjaaDoorCardK
namespace Go.Proofs.YtgfhkaamkodpjaaDoor
open Go Go.RowKit
set_option maxHeartbeats 8000000
attribute [local irreducible] kwB syB clB

def bTok (b : Nat) : Tok := ⟨4 + (b : Int) % 4, 0, ByteArray.empty, ⟨0, 0⟩⟩

theorem map_take_snoc {α β : Type} (f : α → β) (l : List α) (k : Nat) (x : α) (h : l[k]? = some x) : (l.take (k + 1)).map f = (l.take k).map f ++ [f x] := take_snoc' f l k x h

set_option maxRecDepth 100000 in
theorem layoutBalances_law (w : World) (hG : Glob w.heap.size w) (a0 : Option Addr) (n0 c0 : Nat) (l0 : List Nat) (hR0 : Rd w w.heap.size 1 a0 n0 (cellsOf bcell l0)) (_hn0 : n0 ≤ 1048576) (hs0 : ∀ y ∈ l0, y < 256)
    (a1 : Option Addr) (n1 c1 : Nat) (l1 : List Tok) (hR1 : Rd w w.heap.size 5 a1 n1 (cellsOf Tok.cells l1)) (hA1 : a1 = none → c1 = 0 ∧ n1 = 0) (hn1 : n1 ≤ 1048576) (_hs1 : ∀ t ∈ l1, t.str.size ≤ 1048576) :
    Calls Tryd.prog 10 #[.slice a0 n0 c0, .slice a1 n1 c1] w fun e w' => e = .returned (.bool true) ∧ Below w.heap.size w w' := by
  have H0 := Lib.hid hR0
  have H1 := Lib.hid hR1
  have HG := Lib.hid hG
  have HL0 := Lib.hid (hR0.len bcell_len (by decide))
  have HS0 := Lib.hid hs0
  clear hR0 hR1 hG hs0
  go_enter Tryd.func10, Tryd.ntmps10
  go_wp2
  go_loopw [5, 6] (fun vm vk wr => ∃ k : Nat, k ≤ n0 ∧ k ≤ 60 ∧ vk = .int .i64 k ∧ wr.ownsRow 0 40 5 vm ((l0.take k).map bTok).length (cellsOf Tok.cells ((l0.take k).map bTok)) ∧ Below w.heap.size w wr ∧ (∀ g, vm.ownBlock = some g → w.heap.size ≤ g)) (fun _ vk _ => n0 - (intOf vk).toNat)
  case atStart => exact ⟨0, Nat.zero_le _, by decide, rfl, World.ownsRow_nil _ _ _ _, Below.refl _ _, fun g hg => by cases hg⟩
  case round =>
    obtain ⟨k, hk, hk60, rfl, hown, hbl, hlo⟩ := hrel
    have HOW := Lib.hid hown
    have HBL := Lib.hid hbl
    have HLO := Lib.hid hlo
    have hlen : ((l0.take k).map bTok).length ≤ k := by simp; omega
    obtain ⟨Ao, capo, rfl, _, _⟩ := own_form hown
    by_cases hlt : k < n0 ∧ k < 60
    · obtain ⟨hlt1, hlt2⟩ := hlt
      obtain ⟨b1, o1, y, rfl, hb1, hy, c0'⟩ := (H0.out.keep (w' := wr) (fun p hp => hbl.cell hp)).byte hlt1
      have HY := Lib.hid (map_take_snoc bTok l0 k y hy)
      have hy256 := HS0.out y (List.mem_of_getElem? hy)
      clear hown hbl hlo hy
      go_wp2_with (first | (at_builtin; refine appList_blk rfl slTok rfl (HOW.out.alloc _) rfl (news := (bTok y).cells) ((heap_alloc_at rfl) : Blk _ wr.heap.size _ _) rfl rfl (by simp [Tok.cells, Value.oneCell']) (by decide) (by unfold maxLen; omega) (by omega) ?_; intro g7 cap7 w7 hown7 hgrow7 hat7))
      go_roundw
      case rel =>
        refine ⟨k + 1, by omega, by omega, by go_num, ?_, ?_, fun g hg => ?_⟩
        · rw [HY.out]
          simpa [cellsOf] using hown7
        · have hbb := HBL.out.alloc HBL.out.size (.cells (bTok y).cells.toArray 40)
          have hO : Outside (fun z => (Value.slice Ao ((l0.take k).map bTok).length capo).ownBlock = some z) _ w7 := (Outside.refl _ _).grown hgrow7 (fun z hz => .inl hz)
          exact hbb.trans (hO.below hbb.size (fun z hz e => by have := HLO.out z e; omega))
        · cases hg
          rcases hat7 with h1 | h1
          · exact HLO.out _ h1
          · have := HBL.out.size
            simp at h1
            show w.heap.size ≤ g7
            omega
      case measure => simp [intOf]; omega
    · have hnn : ((l0.take k).map bTok).length ≤ 1000000000 := by omega
      have HRm := Lib.hid (Rd.ofOwn hown)
      have hAm : Ao = none → capo = 0 ∧ ((l0.take k).map bTok).length = 0 := fun hA => by
        subst hA
        rcases hown.2 with ⟨h1, h2⟩ | ⟨g, cap, cur, h1, _⟩
        · first | (cases h1; exact ⟨rfl, by omega⟩) | (simp at h1; omega) | (simp at h1 h2; omega)
        · cases h1
      generalize hm : (l0.take k).map bTok = m at *
      have hBw := HBL.out.size
      clear hown hbl hlo hm
      by_cases h1 : k < n0
      · have h2 : ¬ k < 60 := fun h => hlt ⟨h1, h⟩
        go_wp2_with fail
        refine (awake_any w.heap.size _ (HG.out.below HBL.out)).mono ?_; rintro e w1 ⟨rfl, hb1⟩; have HB1 := Lib.hid (HBL.out.trans (hb1.mono hBw)); have hs1 := HB1.out.size; have HM1 := Lib.hid (HRm.out.below hb1); have hms1 := hb1.size; clear hb1; go_wp2_with fail; refine (balanced_any Ao _ _ _ m _ HM1.out hms1 hnn).mono ?_; rintro e w2 ⟨rfl, hb2⟩; have HB2 := Lib.hid (HB1.out.trans (hb2.mono hs1)); have hs2 := HB2.out.size; have HM2 := Lib.hid (HM1.out.below (hb2.mono hms1)); have hms2 := Nat.le_trans hms1 hb2.size; clear hb2; go_wp2_with fail; refine (rbalanced_any Ao _ _ _ m _ HM2.out hnn).mono ?_; generalize balF m 0 = q0; rintro e w3 ⟨rfl, rfl⟩; go_wp2_with fail; refine (balanced_any a1 n1 c1 _ l1 _ (H1.out.below HB2.out) hs2 (by omega)).mono ?_; rintro e w4 ⟨rfl, hb4⟩; have HB4 := Lib.hid (HB2.out.trans (hb4.mono hs2)); have hs4 := HB4.out.size; have HM4 := Lib.hid (HM2.out.below (hb4.mono hms2)); have hms4 := Nat.le_trans hms2 hb4.size; clear hb4; go_wp2_with fail; refine (rbalanced_any a1 n1 c1 _ l1 _ (H1.out.below HB4.out) (by omega)).mono ?_; generalize balF l1 0 = q1; rintro e w5 ⟨rfl, rfl⟩; go_wp2_with fail; refine (lremove_any Ao _ _ _ m _ HM4.out hms4 hAm hnn).mono ?_; rintro e w6 ⟨A6, n6, rfl, hR6, hb6⟩; have HB6 := Lib.hid (HB4.out.trans (hb6.mono hs4)); have hs6 := HB6.out.size; have HM6 := Lib.hid (HM4.out.below (hb6.mono hms4)); have hms6 := Nat.le_trans hms4 hb6.size; have HR6 := Lib.hid hR6; clear hR6 hb6; go_wp2_with fail; refine (rremove_any Ao _ _ _ m _ HM6.out hms6 hnn).mono ?_; rintro e w7 ⟨A7, n7, c7, rfl, hR7, hb7⟩; have HB7 := Lib.hid (HB6.out.trans (hb7.mono hs6)); have hs7 := HB7.out.size; have HR7 := Lib.hid hR7; have HR67 := Lib.hid ((HR6.out.below hb7).more hb7.size); obtain rfl : n6 = n7 := (HR6.out.len Tok.cells_len (by decide)).symm.trans (hR7.len Tok.cells_len (by decide)); have hn6 : n6 ≤ 1000000000 := (by have h3 := HR6.out.len Tok.cells_len (by decide); have h4 : (remS m).length ≤ m.length := List.length_filter_le _ _; omega); clear hR7 hb7; go_wp2_with fail; refine (equal_same A6 A7 n6 _ _ _ _ _ HR67.out HR7.out (Nat.le_refl _) hn6).mono ?_; rintro e w8 ⟨rfl, hb8⟩; have HB8 := Lib.hid (HB7.out.trans (hb8.mono hs7)); have hs8 := HB8.out.size; clear hb8; go_wp2_with fail; refine (lremove_any a1 n1 c1 _ l1 _ (H1.out.below HB8.out) hs8 hA1 (by omega)).mono ?_; rintro e w9 ⟨A9, n9, rfl, hR9, hb9⟩; have HB9 := Lib.hid (HB8.out.trans (hb9.mono hs8)); have hs9 := HB9.out.size; have HR9 := Lib.hid hR9; clear hR9 hb9; go_wp2_with fail; refine (rremove_any a1 n1 c1 _ l1 _ (H1.out.below HB9.out) hs9 (by omega)).mono ?_; rintro e wa ⟨Aa, na, ca, rfl, hRa, hba⟩; have HBa := Lib.hid (HB9.out.trans (hba.mono hs9)); have hsa := HBa.out.size; have HRa := Lib.hid hRa; have HR9a := Lib.hid ((HR9.out.below hba).more hba.size); obtain rfl : n9 = na := (HR9.out.len Tok.cells_len (by decide)).symm.trans (hRa.len Tok.cells_len (by decide)); have hn9 : n9 ≤ 1000000000 := (by have h3 := HR9.out.len Tok.cells_len (by decide); have h4 : (remS l1).length ≤ l1.length := List.length_filter_le _ _; have h5 := H1.out.len Tok.cells_len (by decide); omega); clear hRa hba; go_wp2_with fail; refine (equal_same A9 Aa n9 _ _ _ _ _ HR9a.out HRa.out (Nat.le_refl _) hn9).mono ?_; rintro e wb ⟨rfl, hbb⟩; have HBb := Lib.hid (HBa.out.trans (hbb.mono hsa)); clear hbb; go_wp2_with fail; go_ret; exact ⟨by simp, HBb.out⟩
      · go_wp2_with fail
        refine (awake_any w.heap.size _ (HG.out.below HBL.out)).mono ?_; rintro e w1 ⟨rfl, hb1⟩; have HB1 := Lib.hid (HBL.out.trans (hb1.mono hBw)); have hs1 := HB1.out.size; have HM1 := Lib.hid (HRm.out.below hb1); have hms1 := hb1.size; clear hb1; go_wp2_with fail; refine (balanced_any Ao _ _ _ m _ HM1.out hms1 hnn).mono ?_; rintro e w2 ⟨rfl, hb2⟩; have HB2 := Lib.hid (HB1.out.trans (hb2.mono hs1)); have hs2 := HB2.out.size; have HM2 := Lib.hid (HM1.out.below (hb2.mono hms1)); have hms2 := Nat.le_trans hms1 hb2.size; clear hb2; go_wp2_with fail; refine (rbalanced_any Ao _ _ _ m _ HM2.out hnn).mono ?_; generalize balF m 0 = q0; rintro e w3 ⟨rfl, rfl⟩; go_wp2_with fail; refine (balanced_any a1 n1 c1 _ l1 _ (H1.out.below HB2.out) hs2 (by omega)).mono ?_; rintro e w4 ⟨rfl, hb4⟩; have HB4 := Lib.hid (HB2.out.trans (hb4.mono hs2)); have hs4 := HB4.out.size; have HM4 := Lib.hid (HM2.out.below (hb4.mono hms2)); have hms4 := Nat.le_trans hms2 hb4.size; clear hb4; go_wp2_with fail; refine (rbalanced_any a1 n1 c1 _ l1 _ (H1.out.below HB4.out) (by omega)).mono ?_; generalize balF l1 0 = q1; rintro e w5 ⟨rfl, rfl⟩; go_wp2_with fail; refine (lremove_any Ao _ _ _ m _ HM4.out hms4 hAm hnn).mono ?_; rintro e w6 ⟨A6, n6, rfl, hR6, hb6⟩; have HB6 := Lib.hid (HB4.out.trans (hb6.mono hs4)); have hs6 := HB6.out.size; have HM6 := Lib.hid (HM4.out.below (hb6.mono hms4)); have hms6 := Nat.le_trans hms4 hb6.size; have HR6 := Lib.hid hR6; clear hR6 hb6; go_wp2_with fail; refine (rremove_any Ao _ _ _ m _ HM6.out hms6 hnn).mono ?_; rintro e w7 ⟨A7, n7, c7, rfl, hR7, hb7⟩; have HB7 := Lib.hid (HB6.out.trans (hb7.mono hs6)); have hs7 := HB7.out.size; have HR7 := Lib.hid hR7; have HR67 := Lib.hid ((HR6.out.below hb7).more hb7.size); obtain rfl : n6 = n7 := (HR6.out.len Tok.cells_len (by decide)).symm.trans (hR7.len Tok.cells_len (by decide)); have hn6 : n6 ≤ 1000000000 := (by have h3 := HR6.out.len Tok.cells_len (by decide); have h4 : (remS m).length ≤ m.length := List.length_filter_le _ _; omega); clear hR7 hb7; go_wp2_with fail; refine (equal_same A6 A7 n6 _ _ _ _ _ HR67.out HR7.out (Nat.le_refl _) hn6).mono ?_; rintro e w8 ⟨rfl, hb8⟩; have HB8 := Lib.hid (HB7.out.trans (hb8.mono hs7)); have hs8 := HB8.out.size; clear hb8; go_wp2_with fail; refine (lremove_any a1 n1 c1 _ l1 _ (H1.out.below HB8.out) hs8 hA1 (by omega)).mono ?_; rintro e w9 ⟨A9, n9, rfl, hR9, hb9⟩; have HB9 := Lib.hid (HB8.out.trans (hb9.mono hs8)); have hs9 := HB9.out.size; have HR9 := Lib.hid hR9; clear hR9 hb9; go_wp2_with fail; refine (rremove_any a1 n1 c1 _ l1 _ (H1.out.below HB9.out) hs9 (by omega)).mono ?_; rintro e wa ⟨Aa, na, ca, rfl, hRa, hba⟩; have HBa := Lib.hid (HB9.out.trans (hba.mono hs9)); have hsa := HBa.out.size; have HRa := Lib.hid hRa; have HR9a := Lib.hid ((HR9.out.below hba).more hba.size); obtain rfl : n9 = na := (HR9.out.len Tok.cells_len (by decide)).symm.trans (hRa.len Tok.cells_len (by decide)); have hn9 : n9 ≤ 1000000000 := (by have h3 := HR9.out.len Tok.cells_len (by decide); have h4 : (remS l1).length ≤ l1.length := List.length_filter_le _ _; have h5 := H1.out.len Tok.cells_len (by decide); omega); clear hRa hba; go_wp2_with fail; refine (equal_same A9 Aa n9 _ _ _ _ _ HR9a.out HRa.out (Nat.le_refl _) hn9).mono ?_; rintro e wb ⟨rfl, hbb⟩; have HBb := Lib.hid (HBa.out.trans (hbb.mono hsa)); clear hbb; go_wp2_with fail; go_ret; exact ⟨by simp, HBb.out⟩

end Go.Proofs.YtgfhkaamkodpjaaDoor
