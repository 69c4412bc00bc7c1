/- RowsRoundTrip: the law's walk -/
import Derived.Test.YtonpdclccgpceaaRwH4
import Derived.Test.YtonpdclccgpceaaRwSm
import Derived.Test.YtonpdclccgpceaaRwSa
import Derived.Test.YtonpdclccgpceaaRwPs
import Derived.Test.YtonpdclccgpceaaRwG2
namespace Go.Proofs.Ytonpdclccgpceaa
open Go Go.RowKit
set_option maxHeartbeats 8000000

/-- a small valid system is packed -/
theorem packGood_any {A : Option Addr} {n c N bd : Nat} {ls : List (List Arc)} {w : World} (h : RdL w w.heap.size A n ls) (hn : n ≤ N) (h1 : 1 ≤ n) (hs : ∀ l ∈ ls, l.length ≤ bd ∧ GoodR n l) (hN : N ≤ 100) (hbd : bd ≤ 250) :
    validB ls = true ∧ (packB ls).length ≤ 1048576 ∧ Calls Try.prog 18 #[lts A n c] w fun e w' => ∃ (A' : Option Addr) (m c' : Nat), e = .returned (.tuple #[.slice A' m c', .int .i64 0]) ∧ m = (packB ls).length ∧ m ≤ c' ∧ Own w' (.slice A' m c') (packB ls) ∧ Rd w' w'.heap.size 1 A' m (cellsOf ucell (packB ls)) ∧ Below w.heap.size w w' ∧
      ∀ g, (Value.slice A' m c').ownBlock = some g → w.heap.size ≤ g := by
  have hl := h.len
  have ht := total_all ls 100 250 (fun l hl => Nat.le_trans (hs l hl).1 hbd) (by omega)
  have hv : validB ls = true := valid_of (bd := bd) (by omega) (by omega) (fun l hl => (hs l hl).1) (by
    have := Nat.mul_le_mul (show ls.length ≤ 100 by omega) hbd
    omega) (by rw [hl]; exact fun l hl => (hs l hl).2)
  have hp := packs_small (by omega) (by omega) hv
  refine ⟨hv, hp, (pkg_any A n c w.heap.size ls w h (Nat.le_refl _) (by omega) (fun l hl => by have := (hs l hl).1; omega) (fun _ => hp)).mono ?_⟩
  rintro e w1 ⟨hres, hb1⟩
  rcases hres with ⟨hq, _⟩ | ⟨_, v1, rfl, ho1, hf1⟩
  · rw [hv] at hq; cases hq
  obtain ⟨A1, c1, rfl, hc1, _⟩ := ho1.form
  exact ⟨A1, _, c1, rfl, rfl, hc1, ho1, ho1.rd, hb1, hf1⟩

set_option maxRecDepth 100000 in
theorem rowsRoundTrip_law (w : World) (A : Option Addr) (n c : Nat) (zs : List Int) (h : Rd w w.heap.size 1 A n (cellsOf icell zs)) (hn : n ≤ 1048576)
    (Ab : Option Addr) (nb cb : Nat) (lb : List Nat) (hb : Rd w w.heap.size 1 Ab nb (cellsOf ucell lb)) (hnb : nb ≤ 1048576) (hby : ∀ y ∈ lb, y < 256) (hcb : nb ≤ cb) :
    Calls Try.prog 4 #[.slice A n c, .slice Ab nb cb] w fun e w' => e = .returned (.bool true) ∧ Below w.heap.size w w' := by
  have HR0 := Lib.hid h
  have HBB := Lib.hid hb
  have HBY := Lib.hid hby
  clear h hb hby
  go_enter Try.func4, Try.ntmps4
  go_wp2_with fail
  refine (tnew_any w.heap.size A n c zs _ HR0.out (Nat.le_refl _)).mono ?_
  rintro e w1 ⟨rfl, hT1, hb1, hz1⟩
  have HT1 := Lib.hid hT1
  have HB1 := Lib.hid hb1
  clear hT1 hb1
  go_wp2_with fail
  refine (ltsGenV_any w.heap.size w.heap.size A n c 0 zs 18 _ HT1.out (by omega) (by omega) (by decide) (by decide)).mono ?_
  rintro e w2 ⟨⟨A2, n2, c2, l2, rfl, hR2, hnc2, hn2, hn2', hs2⟩, _, hO2⟩
  have HR2 := Lib.hid hR2
  have HS2 := Lib.hid hs2
  have HB2 := Lib.hid ((HB1.out.trans (hO2.below (by omega) (fun k hk e => by omega))).alloc (Nat.le_trans HB1.out.size hO2.size) (.cells #[.slice A2 n2 c2] 25))
  have HN2 := Lib.hid (Blk.new w2 25 #[.slice A2 n2 c2])
  have h2c := HN2.out.cell
  have h2l := HN2.out.lt
  clear hR2 hs2 hO2
  go_wp2_with fail
  obtain ⟨hv, hp, hC⟩ := packGood_any (c := c2) ((HR2.out.alloc (Nat.le_refl _) (.cells #[.slice A2 n2 c2] 25)).more (by simp)) hn2 hn2' HS2.out (by decide) (by decide)
  have HV := Lib.hid hv
  clear hv
  refine hC.mono ?_
  clear hC
  rintro e w3 ⟨A3, m3, c3, rfl, hm3, hc3, _, hO3, hb3, _⟩
  have HO3 := Lib.hid (And.intro hO3 hm3)
  have HN3 := Lib.hid (And.intro (HB2.out.trans (hb3.mono HB2.out.size)) (And.intro (HN2.out.below hb3 HN2.out.lt) (((HR2.out.alloc (Nat.le_refl _) (.cells #[.slice A2 n2 c2] 25)).more (show w2.heap.size ≤ (w2.alloc (.cells #[.slice A2 n2 c2] 25)).heap.size by simp)).below hb3)))
  have hs3 := hb3.size
  clear hO3 hb3
  have hm3' : m3 ≤ 1048576 := by omega
  clear hm3
  go_wp2_with fail
  refine (unpack_any A3 m3 c3 w3.heap.size (packB l2) _ HO3.out.1 (Nat.le_refl _) (pack_byte l2) hc3 (by omega)).mono ?_
  rintro e w4 ⟨A4, n4, c4, l4, err, rfl, hR4, hb4, _, _, hU⟩
  obtain ⟨rfl, rfl⟩ := hU.good l2 HV.out rfl (by rw [← HO3.out.2]; exact hm3')
  have HR4 := Lib.hid (And.intro ((HN3.out.2.2.below (hb4.mono hs3)).more (Nat.le_trans hs3 hb4.size)) hR4)
  have HN4 := Lib.hid (And.intro ((HN3.out.1.trans (hb4.mono HN3.out.1.size)).alloc (Nat.le_trans HN3.out.1.size hb4.size) (.cells #[.slice A4 n4 c4] 25)) ((HN3.out.2.1.below hb4 HN3.out.2.1.lt).alloc (.cells #[.slice A4 n4 c4] 25)))
  have h4c := HN4.out.2.cell
  have h4l := HN4.out.2.lt
  clear hR4 hb4 hU h2c h2l hs3 hz1
  go_wp2_with fail
  refine (same_any A2 A4 n2 c2 n4 c4 w4.heap.size _ _ _ (HR4.out.1.alloc (Nat.le_refl _) _) (HR4.out.2.alloc (Nat.le_refl _) _) (by simp) (by omega) (fun l hl => by have := (HS2.out l hl).1; omega)).mono ?_
  rintro e w5 ⟨rfl, hb5⟩
  have HB5 := Lib.hid (HN4.out.1.trans (hb5.mono HN4.out.1.size))
  rw [show decide (l4 = l4) = true from decide_eq_true rfl]
  clear hb5 h4c h4l
  by_cases hlen : (300 : Int) < nb
  · go_wp2_with fail
    refine (sane_any _).mono ?_
    rintro e w6 ⟨rfl, hb6⟩
    have HB6 := Lib.hid (HB5.out.trans (hb6.mono HB5.out.size))
    clear hb6
    go_wp2_with fail
    go_ret
    exact ⟨ret_bool (by simp), HB6.out⟩
  · go_wp2_with fail
    refine (unpack_any Ab nb cb w.heap.size lb _ (HBB.out.below HB5.out) HB5.out.size HBY.out hcb (by omega)).mono ?_
    rintro e w6 ⟨A6, n6, c6, l6, err, rfl, hR6, hb6, hn6, hs6, hU⟩
    have HU := Lib.hid hU
    have HB6 := Lib.hid ((HB5.out.trans (hb6.mono HB5.out.size)).alloc (Nat.le_trans HB5.out.size hb6.size) (.cells #[.slice A6 n6 c6] 25))
    have HR6 := Lib.hid (hR6.alloc (Nat.le_refl _) (.cells #[.slice A6 n6 c6] 25))
    have HN6 := Lib.hid (Blk.new w6 25 #[.slice A6 n6 c6])
    have h6c := HN6.out.cell
    have h6l := HN6.out.lt
    have HS6 := Lib.hid hs6
    clear hR6 hb6 hU hs6
    by_cases herr : err = 0
    · subst herr
      obtain ⟨hv6, hp6, hl6⟩ := HU.out.zero rfl
      have hl6' : (packB l6).length ≤ 1048576 := by rw [hp6]; exact hl6
      have HP6 := Lib.hid (And.intro hv6 hp6)
      clear hv6 hp6 hl6
      go_wp2_with fail
      refine (pkg_any A6 n6 c6 w6.heap.size l6 _ HR6.out (by simp) (by omega) (fun l hl => Nat.le_trans (HS6.out l hl) (by omega)) (fun _ => hl6')).mono ?_
      rintro e w7 ⟨hres, hb7⟩
      rcases hres with ⟨hq, _⟩ | ⟨_, v7, rfl, ho7, _⟩
      · rw [HP6.out.1] at hq; cases hq
      obtain ⟨A7, c7, rfl, _, _⟩ := ho7.form
      have HB7 := Lib.hid (HB6.out.trans (hb7.mono HB6.out.size))
      have hr7 := ho7.rd
      have hr8 := HBB.out.below HB7.out
      have hm := packB_min l6
      obtain ⟨m7, hm7⟩ : ∃ m7, (packB l6).length = m7 := ⟨_, rfl⟩
      have hnb8 : nb = m7 := by rw [← hr8.len ucell_len (by decide), ← hm7, HP6.out.2]
      rw [hm7] at hr7 hm ⊢
      obtain ⟨b7, o7, rfl, _⟩ := hr7.2 (by omega)
      obtain ⟨b8, o8, e8, _⟩ := hr8.2 (by omega)
      subst e8
      have k7 := conv_any (c := c7) w7 hr7 (by omega)
      have k8 := conv_any (c := cb) w7 hr8 (by omega)
      rw [HP6.out.2] at k7
      clear hr7 hr8 ho7 hb7 hm hl6' hm7 hnb8 h6c h6l
      go_wp2_with fail
      refine (sane_any _).mono ?_
      rintro e w8 ⟨rfl, hb8⟩
      have HB8 := Lib.hid (HB7.out.trans (hb8.mono HB7.out.size))
      clear hb8
      go_wp2_with fail
      go_ret
      exact ⟨ret_bool (by simp), HB8.out⟩
    · go_wp2_with fail
      refine (sane_any _).mono ?_
      rintro e w7 ⟨rfl, hb7⟩
      have HB7 := Lib.hid (HB6.out.trans (hb7.mono HB6.out.size))
      clear hb7
      go_wp2_with fail
      go_ret
      exact ⟨ret_bool (by simp), HB7.out⟩

end Go.Proofs.Ytonpdclccgpceaa
