/- StrongMinimal: the law's walk -/
import Derived.Test.YtmciinikfjfegaaSgM1
import Derived.Test.YtmciinikfjfegaaSgE2
import Derived.Test.YtmciinikfjfegaaSgLp
import Derived.Test.YtmciinikfjfegaaRwG2
namespace Go.Proofs.Ytmciinikfjfegaa
open Go Go.RowKit
set_option maxHeartbeats 4000000

set_option maxRecDepth 100000 in
theorem strongMinimal_law (w : World) (A : Option Addr) (n c : Nat) (zs : List Int) (h : Rd w w.heap.size 1 A n (cellsOf icell zs)) (hn : n ≤ 1048576) :
    Calls Try.prog 8 #[.slice A n c] w fun e w' => e = .returned (.bool true) ∧ Below w.heap.size w w' := by
  have HR0 := Lib.hid h
  clear h
  go_enter Try.func8, Try.ntmps8
  go_wp2_with fail
  refine (tnew_any w.heap.size A n c zs w HR0.out (Nat.le_refl _)).mono ?_
  rintro e w1 ⟨rfl, hT1, hb1, hz1⟩
  have HX := Lib.hid (And.intro hT1 hb1)
  clear hT1 hb1
  go_wp2_with fail
  refine (ltsGenV_any w.heap.size w.heap.size A n c 0 zs 9 _ HX.out.1 (by omega) (by omega) (by decide) (by decide)).mono ?_
  rintro e w2 ⟨⟨A2, n2, c2, l2, rfl, hR2, hnc2, hn2, hn2', hs2⟩, _, hO2⟩
  have HS2 := Lib.hid (show ∀ l ∈ l2, l.length ≤ 27 from fun l hl => by have := (hs2 l hl).1; omega)
  have HV2 := Lib.hid (show validB l2 = true from valid_of (bd := 27) (by rw [hR2.len]; exact hn2') (by rw [hR2.len]; omega) (fun l hl => by have := (hs2 l hl).1; omega) (by rw [hR2.len]; omega) (fun l hl => by rw [hR2.len]; exact (hs2 l hl).2))
  have HL2 := Lib.hid hR2.len
  have HT2 := Lib.hid (show total l2 ≤ 243 by have := total_lb 27 l2 HS2.out; rw [HL2.out] at this; omega)
  have hz2 := hO2.size
  have HB2 := Lib.hid ((HX.out.2.trans (hO2.below (by omega) (fun k hk e => by omega))).alloc (show w.heap.size ≤ w2.heap.size by omega) (.cells #[.slice A2 n2 c2] 27))
  have HR2 := Lib.hid (hR2.alloc (Nat.le_refl _) (.cells #[.slice A2 n2 c2] 27))
  have HX2 := Lib.hid (Blk.new w2 27 #[.slice A2 n2 c2])
  clear hR2 hs2 hO2
  have x2c := HX2.out.cell
  have x2l := HX2.out.lt
  go_wp2_with fail
  refine (compress_any A2 n2 c2 l2 w2.heap.size _ HR2.out (by simp) (by omega) (fun l hl => by have := HS2.out l hl; omega)).mono ?_
  rintro e w3 ⟨A3, n3, c3, C, err, rfl, ⟨W3, xs3, hW3, hX3⟩, hb3, hres⟩
  obtain ⟨rfl, K, i, hR, hd, hC⟩ : err = 0 ∧ ∃ K i, DoneR l2 K ∧ DoneC (quoE l2 K) i ∧ C = (canonK (quoE l2 K) i).out := by
    rcases hres with ⟨h1, _⟩ | ⟨_, h2, h3⟩
    · rw [HV2.out] at h1
      cases h1
    · exact ⟨h2, h3⟩
  obtain ⟨hVC, hCl, hi, hrC, hcl, hmin, heq⟩ := com_min HV2.out HT2.out hR hd hC
  have HVC := Lib.hid (And.intro hVC (And.intro hrC (And.intro hcl (And.intro hmin heq))))
  obtain rfl : n3 = i := by rw [← hX3.whole.len, hCl]
  have hi2 : n3 ≤ n2 := by rw [← HL2.out]; exact hi
  have hz3 : w2.heap.size + 1 ≤ w3.heap.size := by have := hb3.size; simpa using this
  have HR3 := Lib.hid (And.intro (((HR2.out.below (hb3.mono (by simp))).alloc (by omega) (.cells #[.slice A3 n3 c3] 27)).more (show w2.heap.size ≤ w3.heap.size by omega)) (hX3.whole.alloc (Nat.le_refl _) (.cells #[.slice A3 n3 c3] 27)))
  have HX3 := Lib.hid (And.intro ((HX2.out.below hb3 x2l).alloc (.cells #[.slice A3 n3 c3] 27)) (And.intro (Blk.new w3 27 #[.slice A3 n3 c3]) ((HB2.out.trans (hb3.mono (by simp; omega))).alloc (by omega) (.cells #[.slice A3 n3 c3] 27))))
  clear hX3 hb3 hres hR hd hC hVC hrC hcl hmin heq hi hCl x2c x2l
  have x3c := HX3.out.2.1.cell
  have x3l := HX3.out.2.1.lt
  go_wp2_with fail
  refine (compress_any A3 n3 c3 C w3.heap.size _ HR3.out.2 (by simp) (by omega) (fun l hl => by have := HVC.out.2.1 l hl; omega)).mono ?_
  rintro e w4 ⟨A4, n4, c4, D, err, rfl, ⟨W4, xs4, hW4, hX4⟩, hb4, hres⟩
  obtain ⟨rfl, hDC⟩ : err = 0 ∧ D = C := by
    rcases hres with ⟨h1, _⟩ | ⟨_, h2, K', i', h3, h4, h5⟩
    · rw [HVC.out.1] at h1
      cases h1
    · exact ⟨h2, by rw [h5]; exact HVC.out.2.2.2.1 K' i' h3 h4⟩
  subst hDC
  have hz4 : w3.heap.size + 1 ≤ w4.heap.size := by have := hb4.size; simpa using this
  have HR4 := Lib.hid (And.intro (((HR3.out.1.below (hb4.mono (by simp))).alloc (by omega) (.cells #[.slice A4 n4 c4] 27)).more (show w3.heap.size ≤ w4.heap.size by omega)) (And.intro (((HR3.out.2.below (hb4.mono (by simp))).alloc (by omega) (.cells #[.slice A4 n4 c4] 27)).more (show w3.heap.size ≤ w4.heap.size by omega)) (hX4.whole.alloc (Nat.le_refl _) (.cells #[.slice A4 n4 c4] 27))))
  have HX4 := Lib.hid (And.intro ((HX3.out.1.below hb4 HX3.out.1.lt).alloc (.cells #[.slice A4 n4 c4] 27)) (And.intro ((HX3.out.2.1.below hb4 x3l).alloc (.cells #[.slice A4 n4 c4] 27)) (And.intro (Blk.new w4 27 #[.slice A4 n4 c4]) ((HX3.out.2.2.trans (hb4.mono (by simp; omega))).alloc (by omega) (.cells #[.slice A4 n4 c4] 27)))))
  clear hX4 hb4 hres x3c x3l
  have y2c := HX4.out.1.cell
  have y2l := HX4.out.1.lt
  have y3c := HX4.out.2.1.cell
  have y3l := HX4.out.2.1.lt
  go_wp2_with fail
  refine (equalL_any A2 A3 n2 c2 n3 c3 w4.heap.size l2 D _ HR4.out.1 HR4.out.2.1 (by simp) (by omega) (by omega) (fun l hl => by have := HS2.out l hl; omega) (fun l hl => by have := HVC.out.2.1 l hl; omega)).mono ?_
  rintro e w5 ⟨⟨q, rfl, hq⟩, hb5⟩
  obtain rfl : q = true := HVC.out.2.2.2.2 q hq
  have hz5 : w4.heap.size + 1 ≤ w5.heap.size := by have := hb5.size; simpa using this
  have HR5 := Lib.hid (And.intro ((HR4.out.2.1.below (hb5.mono (by simp))).more (show w4.heap.size ≤ w5.heap.size by omega)) ((HR4.out.2.2.below (hb5.mono (by simp))).more (show w4.heap.size ≤ w5.heap.size by omega)))
  have HX5 := Lib.hid (And.intro (HX4.out.1.below hb5 y2l) (And.intro (HX4.out.2.1.below hb5 y3l) (And.intro (HX4.out.2.2.1.below hb5 HX4.out.2.2.1.lt) (HX4.out.2.2.2.trans (hb5.mono (by simp; omega))))))
  clear hb5 hq y2c y2l y3c y3l
  have z3c := HX5.out.2.1.cell
  have z3l := HX5.out.2.1.lt
  have z4c := HX5.out.2.2.1.cell
  have z4l := HX5.out.2.2.1.lt
  go_wp2_with fail
  refine (same_any A3 A4 n3 c3 n4 c4 w5.heap.size D D w5 HR5.out.1 HR5.out.2 (Nat.le_refl _) (by omega) (fun l hl => by have := HVC.out.2.1 l hl; omega)).mono ?_
  rintro e w6 ⟨rfl, hb6⟩
  have hdd : decide (D = D) = true := decide_eq_true rfl
  have hz6 := hb6.size
  have HR6 := Lib.hid ((HR5.out.1.below hb6).more hz6)
  have HX6 := Lib.hid (And.intro (HX5.out.1.below hb6 HX5.out.1.lt) (And.intro (HX5.out.2.1.below hb6 z3l) (HX5.out.2.2.2.trans (hb6.mono (by omega)))))
  clear hb6 z3c z3l z4c z4l
  have u2c := HX6.out.1.cell
  have u2l := HX6.out.1.lt
  have u3c := HX6.out.2.1.cell
  have u3l := HX6.out.2.1.lt
  have hgt : ¬ (n2 : Int) < (n3 : Int) := by omega
  go_wp2_with fail
  refine (Classes_any A3 n3 c3 D w6.heap.size w6 HR6.out (Nat.le_refl _) (by omega) (fun l hl => by have := HVC.out.2.1 l hl; omega)).mono ?_
  rintro e w7 ⟨⟨A7, n7, c7, cl, rfl, hR7, hcl7⟩, hb7⟩
  obtain rfl : cl = List.range n3 := by
    rcases hcl7 with ⟨h1, _⟩ | ⟨_, K', h2, h3⟩
    · rw [HVC.out.1] at h1
      cases h1
    · rw [h3]
      exact HVC.out.2.2.1 K' h2
  obtain rfl : n7 = n3 := by
    have := hR7.len ncell_len (by decide)
    rw [List.length_range] at this
    exact this.symm
  have HR7 := Lib.hid hR7
  have HX7 := Lib.hid (And.intro (HX6.out.2.1.below hb7 u3l) (HX6.out.2.2.trans (hb7.mono (by omega))))
  have hz7 := hb7.size
  clear hR7 hcl7 hb7 u2c u2l u3c u3l
  go_wp2_with fail
  go_loopw [9] (fun vs wr => ∃ s : Nat, s ≤ n7 ∧ vs = .int .i64 s ∧ Hid (wr = w7)) (fun vs _ => n7 - (intOf vs).toNat)
  case atStart => exact ⟨0, Nat.zero_le _, rfl, Lib.hid rfl⟩
  case round =>
    obtain ⟨s, hs, rfl, HW⟩ := hrel
    obtain rfl := HW.out
    by_cases hlt : s < n7
    · obtain ⟨b1, o1, x, rfl, hb1, hx, d1⟩ := HR7.out.nat hlt
      obtain rfl : x = s := by
        rw [List.getElem?_range hlt] at hx
        exact (Option.some.inj hx).symm
      have hb1l : b1 < wr.heap.size := by omega
      have hxx : ((x : Int) == (x : Int)) = true := by simp
      clear hx
      go_wp2_with fail
      go_roundw
      case rel => exact ⟨x + 1, by omega, by go_num, Lib.hid (by trivial)⟩
      case measure => simp [intOf]; omega
    · have q3c := HX7.out.1.cell
      have q3l := HX7.out.1.lt
      have hnn : ((n7 : Int) == (n7 : Int)) = true := by simp
      go_wp2_with fail
      refine (sane25_any _).mono ?_
      rintro e w9 ⟨rfl, hb9⟩
      have HB9 := Lib.hid (HX7.out.2.trans (hb9.mono (by omega)))
      clear hb9
      go_wp2_with fail
      go_ret
      exact ⟨ret_bool (by simp), HB9.out⟩

end Go.Proofs.Ytmciinikfjfegaa
