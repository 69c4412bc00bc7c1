/- StrongSeparates: the law's walk -/
import Derived.Test.YtmciinikfjfegaaSgLp
import Derived.Test.YtmciinikfjfegaaSgH7
import Derived.Test.YtmciinikfjfegaaSgH8
import Derived.Test.YtmciinikfjfegaaSgW7
import Derived.Test.YtmciinikfjfegaaPlan3
namespace Go.Proofs.Ytmciinikfjfegaa
open Go Go.RowKit
set_option maxHeartbeats 8000000

mutual
theorem FR.ok {ls : List (List Arc)} (hev : ∀ l ∈ ls, ∀ a ∈ l, 0 ≤ a.ev ∧ a.ev ≤ 1025) (hT : TosIn ls) : ∀ {s t : Nat} {F : Form}, FR ls s t F → FormOk F
  | _, _, _, .neg _ _ _ _ h => h.ok hev hT
  | s, _, _, .may (w := w) hs _ _ hw h => by
    obtain ⟨hm, _⟩ := wit_some hT hw
    have hl := List.getElem?_eq_getElem hs
    rw [rowAt_get hl] at hm
    exact ⟨hev _ (List.getElem_mem hs) w hm, h.ok hev hT⟩
theorem FRs.ok {ls : List (List Arc)} (hev : ∀ l ∈ ls, ∀ a ∈ l, 0 ≤ a.ev ∧ a.ev ≤ 1025) (hT : TosIn ls) : ∀ {u : Nat} {vs : List Nat} {gs : Forms}, FRs ls u vs gs → FormsOk gs
  | _, _, _, .nil => trivial
  | _, _, _, .cons h hs => ⟨h.ok hev hT, hs.ok hev hT⟩
end

set_option maxRecDepth 100000 in
theorem classesO_any (A : Option Addr) (n c : Nat) (ls : List (List Arc)) (B : Nat) (w : World) (h : RdL w B A n ls) (hB : B ≤ w.heap.size) (hn : n ≤ 1000000000000) (hs : ∀ l ∈ ls, l.length ≤ 100000) (hV : validB ls = true) :
    Calls Try.prog 11 #[lts A n c] w fun e w' => (∃ v K, e = .returned v ∧ DoneR ls K ∧ w'.ownsRow 0 3 1 v n (cellsOf ncell (clK ls K)) ∧ ∀ g, v.ownBlock = some g → w.heap.size ≤ g) ∧ Below w.heap.size w w' := by
  have HS := Lib.hid hs
  have HL := Lib.hid h.len
  have HR0 := Lib.hid (h.alloc hB (.cells #[.slice A n c] 27))
  have HN0 := Lib.hid (Blk.new w 27 #[.slice A n c])
  have HB0 := Lib.hid ((Below.refl w.heap.size w).alloc (Nat.le_refl _) (.cells #[.slice A n c] 27))
  have HV := Lib.hid hV
  clear h hs hV
  go_enter Try.func11, Try.ntmps11
  go_wp2_with fail
  refine (validL_any A n c B ls _ HR0.out (by simp; omega) (by omega) (fun l hl => by have := HS.out l hl; omega)).mono ?_
  rw [HV.out]
  rintro e w1 ⟨rfl, hb1⟩
  have hs1 : w.heap.size + 1 ≤ w1.heap.size := by have := hb1.size; simpa using this
  have HW1 := Lib.hid (And.intro (HR0.out.below (hb1.mono (by simp; omega))) (And.intro (HN0.out.below hb1 HN0.out.lt) (HB0.out.trans (hb1.mono (by simp)))))
  clear hb1
  have n1c := HW1.out.2.1.cell
  have n1l := HW1.out.2.1.lt
  go_wp2_with fail
  refine (classes_any A n c ls B w1 HW1.out.1 (by omega) (ok_of_valid HV.out HL.out HS.out)).mono ?_
  rintro e w2 ⟨⟨v2, K, rfl, hd, ho2, hb2'⟩, hb2⟩
  have HZ := Lib.hid (And.intro ho2 (And.intro hd (And.intro (show ∀ g, v2.ownBlock = some g → w.heap.size ≤ g from fun g hg => by have := hb2' g hg; omega) (HW1.out.2.2.trans (hb2.mono (by omega))))))
  clear ho2 hb2 hb2' hd n1c n1l
  go_wp2_with fail
  go_ret
  exact ⟨⟨_, K, rfl, HZ.out.2.1, HZ.out.1, HZ.out.2.2.1⟩, HZ.out.2.2.2⟩

set_option maxRecDepth 100000 in
theorem strongSeparates_law (w : World) (A : Option Addr) (n c : Nat) (zs : List Int) (h : Rd w w.heap.size 1 A n (cellsOf icell zs)) (hn : n ≤ 1048576) :
    Calls Try.prog 9 #[.slice A n c] w fun e w' => e = .returned (.bool true) ∧ Below w.heap.size w w' := by
  have HR0 := Lib.hid h
  clear h
  go_enter Try.func9, Try.ntmps9
  go_wp2_with fail
  refine (tnew_any w.heap.size A n c zs w HR0.out (Nat.le_refl _)).mono ?_
  rintro e w1 ⟨rfl, hT1, hb1, hz1⟩
  have HX := Lib.hid (And.intro hT1 hb1)
  clear hT1 hb1
  go_wp2_with fail
  refine (ltsGenR_any w.heap.size w.heap.size A n c 0 zs 6 _ HX.out.1 (by omega) (by omega) (by decide) (by decide)).mono ?_
  rintro e w2 ⟨⟨g2, cs2, bd2, n2, rfl, hRA2, hn2', hn2, hbd2, hg2⟩, ⟨j2, hj2, hT2⟩, hO2⟩
  obtain ⟨l2, hR2, hs2⟩ := hRA2.rdL
  have HS2 := Lib.hid (show ∀ l ∈ l2, l.length ≤ 27 from fun l hl => by have := (hs2 l hl).1; omega)
  have HV2 := Lib.hid (show validB l2 = true from valid_of (bd := 27) (by rw [hR2.len]; exact hn2') (by rw [hR2.len]; omega) (fun l hl => by have := (hs2 l hl).1; omega) (by rw [hR2.len]; omega) (fun l hl => by rw [hR2.len]; exact (hs2 l hl).2))
  have HL2 := Lib.hid hR2.len
  have hz2 := hO2.size
  have HS3 := Lib.hid (SsAt.new (c2 := n2) hR2 hT2 hO2 (by omega) (by omega))
  have HOK := Lib.hid (ok_of_valid HV2.out HL2.out (fun l hl => by have := HS2.out l hl; omega))
  clear hT2 hR2 hs2 hO2 hRA2
  have x2c := HS3.out.sr.sx.cell
  have x2l := HS3.out.sr.sx.lt
  go_wp2_with fail
  refine (classesO_any (some ⟨g2, 0, none⟩) n2 n2 l2 _ _ HS3.out.rows (Nat.le_refl _) (by omega) (fun l hl => by have := HS2.out l hl; omega) HV2.out).mono ?_
  rintro e w3 ⟨⟨v3, K, rfl, hd3, ho3, hb3'⟩, hb3⟩
  obtain ⟨A3, c3, rfl, _, _⟩ := own_form ho3
  have HSS := Lib.hid (HS3.out.below hb3)
  have HC3 := Lib.hid ho3
  have HD := Lib.hid hd3
  clear hd3 ho3 hb3' hb3 x2c x2l
  have x3c := HSS.out.sr.sx.cell
  have x3l := HSS.out.sr.sx.lt
  have hnn : ((n2 : Int) == (n2 : Int)) = true := by simp
  go_wp2_with fail
  refine (gform_any w.heap.size w.heap.size A n c zs (by omega) 4 (by decide) j2 w3 HSS.out.sr.tp (by omega)).mono ?_
  rintro e w4 ⟨v4, G, rfl, ho4, hb4', hok4, hl4, ⟨j4, hj4, hT4⟩, hO4⟩
  obtain ⟨A4, c4, rfl, _, _⟩ := own_form ho4
  have HS4 := Lib.hid (HSS.out.step hT4 hO4)
  have HC4 := Lib.hid (show Rd w4 w4.heap.size 1 A3 n2 (cellsOf ncell (clK l2 K)) from Rd.ofOwn (own_out HC3.out hO4 (fun x hx e => own_apart HC3.out HSS.out.sr.tp.blk (by decide) (by rw [hx, e]))))
  have HG4 := Lib.hid (And.intro (Rd.ofOwn ho4) hok4)
  have hgl : G.enc.length ≤ 4096 := by omega
  have HB4 := Lib.hid (show Below w.heap.size w w4 from HX.out.2.trans (HS4.out.sr.out.below (by omega) (fun k hk e => by omega)))
  have hX4 := HS4.out.sr.sx.lt
  have hz4 := HB4.out.size
  clear ho4 hb4' hok4 hT4 hO4 x3c x3l
  go_wp2_with fail
  go_loopw [7] (fun vs wr => ∃ s : Nat, s ≤ n2 ∧ vs = .int .i64 s ∧ Hid (Below w4.heap.size w4 wr)) (fun vs _ => n2 - (intOf vs).toNat)
  case atStart => exact ⟨0, Nat.zero_le _, rfl, Lib.hid (Below.refl _ _)⟩
  case round =>
    obtain ⟨s, hs, rfl, HW⟩ := hrel
    have hszr := HW.out.size
    by_cases hlt : s < n2
    · go_wp2_with fail
      go_loopw [8] (fun vu wr => ∃ u : Nat, u ≤ n2 ∧ vu = .int .i64 u ∧ Hid (Below w4.heap.size w4 wr)) (fun vu _ => n2 - (intOf vu).toNat)
      case atStart => exact ⟨0, Nat.zero_le _, rfl, HW⟩
      case round =>
        rename World => wz
        obtain ⟨u, hu, rfl, HZ⟩ := hrel
        have hszz := HZ.out.size
        by_cases hlu : u < n2
        · have xc := (HS4.out.sr.sx.below HZ.out hX4).cell
          have xl := (HS4.out.sr.sx.below HZ.out hX4).lt
          go_wp2_with fail
          refine (distinguish_any (some ⟨g2, 0, none⟩) n2 n2 l2 (s : Nat) (u : Nat) w4.heap.size wz (HS4.out.rows.below HZ.out) hszz (by omega) (fun l hl => by have := HS2.out l hl; omega)).mono ?_
          rintro e w5 ⟨A7, n7, c7, err, out, rfl, hR7, hnc7, hn7, hb5, hdis⟩
          have HB5 := Lib.hid (HZ.out.trans (hb5.mono hszz))
          have hs5 := HB5.out.size
          have HR7 := Lib.hid hR7
          obtain ⟨b1, o1, x, e1, hb1, hx, d1⟩ := (HC4.out.below HB5.out).nat hlt
          obtain ⟨b2, o2, y, e2, hb2, hy, d2⟩ := (HC4.out.below HB5.out).nat hlu
          subst e1
          obtain ⟨rfl, rfl⟩ : b1 = b2 ∧ o1 = o2 := by simpa using e2
          have HAG := Lib.hid (show agr l2 K s u ↔ x = y by
            rw [agr, List.getD_eq_getElem?_getD, List.getD_eq_getElem?_getD, hx, hy]
            exact Iff.rfl)
          have hb1l : b1 < w5.heap.size := by omega
          have x5c := (HS4.out.sr.sx.below HB5.out hX4).cell
          have x5l := (HS4.out.sr.sx.below HB5.out hX4).lt
          have HDI := Lib.hid hdis
          clear hR7 hb5 hx hy e2 xc xl hdis
          rcases HDI.out with ⟨hbad, _⟩ | ⟨_, _, _, _, _, K', hK', hcase⟩
          · exfalso
            have h1 := HL2.out
            rcases hbad with h | h | h | h | h
            · rw [HV2.out] at h; cases h
            all_goals omega
          obtain rfl := hK'.unique HD.out
          rw [Int.toNat_natCast, Int.toNat_natCast] at hcase
          rcases hcase with ⟨hag, rfl, rfl⟩ | ⟨hna, F, hF, ⟨hl7, rfl, rfl⟩ | ⟨hl7, rfl, rfl⟩⟩
          · have hxy := HAG.out.1 hag
            have HEQ := Lib.hid (sat_agr HOK.out.tos HD.out G (by rw [HL2.out]; exact hlt) (by rw [HL2.out]; exact hlu) hag)
            subst hxy
            clear hag HDI
            go_wp2_with (first | ((with_reducible show wpPlan _ _ _ _ _ (Act.put _ _ _) _); simp only [List.getElem_toArray, List.getElem_cons_succ, List.getElem_cons_zero, Act.put, List.setIfInBounds_toArray, List.set_cons_zero, List.set_cons_succ]) | ((with_reducible show wpPlan _ _ _ _ _ _ _); first | refine wpPlan_nil ?_ | (refine wpPlan_read0 rfl ?hw rfl (fun _ _ _ => ?_); case hw => ((conv => (lhs; whnf)); first | done | with_reducible rfl)) | (refine wpPlan_read1d rfl ?hw rfl rfl (fun _ _ _ => ?_); case hw => ((conv => (lhs; whnf)); first | done | with_reducible rfl)) | (refine wpPlan_eff rfl ?hw (fun _ _ => ?_); case hw => ((conv => (lhs; whnf)); first | done | with_reducible rfl)) | (refine wpPlan_skip0 rfl ?hw ?_; case hw => ((conv => (lhs; whnf)); first | done | with_reducible rfl)) | (refine wpPlan_skip1d rfl ?hw ?_; case hw => ((conv => (lhs; whnf)); first | done | with_reducible rfl)) | (refine wpPlan_skip2 rfl ?hw ?_; case hw => ((conv => (lhs; whnf)); first | done | with_reducible rfl)) | (refine wpPlan_read1 rfl ?hw rfl (fun _ _ _ => ?_); case hw => ((conv => (lhs; whnf)); first | done | with_reducible rfl)) | refine wpPlan_fork ?_ ?_) | ((with_reducible show Owed _ _ _ _ _ _ _ _ _); first | refine Owed.none_ ?_ | refine Owed.nil_ ?_ | refine Owed.miss rfl ?_ | refine Owed.hit ?_ ?_) | ((with_reducible show Same _ _ _ _ _); intro _; go_simp; done) | (with_reducible exact True.intro) | ((with_reducible show Code.wp _ (Code.region 15 _ true) _ _ _); refine wp_region_planT [(0, 0, []), (1, 1, []), (2, 0, []), (3, 0, []), (4, 1, []), (5, 1, []), (6, 0, []), (7, 0, []), (8, 1, []), (9, 1, []), (10, 1, []), (11, 1, []), (12, 0, []), (13, 0, []), (14, 1, []), (15, 0, []), (16, 1, []), (17, 0, []), (18, 0, []), (19, 2, []), (20, 1, []), (21, 0, []), (22, 1, []), (23, 0, []), (24, 0, []), (25, 2, []), (26, 0, []), (27, 0, []), (28, 0, []), (29, 0, []), (30, 0, []), (31, 0, []), (32, 1, []), (33, 1, []), (34, 0, []), (35, 0, []), (36, 1, []), (37, 1, []), (38, 1, []), (39, 0, []), (40, 1, []), (41, 0, []), (42, 0, []), (44, 1, []), (45, 0, []), (46, 0, []), (43, 2, [44]), (47, 2, []), (48, 1, []), (49, 0, []), (50, 0, [])] [[], [], [], [], [], [4], [], [], [], [8], [4, 5, 8, 9], [1, 4, 5, 8, 9, 10], [1, 4, 5, 8, 9, 10, 11], [1, 4, 5, 8, 9, 10, 11], [1, 4, 5, 8, 9, 10, 11], [1, 4, 5, 8, 9, 10, 11, 14], [1, 4, 5, 8, 9, 10, 11, 14], [1, 4, 5, 8, 9, 10, 11, 14], [1, 4, 5, 8, 9, 10, 11, 14], [1, 4, 5, 8, 9, 10, 11, 14, 16], [1, 4, 5, 8, 9, 10, 11, 14, 16], [1, 4, 5, 8, 9, 10, 11, 14, 16, 20], [1, 4, 5, 8, 9, 10, 11, 14, 16, 20], [1, 4, 5, 8, 9, 10, 11, 14, 16, 20], [1, 4, 5, 8, 9, 10, 11, 14, 16, 20], [1, 4, 5, 8, 9, 10, 11, 14, 16, 20, 22], [1, 4, 5, 8, 9, 10, 11, 14, 16, 20, 22], [1, 4, 5, 8, 9, 10, 11, 14, 16, 20, 22], [1, 4, 5, 8, 9, 10, 11, 14, 16, 20, 22], [1, 4, 5, 8, 9, 10, 11, 14, 16, 20, 22], [1, 4, 5, 8, 9, 10, 11, 14, 16, 20, 22], [1, 4, 5, 8, 9, 10, 11, 14, 16, 20, 22], [1, 4, 5, 8, 9, 10, 11, 14, 16, 20, 22], [1, 4, 5, 8, 9, 10, 11, 14, 16, 20, 22, 32], [1, 4, 5, 8, 9, 10, 11, 14, 16, 20, 22], [1, 4, 5, 8, 9, 10, 11, 14, 16, 20, 22], [1, 4, 5, 8, 9, 10, 11, 14, 16, 20, 22], [1, 4, 5, 8, 9, 10, 11, 14, 16, 20, 22, 36], [1, 4, 5, 8, 9, 10, 11, 14, 16, 20, 22, 32, 33, 36, 37], [1, 4, 5, 8, 9, 10, 11, 14, 16, 20, 22, 32, 33, 36, 37, 38], [1, 4, 5, 8, 9, 10, 11, 14, 16, 20, 22, 32, 33, 36, 37, 38], [1, 4, 5, 8, 9, 10, 11, 14, 16, 20, 22, 32, 33, 36, 37, 38], [1, 4, 5, 8, 9, 10, 11, 14, 16, 20, 22, 32, 33, 36, 37, 38], [1, 4, 5, 8, 9, 10, 11, 14, 16, 20, 22, 32, 33, 36, 37, 38, 40], [1, 4, 5, 8, 9, 10, 11, 14, 16, 20, 22, 32, 33, 36, 37, 38], [1, 4, 5, 8, 9, 10, 11, 14, 16, 20, 22, 32, 33, 36, 37, 38], [1, 4, 5, 8, 9, 10, 11, 14, 16, 20, 22, 32, 33, 36, 37, 38], [1, 4, 5, 8, 9, 10, 11, 14, 16, 20, 22, 32, 33, 36, 37, 38, 40, 44], [1, 4, 5, 8, 9, 10, 11, 14, 16, 20, 22, 32, 33, 36, 37, 38, 40, 44], [1, 4, 5, 8, 9, 10, 11, 14, 16, 20, 22, 32, 33, 36, 37, 38, 40, 44, 48], [1, 4, 5, 8, 9, 10, 11, 14, 16, 20, 22, 32, 33, 36, 37, 38, 40, 44, 48]] (by kernel_rfl) (by kernel_rfl) (by kernel_rfl) (by kernel_rfl) ?_))
            have HRd := Lib.hid (show RdL w5.drew w5.heap.size (some ⟨g2, 0, none⟩) n2 l2 ∧ Rd w5.drew w5.heap.size 3 A4 G.enc.length (cellsOf FNode.cells G.enc) from ⟨((HS4.out.rows.below HB5.out).more hs5).drewN 1, ((HG4.out.1.below HB5.out).more hs5).drewN 1⟩)
            obtain ⟨r, hr⟩ : ∃ r, sat l2 G s = r := ⟨_, rfl⟩
            have hH1 := holds_any (some ⟨g2, 0, none⟩) n2 n2 l2 s A4 G.enc.length c4 G w5.heap.size w5.drew HRd.out.1 HRd.out.2 (by simp) HV2.out hlt (fun l hl => by have := HS2.out l hl; omega) hgl HG4.out.2
            rw [hr] at hH1
            rw [hr] at HEQ
            refine hH1.mono ?_
            rintro e w6 ⟨rfl, hb6⟩
            have hb6' := ((Below.refl w5.heap.size w5).drew).trans (hb6.mono (by simp))
            have HB6 := Lib.hid (HB5.out.trans (hb6'.mono hs5))
            have hs6 := HB6.out.size
            have x6c := (HS4.out.sr.sx.below HB6.out hX4).cell
            have x6l := (HS4.out.sr.sx.below HB6.out hX4).lt
            have HRe := Lib.hid (show RdL w6 w6.heap.size (some ⟨g2, 0, none⟩) n2 l2 ∧ Rd w6 w6.heap.size 3 A4 G.enc.length (cellsOf FNode.cells G.enc) from ⟨(HS4.out.rows.below HB6.out).more hs6, (HG4.out.1.below HB6.out).more hs6⟩)
            clear hb6 hb6' hH1 hr
            go_wp2_with (first | ((with_reducible show wpPlan _ _ _ _ _ (Act.put _ _ _) _); simp only [List.getElem_toArray, List.getElem_cons_succ, List.getElem_cons_zero, Act.put, List.setIfInBounds_toArray, List.set_cons_zero, List.set_cons_succ]) | ((with_reducible show wpPlan _ _ _ _ _ _ _); first | refine wpPlan_nil ?_ | (refine wpPlan_read0 rfl ?hw rfl (fun _ _ _ => ?_); case hw => ((conv => (lhs; whnf)); first | done | with_reducible rfl)) | (refine wpPlan_read1d rfl ?hw rfl rfl (fun _ _ _ => ?_); case hw => ((conv => (lhs; whnf)); first | done | with_reducible rfl)) | (refine wpPlan_eff rfl ?hw (fun _ _ => ?_); case hw => ((conv => (lhs; whnf)); first | done | with_reducible rfl)) | (refine wpPlan_skip0 rfl ?hw ?_; case hw => ((conv => (lhs; whnf)); first | done | with_reducible rfl)) | (refine wpPlan_skip1d rfl ?hw ?_; case hw => ((conv => (lhs; whnf)); first | done | with_reducible rfl)) | (refine wpPlan_skip2 rfl ?hw ?_; case hw => ((conv => (lhs; whnf)); first | done | with_reducible rfl)) | (refine wpPlan_read1 rfl ?hw rfl (fun _ _ _ => ?_); case hw => ((conv => (lhs; whnf)); first | done | with_reducible rfl)) | refine wpPlan_fork ?_ ?_) | ((with_reducible show Owed _ _ _ _ _ _ _ _ _); first | refine Owed.none_ ?_ | refine Owed.nil_ ?_ | refine Owed.miss rfl ?_ | refine Owed.hit ?_ ?_) | ((with_reducible show Same _ _ _ _ _); intro _; go_simp; done) | (with_reducible exact True.intro) | ((with_reducible show Code.wp _ (Code.region 15 _ true) _ _ _); refine wp_region_planT [(0, 0, []), (1, 1, []), (2, 0, []), (3, 0, []), (4, 1, []), (5, 1, []), (6, 0, []), (7, 0, []), (8, 1, []), (9, 1, []), (10, 1, []), (11, 1, []), (12, 0, []), (13, 0, []), (14, 1, []), (15, 0, []), (16, 1, []), (17, 0, []), (18, 0, []), (19, 2, []), (20, 1, []), (21, 0, []), (22, 1, []), (23, 0, []), (24, 0, []), (25, 2, []), (26, 0, []), (27, 0, []), (28, 0, []), (29, 0, []), (30, 0, []), (31, 0, []), (32, 1, []), (33, 1, []), (34, 0, []), (35, 0, []), (36, 1, []), (37, 1, []), (38, 1, []), (39, 0, []), (40, 1, []), (41, 0, []), (42, 0, []), (44, 1, []), (45, 0, []), (46, 0, []), (43, 2, [44]), (47, 2, []), (48, 1, []), (49, 0, []), (50, 0, [])] [[], [], [], [], [], [4], [], [], [], [8], [4, 5, 8, 9], [1, 4, 5, 8, 9, 10], [1, 4, 5, 8, 9, 10, 11], [1, 4, 5, 8, 9, 10, 11], [1, 4, 5, 8, 9, 10, 11], [1, 4, 5, 8, 9, 10, 11, 14], [1, 4, 5, 8, 9, 10, 11, 14], [1, 4, 5, 8, 9, 10, 11, 14], [1, 4, 5, 8, 9, 10, 11, 14], [1, 4, 5, 8, 9, 10, 11, 14, 16], [1, 4, 5, 8, 9, 10, 11, 14, 16], [1, 4, 5, 8, 9, 10, 11, 14, 16, 20], [1, 4, 5, 8, 9, 10, 11, 14, 16, 20], [1, 4, 5, 8, 9, 10, 11, 14, 16, 20], [1, 4, 5, 8, 9, 10, 11, 14, 16, 20], [1, 4, 5, 8, 9, 10, 11, 14, 16, 20, 22], [1, 4, 5, 8, 9, 10, 11, 14, 16, 20, 22], [1, 4, 5, 8, 9, 10, 11, 14, 16, 20, 22], [1, 4, 5, 8, 9, 10, 11, 14, 16, 20, 22], [1, 4, 5, 8, 9, 10, 11, 14, 16, 20, 22], [1, 4, 5, 8, 9, 10, 11, 14, 16, 20, 22], [1, 4, 5, 8, 9, 10, 11, 14, 16, 20, 22], [1, 4, 5, 8, 9, 10, 11, 14, 16, 20, 22], [1, 4, 5, 8, 9, 10, 11, 14, 16, 20, 22, 32], [1, 4, 5, 8, 9, 10, 11, 14, 16, 20, 22], [1, 4, 5, 8, 9, 10, 11, 14, 16, 20, 22], [1, 4, 5, 8, 9, 10, 11, 14, 16, 20, 22], [1, 4, 5, 8, 9, 10, 11, 14, 16, 20, 22, 36], [1, 4, 5, 8, 9, 10, 11, 14, 16, 20, 22, 32, 33, 36, 37], [1, 4, 5, 8, 9, 10, 11, 14, 16, 20, 22, 32, 33, 36, 37, 38], [1, 4, 5, 8, 9, 10, 11, 14, 16, 20, 22, 32, 33, 36, 37, 38], [1, 4, 5, 8, 9, 10, 11, 14, 16, 20, 22, 32, 33, 36, 37, 38], [1, 4, 5, 8, 9, 10, 11, 14, 16, 20, 22, 32, 33, 36, 37, 38], [1, 4, 5, 8, 9, 10, 11, 14, 16, 20, 22, 32, 33, 36, 37, 38, 40], [1, 4, 5, 8, 9, 10, 11, 14, 16, 20, 22, 32, 33, 36, 37, 38], [1, 4, 5, 8, 9, 10, 11, 14, 16, 20, 22, 32, 33, 36, 37, 38], [1, 4, 5, 8, 9, 10, 11, 14, 16, 20, 22, 32, 33, 36, 37, 38], [1, 4, 5, 8, 9, 10, 11, 14, 16, 20, 22, 32, 33, 36, 37, 38, 40, 44], [1, 4, 5, 8, 9, 10, 11, 14, 16, 20, 22, 32, 33, 36, 37, 38, 40, 44], [1, 4, 5, 8, 9, 10, 11, 14, 16, 20, 22, 32, 33, 36, 37, 38, 40, 44, 48], [1, 4, 5, 8, 9, 10, 11, 14, 16, 20, 22, 32, 33, 36, 37, 38, 40, 44, 48]] (by kernel_rfl) (by kernel_rfl) (by kernel_rfl) (by kernel_rfl) ?_))
            have hH2 := holds_any (some ⟨g2, 0, none⟩) n2 n2 l2 u A4 G.enc.length c4 G w6.heap.size w6 HRe.out.1 HRe.out.2 (Nat.le_refl _) HV2.out hlu (fun l hl => by have := HS2.out l hl; omega) hgl HG4.out.2
            rw [← HEQ.out] at hH2
            refine hH2.mono ?_
            rintro e w7 ⟨rfl, hb7⟩
            have HB7 := Lib.hid (HB6.out.trans (hb7.mono hs6))
            have hrr : (r == r) = true := beq_self_eq_true r
            clear hb7 hH2
            go_wp2_with (first | ((with_reducible show wpPlan _ _ _ _ _ (Act.put _ _ _) _); simp only [List.getElem_toArray, List.getElem_cons_succ, List.getElem_cons_zero, Act.put, List.setIfInBounds_toArray, List.set_cons_zero, List.set_cons_succ]) | ((with_reducible show wpPlan _ _ _ _ _ _ _); first | refine wpPlan_nil ?_ | (refine wpPlan_read0 rfl ?hw rfl (fun _ _ _ => ?_); case hw => ((conv => (lhs; whnf)); first | done | with_reducible rfl)) | (refine wpPlan_read1d rfl ?hw rfl rfl (fun _ _ _ => ?_); case hw => ((conv => (lhs; whnf)); first | done | with_reducible rfl)) | (refine wpPlan_eff rfl ?hw (fun _ _ => ?_); case hw => ((conv => (lhs; whnf)); first | done | with_reducible rfl)) | (refine wpPlan_skip0 rfl ?hw ?_; case hw => ((conv => (lhs; whnf)); first | done | with_reducible rfl)) | (refine wpPlan_skip1d rfl ?hw ?_; case hw => ((conv => (lhs; whnf)); first | done | with_reducible rfl)) | (refine wpPlan_skip2 rfl ?hw ?_; case hw => ((conv => (lhs; whnf)); first | done | with_reducible rfl)) | (refine wpPlan_read1 rfl ?hw rfl (fun _ _ _ => ?_); case hw => ((conv => (lhs; whnf)); first | done | with_reducible rfl)) | refine wpPlan_fork ?_ ?_) | ((with_reducible show Owed _ _ _ _ _ _ _ _ _); first | refine Owed.none_ ?_ | refine Owed.nil_ ?_ | refine Owed.miss rfl ?_ | refine Owed.hit ?_ ?_) | ((with_reducible show Same _ _ _ _ _); intro _; go_simp; done) | (with_reducible exact True.intro) | ((with_reducible show Code.wp _ (Code.region 15 _ true) _ _ _); refine wp_region_planT [(0, 0, []), (1, 1, []), (2, 0, []), (3, 0, []), (4, 1, []), (5, 1, []), (6, 0, []), (7, 0, []), (8, 1, []), (9, 1, []), (10, 1, []), (11, 1, []), (12, 0, []), (13, 0, []), (14, 1, []), (15, 0, []), (16, 1, []), (17, 0, []), (18, 0, []), (19, 2, []), (20, 1, []), (21, 0, []), (22, 1, []), (23, 0, []), (24, 0, []), (25, 2, []), (26, 0, []), (27, 0, []), (28, 0, []), (29, 0, []), (30, 0, []), (31, 0, []), (32, 1, []), (33, 1, []), (34, 0, []), (35, 0, []), (36, 1, []), (37, 1, []), (38, 1, []), (39, 0, []), (40, 1, []), (41, 0, []), (42, 0, []), (44, 1, []), (45, 0, []), (46, 0, []), (43, 2, [44]), (47, 2, []), (48, 1, []), (49, 0, []), (50, 0, [])] [[], [], [], [], [], [4], [], [], [], [8], [4, 5, 8, 9], [1, 4, 5, 8, 9, 10], [1, 4, 5, 8, 9, 10, 11], [1, 4, 5, 8, 9, 10, 11], [1, 4, 5, 8, 9, 10, 11], [1, 4, 5, 8, 9, 10, 11, 14], [1, 4, 5, 8, 9, 10, 11, 14], [1, 4, 5, 8, 9, 10, 11, 14], [1, 4, 5, 8, 9, 10, 11, 14], [1, 4, 5, 8, 9, 10, 11, 14, 16], [1, 4, 5, 8, 9, 10, 11, 14, 16], [1, 4, 5, 8, 9, 10, 11, 14, 16, 20], [1, 4, 5, 8, 9, 10, 11, 14, 16, 20], [1, 4, 5, 8, 9, 10, 11, 14, 16, 20], [1, 4, 5, 8, 9, 10, 11, 14, 16, 20], [1, 4, 5, 8, 9, 10, 11, 14, 16, 20, 22], [1, 4, 5, 8, 9, 10, 11, 14, 16, 20, 22], [1, 4, 5, 8, 9, 10, 11, 14, 16, 20, 22], [1, 4, 5, 8, 9, 10, 11, 14, 16, 20, 22], [1, 4, 5, 8, 9, 10, 11, 14, 16, 20, 22], [1, 4, 5, 8, 9, 10, 11, 14, 16, 20, 22], [1, 4, 5, 8, 9, 10, 11, 14, 16, 20, 22], [1, 4, 5, 8, 9, 10, 11, 14, 16, 20, 22], [1, 4, 5, 8, 9, 10, 11, 14, 16, 20, 22, 32], [1, 4, 5, 8, 9, 10, 11, 14, 16, 20, 22], [1, 4, 5, 8, 9, 10, 11, 14, 16, 20, 22], [1, 4, 5, 8, 9, 10, 11, 14, 16, 20, 22], [1, 4, 5, 8, 9, 10, 11, 14, 16, 20, 22, 36], [1, 4, 5, 8, 9, 10, 11, 14, 16, 20, 22, 32, 33, 36, 37], [1, 4, 5, 8, 9, 10, 11, 14, 16, 20, 22, 32, 33, 36, 37, 38], [1, 4, 5, 8, 9, 10, 11, 14, 16, 20, 22, 32, 33, 36, 37, 38], [1, 4, 5, 8, 9, 10, 11, 14, 16, 20, 22, 32, 33, 36, 37, 38], [1, 4, 5, 8, 9, 10, 11, 14, 16, 20, 22, 32, 33, 36, 37, 38], [1, 4, 5, 8, 9, 10, 11, 14, 16, 20, 22, 32, 33, 36, 37, 38, 40], [1, 4, 5, 8, 9, 10, 11, 14, 16, 20, 22, 32, 33, 36, 37, 38], [1, 4, 5, 8, 9, 10, 11, 14, 16, 20, 22, 32, 33, 36, 37, 38], [1, 4, 5, 8, 9, 10, 11, 14, 16, 20, 22, 32, 33, 36, 37, 38], [1, 4, 5, 8, 9, 10, 11, 14, 16, 20, 22, 32, 33, 36, 37, 38, 40, 44], [1, 4, 5, 8, 9, 10, 11, 14, 16, 20, 22, 32, 33, 36, 37, 38, 40, 44], [1, 4, 5, 8, 9, 10, 11, 14, 16, 20, 22, 32, 33, 36, 37, 38, 40, 44, 48], [1, 4, 5, 8, 9, 10, 11, 14, 16, 20, 22, 32, 33, 36, 37, 38, 40, 44, 48]] (by kernel_rfl) (by kernel_rfl) (by kernel_rfl) (by kernel_rfl) ?_))
            go_roundw
            case rel => exact ⟨u + 1, by omega, by go_num, HB7⟩
            case measure => simp [intOf]; omega
          · have hxy : ¬ x = y := fun e => hna (HAG.out.2 e)
            have hxb : ((x : Int) == (y : Int)) = false := beq_eq_false_iff_ne.2 (by omega)
            have HT := Lib.hid (hF.tells HOK.out.tos)
            have HFO := Lib.hid (hF.ok HOK.out.ev HOK.out.tos)
            clear hna hF HDI
            go_wp2_with (first | ((with_reducible show wpPlan _ _ _ _ _ (Act.put _ _ _) _); simp only [List.getElem_toArray, List.getElem_cons_succ, List.getElem_cons_zero, Act.put, List.setIfInBounds_toArray, List.set_cons_zero, List.set_cons_succ]) | ((with_reducible show wpPlan _ _ _ _ _ _ _); first | refine wpPlan_nil ?_ | (refine wpPlan_read0 rfl ?hw rfl (fun _ _ _ => ?_); case hw => ((conv => (lhs; whnf)); first | done | with_reducible rfl)) | (refine wpPlan_read1d rfl ?hw rfl rfl (fun _ _ _ => ?_); case hw => ((conv => (lhs; whnf)); first | done | with_reducible rfl)) | (refine wpPlan_eff rfl ?hw (fun _ _ => ?_); case hw => ((conv => (lhs; whnf)); first | done | with_reducible rfl)) | (refine wpPlan_skip0 rfl ?hw ?_; case hw => ((conv => (lhs; whnf)); first | done | with_reducible rfl)) | (refine wpPlan_skip1d rfl ?hw ?_; case hw => ((conv => (lhs; whnf)); first | done | with_reducible rfl)) | (refine wpPlan_skip2 rfl ?hw ?_; case hw => ((conv => (lhs; whnf)); first | done | with_reducible rfl)) | (refine wpPlan_read1 rfl ?hw rfl (fun _ _ _ => ?_); case hw => ((conv => (lhs; whnf)); first | done | with_reducible rfl)) | refine wpPlan_fork ?_ ?_) | ((with_reducible show Owed _ _ _ _ _ _ _ _ _); first | refine Owed.none_ ?_ | refine Owed.nil_ ?_ | refine Owed.miss rfl ?_ | refine Owed.hit ?_ ?_) | ((with_reducible show Same _ _ _ _ _); intro _; go_simp; done) | (with_reducible exact True.intro) | ((with_reducible show Code.wp _ (Code.region 15 _ true) _ _ _); refine wp_region_planT [(0, 0, []), (1, 1, []), (2, 0, []), (3, 0, []), (4, 1, []), (5, 1, []), (6, 0, []), (7, 0, []), (8, 1, []), (9, 1, []), (10, 1, []), (11, 1, []), (12, 0, []), (13, 0, []), (14, 1, []), (15, 0, []), (16, 1, []), (17, 0, []), (18, 0, []), (19, 2, []), (20, 1, []), (21, 0, []), (22, 1, []), (23, 0, []), (24, 0, []), (25, 2, []), (26, 0, []), (27, 0, []), (28, 0, []), (29, 0, []), (30, 0, []), (31, 0, []), (32, 1, []), (33, 1, []), (34, 0, []), (35, 0, []), (36, 1, []), (37, 1, []), (38, 1, []), (39, 0, []), (40, 1, []), (41, 0, []), (42, 0, []), (44, 1, []), (45, 0, []), (46, 0, []), (43, 2, [44]), (47, 2, []), (48, 1, []), (49, 0, []), (50, 0, [])] [[], [], [], [], [], [4], [], [], [], [8], [4, 5, 8, 9], [1, 4, 5, 8, 9, 10], [1, 4, 5, 8, 9, 10, 11], [1, 4, 5, 8, 9, 10, 11], [1, 4, 5, 8, 9, 10, 11], [1, 4, 5, 8, 9, 10, 11, 14], [1, 4, 5, 8, 9, 10, 11, 14], [1, 4, 5, 8, 9, 10, 11, 14], [1, 4, 5, 8, 9, 10, 11, 14], [1, 4, 5, 8, 9, 10, 11, 14, 16], [1, 4, 5, 8, 9, 10, 11, 14, 16], [1, 4, 5, 8, 9, 10, 11, 14, 16, 20], [1, 4, 5, 8, 9, 10, 11, 14, 16, 20], [1, 4, 5, 8, 9, 10, 11, 14, 16, 20], [1, 4, 5, 8, 9, 10, 11, 14, 16, 20], [1, 4, 5, 8, 9, 10, 11, 14, 16, 20, 22], [1, 4, 5, 8, 9, 10, 11, 14, 16, 20, 22], [1, 4, 5, 8, 9, 10, 11, 14, 16, 20, 22], [1, 4, 5, 8, 9, 10, 11, 14, 16, 20, 22], [1, 4, 5, 8, 9, 10, 11, 14, 16, 20, 22], [1, 4, 5, 8, 9, 10, 11, 14, 16, 20, 22], [1, 4, 5, 8, 9, 10, 11, 14, 16, 20, 22], [1, 4, 5, 8, 9, 10, 11, 14, 16, 20, 22], [1, 4, 5, 8, 9, 10, 11, 14, 16, 20, 22, 32], [1, 4, 5, 8, 9, 10, 11, 14, 16, 20, 22], [1, 4, 5, 8, 9, 10, 11, 14, 16, 20, 22], [1, 4, 5, 8, 9, 10, 11, 14, 16, 20, 22], [1, 4, 5, 8, 9, 10, 11, 14, 16, 20, 22, 36], [1, 4, 5, 8, 9, 10, 11, 14, 16, 20, 22, 32, 33, 36, 37], [1, 4, 5, 8, 9, 10, 11, 14, 16, 20, 22, 32, 33, 36, 37, 38], [1, 4, 5, 8, 9, 10, 11, 14, 16, 20, 22, 32, 33, 36, 37, 38], [1, 4, 5, 8, 9, 10, 11, 14, 16, 20, 22, 32, 33, 36, 37, 38], [1, 4, 5, 8, 9, 10, 11, 14, 16, 20, 22, 32, 33, 36, 37, 38], [1, 4, 5, 8, 9, 10, 11, 14, 16, 20, 22, 32, 33, 36, 37, 38, 40], [1, 4, 5, 8, 9, 10, 11, 14, 16, 20, 22, 32, 33, 36, 37, 38], [1, 4, 5, 8, 9, 10, 11, 14, 16, 20, 22, 32, 33, 36, 37, 38], [1, 4, 5, 8, 9, 10, 11, 14, 16, 20, 22, 32, 33, 36, 37, 38], [1, 4, 5, 8, 9, 10, 11, 14, 16, 20, 22, 32, 33, 36, 37, 38, 40, 44], [1, 4, 5, 8, 9, 10, 11, 14, 16, 20, 22, 32, 33, 36, 37, 38, 40, 44], [1, 4, 5, 8, 9, 10, 11, 14, 16, 20, 22, 32, 33, 36, 37, 38, 40, 44, 48], [1, 4, 5, 8, 9, 10, 11, 14, 16, 20, 22, 32, 33, 36, 37, 38, 40, 44, 48]] (by kernel_rfl) (by kernel_rfl) (by kernel_rfl) (by kernel_rfl) ?_))
            have HRd := Lib.hid (show RdL w5.drew w5.heap.size (some ⟨g2, 0, none⟩) n2 l2 ∧ Rd w5.drew w5.heap.size 3 A7 n7 (cellsOf FNode.cells F.enc) from ⟨((HS4.out.rows.below HB5.out).more hs5).drewN 1, HR7.out.drewN 1⟩)
            have hH1 := holds_any (some ⟨g2, 0, none⟩) n2 n2 l2 s A7 n7 c7 F w5.heap.size w5.drew HRd.out.1 HRd.out.2 (by simp) HV2.out hlt (fun l hl => by have := HS2.out l hl; omega) hn7 HFO.out
            rw [HT.out.1] at hH1
            refine hH1.mono ?_
            rintro e w6 ⟨rfl, hb6⟩
            have hb6' := ((Below.refl w5.heap.size w5).drew).trans (hb6.mono (by simp))
            have HB6 := Lib.hid (HB5.out.trans (hb6'.mono hs5))
            have hs6 := HB6.out.size
            have x6c := (HS4.out.sr.sx.below HB6.out hX4).cell
            have x6l := (HS4.out.sr.sx.below HB6.out hX4).lt
            have HRe := Lib.hid (show RdL w6 w6.heap.size (some ⟨g2, 0, none⟩) n2 l2 ∧ Rd w6 w6.heap.size 3 A7 n7 (cellsOf FNode.cells F.enc) from ⟨(HS4.out.rows.below HB6.out).more hs6, (HR7.out.below hb6').more hb6'.size⟩)
            have d16 := (hb6'.cell (p := ⟨b1, o1 + s, none⟩) hb1l).trans d1
            have d26 := (hb6'.cell (p := ⟨b1, o1 + u, none⟩) hb1l).trans d2
            clear hb6 hH1
            go_wp2_with (first | ((with_reducible show wpPlan _ _ _ _ _ (Act.put _ _ _) _); simp only [List.getElem_toArray, List.getElem_cons_succ, List.getElem_cons_zero, Act.put, List.setIfInBounds_toArray, List.set_cons_zero, List.set_cons_succ]) | ((with_reducible show wpPlan _ _ _ _ _ _ _); first | refine wpPlan_nil ?_ | (refine wpPlan_read0 rfl ?hw rfl (fun _ _ _ => ?_); case hw => ((conv => (lhs; whnf)); first | done | with_reducible rfl)) | (refine wpPlan_read1d rfl ?hw rfl rfl (fun _ _ _ => ?_); case hw => ((conv => (lhs; whnf)); first | done | with_reducible rfl)) | (refine wpPlan_eff rfl ?hw (fun _ _ => ?_); case hw => ((conv => (lhs; whnf)); first | done | with_reducible rfl)) | (refine wpPlan_skip0 rfl ?hw ?_; case hw => ((conv => (lhs; whnf)); first | done | with_reducible rfl)) | (refine wpPlan_skip1d rfl ?hw ?_; case hw => ((conv => (lhs; whnf)); first | done | with_reducible rfl)) | (refine wpPlan_skip2 rfl ?hw ?_; case hw => ((conv => (lhs; whnf)); first | done | with_reducible rfl)) | (refine wpPlan_read1 rfl ?hw rfl (fun _ _ _ => ?_); case hw => ((conv => (lhs; whnf)); first | done | with_reducible rfl)) | refine wpPlan_fork ?_ ?_) | ((with_reducible show Owed _ _ _ _ _ _ _ _ _); first | refine Owed.none_ ?_ | refine Owed.nil_ ?_ | refine Owed.miss rfl ?_ | refine Owed.hit ?_ ?_) | ((with_reducible show Same _ _ _ _ _); intro _; go_simp; done) | (with_reducible exact True.intro) | ((with_reducible show Code.wp _ (Code.region 15 _ true) _ _ _); refine wp_region_planT [(0, 0, []), (1, 1, []), (2, 0, []), (3, 0, []), (4, 1, []), (5, 1, []), (6, 0, []), (7, 0, []), (8, 1, []), (9, 1, []), (10, 1, []), (11, 1, []), (12, 0, []), (13, 0, []), (14, 1, []), (15, 0, []), (16, 1, []), (17, 0, []), (18, 0, []), (19, 2, []), (20, 1, []), (21, 0, []), (22, 1, []), (23, 0, []), (24, 0, []), (25, 2, []), (26, 0, []), (27, 0, []), (28, 0, []), (29, 0, []), (30, 0, []), (31, 0, []), (32, 1, []), (33, 1, []), (34, 0, []), (35, 0, []), (36, 1, []), (37, 1, []), (38, 1, []), (39, 0, []), (40, 1, []), (41, 0, []), (42, 0, []), (44, 1, []), (45, 0, []), (46, 0, []), (43, 2, [44]), (47, 2, []), (48, 1, []), (49, 0, []), (50, 0, [])] [[], [], [], [], [], [4], [], [], [], [8], [4, 5, 8, 9], [1, 4, 5, 8, 9, 10], [1, 4, 5, 8, 9, 10, 11], [1, 4, 5, 8, 9, 10, 11], [1, 4, 5, 8, 9, 10, 11], [1, 4, 5, 8, 9, 10, 11, 14], [1, 4, 5, 8, 9, 10, 11, 14], [1, 4, 5, 8, 9, 10, 11, 14], [1, 4, 5, 8, 9, 10, 11, 14], [1, 4, 5, 8, 9, 10, 11, 14, 16], [1, 4, 5, 8, 9, 10, 11, 14, 16], [1, 4, 5, 8, 9, 10, 11, 14, 16, 20], [1, 4, 5, 8, 9, 10, 11, 14, 16, 20], [1, 4, 5, 8, 9, 10, 11, 14, 16, 20], [1, 4, 5, 8, 9, 10, 11, 14, 16, 20], [1, 4, 5, 8, 9, 10, 11, 14, 16, 20, 22], [1, 4, 5, 8, 9, 10, 11, 14, 16, 20, 22], [1, 4, 5, 8, 9, 10, 11, 14, 16, 20, 22], [1, 4, 5, 8, 9, 10, 11, 14, 16, 20, 22], [1, 4, 5, 8, 9, 10, 11, 14, 16, 20, 22], [1, 4, 5, 8, 9, 10, 11, 14, 16, 20, 22], [1, 4, 5, 8, 9, 10, 11, 14, 16, 20, 22], [1, 4, 5, 8, 9, 10, 11, 14, 16, 20, 22], [1, 4, 5, 8, 9, 10, 11, 14, 16, 20, 22, 32], [1, 4, 5, 8, 9, 10, 11, 14, 16, 20, 22], [1, 4, 5, 8, 9, 10, 11, 14, 16, 20, 22], [1, 4, 5, 8, 9, 10, 11, 14, 16, 20, 22], [1, 4, 5, 8, 9, 10, 11, 14, 16, 20, 22, 36], [1, 4, 5, 8, 9, 10, 11, 14, 16, 20, 22, 32, 33, 36, 37], [1, 4, 5, 8, 9, 10, 11, 14, 16, 20, 22, 32, 33, 36, 37, 38], [1, 4, 5, 8, 9, 10, 11, 14, 16, 20, 22, 32, 33, 36, 37, 38], [1, 4, 5, 8, 9, 10, 11, 14, 16, 20, 22, 32, 33, 36, 37, 38], [1, 4, 5, 8, 9, 10, 11, 14, 16, 20, 22, 32, 33, 36, 37, 38], [1, 4, 5, 8, 9, 10, 11, 14, 16, 20, 22, 32, 33, 36, 37, 38, 40], [1, 4, 5, 8, 9, 10, 11, 14, 16, 20, 22, 32, 33, 36, 37, 38], [1, 4, 5, 8, 9, 10, 11, 14, 16, 20, 22, 32, 33, 36, 37, 38], [1, 4, 5, 8, 9, 10, 11, 14, 16, 20, 22, 32, 33, 36, 37, 38], [1, 4, 5, 8, 9, 10, 11, 14, 16, 20, 22, 32, 33, 36, 37, 38, 40, 44], [1, 4, 5, 8, 9, 10, 11, 14, 16, 20, 22, 32, 33, 36, 37, 38, 40, 44], [1, 4, 5, 8, 9, 10, 11, 14, 16, 20, 22, 32, 33, 36, 37, 38, 40, 44, 48], [1, 4, 5, 8, 9, 10, 11, 14, 16, 20, 22, 32, 33, 36, 37, 38, 40, 44, 48]] (by kernel_rfl) (by kernel_rfl) (by kernel_rfl) (by kernel_rfl) ?_))
            have hH2 := holds_any (some ⟨g2, 0, none⟩) n2 n2 l2 u A7 n7 c7 F w6.heap.size w6 HRe.out.1 HRe.out.2 (Nat.le_refl _) HV2.out hlu (fun l hl => by have := HS2.out l hl; omega) hn7 HFO.out
            rw [HT.out.2] at hH2
            refine hH2.mono ?_
            rintro e w7 ⟨rfl, hb7⟩
            have HB7 := Lib.hid (HB6.out.trans (hb7.mono hs6))
            have d17 := (hb7.cell (p := ⟨b1, o1 + s, none⟩) (by dsimp only; omega)).trans d16
            have d27 := (hb7.cell (p := ⟨b1, o1 + u, none⟩) (by dsimp only; omega)).trans d26
            have hs7 := hb7.size
            have hb1w7 : b1 < w7.heap.size := by omega
            clear hb7 hH2 hb6'
            go_wp2_with (first | ((with_reducible show wpPlan _ _ _ _ _ (Act.put _ _ _) _); simp only [List.getElem_toArray, List.getElem_cons_succ, List.getElem_cons_zero, Act.put, List.setIfInBounds_toArray, List.set_cons_zero, List.set_cons_succ]) | ((with_reducible show wpPlan _ _ _ _ _ _ _); first | refine wpPlan_nil ?_ | (refine wpPlan_read0 rfl ?hw rfl (fun _ _ _ => ?_); case hw => ((conv => (lhs; whnf)); first | done | with_reducible rfl)) | (refine wpPlan_read1d rfl ?hw rfl rfl (fun _ _ _ => ?_); case hw => ((conv => (lhs; whnf)); first | done | with_reducible rfl)) | (refine wpPlan_eff rfl ?hw (fun _ _ => ?_); case hw => ((conv => (lhs; whnf)); first | done | with_reducible rfl)) | (refine wpPlan_skip0 rfl ?hw ?_; case hw => ((conv => (lhs; whnf)); first | done | with_reducible rfl)) | (refine wpPlan_skip1d rfl ?hw ?_; case hw => ((conv => (lhs; whnf)); first | done | with_reducible rfl)) | (refine wpPlan_skip2 rfl ?hw ?_; case hw => ((conv => (lhs; whnf)); first | done | with_reducible rfl)) | (refine wpPlan_read1 rfl ?hw rfl (fun _ _ _ => ?_); case hw => ((conv => (lhs; whnf)); first | done | with_reducible rfl)) | refine wpPlan_fork ?_ ?_) | ((with_reducible show Owed _ _ _ _ _ _ _ _ _); first | refine Owed.none_ ?_ | refine Owed.nil_ ?_ | refine Owed.miss rfl ?_ | refine Owed.hit ?_ ?_) | ((with_reducible show Same _ _ _ _ _); intro _; go_simp; done) | (with_reducible exact True.intro) | ((with_reducible show Code.wp _ (Code.region 15 _ true) _ _ _); refine wp_region_planT [(0, 0, []), (1, 1, []), (2, 0, []), (3, 0, []), (4, 1, []), (5, 1, []), (6, 0, []), (7, 0, []), (8, 1, []), (9, 1, []), (10, 1, []), (11, 1, []), (12, 0, []), (13, 0, []), (14, 1, []), (15, 0, []), (16, 1, []), (17, 0, []), (18, 0, []), (19, 2, []), (20, 1, []), (21, 0, []), (22, 1, []), (23, 0, []), (24, 0, []), (25, 2, []), (26, 0, []), (27, 0, []), (28, 0, []), (29, 0, []), (30, 0, []), (31, 0, []), (32, 1, []), (33, 1, []), (34, 0, []), (35, 0, []), (36, 1, []), (37, 1, []), (38, 1, []), (39, 0, []), (40, 1, []), (41, 0, []), (42, 0, []), (44, 1, []), (45, 0, []), (46, 0, []), (43, 2, [44]), (47, 2, []), (48, 1, []), (49, 0, []), (50, 0, [])] [[], [], [], [], [], [4], [], [], [], [8], [4, 5, 8, 9], [1, 4, 5, 8, 9, 10], [1, 4, 5, 8, 9, 10, 11], [1, 4, 5, 8, 9, 10, 11], [1, 4, 5, 8, 9, 10, 11], [1, 4, 5, 8, 9, 10, 11, 14], [1, 4, 5, 8, 9, 10, 11, 14], [1, 4, 5, 8, 9, 10, 11, 14], [1, 4, 5, 8, 9, 10, 11, 14], [1, 4, 5, 8, 9, 10, 11, 14, 16], [1, 4, 5, 8, 9, 10, 11, 14, 16], [1, 4, 5, 8, 9, 10, 11, 14, 16, 20], [1, 4, 5, 8, 9, 10, 11, 14, 16, 20], [1, 4, 5, 8, 9, 10, 11, 14, 16, 20], [1, 4, 5, 8, 9, 10, 11, 14, 16, 20], [1, 4, 5, 8, 9, 10, 11, 14, 16, 20, 22], [1, 4, 5, 8, 9, 10, 11, 14, 16, 20, 22], [1, 4, 5, 8, 9, 10, 11, 14, 16, 20, 22], [1, 4, 5, 8, 9, 10, 11, 14, 16, 20, 22], [1, 4, 5, 8, 9, 10, 11, 14, 16, 20, 22], [1, 4, 5, 8, 9, 10, 11, 14, 16, 20, 22], [1, 4, 5, 8, 9, 10, 11, 14, 16, 20, 22], [1, 4, 5, 8, 9, 10, 11, 14, 16, 20, 22], [1, 4, 5, 8, 9, 10, 11, 14, 16, 20, 22, 32], [1, 4, 5, 8, 9, 10, 11, 14, 16, 20, 22], [1, 4, 5, 8, 9, 10, 11, 14, 16, 20, 22], [1, 4, 5, 8, 9, 10, 11, 14, 16, 20, 22], [1, 4, 5, 8, 9, 10, 11, 14, 16, 20, 22, 36], [1, 4, 5, 8, 9, 10, 11, 14, 16, 20, 22, 32, 33, 36, 37], [1, 4, 5, 8, 9, 10, 11, 14, 16, 20, 22, 32, 33, 36, 37, 38], [1, 4, 5, 8, 9, 10, 11, 14, 16, 20, 22, 32, 33, 36, 37, 38], [1, 4, 5, 8, 9, 10, 11, 14, 16, 20, 22, 32, 33, 36, 37, 38], [1, 4, 5, 8, 9, 10, 11, 14, 16, 20, 22, 32, 33, 36, 37, 38], [1, 4, 5, 8, 9, 10, 11, 14, 16, 20, 22, 32, 33, 36, 37, 38, 40], [1, 4, 5, 8, 9, 10, 11, 14, 16, 20, 22, 32, 33, 36, 37, 38], [1, 4, 5, 8, 9, 10, 11, 14, 16, 20, 22, 32, 33, 36, 37, 38], [1, 4, 5, 8, 9, 10, 11, 14, 16, 20, 22, 32, 33, 36, 37, 38], [1, 4, 5, 8, 9, 10, 11, 14, 16, 20, 22, 32, 33, 36, 37, 38, 40, 44], [1, 4, 5, 8, 9, 10, 11, 14, 16, 20, 22, 32, 33, 36, 37, 38, 40, 44], [1, 4, 5, 8, 9, 10, 11, 14, 16, 20, 22, 32, 33, 36, 37, 38, 40, 44, 48], [1, 4, 5, 8, 9, 10, 11, 14, 16, 20, 22, 32, 33, 36, 37, 38, 40, 44, 48]] (by kernel_rfl) (by kernel_rfl) (by kernel_rfl) (by kernel_rfl) ?_))
            go_roundw
            case rel => exact ⟨u + 1, by omega, by go_num, HB7⟩
            case measure => simp [intOf]; omega
          · clear hna hF HDI
            go_wp2_with (first | ((with_reducible show wpPlan _ _ _ _ _ (Act.put _ _ _) _); simp only [List.getElem_toArray, List.getElem_cons_succ, List.getElem_cons_zero, Act.put, List.setIfInBounds_toArray, List.set_cons_zero, List.set_cons_succ]) | ((with_reducible show wpPlan _ _ _ _ _ _ _); first | refine wpPlan_nil ?_ | (refine wpPlan_read0 rfl ?hw rfl (fun _ _ _ => ?_); case hw => ((conv => (lhs; whnf)); first | done | with_reducible rfl)) | (refine wpPlan_read1d rfl ?hw rfl rfl (fun _ _ _ => ?_); case hw => ((conv => (lhs; whnf)); first | done | with_reducible rfl)) | (refine wpPlan_eff rfl ?hw (fun _ _ => ?_); case hw => ((conv => (lhs; whnf)); first | done | with_reducible rfl)) | (refine wpPlan_skip0 rfl ?hw ?_; case hw => ((conv => (lhs; whnf)); first | done | with_reducible rfl)) | (refine wpPlan_skip1d rfl ?hw ?_; case hw => ((conv => (lhs; whnf)); first | done | with_reducible rfl)) | (refine wpPlan_skip2 rfl ?hw ?_; case hw => ((conv => (lhs; whnf)); first | done | with_reducible rfl)) | (refine wpPlan_read1 rfl ?hw rfl (fun _ _ _ => ?_); case hw => ((conv => (lhs; whnf)); first | done | with_reducible rfl)) | refine wpPlan_fork ?_ ?_) | ((with_reducible show Owed _ _ _ _ _ _ _ _ _); first | refine Owed.none_ ?_ | refine Owed.nil_ ?_ | refine Owed.miss rfl ?_ | refine Owed.hit ?_ ?_) | ((with_reducible show Same _ _ _ _ _); intro _; go_simp; done) | (with_reducible exact True.intro) | ((with_reducible show Code.wp _ (Code.region 15 _ true) _ _ _); refine wp_region_planT [(0, 0, []), (1, 1, []), (2, 0, []), (3, 0, []), (4, 1, []), (5, 1, []), (6, 0, []), (7, 0, []), (8, 1, []), (9, 1, []), (10, 1, []), (11, 1, []), (12, 0, []), (13, 0, []), (14, 1, []), (15, 0, []), (16, 1, []), (17, 0, []), (18, 0, []), (19, 2, []), (20, 1, []), (21, 0, []), (22, 1, []), (23, 0, []), (24, 0, []), (25, 2, []), (26, 0, []), (27, 0, []), (28, 0, []), (29, 0, []), (30, 0, []), (31, 0, []), (32, 1, []), (33, 1, []), (34, 0, []), (35, 0, []), (36, 1, []), (37, 1, []), (38, 1, []), (39, 0, []), (40, 1, []), (41, 0, []), (42, 0, []), (44, 1, []), (45, 0, []), (46, 0, []), (43, 2, [44]), (47, 2, []), (48, 1, []), (49, 0, []), (50, 0, [])] [[], [], [], [], [], [4], [], [], [], [8], [4, 5, 8, 9], [1, 4, 5, 8, 9, 10], [1, 4, 5, 8, 9, 10, 11], [1, 4, 5, 8, 9, 10, 11], [1, 4, 5, 8, 9, 10, 11], [1, 4, 5, 8, 9, 10, 11, 14], [1, 4, 5, 8, 9, 10, 11, 14], [1, 4, 5, 8, 9, 10, 11, 14], [1, 4, 5, 8, 9, 10, 11, 14], [1, 4, 5, 8, 9, 10, 11, 14, 16], [1, 4, 5, 8, 9, 10, 11, 14, 16], [1, 4, 5, 8, 9, 10, 11, 14, 16, 20], [1, 4, 5, 8, 9, 10, 11, 14, 16, 20], [1, 4, 5, 8, 9, 10, 11, 14, 16, 20], [1, 4, 5, 8, 9, 10, 11, 14, 16, 20], [1, 4, 5, 8, 9, 10, 11, 14, 16, 20, 22], [1, 4, 5, 8, 9, 10, 11, 14, 16, 20, 22], [1, 4, 5, 8, 9, 10, 11, 14, 16, 20, 22], [1, 4, 5, 8, 9, 10, 11, 14, 16, 20, 22], [1, 4, 5, 8, 9, 10, 11, 14, 16, 20, 22], [1, 4, 5, 8, 9, 10, 11, 14, 16, 20, 22], [1, 4, 5, 8, 9, 10, 11, 14, 16, 20, 22], [1, 4, 5, 8, 9, 10, 11, 14, 16, 20, 22], [1, 4, 5, 8, 9, 10, 11, 14, 16, 20, 22, 32], [1, 4, 5, 8, 9, 10, 11, 14, 16, 20, 22], [1, 4, 5, 8, 9, 10, 11, 14, 16, 20, 22], [1, 4, 5, 8, 9, 10, 11, 14, 16, 20, 22], [1, 4, 5, 8, 9, 10, 11, 14, 16, 20, 22, 36], [1, 4, 5, 8, 9, 10, 11, 14, 16, 20, 22, 32, 33, 36, 37], [1, 4, 5, 8, 9, 10, 11, 14, 16, 20, 22, 32, 33, 36, 37, 38], [1, 4, 5, 8, 9, 10, 11, 14, 16, 20, 22, 32, 33, 36, 37, 38], [1, 4, 5, 8, 9, 10, 11, 14, 16, 20, 22, 32, 33, 36, 37, 38], [1, 4, 5, 8, 9, 10, 11, 14, 16, 20, 22, 32, 33, 36, 37, 38], [1, 4, 5, 8, 9, 10, 11, 14, 16, 20, 22, 32, 33, 36, 37, 38, 40], [1, 4, 5, 8, 9, 10, 11, 14, 16, 20, 22, 32, 33, 36, 37, 38], [1, 4, 5, 8, 9, 10, 11, 14, 16, 20, 22, 32, 33, 36, 37, 38], [1, 4, 5, 8, 9, 10, 11, 14, 16, 20, 22, 32, 33, 36, 37, 38], [1, 4, 5, 8, 9, 10, 11, 14, 16, 20, 22, 32, 33, 36, 37, 38, 40, 44], [1, 4, 5, 8, 9, 10, 11, 14, 16, 20, 22, 32, 33, 36, 37, 38, 40, 44], [1, 4, 5, 8, 9, 10, 11, 14, 16, 20, 22, 32, 33, 36, 37, 38, 40, 44, 48], [1, 4, 5, 8, 9, 10, 11, 14, 16, 20, 22, 32, 33, 36, 37, 38, 40, 44, 48]] (by kernel_rfl) (by kernel_rfl) (by kernel_rfl) (by kernel_rfl) ?_))
            go_roundw
            case rel => exact ⟨u + 1, by omega, by go_num, HB5⟩
            case measure => simp [intOf]; omega
        · have hun : u = n2 := by omega
          subst hun
          go_wp2_with fail
          go_roundw
          case rel => exact ⟨s + 1, by omega, by go_num, HZ⟩
          case measure => simp [intOf]; omega
    · go_wp2_with fail
      refine (sane25_any _).mono ?_
      rintro e w9 ⟨rfl, hb9⟩
      have HB9 := Lib.hid (HB4.out.trans ((HW.out.trans (hb9.mono hszr)).mono hz4))
      clear hb9
      go_wp2_with fail
      go_ret
      exact ⟨ret_bool (by simp), HB9.out⟩

end Go.Proofs.Ytmciinikfjfegaa
