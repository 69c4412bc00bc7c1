/- Distinguish of the reference; both are the same -/
import Derived.Test.YtmciinikfjfegaaSgR2
namespace Go.Proofs.Ytmciinikfjfegaa
open Go Go.RowKit
set_option maxHeartbeats 8000000

set_option maxRecDepth 100000 in
theorem rdistinguish_any (A : Option Addr) (n c : Nat) (ls : List (List Arc)) (s t : Int) (B : Nat) (w : World) (h : RdL w B A n ls) (hB : B ≤ w.heap.size) (hn : n ≤ 100000) (hs : ∀ l ∈ ls, l.length ≤ 100000) :
    Calls Try.prog 40 #[lts A n c, .int .i64 s, .int .i64 t] w (DisPost w ls s t) := by
  have HS := Lib.hid hs
  have HL := Lib.hid h.len
  have HR0 := Lib.hid (h.alloc hB (.cells #[.slice A n c] 27))
  have HN0 := Lib.hid (Blk.new w 27 #[.slice A n c])
  have HB0 := Lib.hid ((Below.refl w.heap.size w).alloc (Nat.le_refl _) (.cells #[.slice A n c] 27))
  obtain ⟨v, hv⟩ : ∃ v, validB ls = v := ⟨_, rfl⟩
  have HV := Lib.hid hv
  clear h hs hv
  go_enter Try.func40, Try.ntmps40
  go_wp2_with fail
  refine (rvalidL_any A n c B ls _ HR0.out (by simp; omega) (by omega) (fun l hl => by have := HS.out l hl; omega)).mono ?_
  rw [HV.out]
  rintro e w1 ⟨rfl, hb1⟩
  have hs1 : w.heap.size + 1 ≤ w1.heap.size := by have := hb1.size; simpa using this
  have HW1 := Lib.hid (And.intro (HR0.out.below (hb1.mono (by simp; omega))) (And.intro (HN0.out.below hb1 HN0.out.lt) (HB0.out.trans (hb1.mono (by simp)))))
  clear hb1
  have n1c := HW1.out.2.1.cell
  have n1l := HW1.out.2.1.lt
  cases v
  · go_wp2_with fail
    refine bodyPost_ret (v := .tuple #[.slice none 0 0, .int .i64 1]) (by simp [results, Try.results40, go_sem]) rfl ?_
    exact ⟨none, 0, 0, 1, [], rfl, Rd.nil, Nat.le_refl _, by omega, HW1.out.2.2, .inl ⟨.inl HV.out, rfl, rfl⟩⟩
  · have hbad : ∀ (hx : s < 0 ∨ t < 0 ∨ (n : Int) ≤ s ∨ (n : Int) ≤ t), DisIs ls s t 1 [] := fun hx => .inl ⟨.inr (by rw [HL.out]; exact hx), rfl, rfl⟩
    have HBAD := Lib.hid hbad
    clear hbad
    by_cases h1 : s < 0
    · go_wp2_with fail
      refine bodyPost_ret (v := .tuple #[.slice none 0 0, .int .i64 1]) (by simp [results, Try.results40, go_sem]) rfl ?_
      exact ⟨none, 0, 0, 1, [], rfl, Rd.nil, Nat.le_refl _, by omega, HW1.out.2.2, HBAD.out (.inl h1)⟩
    · obtain ⟨p, rfl⟩ : ∃ p : Nat, s = p := ⟨s.toNat, by omega⟩
      by_cases h3 : n ≤ p
      · go_wp2_with fail
        refine bodyPost_ret (v := .tuple #[.slice none 0 0, .int .i64 1]) (by simp [results, Try.results40, go_sem]) rfl ?_
        exact ⟨none, 0, 0, 1, [], rfl, Rd.nil, Nat.le_refl _, by omega, HW1.out.2.2, HBAD.out (.inr (.inr (.inl (by omega))))⟩
      · by_cases h2 : t < 0
        · go_wp2_with fail
          refine bodyPost_ret (v := .tuple #[.slice none 0 0, .int .i64 1]) (by simp [results, Try.results40, go_sem]) rfl ?_
          exact ⟨none, 0, 0, 1, [], rfl, Rd.nil, Nat.le_refl _, by omega, HW1.out.2.2, HBAD.out (.inr (.inl h2))⟩
        · obtain ⟨q, rfl⟩ : ∃ q : Nat, t = q := ⟨t.toNat, by omega⟩
          by_cases h4 : n ≤ q
          · go_wp2_with fail
            refine bodyPost_ret (v := .tuple #[.slice none 0 0, .int .i64 1]) (by simp [results, Try.results40, go_sem]) rfl ?_
            exact ⟨none, 0, 0, 1, [], rfl, Rd.nil, Nat.le_refl _, by omega, HW1.out.2.2, HBAD.out (.inr (.inr (.inr (by omega))))⟩
          · go_wp2_with fail
            have HOK := Lib.hid (ok_of_valid HV.out HL.out HS.out)
            refine (RRounds_any A n c ls B _ HW1.out.1 (by omega) (by omega) HS.out).mono ?_
            rintro e w2 ⟨⟨A2, n2, c2, rs, rfl, hR2, hrs⟩, hb2⟩
            obtain ⟨K, hd, rfl⟩ : ∃ K, DoneR ls K ∧ rs = rndL ls K := by
              rcases hrs with ⟨h5, _⟩ | ⟨_, h5⟩
              · rw [HV.out] at h5
                cases h5
              · exact h5
            obtain rfl : n2 = K + 1 := by rw [← hR2.len, rndL_len]
            have HD := Lib.hid hd
            have hK : K ≤ 100000 := by have := round_le hd.1; have := HL.out; omega
            have HN2 := Lib.hid (HW1.out.2.1.below hb2 n1l)
            have HB2 := Lib.hid (HW1.out.2.2.trans (hb2.mono (by omega)))
            have hs2 : w.heap.size + 1 ≤ w2.heap.size := by have := hb2.size; omega
            have HR1 := Lib.hid ((HW1.out.1.below (hb2.mono (by omega))).more (show B ≤ w2.heap.size by omega))
            have HR2 := Lib.hid hR2
            obtain ⟨b6, o6, r6, A6, n6, c6, rfl, hb6, hr6, hln6, e6, hrow6⟩ := hR2.row (i := K) (by omega)
            obtain rfl : r6 = clK ls K := by
              rw [rndL_get (Nat.le_refl K)] at hr6
              exact (Option.some.inj hr6).symm
            obtain rfl : n6 = n := by rw [← hln6, clK_len, HL.out]
            obtain ⟨b7, o7, x, rfl, hb7, hx, d1⟩ := hrow6.nat (i := p) (by omega)
            obtain ⟨b8, o8, y, hab, hb8, hy, d2⟩ := hrow6.nat (i := q) (by omega)
            obtain ⟨rfl, rfl⟩ : b7 = b8 ∧ o7 = o8 := by simpa using hab
            have HA := Lib.hid (show agr ls K p q ↔ x = y by
              rw [agr, List.getD_eq_getElem?_getD, List.getD_eq_getElem?_getD, hx, hy]
              exact Iff.rfl)
            have n2c := HN2.out.cell
            have n2l := HN2.out.lt
            clear hrs hR2 hb2 hd hrow6 hr6 hx hy hab n1c n1l
            have hK0 : (K : Int) + 1 - 1 = K := by omega
            by_cases hxy : x = y
            · have HE := Lib.hid (show DisIs ls (p : Nat) (q : Nat) 21 [] from .inr ⟨HV.out, by omega, by omega, by rw [HL.out]; omega, by rw [HL.out]; omega, K, HD.out, .inl ⟨by rw [Int.toNat_natCast, Int.toNat_natCast]; exact HA.out.2 hxy, rfl, rfl⟩⟩)
              subst hxy
              have HBd := Lib.hid HB2.out.drew
              go_wp2_with (first | ((with_reducible show wpPlan _ _ _ [] _ _ _); refine wpPlan_nil ?_) | ((with_reducible show wpPlan _ _ _ ((_, 0, _) :: _) _ _ _); first | (refine wpPlan_read0 rfl ?hw rfl (fun _ _ _ => ?_); case hw => ((conv => (lhs; whnf)); first | done | with_reducible rfl)) | (refine wpPlan_skip0 rfl ?hw ?_; (case hw => ((conv => (lhs; whnf)); first | done | with_reducible rfl)); (try simp only [List.getElem_toArray, List.getElem_cons_succ, List.getElem_cons_zero, Act.put, List.setIfInBounds_toArray, List.set_cons_zero, List.set_cons_succ]))) | ((with_reducible show wpPlan _ _ _ ((_, 1, _) :: _) _ _ _); first | (refine wpPlan_read1d rfl ?hw rfl rfl (fun _ _ _ => ?_); case hw => ((conv => (lhs; whnf)); first | done | with_reducible rfl)) | (refine wpPlan_skip1d rfl ?hw ?_; (case hw => ((conv => (lhs; whnf)); first | done | with_reducible rfl)); (try simp only [List.getElem_toArray, List.getElem_cons_succ, List.getElem_cons_zero, Act.put, List.setIfInBounds_toArray, List.set_cons_zero, List.set_cons_succ])) | (refine wpPlan_read1 rfl ?hw rfl (fun _ _ _ => ?_); case hw => ((conv => (lhs; whnf)); first | done | with_reducible rfl))) | ((with_reducible show wpPlan _ _ _ ((_, 2, _) :: _) _ _ _); first | (refine wpPlan_eff rfl ?hw (fun _ _ => ?_); case hw => ((conv => (lhs; whnf)); first | done | with_reducible rfl)) | (refine wpPlan_skip2 rfl ?hw ?_; (case hw => ((conv => (lhs; whnf)); first | done | with_reducible rfl)); (try simp only [List.getElem_toArray, List.getElem_cons_succ, List.getElem_cons_zero, Act.put, List.setIfInBounds_toArray, List.set_cons_zero, List.set_cons_succ]))) | ((with_reducible show wpPlan _ _ _ _ _ _ _); refine wpPlan_fork ?_ ?_) | ((with_reducible show Owed _ _ _ [] _ _ _ _ _); refine Owed.none_ ?_) | ((with_reducible show Owed _ _ _ _ [] _ _ _ _); refine Owed.nil_ ?_) | ((with_reducible show Owed _ _ _ _ _ _ _ _ _); first | (refine Owed.miss rfl ?_) | (refine Owed.hit ?_ ?_)) | ((with_reducible show Same _ _ _ _ _); intro _; go_simp; done) | (with_reducible exact True.intro) | ((with_reducible show Code.wp _ (Code.region 4 _ true) _ _ _); refine wp_region_plan [(0, 0, []), (1, 0, []), (2, 1, []), (3, 1, []), (4, 1, []), (5, 1, []), (6, 0, []), (7, 1, []), (8, 1, []), (9, 0, []), (10, 0, []), (11, 1, []), (12, 1, []), (13, 1, []), (14, 1, []), (15, 0, []), (16, 1, []), (17, 1, []), (18, 1, [])] (by kernel_rfl) (by kernel_rfl) (by kernel_rfl) ?_))
              refine bodyPost_ret (v := .tuple #[.slice none 0 0, .int .i64 21]) (by simp [results, Try.results40, go_sem]) rfl ?_
              exact ⟨none, 0, 0, 21, [], rfl, Rd.nil, Nat.le_refl _, by omega, HBd.out, HE.out⟩
            · have hna : ¬ agr ls K p q := fun e => hxy (HA.out.1 e)
              obtain ⟨k, hk, hl⟩ := last_ex (by rw [HL.out]; omega) (by rw [HL.out]; omega) hna
              obtain ⟨F, hF⟩ := FR.ex HOK.out.tos k (s := p) (t := q) (by rw [HL.out]; omega) (by rw [HL.out]; omega) hl
              have HFF := Lib.hid (And.intro hna hF)
              have hxb : ((x : Int) == (y : Int)) = false := by simp; omega
              clear hna hF hl
              go_wp2_with (first | ((with_reducible show wpPlan _ _ _ [] _ _ _); refine wpPlan_nil ?_) | ((with_reducible show wpPlan _ _ _ ((_, 0, _) :: _) _ _ _); first | (refine wpPlan_read0 rfl ?hw rfl (fun _ _ _ => ?_); case hw => ((conv => (lhs; whnf)); first | done | with_reducible rfl)) | (refine wpPlan_skip0 rfl ?hw ?_; (case hw => ((conv => (lhs; whnf)); first | done | with_reducible rfl)); (try simp only [List.getElem_toArray, List.getElem_cons_succ, List.getElem_cons_zero, Act.put, List.setIfInBounds_toArray, List.set_cons_zero, List.set_cons_succ]))) | ((with_reducible show wpPlan _ _ _ ((_, 1, _) :: _) _ _ _); first | (refine wpPlan_read1d rfl ?hw rfl rfl (fun _ _ _ => ?_); case hw => ((conv => (lhs; whnf)); first | done | with_reducible rfl)) | (refine wpPlan_skip1d rfl ?hw ?_; (case hw => ((conv => (lhs; whnf)); first | done | with_reducible rfl)); (try simp only [List.getElem_toArray, List.getElem_cons_succ, List.getElem_cons_zero, Act.put, List.setIfInBounds_toArray, List.set_cons_zero, List.set_cons_succ])) | (refine wpPlan_read1 rfl ?hw rfl (fun _ _ _ => ?_); case hw => ((conv => (lhs; whnf)); first | done | with_reducible rfl))) | ((with_reducible show wpPlan _ _ _ ((_, 2, _) :: _) _ _ _); first | (refine wpPlan_eff rfl ?hw (fun _ _ => ?_); case hw => ((conv => (lhs; whnf)); first | done | with_reducible rfl)) | (refine wpPlan_skip2 rfl ?hw ?_; (case hw => ((conv => (lhs; whnf)); first | done | with_reducible rfl)); (try simp only [List.getElem_toArray, List.getElem_cons_succ, List.getElem_cons_zero, Act.put, List.setIfInBounds_toArray, List.set_cons_zero, List.set_cons_succ]))) | ((with_reducible show wpPlan _ _ _ _ _ _ _); refine wpPlan_fork ?_ ?_) | ((with_reducible show Owed _ _ _ [] _ _ _ _ _); refine Owed.none_ ?_) | ((with_reducible show Owed _ _ _ _ [] _ _ _ _); refine Owed.nil_ ?_) | ((with_reducible show Owed _ _ _ _ _ _ _ _ _); first | (refine Owed.miss rfl ?_) | (refine Owed.hit ?_ ?_)) | ((with_reducible show Same _ _ _ _ _); intro _; go_simp; done) | (with_reducible exact True.intro) | ((with_reducible show Code.wp _ (Code.region 4 _ true) _ _ _); refine wp_region_plan [(0, 0, []), (1, 0, []), (2, 1, []), (3, 1, []), (4, 1, []), (5, 1, []), (6, 0, []), (7, 1, []), (8, 1, []), (9, 0, []), (10, 0, []), (11, 1, []), (12, 1, []), (13, 1, []), (14, 1, []), (15, 0, []), (16, 1, []), (17, 1, []), (18, 1, [])] (by kernel_rfl) (by kernel_rfl) (by kernel_rfl) ?_))
              refine (HFF.out.2.fm n6 K w2.heap.size A (some ⟨b6, o6, none⟩) c c2 _ (HR1.out.drewN 1) (HR2.out.drewN 1) (by simp) HOK.out HD.out).mono ?_
              rintro e w4 ⟨A4, n4, c4, r, o4, rfl, hR4, hnc4, hn4, _, hb4, ht4, hff4⟩
              have HB4 := Lib.hid (HB2.out.trans ((((Below.refl w2.heap.size w2).drew).trans (hb4.mono (by simp))).mono (by omega)))
              have HR4 := Lib.hid hR4
              clear hb4 hR4
              cases r
              · have HE := Lib.hid (show DisIs ls (p : Nat) (q : Nat) 10 [] from .inr ⟨HV.out, by omega, by omega, by rw [HL.out]; omega, by rw [HL.out]; omega, K, HD.out, .inr ⟨by rw [Int.toNat_natCast, Int.toNat_natCast]; exact HFF.out.1, F, by rw [Int.toNat_natCast, Int.toNat_natCast]; exact HFF.out.2, .inr ⟨hff4 rfl, rfl, rfl⟩⟩⟩)
                clear ht4 hff4
                go_wp2_with (first | ((with_reducible show wpPlan _ _ _ [] _ _ _); refine wpPlan_nil ?_) | ((with_reducible show wpPlan _ _ _ ((_, 0, _) :: _) _ _ _); first | (refine wpPlan_read0 rfl ?hw rfl (fun _ _ _ => ?_); case hw => ((conv => (lhs; whnf)); first | done | with_reducible rfl)) | (refine wpPlan_skip0 rfl ?hw ?_; (case hw => ((conv => (lhs; whnf)); first | done | with_reducible rfl)); (try simp only [List.getElem_toArray, List.getElem_cons_succ, List.getElem_cons_zero, Act.put, List.setIfInBounds_toArray, List.set_cons_zero, List.set_cons_succ]))) | ((with_reducible show wpPlan _ _ _ ((_, 1, _) :: _) _ _ _); first | (refine wpPlan_read1d rfl ?hw rfl rfl (fun _ _ _ => ?_); case hw => ((conv => (lhs; whnf)); first | done | with_reducible rfl)) | (refine wpPlan_skip1d rfl ?hw ?_; (case hw => ((conv => (lhs; whnf)); first | done | with_reducible rfl)); (try simp only [List.getElem_toArray, List.getElem_cons_succ, List.getElem_cons_zero, Act.put, List.setIfInBounds_toArray, List.set_cons_zero, List.set_cons_succ])) | (refine wpPlan_read1 rfl ?hw rfl (fun _ _ _ => ?_); case hw => ((conv => (lhs; whnf)); first | done | with_reducible rfl))) | ((with_reducible show wpPlan _ _ _ ((_, 2, _) :: _) _ _ _); first | (refine wpPlan_eff rfl ?hw (fun _ _ => ?_); case hw => ((conv => (lhs; whnf)); first | done | with_reducible rfl)) | (refine wpPlan_skip2 rfl ?hw ?_; (case hw => ((conv => (lhs; whnf)); first | done | with_reducible rfl)); (try simp only [List.getElem_toArray, List.getElem_cons_succ, List.getElem_cons_zero, Act.put, List.setIfInBounds_toArray, List.set_cons_zero, List.set_cons_succ]))) | ((with_reducible show wpPlan _ _ _ _ _ _ _); refine wpPlan_fork ?_ ?_) | ((with_reducible show Owed _ _ _ [] _ _ _ _ _); refine Owed.none_ ?_) | ((with_reducible show Owed _ _ _ _ [] _ _ _ _); refine Owed.nil_ ?_) | ((with_reducible show Owed _ _ _ _ _ _ _ _ _); first | (refine Owed.miss rfl ?_) | (refine Owed.hit ?_ ?_)) | ((with_reducible show Same _ _ _ _ _); intro _; go_simp; done) | (with_reducible exact True.intro) | ((with_reducible show Code.wp _ (Code.region 4 _ true) _ _ _); refine wp_region_plan [(0, 0, []), (1, 0, []), (2, 1, []), (3, 1, []), (4, 1, []), (5, 1, []), (6, 0, []), (7, 1, []), (8, 1, []), (9, 0, []), (10, 0, []), (11, 1, []), (12, 1, []), (13, 1, []), (14, 1, []), (15, 0, []), (16, 1, []), (17, 1, []), (18, 1, [])] (by kernel_rfl) (by kernel_rfl) (by kernel_rfl) ?_))
                refine bodyPost_ret (v := .tuple #[.slice none 0 0, .int .i64 10]) (by simp [results, Try.results40, go_sem]) rfl ?_
                exact ⟨none, 0, 0, 10, [], rfl, Rd.nil, Nat.le_refl _, by omega, HB4.out, HE.out⟩
              · obtain ⟨rfl, h6⟩ := ht4 rfl
                have hl4 := HR4.out.len FNode.cells_len (by decide)
                have HE := Lib.hid (show DisIs ls (p : Nat) (q : Nat) 0 F.enc from .inr ⟨HV.out, by omega, by omega, by rw [HL.out]; omega, by rw [HL.out]; omega, K, HD.out, .inr ⟨by rw [Int.toNat_natCast, Int.toNat_natCast]; exact HFF.out.1, F, by rw [Int.toNat_natCast, Int.toNat_natCast]; exact HFF.out.2, .inl ⟨by omega, rfl, rfl⟩⟩⟩)
                clear ht4 hff4
                go_wp2_with (first | ((with_reducible show wpPlan _ _ _ [] _ _ _); refine wpPlan_nil ?_) | ((with_reducible show wpPlan _ _ _ ((_, 0, _) :: _) _ _ _); first | (refine wpPlan_read0 rfl ?hw rfl (fun _ _ _ => ?_); case hw => ((conv => (lhs; whnf)); first | done | with_reducible rfl)) | (refine wpPlan_skip0 rfl ?hw ?_; (case hw => ((conv => (lhs; whnf)); first | done | with_reducible rfl)); (try simp only [List.getElem_toArray, List.getElem_cons_succ, List.getElem_cons_zero, Act.put, List.setIfInBounds_toArray, List.set_cons_zero, List.set_cons_succ]))) | ((with_reducible show wpPlan _ _ _ ((_, 1, _) :: _) _ _ _); first | (refine wpPlan_read1d rfl ?hw rfl rfl (fun _ _ _ => ?_); case hw => ((conv => (lhs; whnf)); first | done | with_reducible rfl)) | (refine wpPlan_skip1d rfl ?hw ?_; (case hw => ((conv => (lhs; whnf)); first | done | with_reducible rfl)); (try simp only [List.getElem_toArray, List.getElem_cons_succ, List.getElem_cons_zero, Act.put, List.setIfInBounds_toArray, List.set_cons_zero, List.set_cons_succ])) | (refine wpPlan_read1 rfl ?hw rfl (fun _ _ _ => ?_); case hw => ((conv => (lhs; whnf)); first | done | with_reducible rfl))) | ((with_reducible show wpPlan _ _ _ ((_, 2, _) :: _) _ _ _); first | (refine wpPlan_eff rfl ?hw (fun _ _ => ?_); case hw => ((conv => (lhs; whnf)); first | done | with_reducible rfl)) | (refine wpPlan_skip2 rfl ?hw ?_; (case hw => ((conv => (lhs; whnf)); first | done | with_reducible rfl)); (try simp only [List.getElem_toArray, List.getElem_cons_succ, List.getElem_cons_zero, Act.put, List.setIfInBounds_toArray, List.set_cons_zero, List.set_cons_succ]))) | ((with_reducible show wpPlan _ _ _ _ _ _ _); refine wpPlan_fork ?_ ?_) | ((with_reducible show Owed _ _ _ [] _ _ _ _ _); refine Owed.none_ ?_) | ((with_reducible show Owed _ _ _ _ [] _ _ _ _); refine Owed.nil_ ?_) | ((with_reducible show Owed _ _ _ _ _ _ _ _ _); first | (refine Owed.miss rfl ?_) | (refine Owed.hit ?_ ?_)) | ((with_reducible show Same _ _ _ _ _); intro _; go_simp; done) | (with_reducible exact True.intro) | ((with_reducible show Code.wp _ (Code.region 4 _ true) _ _ _); refine wp_region_plan [(0, 0, []), (1, 0, []), (2, 1, []), (3, 1, []), (4, 1, []), (5, 1, []), (6, 0, []), (7, 1, []), (8, 1, []), (9, 0, []), (10, 0, []), (11, 1, []), (12, 1, []), (13, 1, []), (14, 1, []), (15, 0, []), (16, 1, []), (17, 1, []), (18, 1, [])] (by kernel_rfl) (by kernel_rfl) (by kernel_rfl) ?_))
                refine bodyPost_ret (v := .tuple #[.slice A4 n4 c4, .int .i64 0]) (by simp [results, Try.results40, go_sem]) rfl ?_
                exact ⟨A4, n4, c4, 0, F.enc, rfl, HR4.out, hnc4, h6, HB4.out, HE.out⟩

set_option maxRecDepth 100000 in
theorem distinguishes_any (A : Option Addr) (n c : Nat) (ls : List (List Arc)) (s t : Int) (B : Nat) (w : World) (h : RdL w B A n ls) (hB : B ≤ w.heap.size) (hn : n ≤ 100000) (hs : ∀ l ∈ ls, l.length ≤ 100000) :
    Calls Try.prog 20 #[lts A n c, .int .i64 s, .int .i64 t] w fun e w' => e = .returned (.bool true) ∧ Below w.heap.size w w' := by
  have HS := Lib.hid hs
  have HN0 := Lib.hid (Blk.new w 27 #[.slice A n c])
  have HB0 := Lib.hid ((Below.refl w.heap.size w).alloc (Nat.le_refl _) (.cells #[.slice A n c] 27))
  have HR0 := Lib.hid (h.alloc hB (.cells #[.slice A n c] 27))
  clear h hs
  go_enter Try.func20, Try.ntmps20
  go_wp2_with fail
  refine (distinguish_any A n c ls s t B _ HR0.out (by simp; omega) hn HS.out).mono ?_
  rintro e w2 ⟨A2, n2, c2, e2, o2, rfl, hR2, hnc2, hn2, hb2, hd2⟩
  have hz : w.heap.size + 1 ≤ w2.heap.size := by have := hb2.size; simpa using this
  have HD2 := Lib.hid hd2
  have HR2 := Lib.hid hR2
  have HX2 := Lib.hid (And.intro (HN0.out.below hb2 HN0.out.lt) (HB0.out.trans (hb2.mono (by simp))))
  have HP2 := Lib.hid (HR0.out.below (hb2.mono (by simp; omega)))
  clear hb2 hd2 hR2
  have n2c := HX2.out.1.cell
  have n2l := HX2.out.1.lt
  go_wp2_with fail
  refine (rdistinguish_any A n c ls s t B _ HP2.out (by omega) hn HS.out).mono ?_
  rintro e w3 ⟨A3, n3, c3, e3, o3, rfl, hR3, hnc3, hn3, hb3, hd3⟩
  obtain ⟨rfl, rfl⟩ := HD2.out.unique hd3
  have HR3 := Lib.hid hR3
  have hsz3 := hb3.size
  have HB3 := Lib.hid (HX2.out.2.trans (hb3.mono (by omega)))
  have HP3 := Lib.hid ((HR2.out.below hb3).more hb3.size)
  clear hb3 hd3 hR3 n2c n2l
  have hee : ((e2 : Int) == (e2 : Int)) = true := by simp
  go_wp2_with fail
  refine (sameFormula_any A2 A3 n2 c2 n3 c3 w3.heap.size o2 o2 _ HP3.out HR3.out (Nat.le_refl _) (by omega)).mono ?_
  rintro e w4 ⟨rfl, hb4⟩
  have hdd : decide (o2 = o2) = true := decide_eq_true rfl
  have HB4 := Lib.hid (HB3.out.trans (hb4.mono (by omega)))
  clear hb4
  go_wp2_with fail
  go_ret
  exact ⟨ret_bool (by simp), HB4.out⟩

end Go.Proofs.Ytmciinikfjfegaa
