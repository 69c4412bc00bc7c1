/- Equal of the reference -/
import Derived.Test.YtmciinikfjfegaaSgE1
namespace Go.Proofs.Ytmciinikfjfegaa
open Go Go.RowKit
set_option maxHeartbeats 8000000

set_option maxRecDepth 100000 in
theorem requal_any (A A' : Option Addr) (n c n' c' B : Nat) (la lb : List (List Arc)) (w : World) (h : RdL w B A n la) (h' : RdL w B A' n' lb) (hB : B ≤ w.heap.size) (hn : n ≤ 1000000) (hn' : n' ≤ 1000000) (hs : ∀ l ∈ la, l.length ≤ 100000) (hs' : ∀ l ∈ lb, l.length ≤ 100000) :
    Calls Try.prog 27 #[lts A n c, lts A' n' c'] w fun e w' => (∃ q, e = .returned (.bool q) ∧ EqIs la lb q) ∧ Below w.heap.size w w' := by
  have HS := Lib.hid (And.intro hs hs')
  have HL := Lib.hid h.len
  have HL' := Lib.hid h'.len
  have HX := Lib.hid (show (RdL ((w.alloc (.cells #[.slice A n c] 27)).alloc (.cells #[.slice A' n' c'] 27)) B A n la ∧ RdL ((w.alloc (.cells #[.slice A n c] 27)).alloc (.cells #[.slice A' n' c'] 27)) B A' n' lb) ∧ Blk ((w.alloc (.cells #[.slice A n c] 27)).alloc (.cells #[.slice A' n' c'] 27)) w.heap.size 27 #[.slice A n c] ∧ Blk ((w.alloc (.cells #[.slice A n c] 27)).alloc (.cells #[.slice A' n' c'] 27)) (w.heap.size + 1) 27 #[.slice A' n' c'] ∧ Below w.heap.size w ((w.alloc (.cells #[.slice A n c] 27)).alloc (.cells #[.slice A' n' c'] 27)) ∧ ((w.alloc (.cells #[.slice A n c] 27)).alloc (.cells #[.slice A' n' c'] 27)).heap.size = w.heap.size + 2 by
    exact ⟨⟨(h.alloc hB _).alloc (by simp; omega) _, (h'.alloc hB _).alloc (by simp; omega) _⟩, (Blk.new w _ _).alloc _, heap_alloc_at (by simp), ((Below.refl w.heap.size w).alloc (Nat.le_refl _) _).alloc (by simp) _, by simp⟩)
  obtain ⟨va, hva⟩ : ∃ v, validB la = v := ⟨_, rfl⟩
  obtain ⟨vb, hvb⟩ : ∃ v, validB lb = v := ⟨_, rfl⟩
  have HVA := Lib.hid hva
  have HVB := Lib.hid hvb
  clear h h' hs hs' hva hvb
  go_enter Try.func27, Try.ntmps27
  have hz2 := HX.out.2.2.2.2
  have a2c := HX.out.2.1.cell
  have a2l := HX.out.2.1.lt
  go_wp2_with fail
  refine (rvalidL_any A n c B la _ HX.out.1.1 (by omega) (by omega) (fun l hl => by have := HS.out.1 l hl; omega)).mono ?_
  rw [HVA.out]
  rintro e w3 ⟨rfl, hb3⟩
  have HB3 := Lib.hid hb3
  have HX3 := Lib.hid (And.intro (HX.out.1.2.below (hb3.mono (by omega))) (And.intro (HX.out.2.1.below hb3 a2l) (And.intro (HX.out.2.2.1.below hb3 HX.out.2.2.1.lt) (HX.out.2.2.2.1.trans (hb3.mono (by omega))))))
  have hz3 := hb3.size
  clear hb3 a2c a2l
  cases va
  · go_wp2_with fail
    go_ret
    exact ⟨⟨false, ret_bool rfl, .inl ⟨by rw [HVA.out]; rfl, rfl⟩⟩, HX3.out.2.2.2⟩
  have b3c := HX3.out.2.2.1.cell
  have b3l := HX3.out.2.2.1.lt
  go_wp2_with fail
  refine (rvalidL_any A' n' c' B lb w3 HX3.out.1 (by omega) (by omega) (fun l hl => by have := HS.out.2 l hl; omega)).mono ?_
  rw [HVB.out]
  rintro e w4 ⟨rfl, hb4⟩
  have hz4 := hb4.size
  have HX4 := Lib.hid (And.intro (And.intro (HX.out.1.1.below ((HB3.out.mono (by omega)).trans (hb4.mono (by omega)))) (HX3.out.1.below (hb4.mono (by omega)))) (And.intro (HX3.out.2.1.below hb4 HX3.out.2.1.lt) (And.intro (HX3.out.2.2.1.below hb4 b3l) (HX3.out.2.2.2.trans (hb4.mono (by omega))))))
  clear hb4 b3c b3l
  cases vb
  · go_wp2_with fail
    go_ret
    exact ⟨⟨false, ret_bool rfl, .inl ⟨by rw [HVB.out, Bool.and_false], rfl⟩⟩, HX4.out.2.2.2⟩
  have HV := Lib.hid (show (validB la && validB lb) = true by rw [HVA.out, HVB.out]; rfl)
  obtain ⟨ok1, hn1, hn2, hn1', hn2', hto⟩ := both_ok HV.out HL.out HL'.out HS.out.1 HS.out.2
  have HOK := Lib.hid (And.intro ok1 hto)
  obtain ⟨i0, hi0, hz0, hz1, hz2⟩ := info_parts infoInt
  have HBW := Lib.hid (show bothW la lb = bothL la lb from bothW_eq (by rw [HL.out]; omega) (fun l hl x hx => by have := HOK.out.2 l hl x hx; omega))
  obtain ⟨m, hm⟩ : ∃ m, n + n' = m := ⟨_, rfl⟩
  have HBO := Lib.hid (both_any A A' n c n' c' B la lb w4 HX4.out.1.1 HX4.out.1.2 (by omega) hn hn' (fun l hl => by have := HS.out.2 l hl; omega))
  rw [HBW.out, hm] at HBO
  have HOM := Lib.hid (show OkL (bothL la lb) m from hm ▸ HOK.out.1)
  have a4c := HX4.out.2.1.cell
  have a4l := HX4.out.2.1.lt
  have b4c := HX4.out.2.2.1.cell
  have b4l := HX4.out.2.2.1.lt
  have hmn : n < m := by omega
  have hm2 : m ≤ 32768 := by omega
  clear ok1 hto hm
  go_wp2_with fail
  refine HBO.out.mono ?_
  rintro e w5 ⟨⟨A5, c5, rfl, hR5⟩, hb5⟩
  have hz5 := hb5.size
  have HX5 := Lib.hid (And.intro ((HX4.out.2.1.below hb5 a4l).alloc (.cells #[.slice A5 m c5] 27)) (And.intro (Blk.new w5 27 #[.slice A5 m c5]) ((HX4.out.2.2.2.trans (hb5.mono (by omega))).alloc (by omega) (.cells #[.slice A5 m c5] 27))))
  have HR5 := Lib.hid (hR5.alloc (Nat.le_refl _) (.cells #[.slice A5 m c5] 27))
  have hs6 : (w5.alloc (.cells #[.slice A5 m c5] 27)).heap.size = w5.heap.size + 1 := by simp
  have x5c := HX5.out.2.1.cell
  have x5l := HX5.out.2.1.lt
  have HZ := Lib.hid (show (((w5.alloc (.cells #[.slice A5 m c5] 27)).alloc (.cells (madeCells (Value.int .i64 0).cells m) 3)).drew).ownsRow 0 3 1 (.slice (some ⟨w5.heap.size + 1, 0, none⟩) m m) m (cellsOf ncell (clK (bothL la lb) 0)) ∧ RdL (((w5.alloc (.cells #[.slice A5 m c5] 27)).alloc (.cells (madeCells (Value.int .i64 0).cells m) 3)).drew) w5.heap.size A5 m (bothL la lb) ∧ Blk (((w5.alloc (.cells #[.slice A5 m c5] 27)).alloc (.cells (madeCells (Value.int .i64 0).cells m) 3)).drew) w.heap.size 27 #[.slice A n c] ∧ Below w.heap.size w (((w5.alloc (.cells #[.slice A5 m c5] 27)).alloc (.cells (madeCells (Value.int .i64 0).cells m) 3)).drew) from by
    refine ⟨?_, (HR5.out.alloc (by omega) _).drewN 1, (HX5.out.1.alloc _).drewN 1, (HX5.out.2.2.alloc (by omega) _).drew⟩
    rw [clK, HOM.out.len, made_ncells]
    exact ⟨by rw [cellsOf_length ncell_len, List.length_replicate], .inr ⟨w5.heap.size + 1, m, (cellsOf ncell (List.replicate m 0)).toArray, rfl, Nat.zero_le _, heap_alloc_at (by simp), Nat.le_refl _, by unfold maxLen; omega, by simp [cellsOf_length ncell_len], by rw [List.take_of_length_le (by simp [cellsOf_length ncell_len])]⟩⟩)
  clear hR5 hb5 a4c a4l b4c b4l
  go_wp2_with (first | ((with_reducible show wpPlan _ _ _ ((5, 2, _) :: _) _ _ _); refine wpPlan_eff rfl rfl (fun _ hK => ?_); refine make_wp _ _ _ 29 rfl 3 i0 (.int .i64 0) Try.underlying29 hi0 hz0 hz1 _ _ m rfl rfl (by rw [hz2]; omega) (by omega) ?_; refine hK _ _ ?_; clear hK) | ((with_reducible show wpPlan _ _ _ _ _ (Act.put _ _ _) _); simp only [List.getElem_toArray, List.getElem_cons_succ, List.getElem_cons_zero, Act.put, List.setIfInBounds_toArray, List.set_cons_zero, List.set_cons_succ]) | ((with_reducible show wpPlan _ _ _ _ _ _ _); first | refine wpPlan_nil ?_ | (refine wpPlan_read0 rfl ?hw rfl (fun _ _ _ => ?_); case hw => ((conv => (lhs; whnf)); first | done | with_reducible rfl)) | (refine wpPlan_read1d rfl ?hw rfl rfl (fun _ _ _ => ?_); case hw => ((conv => (lhs; whnf)); first | done | with_reducible rfl)) | (refine wpPlan_eff rfl ?hw (fun _ _ => ?_); case hw => ((conv => (lhs; whnf)); first | done | with_reducible rfl)) | (refine wpPlan_skip0 rfl ?hw ?_; case hw => ((conv => (lhs; whnf)); first | done | with_reducible rfl)) | (refine wpPlan_skip1d rfl ?hw ?_; case hw => ((conv => (lhs; whnf)); first | done | with_reducible rfl)) | (refine wpPlan_skip2 rfl ?hw ?_; case hw => ((conv => (lhs; whnf)); first | done | with_reducible rfl)) | (refine wpPlan_read1 rfl ?hw rfl (fun _ _ _ => ?_); case hw => ((conv => (lhs; whnf)); first | done | with_reducible rfl)) | refine wpPlan_fork ?_ ?_) | ((with_reducible show Owed _ _ _ _ _ _ _ _ _); first | refine Owed.none_ ?_ | refine Owed.nil_ ?_ | refine Owed.miss rfl ?_ | refine Owed.hit ?_ ?_) | ((with_reducible show Same _ _ _ _ _); intro _; go_simp; done) | (with_reducible exact True.intro) | ((with_reducible show Code.wp _ (Code.region 4 _ true) _ _ _); refine wp_region_plan [(0, 1, []), (1, 1, []), (2, 1, []), (3, 1, []), (4, 1, []), (5, 2, [0, 1]), (6, 2, []), (7, 0, [])] (by kernel_rfl) (by kernel_rfl) (by kernel_rfl) ?_) | ((with_reducible show Code.wp _ (Code.region 6 _ true) _ _ _); refine wp_region_plan [(0, 0, []), (1, 1, []), (2, 1, []), (3, 0, []), (4, 1, []), (5, 1, []), (6, 1, []), (7, 1, []), (8, 1, []), (9, 1, []), (10, 0, [])] (by kernel_rfl) (by kernel_rfl) (by kernel_rfl) ?_))
  refine (rrounds_any A5 (some ⟨w5.heap.size + 1, 0, none⟩) m c5 m (w.heap.size + 1) (bothL la lb) w5.heap.size _ HZ.out.2.1 (by simp; omega) HOM.out HZ.out.1 (fun g hg => by simp [Value.ownBlock] at hg; omega) (by simp; omega)).mono ?_
  rintro e w7 ⟨⟨v7, K, xs, rfl, hd, ho7⟩, hb7⟩
  obtain ⟨A7, c7, rfl, _, _⟩ := own_form ho7.own
  have HB7 := Lib.hid (HZ.out.2.2.2.trans (hb7.mono (by simp; omega))).drew
  have HA7 := HZ.out.2.2.1.below hb7 (by simp; omega)
  have hz7 := hb7.size
  simp at hz7
  obtain ⟨b6, o6, r6, A6, n6, c6, rfl, hb6, hr6, hln6, e6, hrow6⟩ := ho7.whole.row (i := K) (by omega)
  obtain rfl : r6 = clK (bothL la lb) K := by
    rw [rndL_get (Nat.le_refl K)] at hr6
    exact (Option.some.inj hr6).symm
  obtain rfl : n6 = m := by rw [← hln6, clK_len, HOM.out.len]
  obtain ⟨b1, o1, x, rfl, hb1, hx, d1⟩ := hrow6.nat (i := 0) (by omega)
  obtain ⟨b2, o2, y, hab, hb2, hy, d2⟩ := hrow6.nat (i := n) (by omega)
  obtain ⟨rfl, rfl⟩ : b1 = b2 ∧ o1 = o2 := by simpa using hab
  have HQ := Lib.hid (show DoneR (bothL la lb) K ∧ (x = y ↔ agr (bothL la lb) K 0 la.length) from ⟨hd, by
    rw [agr, HL.out, List.getD_eq_getElem?_getD, List.getD_eq_getElem?_getD, hx, hy]
    exact Iff.rfl⟩)
  rw [Nat.add_zero] at d1
  have hK0 : (K : Int) + 1 - 1 = K := by omega
  have hK : K ≤ 100000 := by have := round_le hd.1; have := HOM.out.len; omega
  have a7c := HA7.cell
  have a7l := HA7.lt
  clear hd ho7 hb7 hx hy hab hr6 hrow6 x5c x5l HA7
  by_cases hxy : x = y
  · have HA := Lib.hid (HQ.out.2.1 hxy)
    subst hxy
    go_wp2_with (first | ((with_reducible show wpPlan _ _ _ _ _ (Act.put _ _ _) _); simp only [List.getElem_toArray, List.getElem_cons_succ, List.getElem_cons_zero, Act.put, List.setIfInBounds_toArray, List.set_cons_zero, List.set_cons_succ]) | ((with_reducible show wpPlan _ _ _ _ _ _ _); first | refine wpPlan_nil ?_ | (refine wpPlan_read0 rfl ?hw rfl (fun _ _ _ => ?_); case hw => ((conv => (lhs; whnf)); first | done | with_reducible rfl)) | (refine wpPlan_read1d rfl ?hw rfl rfl (fun _ _ _ => ?_); case hw => ((conv => (lhs; whnf)); first | done | with_reducible rfl)) | (refine wpPlan_eff rfl ?hw (fun _ _ => ?_); case hw => ((conv => (lhs; whnf)); first | done | with_reducible rfl)) | (refine wpPlan_skip0 rfl ?hw ?_; case hw => ((conv => (lhs; whnf)); first | done | with_reducible rfl)) | (refine wpPlan_skip1d rfl ?hw ?_; case hw => ((conv => (lhs; whnf)); first | done | with_reducible rfl)) | (refine wpPlan_skip2 rfl ?hw ?_; case hw => ((conv => (lhs; whnf)); first | done | with_reducible rfl)) | (refine wpPlan_read1 rfl ?hw rfl (fun _ _ _ => ?_); case hw => ((conv => (lhs; whnf)); first | done | with_reducible rfl)) | refine wpPlan_fork ?_ ?_) | ((with_reducible show Owed _ _ _ _ _ _ _ _ _); first | refine Owed.none_ ?_ | refine Owed.nil_ ?_ | refine Owed.miss rfl ?_ | refine Owed.hit ?_ ?_) | ((with_reducible show Same _ _ _ _ _); intro _; go_simp; done) | (with_reducible exact True.intro) | ((with_reducible show Code.wp _ (Code.region 4 _ true) _ _ _); refine wp_region_plan [(0, 1, []), (1, 1, []), (2, 1, []), (3, 1, []), (4, 1, []), (5, 2, [0, 1]), (6, 2, []), (7, 0, [])] (by kernel_rfl) (by kernel_rfl) (by kernel_rfl) ?_) | ((with_reducible show Code.wp _ (Code.region 6 _ true) _ _ _); refine wp_region_plan [(0, 0, []), (1, 1, []), (2, 1, []), (3, 0, []), (4, 1, []), (5, 1, []), (6, 1, []), (7, 1, []), (8, 1, []), (9, 1, []), (10, 0, [])] (by kernel_rfl) (by kernel_rfl) (by kernel_rfl) ?_))
    go_ret
    exact ⟨⟨true, ret_bool (by simp), .inr ⟨HV.out, K, HQ.out.1, fun _ => HA.out, fun _ => rfl⟩⟩, HB7.out⟩
  · have HA := Lib.hid (show ¬ agr (bothL la lb) K 0 la.length from fun e => hxy (HQ.out.2.2 e))
    have hxb : ((x : Int) == (y : Int)) = false := by simp; omega
    go_wp2_with (first | ((with_reducible show wpPlan _ _ _ _ _ (Act.put _ _ _) _); simp only [List.getElem_toArray, List.getElem_cons_succ, List.getElem_cons_zero, Act.put, List.setIfInBounds_toArray, List.set_cons_zero, List.set_cons_succ]) | ((with_reducible show wpPlan _ _ _ _ _ _ _); first | refine wpPlan_nil ?_ | (refine wpPlan_read0 rfl ?hw rfl (fun _ _ _ => ?_); case hw => ((conv => (lhs; whnf)); first | done | with_reducible rfl)) | (refine wpPlan_read1d rfl ?hw rfl rfl (fun _ _ _ => ?_); case hw => ((conv => (lhs; whnf)); first | done | with_reducible rfl)) | (refine wpPlan_eff rfl ?hw (fun _ _ => ?_); case hw => ((conv => (lhs; whnf)); first | done | with_reducible rfl)) | (refine wpPlan_skip0 rfl ?hw ?_; case hw => ((conv => (lhs; whnf)); first | done | with_reducible rfl)) | (refine wpPlan_skip1d rfl ?hw ?_; case hw => ((conv => (lhs; whnf)); first | done | with_reducible rfl)) | (refine wpPlan_skip2 rfl ?hw ?_; case hw => ((conv => (lhs; whnf)); first | done | with_reducible rfl)) | (refine wpPlan_read1 rfl ?hw rfl (fun _ _ _ => ?_); case hw => ((conv => (lhs; whnf)); first | done | with_reducible rfl)) | refine wpPlan_fork ?_ ?_) | ((with_reducible show Owed _ _ _ _ _ _ _ _ _); first | refine Owed.none_ ?_ | refine Owed.nil_ ?_ | refine Owed.miss rfl ?_ | refine Owed.hit ?_ ?_) | ((with_reducible show Same _ _ _ _ _); intro _; go_simp; done) | (with_reducible exact True.intro) | ((with_reducible show Code.wp _ (Code.region 4 _ true) _ _ _); refine wp_region_plan [(0, 1, []), (1, 1, []), (2, 1, []), (3, 1, []), (4, 1, []), (5, 2, [0, 1]), (6, 2, []), (7, 0, [])] (by kernel_rfl) (by kernel_rfl) (by kernel_rfl) ?_) | ((with_reducible show Code.wp _ (Code.region 6 _ true) _ _ _); refine wp_region_plan [(0, 0, []), (1, 1, []), (2, 1, []), (3, 0, []), (4, 1, []), (5, 1, []), (6, 1, []), (7, 1, []), (8, 1, []), (9, 1, []), (10, 0, [])] (by kernel_rfl) (by kernel_rfl) (by kernel_rfl) ?_))
    go_ret
    exact ⟨⟨false, ret_bool (by simp), .inr ⟨HV.out, K, HQ.out.1, fun e => (by cases e), fun e => absurd e HA.out⟩⟩, HB7.out⟩

end Go.Proofs.Ytmciinikfjfegaa
