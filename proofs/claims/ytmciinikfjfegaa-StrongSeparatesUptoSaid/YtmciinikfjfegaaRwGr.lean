/- systems that are drawn: LTS with its rows' block, Chain -/
import Derived.Test.YtmciinikfjfegaaRwG2
namespace Go.Proofs.Ytmciinikfjfegaa
open Go Go.RowKit
set_option maxHeartbeats 8000000

def GenPostR (w : World) (B b : Nat) (A : Option Addr) (n c i : Nat) (zs : List Int) (N : Nat) (e : Ending) (w' : World) : Prop :=
  (∃ (g : Nat) (cs : Array Value) (cnt m : Nat), e = .returned (lts (some ⟨g, 0, none⟩) m m) ∧ RowsAt w' g cs m cnt ∧ 1 ≤ m ∧ m ≤ N ∧ cnt ≤ 3 * N ∧ w.heap.size < g) ∧ (∃ j, j ≤ i + 400 ∧ TpAt w' B b A n c zs j) ∧ Outside (fun k => k = b) w w'

set_option maxRecDepth 100000 in
theorem ltsGenR_any (B b : Nat) (A : Option Addr) (n c i : Nat) (zs : List Int) (N : Nat) (w : World) (h : TpAt w B b A n c zs i) (hn : n ≤ 1000000000000) (hi : i ≤ 100000000) (hN1 : 1 ≤ N) (hN2 : N ≤ 40) :
    Calls Try.prog 14 #[.pointer (some ⟨b, 0, none⟩), .int .i64 N] w (GenPostR w B b A n c i zs N) := by
  have HT0 := Lib.hid (h.alloc (.cells #[.slice none 0 0] 27))
  have HO0 := Lib.hid ((Outside.refl (fun k => k = b) w).alloc (.cells #[.slice none 0 0] 27))
  have HR0 := Lib.hid (Blk.new w 27 #[.slice none 0 0])
  have hbw : b < w.heap.size := h.blk.lt
  clear h
  obtain ⟨i0, hi0, hz0, hz1, hz2⟩ := info_parts infoRow
  go_enter Try.func14, Try.ntmps14
  go_wp2_with fail
  refine (tnext_any B b A n c i zs N _ HT0.out hn (by omega) (by omega) (by omega)).mono ?_
  rintro e w1 ⟨⟨r0, rfl, hr0, hr1⟩, hT1, hO1⟩
  obtain ⟨mm, hmm⟩ : ∃ mm : Nat, 1 + r0 = mm := ⟨(1 + r0).toNat, by omega⟩
  have HM := Lib.hid hmm
  have hm1 : 1 ≤ mm := by omega
  have hm2 : mm ≤ N := by omega
  have hr2 : r0 ≤ 39 := by omega
  have HOO := Lib.hid (HO0.out.trans hO1)
  have HT1 := Lib.hid hT1
  have HR1 := Lib.hid (HR0.out.out hO1 (by omega))
  have hw1 : w.heap.size < w1.heap.size := by have := hO1.size; simp at this; omega
  clear hT1 hO1 hmm hr1
  go_wp2_with (at_make; refine wpList_makeC _ rfl _ _ 25 rfl 24 i0 (.slice none 0 0) Try.underlying25 hi0 hz0 hz1 _ _ mm _ rfl rfl HM.out (by rw [hz2]; omega) (by omega) ?_)
  have hX : ∀ (O1 O2 : Obj), RowsAt ((w1.alloc (.cells (madeCells #[Value.slice none 0 0] mm) 24)).alloc O2) w1.heap.size (List.replicate mm (Value.slice none 0 0)).toArray mm 0 := fun O1 O2 => by
    refine ⟨?_, by simp, fun j v hv => ?_⟩
    · rw [← made_rows mm]
      exact (Blk.new w1 _ _).alloc _
    · have : v = .slice none 0 0 := by
        have h1 : (List.replicate mm (Value.slice none 0 0))[j]? = some v := by
          rw [← List.getElem?_toArray]
          exact hv
        exact (List.mem_replicate.1 (List.mem_of_getElem? h1)).2
      exact ⟨none, 0, 0, [], this, Nat.le_refl _, Nat.le_refl _, Rd.nil, GoodR.nil _⟩
  have HX := Lib.hid (hX (.cells #[] 0) (.cells #[.slice (some ⟨w1.heap.size, 0, none⟩) mm mm] 27))
  have HLx := Lib.hid (show Blk ((w1.alloc (.cells (madeCells #[Value.slice none 0 0] mm) 24)).alloc (.cells #[.slice (some ⟨w1.heap.size, 0, none⟩) mm mm] 27)) (w1.heap.size + 1) 27 #[.slice (some ⟨w1.heap.size, 0, none⟩) mm mm] from heap_alloc_at (by simp))
  have HR2 := Lib.hid ((HR1.out.alloc (.cells (madeCells #[Value.slice none 0 0] mm) 24)).alloc (.cells #[.slice (some ⟨w1.heap.size, 0, none⟩) mm mm] 27))
  have HT2 := Lib.hid ((HT1.out.alloc (.cells (madeCells #[Value.slice none 0 0] mm) 24)).alloc (.cells #[.slice (some ⟨w1.heap.size, 0, none⟩) mm mm] 27))
  have HO2 := Lib.hid ((HOO.out.alloc (.cells (madeCells #[Value.slice none 0 0] mm) 24)).alloc (.cells #[.slice (some ⟨w1.heap.size, 0, none⟩) mm mm] 27))
  clear hX
  go_wp2_with fail
  go_loopw [6] (fun vs wr => ∃ (s cnt j : Nat) (cs : Array Value), s ≤ mm ∧ vs = .int .i64 s ∧ cnt ≤ 3 * s ∧ j ≤ i + 1 + 7 * s ∧
    Hid (RowsAt wr w1.heap.size cs mm cnt ∧ Blk wr (w1.heap.size + 1) 27 #[.slice (some ⟨w1.heap.size, 0, none⟩) mm mm] ∧ Blk wr w.heap.size 27 #[.slice none 0 0] ∧ TpAt wr B b A n c zs j ∧ Outside (fun k => k = b) w wr)) (fun vs _ => mm - (intOf vs).toNat)
  case atStart => exact ⟨0, 0, i + 1, _, Nat.zero_le _, rfl, by omega, by omega, Lib.hid ⟨HX.out, HLx.out, HR2.out, HT2.out, HO2.out⟩⟩
  case round =>
    obtain ⟨s, cnt, j, cs, hs, rfl, hcnt, hj, HW⟩ := hrel
    have hLc := HW.out.2.1.cell
    have hLl := HW.out.2.1.lt
    have hgl := HW.out.1.blk.lt
    by_cases hlt : s < mm
    · go_wp2_with fail
      refine (tnext_any B b A n c j zs 4 _ HW.out.2.2.2.1 hn (by omega) (by decide) (by decide)).mono ?_
      rintro e w2 ⟨⟨r, rfl, hr0', hr1'⟩, hT2, hO2⟩
      obtain ⟨q0, rfl⟩ : ∃ q : Nat, r = q := ⟨r.toNat, by omega⟩
      have HW2 := Lib.hid (And.intro (HW.out.1.out HW.out.2.2.2.1.noTwo (by omega) hO2) (And.intro (HW.out.2.1.out hO2 (by omega)) (And.intro (HW.out.2.2.1.out hO2 (by omega)) (And.intro hT2 (HW.out.2.2.2.2.trans hO2)))))
      clear hT2 hO2 hLc hLl
      go_wp2_with fail
      go_loopw [7] (fun vi wr => ∃ (q cnt' j' : Nat) (cs' : Array Value), q ≤ 3 ∧ vi = .int .i64 q ∧ cnt' + q ≤ 3 * s + 3 ∧ j' + 2 * q ≤ i + 8 + 7 * s ∧
        Hid (RowsAt wr w1.heap.size cs' mm cnt' ∧ Blk wr (w1.heap.size + 1) 27 #[.slice (some ⟨w1.heap.size, 0, none⟩) mm mm] ∧ Blk wr w.heap.size 27 #[.slice none 0 0] ∧ TpAt wr B b A n c zs j' ∧ Outside (fun k => k = b) w wr)) (fun vi _ => (intOf vi).toNat)
      case atStart => exact ⟨q0, cnt, j + 1, cs, by omega, rfl, by omega, by omega, HW2⟩
      case round =>
        obtain ⟨q, cnt', j', cs', hq, rfl, hcnt', hj', HV⟩ := hrel
        by_cases hq0 : 0 < q
        · have hLc := HV.out.2.1.cell
          have hLl := HV.out.2.1.lt
          have hgl2 := HV.out.1.blk.lt
          obtain ⟨A1, n1, c1, l1, e1, hnc1, hn1, hR1, hG1⟩ := HV.out.1.get hlt
          go_wp2_with (first | ((with_reducible show wpPlan _ _ _ _ _ (Act.put _ _ _) _); simp only [List.getElem_toArray, List.getElem_cons_succ, List.getElem_cons_zero, Act.put, List.setIfInBounds_toArray, List.set_cons_zero, List.set_cons_succ]) | ((with_reducible show wpPlan _ _ _ _ _ _ _); first | refine wpPlan_nil ?_ | (refine wpPlan_read0 rfl ?hw rfl (fun _ _ _ => ?_); case hw => ((conv => (lhs; whnf)); first | done | with_reducible rfl)) | (refine wpPlan_read1d rfl ?hw rfl rfl (fun _ _ _ => ?_); case hw => ((conv => (lhs; whnf)); first | done | with_reducible rfl)) | (refine wpPlan_eff rfl ?hw (fun _ _ => ?_); case hw => ((conv => (lhs; whnf)); first | done | with_reducible rfl)) | (refine wpPlan_skip0 rfl ?hw ?_; case hw => ((conv => (lhs; whnf)); first | done | with_reducible rfl)) | (refine wpPlan_skip1d rfl ?hw ?_; case hw => ((conv => (lhs; whnf)); first | done | with_reducible rfl)) | (refine wpPlan_skip2 rfl ?hw ?_; case hw => ((conv => (lhs; whnf)); first | done | with_reducible rfl)) | (refine wpPlan_read1 rfl ?hw rfl (fun _ _ _ => ?_); case hw => ((conv => (lhs; whnf)); first | done | with_reducible rfl)) | refine wpPlan_fork ?_ ?_) | ((with_reducible show Owed _ _ _ _ _ _ _ _ _); first | refine Owed.none_ ?_ | refine Owed.nil_ ?_ | refine Owed.miss rfl ?_ | refine Owed.hit ?_ ?_) | ((with_reducible show Same _ _ _ _ _); intro _; go_simp; done) | (with_reducible exact True.intro) | ((with_reducible show Code.wp _ (Code.region 8 _ true) _ _ _); refine wp_region_plan [(0, 1, []), (1, 1, []), (2, 0, []), (3, 1, []), (4, 1, []), (5, 0, []), (6, 1, []), (7, 1, []), (8, 0, []), (10, 0, []), (11, 1, []), (12, 1, []), (13, 1, []), (9, 2, [0, 1, 3, 4, 6, 7, 11, 12, 13]), (14, 2, [0, 1, 3, 4, 6, 7]), (15, 1, []), (16, 2, [0, 1]), (17, 1, []), (18, 2, [])] (by kernel_rfl) (by kernel_rfl) (by kernel_rfl) ?_))
          refine (event_any B b A n c j' zs _ HV.out.2.2.2.1.drew hn (by omega)).mono ?_
          rintro e w3 ⟨⟨re, rfl, hre0, hre1⟩, hT3, hO3⟩
          have hO3 : Outside (fun k => k = b) wr w3 := (Outside.refl _ wr).drew.trans hO3
          have HW3 := Lib.hid (And.intro (HV.out.1.out HV.out.2.2.2.1.noTwo (by omega) hO3) (And.intro (HV.out.2.1.out hO3 (by omega)) (And.intro (HV.out.2.2.1.out hO3 (by omega)) (And.intro hT3 (HV.out.2.2.2.2.trans hO3)))))
          have HR3 := Lib.hid ((hR1.arcOut HV.out.2.2.2.1.noTwo hO3 (Nat.le_refl _)).more hO3.size)
          have e3 := hO3.cell e1 (by dsimp only; omega)
          have h3c := HW3.out.2.1.cell
          have h3l := HW3.out.2.1.lt
          have hg3 := HW3.out.1.blk.lt
          clear hT3 hO3 hR1
          go_wp2_with (first | ((with_reducible show wpPlan _ _ _ _ _ (Act.put _ _ _) _); simp only [List.getElem_toArray, List.getElem_cons_succ, List.getElem_cons_zero, Act.put, List.setIfInBounds_toArray, List.set_cons_zero, List.set_cons_succ]) | ((with_reducible show wpPlan _ _ _ _ _ _ _); first | refine wpPlan_nil ?_ | (refine wpPlan_read0 rfl ?hw rfl (fun _ _ _ => ?_); case hw => ((conv => (lhs; whnf)); first | done | with_reducible rfl)) | (refine wpPlan_read1d rfl ?hw rfl rfl (fun _ _ _ => ?_); case hw => ((conv => (lhs; whnf)); first | done | with_reducible rfl)) | (refine wpPlan_eff rfl ?hw (fun _ _ => ?_); case hw => ((conv => (lhs; whnf)); first | done | with_reducible rfl)) | (refine wpPlan_skip0 rfl ?hw ?_; case hw => ((conv => (lhs; whnf)); first | done | with_reducible rfl)) | (refine wpPlan_skip1d rfl ?hw ?_; case hw => ((conv => (lhs; whnf)); first | done | with_reducible rfl)) | (refine wpPlan_skip2 rfl ?hw ?_; case hw => ((conv => (lhs; whnf)); first | done | with_reducible rfl)) | (refine wpPlan_read1 rfl ?hw rfl (fun _ _ _ => ?_); case hw => ((conv => (lhs; whnf)); first | done | with_reducible rfl)) | refine wpPlan_fork ?_ ?_) | ((with_reducible show Owed _ _ _ _ _ _ _ _ _); first | refine Owed.none_ ?_ | refine Owed.nil_ ?_ | refine Owed.miss rfl ?_ | refine Owed.hit ?_ ?_) | ((with_reducible show Same _ _ _ _ _); intro _; go_simp; done) | (with_reducible exact True.intro) | ((with_reducible show Code.wp _ (Code.region 8 _ true) _ _ _); refine wp_region_plan [(0, 1, []), (1, 1, []), (2, 0, []), (3, 1, []), (4, 1, []), (5, 0, []), (6, 1, []), (7, 1, []), (8, 0, []), (10, 0, []), (11, 1, []), (12, 1, []), (13, 1, []), (9, 2, [0, 1, 3, 4, 6, 7, 11, 12, 13]), (14, 2, [0, 1, 3, 4, 6, 7]), (15, 1, []), (16, 2, [0, 1]), (17, 1, []), (18, 2, [])] (by kernel_rfl) (by kernel_rfl) (by kernel_rfl) ?_))
          refine (tnext_any B b A n c (j' + 1) zs mm _ HW3.out.2.2.2.1 hn (by omega) (by omega) (by omega)).mono ?_
          rintro e w4 ⟨⟨rn, rfl, hrn0, hrn1⟩, hT4, hO4⟩
          have HW4 := Lib.hid (And.intro (HW3.out.1.out HW3.out.2.2.2.1.noTwo (by omega) hO4) (And.intro (HW3.out.2.1.out hO4 (by omega)) (And.intro (HW3.out.2.2.1.out hO4 (by omega)) (And.intro hT4 (HW3.out.2.2.2.2.trans hO4)))))
          have HR4 := Lib.hid ((HR3.out.arcOut HW3.out.2.2.2.1.noTwo hO4 (Nat.le_refl _)).more hO4.size)
          have e4 := hO4.cell e3 (by dsimp only; omega)
          have h4c := HW4.out.2.1.cell
          have h4l := HW4.out.2.1.lt
          have hg4 := HW4.out.1.blk.lt
          clear hT4 hO4
          go_wp2_with (first | ((with_reducible show wpPlan _ _ _ _ _ (Act.put _ _ _) _); simp only [List.getElem_toArray, List.getElem_cons_succ, List.getElem_cons_zero, Act.put, List.setIfInBounds_toArray, List.set_cons_zero, List.set_cons_succ]) | ((with_reducible show wpPlan _ _ _ _ _ _ _); first | refine wpPlan_nil ?_ | (refine wpPlan_read0 rfl ?hw rfl (fun _ _ _ => ?_); case hw => ((conv => (lhs; whnf)); first | done | with_reducible rfl)) | (refine wpPlan_read1d rfl ?hw rfl rfl (fun _ _ _ => ?_); case hw => ((conv => (lhs; whnf)); first | done | with_reducible rfl)) | (refine wpPlan_eff rfl ?hw (fun _ _ => ?_); case hw => ((conv => (lhs; whnf)); first | done | with_reducible rfl)) | (refine wpPlan_skip0 rfl ?hw ?_; case hw => ((conv => (lhs; whnf)); first | done | with_reducible rfl)) | (refine wpPlan_skip1d rfl ?hw ?_; case hw => ((conv => (lhs; whnf)); first | done | with_reducible rfl)) | (refine wpPlan_skip2 rfl ?hw ?_; case hw => ((conv => (lhs; whnf)); first | done | with_reducible rfl)) | (refine wpPlan_read1 rfl ?hw rfl (fun _ _ _ => ?_); case hw => ((conv => (lhs; whnf)); first | done | with_reducible rfl)) | refine wpPlan_fork ?_ ?_) | ((with_reducible show Owed _ _ _ _ _ _ _ _ _); first | refine Owed.none_ ?_ | refine Owed.nil_ ?_ | refine Owed.miss rfl ?_ | refine Owed.hit ?_ ?_) | ((with_reducible show Same _ _ _ _ _); intro _; go_simp; done) | (with_reducible exact True.intro) | ((with_reducible show Code.wp _ (Code.region 8 _ true) _ _ _); refine wp_region_plan [(0, 1, []), (1, 1, []), (2, 0, []), (3, 1, []), (4, 1, []), (5, 0, []), (6, 1, []), (7, 1, []), (8, 0, []), (10, 0, []), (11, 1, []), (12, 1, []), (13, 1, []), (9, 2, [0, 1, 3, 4, 6, 7, 11, 12, 13]), (14, 2, [0, 1, 3, 4, 6, 7]), (15, 1, []), (16, 2, [0, 1]), (17, 1, []), (18, 2, [])] (by kernel_rfl) (by kernel_rfl) (by kernel_rfl) ?_))
          refine (insertA_any A1 n1 c1 w4.heap.size l1 ⟨re, rn⟩ _ HR4.out (Nat.le_refl _) hnc1 (by omega)).mono ?_
          rintro e w5 ⟨⟨A5, n5, c5, l5, rfl, hnc5, hR5, hI5⟩, hb5⟩
          have hn5 : n5 ≤ cnt' + 1 := by
            have h1 := hI5.len
            have h2 := hR5.len Arc.cells_len (by decide)
            have h3 := HR4.out.len Arc.cells_len (by decide)
            omega
          have HW5 := Lib.hid (And.intro ((HW4.out.1.below hb5).mono (Nat.le_succ _)) (And.intro (HW4.out.2.1.below hb5 HW4.out.2.1.lt) (And.intro (HW4.out.2.2.1.below hb5 HW4.out.2.2.1.lt) (And.intro (HW4.out.2.2.2.1.below hb5) (HW4.out.2.2.2.2.trans (Below.new hb5 |>.mono fun k _ h => h.elim))))))
          have h5c := HW5.out.2.1.cell
          have h5l := HW5.out.2.1.lt
          have hg5 := HW5.out.1.blk.lt
          have hf5 := HW5.out.1.blk.frozen s
          have e5 := (hb5.cell (p := ⟨w1.heap.size, s, none⟩) (by dsimp only; omega)).trans e4
          have hOp : Outside (fun k => k = w1.heap.size) w5 (w5.setCell ⟨w1.heap.size, s, none⟩ (.slice A5 n5 c5)) := (Outside.refl (fun k => k = w1.heap.size) w5).setCell (p := ⟨w1.heap.size, s, none⟩) (.inl rfl) _
          have HZ := Lib.hid (And.intro (HW5.out.1.put (i := s) hnc5 hn5 hR5 (hI5.good hG1 (okA_of hre0 (by omega) hrn0 (by omega)))) (And.intro (HW5.out.2.1.out hOp (by omega)) (And.intro (HW5.out.2.2.1.out hOp (by omega)) (And.intro (HW5.out.2.2.2.1.out hOp (by omega) (fun k hk e => by have := HT0.out.lo; omega)) (HW5.out.2.2.2.2.setCell (p := ⟨w1.heap.size, s, none⟩) (.inr (by dsimp only; omega)) (.slice A5 n5 c5))))))
          clear hb5 hR5 hI5 hOp e3 e4 h3c h3l h4c h4l
          go_wp2_with (first | ((with_reducible show wpPlan _ _ _ _ _ (Act.put _ _ _) _); simp only [List.getElem_toArray, List.getElem_cons_succ, List.getElem_cons_zero, Act.put, List.setIfInBounds_toArray, List.set_cons_zero, List.set_cons_succ]) | ((with_reducible show wpPlan _ _ _ _ _ _ _); first | refine wpPlan_nil ?_ | (refine wpPlan_read0 rfl ?hw rfl (fun _ _ _ => ?_); case hw => ((conv => (lhs; whnf)); first | done | with_reducible rfl)) | (refine wpPlan_read1d rfl ?hw rfl rfl (fun _ _ _ => ?_); case hw => ((conv => (lhs; whnf)); first | done | with_reducible rfl)) | (refine wpPlan_eff rfl ?hw (fun _ _ => ?_); case hw => ((conv => (lhs; whnf)); first | done | with_reducible rfl)) | (refine wpPlan_skip0 rfl ?hw ?_; case hw => ((conv => (lhs; whnf)); first | done | with_reducible rfl)) | (refine wpPlan_skip1d rfl ?hw ?_; case hw => ((conv => (lhs; whnf)); first | done | with_reducible rfl)) | (refine wpPlan_skip2 rfl ?hw ?_; case hw => ((conv => (lhs; whnf)); first | done | with_reducible rfl)) | (refine wpPlan_read1 rfl ?hw rfl (fun _ _ _ => ?_); case hw => ((conv => (lhs; whnf)); first | done | with_reducible rfl)) | refine wpPlan_fork ?_ ?_) | ((with_reducible show Owed _ _ _ _ _ _ _ _ _); first | refine Owed.none_ ?_ | refine Owed.nil_ ?_ | refine Owed.miss rfl ?_ | refine Owed.hit ?_ ?_) | ((with_reducible show Same _ _ _ _ _); intro _; go_simp; done) | (with_reducible exact True.intro) | ((with_reducible show Code.wp _ (Code.region 8 _ true) _ _ _); refine wp_region_plan [(0, 1, []), (1, 1, []), (2, 0, []), (3, 1, []), (4, 1, []), (5, 0, []), (6, 1, []), (7, 1, []), (8, 0, []), (10, 0, []), (11, 1, []), (12, 1, []), (13, 1, []), (9, 2, [0, 1, 3, 4, 6, 7, 11, 12, 13]), (14, 2, [0, 1, 3, 4, 6, 7]), (15, 1, []), (16, 2, [0, 1]), (17, 1, []), (18, 2, [])] (by kernel_rfl) (by kernel_rfl) (by kernel_rfl) ?_))
          go_roundw
          case rel => exact ⟨q - 1, cnt' + 1, j' + 2, _, by omega, by go_num, by omega, by omega, HZ⟩
          case measure => simp [intOf]; omega
        · have hq1 : q = 0 := by omega
          subst hq1
          go_wp2_with fail
          go_roundw
          case rel => exact ⟨s + 1, cnt', j', cs', by omega, by go_num, by omega, by omega, HV⟩
          case measure => simp [intOf]; omega
    · have hsm : s = mm := by omega
      have hRc := HW.out.2.2.1.cell
      have hRl := HW.out.2.2.1.lt
      have hRf := HW.out.2.2.1.frozen
      have hOp : Outside (fun k => k = w.heap.size) wr (wr.setCell ⟨w.heap.size, 0, none⟩ (.slice (some ⟨w1.heap.size, 0, none⟩) mm mm)) := (Outside.refl (fun k => k = w.heap.size) wr).setCell (p := ⟨w.heap.size, 0, none⟩) (.inl rfl) _
      have hNr : NoTwo wr w.heap.size := fun j k x k' y h1 _ => by
        rw [HW.out.2.2.1.cell] at h1
        match j with
        | 0 => simp at h1
        | j + 1 => simp at h1
      have HZ := Lib.hid (And.intro (HW.out.1.out hNr (by omega) hOp) (And.intro (HW.out.2.2.2.1.out hOp (by omega) (fun k hk e => by have := HT0.out.lo; omega)) (HW.out.2.2.2.2.setCell (p := ⟨w.heap.size, 0, none⟩) (.inr (Nat.le_refl _)) (.slice (some ⟨w1.heap.size, 0, none⟩) mm mm))))
      have hput := (HW.out.2.2.1.put 0 (.slice (some ⟨w1.heap.size, 0, none⟩) mm mm)).cell 0
      clear hOp hNr
      go_wp2_with fail
      refine bodyPost_ret (v := lts (some ⟨w1.heap.size, 0, none⟩) mm mm) (by simp [results, Try.results14, go_sem, hput]) rfl ?_
      exact ⟨⟨w1.heap.size, cs, cnt, mm, rfl, HZ.out.1, hm1, hm2, by omega, hw1⟩, ⟨j, by omega, HZ.out.2.1⟩, HZ.out.2.2⟩

end Go.Proofs.Ytmciinikfjfegaa
