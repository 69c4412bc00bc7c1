/- one packed row: the reference's -/
import Derived.Test.YtonpdclccgpceaaRwR
namespace Go.Proofs.Ytonpdclccgpceaa
open Go Go.RowKit
set_option maxHeartbeats 4000000

theorem fresh_post {W : Nat} {w0 w' : World} {v v' : Value} (hv : ∀ g, v.ownBlock = some g → W ≤ g) (hW : W ≤ w0.heap.size) (hO : Outside (fun k => v.ownBlock = some k) w0 w') (hF : From w0 v v') : Below W w0 w' ∧ ∀ g, v'.ownBlock = some g → W ≤ g := by
  refine ⟨hO.below hW fun k hk e => by have := hv k e; omega, fun g hg => ?_⟩
  rcases hF with h | ⟨g', h, h1⟩
  · exact hv g (h.symm.trans hg)
  · have : g' = g := by simpa using h.symm.trans hg
    omega
/-- what a function gives that makes bytes of its own -/
def NewPost (w : World) (l : List Nat) (e : Ending) (w' : World) : Prop := ∃ v', e = .returned v' ∧ Own w' v' l ∧ Below w.heap.size w w' ∧ ∀ g, v'.ownBlock = some g → w.heap.size ≤ g

theorem Own.drew {w : World} {v : Value} {l : List Nat} (h : Own w v l) : Own w.drew v l := h.out ((Outside.refl (fun _ => False) w).drew) (fun _ _ h => h)
theorem ruvarint0_any (v : Value) (l : List Nat) (w : World) (h : Own w v l) (hl : l.length ≤ 1000000000) : Calls Try.prog 50 #[v, .int .i64 0] w (AppPost w v l (uv 0)) := ruvarint_any v l 0 w h (by decide) hl

set_option maxRecDepth 100000 in
theorem rrow_any (A : Option Addr) (n c B : Nat) (ls : List (List Arc)) (s : Nat) (ar : List Arc) (w : World) (h : RdL w B A n ls) (hB : B ≤ w.heap.size) (hs : ls[s]? = some ar)
    (hok : ∀ a ∈ ar, okR a) (hasc : ascB ar = true) (hs1 : s ≤ 16384) (hn : ar.length ≤ 1000000) :
    Calls Try.prog 51 #[lts A n c, .int .i64 s] w (NewPost w (rowF s ar)) := by
  have hsn : s < n := by
    have h1 := (List.getElem?_eq_some_iff.1 hs).1
    rw [h.len] at h1
    exact h1
  obtain ⟨b0, o0, l0, A', m, c', rfl, hb0, hl0, hlm, e0, hR⟩ := (h.alloc hB (.cells #[.slice A n c] 25)).row hsn
  obtain rfl : ar = l0 := by
    rw [hs] at hl0
    injection hl0
  have H := Lib.hid hR
  have HN := Lib.hid hlm
  have HOK := Lib.hid hok
  have HASC := Lib.hid hasc
  have HB0 := Lib.hid ((Below.refl w.heap.size w).alloc (Nat.le_refl _) (.cells #[.slice (some ⟨b0, o0, none⟩) n c] 25))
  have hm : m ≤ 1000000 := by omega
  have hb0l : b0 < w.heap.size := by omega
  clear h hR hl0 hok hasc hs hn hlm
  go_enter Try.func51, Try.ntmps51
  go_wp2_with fail
  refine (ruvarint_any (.slice none 0 0) [] m _ (Own.nil _) (by omega) (by simp)).mono ?_
  rintro e w1 ⟨v1, rfl, ho1, hO1, hF1⟩
  obtain ⟨hb1, hf1⟩ := fresh_post (W := w.heap.size) (fun g hg => by simp [Value.ownBlock] at hg) (by simp) hO1 hF1
  have HB1 := Lib.hid (HB0.out.trans hb1)
  have HF1 := Lib.hid hf1
  have hlu := uv_le m (by omega)
  rw [List.nil_append] at ho1
  obtain ⟨l1, hl1⟩ : ∃ l1, uv m = l1 := ⟨_, rfl⟩
  rw [hl1] at ho1 hlu
  have HL1 := Lib.hid hl1
  have HO1 := Lib.hid ho1
  obtain ⟨A1, c1, rfl, _, _⟩ := ho1.form
  clear ho1 hO1 hF1 hb1 hf1 hl1 e0
  go_wp2_with fail
  go_loopw [6, 7] (fun vb vk wr => ∃ (k : Nat) (l' : List Nat), k ≤ m ∧ vk = .int .i64 k ∧ l'.length ≤ 9 + 18 * k ∧ Hid (l' = uv m ++ rowB s none (ar.take k)) ∧ Hid (Own wr vb l' ∧ (∀ g, vb.ownBlock = some g → w.heap.size ≤ g) ∧ Below w.heap.size w wr)) (fun _ vk _ => m - (intOf vk).toNat)
  case atStart => exact ⟨0, l1, Nat.zero_le _, rfl, by omega, Lib.hid (by rw [← HL1.out]; simp [rowB]), Lib.hid ⟨HO1.out, HF1.out, HB1.out⟩⟩
  case round =>
    obtain ⟨k, l', hk, rfl, hl', HE, HW⟩ := hrel
    obtain ⟨Ao, capo, rfl, hcap, _⟩ := HW.out.1.form
    by_cases hlt : k < m
    · have HRW := Lib.hid (H.out.keep (w' := wr) (fun p hp => (HW.out.2.2.cell (by omega)).trans (World.cell?_alloc_lt w _ p (by omega)).symm))
      obtain ⟨b2, o2, a, rfl, hb2, ha, c0, d0⟩ := HRW.out.arc hlt
      obtain ⟨ae, at_⟩ := a
      obtain ⟨q1, q2, q3, q4⟩ := HOK.out _ (List.mem_of_getElem? ha)
      dsimp only at q1 q2 q3 q4 c0 d0
      have HA := Lib.hid ha
      have HNX := Lib.hid (rowB_next (s : Int) ha)
      have hb2l : b2 < wr.heap.size := by have := HW.out.2.2.size; omega
      have hds := HW.out.2.2.size
      have HDS := Lib.hid hds
      clear hds
      have HCC := Lib.hid (fun (j : Nat) (u : Value) (w5 : World) (hc : wr.cell? ⟨b2, j, none⟩ = some u) (hb : Below w.heap.size wr w5) => (hb.cell (p := ⟨b2, j, none⟩) (by dsimp only; omega)).trans hc)
      by_cases hk0 : k = 0
      · subst hk0
        obtain ⟨x, hx⟩ : ∃ x : Nat, ae = x := ⟨ae.toNat, by omega⟩
        subst hx
        have HNB := Lib.hid (show rowB s none (ar.take (0 + 1)) = rowB s none (ar.take 0) ++ (uv x ++ zz (at_ - s)) by
          rw [HNX.out, if_pos rfl]
          rfl)
        have hum := uv_le x (by omega)
        have huz := zz_le (at_ - s) (by omega)
        (try simp only [Nat.zero_mul, Nat.add_zero] at c0 d0)
        go_wp2_with (first | ((with_reducible show wpPlan _ _ _ [] _ _ _); refine wpPlan_nil ?_) | ((with_reducible show wpPlan _ _ _ ((_, 0, _) :: _) _ _ _); first | (refine wpPlan_read0 rfl ?hw rfl (fun _ _ _ => ?_); case hw => ((conv => (lhs; whnf)); first | done | with_reducible rfl)) | (refine wpPlan_skip0 rfl ?hw ?_; (case hw => ((conv => (lhs; whnf)); first | done | with_reducible rfl)); (try simp only [List.getElem_toArray, List.getElem_cons_succ, List.getElem_cons_zero, Act.put, List.setIfInBounds_toArray, List.set_cons_zero, List.set_cons_succ]))) | ((with_reducible show wpPlan _ _ _ ((_, 1, _) :: _) _ _ _); first | (refine wpPlan_read1d rfl ?hw rfl rfl (fun _ _ _ => ?_); case hw => ((conv => (lhs; whnf)); first | done | with_reducible rfl)) | (refine wpPlan_skip1d rfl ?hw ?_; (case hw => ((conv => (lhs; whnf)); first | done | with_reducible rfl)); (try simp only [List.getElem_toArray, List.getElem_cons_succ, List.getElem_cons_zero, Act.put, List.setIfInBounds_toArray, List.set_cons_zero, List.set_cons_succ])) | (refine wpPlan_read1 rfl ?hw rfl (fun _ _ _ => ?_); case hw => ((conv => (lhs; whnf)); first | done | with_reducible rfl))) | ((with_reducible show wpPlan _ _ _ ((_, 2, _) :: _) _ _ _); first | (refine wpPlan_eff rfl ?hw (fun _ _ => ?_); case hw => ((conv => (lhs; whnf)); first | done | with_reducible rfl)) | (refine wpPlan_skip2 rfl ?hw ?_; (case hw => ((conv => (lhs; whnf)); first | done | with_reducible rfl)); (try simp only [List.getElem_toArray, List.getElem_cons_succ, List.getElem_cons_zero, Act.put, List.setIfInBounds_toArray, List.set_cons_zero, List.set_cons_succ]))) | ((with_reducible show wpPlan _ _ _ _ _ _ _); refine wpPlan_fork ?_ ?_) | ((with_reducible show Owed _ _ _ [] _ _ _ _ _); refine Owed.none_ ?_) | ((with_reducible show Owed _ _ _ _ [] _ _ _ _); refine Owed.nil_ ?_) | ((with_reducible show Owed _ _ _ _ _ _ _ _ _); first | (refine Owed.miss rfl ?_) | (refine Owed.hit ?_ ?_)) | ((with_reducible show Same _ _ _ _ _); intro _; go_simp; done) | (with_reducible exact True.intro) | ((with_reducible show Code.wp _ (Code.region 8 _ true) _ _ _); refine wp_region_plan [(0, 0, []), (1, 0, []), (2, 1, []), (3, 1, []), (4, 1, []), (6, 0, []), (7, 1, []), (8, 1, []), (9, 1, []), (10, 0, []), (11, 1, []), (5, 2, [7, 8, 9, 11]), (12, 2, []), (13, 0, [])] (by kernel_rfl) (by kernel_rfl) (by kernel_rfl) ?_) | ((with_reducible show Code.wp _ (Code.region 9 _ true) _ _ _); refine wp_region_plan [(0, 0, []), (1, 0, []), (2, 1, []), (3, 1, []), (4, 1, []), (5, 0, []), (6, 0, []), (7, 1, []), (8, 1, []), (9, 1, []), (10, 1, []), (11, 1, []), (12, 0, [])] (by kernel_rfl) (by kernel_rfl) (by kernel_rfl) ?_) | ((with_reducible show Code.wp _ (Code.region 10 _ true) _ _ _); refine wp_region_plan [(0, 0, []), (2, 0, []), (3, 0, []), (4, 1, []), (5, 1, []), (6, 1, []), (7, 0, []), (8, 0, []), (9, 1, []), (10, 1, []), (11, 1, []), (12, 1, []), (13, 1, []), (14, 1, []), (1, 2, [4, 5, 6, 9, 10, 11, 12, 13, 14]), (15, 2, []), (16, 0, [])] (by kernel_rfl) (by kernel_rfl) (by kernel_rfl) ?_) | ((with_reducible show Code.wp _ (Code.region 6 _ true) _ _ _); refine wp_region_plan [(0, 0, []), (1, 0, []), (2, 0, []), (3, 1, []), (4, 1, []), (5, 1, []), (6, 0, []), (7, 0, []), (8, 1, []), (9, 1, []), (10, 1, []), (11, 1, []), (12, 1, []), (14, 0, []), (15, 0, []), (16, 1, []), (17, 1, []), (18, 1, []), (19, 0, []), (20, 1, []), (13, 2, [16, 17, 18, 20]), (21, 2, []), (22, 0, [])] (by kernel_rfl) (by kernel_rfl) (by kernel_rfl) ?_))
        refine (ruvarint_any _ l' x _ HW.out.1.drew (by omega) (by omega)).mono ?_
        rintro e w3 ⟨v3, rfl, ho3, hO3, hF3⟩
        have hO3 : Outside (fun k => (Value.slice Ao l'.length capo).ownBlock = some k) wr w3 := (Outside.refl _ wr).drew.trans hO3
        have hF3 : From wr (Value.slice Ao l'.length capo) v3 := hF3
        obtain ⟨hb3, hf3⟩ := fresh_post (W := w.heap.size) HW.out.2.1 HDS.out hO3 hF3
        have HB3 := Lib.hid (HW.out.2.2.trans hb3)
        have HF3 := Lib.hid hf3
        obtain ⟨l3, hl3⟩ : ∃ l3, l' ++ uv x = l3 := ⟨_, rfl⟩
        have hl3n : l3.length ≤ l'.length + 9 := by rw [← hl3, List.length_append]; omega
        rw [hl3] at ho3
        have HL3 := Lib.hid hl3
        have HO3 := Lib.hid ho3
        have c3 := HCC.out _ _ w3 c0 hb3
        have d3 := HCC.out _ _ w3 d0 hb3
        have hb3l : b2 < w3.heap.size := Nat.lt_of_lt_of_le hb2l hb3.size
        obtain ⟨A3, c3', rfl, _, _⟩ := ho3.form
        clear ho3 hO3 hF3 hl3 hb3 hf3 hum
        go_wp2_with (first | ((with_reducible show wpPlan _ _ _ [] _ _ _); refine wpPlan_nil ?_) | ((with_reducible show wpPlan _ _ _ ((_, 0, _) :: _) _ _ _); first | (refine wpPlan_read0 rfl ?hw rfl (fun _ _ _ => ?_); case hw => ((conv => (lhs; whnf)); first | done | with_reducible rfl)) | (refine wpPlan_skip0 rfl ?hw ?_; (case hw => ((conv => (lhs; whnf)); first | done | with_reducible rfl)); (try simp only [List.getElem_toArray, List.getElem_cons_succ, List.getElem_cons_zero, Act.put, List.setIfInBounds_toArray, List.set_cons_zero, List.set_cons_succ]))) | ((with_reducible show wpPlan _ _ _ ((_, 1, _) :: _) _ _ _); first | (refine wpPlan_read1d rfl ?hw rfl rfl (fun _ _ _ => ?_); case hw => ((conv => (lhs; whnf)); first | done | with_reducible rfl)) | (refine wpPlan_skip1d rfl ?hw ?_; (case hw => ((conv => (lhs; whnf)); first | done | with_reducible rfl)); (try simp only [List.getElem_toArray, List.getElem_cons_succ, List.getElem_cons_zero, Act.put, List.setIfInBounds_toArray, List.set_cons_zero, List.set_cons_succ])) | (refine wpPlan_read1 rfl ?hw rfl (fun _ _ _ => ?_); case hw => ((conv => (lhs; whnf)); first | done | with_reducible rfl))) | ((with_reducible show wpPlan _ _ _ ((_, 2, _) :: _) _ _ _); first | (refine wpPlan_eff rfl ?hw (fun _ _ => ?_); case hw => ((conv => (lhs; whnf)); first | done | with_reducible rfl)) | (refine wpPlan_skip2 rfl ?hw ?_; (case hw => ((conv => (lhs; whnf)); first | done | with_reducible rfl)); (try simp only [List.getElem_toArray, List.getElem_cons_succ, List.getElem_cons_zero, Act.put, List.setIfInBounds_toArray, List.set_cons_zero, List.set_cons_succ]))) | ((with_reducible show wpPlan _ _ _ _ _ _ _); refine wpPlan_fork ?_ ?_) | ((with_reducible show Owed _ _ _ [] _ _ _ _ _); refine Owed.none_ ?_) | ((with_reducible show Owed _ _ _ _ [] _ _ _ _); refine Owed.nil_ ?_) | ((with_reducible show Owed _ _ _ _ _ _ _ _ _); first | (refine Owed.miss rfl ?_) | (refine Owed.hit ?_ ?_)) | ((with_reducible show Same _ _ _ _ _); intro _; go_simp; done) | (with_reducible exact True.intro) | ((with_reducible show Code.wp _ (Code.region 8 _ true) _ _ _); refine wp_region_plan [(0, 0, []), (1, 0, []), (2, 1, []), (3, 1, []), (4, 1, []), (6, 0, []), (7, 1, []), (8, 1, []), (9, 1, []), (10, 0, []), (11, 1, []), (5, 2, [7, 8, 9, 11]), (12, 2, []), (13, 0, [])] (by kernel_rfl) (by kernel_rfl) (by kernel_rfl) ?_) | ((with_reducible show Code.wp _ (Code.region 9 _ true) _ _ _); refine wp_region_plan [(0, 0, []), (1, 0, []), (2, 1, []), (3, 1, []), (4, 1, []), (5, 0, []), (6, 0, []), (7, 1, []), (8, 1, []), (9, 1, []), (10, 1, []), (11, 1, []), (12, 0, [])] (by kernel_rfl) (by kernel_rfl) (by kernel_rfl) ?_) | ((with_reducible show Code.wp _ (Code.region 10 _ true) _ _ _); refine wp_region_plan [(0, 0, []), (2, 0, []), (3, 0, []), (4, 1, []), (5, 1, []), (6, 1, []), (7, 0, []), (8, 0, []), (9, 1, []), (10, 1, []), (11, 1, []), (12, 1, []), (13, 1, []), (14, 1, []), (1, 2, [4, 5, 6, 9, 10, 11, 12, 13, 14]), (15, 2, []), (16, 0, [])] (by kernel_rfl) (by kernel_rfl) (by kernel_rfl) ?_) | ((with_reducible show Code.wp _ (Code.region 6 _ true) _ _ _); refine wp_region_plan [(0, 0, []), (1, 0, []), (2, 0, []), (3, 1, []), (4, 1, []), (5, 1, []), (6, 0, []), (7, 0, []), (8, 1, []), (9, 1, []), (10, 1, []), (11, 1, []), (12, 1, []), (14, 0, []), (15, 0, []), (16, 1, []), (17, 1, []), (18, 1, []), (19, 0, []), (20, 1, []), (13, 2, [16, 17, 18, 20]), (21, 2, []), (22, 0, [])] (by kernel_rfl) (by kernel_rfl) (by kernel_rfl) ?_))
        refine (rzigzag_any _ l3 (at_ - s) _ HO3.out (by omega) (by omega)).mono ?_
        rintro e w4 ⟨v4, rfl, ho4, hO4, hF4⟩
        obtain ⟨hb4, hf4⟩ := fresh_post (W := w.heap.size) HF3.out HB3.out.size hO4 hF4
        have HB4 := Lib.hid (HB3.out.trans hb4)
        have HF4 := Lib.hid hf4
        obtain ⟨l4, hl4⟩ : ∃ l4, l3 ++ zz (at_ - s) = l4 := ⟨_, rfl⟩
        have hl4n : l4.length ≤ 9 + 18 * (0 + 1) := by rw [← hl4, List.length_append]; omega
        rw [hl4] at ho4
        have HE4 := Lib.hid (show l4 = uv m ++ rowB s none (ar.take (0 + 1)) by rw [← hl4, ← HL3.out, HE.out, HNB.out]; simp)
        have HO4 := Lib.hid ho4
        obtain ⟨A4, c4', rfl, _, _⟩ := ho4.form
        clear ho4 hO4 hF4 hl4 hb4 hf4 huz
        go_wp2_with (first | ((with_reducible show wpPlan _ _ _ [] _ _ _); refine wpPlan_nil ?_) | ((with_reducible show wpPlan _ _ _ ((_, 0, _) :: _) _ _ _); first | (refine wpPlan_read0 rfl ?hw rfl (fun _ _ _ => ?_); case hw => ((conv => (lhs; whnf)); first | done | with_reducible rfl)) | (refine wpPlan_skip0 rfl ?hw ?_; (case hw => ((conv => (lhs; whnf)); first | done | with_reducible rfl)); (try simp only [List.getElem_toArray, List.getElem_cons_succ, List.getElem_cons_zero, Act.put, List.setIfInBounds_toArray, List.set_cons_zero, List.set_cons_succ]))) | ((with_reducible show wpPlan _ _ _ ((_, 1, _) :: _) _ _ _); first | (refine wpPlan_read1d rfl ?hw rfl rfl (fun _ _ _ => ?_); case hw => ((conv => (lhs; whnf)); first | done | with_reducible rfl)) | (refine wpPlan_skip1d rfl ?hw ?_; (case hw => ((conv => (lhs; whnf)); first | done | with_reducible rfl)); (try simp only [List.getElem_toArray, List.getElem_cons_succ, List.getElem_cons_zero, Act.put, List.setIfInBounds_toArray, List.set_cons_zero, List.set_cons_succ])) | (refine wpPlan_read1 rfl ?hw rfl (fun _ _ _ => ?_); case hw => ((conv => (lhs; whnf)); first | done | with_reducible rfl))) | ((with_reducible show wpPlan _ _ _ ((_, 2, _) :: _) _ _ _); first | (refine wpPlan_eff rfl ?hw (fun _ _ => ?_); case hw => ((conv => (lhs; whnf)); first | done | with_reducible rfl)) | (refine wpPlan_skip2 rfl ?hw ?_; (case hw => ((conv => (lhs; whnf)); first | done | with_reducible rfl)); (try simp only [List.getElem_toArray, List.getElem_cons_succ, List.getElem_cons_zero, Act.put, List.setIfInBounds_toArray, List.set_cons_zero, List.set_cons_succ]))) | ((with_reducible show wpPlan _ _ _ _ _ _ _); refine wpPlan_fork ?_ ?_) | ((with_reducible show Owed _ _ _ [] _ _ _ _ _); refine Owed.none_ ?_) | ((with_reducible show Owed _ _ _ _ [] _ _ _ _); refine Owed.nil_ ?_) | ((with_reducible show Owed _ _ _ _ _ _ _ _ _); first | (refine Owed.miss rfl ?_) | (refine Owed.hit ?_ ?_)) | ((with_reducible show Same _ _ _ _ _); intro _; go_simp; done) | (with_reducible exact True.intro) | ((with_reducible show Code.wp _ (Code.region 8 _ true) _ _ _); refine wp_region_plan [(0, 0, []), (1, 0, []), (2, 1, []), (3, 1, []), (4, 1, []), (6, 0, []), (7, 1, []), (8, 1, []), (9, 1, []), (10, 0, []), (11, 1, []), (5, 2, [7, 8, 9, 11]), (12, 2, []), (13, 0, [])] (by kernel_rfl) (by kernel_rfl) (by kernel_rfl) ?_) | ((with_reducible show Code.wp _ (Code.region 9 _ true) _ _ _); refine wp_region_plan [(0, 0, []), (1, 0, []), (2, 1, []), (3, 1, []), (4, 1, []), (5, 0, []), (6, 0, []), (7, 1, []), (8, 1, []), (9, 1, []), (10, 1, []), (11, 1, []), (12, 0, [])] (by kernel_rfl) (by kernel_rfl) (by kernel_rfl) ?_) | ((with_reducible show Code.wp _ (Code.region 10 _ true) _ _ _); refine wp_region_plan [(0, 0, []), (2, 0, []), (3, 0, []), (4, 1, []), (5, 1, []), (6, 1, []), (7, 0, []), (8, 0, []), (9, 1, []), (10, 1, []), (11, 1, []), (12, 1, []), (13, 1, []), (14, 1, []), (1, 2, [4, 5, 6, 9, 10, 11, 12, 13, 14]), (15, 2, []), (16, 0, [])] (by kernel_rfl) (by kernel_rfl) (by kernel_rfl) ?_) | ((with_reducible show Code.wp _ (Code.region 6 _ true) _ _ _); refine wp_region_plan [(0, 0, []), (1, 0, []), (2, 0, []), (3, 1, []), (4, 1, []), (5, 1, []), (6, 0, []), (7, 0, []), (8, 1, []), (9, 1, []), (10, 1, []), (11, 1, []), (12, 1, []), (14, 0, []), (15, 0, []), (16, 1, []), (17, 1, []), (18, 1, []), (19, 0, []), (20, 1, []), (13, 2, [16, 17, 18, 20]), (21, 2, []), (22, 0, [])] (by kernel_rfl) (by kernel_rfl) (by kernel_rfl) ?_))
        go_roundw
        case rel => exact ⟨0 + 1, l4, by omega, by go_num, by omega, HE4, Lib.hid ⟨HO4.out, HF4.out, HB4.out⟩⟩
        case measure => simp [intOf]; omega
      · obtain ⟨b4, o4, p, hab, hb4, hp, f0, g0⟩ := HRW.out.arc (i := k - 1) (by omega)
        obtain ⟨rfl, rfl⟩ : b2 = b4 ∧ o2 = o4 := by simpa using hab
        obtain ⟨pe, pt⟩ := p
        obtain ⟨r1, r2, r3, r4⟩ := HOK.out _ (List.mem_of_getElem? hp)
        dsimp only at r1 r2 r3 r4 f0 g0
        have hasc := asc_at HASC.out (by omega) hp HA.out
        dsimp only at hasc
        have HPP := Lib.hid hp
        obtain ⟨j, rfl⟩ : ∃ j, k = j + 1 := ⟨k - 1, by omega⟩
        simp only [Nat.add_sub_cancel] at f0 g0
        clear hab hp hk0
        by_cases heq : ae = pe
        · subst heq
          obtain ⟨x, hx⟩ : ∃ x : Nat, at_ - pt - 1 = x := ⟨(at_ - pt - 1).toNat, by omega⟩
          have HX := Lib.hid hx
          have hxb : (x : Int) ≤ 16384 := by omega
          have HNB := Lib.hid (show rowB s none (ar.take (j + 1 + 1)) = rowB s none (ar.take (j + 1)) ++ (uv 0 ++ uv x) by
            rw [HNX.out, if_neg (by omega), HPP.out]
            unfold oneB
            dsimp only
            rw [if_pos rfl, hx]
            rfl)
          have hum := uv_le 0 (by omega)
          have huz := uv_le x (by omega)
          clear hx
          go_wp2_with (first | ((with_reducible show wpPlan _ _ _ [] _ _ _); refine wpPlan_nil ?_) | ((with_reducible show wpPlan _ _ _ ((_, 0, _) :: _) _ _ _); first | (refine wpPlan_read0 rfl ?hw rfl (fun _ _ _ => ?_); case hw => ((conv => (lhs; whnf)); first | done | with_reducible rfl)) | (refine wpPlan_skip0 rfl ?hw ?_; (case hw => ((conv => (lhs; whnf)); first | done | with_reducible rfl)); (try simp only [List.getElem_toArray, List.getElem_cons_succ, List.getElem_cons_zero, Act.put, List.setIfInBounds_toArray, List.set_cons_zero, List.set_cons_succ]))) | ((with_reducible show wpPlan _ _ _ ((_, 1, _) :: _) _ _ _); first | (refine wpPlan_read1d rfl ?hw rfl rfl (fun _ _ _ => ?_); case hw => ((conv => (lhs; whnf)); first | done | with_reducible rfl)) | (refine wpPlan_skip1d rfl ?hw ?_; (case hw => ((conv => (lhs; whnf)); first | done | with_reducible rfl)); (try simp only [List.getElem_toArray, List.getElem_cons_succ, List.getElem_cons_zero, Act.put, List.setIfInBounds_toArray, List.set_cons_zero, List.set_cons_succ])) | (refine wpPlan_read1 rfl ?hw rfl (fun _ _ _ => ?_); case hw => ((conv => (lhs; whnf)); first | done | with_reducible rfl))) | ((with_reducible show wpPlan _ _ _ ((_, 2, _) :: _) _ _ _); first | (refine wpPlan_eff rfl ?hw (fun _ _ => ?_); case hw => ((conv => (lhs; whnf)); first | done | with_reducible rfl)) | (refine wpPlan_skip2 rfl ?hw ?_; (case hw => ((conv => (lhs; whnf)); first | done | with_reducible rfl)); (try simp only [List.getElem_toArray, List.getElem_cons_succ, List.getElem_cons_zero, Act.put, List.setIfInBounds_toArray, List.set_cons_zero, List.set_cons_succ]))) | ((with_reducible show wpPlan _ _ _ _ _ _ _); refine wpPlan_fork ?_ ?_) | ((with_reducible show Owed _ _ _ [] _ _ _ _ _); refine Owed.none_ ?_) | ((with_reducible show Owed _ _ _ _ [] _ _ _ _); refine Owed.nil_ ?_) | ((with_reducible show Owed _ _ _ _ _ _ _ _ _); first | (refine Owed.miss rfl ?_) | (refine Owed.hit ?_ ?_)) | ((with_reducible show Same _ _ _ _ _); intro _; go_simp; done) | (with_reducible exact True.intro) | ((with_reducible show Code.wp _ (Code.region 8 _ true) _ _ _); refine wp_region_plan [(0, 0, []), (1, 0, []), (2, 1, []), (3, 1, []), (4, 1, []), (6, 0, []), (7, 1, []), (8, 1, []), (9, 1, []), (10, 0, []), (11, 1, []), (5, 2, [7, 8, 9, 11]), (12, 2, []), (13, 0, [])] (by kernel_rfl) (by kernel_rfl) (by kernel_rfl) ?_) | ((with_reducible show Code.wp _ (Code.region 9 _ true) _ _ _); refine wp_region_plan [(0, 0, []), (1, 0, []), (2, 1, []), (3, 1, []), (4, 1, []), (5, 0, []), (6, 0, []), (7, 1, []), (8, 1, []), (9, 1, []), (10, 1, []), (11, 1, []), (12, 0, [])] (by kernel_rfl) (by kernel_rfl) (by kernel_rfl) ?_) | ((with_reducible show Code.wp _ (Code.region 10 _ true) _ _ _); refine wp_region_plan [(0, 0, []), (2, 0, []), (3, 0, []), (4, 1, []), (5, 1, []), (6, 1, []), (7, 0, []), (8, 0, []), (9, 1, []), (10, 1, []), (11, 1, []), (12, 1, []), (13, 1, []), (14, 1, []), (1, 2, [4, 5, 6, 9, 10, 11, 12, 13, 14]), (15, 2, []), (16, 0, [])] (by kernel_rfl) (by kernel_rfl) (by kernel_rfl) ?_) | ((with_reducible show Code.wp _ (Code.region 6 _ true) _ _ _); refine wp_region_plan [(0, 0, []), (1, 0, []), (2, 0, []), (3, 1, []), (4, 1, []), (5, 1, []), (6, 0, []), (7, 0, []), (8, 1, []), (9, 1, []), (10, 1, []), (11, 1, []), (12, 1, []), (14, 0, []), (15, 0, []), (16, 1, []), (17, 1, []), (18, 1, []), (19, 0, []), (20, 1, []), (13, 2, [16, 17, 18, 20]), (21, 2, []), (22, 0, [])] (by kernel_rfl) (by kernel_rfl) (by kernel_rfl) ?_))
          refine (ruvarint0_any _ l' _ HW.out.1.drew.drew (by omega)).mono ?_
          rintro e w3 ⟨v3, rfl, ho3, hO3, hF3⟩
          have hO3 : Outside (fun k => (Value.slice Ao l'.length capo).ownBlock = some k) wr w3 := (Outside.refl _ wr).drew.drew.trans hO3
          have hF3 : From wr (Value.slice Ao l'.length capo) v3 := hF3
          obtain ⟨hb3, hf3⟩ := fresh_post (W := w.heap.size) HW.out.2.1 HDS.out hO3 hF3
          have HB3 := Lib.hid (HW.out.2.2.trans hb3)
          have HF3 := Lib.hid hf3
          obtain ⟨l3, hl3⟩ : ∃ l3, l' ++ uv 0 = l3 := ⟨_, rfl⟩
          have hl3n : l3.length ≤ l'.length + 9 := by rw [← hl3, List.length_append]; omega
          rw [hl3] at ho3
          have HL3 := Lib.hid hl3
          have HO3 := Lib.hid ho3
          have c3 := HCC.out _ _ w3 c0 hb3
          have d3 := HCC.out _ _ w3 d0 hb3
          have f3 := HCC.out _ _ w3 f0 hb3
          have g3 := HCC.out _ _ w3 g0 hb3
          have hb3l : b2 < w3.heap.size := Nat.lt_of_lt_of_le hb2l hb3.size
          obtain ⟨A3, c3', rfl, _, _⟩ := ho3.form
          clear ho3 hO3 hF3 hl3 hb3 hf3 hum
          go_wp2_with (first | ((with_reducible show wpPlan _ _ _ [] _ _ _); refine wpPlan_nil ?_) | ((with_reducible show wpPlan _ _ _ ((_, 0, _) :: _) _ _ _); first | (refine wpPlan_read0 rfl ?hw rfl (fun _ _ _ => ?_); case hw => ((conv => (lhs; whnf)); first | done | with_reducible rfl)) | (refine wpPlan_skip0 rfl ?hw ?_; (case hw => ((conv => (lhs; whnf)); first | done | with_reducible rfl)); (try simp only [List.getElem_toArray, List.getElem_cons_succ, List.getElem_cons_zero, Act.put, List.setIfInBounds_toArray, List.set_cons_zero, List.set_cons_succ]))) | ((with_reducible show wpPlan _ _ _ ((_, 1, _) :: _) _ _ _); first | (refine wpPlan_read1d rfl ?hw rfl rfl (fun _ _ _ => ?_); case hw => ((conv => (lhs; whnf)); first | done | with_reducible rfl)) | (refine wpPlan_skip1d rfl ?hw ?_; (case hw => ((conv => (lhs; whnf)); first | done | with_reducible rfl)); (try simp only [List.getElem_toArray, List.getElem_cons_succ, List.getElem_cons_zero, Act.put, List.setIfInBounds_toArray, List.set_cons_zero, List.set_cons_succ])) | (refine wpPlan_read1 rfl ?hw rfl (fun _ _ _ => ?_); case hw => ((conv => (lhs; whnf)); first | done | with_reducible rfl))) | ((with_reducible show wpPlan _ _ _ ((_, 2, _) :: _) _ _ _); first | (refine wpPlan_eff rfl ?hw (fun _ _ => ?_); case hw => ((conv => (lhs; whnf)); first | done | with_reducible rfl)) | (refine wpPlan_skip2 rfl ?hw ?_; (case hw => ((conv => (lhs; whnf)); first | done | with_reducible rfl)); (try simp only [List.getElem_toArray, List.getElem_cons_succ, List.getElem_cons_zero, Act.put, List.setIfInBounds_toArray, List.set_cons_zero, List.set_cons_succ]))) | ((with_reducible show wpPlan _ _ _ _ _ _ _); refine wpPlan_fork ?_ ?_) | ((with_reducible show Owed _ _ _ [] _ _ _ _ _); refine Owed.none_ ?_) | ((with_reducible show Owed _ _ _ _ [] _ _ _ _); refine Owed.nil_ ?_) | ((with_reducible show Owed _ _ _ _ _ _ _ _ _); first | (refine Owed.miss rfl ?_) | (refine Owed.hit ?_ ?_)) | ((with_reducible show Same _ _ _ _ _); intro _; go_simp; done) | (with_reducible exact True.intro) | ((with_reducible show Code.wp _ (Code.region 8 _ true) _ _ _); refine wp_region_plan [(0, 0, []), (1, 0, []), (2, 1, []), (3, 1, []), (4, 1, []), (6, 0, []), (7, 1, []), (8, 1, []), (9, 1, []), (10, 0, []), (11, 1, []), (5, 2, [7, 8, 9, 11]), (12, 2, []), (13, 0, [])] (by kernel_rfl) (by kernel_rfl) (by kernel_rfl) ?_) | ((with_reducible show Code.wp _ (Code.region 9 _ true) _ _ _); refine wp_region_plan [(0, 0, []), (1, 0, []), (2, 1, []), (3, 1, []), (4, 1, []), (5, 0, []), (6, 0, []), (7, 1, []), (8, 1, []), (9, 1, []), (10, 1, []), (11, 1, []), (12, 0, [])] (by kernel_rfl) (by kernel_rfl) (by kernel_rfl) ?_) | ((with_reducible show Code.wp _ (Code.region 10 _ true) _ _ _); refine wp_region_plan [(0, 0, []), (2, 0, []), (3, 0, []), (4, 1, []), (5, 1, []), (6, 1, []), (7, 0, []), (8, 0, []), (9, 1, []), (10, 1, []), (11, 1, []), (12, 1, []), (13, 1, []), (14, 1, []), (1, 2, [4, 5, 6, 9, 10, 11, 12, 13, 14]), (15, 2, []), (16, 0, [])] (by kernel_rfl) (by kernel_rfl) (by kernel_rfl) ?_) | ((with_reducible show Code.wp _ (Code.region 6 _ true) _ _ _); refine wp_region_plan [(0, 0, []), (1, 0, []), (2, 0, []), (3, 1, []), (4, 1, []), (5, 1, []), (6, 0, []), (7, 0, []), (8, 1, []), (9, 1, []), (10, 1, []), (11, 1, []), (12, 1, []), (14, 0, []), (15, 0, []), (16, 1, []), (17, 1, []), (18, 1, []), (19, 0, []), (20, 1, []), (13, 2, [16, 17, 18, 20]), (21, 2, []), (22, 0, [])] (by kernel_rfl) (by kernel_rfl) (by kernel_rfl) ?_))
          rw [HX.out]
          refine (ruvarint_any _ l3 x _ HO3.out (by omega) (by omega)).mono ?_
          rintro e w4 ⟨v4, rfl, ho4, hO4, hF4⟩
          obtain ⟨hb4, hf4⟩ := fresh_post (W := w.heap.size) HF3.out HB3.out.size hO4 hF4
          have HB4 := Lib.hid (HB3.out.trans hb4)
          have HF4 := Lib.hid hf4
          obtain ⟨l4, hl4⟩ : ∃ l4, l3 ++ uv x = l4 := ⟨_, rfl⟩
          have hl4n : l4.length ≤ 9 + 18 * (j + 1 + 1) := by rw [← hl4, List.length_append]; omega
          rw [hl4] at ho4
          have HE4 := Lib.hid (show l4 = uv m ++ rowB s none (ar.take (j + 1 + 1)) by rw [← hl4, ← HL3.out, HE.out, HNB.out]; simp)
          have HO4 := Lib.hid ho4
          obtain ⟨A4, c4', rfl, _, _⟩ := ho4.form
          clear ho4 hO4 hF4 hl4 hb4 hf4 huz
          go_wp2_with (first | ((with_reducible show wpPlan _ _ _ [] _ _ _); refine wpPlan_nil ?_) | ((with_reducible show wpPlan _ _ _ ((_, 0, _) :: _) _ _ _); first | (refine wpPlan_read0 rfl ?hw rfl (fun _ _ _ => ?_); case hw => ((conv => (lhs; whnf)); first | done | with_reducible rfl)) | (refine wpPlan_skip0 rfl ?hw ?_; (case hw => ((conv => (lhs; whnf)); first | done | with_reducible rfl)); (try simp only [List.getElem_toArray, List.getElem_cons_succ, List.getElem_cons_zero, Act.put, List.setIfInBounds_toArray, List.set_cons_zero, List.set_cons_succ]))) | ((with_reducible show wpPlan _ _ _ ((_, 1, _) :: _) _ _ _); first | (refine wpPlan_read1d rfl ?hw rfl rfl (fun _ _ _ => ?_); case hw => ((conv => (lhs; whnf)); first | done | with_reducible rfl)) | (refine wpPlan_skip1d rfl ?hw ?_; (case hw => ((conv => (lhs; whnf)); first | done | with_reducible rfl)); (try simp only [List.getElem_toArray, List.getElem_cons_succ, List.getElem_cons_zero, Act.put, List.setIfInBounds_toArray, List.set_cons_zero, List.set_cons_succ])) | (refine wpPlan_read1 rfl ?hw rfl (fun _ _ _ => ?_); case hw => ((conv => (lhs; whnf)); first | done | with_reducible rfl))) | ((with_reducible show wpPlan _ _ _ ((_, 2, _) :: _) _ _ _); first | (refine wpPlan_eff rfl ?hw (fun _ _ => ?_); case hw => ((conv => (lhs; whnf)); first | done | with_reducible rfl)) | (refine wpPlan_skip2 rfl ?hw ?_; (case hw => ((conv => (lhs; whnf)); first | done | with_reducible rfl)); (try simp only [List.getElem_toArray, List.getElem_cons_succ, List.getElem_cons_zero, Act.put, List.setIfInBounds_toArray, List.set_cons_zero, List.set_cons_succ]))) | ((with_reducible show wpPlan _ _ _ _ _ _ _); refine wpPlan_fork ?_ ?_) | ((with_reducible show Owed _ _ _ [] _ _ _ _ _); refine Owed.none_ ?_) | ((with_reducible show Owed _ _ _ _ [] _ _ _ _); refine Owed.nil_ ?_) | ((with_reducible show Owed _ _ _ _ _ _ _ _ _); first | (refine Owed.miss rfl ?_) | (refine Owed.hit ?_ ?_)) | ((with_reducible show Same _ _ _ _ _); intro _; go_simp; done) | (with_reducible exact True.intro) | ((with_reducible show Code.wp _ (Code.region 8 _ true) _ _ _); refine wp_region_plan [(0, 0, []), (1, 0, []), (2, 1, []), (3, 1, []), (4, 1, []), (6, 0, []), (7, 1, []), (8, 1, []), (9, 1, []), (10, 0, []), (11, 1, []), (5, 2, [7, 8, 9, 11]), (12, 2, []), (13, 0, [])] (by kernel_rfl) (by kernel_rfl) (by kernel_rfl) ?_) | ((with_reducible show Code.wp _ (Code.region 9 _ true) _ _ _); refine wp_region_plan [(0, 0, []), (1, 0, []), (2, 1, []), (3, 1, []), (4, 1, []), (5, 0, []), (6, 0, []), (7, 1, []), (8, 1, []), (9, 1, []), (10, 1, []), (11, 1, []), (12, 0, [])] (by kernel_rfl) (by kernel_rfl) (by kernel_rfl) ?_) | ((with_reducible show Code.wp _ (Code.region 10 _ true) _ _ _); refine wp_region_plan [(0, 0, []), (2, 0, []), (3, 0, []), (4, 1, []), (5, 1, []), (6, 1, []), (7, 0, []), (8, 0, []), (9, 1, []), (10, 1, []), (11, 1, []), (12, 1, []), (13, 1, []), (14, 1, []), (1, 2, [4, 5, 6, 9, 10, 11, 12, 13, 14]), (15, 2, []), (16, 0, [])] (by kernel_rfl) (by kernel_rfl) (by kernel_rfl) ?_) | ((with_reducible show Code.wp _ (Code.region 6 _ true) _ _ _); refine wp_region_plan [(0, 0, []), (1, 0, []), (2, 0, []), (3, 1, []), (4, 1, []), (5, 1, []), (6, 0, []), (7, 0, []), (8, 1, []), (9, 1, []), (10, 1, []), (11, 1, []), (12, 1, []), (14, 0, []), (15, 0, []), (16, 1, []), (17, 1, []), (18, 1, []), (19, 0, []), (20, 1, []), (13, 2, [16, 17, 18, 20]), (21, 2, []), (22, 0, [])] (by kernel_rfl) (by kernel_rfl) (by kernel_rfl) ?_))
          go_roundw
          case rel => exact ⟨j + 1 + 1, l4, by omega, by go_num, by omega, HE4, Lib.hid ⟨HO4.out, HF4.out, HB4.out⟩⟩
          case measure => simp [intOf]; omega
        · have heqb : (ae == pe) = false := beq_eq_false_iff_ne.2 heq
          obtain ⟨x, hx⟩ : ∃ x : Nat, ae - pe = x := ⟨(ae - pe).toNat, by omega⟩
          have HX := Lib.hid hx
          have hxb : (x : Int) ≤ 1025 := by omega
          have HNB := Lib.hid (show rowB s none (ar.take (j + 1 + 1)) = rowB s none (ar.take (j + 1)) ++ (uv x ++ zz (at_ - s)) by
            rw [HNX.out, if_neg (by omega), HPP.out]
            unfold oneB
            dsimp only
            rw [if_neg heq, hx]
            rfl)
          have hum := uv_le x (by omega)
          have huz := zz_le (at_ - s) (by omega)
          have hkz : -1000000000000 ≤ at_ - s ∧ at_ - s ≤ 1000000000000 := by omega
          have HKZ := Lib.hid hkz
          clear hx heq hkz
          go_wp2_with (first | ((with_reducible show wpPlan _ _ _ [] _ _ _); refine wpPlan_nil ?_) | ((with_reducible show wpPlan _ _ _ ((_, 0, _) :: _) _ _ _); first | (refine wpPlan_read0 rfl ?hw rfl (fun _ _ _ => ?_); case hw => ((conv => (lhs; whnf)); first | done | with_reducible rfl)) | (refine wpPlan_skip0 rfl ?hw ?_; (case hw => ((conv => (lhs; whnf)); first | done | with_reducible rfl)); (try simp only [List.getElem_toArray, List.getElem_cons_succ, List.getElem_cons_zero, Act.put, List.setIfInBounds_toArray, List.set_cons_zero, List.set_cons_succ]))) | ((with_reducible show wpPlan _ _ _ ((_, 1, _) :: _) _ _ _); first | (refine wpPlan_read1d rfl ?hw rfl rfl (fun _ _ _ => ?_); case hw => ((conv => (lhs; whnf)); first | done | with_reducible rfl)) | (refine wpPlan_skip1d rfl ?hw ?_; (case hw => ((conv => (lhs; whnf)); first | done | with_reducible rfl)); (try simp only [List.getElem_toArray, List.getElem_cons_succ, List.getElem_cons_zero, Act.put, List.setIfInBounds_toArray, List.set_cons_zero, List.set_cons_succ])) | (refine wpPlan_read1 rfl ?hw rfl (fun _ _ _ => ?_); case hw => ((conv => (lhs; whnf)); first | done | with_reducible rfl))) | ((with_reducible show wpPlan _ _ _ ((_, 2, _) :: _) _ _ _); first | (refine wpPlan_eff rfl ?hw (fun _ _ => ?_); case hw => ((conv => (lhs; whnf)); first | done | with_reducible rfl)) | (refine wpPlan_skip2 rfl ?hw ?_; (case hw => ((conv => (lhs; whnf)); first | done | with_reducible rfl)); (try simp only [List.getElem_toArray, List.getElem_cons_succ, List.getElem_cons_zero, Act.put, List.setIfInBounds_toArray, List.set_cons_zero, List.set_cons_succ]))) | ((with_reducible show wpPlan _ _ _ _ _ _ _); refine wpPlan_fork ?_ ?_) | ((with_reducible show Owed _ _ _ [] _ _ _ _ _); refine Owed.none_ ?_) | ((with_reducible show Owed _ _ _ _ [] _ _ _ _); refine Owed.nil_ ?_) | ((with_reducible show Owed _ _ _ _ _ _ _ _ _); first | (refine Owed.miss rfl ?_) | (refine Owed.hit ?_ ?_)) | ((with_reducible show Same _ _ _ _ _); intro _; go_simp; done) | (with_reducible exact True.intro) | ((with_reducible show Code.wp _ (Code.region 8 _ true) _ _ _); refine wp_region_plan [(0, 0, []), (1, 0, []), (2, 1, []), (3, 1, []), (4, 1, []), (6, 0, []), (7, 1, []), (8, 1, []), (9, 1, []), (10, 0, []), (11, 1, []), (5, 2, [7, 8, 9, 11]), (12, 2, []), (13, 0, [])] (by kernel_rfl) (by kernel_rfl) (by kernel_rfl) ?_) | ((with_reducible show Code.wp _ (Code.region 9 _ true) _ _ _); refine wp_region_plan [(0, 0, []), (1, 0, []), (2, 1, []), (3, 1, []), (4, 1, []), (5, 0, []), (6, 0, []), (7, 1, []), (8, 1, []), (9, 1, []), (10, 1, []), (11, 1, []), (12, 0, [])] (by kernel_rfl) (by kernel_rfl) (by kernel_rfl) ?_) | ((with_reducible show Code.wp _ (Code.region 10 _ true) _ _ _); refine wp_region_plan [(0, 0, []), (2, 0, []), (3, 0, []), (4, 1, []), (5, 1, []), (6, 1, []), (7, 0, []), (8, 0, []), (9, 1, []), (10, 1, []), (11, 1, []), (12, 1, []), (13, 1, []), (14, 1, []), (1, 2, [4, 5, 6, 9, 10, 11, 12, 13, 14]), (15, 2, []), (16, 0, [])] (by kernel_rfl) (by kernel_rfl) (by kernel_rfl) ?_) | ((with_reducible show Code.wp _ (Code.region 6 _ true) _ _ _); refine wp_region_plan [(0, 0, []), (1, 0, []), (2, 0, []), (3, 1, []), (4, 1, []), (5, 1, []), (6, 0, []), (7, 0, []), (8, 1, []), (9, 1, []), (10, 1, []), (11, 1, []), (12, 1, []), (14, 0, []), (15, 0, []), (16, 1, []), (17, 1, []), (18, 1, []), (19, 0, []), (20, 1, []), (13, 2, [16, 17, 18, 20]), (21, 2, []), (22, 0, [])] (by kernel_rfl) (by kernel_rfl) (by kernel_rfl) ?_))
          rw [HX.out]
          refine (ruvarint_any _ l' x _ HW.out.1.drew.drew (by omega) (by omega)).mono ?_
          rintro e w3 ⟨v3, rfl, ho3, hO3, hF3⟩
          have hO3 : Outside (fun k => (Value.slice Ao l'.length capo).ownBlock = some k) wr w3 := (Outside.refl _ wr).drew.drew.trans hO3
          have hF3 : From wr (Value.slice Ao l'.length capo) v3 := hF3
          obtain ⟨hb3, hf3⟩ := fresh_post (W := w.heap.size) HW.out.2.1 HDS.out hO3 hF3
          have HB3 := Lib.hid (HW.out.2.2.trans hb3)
          have HF3 := Lib.hid hf3
          obtain ⟨l3, hl3⟩ : ∃ l3, l' ++ uv x = l3 := ⟨_, rfl⟩
          have hl3n : l3.length ≤ l'.length + 9 := by rw [← hl3, List.length_append]; omega
          rw [hl3] at ho3
          have HL3 := Lib.hid hl3
          have HO3 := Lib.hid ho3
          have c3 := HCC.out _ _ w3 c0 hb3
          have d3 := HCC.out _ _ w3 d0 hb3
          have f3 := HCC.out _ _ w3 f0 hb3
          have g3 := HCC.out _ _ w3 g0 hb3
          have hb3l : b2 < w3.heap.size := Nat.lt_of_lt_of_le hb2l hb3.size
          obtain ⟨A3, c3', rfl, _, _⟩ := ho3.form
          clear ho3 hO3 hF3 hl3 hb3 hf3 hum
          go_wp2_with (first | ((with_reducible show wpPlan _ _ _ [] _ _ _); refine wpPlan_nil ?_) | ((with_reducible show wpPlan _ _ _ ((_, 0, _) :: _) _ _ _); first | (refine wpPlan_read0 rfl ?hw rfl (fun _ _ _ => ?_); case hw => ((conv => (lhs; whnf)); first | done | with_reducible rfl)) | (refine wpPlan_skip0 rfl ?hw ?_; (case hw => ((conv => (lhs; whnf)); first | done | with_reducible rfl)); (try simp only [List.getElem_toArray, List.getElem_cons_succ, List.getElem_cons_zero, Act.put, List.setIfInBounds_toArray, List.set_cons_zero, List.set_cons_succ]))) | ((with_reducible show wpPlan _ _ _ ((_, 1, _) :: _) _ _ _); first | (refine wpPlan_read1d rfl ?hw rfl rfl (fun _ _ _ => ?_); case hw => ((conv => (lhs; whnf)); first | done | with_reducible rfl)) | (refine wpPlan_skip1d rfl ?hw ?_; (case hw => ((conv => (lhs; whnf)); first | done | with_reducible rfl)); (try simp only [List.getElem_toArray, List.getElem_cons_succ, List.getElem_cons_zero, Act.put, List.setIfInBounds_toArray, List.set_cons_zero, List.set_cons_succ])) | (refine wpPlan_read1 rfl ?hw rfl (fun _ _ _ => ?_); case hw => ((conv => (lhs; whnf)); first | done | with_reducible rfl))) | ((with_reducible show wpPlan _ _ _ ((_, 2, _) :: _) _ _ _); first | (refine wpPlan_eff rfl ?hw (fun _ _ => ?_); case hw => ((conv => (lhs; whnf)); first | done | with_reducible rfl)) | (refine wpPlan_skip2 rfl ?hw ?_; (case hw => ((conv => (lhs; whnf)); first | done | with_reducible rfl)); (try simp only [List.getElem_toArray, List.getElem_cons_succ, List.getElem_cons_zero, Act.put, List.setIfInBounds_toArray, List.set_cons_zero, List.set_cons_succ]))) | ((with_reducible show wpPlan _ _ _ _ _ _ _); refine wpPlan_fork ?_ ?_) | ((with_reducible show Owed _ _ _ [] _ _ _ _ _); refine Owed.none_ ?_) | ((with_reducible show Owed _ _ _ _ [] _ _ _ _); refine Owed.nil_ ?_) | ((with_reducible show Owed _ _ _ _ _ _ _ _ _); first | (refine Owed.miss rfl ?_) | (refine Owed.hit ?_ ?_)) | ((with_reducible show Same _ _ _ _ _); intro _; go_simp; done) | (with_reducible exact True.intro) | ((with_reducible show Code.wp _ (Code.region 8 _ true) _ _ _); refine wp_region_plan [(0, 0, []), (1, 0, []), (2, 1, []), (3, 1, []), (4, 1, []), (6, 0, []), (7, 1, []), (8, 1, []), (9, 1, []), (10, 0, []), (11, 1, []), (5, 2, [7, 8, 9, 11]), (12, 2, []), (13, 0, [])] (by kernel_rfl) (by kernel_rfl) (by kernel_rfl) ?_) | ((with_reducible show Code.wp _ (Code.region 9 _ true) _ _ _); refine wp_region_plan [(0, 0, []), (1, 0, []), (2, 1, []), (3, 1, []), (4, 1, []), (5, 0, []), (6, 0, []), (7, 1, []), (8, 1, []), (9, 1, []), (10, 1, []), (11, 1, []), (12, 0, [])] (by kernel_rfl) (by kernel_rfl) (by kernel_rfl) ?_) | ((with_reducible show Code.wp _ (Code.region 10 _ true) _ _ _); refine wp_region_plan [(0, 0, []), (2, 0, []), (3, 0, []), (4, 1, []), (5, 1, []), (6, 1, []), (7, 0, []), (8, 0, []), (9, 1, []), (10, 1, []), (11, 1, []), (12, 1, []), (13, 1, []), (14, 1, []), (1, 2, [4, 5, 6, 9, 10, 11, 12, 13, 14]), (15, 2, []), (16, 0, [])] (by kernel_rfl) (by kernel_rfl) (by kernel_rfl) ?_) | ((with_reducible show Code.wp _ (Code.region 6 _ true) _ _ _); refine wp_region_plan [(0, 0, []), (1, 0, []), (2, 0, []), (3, 1, []), (4, 1, []), (5, 1, []), (6, 0, []), (7, 0, []), (8, 1, []), (9, 1, []), (10, 1, []), (11, 1, []), (12, 1, []), (14, 0, []), (15, 0, []), (16, 1, []), (17, 1, []), (18, 1, []), (19, 0, []), (20, 1, []), (13, 2, [16, 17, 18, 20]), (21, 2, []), (22, 0, [])] (by kernel_rfl) (by kernel_rfl) (by kernel_rfl) ?_))
          refine (rzigzag_any _ l3 (at_ - s) _ HO3.out HKZ.out (by omega)).mono ?_
          rintro e w4 ⟨v4, rfl, ho4, hO4, hF4⟩
          obtain ⟨hb4, hf4⟩ := fresh_post (W := w.heap.size) HF3.out HB3.out.size hO4 hF4
          have HB4 := Lib.hid (HB3.out.trans hb4)
          have HF4 := Lib.hid hf4
          obtain ⟨l4, hl4⟩ : ∃ l4, l3 ++ zz (at_ - s) = l4 := ⟨_, rfl⟩
          have hl4n : l4.length ≤ 9 + 18 * (j + 1 + 1) := by rw [← hl4, List.length_append]; omega
          rw [hl4] at ho4
          have HE4 := Lib.hid (show l4 = uv m ++ rowB s none (ar.take (j + 1 + 1)) by rw [← hl4, ← HL3.out, HE.out, HNB.out]; simp)
          have HO4 := Lib.hid ho4
          obtain ⟨A4, c4', rfl, _, _⟩ := ho4.form
          clear ho4 hO4 hF4 hl4 hb4 hf4 huz
          go_wp2_with (first | ((with_reducible show wpPlan _ _ _ [] _ _ _); refine wpPlan_nil ?_) | ((with_reducible show wpPlan _ _ _ ((_, 0, _) :: _) _ _ _); first | (refine wpPlan_read0 rfl ?hw rfl (fun _ _ _ => ?_); case hw => ((conv => (lhs; whnf)); first | done | with_reducible rfl)) | (refine wpPlan_skip0 rfl ?hw ?_; (case hw => ((conv => (lhs; whnf)); first | done | with_reducible rfl)); (try simp only [List.getElem_toArray, List.getElem_cons_succ, List.getElem_cons_zero, Act.put, List.setIfInBounds_toArray, List.set_cons_zero, List.set_cons_succ]))) | ((with_reducible show wpPlan _ _ _ ((_, 1, _) :: _) _ _ _); first | (refine wpPlan_read1d rfl ?hw rfl rfl (fun _ _ _ => ?_); case hw => ((conv => (lhs; whnf)); first | done | with_reducible rfl)) | (refine wpPlan_skip1d rfl ?hw ?_; (case hw => ((conv => (lhs; whnf)); first | done | with_reducible rfl)); (try simp only [List.getElem_toArray, List.getElem_cons_succ, List.getElem_cons_zero, Act.put, List.setIfInBounds_toArray, List.set_cons_zero, List.set_cons_succ])) | (refine wpPlan_read1 rfl ?hw rfl (fun _ _ _ => ?_); case hw => ((conv => (lhs; whnf)); first | done | with_reducible rfl))) | ((with_reducible show wpPlan _ _ _ ((_, 2, _) :: _) _ _ _); first | (refine wpPlan_eff rfl ?hw (fun _ _ => ?_); case hw => ((conv => (lhs; whnf)); first | done | with_reducible rfl)) | (refine wpPlan_skip2 rfl ?hw ?_; (case hw => ((conv => (lhs; whnf)); first | done | with_reducible rfl)); (try simp only [List.getElem_toArray, List.getElem_cons_succ, List.getElem_cons_zero, Act.put, List.setIfInBounds_toArray, List.set_cons_zero, List.set_cons_succ]))) | ((with_reducible show wpPlan _ _ _ _ _ _ _); refine wpPlan_fork ?_ ?_) | ((with_reducible show Owed _ _ _ [] _ _ _ _ _); refine Owed.none_ ?_) | ((with_reducible show Owed _ _ _ _ [] _ _ _ _); refine Owed.nil_ ?_) | ((with_reducible show Owed _ _ _ _ _ _ _ _ _); first | (refine Owed.miss rfl ?_) | (refine Owed.hit ?_ ?_)) | ((with_reducible show Same _ _ _ _ _); intro _; go_simp; done) | (with_reducible exact True.intro) | ((with_reducible show Code.wp _ (Code.region 8 _ true) _ _ _); refine wp_region_plan [(0, 0, []), (1, 0, []), (2, 1, []), (3, 1, []), (4, 1, []), (6, 0, []), (7, 1, []), (8, 1, []), (9, 1, []), (10, 0, []), (11, 1, []), (5, 2, [7, 8, 9, 11]), (12, 2, []), (13, 0, [])] (by kernel_rfl) (by kernel_rfl) (by kernel_rfl) ?_) | ((with_reducible show Code.wp _ (Code.region 9 _ true) _ _ _); refine wp_region_plan [(0, 0, []), (1, 0, []), (2, 1, []), (3, 1, []), (4, 1, []), (5, 0, []), (6, 0, []), (7, 1, []), (8, 1, []), (9, 1, []), (10, 1, []), (11, 1, []), (12, 0, [])] (by kernel_rfl) (by kernel_rfl) (by kernel_rfl) ?_) | ((with_reducible show Code.wp _ (Code.region 10 _ true) _ _ _); refine wp_region_plan [(0, 0, []), (2, 0, []), (3, 0, []), (4, 1, []), (5, 1, []), (6, 1, []), (7, 0, []), (8, 0, []), (9, 1, []), (10, 1, []), (11, 1, []), (12, 1, []), (13, 1, []), (14, 1, []), (1, 2, [4, 5, 6, 9, 10, 11, 12, 13, 14]), (15, 2, []), (16, 0, [])] (by kernel_rfl) (by kernel_rfl) (by kernel_rfl) ?_) | ((with_reducible show Code.wp _ (Code.region 6 _ true) _ _ _); refine wp_region_plan [(0, 0, []), (1, 0, []), (2, 0, []), (3, 1, []), (4, 1, []), (5, 1, []), (6, 0, []), (7, 0, []), (8, 1, []), (9, 1, []), (10, 1, []), (11, 1, []), (12, 1, []), (14, 0, []), (15, 0, []), (16, 1, []), (17, 1, []), (18, 1, []), (19, 0, []), (20, 1, []), (13, 2, [16, 17, 18, 20]), (21, 2, []), (22, 0, [])] (by kernel_rfl) (by kernel_rfl) (by kernel_rfl) ?_))
          go_roundw
          case rel => exact ⟨j + 1 + 1, l4, by omega, by go_num, by omega, HE4, Lib.hid ⟨HO4.out, HF4.out, HB4.out⟩⟩
          case measure => simp [intOf]; omega
    · have hk2 : ar.take k = ar := List.take_of_length_le (by rw [HN.out]; omega)
      have HF := Lib.hid (show l' = rowF s ar by rw [HE.out, hk2, rowF, HN.out])
      clear hk2
      go_wp2_with fail
      go_ret
      exact ⟨_, rfl, by rw [← HF.out]; exact HW.out.1, HW.out.2.2, HW.out.2.1⟩

end Go.Proofs.Ytonpdclccgpceaa
