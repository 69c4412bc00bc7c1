/- the law's refines: Rounds and Classes against the reference -/
import Derived.Test.YtmciinikfjfegaaSgV5
namespace Go.Proofs.Ytmciinikfjfegaa
open Go Go.RowKit
set_option maxHeartbeats 2000000

theorem rounds_same {ls : List (List Arc)} {rs rs' : List (List Nat)} (h : validB ls = false ∧ rs = [] ∨ validB ls = true ∧ ∃ K, DoneR ls K ∧ rs = rndL ls K) (h' : validB ls = false ∧ rs' = [] ∨ validB ls = true ∧ ∃ K, DoneR ls K ∧ rs' = rndL ls K) : rs = rs' := by
  rcases h with ⟨h1, rfl⟩ | ⟨h1, K, hK, rfl⟩ <;> rcases h' with ⟨h2, rfl⟩ | ⟨h2, K', hK', rfl⟩
  · rfl
  · rw [h1] at h2; cases h2
  · rw [h1] at h2; cases h2
  · rw [hK.unique hK']
theorem classes_same {ls : List (List Arc)} {rs rs' : List Nat} (h : validB ls = false ∧ rs = [] ∨ validB ls = true ∧ ∃ K, DoneR ls K ∧ rs = clK ls K) (h' : validB ls = false ∧ rs' = [] ∨ validB ls = true ∧ ∃ K, DoneR ls K ∧ rs' = clK ls K) : rs = rs' := by
  rcases h with ⟨h1, rfl⟩ | ⟨h1, K, hK, rfl⟩ <;> rcases h' with ⟨h2, rfl⟩ | ⟨h2, K', hK', rfl⟩
  · rfl
  · rw [h1] at h2; cases h2
  · rw [h1] at h2; cases h2
  · rw [hK.unique hK']
theorem rounds_lens {ls : List (List Arc)} {rs : List (List Nat)} (hn : ls.length ≤ 1000000000) (h : validB ls = false ∧ rs = [] ∨ validB ls = true ∧ ∃ K, DoneR ls K ∧ rs = rndL ls K) : rs.length ≤ 1000000001 ∧ ∀ x ∈ rs, x.length ≤ 1000000000000 := by
  rcases h with ⟨_, rfl⟩ | ⟨_, K, hK, rfl⟩
  · exact ⟨by simp, fun x hx => by cases hx⟩
  · refine ⟨by rw [rndL_len]; have := round_le hK.1; omega, fun x hx => ?_⟩
    rw [rndL, List.mem_map] at hx
    obtain ⟨k, _, rfl⟩ := hx
    rw [clK_len]
    omega
theorem classes_lens {ls : List (List Arc)} {rs : List Nat} (hn : ls.length ≤ 1000000000) (h : validB ls = false ∧ rs = [] ∨ validB ls = true ∧ ∃ K, DoneR ls K ∧ rs = clK ls K) : rs.length ≤ 1000000000 := by
  rcases h with ⟨_, rfl⟩ | ⟨_, K, hK, rfl⟩
  · simp
  · rw [clK_len]; exact hn

set_option maxRecDepth 100000 in
theorem refines_any (A : Option Addr) (n c : Nat) (ls : List (List Arc)) (B : Nat) (w : World) (h : RdL w B A n ls) (hB : B ≤ w.heap.size) (hn : n ≤ 1000000000) (hs : ∀ l ∈ ls, l.length ≤ 100000) :
    Calls Try.prog 22 #[lts A n c] w fun e w' => e = .returned (.bool true) ∧ Below w.heap.size w w' := by
  have HS := Lib.hid hs
  have HL := Lib.hid h.len
  have HR0 := Lib.hid (h.alloc hB (.cells #[.slice A n c] 27))
  have HN0 := Lib.hid (Blk.new w 27 #[.slice A n c])
  have HB0 := Lib.hid ((Below.refl w.heap.size w).alloc (Nat.le_refl _) (.cells #[.slice A n c] 27))
  clear h hs
  go_enter Try.func22, Try.ntmps22
  have n0c := HN0.out.cell
  have n0l := HN0.out.lt
  go_wp2_with (first | ((with_reducible show wpPlan _ _ _ [] _ _ _); refine wpPlan_nil ?_) | ((with_reducible show wpPlan _ _ _ ((_, 0, _) :: _) _ _ _); first | (refine wpPlan_read0 rfl ?hw rfl (fun _ _ _ => ?_); case hw => ((conv => (lhs; whnf)); first | done | with_reducible rfl)) | (refine wpPlan_skip0 rfl ?hw ?_; (case hw => ((conv => (lhs; whnf)); first | done | with_reducible rfl)); (try simp only [List.getElem_toArray, List.getElem_cons_succ, List.getElem_cons_zero, Act.put, List.setIfInBounds_toArray, List.set_cons_zero, List.set_cons_succ]))) | ((with_reducible show wpPlan _ _ _ ((_, 1, _) :: _) _ _ _); first | (refine wpPlan_read1d rfl ?hw rfl rfl (fun _ _ _ => ?_); case hw => ((conv => (lhs; whnf)); first | done | with_reducible rfl)) | (refine wpPlan_skip1d rfl ?hw ?_; (case hw => ((conv => (lhs; whnf)); first | done | with_reducible rfl)); (try simp only [List.getElem_toArray, List.getElem_cons_succ, List.getElem_cons_zero, Act.put, List.setIfInBounds_toArray, List.set_cons_zero, List.set_cons_succ])) | (refine wpPlan_read1 rfl ?hw rfl (fun _ _ _ => ?_); case hw => ((conv => (lhs; whnf)); first | done | with_reducible rfl))) | ((with_reducible show wpPlan _ _ _ ((_, 2, _) :: _) _ _ _); first | (refine wpPlan_eff rfl ?hw (fun _ _ => ?_); case hw => ((conv => (lhs; whnf)); first | done | with_reducible rfl)) | (refine wpPlan_skip2 rfl ?hw ?_; (case hw => ((conv => (lhs; whnf)); first | done | with_reducible rfl)); (try simp only [List.getElem_toArray, List.getElem_cons_succ, List.getElem_cons_zero, Act.put, List.setIfInBounds_toArray, List.set_cons_zero, List.set_cons_succ]))) | ((with_reducible show wpPlan _ _ _ _ _ _ _); refine wpPlan_fork ?_ ?_) | ((with_reducible show Owed _ _ _ [] _ _ _ _ _); refine Owed.none_ ?_) | ((with_reducible show Owed _ _ _ _ [] _ _ _ _); refine Owed.nil_ ?_) | ((with_reducible show Owed _ _ _ _ _ _ _ _ _); first | (refine Owed.miss rfl ?_) | (refine Owed.hit ?_ ?_)) | ((with_reducible show Same _ _ _ _ _); intro _; go_simp; done) | (with_reducible exact True.intro) | ((with_reducible show Code.wp _ (Code.region 1 _ true) _ _ _); refine wp_region_plan [(0, 1, []), (2, 1, []), (1, 2, [2]), (3, 2, []), (4, 2, []), (5, 0, []), (6, 1, []), (8, 1, []), (7, 2, [8]), (9, 2, []), (10, 2, []), (11, 0, []), (12, 0, [])] (by kernel_rfl) (by kernel_rfl) (by kernel_rfl) ?_))
  refine (Rounds_any A n c ls B _ (HR0.out.drewN 1) (by simp; omega) (by omega) HS.out).mono ?_
  rintro e w1 ⟨⟨A1, n1, c1, rs, rfl, hz, hv⟩, hb1⟩
  have HV1 := Lib.hid hv
  have HZ1 := Lib.hid hz
  have hs1 : w.heap.size + 1 ≤ w1.heap.size := by have := hb1.size; simpa using this
  have HB1 := Lib.hid (HB0.out.drew.trans (hb1.mono (by simp)))
  have HR1 := Lib.hid ((HR0.out.drewN 1).below (hb1.mono (by simp; omega)))
  have HN1 := Lib.hid ((HN0.out.drewN 1).below hb1 HN0.out.lt)
  clear hb1 hz hv
  have n1c := HN1.out.cell
  have n1l := HN1.out.lt
  go_wp2_with (first | ((with_reducible show wpPlan _ _ _ [] _ _ _); refine wpPlan_nil ?_) | ((with_reducible show wpPlan _ _ _ ((_, 0, _) :: _) _ _ _); first | (refine wpPlan_read0 rfl ?hw rfl (fun _ _ _ => ?_); case hw => ((conv => (lhs; whnf)); first | done | with_reducible rfl)) | (refine wpPlan_skip0 rfl ?hw ?_; (case hw => ((conv => (lhs; whnf)); first | done | with_reducible rfl)); (try simp only [List.getElem_toArray, List.getElem_cons_succ, List.getElem_cons_zero, Act.put, List.setIfInBounds_toArray, List.set_cons_zero, List.set_cons_succ]))) | ((with_reducible show wpPlan _ _ _ ((_, 1, _) :: _) _ _ _); first | (refine wpPlan_read1d rfl ?hw rfl rfl (fun _ _ _ => ?_); case hw => ((conv => (lhs; whnf)); first | done | with_reducible rfl)) | (refine wpPlan_skip1d rfl ?hw ?_; (case hw => ((conv => (lhs; whnf)); first | done | with_reducible rfl)); (try simp only [List.getElem_toArray, List.getElem_cons_succ, List.getElem_cons_zero, Act.put, List.setIfInBounds_toArray, List.set_cons_zero, List.set_cons_succ])) | (refine wpPlan_read1 rfl ?hw rfl (fun _ _ _ => ?_); case hw => ((conv => (lhs; whnf)); first | done | with_reducible rfl))) | ((with_reducible show wpPlan _ _ _ ((_, 2, _) :: _) _ _ _); first | (refine wpPlan_eff rfl ?hw (fun _ _ => ?_); case hw => ((conv => (lhs; whnf)); first | done | with_reducible rfl)) | (refine wpPlan_skip2 rfl ?hw ?_; (case hw => ((conv => (lhs; whnf)); first | done | with_reducible rfl)); (try simp only [List.getElem_toArray, List.getElem_cons_succ, List.getElem_cons_zero, Act.put, List.setIfInBounds_toArray, List.set_cons_zero, List.set_cons_succ]))) | ((with_reducible show wpPlan _ _ _ _ _ _ _); refine wpPlan_fork ?_ ?_) | ((with_reducible show Owed _ _ _ [] _ _ _ _ _); refine Owed.none_ ?_) | ((with_reducible show Owed _ _ _ _ [] _ _ _ _); refine Owed.nil_ ?_) | ((with_reducible show Owed _ _ _ _ _ _ _ _ _); first | (refine Owed.miss rfl ?_) | (refine Owed.hit ?_ ?_)) | ((with_reducible show Same _ _ _ _ _); intro _; go_simp; done) | (with_reducible exact True.intro) | ((with_reducible show Code.wp _ (Code.region 1 _ true) _ _ _); refine wp_region_plan [(0, 1, []), (2, 1, []), (1, 2, [2]), (3, 2, []), (4, 2, []), (5, 0, []), (6, 1, []), (8, 1, []), (7, 2, [8]), (9, 2, []), (10, 2, []), (11, 0, []), (12, 0, [])] (by kernel_rfl) (by kernel_rfl) (by kernel_rfl) ?_))
  refine (RRounds_any A n c ls B _ HR1.out (by omega) (by omega) HS.out).mono ?_
  rintro e w2 ⟨⟨A2, n2, c2, rs', rfl, hz, hv⟩, hb2⟩
  obtain rfl := rounds_same HV1.out hv
  have hs2 := hb2.size
  have HZ2 := Lib.hid hz
  have HZ12 := Lib.hid ((HZ1.out.below hb2).more hb2.size)
  have HB2 := Lib.hid (HB1.out.trans (hb2.mono (by omega)))
  have HR2 := Lib.hid (HR1.out.below (hb2.mono (by omega)))
  have HN2 := Lib.hid (HN1.out.below hb2 HN1.out.lt)
  have hln := rounds_lens (by rw [HL.out]; exact hn) HV1.out
  have hn1 : n1 ≤ 1000000000000 := by have := HZ1.out.len; omega
  have HLN := Lib.hid hln.2
  clear hb2 hz hv hln
  have n2c := HN2.out.cell
  have n2l := HN2.out.lt
  go_wp2_with (first | ((with_reducible show wpPlan _ _ _ [] _ _ _); refine wpPlan_nil ?_) | ((with_reducible show wpPlan _ _ _ ((_, 0, _) :: _) _ _ _); first | (refine wpPlan_read0 rfl ?hw rfl (fun _ _ _ => ?_); case hw => ((conv => (lhs; whnf)); first | done | with_reducible rfl)) | (refine wpPlan_skip0 rfl ?hw ?_; (case hw => ((conv => (lhs; whnf)); first | done | with_reducible rfl)); (try simp only [List.getElem_toArray, List.getElem_cons_succ, List.getElem_cons_zero, Act.put, List.setIfInBounds_toArray, List.set_cons_zero, List.set_cons_succ]))) | ((with_reducible show wpPlan _ _ _ ((_, 1, _) :: _) _ _ _); first | (refine wpPlan_read1d rfl ?hw rfl rfl (fun _ _ _ => ?_); case hw => ((conv => (lhs; whnf)); first | done | with_reducible rfl)) | (refine wpPlan_skip1d rfl ?hw ?_; (case hw => ((conv => (lhs; whnf)); first | done | with_reducible rfl)); (try simp only [List.getElem_toArray, List.getElem_cons_succ, List.getElem_cons_zero, Act.put, List.setIfInBounds_toArray, List.set_cons_zero, List.set_cons_succ])) | (refine wpPlan_read1 rfl ?hw rfl (fun _ _ _ => ?_); case hw => ((conv => (lhs; whnf)); first | done | with_reducible rfl))) | ((with_reducible show wpPlan _ _ _ ((_, 2, _) :: _) _ _ _); first | (refine wpPlan_eff rfl ?hw (fun _ _ => ?_); case hw => ((conv => (lhs; whnf)); first | done | with_reducible rfl)) | (refine wpPlan_skip2 rfl ?hw ?_; (case hw => ((conv => (lhs; whnf)); first | done | with_reducible rfl)); (try simp only [List.getElem_toArray, List.getElem_cons_succ, List.getElem_cons_zero, Act.put, List.setIfInBounds_toArray, List.set_cons_zero, List.set_cons_succ]))) | ((with_reducible show wpPlan _ _ _ _ _ _ _); refine wpPlan_fork ?_ ?_) | ((with_reducible show Owed _ _ _ [] _ _ _ _ _); refine Owed.none_ ?_) | ((with_reducible show Owed _ _ _ _ [] _ _ _ _); refine Owed.nil_ ?_) | ((with_reducible show Owed _ _ _ _ _ _ _ _ _); first | (refine Owed.miss rfl ?_) | (refine Owed.hit ?_ ?_)) | ((with_reducible show Same _ _ _ _ _); intro _; go_simp; done) | (with_reducible exact True.intro) | ((with_reducible show Code.wp _ (Code.region 1 _ true) _ _ _); refine wp_region_plan [(0, 1, []), (2, 1, []), (1, 2, [2]), (3, 2, []), (4, 2, []), (5, 0, []), (6, 1, []), (8, 1, []), (7, 2, [8]), (9, 2, []), (10, 2, []), (11, 0, []), (12, 0, [])] (by kernel_rfl) (by kernel_rfl) (by kernel_rfl) ?_))
  refine (sets_any A1 A2 n1 c1 n2 c2 w2.heap.size rs rs _ HZ12.out HZ2.out (Nat.le_refl _) hn1 HLN.out).mono ?_
  rw [show decide (rs = rs) = true from decide_eq_true rfl]
  rintro e w3 ⟨rfl, hb3⟩
  have hs3 := hb3.size
  have HB3 := Lib.hid (HB2.out.trans (hb3.mono (by omega)))
  have HR3 := Lib.hid (HR2.out.below (hb3.mono (by omega)))
  have HN3 := Lib.hid (HN2.out.below hb3 HN2.out.lt)
  clear hb3
  have n3c := HN3.out.cell
  have n3l := HN3.out.lt
  go_wp2_with (first | ((with_reducible show wpPlan _ _ _ [] _ _ _); refine wpPlan_nil ?_) | ((with_reducible show wpPlan _ _ _ ((_, 0, _) :: _) _ _ _); first | (refine wpPlan_read0 rfl ?hw rfl (fun _ _ _ => ?_); case hw => ((conv => (lhs; whnf)); first | done | with_reducible rfl)) | (refine wpPlan_skip0 rfl ?hw ?_; (case hw => ((conv => (lhs; whnf)); first | done | with_reducible rfl)); (try simp only [List.getElem_toArray, List.getElem_cons_succ, List.getElem_cons_zero, Act.put, List.setIfInBounds_toArray, List.set_cons_zero, List.set_cons_succ]))) | ((with_reducible show wpPlan _ _ _ ((_, 1, _) :: _) _ _ _); first | (refine wpPlan_read1d rfl ?hw rfl rfl (fun _ _ _ => ?_); case hw => ((conv => (lhs; whnf)); first | done | with_reducible rfl)) | (refine wpPlan_skip1d rfl ?hw ?_; (case hw => ((conv => (lhs; whnf)); first | done | with_reducible rfl)); (try simp only [List.getElem_toArray, List.getElem_cons_succ, List.getElem_cons_zero, Act.put, List.setIfInBounds_toArray, List.set_cons_zero, List.set_cons_succ])) | (refine wpPlan_read1 rfl ?hw rfl (fun _ _ _ => ?_); case hw => ((conv => (lhs; whnf)); first | done | with_reducible rfl))) | ((with_reducible show wpPlan _ _ _ ((_, 2, _) :: _) _ _ _); first | (refine wpPlan_eff rfl ?hw (fun _ _ => ?_); case hw => ((conv => (lhs; whnf)); first | done | with_reducible rfl)) | (refine wpPlan_skip2 rfl ?hw ?_; (case hw => ((conv => (lhs; whnf)); first | done | with_reducible rfl)); (try simp only [List.getElem_toArray, List.getElem_cons_succ, List.getElem_cons_zero, Act.put, List.setIfInBounds_toArray, List.set_cons_zero, List.set_cons_succ]))) | ((with_reducible show wpPlan _ _ _ _ _ _ _); refine wpPlan_fork ?_ ?_) | ((with_reducible show Owed _ _ _ [] _ _ _ _ _); refine Owed.none_ ?_) | ((with_reducible show Owed _ _ _ _ [] _ _ _ _); refine Owed.nil_ ?_) | ((with_reducible show Owed _ _ _ _ _ _ _ _ _); first | (refine Owed.miss rfl ?_) | (refine Owed.hit ?_ ?_)) | ((with_reducible show Same _ _ _ _ _); intro _; go_simp; done) | (with_reducible exact True.intro) | ((with_reducible show Code.wp _ (Code.region 1 _ true) _ _ _); refine wp_region_plan [(0, 1, []), (2, 1, []), (1, 2, [2]), (3, 2, []), (4, 2, []), (5, 0, []), (6, 1, []), (8, 1, []), (7, 2, [8]), (9, 2, []), (10, 2, []), (11, 0, []), (12, 0, [])] (by kernel_rfl) (by kernel_rfl) (by kernel_rfl) ?_))
  refine (Classes_any A n c ls B _ HR3.out (by omega) (by omega) HS.out).mono ?_
  rintro e w4 ⟨⟨A4, n4, c4, cl, rfl, hz, hv⟩, hb4⟩
  have HV4 := Lib.hid hv
  have HZ4 := Lib.hid hz
  have hs4 := hb4.size
  have HB4 := Lib.hid (HB3.out.trans (hb4.mono (by omega)))
  have HR4 := Lib.hid (HR3.out.below (hb4.mono (by omega)))
  have HN4 := Lib.hid (HN3.out.below hb4 HN3.out.lt)
  clear hb4 hz hv
  have n4c := HN4.out.cell
  have n4l := HN4.out.lt
  go_wp2_with (first | ((with_reducible show wpPlan _ _ _ [] _ _ _); refine wpPlan_nil ?_) | ((with_reducible show wpPlan _ _ _ ((_, 0, _) :: _) _ _ _); first | (refine wpPlan_read0 rfl ?hw rfl (fun _ _ _ => ?_); case hw => ((conv => (lhs; whnf)); first | done | with_reducible rfl)) | (refine wpPlan_skip0 rfl ?hw ?_; (case hw => ((conv => (lhs; whnf)); first | done | with_reducible rfl)); (try simp only [List.getElem_toArray, List.getElem_cons_succ, List.getElem_cons_zero, Act.put, List.setIfInBounds_toArray, List.set_cons_zero, List.set_cons_succ]))) | ((with_reducible show wpPlan _ _ _ ((_, 1, _) :: _) _ _ _); first | (refine wpPlan_read1d rfl ?hw rfl rfl (fun _ _ _ => ?_); case hw => ((conv => (lhs; whnf)); first | done | with_reducible rfl)) | (refine wpPlan_skip1d rfl ?hw ?_; (case hw => ((conv => (lhs; whnf)); first | done | with_reducible rfl)); (try simp only [List.getElem_toArray, List.getElem_cons_succ, List.getElem_cons_zero, Act.put, List.setIfInBounds_toArray, List.set_cons_zero, List.set_cons_succ])) | (refine wpPlan_read1 rfl ?hw rfl (fun _ _ _ => ?_); case hw => ((conv => (lhs; whnf)); first | done | with_reducible rfl))) | ((with_reducible show wpPlan _ _ _ ((_, 2, _) :: _) _ _ _); first | (refine wpPlan_eff rfl ?hw (fun _ _ => ?_); case hw => ((conv => (lhs; whnf)); first | done | with_reducible rfl)) | (refine wpPlan_skip2 rfl ?hw ?_; (case hw => ((conv => (lhs; whnf)); first | done | with_reducible rfl)); (try simp only [List.getElem_toArray, List.getElem_cons_succ, List.getElem_cons_zero, Act.put, List.setIfInBounds_toArray, List.set_cons_zero, List.set_cons_succ]))) | ((with_reducible show wpPlan _ _ _ _ _ _ _); refine wpPlan_fork ?_ ?_) | ((with_reducible show Owed _ _ _ [] _ _ _ _ _); refine Owed.none_ ?_) | ((with_reducible show Owed _ _ _ _ [] _ _ _ _); refine Owed.nil_ ?_) | ((with_reducible show Owed _ _ _ _ _ _ _ _ _); first | (refine Owed.miss rfl ?_) | (refine Owed.hit ?_ ?_)) | ((with_reducible show Same _ _ _ _ _); intro _; go_simp; done) | (with_reducible exact True.intro) | ((with_reducible show Code.wp _ (Code.region 1 _ true) _ _ _); refine wp_region_plan [(0, 1, []), (2, 1, []), (1, 2, [2]), (3, 2, []), (4, 2, []), (5, 0, []), (6, 1, []), (8, 1, []), (7, 2, [8]), (9, 2, []), (10, 2, []), (11, 0, []), (12, 0, [])] (by kernel_rfl) (by kernel_rfl) (by kernel_rfl) ?_))
  refine (Strong_any A n c ls B _ HR4.out (by omega) (by omega) HS.out).mono ?_
  rintro e w5 ⟨⟨A5, n5, c5, cl', rfl, hz, hv⟩, hb5⟩
  obtain rfl := classes_same HV4.out hv
  have hs5 := hb5.size
  have HZ5 := Lib.hid hz
  have HZ45 := Lib.hid ((HZ4.out.below hb5).more hb5.size)
  have HB5 := Lib.hid (HB4.out.trans (hb5.mono (by omega)))
  have hn4 : n4 ≤ 1000000000000 := by have := HZ4.out.len ncell_len (by decide); have := classes_lens (by rw [HL.out]; exact hn) HV4.out; omega
  clear hb5 hz hv
  go_wp2_with (first | ((with_reducible show wpPlan _ _ _ [] _ _ _); refine wpPlan_nil ?_) | ((with_reducible show wpPlan _ _ _ ((_, 0, _) :: _) _ _ _); first | (refine wpPlan_read0 rfl ?hw rfl (fun _ _ _ => ?_); case hw => ((conv => (lhs; whnf)); first | done | with_reducible rfl)) | (refine wpPlan_skip0 rfl ?hw ?_; (case hw => ((conv => (lhs; whnf)); first | done | with_reducible rfl)); (try simp only [List.getElem_toArray, List.getElem_cons_succ, List.getElem_cons_zero, Act.put, List.setIfInBounds_toArray, List.set_cons_zero, List.set_cons_succ]))) | ((with_reducible show wpPlan _ _ _ ((_, 1, _) :: _) _ _ _); first | (refine wpPlan_read1d rfl ?hw rfl rfl (fun _ _ _ => ?_); case hw => ((conv => (lhs; whnf)); first | done | with_reducible rfl)) | (refine wpPlan_skip1d rfl ?hw ?_; (case hw => ((conv => (lhs; whnf)); first | done | with_reducible rfl)); (try simp only [List.getElem_toArray, List.getElem_cons_succ, List.getElem_cons_zero, Act.put, List.setIfInBounds_toArray, List.set_cons_zero, List.set_cons_succ])) | (refine wpPlan_read1 rfl ?hw rfl (fun _ _ _ => ?_); case hw => ((conv => (lhs; whnf)); first | done | with_reducible rfl))) | ((with_reducible show wpPlan _ _ _ ((_, 2, _) :: _) _ _ _); first | (refine wpPlan_eff rfl ?hw (fun _ _ => ?_); case hw => ((conv => (lhs; whnf)); first | done | with_reducible rfl)) | (refine wpPlan_skip2 rfl ?hw ?_; (case hw => ((conv => (lhs; whnf)); first | done | with_reducible rfl)); (try simp only [List.getElem_toArray, List.getElem_cons_succ, List.getElem_cons_zero, Act.put, List.setIfInBounds_toArray, List.set_cons_zero, List.set_cons_succ]))) | ((with_reducible show wpPlan _ _ _ _ _ _ _); refine wpPlan_fork ?_ ?_) | ((with_reducible show Owed _ _ _ [] _ _ _ _ _); refine Owed.none_ ?_) | ((with_reducible show Owed _ _ _ _ [] _ _ _ _); refine Owed.nil_ ?_) | ((with_reducible show Owed _ _ _ _ _ _ _ _ _); first | (refine Owed.miss rfl ?_) | (refine Owed.hit ?_ ?_)) | ((with_reducible show Same _ _ _ _ _); intro _; go_simp; done) | (with_reducible exact True.intro) | ((with_reducible show Code.wp _ (Code.region 1 _ true) _ _ _); refine wp_region_plan [(0, 1, []), (2, 1, []), (1, 2, [2]), (3, 2, []), (4, 2, []), (5, 0, []), (6, 1, []), (8, 1, []), (7, 2, [8]), (9, 2, []), (10, 2, []), (11, 0, []), (12, 0, [])] (by kernel_rfl) (by kernel_rfl) (by kernel_rfl) ?_))
  refine (intsN_any A4 A5 n4 c4 n5 c5 w5.heap.size cl cl _ HZ45.out HZ5.out (Nat.le_refl _) hn4).mono ?_
  rw [show decide (cl = cl) = true from decide_eq_true rfl]
  rintro e w6 ⟨rfl, hb6⟩
  have HB6 := Lib.hid (HB5.out.trans (hb6.mono (by omega)))
  clear hb6
  go_wp2_with (first | ((with_reducible show wpPlan _ _ _ [] _ _ _); refine wpPlan_nil ?_) | ((with_reducible show wpPlan _ _ _ ((_, 0, _) :: _) _ _ _); first | (refine wpPlan_read0 rfl ?hw rfl (fun _ _ _ => ?_); case hw => ((conv => (lhs; whnf)); first | done | with_reducible rfl)) | (refine wpPlan_skip0 rfl ?hw ?_; (case hw => ((conv => (lhs; whnf)); first | done | with_reducible rfl)); (try simp only [List.getElem_toArray, List.getElem_cons_succ, List.getElem_cons_zero, Act.put, List.setIfInBounds_toArray, List.set_cons_zero, List.set_cons_succ]))) | ((with_reducible show wpPlan _ _ _ ((_, 1, _) :: _) _ _ _); first | (refine wpPlan_read1d rfl ?hw rfl rfl (fun _ _ _ => ?_); case hw => ((conv => (lhs; whnf)); first | done | with_reducible rfl)) | (refine wpPlan_skip1d rfl ?hw ?_; (case hw => ((conv => (lhs; whnf)); first | done | with_reducible rfl)); (try simp only [List.getElem_toArray, List.getElem_cons_succ, List.getElem_cons_zero, Act.put, List.setIfInBounds_toArray, List.set_cons_zero, List.set_cons_succ])) | (refine wpPlan_read1 rfl ?hw rfl (fun _ _ _ => ?_); case hw => ((conv => (lhs; whnf)); first | done | with_reducible rfl))) | ((with_reducible show wpPlan _ _ _ ((_, 2, _) :: _) _ _ _); first | (refine wpPlan_eff rfl ?hw (fun _ _ => ?_); case hw => ((conv => (lhs; whnf)); first | done | with_reducible rfl)) | (refine wpPlan_skip2 rfl ?hw ?_; (case hw => ((conv => (lhs; whnf)); first | done | with_reducible rfl)); (try simp only [List.getElem_toArray, List.getElem_cons_succ, List.getElem_cons_zero, Act.put, List.setIfInBounds_toArray, List.set_cons_zero, List.set_cons_succ]))) | ((with_reducible show wpPlan _ _ _ _ _ _ _); refine wpPlan_fork ?_ ?_) | ((with_reducible show Owed _ _ _ [] _ _ _ _ _); refine Owed.none_ ?_) | ((with_reducible show Owed _ _ _ _ [] _ _ _ _); refine Owed.nil_ ?_) | ((with_reducible show Owed _ _ _ _ _ _ _ _ _); first | (refine Owed.miss rfl ?_) | (refine Owed.hit ?_ ?_)) | ((with_reducible show Same _ _ _ _ _); intro _; go_simp; done) | (with_reducible exact True.intro) | ((with_reducible show Code.wp _ (Code.region 1 _ true) _ _ _); refine wp_region_plan [(0, 1, []), (2, 1, []), (1, 2, [2]), (3, 2, []), (4, 2, []), (5, 0, []), (6, 1, []), (8, 1, []), (7, 2, [8]), (9, 2, []), (10, 2, []), (11, 0, []), (12, 0, [])] (by kernel_rfl) (by kernel_rfl) (by kernel_rfl) ?_))
  go_ret
  exact ⟨rfl, HB6.out⟩

end Go.Proofs.Ytmciinikfjfegaa
