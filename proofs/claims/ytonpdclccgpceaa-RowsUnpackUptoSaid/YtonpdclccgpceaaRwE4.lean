/- the reference's Unpack -/
import Derived.Test.YtonpdclccgpceaaRwE3
namespace Go.Proofs.Ytonpdclccgpceaa
open Go Go.RowKit
set_option maxHeartbeats 8000000

theorem sealB_iff {b : List Nat} {m : Nat} (h : b.length = m + 4) : sealB (b.take m) = b ↔ sealedB b = true := by
  have h4 : b.length - 4 = m := by omega
  rw [sealedB, h4, sealB, Bool.and_eq_true]
  refine ⟨fun e => ⟨decide_eq_true (by omega), decide_eq_true ?_⟩, fun e => ?_⟩
  · have h1 := congrArg (List.drop m) e
    rw [← h1]
    have h2 : (b.take m).length = m := by rw [List.length_take]; omega
    exact List.drop_left' h2
  · have h1 := of_decide_eq_true e.2
    rw [← h1, List.take_append_drop]
theorem bytes_take {b : List Nat} (m : Nat) (h : ∀ x ∈ b, x < 256) : ∀ x ∈ b.take m, x < 256 := fun x hx => h x (List.mem_of_mem_take hx)
theorem sealB_byte {l : List Nat} (h : ∀ x ∈ l, x < 256) : ∀ x ∈ sealB l, x < 256 := by
  intro b hb
  rcases List.mem_append.1 hb with h1 | h1
  · exact h b h1
  · have := crcF_in l
    exact sum4_byte this.1 this.2 b h1
theorem beq_str {l l' : List Nat} (h1 : ∀ b ∈ l, b < 256) (h2 : ∀ b ∈ l', b < 256) : ((strN l).toList == (strN l').toList) = decide (l = l') := by
  rw [Bool.eq_iff_iff, decide_eq_true_eq]
  exact Iff.trans ⟨str_eq, fun h => by rw [h]; exact beq_self_eq_true _⟩ (strN_eq h1 h2)

set_option maxRecDepth 100000 in
theorem rfunpack_any (A : Option Addr) (n c B : Nat) (b : List Nat) (w : World) (h : Rd w B 1 A n (cellsOf ucell b)) (hB : B ≤ w.heap.size) (hby : ∀ x ∈ b, x < 256) (hc : n ≤ c) (hn : n ≤ 1000000000000) :
    Calls Try.prog 52 #[.slice A n c] w (UnpPost w b) := by
  have hbl := h.len ucell_len (by decide)
  have HL := Lib.hid hbl
  have HBY := Lib.hid hby
  have H0 := Lib.hid h
  have H := Lib.hid (h.keep (w' := w.alloc (.cells #[.slice none 0 0] 25)) fun p hp => ((Below.refl w.heap.size w).alloc (Nat.le_refl _) (.cells #[.slice none 0 0] 25)).cell (by omega))
  have HT := Lib.hid (Blk.new w 25 #[.slice none 0 0])
  have HB0 := Lib.hid ((Below.refl w.heap.size w).alloc (Nat.le_refl _) (.cells #[.slice none 0 0] 25))
  clear h hby hbl
  go_enter Try.func52, Try.ntmps52
  by_cases h1 : (1048576 : Int) < n
  · have hbl := HL.out
    have tc := HT.out.cell
    have tl := HT.out.lt
    have tf := HT.out.frozen
    have HBB := Lib.hid (HB0.out)
    go_wp2_with (first | ((with_reducible show wpPlan _ _ _ [] _ _ _); refine wpPlan_nil ?_) | ((with_reducible show wpPlan _ _ _ ((_, 0, _) :: _) _ _ _); first | (refine wpPlan_read0 rfl ?hw rfl (fun _ _ _ => ?_); case hw => ((conv => (lhs; whnf)); first | done | with_reducible rfl)) | (refine wpPlan_skip0 rfl ?hw ?_; (case hw => ((conv => (lhs; whnf)); first | done | with_reducible rfl)); (try simp only [List.getElem_toArray, List.getElem_cons_succ, List.getElem_cons_zero, Act.put, List.setIfInBounds_toArray, List.set_cons_zero, List.set_cons_succ]))) | ((with_reducible show wpPlan _ _ _ ((_, 1, _) :: _) _ _ _); first | (refine wpPlan_read1d rfl ?hw rfl rfl (fun _ _ _ => ?_); case hw => ((conv => (lhs; whnf)); first | done | with_reducible rfl)) | (refine wpPlan_skip1d rfl ?hw ?_; (case hw => ((conv => (lhs; whnf)); first | done | with_reducible rfl)); (try simp only [List.getElem_toArray, List.getElem_cons_succ, List.getElem_cons_zero, Act.put, List.setIfInBounds_toArray, List.set_cons_zero, List.set_cons_succ])) | (refine wpPlan_read1 rfl ?hw rfl (fun _ _ _ => ?_); case hw => ((conv => (lhs; whnf)); first | done | with_reducible rfl))) | ((with_reducible show wpPlan _ _ _ ((_, 2, _) :: _) _ _ _); first | (refine wpPlan_eff rfl ?hw (fun _ _ => ?_); case hw => ((conv => (lhs; whnf)); first | done | with_reducible rfl)) | (refine wpPlan_skip2 rfl ?hw ?_; (case hw => ((conv => (lhs; whnf)); first | done | with_reducible rfl)); (try simp only [List.getElem_toArray, List.getElem_cons_succ, List.getElem_cons_zero, Act.put, List.setIfInBounds_toArray, List.set_cons_zero, List.set_cons_succ]))) | ((with_reducible show wpPlan _ _ _ _ _ _ _); refine wpPlan_fork ?_ ?_) | ((with_reducible show Owed _ _ _ [] _ _ _ _ _); refine Owed.none_ ?_) | ((with_reducible show Owed _ _ _ _ [] _ _ _ _); refine Owed.nil_ ?_) | ((with_reducible show Owed _ _ _ _ _ _ _ _ _); first | (refine Owed.miss rfl ?_) | (refine Owed.hit ?_ ?_)) | ((with_reducible show Same _ _ _ _ _); intro _; go_simp; done) | (with_reducible exact True.intro) | ((with_reducible show Code.wp _ (Code.region 6 _ true) _ _ _); refine wp_region_plan [(0, 0, []), (1, 0, []), (2, 1, []), (5, 0, []), (6, 1, []), (3, 2, [6]), (4, 1, []), (7, 1, [])] (by kernel_rfl) (by kernel_rfl) (by kernel_rfl) ?_) | ((with_reducible show Code.wp _ (Code.region 9 _ true) _ _ _); refine wp_region_plan [(0, 0, []), (1, 1, []), (2, 0, []), (3, 1, []), (4, 2, []), (5, 1, []), (6, 0, []), (7, 0, []), (8, 1, []), (11, 0, []), (12, 1, []), (9, 2, [12]), (10, 1, []), (13, 1, []), (14, 0, [])] (by kernel_rfl) (by kernel_rfl) (by kernel_rfl) ?_))
    refine bodyPost_ret (v := .tuple #[.agg #[.slice none 0 0], .int .i64 10]) (by simp [results, Try.results52, go_sem]) rfl ?_
    exact unp_bad HBB.out (UnpRel.full (by omega))
  by_cases h2 : (n : Int) < 8
  · have hbl := HL.out
    have tc := HT.out.cell
    have tl := HT.out.lt
    have tf := HT.out.frozen
    have HBB := Lib.hid (HB0.out)
    go_wp2_with (first | ((with_reducible show wpPlan _ _ _ [] _ _ _); refine wpPlan_nil ?_) | ((with_reducible show wpPlan _ _ _ ((_, 0, _) :: _) _ _ _); first | (refine wpPlan_read0 rfl ?hw rfl (fun _ _ _ => ?_); case hw => ((conv => (lhs; whnf)); first | done | with_reducible rfl)) | (refine wpPlan_skip0 rfl ?hw ?_; (case hw => ((conv => (lhs; whnf)); first | done | with_reducible rfl)); (try simp only [List.getElem_toArray, List.getElem_cons_succ, List.getElem_cons_zero, Act.put, List.setIfInBounds_toArray, List.set_cons_zero, List.set_cons_succ]))) | ((with_reducible show wpPlan _ _ _ ((_, 1, _) :: _) _ _ _); first | (refine wpPlan_read1d rfl ?hw rfl rfl (fun _ _ _ => ?_); case hw => ((conv => (lhs; whnf)); first | done | with_reducible rfl)) | (refine wpPlan_skip1d rfl ?hw ?_; (case hw => ((conv => (lhs; whnf)); first | done | with_reducible rfl)); (try simp only [List.getElem_toArray, List.getElem_cons_succ, List.getElem_cons_zero, Act.put, List.setIfInBounds_toArray, List.set_cons_zero, List.set_cons_succ])) | (refine wpPlan_read1 rfl ?hw rfl (fun _ _ _ => ?_); case hw => ((conv => (lhs; whnf)); first | done | with_reducible rfl))) | ((with_reducible show wpPlan _ _ _ ((_, 2, _) :: _) _ _ _); first | (refine wpPlan_eff rfl ?hw (fun _ _ => ?_); case hw => ((conv => (lhs; whnf)); first | done | with_reducible rfl)) | (refine wpPlan_skip2 rfl ?hw ?_; (case hw => ((conv => (lhs; whnf)); first | done | with_reducible rfl)); (try simp only [List.getElem_toArray, List.getElem_cons_succ, List.getElem_cons_zero, Act.put, List.setIfInBounds_toArray, List.set_cons_zero, List.set_cons_succ]))) | ((with_reducible show wpPlan _ _ _ _ _ _ _); refine wpPlan_fork ?_ ?_) | ((with_reducible show Owed _ _ _ [] _ _ _ _ _); refine Owed.none_ ?_) | ((with_reducible show Owed _ _ _ _ [] _ _ _ _); refine Owed.nil_ ?_) | ((with_reducible show Owed _ _ _ _ _ _ _ _ _); first | (refine Owed.miss rfl ?_) | (refine Owed.hit ?_ ?_)) | ((with_reducible show Same _ _ _ _ _); intro _; go_simp; done) | (with_reducible exact True.intro) | ((with_reducible show Code.wp _ (Code.region 6 _ true) _ _ _); refine wp_region_plan [(0, 0, []), (1, 0, []), (2, 1, []), (5, 0, []), (6, 1, []), (3, 2, [6]), (4, 1, []), (7, 1, [])] (by kernel_rfl) (by kernel_rfl) (by kernel_rfl) ?_) | ((with_reducible show Code.wp _ (Code.region 9 _ true) _ _ _); refine wp_region_plan [(0, 0, []), (1, 1, []), (2, 0, []), (3, 1, []), (4, 2, []), (5, 1, []), (6, 0, []), (7, 0, []), (8, 1, []), (11, 0, []), (12, 1, []), (9, 2, [12]), (10, 1, []), (13, 1, []), (14, 0, [])] (by kernel_rfl) (by kernel_rfl) (by kernel_rfl) ?_))
    refine bodyPost_ret (v := .tuple #[.agg #[.slice none 0 0], .int .i64 23]) (by simp [results, Try.results52, go_sem]) rfl ?_
    exact unp_bad HBB.out (UnpRel.short (by omega) (by omega))
  obtain ⟨m, hm⟩ : ∃ m, n = m + 4 := ⟨n - 4, by omega⟩
  have HM := Lib.hid hm
  have hV : (n : Int) - 4 = (m : Int) := by omega
  have hm4 : 4 ≤ m := by omega
  have hmn : m ≤ n := by omega
  have hmx : m ≤ 1048576 := by omega
  clear hm
  have HLI := Lib.hid (show ¬ 1048576 < b.length ∧ ¬ b.length < 8 by rw [HL.out]; omega)
  have HLM := Lib.hid (show b.length = m + 4 by rw [HL.out, HM.out])
  obtain ⟨b0, o0, rfl, hb0, _⟩ := H.out.2 (by omega)
  have HTK := Lib.hid (H.out.utake hmn)
  have kb1 := conv_any (c := c) ((w.alloc (.cells #[.slice none 0 0] 25)).drew) (H.out.drewN 1) (by omega)
  go_wp2_with (first | ((with_reducible show wpPlan _ _ _ [] _ _ _); refine wpPlan_nil ?_) | ((with_reducible show wpPlan _ _ _ ((_, 0, _) :: _) _ _ _); first | (refine wpPlan_read0 rfl ?hw rfl (fun _ _ _ => ?_); case hw => ((conv => (lhs; whnf)); first | done | with_reducible rfl)) | (refine wpPlan_skip0 rfl ?hw ?_; (case hw => ((conv => (lhs; whnf)); first | done | with_reducible rfl)); (try simp only [List.getElem_toArray, List.getElem_cons_succ, List.getElem_cons_zero, Act.put, List.setIfInBounds_toArray, List.set_cons_zero, List.set_cons_succ]))) | ((with_reducible show wpPlan _ _ _ ((_, 1, _) :: _) _ _ _); first | (refine wpPlan_read1d rfl ?hw rfl rfl (fun _ _ _ => ?_); case hw => ((conv => (lhs; whnf)); first | done | with_reducible rfl)) | (refine wpPlan_skip1d rfl ?hw ?_; (case hw => ((conv => (lhs; whnf)); first | done | with_reducible rfl)); (try simp only [List.getElem_toArray, List.getElem_cons_succ, List.getElem_cons_zero, Act.put, List.setIfInBounds_toArray, List.set_cons_zero, List.set_cons_succ])) | (refine wpPlan_read1 rfl ?hw rfl (fun _ _ _ => ?_); case hw => ((conv => (lhs; whnf)); first | done | with_reducible rfl))) | ((with_reducible show wpPlan _ _ _ ((_, 2, _) :: _) _ _ _); first | (refine wpPlan_eff rfl ?hw (fun _ _ => ?_); case hw => ((conv => (lhs; whnf)); first | done | with_reducible rfl)) | (refine wpPlan_skip2 rfl ?hw ?_; (case hw => ((conv => (lhs; whnf)); first | done | with_reducible rfl)); (try simp only [List.getElem_toArray, List.getElem_cons_succ, List.getElem_cons_zero, Act.put, List.setIfInBounds_toArray, List.set_cons_zero, List.set_cons_succ]))) | ((with_reducible show wpPlan _ _ _ _ _ _ _); refine wpPlan_fork ?_ ?_) | ((with_reducible show Owed _ _ _ [] _ _ _ _ _); refine Owed.none_ ?_) | ((with_reducible show Owed _ _ _ _ [] _ _ _ _); refine Owed.nil_ ?_) | ((with_reducible show Owed _ _ _ _ _ _ _ _ _); first | (refine Owed.miss rfl ?_) | (refine Owed.hit ?_ ?_)) | ((with_reducible show Same _ _ _ _ _); intro _; go_simp; done) | (with_reducible exact True.intro) | ((with_reducible show Code.wp _ (Code.region 6 _ true) _ _ _); refine wp_region_plan [(0, 0, []), (1, 0, []), (2, 1, []), (5, 0, []), (6, 1, []), (3, 2, [6]), (4, 1, []), (7, 1, [])] (by kernel_rfl) (by kernel_rfl) (by kernel_rfl) ?_) | ((with_reducible show Code.wp _ (Code.region 9 _ true) _ _ _); refine wp_region_plan [(0, 0, []), (1, 1, []), (2, 0, []), (3, 1, []), (4, 2, []), (5, 1, []), (6, 0, []), (7, 0, []), (8, 1, []), (11, 0, []), (12, 1, []), (9, 2, [12]), (10, 1, []), (13, 1, []), (14, 0, [])] (by kernel_rfl) (by kernel_rfl) (by kernel_rfl) ?_))
  refine (sealed_any ⟨b0, o0, none⟩ m c B (b.take m) _ (HTK.out.drewN 1) (by simp; omega) (bytes_take m HBY.out) (by omega) (by omega)).mono ?_
  rintro e w3 ⟨v3, rfl, ho3, hb3, _⟩
  have hb3' : Below (w.alloc (.cells #[.slice none 0 0] 25)).heap.size (w.alloc (.cells #[.slice none 0 0] 25)) w3 := (Below.refl _ _).drew.trans hb3
  have HB3 := Lib.hid (HB0.out.trans (hb3'.mono (by simp)))
  have HT3 := Lib.hid (HT.out.below hb3' (by simp))
  have hsl : (sealB (b.take m)).length = n := by
    have h1 := HLM.out
    rw [sealB, List.length_append, sum4_len, List.length_take, HM.out]
    omega
  obtain ⟨A3, c3, rfl, _, _⟩ := ho3.form
  have hr3 := ho3.rd
  rw [hsl] at hr3 ⊢
  obtain ⟨b3, o3, rfl, _⟩ := hr3.2 (by omega)
  have HH3 := Lib.hid (H0.out.keep (w' := w3) fun p hp => HB3.out.cell (by omega))
  have kb3 := conv_any (c := c) w3 HH3.out (by omega)
  have ks3 := conv_any (c := c3) w3 hr3 (by omega)
  have hq := beq_str (sealB_byte (bytes_take m HBY.out)) HBY.out
  rw [show decide (sealB (b.take m) = b) = sealedB b from by rw [Bool.eq_iff_iff, decide_eq_true_eq]; exact sealB_iff HLM.out] at hq
  have hs3 := HB3.out.size
  have hs31 : w.heap.size + 1 ≤ w3.heap.size := Nat.le_trans (by simp) hb3'.size
  clear ho3 hb3 hb3' hr3 hsl
  obtain ⟨sb, hsb⟩ : ∃ sb, sealedB b = sb := ⟨_, rfl⟩
  rw [hsb] at hq
  have HSB := Lib.hid hsb
  clear hsb
  cases sb
  · skip
    have hput := (HT3.out.put 0 (.slice none 0 0)).cell 0
    have tc := HT3.out.cell
    have tl := HT3.out.lt
    have tf := HT3.out.frozen
    have HBB := Lib.hid ((HB3.out).setCell (p := ⟨w.heap.size, 0, none⟩) (Nat.le_refl _) (.slice none 0 0))
    go_wp2_with (first | ((with_reducible show wpPlan _ _ _ [] _ _ _); refine wpPlan_nil ?_) | ((with_reducible show wpPlan _ _ _ ((_, 0, _) :: _) _ _ _); first | (refine wpPlan_read0 rfl ?hw rfl (fun _ _ _ => ?_); case hw => ((conv => (lhs; whnf)); first | done | with_reducible rfl)) | (refine wpPlan_skip0 rfl ?hw ?_; (case hw => ((conv => (lhs; whnf)); first | done | with_reducible rfl)); (try simp only [List.getElem_toArray, List.getElem_cons_succ, List.getElem_cons_zero, Act.put, List.setIfInBounds_toArray, List.set_cons_zero, List.set_cons_succ]))) | ((with_reducible show wpPlan _ _ _ ((_, 1, _) :: _) _ _ _); first | (refine wpPlan_read1d rfl ?hw rfl rfl (fun _ _ _ => ?_); case hw => ((conv => (lhs; whnf)); first | done | with_reducible rfl)) | (refine wpPlan_skip1d rfl ?hw ?_; (case hw => ((conv => (lhs; whnf)); first | done | with_reducible rfl)); (try simp only [List.getElem_toArray, List.getElem_cons_succ, List.getElem_cons_zero, Act.put, List.setIfInBounds_toArray, List.set_cons_zero, List.set_cons_succ])) | (refine wpPlan_read1 rfl ?hw rfl (fun _ _ _ => ?_); case hw => ((conv => (lhs; whnf)); first | done | with_reducible rfl))) | ((with_reducible show wpPlan _ _ _ ((_, 2, _) :: _) _ _ _); first | (refine wpPlan_eff rfl ?hw (fun _ _ => ?_); case hw => ((conv => (lhs; whnf)); first | done | with_reducible rfl)) | (refine wpPlan_skip2 rfl ?hw ?_; (case hw => ((conv => (lhs; whnf)); first | done | with_reducible rfl)); (try simp only [List.getElem_toArray, List.getElem_cons_succ, List.getElem_cons_zero, Act.put, List.setIfInBounds_toArray, List.set_cons_zero, List.set_cons_succ]))) | ((with_reducible show wpPlan _ _ _ _ _ _ _); refine wpPlan_fork ?_ ?_) | ((with_reducible show Owed _ _ _ [] _ _ _ _ _); refine Owed.none_ ?_) | ((with_reducible show Owed _ _ _ _ [] _ _ _ _); refine Owed.nil_ ?_) | ((with_reducible show Owed _ _ _ _ _ _ _ _ _); first | (refine Owed.miss rfl ?_) | (refine Owed.hit ?_ ?_)) | ((with_reducible show Same _ _ _ _ _); intro _; go_simp; done) | (with_reducible exact True.intro) | ((with_reducible show Code.wp _ (Code.region 6 _ true) _ _ _); refine wp_region_plan [(0, 0, []), (1, 0, []), (2, 1, []), (5, 0, []), (6, 1, []), (3, 2, [6]), (4, 1, []), (7, 1, [])] (by kernel_rfl) (by kernel_rfl) (by kernel_rfl) ?_) | ((with_reducible show Code.wp _ (Code.region 9 _ true) _ _ _); refine wp_region_plan [(0, 0, []), (1, 1, []), (2, 0, []), (3, 1, []), (4, 2, []), (5, 1, []), (6, 0, []), (7, 0, []), (8, 1, []), (11, 0, []), (12, 1, []), (9, 2, [12]), (10, 1, []), (13, 1, []), (14, 0, [])] (by kernel_rfl) (by kernel_rfl) (by kernel_rfl) ?_))
    refine bodyPost_ret (v := .tuple #[.agg #[.slice none 0 0], .int .i64 24]) (by simp [results, Try.results52, go_sem, hput]) rfl ?_
    exact unp_bad HBB.out (UnpRel.broken HLI.out.1 HLI.out.2 HSB.out)
  go_wp2_with (first | ((with_reducible show wpPlan _ _ _ [] _ _ _); refine wpPlan_nil ?_) | ((with_reducible show wpPlan _ _ _ ((_, 0, _) :: _) _ _ _); first | (refine wpPlan_read0 rfl ?hw rfl (fun _ _ _ => ?_); case hw => ((conv => (lhs; whnf)); first | done | with_reducible rfl)) | (refine wpPlan_skip0 rfl ?hw ?_; (case hw => ((conv => (lhs; whnf)); first | done | with_reducible rfl)); (try simp only [List.getElem_toArray, List.getElem_cons_succ, List.getElem_cons_zero, Act.put, List.setIfInBounds_toArray, List.set_cons_zero, List.set_cons_succ]))) | ((with_reducible show wpPlan _ _ _ ((_, 1, _) :: _) _ _ _); first | (refine wpPlan_read1d rfl ?hw rfl rfl (fun _ _ _ => ?_); case hw => ((conv => (lhs; whnf)); first | done | with_reducible rfl)) | (refine wpPlan_skip1d rfl ?hw ?_; (case hw => ((conv => (lhs; whnf)); first | done | with_reducible rfl)); (try simp only [List.getElem_toArray, List.getElem_cons_succ, List.getElem_cons_zero, Act.put, List.setIfInBounds_toArray, List.set_cons_zero, List.set_cons_succ])) | (refine wpPlan_read1 rfl ?hw rfl (fun _ _ _ => ?_); case hw => ((conv => (lhs; whnf)); first | done | with_reducible rfl))) | ((with_reducible show wpPlan _ _ _ ((_, 2, _) :: _) _ _ _); first | (refine wpPlan_eff rfl ?hw (fun _ _ => ?_); case hw => ((conv => (lhs; whnf)); first | done | with_reducible rfl)) | (refine wpPlan_skip2 rfl ?hw ?_; (case hw => ((conv => (lhs; whnf)); first | done | with_reducible rfl)); (try simp only [List.getElem_toArray, List.getElem_cons_succ, List.getElem_cons_zero, Act.put, List.setIfInBounds_toArray, List.set_cons_zero, List.set_cons_succ]))) | ((with_reducible show wpPlan _ _ _ _ _ _ _); refine wpPlan_fork ?_ ?_) | ((with_reducible show Owed _ _ _ [] _ _ _ _ _); refine Owed.none_ ?_) | ((with_reducible show Owed _ _ _ _ [] _ _ _ _); refine Owed.nil_ ?_) | ((with_reducible show Owed _ _ _ _ _ _ _ _ _); first | (refine Owed.miss rfl ?_) | (refine Owed.hit ?_ ?_)) | ((with_reducible show Same _ _ _ _ _); intro _; go_simp; done) | (with_reducible exact True.intro) | ((with_reducible show Code.wp _ (Code.region 6 _ true) _ _ _); refine wp_region_plan [(0, 0, []), (1, 0, []), (2, 1, []), (5, 0, []), (6, 1, []), (3, 2, [6]), (4, 1, []), (7, 1, [])] (by kernel_rfl) (by kernel_rfl) (by kernel_rfl) ?_) | ((with_reducible show Code.wp _ (Code.region 9 _ true) _ _ _); refine wp_region_plan [(0, 0, []), (1, 1, []), (2, 0, []), (3, 1, []), (4, 2, []), (5, 1, []), (6, 0, []), (7, 0, []), (8, 1, []), (11, 0, []), (12, 1, []), (9, 2, [12]), (10, 1, []), (13, 1, []), (14, 0, [])] (by kernel_rfl) (by kernel_rfl) (by kernel_rfl) ?_))
  clear kb1 kb3 ks3 hq
  refine (upk_any (some ⟨b0, o0, none⟩) m c B (b.take m) _ (HH3.out.utake hmn) (by omega) (bytes_take m HBY.out) hm4 hmx).mono ?_
  rintro e w4 ⟨A4, n4, c4, l4, ok, rfl, ⟨xs4, hR4⟩, hb4, hn4, hl4, hex4⟩
  have HT4 := Lib.hid ((HT3.out.below hb4 HT3.out.lt).alloc (.cells #[.slice A4 n4 c4] 25))
  have HB4 := Lib.hid ((HB3.out.trans (hb4.mono HB3.out.size)).alloc (Nat.le_trans HB3.out.size hb4.size) (.cells #[.slice A4 n4 c4] 25))
  have HN4 := Lib.hid (Blk.new w4 25 #[.slice A4 n4 c4])
  have HRX := Lib.hid hR4
  have HR4 := Lib.hid (hR4.whole.alloc (Nat.le_refl _) (.cells #[.slice A4 n4 c4] 25))
  have HS4 := Lib.hid hl4
  have HX4 := Lib.hid (show ∀ ls', validB ls' = true → packB ls' = b → ok = true ∧ l4 = ls' from fun ls' h1 h2 => hex4 ls' ⟨h1, by
    have := sealB_take (bodyB ls')
    rw [show sealB (bodyB ls') = b from h2, HLM.out, Nat.add_sub_cancel] at this
    exact this, by rw [h2]; exact Nat.le_of_not_lt HLI.out.1⟩)
  have hs4 := hb4.size
  have n4c := HN4.out.cell
  have n4l := HN4.out.lt
  clear hR4 hb4 hl4 hex4
  cases ok
  · skip
    have hput := (HT4.out.put 0 (.slice none 0 0)).cell 0
    have tc := HT4.out.cell
    have tl := HT4.out.lt
    have tf := HT4.out.frozen
    have HBB := Lib.hid ((HB4.out).setCell (p := ⟨w.heap.size, 0, none⟩) (Nat.le_refl _) (.slice none 0 0))
    go_wp2_with (first | ((with_reducible show wpPlan _ _ _ [] _ _ _); refine wpPlan_nil ?_) | ((with_reducible show wpPlan _ _ _ ((_, 0, _) :: _) _ _ _); first | (refine wpPlan_read0 rfl ?hw rfl (fun _ _ _ => ?_); case hw => ((conv => (lhs; whnf)); first | done | with_reducible rfl)) | (refine wpPlan_skip0 rfl ?hw ?_; (case hw => ((conv => (lhs; whnf)); first | done | with_reducible rfl)); (try simp only [List.getElem_toArray, List.getElem_cons_succ, List.getElem_cons_zero, Act.put, List.setIfInBounds_toArray, List.set_cons_zero, List.set_cons_succ]))) | ((with_reducible show wpPlan _ _ _ ((_, 1, _) :: _) _ _ _); first | (refine wpPlan_read1d rfl ?hw rfl rfl (fun _ _ _ => ?_); case hw => ((conv => (lhs; whnf)); first | done | with_reducible rfl)) | (refine wpPlan_skip1d rfl ?hw ?_; (case hw => ((conv => (lhs; whnf)); first | done | with_reducible rfl)); (try simp only [List.getElem_toArray, List.getElem_cons_succ, List.getElem_cons_zero, Act.put, List.setIfInBounds_toArray, List.set_cons_zero, List.set_cons_succ])) | (refine wpPlan_read1 rfl ?hw rfl (fun _ _ _ => ?_); case hw => ((conv => (lhs; whnf)); first | done | with_reducible rfl))) | ((with_reducible show wpPlan _ _ _ ((_, 2, _) :: _) _ _ _); first | (refine wpPlan_eff rfl ?hw (fun _ _ => ?_); case hw => ((conv => (lhs; whnf)); first | done | with_reducible rfl)) | (refine wpPlan_skip2 rfl ?hw ?_; (case hw => ((conv => (lhs; whnf)); first | done | with_reducible rfl)); (try simp only [List.getElem_toArray, List.getElem_cons_succ, List.getElem_cons_zero, Act.put, List.setIfInBounds_toArray, List.set_cons_zero, List.set_cons_succ]))) | ((with_reducible show wpPlan _ _ _ _ _ _ _); refine wpPlan_fork ?_ ?_) | ((with_reducible show Owed _ _ _ [] _ _ _ _ _); refine Owed.none_ ?_) | ((with_reducible show Owed _ _ _ _ [] _ _ _ _); refine Owed.nil_ ?_) | ((with_reducible show Owed _ _ _ _ _ _ _ _ _); first | (refine Owed.miss rfl ?_) | (refine Owed.hit ?_ ?_)) | ((with_reducible show Same _ _ _ _ _); intro _; go_simp; done) | (with_reducible exact True.intro) | ((with_reducible show Code.wp _ (Code.region 6 _ true) _ _ _); refine wp_region_plan [(0, 0, []), (1, 0, []), (2, 1, []), (5, 0, []), (6, 1, []), (3, 2, [6]), (4, 1, []), (7, 1, [])] (by kernel_rfl) (by kernel_rfl) (by kernel_rfl) ?_) | ((with_reducible show Code.wp _ (Code.region 9 _ true) _ _ _); refine wp_region_plan [(0, 0, []), (1, 1, []), (2, 0, []), (3, 1, []), (4, 2, []), (5, 1, []), (6, 0, []), (7, 0, []), (8, 1, []), (11, 0, []), (12, 1, []), (9, 2, [12]), (10, 1, []), (13, 1, []), (14, 0, [])] (by kernel_rfl) (by kernel_rfl) (by kernel_rfl) ?_))
    refine bodyPost_ret (v := .tuple #[.agg #[.slice none 0 0], .int .i64 22]) (by simp [results, Try.results52, go_sem, hput]) rfl ?_
    exact unp_bad HBB.out.drew (UnpRel.none HLI.out.1 HLI.out.2 HSB.out fun ls' h1 h2 => by cases (HX4.out ls' h1 h2).1)
  go_wp2_with (first | ((with_reducible show wpPlan _ _ _ [] _ _ _); refine wpPlan_nil ?_) | ((with_reducible show wpPlan _ _ _ ((_, 0, _) :: _) _ _ _); first | (refine wpPlan_read0 rfl ?hw rfl (fun _ _ _ => ?_); case hw => ((conv => (lhs; whnf)); first | done | with_reducible rfl)) | (refine wpPlan_skip0 rfl ?hw ?_; (case hw => ((conv => (lhs; whnf)); first | done | with_reducible rfl)); (try simp only [List.getElem_toArray, List.getElem_cons_succ, List.getElem_cons_zero, Act.put, List.setIfInBounds_toArray, List.set_cons_zero, List.set_cons_succ]))) | ((with_reducible show wpPlan _ _ _ ((_, 1, _) :: _) _ _ _); first | (refine wpPlan_read1d rfl ?hw rfl rfl (fun _ _ _ => ?_); case hw => ((conv => (lhs; whnf)); first | done | with_reducible rfl)) | (refine wpPlan_skip1d rfl ?hw ?_; (case hw => ((conv => (lhs; whnf)); first | done | with_reducible rfl)); (try simp only [List.getElem_toArray, List.getElem_cons_succ, List.getElem_cons_zero, Act.put, List.setIfInBounds_toArray, List.set_cons_zero, List.set_cons_succ])) | (refine wpPlan_read1 rfl ?hw rfl (fun _ _ _ => ?_); case hw => ((conv => (lhs; whnf)); first | done | with_reducible rfl))) | ((with_reducible show wpPlan _ _ _ ((_, 2, _) :: _) _ _ _); first | (refine wpPlan_eff rfl ?hw (fun _ _ => ?_); case hw => ((conv => (lhs; whnf)); first | done | with_reducible rfl)) | (refine wpPlan_skip2 rfl ?hw ?_; (case hw => ((conv => (lhs; whnf)); first | done | with_reducible rfl)); (try simp only [List.getElem_toArray, List.getElem_cons_succ, List.getElem_cons_zero, Act.put, List.setIfInBounds_toArray, List.set_cons_zero, List.set_cons_succ]))) | ((with_reducible show wpPlan _ _ _ _ _ _ _); refine wpPlan_fork ?_ ?_) | ((with_reducible show Owed _ _ _ [] _ _ _ _ _); refine Owed.none_ ?_) | ((with_reducible show Owed _ _ _ _ [] _ _ _ _); refine Owed.nil_ ?_) | ((with_reducible show Owed _ _ _ _ _ _ _ _ _); first | (refine Owed.miss rfl ?_) | (refine Owed.hit ?_ ?_)) | ((with_reducible show Same _ _ _ _ _); intro _; go_simp; done) | (with_reducible exact True.intro) | ((with_reducible show Code.wp _ (Code.region 6 _ true) _ _ _); refine wp_region_plan [(0, 0, []), (1, 0, []), (2, 1, []), (5, 0, []), (6, 1, []), (3, 2, [6]), (4, 1, []), (7, 1, [])] (by kernel_rfl) (by kernel_rfl) (by kernel_rfl) ?_) | ((with_reducible show Code.wp _ (Code.region 9 _ true) _ _ _); refine wp_region_plan [(0, 0, []), (1, 1, []), (2, 0, []), (3, 1, []), (4, 2, []), (5, 1, []), (6, 0, []), (7, 0, []), (8, 1, []), (11, 0, []), (12, 1, []), (9, 2, [12]), (10, 1, []), (13, 1, []), (14, 0, [])] (by kernel_rfl) (by kernel_rfl) (by kernel_rfl) ?_))
  refine (rvalidL_any A4 n4 c4 w4.heap.size l4 _ (HR4.out.drewN 1) (by simp) (by omega) (fun l hl => Nat.le_trans (HS4.out l hl) (by omega))).mono ?_
  rintro e w5 ⟨rfl, hb5⟩
  have hb5' : Below (w4.alloc (.cells #[.slice A4 n4 c4] 25)).heap.size (w4.alloc (.cells #[.slice A4 n4 c4] 25)) w5 := (Below.refl _ _).drew.trans hb5
  have HT5 := Lib.hid (HT4.out.below hb5' HT4.out.lt)
  have HB45 := Lib.hid (((Below.refl w4.heap.size w4).alloc (Nat.le_refl _) (.cells #[.slice A4 n4 c4] 25)).trans (hb5'.mono (by simp)))
  have HB5 := Lib.hid (HB4.out.trans (hb5'.mono HB4.out.size))
  have HN5 := Lib.hid (HN4.out.below hb5' HN4.out.lt)
  have HR5 := Lib.hid (HR4.out.below (hb5'.mono (by simp)))
  have hs5 := hb5'.size
  have n5c := HN5.out.cell
  have n5l := HN5.out.lt
  obtain ⟨vb, hvb⟩ : ∃ vb, validB l4 = vb := ⟨_, rfl⟩
  rw [hvb]
  have HVB := Lib.hid hvb
  clear hvb hb5 hb5'
  cases vb
  · skip
    have hput := (HT5.out.put 0 (.slice none 0 0)).cell 0
    have tc := HT5.out.cell
    have tl := HT5.out.lt
    have tf := HT5.out.frozen
    have HBB := Lib.hid ((HB5.out).setCell (p := ⟨w.heap.size, 0, none⟩) (Nat.le_refl _) (.slice none 0 0))
    go_wp2_with (first | ((with_reducible show wpPlan _ _ _ [] _ _ _); refine wpPlan_nil ?_) | ((with_reducible show wpPlan _ _ _ ((_, 0, _) :: _) _ _ _); first | (refine wpPlan_read0 rfl ?hw rfl (fun _ _ _ => ?_); case hw => ((conv => (lhs; whnf)); first | done | with_reducible rfl)) | (refine wpPlan_skip0 rfl ?hw ?_; (case hw => ((conv => (lhs; whnf)); first | done | with_reducible rfl)); (try simp only [List.getElem_toArray, List.getElem_cons_succ, List.getElem_cons_zero, Act.put, List.setIfInBounds_toArray, List.set_cons_zero, List.set_cons_succ]))) | ((with_reducible show wpPlan _ _ _ ((_, 1, _) :: _) _ _ _); first | (refine wpPlan_read1d rfl ?hw rfl rfl (fun _ _ _ => ?_); case hw => ((conv => (lhs; whnf)); first | done | with_reducible rfl)) | (refine wpPlan_skip1d rfl ?hw ?_; (case hw => ((conv => (lhs; whnf)); first | done | with_reducible rfl)); (try simp only [List.getElem_toArray, List.getElem_cons_succ, List.getElem_cons_zero, Act.put, List.setIfInBounds_toArray, List.set_cons_zero, List.set_cons_succ])) | (refine wpPlan_read1 rfl ?hw rfl (fun _ _ _ => ?_); case hw => ((conv => (lhs; whnf)); first | done | with_reducible rfl))) | ((with_reducible show wpPlan _ _ _ ((_, 2, _) :: _) _ _ _); first | (refine wpPlan_eff rfl ?hw (fun _ _ => ?_); case hw => ((conv => (lhs; whnf)); first | done | with_reducible rfl)) | (refine wpPlan_skip2 rfl ?hw ?_; (case hw => ((conv => (lhs; whnf)); first | done | with_reducible rfl)); (try simp only [List.getElem_toArray, List.getElem_cons_succ, List.getElem_cons_zero, Act.put, List.setIfInBounds_toArray, List.set_cons_zero, List.set_cons_succ]))) | ((with_reducible show wpPlan _ _ _ _ _ _ _); refine wpPlan_fork ?_ ?_) | ((with_reducible show Owed _ _ _ [] _ _ _ _ _); refine Owed.none_ ?_) | ((with_reducible show Owed _ _ _ _ [] _ _ _ _); refine Owed.nil_ ?_) | ((with_reducible show Owed _ _ _ _ _ _ _ _ _); first | (refine Owed.miss rfl ?_) | (refine Owed.hit ?_ ?_)) | ((with_reducible show Same _ _ _ _ _); intro _; go_simp; done) | (with_reducible exact True.intro) | ((with_reducible show Code.wp _ (Code.region 6 _ true) _ _ _); refine wp_region_plan [(0, 0, []), (1, 0, []), (2, 1, []), (5, 0, []), (6, 1, []), (3, 2, [6]), (4, 1, []), (7, 1, [])] (by kernel_rfl) (by kernel_rfl) (by kernel_rfl) ?_) | ((with_reducible show Code.wp _ (Code.region 9 _ true) _ _ _); refine wp_region_plan [(0, 0, []), (1, 1, []), (2, 0, []), (3, 1, []), (4, 2, []), (5, 1, []), (6, 0, []), (7, 0, []), (8, 1, []), (11, 0, []), (12, 1, []), (9, 2, [12]), (10, 1, []), (13, 1, []), (14, 0, [])] (by kernel_rfl) (by kernel_rfl) (by kernel_rfl) ?_))
    refine bodyPost_ret (v := .tuple #[.agg #[.slice none 0 0], .int .i64 22]) (by simp [results, Try.results52, go_sem, hput]) rfl ?_
    exact unp_bad HBB.out (UnpRel.none HLI.out.1 HLI.out.2 HSB.out fun ls' h1 h2 => by have := (HX4.out ls' h1 h2).2; subst this; rw [HVB.out] at h1; cases h1)
  have HH5 := Lib.hid (H0.out.keep (w' := w5) fun p hp => HB5.out.cell (by omega))
  have kb5 := conv_any (c := c) w5 HH5.out (by omega)
  have hs5' : w4.heap.size ≤ w5.heap.size := Nat.le_trans (by simp) hs5
  go_wp2_with (first | ((with_reducible show wpPlan _ _ _ [] _ _ _); refine wpPlan_nil ?_) | ((with_reducible show wpPlan _ _ _ ((_, 0, _) :: _) _ _ _); first | (refine wpPlan_read0 rfl ?hw rfl (fun _ _ _ => ?_); case hw => ((conv => (lhs; whnf)); first | done | with_reducible rfl)) | (refine wpPlan_skip0 rfl ?hw ?_; (case hw => ((conv => (lhs; whnf)); first | done | with_reducible rfl)); (try simp only [List.getElem_toArray, List.getElem_cons_succ, List.getElem_cons_zero, Act.put, List.setIfInBounds_toArray, List.set_cons_zero, List.set_cons_succ]))) | ((with_reducible show wpPlan _ _ _ ((_, 1, _) :: _) _ _ _); first | (refine wpPlan_read1d rfl ?hw rfl rfl (fun _ _ _ => ?_); case hw => ((conv => (lhs; whnf)); first | done | with_reducible rfl)) | (refine wpPlan_skip1d rfl ?hw ?_; (case hw => ((conv => (lhs; whnf)); first | done | with_reducible rfl)); (try simp only [List.getElem_toArray, List.getElem_cons_succ, List.getElem_cons_zero, Act.put, List.setIfInBounds_toArray, List.set_cons_zero, List.set_cons_succ])) | (refine wpPlan_read1 rfl ?hw rfl (fun _ _ _ => ?_); case hw => ((conv => (lhs; whnf)); first | done | with_reducible rfl))) | ((with_reducible show wpPlan _ _ _ ((_, 2, _) :: _) _ _ _); first | (refine wpPlan_eff rfl ?hw (fun _ _ => ?_); case hw => ((conv => (lhs; whnf)); first | done | with_reducible rfl)) | (refine wpPlan_skip2 rfl ?hw ?_; (case hw => ((conv => (lhs; whnf)); first | done | with_reducible rfl)); (try simp only [List.getElem_toArray, List.getElem_cons_succ, List.getElem_cons_zero, Act.put, List.setIfInBounds_toArray, List.set_cons_zero, List.set_cons_succ]))) | ((with_reducible show wpPlan _ _ _ _ _ _ _); refine wpPlan_fork ?_ ?_) | ((with_reducible show Owed _ _ _ [] _ _ _ _ _); refine Owed.none_ ?_) | ((with_reducible show Owed _ _ _ _ [] _ _ _ _); refine Owed.nil_ ?_) | ((with_reducible show Owed _ _ _ _ _ _ _ _ _); first | (refine Owed.miss rfl ?_) | (refine Owed.hit ?_ ?_)) | ((with_reducible show Same _ _ _ _ _); intro _; go_simp; done) | (with_reducible exact True.intro) | ((with_reducible show Code.wp _ (Code.region 6 _ true) _ _ _); refine wp_region_plan [(0, 0, []), (1, 0, []), (2, 1, []), (5, 0, []), (6, 1, []), (3, 2, [6]), (4, 1, []), (7, 1, [])] (by kernel_rfl) (by kernel_rfl) (by kernel_rfl) ?_) | ((with_reducible show Code.wp _ (Code.region 9 _ true) _ _ _); refine wp_region_plan [(0, 0, []), (1, 1, []), (2, 0, []), (3, 1, []), (4, 2, []), (5, 1, []), (6, 0, []), (7, 0, []), (8, 1, []), (11, 0, []), (12, 1, []), (9, 2, [12]), (10, 1, []), (13, 1, []), (14, 0, [])] (by kernel_rfl) (by kernel_rfl) (by kernel_rfl) ?_))
  refine (rpack_any A4 n4 c4 w4.heap.size l4 _ HR5.out hs5' (Pk.of HVB.out)).mono ?_
  rintro e w6 ⟨v6, rfl, ho6, hb6, _⟩
  obtain ⟨A6, c6, rfl, _, _⟩ := own_form ho6
  have hrd6 := Rd.ofOwn ho6
  have hpm := packB_min l4
  obtain ⟨b6, o6, rfl, _⟩ := hrd6.2 (by omega)
  have HT6 := Lib.hid (HT5.out.below hb6 HT5.out.lt)
  have HB6 := Lib.hid (HB5.out.trans (hb6.mono HB5.out.size))
  have HN6 := Lib.hid (HN5.out.below hb6 HN5.out.lt)
  have HB46 := Lib.hid (HB45.out.trans (hb6.mono hs5'))
  have HR6 := Lib.hid (HR5.out.below (hb6.mono hs5'))
  have HH6 := Lib.hid (H0.out.keep (w' := w6) fun p hp => HB6.out.cell (by omega))
  have kb6 := conv_any (c := c) w6 HH6.out (by omega)
  have kp6 := conv_any (c := c6) w6 hrd6 (by omega)
  have hq6 := beq_str (pack_byte l4) HBY.out
  have hs6 := hb6.size
  obtain ⟨qb, hqb⟩ : ∃ qb, decide (packB l4 = b) = qb := ⟨_, rfl⟩
  rw [hqb] at hq6
  have HQ := Lib.hid hqb
  clear ho6 hb6 hrd6 hqb
  cases qb
  · skip
    have hput := (HT6.out.put 0 (.slice none 0 0)).cell 0
    have tc := HT6.out.cell
    have tl := HT6.out.lt
    have tf := HT6.out.frozen
    have HBB := Lib.hid ((HB6.out).setCell (p := ⟨w.heap.size, 0, none⟩) (Nat.le_refl _) (.slice none 0 0))
    go_wp2_with (first | ((with_reducible show wpPlan _ _ _ [] _ _ _); refine wpPlan_nil ?_) | ((with_reducible show wpPlan _ _ _ ((_, 0, _) :: _) _ _ _); first | (refine wpPlan_read0 rfl ?hw rfl (fun _ _ _ => ?_); case hw => ((conv => (lhs; whnf)); first | done | with_reducible rfl)) | (refine wpPlan_skip0 rfl ?hw ?_; (case hw => ((conv => (lhs; whnf)); first | done | with_reducible rfl)); (try simp only [List.getElem_toArray, List.getElem_cons_succ, List.getElem_cons_zero, Act.put, List.setIfInBounds_toArray, List.set_cons_zero, List.set_cons_succ]))) | ((with_reducible show wpPlan _ _ _ ((_, 1, _) :: _) _ _ _); first | (refine wpPlan_read1d rfl ?hw rfl rfl (fun _ _ _ => ?_); case hw => ((conv => (lhs; whnf)); first | done | with_reducible rfl)) | (refine wpPlan_skip1d rfl ?hw ?_; (case hw => ((conv => (lhs; whnf)); first | done | with_reducible rfl)); (try simp only [List.getElem_toArray, List.getElem_cons_succ, List.getElem_cons_zero, Act.put, List.setIfInBounds_toArray, List.set_cons_zero, List.set_cons_succ])) | (refine wpPlan_read1 rfl ?hw rfl (fun _ _ _ => ?_); case hw => ((conv => (lhs; whnf)); first | done | with_reducible rfl))) | ((with_reducible show wpPlan _ _ _ ((_, 2, _) :: _) _ _ _); first | (refine wpPlan_eff rfl ?hw (fun _ _ => ?_); case hw => ((conv => (lhs; whnf)); first | done | with_reducible rfl)) | (refine wpPlan_skip2 rfl ?hw ?_; (case hw => ((conv => (lhs; whnf)); first | done | with_reducible rfl)); (try simp only [List.getElem_toArray, List.getElem_cons_succ, List.getElem_cons_zero, Act.put, List.setIfInBounds_toArray, List.set_cons_zero, List.set_cons_succ]))) | ((with_reducible show wpPlan _ _ _ _ _ _ _); refine wpPlan_fork ?_ ?_) | ((with_reducible show Owed _ _ _ [] _ _ _ _ _); refine Owed.none_ ?_) | ((with_reducible show Owed _ _ _ _ [] _ _ _ _); refine Owed.nil_ ?_) | ((with_reducible show Owed _ _ _ _ _ _ _ _ _); first | (refine Owed.miss rfl ?_) | (refine Owed.hit ?_ ?_)) | ((with_reducible show Same _ _ _ _ _); intro _; go_simp; done) | (with_reducible exact True.intro) | ((with_reducible show Code.wp _ (Code.region 6 _ true) _ _ _); refine wp_region_plan [(0, 0, []), (1, 0, []), (2, 1, []), (5, 0, []), (6, 1, []), (3, 2, [6]), (4, 1, []), (7, 1, [])] (by kernel_rfl) (by kernel_rfl) (by kernel_rfl) ?_) | ((with_reducible show Code.wp _ (Code.region 9 _ true) _ _ _); refine wp_region_plan [(0, 0, []), (1, 1, []), (2, 0, []), (3, 1, []), (4, 2, []), (5, 1, []), (6, 0, []), (7, 0, []), (8, 1, []), (11, 0, []), (12, 1, []), (9, 2, [12]), (10, 1, []), (13, 1, []), (14, 0, [])] (by kernel_rfl) (by kernel_rfl) (by kernel_rfl) ?_))
    refine bodyPost_ret (v := .tuple #[.agg #[.slice none 0 0], .int .i64 22]) (by simp [results, Try.results52, go_sem, hput]) rfl ?_
    exact unp_bad HBB.out (UnpRel.none HLI.out.1 HLI.out.2 HSB.out fun ls' h1 h2 => absurd (by rw [(HX4.out ls' h1 h2).2]; exact h2) (of_decide_eq_false HQ.out))
  have u6c := HT6.out.cell
  have u6l := HT6.out.lt
  have u6f := HT6.out.frozen
  have n6c := HN6.out.cell
  have n6l := HN6.out.lt
  have hput := (HT6.out.put 0 (.slice A4 n4 c4)).cell 0
  have hO9 : Outside (fun g => g = w.heap.size ∨ w4.heap.size ≤ g) w4 (w6.setCell ⟨w.heap.size, 0, none⟩ (.slice A4 n4 c4)) := (Outside.ofBelow (R := fun g => g = w.heap.size ∨ w4.heap.size ≤ g) HB46.out (fun _ h => Or.inr h)).setCell (p := ⟨w.heap.size, 0, none⟩) (Or.inl (Or.inl rfl)) _
  have hs30 : w.heap.size + 1 ≤ w3.heap.size := hs31
  have HZ := Lib.hid (And.intro (HRX.out.out hO9 (fun g h1 h2 => by omega)).whole (HB6.out.setCell (p := ⟨w.heap.size, 0, none⟩) (Nat.le_refl _) (.slice A4 n4 c4)))
  clear hO9
  go_wp2_with (first | ((with_reducible show wpPlan _ _ _ [] _ _ _); refine wpPlan_nil ?_) | ((with_reducible show wpPlan _ _ _ ((_, 0, _) :: _) _ _ _); first | (refine wpPlan_read0 rfl ?hw rfl (fun _ _ _ => ?_); case hw => ((conv => (lhs; whnf)); first | done | with_reducible rfl)) | (refine wpPlan_skip0 rfl ?hw ?_; (case hw => ((conv => (lhs; whnf)); first | done | with_reducible rfl)); (try simp only [List.getElem_toArray, List.getElem_cons_succ, List.getElem_cons_zero, Act.put, List.setIfInBounds_toArray, List.set_cons_zero, List.set_cons_succ]))) | ((with_reducible show wpPlan _ _ _ ((_, 1, _) :: _) _ _ _); first | (refine wpPlan_read1d rfl ?hw rfl rfl (fun _ _ _ => ?_); case hw => ((conv => (lhs; whnf)); first | done | with_reducible rfl)) | (refine wpPlan_skip1d rfl ?hw ?_; (case hw => ((conv => (lhs; whnf)); first | done | with_reducible rfl)); (try simp only [List.getElem_toArray, List.getElem_cons_succ, List.getElem_cons_zero, Act.put, List.setIfInBounds_toArray, List.set_cons_zero, List.set_cons_succ])) | (refine wpPlan_read1 rfl ?hw rfl (fun _ _ _ => ?_); case hw => ((conv => (lhs; whnf)); first | done | with_reducible rfl))) | ((with_reducible show wpPlan _ _ _ ((_, 2, _) :: _) _ _ _); first | (refine wpPlan_eff rfl ?hw (fun _ _ => ?_); case hw => ((conv => (lhs; whnf)); first | done | with_reducible rfl)) | (refine wpPlan_skip2 rfl ?hw ?_; (case hw => ((conv => (lhs; whnf)); first | done | with_reducible rfl)); (try simp only [List.getElem_toArray, List.getElem_cons_succ, List.getElem_cons_zero, Act.put, List.setIfInBounds_toArray, List.set_cons_zero, List.set_cons_succ]))) | ((with_reducible show wpPlan _ _ _ _ _ _ _); refine wpPlan_fork ?_ ?_) | ((with_reducible show Owed _ _ _ [] _ _ _ _ _); refine Owed.none_ ?_) | ((with_reducible show Owed _ _ _ _ [] _ _ _ _); refine Owed.nil_ ?_) | ((with_reducible show Owed _ _ _ _ _ _ _ _ _); first | (refine Owed.miss rfl ?_) | (refine Owed.hit ?_ ?_)) | ((with_reducible show Same _ _ _ _ _); intro _; go_simp; done) | (with_reducible exact True.intro) | ((with_reducible show Code.wp _ (Code.region 6 _ true) _ _ _); refine wp_region_plan [(0, 0, []), (1, 0, []), (2, 1, []), (5, 0, []), (6, 1, []), (3, 2, [6]), (4, 1, []), (7, 1, [])] (by kernel_rfl) (by kernel_rfl) (by kernel_rfl) ?_) | ((with_reducible show Code.wp _ (Code.region 9 _ true) _ _ _); refine wp_region_plan [(0, 0, []), (1, 1, []), (2, 0, []), (3, 1, []), (4, 2, []), (5, 1, []), (6, 0, []), (7, 0, []), (8, 1, []), (11, 0, []), (12, 1, []), (9, 2, [12]), (10, 1, []), (13, 1, []), (14, 0, [])] (by kernel_rfl) (by kernel_rfl) (by kernel_rfl) ?_))
  refine bodyPost_ret (v := .tuple #[.agg #[.slice A4 n4 c4], .int .i64 0]) (by simp [results, Try.results52, go_sem, hput]) rfl ?_
  exact ⟨A4, n4, c4, l4, 0, rfl, HZ.out.1, HZ.out.2, hn4, fun l hl => (Pk.of HVB.out).row hl, fun ls' h1 h2 _ => ⟨rfl, (HX4.out ls' h1 h2).2⟩, fun _ => ⟨HVB.out, of_decide_eq_true HQ.out, Nat.le_of_not_lt HLI.out.1⟩, fun h => absurd rfl h⟩

end Go.Proofs.Ytonpdclccgpceaa
