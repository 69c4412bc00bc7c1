/- RowsDamage: the law's walk -/
import Derived.Test.YtonpdclccgpceaaRwX
import Derived.Test.YtonpdclccgpceaaRwO3
import Derived.Test.YtonpdclccgpceaaRwLr
namespace Go.Proofs.Ytonpdclccgpceaa
open Go Go.RowKit
set_option maxHeartbeats 8000000

theorem cells_set (l : List Nat) (i c : Nat) : (cellsOf ucell l).set i (.int .u8 c) = cellsOf ucell (l.set i c) := by
  induction l generalizing i with
  | nil => rfl
  | cons a l ih =>
    cases i with
    | zero => rfl
    | succ i =>
      have := ih i
      simp only [cellsOf, List.flatMap_cons, ucell, List.cons_append, List.nil_append, List.set_cons_succ] at this ⊢
      rw [this]
theorem cells_get (l : List Nat) (i : Nat) : (cellsOf ucell l)[i]? = (l[i]?).map fun b => Value.int .u8 b := by
  induction l generalizing i with
  | nil => simp [cellsOf]
  | cons a l ih =>
    cases i with
    | zero => rfl
    | succ i =>
      have := ih i
      simp only [cellsOf, List.flatMap_cons, ucell, List.cons_append, List.nil_append, List.getElem?_cons_succ] at this ⊢
      rw [this]
theorem xor8 {a b : Nat} (ha : a < 256) (hb : b < 255) : ∃ x : Nat, bits .xor .u8 (a : Nat) (1 + (b : Nat)) = (x : Int) ∧ x < 256 ∧ x ≠ a := by
  refine ⟨a ^^^ (b + 1), ?_, Nat.xor_lt_two_pow (n := 8) ha (by omega), fun e => ?_⟩
  · have h3 : (2 : Nat) ^ IntKind.u8.bits = 256 := by decide
    have h4 : a ^^^ (b + 1) < 256 := Nat.xor_lt_two_pow (n := 8) ha (by omega)
    rw [show (1 : Int) + (b : Nat) = ((b + 1 : Nat) : Int) by omega]
    obtain ⟨c, hc⟩ : ∃ c, b + 1 = c := ⟨_, rfl⟩
    rw [hc] at h4 ⊢
    unfold bits
    simp
    rw [h3, Nat.mod_eq_of_lt ha, Nat.mod_eq_of_lt (by omega)]
    show ((a ^^^ c : Nat) : Int) % 256 = _
    omega
  · have h1 : (b + 1) ^^^ a = 0 ^^^ a := by rw [Nat.xor_comm, e, Nat.zero_xor]
    have := xor_undo h1
    omega
theorem one_int (w : World) (x : Int) : Rd (w.alloc (.cells #[.int .i64 x] 3)) (w.heap.size + 1) 1 (some ⟨w.heap.size, 0, none⟩) 1 (cellsOf icell [x]) :=
  Rd.ofBlk (Blk.new w _ _) rfl

set_option maxRecDepth 100000 in
theorem rowsDamage_law (w : World) (A : Option Addr) (n c : Nat) (zs : List Int) (h : Rd w w.heap.size 1 A n (cellsOf icell zs)) (hn : n ≤ 1048576) (x1 x2 : Int) :
    Calls Try.prog 6 #[.slice A n c, .int .i64 x1, .int .i64 x2] w fun e w' => e = .returned (.bool true) ∧ Below w.heap.size w w' := by
  have HR0 := Lib.hid h
  clear h
  go_enter Try.func6, Try.ntmps6
  go_wp2_with fail
  refine (tnew_any w.heap.size A n c zs _ HR0.out (Nat.le_refl _)).mono ?_
  rintro e w1 ⟨rfl, hT1, hb1, hz1⟩
  have HT1 := Lib.hid hT1
  have HB1 := Lib.hid hb1
  clear hT1 hb1
  go_wp2_with fail
  refine (ltsGenV_any w.heap.size w.heap.size A n c 0 zs 10 _ HT1.out (by omega) (by omega) (by decide) (by decide)).mono ?_
  rintro e w2 ⟨⟨A2, n2, c2, l2, rfl, hR2, hnc2, hn2, hn2', hs2⟩, _, hO2⟩
  have HR2 := Lib.hid hR2
  have HS2 := Lib.hid hs2
  have HB2 := Lib.hid ((HB1.out.trans (hO2.below (by omega) (fun k hk e => by omega))).alloc (Nat.le_trans HB1.out.size hO2.size) (.cells #[.slice A2 n2 c2] 25))
  have HN2 := Lib.hid (Blk.new w2 25 #[.slice A2 n2 c2])
  have h2c := HN2.out.cell
  have h2l := HN2.out.lt
  have hl2 := hR2.len
  have hta := total_all l2 10 30 (fun l hl => (hs2 l hl).1) (by rw [hl2]; exact hn2)
  clear hR2 hs2 hO2
  go_wp2_with fail
  obtain ⟨hv, _, hC⟩ := packGood_any (c := c2) ((HR2.out.alloc (Nat.le_refl _) (.cells #[.slice A2 n2 c2] 25)).more (by simp)) hn2 hn2' HS2.out (by decide) (by decide)
  have hpf := pack_few (Pk.of hv)
  have HV := Lib.hid hv
  clear hv
  refine hC.mono ?_
  clear hC
  rintro e w3 ⟨A3, m3, c3, rfl, hm3, hc3, ho3, hO3, hb3, hf3⟩
  have hmin := packB_min l2
  have hm3' : m3 ≤ 100000 := by omega
  have hm3'' : 8 ≤ m3 := by omega
  have hHO3 : w3.ownsRow 0 5 1 (.slice A3 m3 c3) m3 (cellsOf ucell (packB l2)) := by rw [hm3] at ho3 ⊢; exact ho3
  obtain ⟨g3, c3', e3, _, hg3⟩ := hHO3.form (by omega)
  simp only [Value.slice.injEq, true_and] at e3
  obtain ⟨rfl, rfl⟩ := e3
  have HO3 := Lib.hid (And.intro hO3 hm3)
  have HW3 := Lib.hid hHO3
  have HF3 := Lib.hid (show w.heap.size ≤ g3 ∧ w2.heap.size + 1 ≤ g3 from by
    have h1 := hf3 g3 rfl
    have h2 := HB2.out.size
    simp at h1
    exact ⟨by have := HB1.out.size; have := hb3.size; simp at h2; omega, h1⟩)
  have HN3 := Lib.hid (And.intro (HB2.out.trans (hb3.mono HB2.out.size)) (And.intro (HN2.out.below hb3 HN2.out.lt) (((HR2.out.alloc (Nat.le_refl _) (.cells #[.slice A2 n2 c2] 25)).more (show w2.heap.size ≤ (w2.alloc (.cells #[.slice A2 n2 c2] 25)).heap.size by simp)).below hb3)))
  have hs3 := hb3.size
  clear hO3 hb3 ho3 hHO3 hm3 hpf hmin hf3 hta
  go_wp2_with fail
  refine (open_any _ m3 _ w3.heap.size (packB l2) _ HO3.out.1 (Nat.le_refl _) (pack_byte l2) hc3 (by omega)).mono ?_
  rintro e w4 ⟨l4, err, hU, hb4, hres⟩
  obtain ⟨rfl, rfl⟩ := hU.good l2 HV.out rfl (by rw [← HO3.out.2]; omega)
  rcases hres with ⟨h, _⟩ | ⟨_, g, vb, vs, rfl, hOp⟩
  · exact absurd rfl h
  have HOP := Lib.hid hOp
  have HP := Lib.hid (show (packB l4).length ≤ 1048576 by rw [← HO3.out.2]; omega)
  have hsz4 := hb4.size
  have hX4 := (HW3.out.alloc (.cells #[] 3)).lt g3 rfl
  have HX4 := Lib.hid (show w4.ownsRow 0 5 1 (.slice (some ⟨g3, 0, none⟩) m3 c3) m3 (cellsOf ucell (packB l4)) ∧ RdL w4 (w2.heap.size + 1) A2 n2 l4 ∧ Blk w4 w2.heap.size 25 #[.slice A2 n2 c2] ∧ Below w.heap.size w w4 from
    ⟨own_out HW3.out (Below.new hb4) (fun _ _ e => e), by
      have h1 := HN3.out.2.2.below (hb4.mono hs3)
      simp at h1
      exact h1, HN3.out.2.1.below hb4 HN3.out.2.1.lt, HN3.out.1.trans (hb4.mono HN3.out.1.size)⟩)
  have h4c := HX4.out.2.2.1.cell
  have h4l := HX4.out.2.2.1.lt
  have hg4 : g3 < w4.heap.size := by omega
  clear hOp hb4 hU h2c h2l hs3 hz1 hX4
  go_wp2_with (first | ((with_reducible show wpPlan _ _ _ [] _ _ _); refine wpPlan_nil ?_) | ((with_reducible show wpPlan _ _ _ ((_, 0, _) :: _) _ _ _); first | (refine wpPlan_read0 rfl ?hw rfl (fun _ _ _ => ?_); case hw => ((conv => (lhs; whnf)); first | done | with_reducible rfl)) | (refine wpPlan_skip0 rfl ?hw ?_; (case hw => ((conv => (lhs; whnf)); first | done | with_reducible rfl)); (try simp only [List.getElem_toArray, List.getElem_cons_succ, List.getElem_cons_zero, Act.put, List.setIfInBounds_toArray, List.set_cons_zero, List.set_cons_succ]))) | ((with_reducible show wpPlan _ _ _ ((_, 1, _) :: _) _ _ _); first | (refine wpPlan_read1d rfl ?hw rfl rfl (fun _ _ _ => ?_); case hw => ((conv => (lhs; whnf)); first | done | with_reducible rfl)) | (refine wpPlan_skip1d rfl ?hw ?_; (case hw => ((conv => (lhs; whnf)); first | done | with_reducible rfl)); (try simp only [List.getElem_toArray, List.getElem_cons_succ, List.getElem_cons_zero, Act.put, List.setIfInBounds_toArray, List.set_cons_zero, List.set_cons_succ])) | (refine wpPlan_read1 rfl ?hw rfl (fun _ _ _ => ?_); case hw => ((conv => (lhs; whnf)); first | done | with_reducible rfl))) | ((with_reducible show wpPlan _ _ _ ((_, 2, _) :: _) _ _ _); first | (refine wpPlan_eff rfl ?hw (fun _ _ => ?_); case hw => ((conv => (lhs; whnf)); first | done | with_reducible rfl)) | (refine wpPlan_skip2 rfl ?hw ?_; (case hw => ((conv => (lhs; whnf)); first | done | with_reducible rfl)); (try simp only [List.getElem_toArray, List.getElem_cons_succ, List.getElem_cons_zero, Act.put, List.setIfInBounds_toArray, List.set_cons_zero, List.set_cons_succ]))) | ((with_reducible show wpPlan _ _ _ _ _ _ _); refine wpPlan_fork ?_ ?_) | ((with_reducible show Owed _ _ _ [] _ _ _ _ _); refine Owed.none_ ?_) | ((with_reducible show Owed _ _ _ _ [] _ _ _ _); refine Owed.nil_ ?_) | ((with_reducible show Owed _ _ _ _ _ _ _ _ _); first | (refine Owed.miss rfl ?_) | (refine Owed.hit ?_ ?_)) | ((with_reducible show Same _ _ _ _ _); intro _; go_simp; done) | (with_reducible exact True.intro) | ((with_reducible show Code.wp _ (Code.region 7 _ true) _ _ _); refine wp_region_plan [(0, 0, []), (1, 0, []), (2, 1, []), (3, 1, []), (4, 0, []), (5, 2, [2, 3]), (6, 2, [2, 3]), (7, 2, [2, 3]), (8, 1, []), (9, 1, []), (10, 1, []), (11, 1, []), (12, 2, [])] (by kernel_rfl) (by kernel_rfl) (by kernel_rfl) ?_) | ((with_reducible show Code.wp _ (Code.region 9 _ true) _ _ _); refine wp_region_plan [(0, 0, []), (1, 1, []), (2, 0, []), (3, 1, []), (4, 1, []), (5, 1, []), (6, 1, []), (7, 0, []), (8, 0, []), (9, 0, []), (11, 1, []), (12, 1, []), (13, 1, []), (14, 1, []), (10, 2, [11, 12, 13, 14]), (15, 2, []), (16, 0, []), (17, 0, []), (18, 2, []), (19, 0, []), (20, 0, [])] (by kernel_rfl) (by kernel_rfl) (by kernel_rfl) ?_))
  refine (tnew_any (w4.heap.size + 1) _ 1 1 [x1] _ (one_int w4 x1) (by simp)).mono ?_
  rintro e w5 ⟨rfl, hT5, hb5, _⟩
  have hz : (w4.alloc (.cells #[.int .i64 x1] 3)).heap.size = w4.heap.size + 1 := by simp
  rw [hz] at hT5 hb5 ⊢
  have hs5 := hb5.size
  have HB5 := Lib.hid (((Below.refl w4.heap.size w4).alloc (Nat.le_refl _) (.cells #[.int .i64 x1] 3)).trans (hb5.mono (by omega)))
  have HT5 := Lib.hid hT5
  have hTl := hT5.blk.lt
  clear hT5 hb5 hz
  go_wp2_with (first | ((with_reducible show wpPlan _ _ _ [] _ _ _); refine wpPlan_nil ?_) | ((with_reducible show wpPlan _ _ _ ((_, 0, _) :: _) _ _ _); first | (refine wpPlan_read0 rfl ?hw rfl (fun _ _ _ => ?_); case hw => ((conv => (lhs; whnf)); first | done | with_reducible rfl)) | (refine wpPlan_skip0 rfl ?hw ?_; (case hw => ((conv => (lhs; whnf)); first | done | with_reducible rfl)); (try simp only [List.getElem_toArray, List.getElem_cons_succ, List.getElem_cons_zero, Act.put, List.setIfInBounds_toArray, List.set_cons_zero, List.set_cons_succ]))) | ((with_reducible show wpPlan _ _ _ ((_, 1, _) :: _) _ _ _); first | (refine wpPlan_read1d rfl ?hw rfl rfl (fun _ _ _ => ?_); case hw => ((conv => (lhs; whnf)); first | done | with_reducible rfl)) | (refine wpPlan_skip1d rfl ?hw ?_; (case hw => ((conv => (lhs; whnf)); first | done | with_reducible rfl)); (try simp only [List.getElem_toArray, List.getElem_cons_succ, List.getElem_cons_zero, Act.put, List.setIfInBounds_toArray, List.set_cons_zero, List.set_cons_succ])) | (refine wpPlan_read1 rfl ?hw rfl (fun _ _ _ => ?_); case hw => ((conv => (lhs; whnf)); first | done | with_reducible rfl))) | ((with_reducible show wpPlan _ _ _ ((_, 2, _) :: _) _ _ _); first | (refine wpPlan_eff rfl ?hw (fun _ _ => ?_); case hw => ((conv => (lhs; whnf)); first | done | with_reducible rfl)) | (refine wpPlan_skip2 rfl ?hw ?_; (case hw => ((conv => (lhs; whnf)); first | done | with_reducible rfl)); (try simp only [List.getElem_toArray, List.getElem_cons_succ, List.getElem_cons_zero, Act.put, List.setIfInBounds_toArray, List.set_cons_zero, List.set_cons_succ]))) | ((with_reducible show wpPlan _ _ _ _ _ _ _); refine wpPlan_fork ?_ ?_) | ((with_reducible show Owed _ _ _ [] _ _ _ _ _); refine Owed.none_ ?_) | ((with_reducible show Owed _ _ _ _ [] _ _ _ _); refine Owed.nil_ ?_) | ((with_reducible show Owed _ _ _ _ _ _ _ _ _); first | (refine Owed.miss rfl ?_) | (refine Owed.hit ?_ ?_)) | ((with_reducible show Same _ _ _ _ _); intro _; go_simp; done) | (with_reducible exact True.intro) | ((with_reducible show Code.wp _ (Code.region 7 _ true) _ _ _); refine wp_region_plan [(0, 0, []), (1, 0, []), (2, 1, []), (3, 1, []), (4, 0, []), (5, 2, [2, 3]), (6, 2, [2, 3]), (7, 2, [2, 3]), (8, 1, []), (9, 1, []), (10, 1, []), (11, 1, []), (12, 2, [])] (by kernel_rfl) (by kernel_rfl) (by kernel_rfl) ?_) | ((with_reducible show Code.wp _ (Code.region 9 _ true) _ _ _); refine wp_region_plan [(0, 0, []), (1, 1, []), (2, 0, []), (3, 1, []), (4, 1, []), (5, 1, []), (6, 1, []), (7, 0, []), (8, 0, []), (9, 0, []), (11, 1, []), (12, 1, []), (13, 1, []), (14, 1, []), (10, 2, [11, 12, 13, 14]), (15, 2, []), (16, 0, []), (17, 0, []), (18, 2, []), (19, 0, []), (20, 0, [])] (by kernel_rfl) (by kernel_rfl) (by kernel_rfl) ?_))
  refine (tnext_any (w4.heap.size + 1) (w4.heap.size + 1) _ 1 1 0 [x1] m3 _ HT5.out (by omega) (by omega) (by omega) (by omega)).mono ?_
  rintro e w6 ⟨⟨r, rfl, hr0, hr1⟩, _, hO6⟩
  obtain ⟨i, rfl⟩ : ∃ i : Nat, r = i := ⟨r.toNat, by omega⟩
  have hi3 : i < m3 := by omega
  obtain ⟨b, hb⟩ : ∃ b, (packB l4)[i]? = some b := ⟨_, List.getElem?_eq_getElem (by rw [← HO3.out.2]; exact hi3)⟩
  have hb256 := pack_byte l4 b (List.mem_of_getElem? hb)
  have HB := Lib.hid hb
  have hB6 : Below w4.heap.size w4 w6 := HB5.out.trans (hO6.below (by omega) (fun k hk e => by omega))
  have HB6 := Lib.hid hB6
  have HW6 := Lib.hid (own_out HX4.out.1 (Below.new hB6) (fun _ _ e => e))
  have p6c : w6.cell? ⟨g3, i, none⟩ = some (.int .u8 (b : Nat)) := by
    rw [HW6.out.cellAt i (by omega), cells_get, HB.out]
    rfl
  have hs6 := hB6.size
  have p6l : g3 < w6.heap.size := by omega
  clear hb hB6 hO6 HT5 hr0
  go_wp2_with (first | ((with_reducible show wpPlan _ _ _ [] _ _ _); refine wpPlan_nil ?_) | ((with_reducible show wpPlan _ _ _ ((_, 0, _) :: _) _ _ _); first | (refine wpPlan_read0 rfl ?hw rfl (fun _ _ _ => ?_); case hw => ((conv => (lhs; whnf)); first | done | with_reducible rfl)) | (refine wpPlan_skip0 rfl ?hw ?_; (case hw => ((conv => (lhs; whnf)); first | done | with_reducible rfl)); (try simp only [List.getElem_toArray, List.getElem_cons_succ, List.getElem_cons_zero, Act.put, List.setIfInBounds_toArray, List.set_cons_zero, List.set_cons_succ]))) | ((with_reducible show wpPlan _ _ _ ((_, 1, _) :: _) _ _ _); first | (refine wpPlan_read1d rfl ?hw rfl rfl (fun _ _ _ => ?_); case hw => ((conv => (lhs; whnf)); first | done | with_reducible rfl)) | (refine wpPlan_skip1d rfl ?hw ?_; (case hw => ((conv => (lhs; whnf)); first | done | with_reducible rfl)); (try simp only [List.getElem_toArray, List.getElem_cons_succ, List.getElem_cons_zero, Act.put, List.setIfInBounds_toArray, List.set_cons_zero, List.set_cons_succ])) | (refine wpPlan_read1 rfl ?hw rfl (fun _ _ _ => ?_); case hw => ((conv => (lhs; whnf)); first | done | with_reducible rfl))) | ((with_reducible show wpPlan _ _ _ ((_, 2, _) :: _) _ _ _); first | (refine wpPlan_eff rfl ?hw (fun _ _ => ?_); case hw => ((conv => (lhs; whnf)); first | done | with_reducible rfl)) | (refine wpPlan_skip2 rfl ?hw ?_; (case hw => ((conv => (lhs; whnf)); first | done | with_reducible rfl)); (try simp only [List.getElem_toArray, List.getElem_cons_succ, List.getElem_cons_zero, Act.put, List.setIfInBounds_toArray, List.set_cons_zero, List.set_cons_succ]))) | ((with_reducible show wpPlan _ _ _ _ _ _ _); refine wpPlan_fork ?_ ?_) | ((with_reducible show Owed _ _ _ [] _ _ _ _ _); refine Owed.none_ ?_) | ((with_reducible show Owed _ _ _ _ [] _ _ _ _); refine Owed.nil_ ?_) | ((with_reducible show Owed _ _ _ _ _ _ _ _ _); first | (refine Owed.miss rfl ?_) | (refine Owed.hit ?_ ?_)) | ((with_reducible show Same _ _ _ _ _); intro _; go_simp; done) | (with_reducible exact True.intro) | ((with_reducible show Code.wp _ (Code.region 7 _ true) _ _ _); refine wp_region_plan [(0, 0, []), (1, 0, []), (2, 1, []), (3, 1, []), (4, 0, []), (5, 2, [2, 3]), (6, 2, [2, 3]), (7, 2, [2, 3]), (8, 1, []), (9, 1, []), (10, 1, []), (11, 1, []), (12, 2, [])] (by kernel_rfl) (by kernel_rfl) (by kernel_rfl) ?_) | ((with_reducible show Code.wp _ (Code.region 9 _ true) _ _ _); refine wp_region_plan [(0, 0, []), (1, 1, []), (2, 0, []), (3, 1, []), (4, 1, []), (5, 1, []), (6, 1, []), (7, 0, []), (8, 0, []), (9, 0, []), (11, 1, []), (12, 1, []), (13, 1, []), (14, 1, []), (10, 2, [11, 12, 13, 14]), (15, 2, []), (16, 0, []), (17, 0, []), (18, 2, []), (19, 0, []), (20, 0, [])] (by kernel_rfl) (by kernel_rfl) (by kernel_rfl) ?_))
  refine (tnew_any (w6.heap.size + 1) _ 1 1 [x2] ((w6.alloc (.cells #[.int .i64 x2] 3)).drew) (one_int w6 x2) (by simp)).mono ?_
  rintro e w7 ⟨rfl, hT7, hb7, _⟩
  have hz : ((w6.alloc (.cells #[.int .i64 x2] 3)).drew).heap.size = w6.heap.size + 1 := by simp
  rw [hz] at hT7 hb7 ⊢
  have hB7 : Below w6.heap.size w6 w7 := ((Below.refl w6.heap.size w6).alloc (Nat.le_refl _) (.cells #[.int .i64 x2] 3)).drew.trans (hb7.mono (by omega))
  have HB7 := Lib.hid hB7
  have HT7 := Lib.hid hT7
  have hTl7 := hT7.blk.lt
  have p7c : w7.cell? ⟨g3, i, none⟩ = some (.int .u8 (b : Nat)) := by rw [hB7.cell p6l]; exact p6c
  have p7l : g3 < w7.heap.size := by have := hB7.size; omega
  clear hT7 hb7 hz hB7
  go_wp2_with (first | ((with_reducible show wpPlan _ _ _ [] _ _ _); refine wpPlan_nil ?_) | ((with_reducible show wpPlan _ _ _ ((_, 0, _) :: _) _ _ _); first | (refine wpPlan_read0 rfl ?hw rfl (fun _ _ _ => ?_); case hw => ((conv => (lhs; whnf)); first | done | with_reducible rfl)) | (refine wpPlan_skip0 rfl ?hw ?_; (case hw => ((conv => (lhs; whnf)); first | done | with_reducible rfl)); (try simp only [List.getElem_toArray, List.getElem_cons_succ, List.getElem_cons_zero, Act.put, List.setIfInBounds_toArray, List.set_cons_zero, List.set_cons_succ]))) | ((with_reducible show wpPlan _ _ _ ((_, 1, _) :: _) _ _ _); first | (refine wpPlan_read1d rfl ?hw rfl rfl (fun _ _ _ => ?_); case hw => ((conv => (lhs; whnf)); first | done | with_reducible rfl)) | (refine wpPlan_skip1d rfl ?hw ?_; (case hw => ((conv => (lhs; whnf)); first | done | with_reducible rfl)); (try simp only [List.getElem_toArray, List.getElem_cons_succ, List.getElem_cons_zero, Act.put, List.setIfInBounds_toArray, List.set_cons_zero, List.set_cons_succ])) | (refine wpPlan_read1 rfl ?hw rfl (fun _ _ _ => ?_); case hw => ((conv => (lhs; whnf)); first | done | with_reducible rfl))) | ((with_reducible show wpPlan _ _ _ ((_, 2, _) :: _) _ _ _); first | (refine wpPlan_eff rfl ?hw (fun _ _ => ?_); case hw => ((conv => (lhs; whnf)); first | done | with_reducible rfl)) | (refine wpPlan_skip2 rfl ?hw ?_; (case hw => ((conv => (lhs; whnf)); first | done | with_reducible rfl)); (try simp only [List.getElem_toArray, List.getElem_cons_succ, List.getElem_cons_zero, Act.put, List.setIfInBounds_toArray, List.set_cons_zero, List.set_cons_succ]))) | ((with_reducible show wpPlan _ _ _ _ _ _ _); refine wpPlan_fork ?_ ?_) | ((with_reducible show Owed _ _ _ [] _ _ _ _ _); refine Owed.none_ ?_) | ((with_reducible show Owed _ _ _ _ [] _ _ _ _); refine Owed.nil_ ?_) | ((with_reducible show Owed _ _ _ _ _ _ _ _ _); first | (refine Owed.miss rfl ?_) | (refine Owed.hit ?_ ?_)) | ((with_reducible show Same _ _ _ _ _); intro _; go_simp; done) | (with_reducible exact True.intro) | ((with_reducible show Code.wp _ (Code.region 7 _ true) _ _ _); refine wp_region_plan [(0, 0, []), (1, 0, []), (2, 1, []), (3, 1, []), (4, 0, []), (5, 2, [2, 3]), (6, 2, [2, 3]), (7, 2, [2, 3]), (8, 1, []), (9, 1, []), (10, 1, []), (11, 1, []), (12, 2, [])] (by kernel_rfl) (by kernel_rfl) (by kernel_rfl) ?_) | ((with_reducible show Code.wp _ (Code.region 9 _ true) _ _ _); refine wp_region_plan [(0, 0, []), (1, 1, []), (2, 0, []), (3, 1, []), (4, 1, []), (5, 1, []), (6, 1, []), (7, 0, []), (8, 0, []), (9, 0, []), (11, 1, []), (12, 1, []), (13, 1, []), (14, 1, []), (10, 2, [11, 12, 13, 14]), (15, 2, []), (16, 0, []), (17, 0, []), (18, 2, []), (19, 0, []), (20, 0, [])] (by kernel_rfl) (by kernel_rfl) (by kernel_rfl) ?_))
  refine (tnext_any (w6.heap.size + 1) (w6.heap.size + 1) _ 1 1 0 [x2] 255 _ HT7.out (by omega) (by omega) (by omega) (by omega)).mono ?_
  rintro e w8 ⟨⟨r, rfl, hr0, hr1⟩, _, hO8⟩
  obtain ⟨v, rfl⟩ : ∃ v : Nat, r = v := ⟨r.toNat, by omega⟩
  have hB8 : Below w6.heap.size w6 w8 := HB7.out.trans (hO8.below (by omega) (fun k hk e => by omega))
  have HB8 := Lib.hid hB8
  have p8c : w8.cell? ⟨g3, i, none⟩ = some (.int .u8 (b : Nat)) := by rw [hB8.cell p6l]; exact p6c
  have p8l : g3 < w8.heap.size := by have := hB8.size; omega
  have HW8 := Lib.hid (own_out HW6.out (Below.new hB8) (fun _ _ e => e))
  have p8f := HW8.out.frozenAt i
  clear hB8 hO8 hr0
  go_wp2_with (first | ((with_reducible show wpPlan _ _ _ [] _ _ _); refine wpPlan_nil ?_) | ((with_reducible show wpPlan _ _ _ ((_, 0, _) :: _) _ _ _); first | (refine wpPlan_read0 rfl ?hw rfl (fun _ _ _ => ?_); case hw => ((conv => (lhs; whnf)); first | done | with_reducible rfl)) | (refine wpPlan_skip0 rfl ?hw ?_; (case hw => ((conv => (lhs; whnf)); first | done | with_reducible rfl)); (try simp only [List.getElem_toArray, List.getElem_cons_succ, List.getElem_cons_zero, Act.put, List.setIfInBounds_toArray, List.set_cons_zero, List.set_cons_succ]))) | ((with_reducible show wpPlan _ _ _ ((_, 1, _) :: _) _ _ _); first | (refine wpPlan_read1d rfl ?hw rfl rfl (fun _ _ _ => ?_); case hw => ((conv => (lhs; whnf)); first | done | with_reducible rfl)) | (refine wpPlan_skip1d rfl ?hw ?_; (case hw => ((conv => (lhs; whnf)); first | done | with_reducible rfl)); (try simp only [List.getElem_toArray, List.getElem_cons_succ, List.getElem_cons_zero, Act.put, List.setIfInBounds_toArray, List.set_cons_zero, List.set_cons_succ])) | (refine wpPlan_read1 rfl ?hw rfl (fun _ _ _ => ?_); case hw => ((conv => (lhs; whnf)); first | done | with_reducible rfl))) | ((with_reducible show wpPlan _ _ _ ((_, 2, _) :: _) _ _ _); first | (refine wpPlan_eff rfl ?hw (fun _ _ => ?_); case hw => ((conv => (lhs; whnf)); first | done | with_reducible rfl)) | (refine wpPlan_skip2 rfl ?hw ?_; (case hw => ((conv => (lhs; whnf)); first | done | with_reducible rfl)); (try simp only [List.getElem_toArray, List.getElem_cons_succ, List.getElem_cons_zero, Act.put, List.setIfInBounds_toArray, List.set_cons_zero, List.set_cons_succ]))) | ((with_reducible show wpPlan _ _ _ _ _ _ _); refine wpPlan_fork ?_ ?_) | ((with_reducible show Owed _ _ _ [] _ _ _ _ _); refine Owed.none_ ?_) | ((with_reducible show Owed _ _ _ _ [] _ _ _ _); refine Owed.nil_ ?_) | ((with_reducible show Owed _ _ _ _ _ _ _ _ _); first | (refine Owed.miss rfl ?_) | (refine Owed.hit ?_ ?_)) | ((with_reducible show Same _ _ _ _ _); intro _; go_simp; done) | (with_reducible exact True.intro) | ((with_reducible show Code.wp _ (Code.region 7 _ true) _ _ _); refine wp_region_plan [(0, 0, []), (1, 0, []), (2, 1, []), (3, 1, []), (4, 0, []), (5, 2, [2, 3]), (6, 2, [2, 3]), (7, 2, [2, 3]), (8, 1, []), (9, 1, []), (10, 1, []), (11, 1, []), (12, 2, [])] (by kernel_rfl) (by kernel_rfl) (by kernel_rfl) ?_) | ((with_reducible show Code.wp _ (Code.region 9 _ true) _ _ _); refine wp_region_plan [(0, 0, []), (1, 1, []), (2, 0, []), (3, 1, []), (4, 1, []), (5, 1, []), (6, 1, []), (7, 0, []), (8, 0, []), (9, 0, []), (11, 1, []), (12, 1, []), (13, 1, []), (14, 1, []), (10, 2, [11, 12, 13, 14]), (15, 2, []), (16, 0, []), (17, 0, []), (18, 2, []), (19, 0, []), (20, 0, [])] (by kernel_rfl) (by kernel_rfl) (by kernel_rfl) ?_))
  obtain ⟨cc, hcc, hcc1, hcc2⟩ := xor8 hb256 (show v < 255 by omega)
  rw [hcc]
  have hW9 : (w8.setCell ⟨g3, i, none⟩ (.int .u8 cc)).ownsRow 0 5 1 (.slice (some ⟨g3, 0, none⟩) m3 c3) m3 (cellsOf ucell ((packB l4).set i cc)) := by
    rw [← cells_set]
    exact (HW8.out.stored i (.int .u8 cc)).1
  have HO9 := Lib.hid ((Outside.refl (fun k => k = g3) w8).setCell (p := ⟨g3, i, none⟩) (.inl rfl) (.int .u8 cc))
  have HR9 := Lib.hid (Rd.ofOwn hW9)
  have hs8 := HB8.out.size
  have hs9 := HO9.out.size
  have HBY := Lib.hid (show ∀ x ∈ (packB l4).set i cc, x < 256 from fun x hx => by
    rcases List.mem_or_eq_of_mem_set hx with h | h
    · exact pack_byte l4 x h
    · omega)
  clear hW9 hcc p8c p8l p8f p7c p7l p6c p6l
  refine (unpack_any _ m3 c3 _ ((packB l4).set i cc) _ HR9.out (Nat.le_refl _) HBY.out hc3 (by omega)).mono ?_
  rintro e w10 ⟨A5, n5, c5, l5, err, rfl, hR5, hb10, _, _, hU⟩
  obtain ⟨rfl, rfl⟩ := hU.damaged HP.out HB.out hcc1 hcc2
  have hn5 := hR5.len
  rw [List.length_nil] at hn5
  subst hn5
  have hs10 := hb10.size
  have hO : Outside (fun k => k = g3) w4 (w10.alloc (.cells #[.slice A5 0 c5] 25)) :=
    ((((Outside.ofBelow (R := fun k => w4.heap.size ≤ k ∨ k = g3) HB6.out (fun _ h => .inl h)).trans (Outside.ofBelow (R := fun k => w4.heap.size ≤ k ∨ k = g3) HB8.out (fun _ h => .inl (by omega)))).trans
      (HO9.out.mono (fun _ _ e => .inr e))).trans (Outside.ofBelow (R := fun k => w4.heap.size ≤ k ∨ k = g3) hb10 (fun _ h => .inl (by omega)))).mono (fun k hk e => by
        rcases e with e | e
        · omega
        · exact e) |>.alloc (.cells #[.slice A5 0 c5] 25)
  have HOP2 := Lib.hid (HOP.out.out hO (fun k h1 h2 e => by omega))
  have hg3 := HF3.out
  have HX := Lib.hid (show RdL (w10.alloc (.cells #[.slice A5 0 c5] 25)) (w2.heap.size + 1) A2 n2 l4 ∧ Blk (w10.alloc (.cells #[.slice A5 0 c5] 25)) w2.heap.size 25 #[.slice A2 n2 c2] ∧ Below w.heap.size w (w10.alloc (.cells #[.slice A5 0 c5] 25)) from
    ⟨HX4.out.2.1.keep (fun p hp => (hO.below (B := w2.heap.size + 1) (by omega) (fun k hk e => by omega)).cell hp), HX4.out.2.2.1.out hO (by omega),
      HX4.out.2.2.2.trans (hO.below HX4.out.2.2.2.size (fun k hk e => by omega))⟩)
  have HN10 := Lib.hid (Blk.new w10 25 #[.slice A5 0 c5])
  obtain ⟨bx, ox, x, A7, n7, c7, rfl, hbx, hx, hxn, e0, hrx⟩ := HX.out.1.row (i := 0) hn2'
  rw [Nat.add_zero] at e0
  have h10c := HX.out.2.1.cell
  have h10l := HX.out.2.1.lt
  have k10c := HN10.out.cell
  have k10l := HN10.out.lt
  have HXX := Lib.hid (And.intro hx hrx)
  have hbxl : bx < (w10.alloc (.cells #[.slice A5 0 c5] 25)).heap.size := by simp at h10l ⊢; omega
  have hxs := (HS2.out x (List.mem_of_getElem? hx)).1
  clear hO hU hb10 hR5 hx hrx h4c
  go_wp2_with (first | ((with_reducible show wpPlan _ _ _ [] _ _ _); refine wpPlan_nil ?_) | ((with_reducible show wpPlan _ _ _ ((_, 0, _) :: _) _ _ _); first | (refine wpPlan_read0 rfl ?hw rfl (fun _ _ _ => ?_); case hw => ((conv => (lhs; whnf)); first | done | with_reducible rfl)) | (refine wpPlan_skip0 rfl ?hw ?_; (case hw => ((conv => (lhs; whnf)); first | done | with_reducible rfl)); (try simp only [List.getElem_toArray, List.getElem_cons_succ, List.getElem_cons_zero, Act.put, List.setIfInBounds_toArray, List.set_cons_zero, List.set_cons_succ]))) | ((with_reducible show wpPlan _ _ _ ((_, 1, _) :: _) _ _ _); first | (refine wpPlan_read1d rfl ?hw rfl rfl (fun _ _ _ => ?_); case hw => ((conv => (lhs; whnf)); first | done | with_reducible rfl)) | (refine wpPlan_skip1d rfl ?hw ?_; (case hw => ((conv => (lhs; whnf)); first | done | with_reducible rfl)); (try simp only [List.getElem_toArray, List.getElem_cons_succ, List.getElem_cons_zero, Act.put, List.setIfInBounds_toArray, List.set_cons_zero, List.set_cons_succ])) | (refine wpPlan_read1 rfl ?hw rfl (fun _ _ _ => ?_); case hw => ((conv => (lhs; whnf)); first | done | with_reducible rfl))) | ((with_reducible show wpPlan _ _ _ ((_, 2, _) :: _) _ _ _); first | (refine wpPlan_eff rfl ?hw (fun _ _ => ?_); case hw => ((conv => (lhs; whnf)); first | done | with_reducible rfl)) | (refine wpPlan_skip2 rfl ?hw ?_; (case hw => ((conv => (lhs; whnf)); first | done | with_reducible rfl)); (try simp only [List.getElem_toArray, List.getElem_cons_succ, List.getElem_cons_zero, Act.put, List.setIfInBounds_toArray, List.set_cons_zero, List.set_cons_succ]))) | ((with_reducible show wpPlan _ _ _ _ _ _ _); refine wpPlan_fork ?_ ?_) | ((with_reducible show Owed _ _ _ [] _ _ _ _ _); refine Owed.none_ ?_) | ((with_reducible show Owed _ _ _ _ [] _ _ _ _); refine Owed.nil_ ?_) | ((with_reducible show Owed _ _ _ _ _ _ _ _ _); first | (refine Owed.miss rfl ?_) | (refine Owed.hit ?_ ?_)) | ((with_reducible show Same _ _ _ _ _); intro _; go_simp; done) | (with_reducible exact True.intro) | ((with_reducible show Code.wp _ (Code.region 7 _ true) _ _ _); refine wp_region_plan [(0, 0, []), (1, 0, []), (2, 1, []), (3, 1, []), (4, 0, []), (5, 2, [2, 3]), (6, 2, [2, 3]), (7, 2, [2, 3]), (8, 1, []), (9, 1, []), (10, 1, []), (11, 1, []), (12, 2, [])] (by kernel_rfl) (by kernel_rfl) (by kernel_rfl) ?_) | ((with_reducible show Code.wp _ (Code.region 9 _ true) _ _ _); refine wp_region_plan [(0, 0, []), (1, 1, []), (2, 0, []), (3, 1, []), (4, 1, []), (5, 1, []), (6, 1, []), (7, 0, []), (8, 0, []), (9, 0, []), (11, 1, []), (12, 1, []), (13, 1, []), (14, 1, []), (10, 2, [11, 12, 13, 14]), (15, 2, []), (16, 0, []), (17, 0, []), (18, 2, []), (19, 0, []), (20, 0, [])] (by kernel_rfl) (by kernel_rfl) (by kernel_rfl) ?_))
  refine (orow_any _ g vb vs l4 0 _ (HOP2.out.out (Outside.refl (fun _ => False) _).drew (fun _ _ _ h => h)) HV.out HP.out).mono ?_
  rintro e w11 ⟨A6, n6, c6, l6, rfl, hR6, hn6, hb11, hin, _⟩
  have hb11' : Below (w10.alloc (.cells #[.slice A5 0 c5] 25)).heap.size (w10.alloc (.cells #[.slice A5 0 c5] 25)) w11 := (Below.refl _ _).drew.trans hb11
  have he6 : l6 = x := by
    have := hin (by omega) (by omega)
    rw [Int.toNat_zero, HXX.out.1] at this
    exact (Option.some.inj this).symm
  subst he6
  have e6 : w11.cell? ⟨bx, ox, none⟩ = some (.slice A7 n7 c7) := by rw [hb11'.cell hbxl]; exact e0
  have HN11 := Lib.hid (HX.out.2.1.below hb11' h10l)
  have s6c := HN11.out.cell
  have s6l := HN11.out.lt
  have hs11 := hb11'.size
  have HZ := Lib.hid (And.intro hR6 (And.intro ((HXX.out.2.more (by omega)).below hb11' |>.more hs11) (HX.out.2.2.trans (hb11'.mono HX.out.2.2.size))))
  clear hR6 hb11 hin hb11'
  go_wp2_with (first | ((with_reducible show wpPlan _ _ _ [] _ _ _); refine wpPlan_nil ?_) | ((with_reducible show wpPlan _ _ _ ((_, 0, _) :: _) _ _ _); first | (refine wpPlan_read0 rfl ?hw rfl (fun _ _ _ => ?_); case hw => ((conv => (lhs; whnf)); first | done | with_reducible rfl)) | (refine wpPlan_skip0 rfl ?hw ?_; (case hw => ((conv => (lhs; whnf)); first | done | with_reducible rfl)); (try simp only [List.getElem_toArray, List.getElem_cons_succ, List.getElem_cons_zero, Act.put, List.setIfInBounds_toArray, List.set_cons_zero, List.set_cons_succ]))) | ((with_reducible show wpPlan _ _ _ ((_, 1, _) :: _) _ _ _); first | (refine wpPlan_read1d rfl ?hw rfl rfl (fun _ _ _ => ?_); case hw => ((conv => (lhs; whnf)); first | done | with_reducible rfl)) | (refine wpPlan_skip1d rfl ?hw ?_; (case hw => ((conv => (lhs; whnf)); first | done | with_reducible rfl)); (try simp only [List.getElem_toArray, List.getElem_cons_succ, List.getElem_cons_zero, Act.put, List.setIfInBounds_toArray, List.set_cons_zero, List.set_cons_succ])) | (refine wpPlan_read1 rfl ?hw rfl (fun _ _ _ => ?_); case hw => ((conv => (lhs; whnf)); first | done | with_reducible rfl))) | ((with_reducible show wpPlan _ _ _ ((_, 2, _) :: _) _ _ _); first | (refine wpPlan_eff rfl ?hw (fun _ _ => ?_); case hw => ((conv => (lhs; whnf)); first | done | with_reducible rfl)) | (refine wpPlan_skip2 rfl ?hw ?_; (case hw => ((conv => (lhs; whnf)); first | done | with_reducible rfl)); (try simp only [List.getElem_toArray, List.getElem_cons_succ, List.getElem_cons_zero, Act.put, List.setIfInBounds_toArray, List.set_cons_zero, List.set_cons_succ]))) | ((with_reducible show wpPlan _ _ _ _ _ _ _); refine wpPlan_fork ?_ ?_) | ((with_reducible show Owed _ _ _ [] _ _ _ _ _); refine Owed.none_ ?_) | ((with_reducible show Owed _ _ _ _ [] _ _ _ _); refine Owed.nil_ ?_) | ((with_reducible show Owed _ _ _ _ _ _ _ _ _); first | (refine Owed.miss rfl ?_) | (refine Owed.hit ?_ ?_)) | ((with_reducible show Same _ _ _ _ _); intro _; go_simp; done) | (with_reducible exact True.intro) | ((with_reducible show Code.wp _ (Code.region 7 _ true) _ _ _); refine wp_region_plan [(0, 0, []), (1, 0, []), (2, 1, []), (3, 1, []), (4, 0, []), (5, 2, [2, 3]), (6, 2, [2, 3]), (7, 2, [2, 3]), (8, 1, []), (9, 1, []), (10, 1, []), (11, 1, []), (12, 2, [])] (by kernel_rfl) (by kernel_rfl) (by kernel_rfl) ?_) | ((with_reducible show Code.wp _ (Code.region 9 _ true) _ _ _); refine wp_region_plan [(0, 0, []), (1, 1, []), (2, 0, []), (3, 1, []), (4, 1, []), (5, 1, []), (6, 1, []), (7, 0, []), (8, 0, []), (9, 0, []), (11, 1, []), (12, 1, []), (13, 1, []), (14, 1, []), (10, 2, [11, 12, 13, 14]), (15, 2, []), (16, 0, []), (17, 0, []), (18, 2, []), (19, 0, []), (20, 0, [])] (by kernel_rfl) (by kernel_rfl) (by kernel_rfl) ?_))
  refine (samerow_any A6 A7 n6 c6 n7 c7 w11.heap.size l6 l6 _ HZ.out.1 HZ.out.2.1 (Nat.le_refl _) (by omega)).mono ?_
  rintro e w12 ⟨rfl, hb12⟩
  have HB12 := Lib.hid (HZ.out.2.2.trans (hb12.mono HZ.out.2.2.size))
  clear hb12
  rw [show decide (l6 = l6) = true from decide_eq_true rfl]
  go_wp2_with (first | ((with_reducible show wpPlan _ _ _ [] _ _ _); refine wpPlan_nil ?_) | ((with_reducible show wpPlan _ _ _ ((_, 0, _) :: _) _ _ _); first | (refine wpPlan_read0 rfl ?hw rfl (fun _ _ _ => ?_); case hw => ((conv => (lhs; whnf)); first | done | with_reducible rfl)) | (refine wpPlan_skip0 rfl ?hw ?_; (case hw => ((conv => (lhs; whnf)); first | done | with_reducible rfl)); (try simp only [List.getElem_toArray, List.getElem_cons_succ, List.getElem_cons_zero, Act.put, List.setIfInBounds_toArray, List.set_cons_zero, List.set_cons_succ]))) | ((with_reducible show wpPlan _ _ _ ((_, 1, _) :: _) _ _ _); first | (refine wpPlan_read1d rfl ?hw rfl rfl (fun _ _ _ => ?_); case hw => ((conv => (lhs; whnf)); first | done | with_reducible rfl)) | (refine wpPlan_skip1d rfl ?hw ?_; (case hw => ((conv => (lhs; whnf)); first | done | with_reducible rfl)); (try simp only [List.getElem_toArray, List.getElem_cons_succ, List.getElem_cons_zero, Act.put, List.setIfInBounds_toArray, List.set_cons_zero, List.set_cons_succ])) | (refine wpPlan_read1 rfl ?hw rfl (fun _ _ _ => ?_); case hw => ((conv => (lhs; whnf)); first | done | with_reducible rfl))) | ((with_reducible show wpPlan _ _ _ ((_, 2, _) :: _) _ _ _); first | (refine wpPlan_eff rfl ?hw (fun _ _ => ?_); case hw => ((conv => (lhs; whnf)); first | done | with_reducible rfl)) | (refine wpPlan_skip2 rfl ?hw ?_; (case hw => ((conv => (lhs; whnf)); first | done | with_reducible rfl)); (try simp only [List.getElem_toArray, List.getElem_cons_succ, List.getElem_cons_zero, Act.put, List.setIfInBounds_toArray, List.set_cons_zero, List.set_cons_succ]))) | ((with_reducible show wpPlan _ _ _ _ _ _ _); refine wpPlan_fork ?_ ?_) | ((with_reducible show Owed _ _ _ [] _ _ _ _ _); refine Owed.none_ ?_) | ((with_reducible show Owed _ _ _ _ [] _ _ _ _); refine Owed.nil_ ?_) | ((with_reducible show Owed _ _ _ _ _ _ _ _ _); first | (refine Owed.miss rfl ?_) | (refine Owed.hit ?_ ?_)) | ((with_reducible show Same _ _ _ _ _); intro _; go_simp; done) | (with_reducible exact True.intro) | ((with_reducible show Code.wp _ (Code.region 7 _ true) _ _ _); refine wp_region_plan [(0, 0, []), (1, 0, []), (2, 1, []), (3, 1, []), (4, 0, []), (5, 2, [2, 3]), (6, 2, [2, 3]), (7, 2, [2, 3]), (8, 1, []), (9, 1, []), (10, 1, []), (11, 1, []), (12, 2, [])] (by kernel_rfl) (by kernel_rfl) (by kernel_rfl) ?_) | ((with_reducible show Code.wp _ (Code.region 9 _ true) _ _ _); refine wp_region_plan [(0, 0, []), (1, 1, []), (2, 0, []), (3, 1, []), (4, 1, []), (5, 1, []), (6, 1, []), (7, 0, []), (8, 0, []), (9, 0, []), (11, 1, []), (12, 1, []), (13, 1, []), (14, 1, []), (10, 2, [11, 12, 13, 14]), (15, 2, []), (16, 0, []), (17, 0, []), (18, 2, []), (19, 0, []), (20, 0, [])] (by kernel_rfl) (by kernel_rfl) (by kernel_rfl) ?_))
  refine (sane_any _).mono ?_
  rintro e w13 ⟨rfl, hb13⟩
  have HB13 := Lib.hid (HB12.out.trans (hb13.mono HB12.out.size))
  clear hb13
  go_wp2_with (first | ((with_reducible show wpPlan _ _ _ [] _ _ _); refine wpPlan_nil ?_) | ((with_reducible show wpPlan _ _ _ ((_, 0, _) :: _) _ _ _); first | (refine wpPlan_read0 rfl ?hw rfl (fun _ _ _ => ?_); case hw => ((conv => (lhs; whnf)); first | done | with_reducible rfl)) | (refine wpPlan_skip0 rfl ?hw ?_; (case hw => ((conv => (lhs; whnf)); first | done | with_reducible rfl)); (try simp only [List.getElem_toArray, List.getElem_cons_succ, List.getElem_cons_zero, Act.put, List.setIfInBounds_toArray, List.set_cons_zero, List.set_cons_succ]))) | ((with_reducible show wpPlan _ _ _ ((_, 1, _) :: _) _ _ _); first | (refine wpPlan_read1d rfl ?hw rfl rfl (fun _ _ _ => ?_); case hw => ((conv => (lhs; whnf)); first | done | with_reducible rfl)) | (refine wpPlan_skip1d rfl ?hw ?_; (case hw => ((conv => (lhs; whnf)); first | done | with_reducible rfl)); (try simp only [List.getElem_toArray, List.getElem_cons_succ, List.getElem_cons_zero, Act.put, List.setIfInBounds_toArray, List.set_cons_zero, List.set_cons_succ])) | (refine wpPlan_read1 rfl ?hw rfl (fun _ _ _ => ?_); case hw => ((conv => (lhs; whnf)); first | done | with_reducible rfl))) | ((with_reducible show wpPlan _ _ _ ((_, 2, _) :: _) _ _ _); first | (refine wpPlan_eff rfl ?hw (fun _ _ => ?_); case hw => ((conv => (lhs; whnf)); first | done | with_reducible rfl)) | (refine wpPlan_skip2 rfl ?hw ?_; (case hw => ((conv => (lhs; whnf)); first | done | with_reducible rfl)); (try simp only [List.getElem_toArray, List.getElem_cons_succ, List.getElem_cons_zero, Act.put, List.setIfInBounds_toArray, List.set_cons_zero, List.set_cons_succ]))) | ((with_reducible show wpPlan _ _ _ _ _ _ _); refine wpPlan_fork ?_ ?_) | ((with_reducible show Owed _ _ _ [] _ _ _ _ _); refine Owed.none_ ?_) | ((with_reducible show Owed _ _ _ _ [] _ _ _ _); refine Owed.nil_ ?_) | ((with_reducible show Owed _ _ _ _ _ _ _ _ _); first | (refine Owed.miss rfl ?_) | (refine Owed.hit ?_ ?_)) | ((with_reducible show Same _ _ _ _ _); intro _; go_simp; done) | (with_reducible exact True.intro) | ((with_reducible show Code.wp _ (Code.region 7 _ true) _ _ _); refine wp_region_plan [(0, 0, []), (1, 0, []), (2, 1, []), (3, 1, []), (4, 0, []), (5, 2, [2, 3]), (6, 2, [2, 3]), (7, 2, [2, 3]), (8, 1, []), (9, 1, []), (10, 1, []), (11, 1, []), (12, 2, [])] (by kernel_rfl) (by kernel_rfl) (by kernel_rfl) ?_) | ((with_reducible show Code.wp _ (Code.region 9 _ true) _ _ _); refine wp_region_plan [(0, 0, []), (1, 1, []), (2, 0, []), (3, 1, []), (4, 1, []), (5, 1, []), (6, 1, []), (7, 0, []), (8, 0, []), (9, 0, []), (11, 1, []), (12, 1, []), (13, 1, []), (14, 1, []), (10, 2, [11, 12, 13, 14]), (15, 2, []), (16, 0, []), (17, 0, []), (18, 2, []), (19, 0, []), (20, 0, [])] (by kernel_rfl) (by kernel_rfl) (by kernel_rfl) ?_))
  go_ret
  exact ⟨ret_bool (by simp), HB13.out⟩

end Go.Proofs.Ytonpdclccgpceaa
