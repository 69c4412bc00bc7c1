/- the canonical system: the reference's walk -/
import Derived.Test.YtmciinikfjfegaaRwQ5
import Derived.Test.YtmciinikfjfegaaRwI2
namespace Go.Proofs.Ytmciinikfjfegaa
open Go Go.RowKit
set_option maxHeartbeats 16000000

theorem fold_snoc (l : List Arc) (a : Arc) : (l ++ [a]).foldl insF [] = insF (l.foldl insF []) a := by simp [List.foldl_append]
theorem fold_take {l : List Arc} {k : Nat} {a : Arc} (h : l[k]? = some a) : (l.take (k + 1)).foldl insF [] = insF ((l.take k).foldl insF []) a := by
  rw [List.take_add_one, h]
  exact fold_snoc _ _
theorem nx_next {n : Nat} {s : List Int × List Nat} {r : List Arc} {k : Nat} {a : Arc} (h : CInv n s.1 s.2) (hr : ∀ b ∈ r, 0 ≤ b.to ∧ b.to < n) (ha : r[k]? = some a) (hp : ∀ b ∈ r.take k, 0 ≤ numAt s.1 b.to) :
    ((r.take (k + 1)).map (ren (stepC s a).1)).foldl insF [] = insF (((r.take k).map (ren s.1)).foldl insF []) ⟨a.ev, numAt (stepC s a).1 a.to⟩ := by
  have hra := hr a (List.mem_of_getElem? ha)
  have e1 : (r.take k).map (ren s.1) = (r.take k).map (ren (stepC s a).1) := by
    apply List.map_congr_left
    intro b hb
    have h1 := hr b (List.mem_of_mem_take hb)
    rw [ren, ren, step_keep h hra.1 hra.2 h1.1 (hp b hb)]
  rw [e1, List.take_add_one, ha, List.map_append]
  exact fold_snoc _ _

/-- what the reference's Canonical gives -/
def RCanPost (w : World) (ls : List (List Arc)) (e : Ending) (w' : World) : Prop :=
  ∃ (A : Option Addr) (n c : Nat) (out : List (List Arc)) (A2 : Option Addr) (n2 c2 : Nat) (old : List Nat), e = .returned (.tuple #[lts A n c, .slice A2 n2 c2]) ∧ RdL w' w'.heap.size A n out ∧ Rd w' w'.heap.size 1 A2 n2 (cellsOf ncell old) ∧ Below w.heap.size w w' ∧
    ∃ i, DoneC ls i ∧ out = (canonK ls i).out ∧ old = (canonK ls i).old

/-- the same, and where the rows lie -/
def RCanPostX (w : World) (ls : List (List Arc)) (e : Ending) (w' : World) : Prop :=
  ∃ (A : Option Addr) (n c : Nat) (out : List (List Arc)) (A2 : Option Addr) (n2 c2 : Nat) (old : List Nat), e = .returned (.tuple #[lts A n c, .slice A2 n2 c2]) ∧ (∃ W xs, w.heap.size ≤ W ∧ RowsX w' W (.slice A n c) n xs out) ∧ Rd w' w'.heap.size 1 A2 n2 (cellsOf ncell old) ∧ Below w.heap.size w w' ∧
    ∃ i, DoneC ls i ∧ out = (canonK ls i).out ∧ old = (canonK ls i).old

set_option maxRecDepth 100000 in
theorem rcanonicalX_any (A : Option Addr) (n c B : Nat) (ls : List (List Arc)) (w : World) (h : RdL w B A n ls) (hB : B ≤ w.heap.size) (hlo : looseB ls = true) :
    Calls Try.prog 47 #[lts A n c] w (RCanPostX w ls) := by
  have HL := Lib.hid h.len
  have H := Lib.hid h
  have HT1 := Lib.hid ((Blk.new w 27 #[.slice A n c]).alloc (.cells #[.slice none 0 0] 27))
  have HT2 := Lib.hid (show Blk ((w.alloc (.cells #[.slice A n c] 27)).alloc (.cells #[.slice none 0 0] 27)) (w.heap.size + 1) 27 #[.slice none 0 0] from heap_alloc_at (by simp))
  have HB0 := Lib.hid (((Below.refl w.heap.size w).alloc (Nat.le_refl _) (.cells #[.slice A n c] 27)).alloc (by simp) (.cells #[.slice none 0 0] 27))
  obtain ⟨htos, hl1, hl2, hl3⟩ := loose_tos hlo
  have HTOS := Lib.hid (And.intro htos hl3)
  have hn1 : 1 ≤ n := by have := HL.out; omega
  have hn2 : n ≤ 16384 := by have := HL.out; omega
  obtain ⟨i0, hi0, hz0, hz1, hz2⟩ := info_parts infoInt
  clear h htos hl1 hl2 hl3 hlo
  go_enter Try.func47, Try.ntmps47
  go_wp2_with (first | (at_make; refine wpList_makeX _ rfl _ _ 29 rfl 3 i0 (.int .i64 0) Try.underlying29 hi0 hz0 hz1 _ _ n rfl rfl (by rw [hz2]; omega) (by omega) ?_; refine Stop7.intro ?_) | ((with_reducible show wpPlan _ _ _ _ _ (Act.put _ _ _) _); simp only [List.getElem_toArray, List.getElem_cons_succ, List.getElem_cons_zero, Act.put, List.setIfInBounds_toArray, List.set_cons_zero, List.set_cons_succ]) | ((with_reducible show wpPlan _ _ _ _ _ _ _); first | refine wpPlan_nil ?_ | (refine wpPlan_read0 rfl ?hw rfl (fun _ _ _ => ?_); case hw => ((conv => (lhs; whnf)); first | done | with_reducible rfl)) | (refine wpPlan_read1d rfl ?hw rfl rfl (fun _ _ _ => ?_); case hw => ((conv => (lhs; whnf)); first | done | with_reducible rfl)) | (refine wpPlan_eff rfl ?hw (fun _ _ => ?_); case hw => ((conv => (lhs; whnf)); first | done | with_reducible rfl)) | (refine wpPlan_skip0 rfl ?hw ?_; case hw => ((conv => (lhs; whnf)); first | done | with_reducible rfl)) | (refine wpPlan_skip1d rfl ?hw ?_; case hw => ((conv => (lhs; whnf)); first | done | with_reducible rfl)) | (refine wpPlan_skip2 rfl ?hw ?_; case hw => ((conv => (lhs; whnf)); first | done | with_reducible rfl)) | (refine wpPlan_read1 rfl ?hw rfl (fun _ _ _ => ?_); case hw => ((conv => (lhs; whnf)); first | done | with_reducible rfl)) | refine wpPlan_fork ?_ ?_) | ((with_reducible show Owed _ _ _ _ _ _ _ _ _); first | refine Owed.none_ ?_ | refine Owed.nil_ ?_ | refine Owed.miss rfl ?_ | refine Owed.hit ?_ ?_) | ((with_reducible show Same _ _ _ _ _); intro _; go_simp; done) | (with_reducible exact True.intro) | ((with_reducible show Code.wp _ (Code.region 14 _ true) _ _ _); refine wp_region_plan [(0, 0, []), (1, 1, []), (2, 1, []), (3, 0, []), (4, 0, []), (5, 1, []), (6, 1, []), (7, 1, []), (8, 1, []), (9, 1, []), (10, 1, [])] (by kernel_rfl) (by kernel_rfl) (by kernel_rfl) ?_) | ((with_reducible show Code.wp _ (Code.region 16 _ true) _ _ _); refine wp_region_plan [(0, 0, []), (1, 1, []), (2, 1, []), (3, 0, []), (4, 0, []), (5, 1, []), (6, 1, []), (7, 1, []), (8, 1, []), (9, 0, []), (10, 1, []), (11, 1, []), (12, 2, []), (13, 0, [])] (by kernel_rfl) (by kernel_rfl) (by kernel_rfl) ?_) | ((with_reducible show Code.wp _ (Code.region 24 _ true) _ _ _); refine wp_region_plan [(0, 0, []), (1, 0, []), (2, 0, []), (3, 1, []), (4, 1, []), (5, 1, []), (6, 0, []), (7, 0, []), (8, 0, []), (9, 1, []), (10, 1, []), (11, 1, []), (12, 1, []), (13, 1, []), (14, 1, []), (15, 2, []), (16, 0, [])] (by kernel_rfl) (by kernel_rfl) (by kernel_rfl) ?_))
  unfold Stop7
  obtain ⟨w1, hw1⟩ : ∃ w1, (w.alloc (.cells #[.slice A n c] 27)).alloc (.cells #[.slice none 0 0] 27) = w1 := ⟨_, rfl⟩
  have hz1' : w1.heap.size = w.heap.size + 2 := by rw [← hw1]; simp
  rw [hw1] at HT1 HT2 HB0
  have HNF := Lib.hid (show Blk (w1.alloc (.cells (madeCells #[Value.int .i64 0] n) 3)) (w.heap.size + 1 + 1) 3 (List.replicate n (Value.int .i64 0)).toArray ∧ FillAt (-1) n 0 (List.replicate n (Value.int .i64 0)) ∧
      Blk (w1.alloc (.cells (madeCells #[Value.int .i64 0] n) 3)) w.heap.size 27 #[.slice A n c] ∧ Blk (w1.alloc (.cells (madeCells #[Value.int .i64 0] n) 3)) (w.heap.size + 1) 27 #[.slice none 0 0] ∧ Below w.heap.size w (w1.alloc (.cells (madeCells #[Value.int .i64 0] n) 3)) from
    ⟨by rw [made_zero, show w.heap.size + 1 + 1 = w1.heap.size by omega]; exact Blk.new w1 _ _, ⟨by simp, fun j hj => by omega⟩, HT1.out.alloc _, HT2.out.alloc _, HB0.out.alloc (by omega) _⟩)
  go_wp2_with (first | ((with_reducible show wpPlan _ _ _ _ _ (Act.put _ _ _) _); simp only [List.getElem_toArray, List.getElem_cons_succ, List.getElem_cons_zero, Act.put, List.setIfInBounds_toArray, List.set_cons_zero, List.set_cons_succ]) | ((with_reducible show wpPlan _ _ _ _ _ _ _); first | refine wpPlan_nil ?_ | (refine wpPlan_read0 rfl ?hw rfl (fun _ _ _ => ?_); case hw => ((conv => (lhs; whnf)); first | done | with_reducible rfl)) | (refine wpPlan_read1d rfl ?hw rfl rfl (fun _ _ _ => ?_); case hw => ((conv => (lhs; whnf)); first | done | with_reducible rfl)) | (refine wpPlan_eff rfl ?hw (fun _ _ => ?_); case hw => ((conv => (lhs; whnf)); first | done | with_reducible rfl)) | (refine wpPlan_skip0 rfl ?hw ?_; case hw => ((conv => (lhs; whnf)); first | done | with_reducible rfl)) | (refine wpPlan_skip1d rfl ?hw ?_; case hw => ((conv => (lhs; whnf)); first | done | with_reducible rfl)) | (refine wpPlan_skip2 rfl ?hw ?_; case hw => ((conv => (lhs; whnf)); first | done | with_reducible rfl)) | (refine wpPlan_read1 rfl ?hw rfl (fun _ _ _ => ?_); case hw => ((conv => (lhs; whnf)); first | done | with_reducible rfl)) | refine wpPlan_fork ?_ ?_) | ((with_reducible show Owed _ _ _ _ _ _ _ _ _); first | refine Owed.none_ ?_ | refine Owed.nil_ ?_ | refine Owed.miss rfl ?_ | refine Owed.hit ?_ ?_) | ((with_reducible show Same _ _ _ _ _); intro _; go_simp; done) | (with_reducible exact True.intro) | ((with_reducible show Code.wp _ (Code.region 14 _ true) _ _ _); refine wp_region_plan [(0, 0, []), (1, 1, []), (2, 1, []), (3, 0, []), (4, 0, []), (5, 1, []), (6, 1, []), (7, 1, []), (8, 1, []), (9, 1, []), (10, 1, [])] (by kernel_rfl) (by kernel_rfl) (by kernel_rfl) ?_) | ((with_reducible show Code.wp _ (Code.region 16 _ true) _ _ _); refine wp_region_plan [(0, 0, []), (1, 1, []), (2, 1, []), (3, 0, []), (4, 0, []), (5, 1, []), (6, 1, []), (7, 1, []), (8, 1, []), (9, 0, []), (10, 1, []), (11, 1, []), (12, 2, []), (13, 0, [])] (by kernel_rfl) (by kernel_rfl) (by kernel_rfl) ?_) | ((with_reducible show Code.wp _ (Code.region 24 _ true) _ _ _); refine wp_region_plan [(0, 0, []), (1, 0, []), (2, 0, []), (3, 1, []), (4, 1, []), (5, 1, []), (6, 0, []), (7, 0, []), (8, 0, []), (9, 1, []), (10, 1, []), (11, 1, []), (12, 1, []), (13, 1, []), (14, 1, []), (15, 2, []), (16, 0, [])] (by kernel_rfl) (by kernel_rfl) (by kernel_rfl) ?_))
  rw [hw1]
  have hw1z : w1.heap.size + 1 ≤ (w1.alloc (.cells (madeCells #[Value.int .i64 0] n) 3)).heap.size := by simp
  obtain ⟨gN, hgN⟩ : ∃ gN, w.heap.size + 1 + 1 = gN := ⟨_, rfl⟩
  rw [hgN] at HNF ⊢
  have hg1 : w.heap.size + 2 ≤ gN := by omega
  clear hgN hz1' hw1 HT1 HT2 HB0 hw1z
  go_loopw [5] (fun vk wr => ∃ (k : Nat) (L : List Value), k ≤ n ∧ vk = .int .i64 k ∧ Hid (Blk wr gN 3 L.toArray ∧ FillAt (-1) n k L ∧ Blk wr w.heap.size 27 #[.slice A n c] ∧ Blk wr (w.heap.size + 1) 27 #[.slice none 0 0] ∧ Below w.heap.size w wr)) (fun vk _ => n - (intOf vk).toNat)
  case atStart => exact ⟨0, _, Nat.zero_le _, rfl, HNF⟩
  case round =>
    clear HNF
    obtain ⟨k, L, hk, rfl, HW⟩ := hrel
    have gl := HW.out.1.lt
    have gf := HW.out.1.frozen
    by_cases hlt : k < n
    · obtain ⟨v, hv⟩ : ∃ v, L[k]? = some v := ⟨_, List.getElem?_eq_getElem (by rw [HW.out.2.1.1]; exact hlt)⟩
      have gc := HW.out.1.cell k
      rw [List.getElem?_toArray, hv] at gc
      have HZ := Lib.hid (show Blk (wr.setCell ⟨gN, k, none⟩ (.int .i64 (-1))) gN 3 (L.set k (.int .i64 (-1))).toArray ∧ FillAt (-1) n (k + 1) (L.set k (.int .i64 (-1))) ∧ Blk (wr.setCell ⟨gN, k, none⟩ (.int .i64 (-1))) w.heap.size 27 #[.slice A n c] ∧ Blk (wr.setCell ⟨gN, k, none⟩ (.int .i64 (-1))) (w.heap.size + 1) 27 #[.slice none 0 0] ∧ Below w.heap.size w (wr.setCell ⟨gN, k, none⟩ (.int .i64 (-1))) from
        ⟨by have := HW.out.1.put k (.int .i64 (-1)); simpa [Blk] using this, ⟨by rw [List.length_set]; exact HW.out.2.1.1, fun j hj => by
          by_cases e : j = k
          · subst e
            exact List.getElem?_set_self (by rw [HW.out.2.1.1]; exact hlt)
          · rw [List.getElem?_set_ne (fun e2 => e e2.symm)]
            exact HW.out.2.1.2 j (by omega)⟩, HW.out.2.2.1.far (p := ⟨gN, k, none⟩) (by dsimp only; omega) _, HW.out.2.2.2.1.far (p := ⟨gN, k, none⟩) (by dsimp only; omega) _, HW.out.2.2.2.2.setCell (p := ⟨gN, k, none⟩) (by dsimp only; omega) _⟩)
      clear hv
      go_wp2_with (first | ((with_reducible show wpPlan _ _ _ _ _ (Act.put _ _ _) _); simp only [List.getElem_toArray, List.getElem_cons_succ, List.getElem_cons_zero, Act.put, List.setIfInBounds_toArray, List.set_cons_zero, List.set_cons_succ]) | ((with_reducible show wpPlan _ _ _ _ _ _ _); first | refine wpPlan_nil ?_ | (refine wpPlan_read0 rfl ?hw rfl (fun _ _ _ => ?_); case hw => ((conv => (lhs; whnf)); first | done | with_reducible rfl)) | (refine wpPlan_read1d rfl ?hw rfl rfl (fun _ _ _ => ?_); case hw => ((conv => (lhs; whnf)); first | done | with_reducible rfl)) | (refine wpPlan_eff rfl ?hw (fun _ _ => ?_); case hw => ((conv => (lhs; whnf)); first | done | with_reducible rfl)) | (refine wpPlan_skip0 rfl ?hw ?_; case hw => ((conv => (lhs; whnf)); first | done | with_reducible rfl)) | (refine wpPlan_skip1d rfl ?hw ?_; case hw => ((conv => (lhs; whnf)); first | done | with_reducible rfl)) | (refine wpPlan_skip2 rfl ?hw ?_; case hw => ((conv => (lhs; whnf)); first | done | with_reducible rfl)) | (refine wpPlan_read1 rfl ?hw rfl (fun _ _ _ => ?_); case hw => ((conv => (lhs; whnf)); first | done | with_reducible rfl)) | refine wpPlan_fork ?_ ?_) | ((with_reducible show Owed _ _ _ _ _ _ _ _ _); first | refine Owed.none_ ?_ | refine Owed.nil_ ?_ | refine Owed.miss rfl ?_ | refine Owed.hit ?_ ?_) | ((with_reducible show Same _ _ _ _ _); intro _; go_simp; done) | (with_reducible exact True.intro) | ((with_reducible show Code.wp _ (Code.region 14 _ true) _ _ _); refine wp_region_plan [(0, 0, []), (1, 1, []), (2, 1, []), (3, 0, []), (4, 0, []), (5, 1, []), (6, 1, []), (7, 1, []), (8, 1, []), (9, 1, []), (10, 1, [])] (by kernel_rfl) (by kernel_rfl) (by kernel_rfl) ?_) | ((with_reducible show Code.wp _ (Code.region 16 _ true) _ _ _); refine wp_region_plan [(0, 0, []), (1, 1, []), (2, 1, []), (3, 0, []), (4, 0, []), (5, 1, []), (6, 1, []), (7, 1, []), (8, 1, []), (9, 0, []), (10, 1, []), (11, 1, []), (12, 2, []), (13, 0, [])] (by kernel_rfl) (by kernel_rfl) (by kernel_rfl) ?_) | ((with_reducible show Code.wp _ (Code.region 24 _ true) _ _ _); refine wp_region_plan [(0, 0, []), (1, 0, []), (2, 0, []), (3, 1, []), (4, 1, []), (5, 1, []), (6, 0, []), (7, 0, []), (8, 0, []), (9, 1, []), (10, 1, []), (11, 1, []), (12, 1, []), (13, 1, []), (14, 1, []), (15, 2, []), (16, 0, [])] (by kernel_rfl) (by kernel_rfl) (by kernel_rfl) ?_))
      go_roundw
      case rel => exact ⟨k + 1, _, by omega, by go_num, HZ⟩
      case measure => simp [intOf]; omega
    · have hkn : k = n := by omega
      subst hkn
      have hfa := fill_all HW.out.2.1
      have gc : wr.cell? ⟨gN, 0, none⟩ = some (.int .i64 (-1)) := by
        rw [HW.out.1.cell 0, List.getElem?_toArray, HW.out.2.1.2 0 (by omega)]
      have HN3 := Lib.hid (show Blk (wr.setCell ⟨gN, 0, none⟩ (.int .i64 0)) gN 3 (cellsOf icell (canonK ls 0).num).toArray from by
        have h1 := HW.out.1.put 0 (.int .i64 0)
        rw [hfa, icells_set, ← HL.out] at h1
        exact h1)
      have HX3 := Lib.hid (And.intro (HW.out.2.2.1.far (p := ⟨gN, 0, none⟩) (by dsimp only; omega) (.int .i64 0)) (And.intro (HW.out.2.2.2.1.far (p := ⟨gN, 0, none⟩) (by dsimp only; omega) (.int .i64 0)) (HW.out.2.2.2.2.setCell (p := ⟨gN, 0, none⟩) (by dsimp only; omega) (.int .i64 0))))
      clear hfa
      go_wp2_with (first | ((with_reducible show wpPlan _ _ _ _ _ (Act.put _ _ _) _); simp only [List.getElem_toArray, List.getElem_cons_succ, List.getElem_cons_zero, Act.put, List.setIfInBounds_toArray, List.set_cons_zero, List.set_cons_succ]) | ((with_reducible show wpPlan _ _ _ _ _ _ _); first | refine wpPlan_nil ?_ | (refine wpPlan_read0 rfl ?hw rfl (fun _ _ _ => ?_); case hw => ((conv => (lhs; whnf)); first | done | with_reducible rfl)) | (refine wpPlan_read1d rfl ?hw rfl rfl (fun _ _ _ => ?_); case hw => ((conv => (lhs; whnf)); first | done | with_reducible rfl)) | (refine wpPlan_eff rfl ?hw (fun _ _ => ?_); case hw => ((conv => (lhs; whnf)); first | done | with_reducible rfl)) | (refine wpPlan_skip0 rfl ?hw ?_; case hw => ((conv => (lhs; whnf)); first | done | with_reducible rfl)) | (refine wpPlan_skip1d rfl ?hw ?_; case hw => ((conv => (lhs; whnf)); first | done | with_reducible rfl)) | (refine wpPlan_skip2 rfl ?hw ?_; case hw => ((conv => (lhs; whnf)); first | done | with_reducible rfl)) | (refine wpPlan_read1 rfl ?hw rfl (fun _ _ _ => ?_); case hw => ((conv => (lhs; whnf)); first | done | with_reducible rfl)) | refine wpPlan_fork ?_ ?_) | ((with_reducible show Owed _ _ _ _ _ _ _ _ _); first | refine Owed.none_ ?_ | refine Owed.nil_ ?_ | refine Owed.miss rfl ?_ | refine Owed.hit ?_ ?_) | ((with_reducible show Same _ _ _ _ _); intro _; go_simp; done) | (with_reducible exact True.intro) | ((with_reducible show Code.wp _ (Code.region 14 _ true) _ _ _); refine wp_region_plan [(0, 0, []), (1, 1, []), (2, 1, []), (3, 0, []), (4, 0, []), (5, 1, []), (6, 1, []), (7, 1, []), (8, 1, []), (9, 1, []), (10, 1, [])] (by kernel_rfl) (by kernel_rfl) (by kernel_rfl) ?_) | ((with_reducible show Code.wp _ (Code.region 16 _ true) _ _ _); refine wp_region_plan [(0, 0, []), (1, 1, []), (2, 1, []), (3, 0, []), (4, 0, []), (5, 1, []), (6, 1, []), (7, 1, []), (8, 1, []), (9, 0, []), (10, 1, []), (11, 1, []), (12, 2, []), (13, 0, [])] (by kernel_rfl) (by kernel_rfl) (by kernel_rfl) ?_) | ((with_reducible show Code.wp _ (Code.region 24 _ true) _ _ _); refine wp_region_plan [(0, 0, []), (1, 0, []), (2, 0, []), (3, 1, []), (4, 1, []), (5, 1, []), (6, 0, []), (7, 0, []), (8, 0, []), (9, 1, []), (10, 1, []), (11, 1, []), (12, 1, []), (13, 1, []), (14, 1, []), (15, 2, []), (16, 0, [])] (by kernel_rfl) (by kernel_rfl) (by kernel_rfl) ?_))
      obtain ⟨w3, hw3⟩ : ∃ w3, wr.setCell ⟨gN, 0, none⟩ (.int .i64 0) = w3 := ⟨_, rfl⟩
      have hz3 : w3.heap.size = wr.heap.size := by rw [← hw3]; simp
      rw [hw3] at HN3 HX3 ⊢
      obtain ⟨T, hT⟩ : ∃ T, wr.heap.size + 1 = T := ⟨_, rfl⟩
      have hTg : gN < T := by omega
      have HS := Lib.hid (show Blk ((w3.alloc (.cells #[.int .i64 0] 3)).alloc (.cells #[.slice none 0 0] 27)) gN 3 (cellsOf icell (canonK ls 0).num).toArray ∧ ((w3.alloc (.cells #[.int .i64 0] 3)).alloc (.cells #[.slice none 0 0] 27)).ownsRow 0 3 1 (.slice (some ⟨wr.heap.size, 0, none⟩) 1 1) (canonK ls 0).old.length (cellsOf ncell (canonK ls 0).old) ∧
          (∀ x, (Value.slice (some ⟨wr.heap.size, 0, none⟩) 1 1).ownBlock = some x → gN < x) ∧ (∃ xs, RowsX ((w3.alloc (.cells #[.int .i64 0] 3)).alloc (.cells #[.slice none 0 0] 27)) (T + 1) (.slice none 0 0) 0 xs (canonK ls 0).out) ∧ Blk ((w3.alloc (.cells #[.int .i64 0] 3)).alloc (.cells #[.slice none 0 0] 27)) T 27 #[.slice none 0 0] ∧
          Blk ((w3.alloc (.cells #[.int .i64 0] 3)).alloc (.cells #[.slice none 0 0] 27)) w.heap.size 27 #[.slice A k c] ∧ Blk ((w3.alloc (.cells #[.int .i64 0] 3)).alloc (.cells #[.slice none 0 0] 27)) (w.heap.size + 1) 27 #[.slice none 0 0] ∧ Below w.heap.size w ((w3.alloc (.cells #[.int .i64 0] 3)).alloc (.cells #[.slice none 0 0] 27)) from
        ⟨(HN3.out.alloc _).alloc _, World.ownsRow.alloc (by rw [← hz3]; exact World.ownsRow_lit w3 #[.int .i64 0] 1 (Nat.zero_le _) (by decide) rfl) _, fun x hx => by
          have h1 : wr.heap.size = x := by simpa [Value.ownBlock] using hx
          omega, ⟨[], RowsX.nil _ _⟩, by rw [← hT, ← hz3]; exact heap_alloc_at (by simp), (HX3.out.1.alloc _).alloc _, (HX3.out.2.1.alloc _).alloc _, (HX3.out.2.2.alloc HX3.out.2.2.size _).alloc (by have := HX3.out.2.2.size; simp; omega) _⟩)
      have hzz : T < ((w3.alloc (.cells #[.int .i64 0] 3)).alloc (.cells #[.slice none 0 0] 27)).heap.size := by simp; omega
      rw [hT]
      clear HW hk hlt gl gf gc hw3 hz3 hT HN3 HX3
      go_loopw [6, 8] (fun vo vi w2 => ∃ (i lo : Nat) (vq : Value), i ≤ lo ∧ lo ≤ k ∧ vi = .int .i64 i ∧ T < w2.heap.size ∧ Hid (lo = (canonK ls i).old.length) ∧ Hid (Blk w2 gN 3 (cellsOf icell (canonK ls i).num).toArray ∧ w2.ownsRow 0 3 1 vo (canonK ls i).old.length (cellsOf ncell (canonK ls i).old) ∧
          (∀ x, vo.ownBlock = some x → gN < x) ∧ (∃ xs, RowsX w2 (T + 1) vq i xs (canonK ls i).out) ∧ Blk w2 T 27 #[vq] ∧ Blk w2 w.heap.size 27 #[.slice A k c] ∧ Blk w2 (w.heap.size + 1) 27 #[.slice none 0 0] ∧ Below w.heap.size w w2) ∧ Hid (∀ j, j < i → j < (canonK ls j).old.length)) (fun _ vi _ => k - (intOf vi).toNat)
      case atStart => exact ⟨0, 1, _, by decide, hn1, rfl, hzz, Lib.hid rfl, HS, Lib.hid fun j hj => absurd hj (by omega)⟩
      case round =>
        clear HS hzz
        rename World => wr
        obtain ⟨i, lo, vq, hi, hlo, rfl, hTw, HLO, HW, HJ⟩ := hrel
        have hold := HW.out.2.1
        rw [← HLO.out] at hold
        have HOLD := Lib.hid hold
        obtain ⟨xs, hXs⟩ := HW.out.2.2.2.1
        have HXS := Lib.hid hXs
        obtain ⟨Aq, cq, rfl, hcq, _⟩ := own_form hXs.own
        clear hold hXs
        have HINV := Lib.hid (canon_inv HTOS.out.1 (by rw [HL.out]; omega) i)
        have HB8 := Lib.hid HW.out.2.2.2.2.2.2.2
        by_cases hlt : i < lo
        · obtain ⟨go, co, rfl, _, hgo⟩ := HOLD.out.form (by omega)
          obtain ⟨s, hs⟩ : ∃ s, (canonK ls i).old[i]? = some s := ⟨_, List.getElem?_eq_getElem (by rw [← HLO.out]; exact hlt)⟩
          have hsn : s < k := by have := (HINV.out.fwd i s hs).1; rw [HL.out] at this; exact this
          have HSS := Lib.hid hs
          obtain ⟨b2, o2, t2, e2, _, ht2, c2⟩ := (Rd.ofOwn HOLD.out).nat hlt
          obtain ⟨rfl, rfl⟩ : go = b2 ∧ 0 = o2 := by simpa using e2
          obtain rfl : t2 = s := by
            rw [hs] at ht2
            exact (Option.some.inj ht2).symm
          rw [Nat.zero_add] at c2
          obtain ⟨b1, o1, x, A1, n1, c1, rfl, hb1, hx, hxn, e0, hr1⟩ := (H.out.below (HB8.out.mono hB)).row hsn
          have HX := Lib.hid (show rowAt ls t2 = x from by rw [rowAt, List.getD_eq_getElem?_getD, hx]; rfl)
          have HRX := Lib.hid hr1
          have HXN := Lib.hid hxn
          have hxl := HTOS.out.2 x (List.mem_of_getElem? hx)
          have hb1w : b1 < wr.heap.size := by have := HB8.out.size; omega
          have hBw : B ≤ wr.heap.size := by have := HB8.out.size; omega
          have HC2 := Lib.hid c2
          have HE0 := Lib.hid e0
          clear hs e2 ht2 hx hr1 c2 e0
          go_wp2_with (first | ((with_reducible show wpPlan _ _ _ _ _ (Act.put _ _ _) _); simp only [List.getElem_toArray, List.getElem_cons_succ, List.getElem_cons_zero, Act.put, List.setIfInBounds_toArray, List.set_cons_zero, List.set_cons_succ]) | ((with_reducible show wpPlan _ _ _ _ _ _ _); first | refine wpPlan_nil ?_ | (refine wpPlan_read0 rfl ?hw rfl (fun _ _ _ => ?_); case hw => ((conv => (lhs; whnf)); first | done | with_reducible rfl)) | (refine wpPlan_read1d rfl ?hw rfl rfl (fun _ _ _ => ?_); case hw => ((conv => (lhs; whnf)); first | done | with_reducible rfl)) | (refine wpPlan_eff rfl ?hw (fun _ _ => ?_); case hw => ((conv => (lhs; whnf)); first | done | with_reducible rfl)) | (refine wpPlan_skip0 rfl ?hw ?_; case hw => ((conv => (lhs; whnf)); first | done | with_reducible rfl)) | (refine wpPlan_skip1d rfl ?hw ?_; case hw => ((conv => (lhs; whnf)); first | done | with_reducible rfl)) | (refine wpPlan_skip2 rfl ?hw ?_; case hw => ((conv => (lhs; whnf)); first | done | with_reducible rfl)) | (refine wpPlan_read1 rfl ?hw rfl (fun _ _ _ => ?_); case hw => ((conv => (lhs; whnf)); first | done | with_reducible rfl)) | refine wpPlan_fork ?_ ?_) | ((with_reducible show Owed _ _ _ _ _ _ _ _ _); first | refine Owed.none_ ?_ | refine Owed.nil_ ?_ | refine Owed.miss rfl ?_ | refine Owed.hit ?_ ?_) | ((with_reducible show Same _ _ _ _ _); intro _; go_simp; done) | (with_reducible exact True.intro) | ((with_reducible show Code.wp _ (Code.region 14 _ true) _ _ _); refine wp_region_plan [(0, 0, []), (1, 1, []), (2, 1, []), (3, 0, []), (4, 0, []), (5, 1, []), (6, 1, []), (7, 1, []), (8, 1, []), (9, 1, []), (10, 1, [])] (by kernel_rfl) (by kernel_rfl) (by kernel_rfl) ?_) | ((with_reducible show Code.wp _ (Code.region 16 _ true) _ _ _); refine wp_region_plan [(0, 0, []), (1, 1, []), (2, 1, []), (3, 0, []), (4, 0, []), (5, 1, []), (6, 1, []), (7, 1, []), (8, 1, []), (9, 0, []), (10, 1, []), (11, 1, []), (12, 2, []), (13, 0, [])] (by kernel_rfl) (by kernel_rfl) (by kernel_rfl) ?_) | ((with_reducible show Code.wp _ (Code.region 24 _ true) _ _ _); refine wp_region_plan [(0, 0, []), (1, 0, []), (2, 0, []), (3, 1, []), (4, 1, []), (5, 1, []), (6, 0, []), (7, 0, []), (8, 0, []), (9, 1, []), (10, 1, []), (11, 1, []), (12, 1, []), (13, 1, []), (14, 1, []), (15, 2, []), (16, 0, [])] (by kernel_rfl) (by kernel_rfl) (by kernel_rfl) ?_))
          go_loopw [9, 10] (fun v9 vk wk => ∃ (m nr : Nat), m ≤ n1 ∧ nr ≤ m ∧ vk = .int .i64 m ∧ Hid (nr = ((x.take m).foldl insF []).length ∧ wk.ownsRow 0 23 2 v9 nr (cellsOf Arc.cells ((x.take m).foldl insF [])) ∧ (∀ y, v9.ownBlock = some y → wr.heap.size ≤ y) ∧ Below wr.heap.size wr wk)) (fun _ vk _ => n1 - (intOf vk).toNat)
          case atStart => exact ⟨0, 0, Nat.zero_le _, Nat.le_refl _, rfl, Lib.hid ⟨rfl, World.ownsRow_nil _ _ _ _, fun y hy => absurd hy (by simp [Value.ownBlock]), Below.refl _ _⟩⟩
          case round =>
            rename World => wk
            obtain ⟨m, nr, hm, hnr, rfl, HI⟩ := hrel
            obtain ⟨A9, c9, rfl, _, _⟩ := own_form HI.out.2.1
            have kc1 := (HW.out.2.2.2.2.2.1.below HI.out.2.2.2 (by have := HB8.out.size; have := HW.out.2.2.2.2.2.1.lt; omega)).cell
            have kl1 := (HW.out.2.2.2.2.2.1.below HI.out.2.2.2 (by have := HW.out.2.2.2.2.2.1.lt; omega)).lt
            have kc2 : wk.cell? ⟨go, i, none⟩ = some (.int .i64 (t2 : Nat)) := by rw [HI.out.2.2.2.cell hgo]; exact HC2.out
            have ke0 : wk.cell? ⟨b1, o1 + t2, none⟩ = some (.slice A1 n1 c1) := by rw [HI.out.2.2.2.cell hb1w]; exact HE0.out
            by_cases hlt2 : m < n1
            · obtain ⟨b3, o3, a, rfl, hb3, ha, d0, d1⟩ := ((HRX.out.more hBw).below HI.out.2.2.2).arc hlt2
              have HF := Lib.hid (fold_take ha)
              have hb3w : b3 < wk.heap.size := by have := HI.out.2.2.2.size; omega
              clear ha
              go_wp2_with (first | ((with_reducible show wpPlan _ _ _ _ _ (Act.put _ _ _) _); simp only [List.getElem_toArray, List.getElem_cons_succ, List.getElem_cons_zero, Act.put, List.setIfInBounds_toArray, List.set_cons_zero, List.set_cons_succ]) | ((with_reducible show wpPlan _ _ _ _ _ _ _); first | refine wpPlan_nil ?_ | (refine wpPlan_read0 rfl ?hw rfl (fun _ _ _ => ?_); case hw => ((conv => (lhs; whnf)); first | done | with_reducible rfl)) | (refine wpPlan_read1d rfl ?hw rfl rfl (fun _ _ _ => ?_); case hw => ((conv => (lhs; whnf)); first | done | with_reducible rfl)) | (refine wpPlan_eff rfl ?hw (fun _ _ => ?_); case hw => ((conv => (lhs; whnf)); first | done | with_reducible rfl)) | (refine wpPlan_skip0 rfl ?hw ?_; case hw => ((conv => (lhs; whnf)); first | done | with_reducible rfl)) | (refine wpPlan_skip1d rfl ?hw ?_; case hw => ((conv => (lhs; whnf)); first | done | with_reducible rfl)) | (refine wpPlan_skip2 rfl ?hw ?_; case hw => ((conv => (lhs; whnf)); first | done | with_reducible rfl)) | (refine wpPlan_read1 rfl ?hw rfl (fun _ _ _ => ?_); case hw => ((conv => (lhs; whnf)); first | done | with_reducible rfl)) | refine wpPlan_fork ?_ ?_) | ((with_reducible show Owed _ _ _ _ _ _ _ _ _); first | refine Owed.none_ ?_ | refine Owed.nil_ ?_ | refine Owed.miss rfl ?_ | refine Owed.hit ?_ ?_) | ((with_reducible show Same _ _ _ _ _); intro _; go_simp; done) | (with_reducible exact True.intro) | ((with_reducible show Code.wp _ (Code.region 14 _ true) _ _ _); refine wp_region_plan [(0, 0, []), (1, 1, []), (2, 1, []), (3, 0, []), (4, 0, []), (5, 1, []), (6, 1, []), (7, 1, []), (8, 1, []), (9, 1, []), (10, 1, [])] (by kernel_rfl) (by kernel_rfl) (by kernel_rfl) ?_) | ((with_reducible show Code.wp _ (Code.region 16 _ true) _ _ _); refine wp_region_plan [(0, 0, []), (1, 1, []), (2, 1, []), (3, 0, []), (4, 0, []), (5, 1, []), (6, 1, []), (7, 1, []), (8, 1, []), (9, 0, []), (10, 1, []), (11, 1, []), (12, 2, []), (13, 0, [])] (by kernel_rfl) (by kernel_rfl) (by kernel_rfl) ?_) | ((with_reducible show Code.wp _ (Code.region 24 _ true) _ _ _); refine wp_region_plan [(0, 0, []), (1, 0, []), (2, 0, []), (3, 1, []), (4, 1, []), (5, 1, []), (6, 0, []), (7, 0, []), (8, 0, []), (9, 1, []), (10, 1, []), (11, 1, []), (12, 1, []), (13, 1, []), (14, 1, []), (15, 2, []), (16, 0, [])] (by kernel_rfl) (by kernel_rfl) (by kernel_rfl) ?_))
              refine (insertC_any A9 nr c9 _ a _ HI.out.2.1.drew.drew (by omega)).mono ?_
              rintro e w6 ⟨⟨A6, n6, c6, l6, rfl, ho6, hi6, hb6⟩, hB6⟩
              have hl6 := hi6.eq
              rw [← HF.out] at hl6
              subst hl6
              have hn6 : n6 = ((x.take (m + 1)).foldl insF []).length := by
                have := ho6.1
                rw [cellsOf_length Arc.cells_len] at this
                omega
              have h6l := hi6.len
              have HZ := Lib.hid (show n6 = ((x.take (m + 1)).foldl insF []).length ∧ w6.ownsRow 0 23 2 (.slice A6 n6 c6) n6 (cellsOf Arc.cells ((x.take (m + 1)).foldl insF [])) ∧ (∀ y, (Value.slice A6 n6 c6).ownBlock = some y → wr.heap.size ≤ y) ∧ Below wr.heap.size wr w6 from
                ⟨hn6, ho6, fun y hy => by
                  rcases hb6 y hy with h1 | h1
                  · exact HI.out.2.2.1 y h1
                  · have h2 : wk.heap.size ≤ y := h1
                    have := HI.out.2.2.2.size
                    omega, HI.out.2.2.2.trans (((Below.refl wk.heap.size wk).drew.drew.trans hB6).mono HI.out.2.2.2.size)⟩)
              have hnr6 : n6 ≤ m + 1 := by
                have := HI.out.1
                omega
              clear ho6 hi6 hb6 hB6 hn6 h6l
              go_wp2_with (first | ((with_reducible show wpPlan _ _ _ _ _ (Act.put _ _ _) _); simp only [List.getElem_toArray, List.getElem_cons_succ, List.getElem_cons_zero, Act.put, List.setIfInBounds_toArray, List.set_cons_zero, List.set_cons_succ]) | ((with_reducible show wpPlan _ _ _ _ _ _ _); first | refine wpPlan_nil ?_ | (refine wpPlan_read0 rfl ?hw rfl (fun _ _ _ => ?_); case hw => ((conv => (lhs; whnf)); first | done | with_reducible rfl)) | (refine wpPlan_read1d rfl ?hw rfl rfl (fun _ _ _ => ?_); case hw => ((conv => (lhs; whnf)); first | done | with_reducible rfl)) | (refine wpPlan_eff rfl ?hw (fun _ _ => ?_); case hw => ((conv => (lhs; whnf)); first | done | with_reducible rfl)) | (refine wpPlan_skip0 rfl ?hw ?_; case hw => ((conv => (lhs; whnf)); first | done | with_reducible rfl)) | (refine wpPlan_skip1d rfl ?hw ?_; case hw => ((conv => (lhs; whnf)); first | done | with_reducible rfl)) | (refine wpPlan_skip2 rfl ?hw ?_; case hw => ((conv => (lhs; whnf)); first | done | with_reducible rfl)) | (refine wpPlan_read1 rfl ?hw rfl (fun _ _ _ => ?_); case hw => ((conv => (lhs; whnf)); first | done | with_reducible rfl)) | refine wpPlan_fork ?_ ?_) | ((with_reducible show Owed _ _ _ _ _ _ _ _ _); first | refine Owed.none_ ?_ | refine Owed.nil_ ?_ | refine Owed.miss rfl ?_ | refine Owed.hit ?_ ?_) | ((with_reducible show Same _ _ _ _ _); intro _; go_simp; done) | (with_reducible exact True.intro) | ((with_reducible show Code.wp _ (Code.region 14 _ true) _ _ _); refine wp_region_plan [(0, 0, []), (1, 1, []), (2, 1, []), (3, 0, []), (4, 0, []), (5, 1, []), (6, 1, []), (7, 1, []), (8, 1, []), (9, 1, []), (10, 1, [])] (by kernel_rfl) (by kernel_rfl) (by kernel_rfl) ?_) | ((with_reducible show Code.wp _ (Code.region 16 _ true) _ _ _); refine wp_region_plan [(0, 0, []), (1, 1, []), (2, 1, []), (3, 0, []), (4, 0, []), (5, 1, []), (6, 1, []), (7, 1, []), (8, 1, []), (9, 0, []), (10, 1, []), (11, 1, []), (12, 2, []), (13, 0, [])] (by kernel_rfl) (by kernel_rfl) (by kernel_rfl) ?_) | ((with_reducible show Code.wp _ (Code.region 24 _ true) _ _ _); refine wp_region_plan [(0, 0, []), (1, 0, []), (2, 0, []), (3, 1, []), (4, 1, []), (5, 1, []), (6, 0, []), (7, 0, []), (8, 0, []), (9, 1, []), (10, 1, []), (11, 1, []), (12, 1, []), (13, 1, []), (14, 1, []), (15, 2, []), (16, 0, [])] (by kernel_rfl) (by kernel_rfl) (by kernel_rfl) ?_))
              go_roundw
              case rel => exact ⟨m + 1, n6, by omega, hnr6, by go_num, HZ⟩
              case measure => simp [intOf]; omega
            · have hmn : m = n1 := by omega
              subst hmn
              have hxk : x.take m = x := List.take_of_length_le (by rw [HXN.out]; exact Nat.le_refl _)
              obtain ⟨r, hr⟩ : ∃ r, sd x = r := ⟨_, rfl⟩
              have hfr : (x.take m).foldl insF [] = r := by rw [hxk, ← hr]; rfl
              have hI2 := HI.out
              rw [hfr] at hI2
              have HRR := Lib.hid (show sd (rowAt ls ((canonK ls i).old.getD i 0)) = r from by
                rw [List.getD_eq_getElem?_getD, HSS.out]
                show sd (rowAt ls t2) = r
                rw [HX.out, hr])
              have HIN := Lib.hid (show InAt wr wk.drew gN wr.heap.size (.slice (some ⟨go, 0, none⟩) lo co) (.slice (some ⟨go, 0, none⟩) lo co) (.slice A9 nr c9) (canonK ls i).num (canonK ls i).old nr r from
                have hb6 : Below wr.heap.size wr wk.drew := hI2.2.2.2.drew
                ⟨HW.out.1.below hb6 HW.out.1.lt, own_out HW.out.2.1 (Below.new hb6) (fun _ _ e => e), fun x hx => .inl hx, hI2.2.1.drew, hI2.2.2.1, (Below.new hb6).mono (fun _ _ e => e.elim), HW.out.1.lt, Nat.le_refl _, HW.out.2.2.1⟩)
              have HRT := Lib.hid (show ∀ a ∈ r, 0 ≤ a.to ∧ a.to < ls.length from fun a ha => by
                rw [← hr] at ha
                have := (sd_mem a x).1 ha
                rw [← HX.out] at this
                exact HTOS.out.1.row t2 a this)
              have HNR := Lib.hid hI2.1.symm
              have HAS := Lib.hid (show ascB r = true from by rw [← hr]; exact sd_asc x)
              clear hI2 hfr hr hxk HI
              go_wp2_with (first | ((with_reducible show wpPlan _ _ _ _ _ (Act.put _ _ _) _); simp only [List.getElem_toArray, List.getElem_cons_succ, List.getElem_cons_zero, Act.put, List.setIfInBounds_toArray, List.set_cons_zero, List.set_cons_succ]) | ((with_reducible show wpPlan _ _ _ _ _ _ _); first | refine wpPlan_nil ?_ | (refine wpPlan_read0 rfl ?hw rfl (fun _ _ _ => ?_); case hw => ((conv => (lhs; whnf)); first | done | with_reducible rfl)) | (refine wpPlan_read1d rfl ?hw rfl rfl (fun _ _ _ => ?_); case hw => ((conv => (lhs; whnf)); first | done | with_reducible rfl)) | (refine wpPlan_eff rfl ?hw (fun _ _ => ?_); case hw => ((conv => (lhs; whnf)); first | done | with_reducible rfl)) | (refine wpPlan_skip0 rfl ?hw ?_; case hw => ((conv => (lhs; whnf)); first | done | with_reducible rfl)) | (refine wpPlan_skip1d rfl ?hw ?_; case hw => ((conv => (lhs; whnf)); first | done | with_reducible rfl)) | (refine wpPlan_skip2 rfl ?hw ?_; case hw => ((conv => (lhs; whnf)); first | done | with_reducible rfl)) | (refine wpPlan_read1 rfl ?hw rfl (fun _ _ _ => ?_); case hw => ((conv => (lhs; whnf)); first | done | with_reducible rfl)) | refine wpPlan_fork ?_ ?_) | ((with_reducible show Owed _ _ _ _ _ _ _ _ _); first | refine Owed.none_ ?_ | refine Owed.nil_ ?_ | refine Owed.miss rfl ?_ | refine Owed.hit ?_ ?_) | ((with_reducible show Same _ _ _ _ _); intro _; go_simp; done) | (with_reducible exact True.intro) | ((with_reducible show Code.wp _ (Code.region 14 _ true) _ _ _); refine wp_region_plan [(0, 0, []), (1, 1, []), (2, 1, []), (3, 0, []), (4, 0, []), (5, 1, []), (6, 1, []), (7, 1, []), (8, 1, []), (9, 1, []), (10, 1, [])] (by kernel_rfl) (by kernel_rfl) (by kernel_rfl) ?_) | ((with_reducible show Code.wp _ (Code.region 16 _ true) _ _ _); refine wp_region_plan [(0, 0, []), (1, 1, []), (2, 1, []), (3, 0, []), (4, 0, []), (5, 1, []), (6, 1, []), (7, 1, []), (8, 1, []), (9, 0, []), (10, 1, []), (11, 1, []), (12, 2, []), (13, 0, [])] (by kernel_rfl) (by kernel_rfl) (by kernel_rfl) ?_) | ((with_reducible show Code.wp _ (Code.region 24 _ true) _ _ _); refine wp_region_plan [(0, 0, []), (1, 0, []), (2, 0, []), (3, 1, []), (4, 1, []), (5, 1, []), (6, 0, []), (7, 0, []), (8, 0, []), (9, 1, []), (10, 1, []), (11, 1, []), (12, 1, []), (13, 1, []), (14, 1, []), (15, 2, []), (16, 0, [])] (by kernel_rfl) (by kernel_rfl) (by kernel_rfl) ?_))
              clear kc1 kl1 kc2 ke0
              have HPOS := Lib.hid (show ∀ k, CInv ls.length (vis ls i r k).1 (vis ls i r k).2 ∧ ∀ b ∈ r.take k, 0 ≤ numAt (vis ls i r k).1 b.to from fun k =>
                have hrk : ∀ a ∈ r.take k, 0 ≤ a.to ∧ a.to < ls.length := fun a ha => HRT.out a (List.mem_of_mem_take ha)
                ⟨CInv.visit (r.take k) (s := ((canonK ls i).num, (canonK ls i).old)) HINV.out hrk, visit_new (r.take k) (s := ((canonK ls i).num, (canonK ls i).old)) HINV.out hrk⟩)
              go_loopw [6, 11, 12] (fun vo vn vq wk => ∃ (q lk nx : Nat), q ≤ nr ∧ nx ≤ q ∧ lk ≤ k ∧ vq = .int .i64 q ∧ Hid (lk = (vis ls i r q).2.length ∧ nx = (((r.take q).map (ren (vis ls i r q).1)).foldl insF []).length) ∧
                Hid (InAt wr wk gN wr.heap.size (.slice (some ⟨go, 0, none⟩) lo co) vo (.slice A9 nr c9) (vis ls i r q).1 (vis ls i r q).2 nr r ∧ wk.ownsRow 0 23 2 vn nx (cellsOf Arc.cells (((r.take q).map (ren (vis ls i r q).1)).foldl insF [])) ∧ ∀ y, vn.ownBlock = some y → wr.heap.size ≤ y)) (fun _ _ vq _ => nr - (intOf vq).toNat)
              case atStart => exact ⟨0, lo, 0, Nat.zero_le _, Nat.le_refl _, hlo, rfl, Lib.hid ⟨HLO.out, rfl⟩, Lib.hid ⟨HIN.out, World.ownsRow_nil _ _ _ _, fun y hy => absurd hy (by simp [Value.ownBlock])⟩⟩
              case round =>
                clear HIN
                rename World => wk
                obtain ⟨q, lk, nx, hq, hnx, hlk, rfl, HLK, HI⟩ := hrel
                have holdk := HI.out.1.old_
                rw [← HLK.out.1] at holdk
                have HOLK := Lib.hid holdk
                obtain ⟨Ak, ck, rfl, hck, _⟩ := own_form holdk
                obtain ⟨An, cn, rfl, _, _⟩ := own_form HI.out.2.1
                clear holdk
                by_cases hlt2 : q < nr
                · obtain ⟨g9, c9', e9, _, hg9⟩ := HI.out.1.row.form (by omega)
                  simp only [Value.slice.injEq, true_and] at e9
                  obtain ⟨rfl, rfl⟩ := e9
                  obtain ⟨a, ha⟩ : ∃ a, r[q]? = some a := ⟨_, List.getElem?_eq_getElem (by rw [HNR.out]; exact hlt2)⟩
                  have hat := HRT.out a (List.mem_of_getElem? ha)
                  obtain ⟨c0, c1⟩ := own_at2 HI.out.1.row ha
                  obtain ⟨hnz, hnv⟩ := (HPOS.out q).1.at_ hat.1 hat.2
                  have HNX := Lib.hid (vis_next (ls := ls) (i := i) ha)
                  have HRN := Lib.hid (nx_next (HPOS.out q).1 HRT.out ha (HPOS.out q).2)
                  have HA := Lib.hid ha
                  obtain ⟨ae, at_⟩ := a
                  dsimp only at hat hnz hnv c0 c1
                  obtain ⟨t, rfl⟩ : ∃ t : Nat, at_ = t := ⟨at_.toNat, by omega⟩
                  rw [Int.toNat_natCast] at hnz hnv
                  have htn : t < k := by have := hat.2; rw [HL.out] at this; omega
                  have nc := HI.out.1.num_.cell t
                  rw [List.getElem?_toArray, icells_get, hnz] at nc
                  dsimp only [Option.map] at nc
                  obtain ⟨z, hz⟩ : ∃ z, numAt (vis ls i r q).1 (t : Int) = z := ⟨_, rfl⟩
                  rw [hz] at nc hnv
                  have HZ := Lib.hid hz
                  have gNl := HI.out.1.num_.lt
                  have gNf := HI.out.1.num_.frozen
                  clear ha hat hnz hz
                  by_cases hzn : z < 0
                  · have HST := Lib.hid (show stepC (vis ls i r q) ⟨ae, t⟩ = ((vis ls i r q).1.set t lk, (vis ls i r q).2 ++ [t]) from by
                      rw [stepC, if_pos (by rw [HZ.out]; exact hzn), ← HLK.out.1]
                      rfl)
                    have HBn := Lib.hid (HI.out.1.putNum t lk)
                    have hON : Outside (fun x => x = gN) wk (wk.setCell ⟨gN, t, none⟩ (.int .i64 lk)) := (Outside.refl (fun x => x = gN) wk).setCell (p := ⟨gN, t, none⟩) (.inl rfl) _
                    have HNn := Lib.hid (own_out HI.out.2.1 hON (fun y hy e => by have := HI.out.2.2 y hy; have := HI.out.1.lo.1; omega))
                    have hsum : lk + 1 ≤ k := by
                      have h1 := (HPOS.out (q + 1)).1.le
                      rw [HNX.out, HST.out, List.length_append, ← HLK.out.1, HL.out] at h1
                      simpa using h1
                    have HOB := Lib.hid (show (wk.setCell ⟨gN, t, none⟩ (.int .i64 lk)).ownsRow 0 3 1 (.slice Ak lk ck) lk (cellsOf ncell (vis ls i r q).2) from by
                      have h1 := HBn.out.old_
                      rw [← HLK.out.1] at h1
                      exact h1)
                    obtain ⟨d0, d1⟩ := own_at2 HBn.out.row HA.out
                    clear hON hnv
                    go_wp2_with (first | ((with_reducible show wpPlan _ _ _ _ _ (Act.put _ _ _) _); simp only [List.getElem_toArray, List.getElem_cons_succ, List.getElem_cons_zero, Act.put, List.setIfInBounds_toArray, List.set_cons_zero, List.set_cons_succ]) | ((with_reducible show wpPlan _ _ _ _ _ _ _); first | refine wpPlan_nil ?_ | (refine wpPlan_read0 rfl ?hw rfl (fun _ _ _ => ?_); case hw => ((conv => (lhs; whnf)); first | done | with_reducible rfl)) | (refine wpPlan_read1d rfl ?hw rfl rfl (fun _ _ _ => ?_); case hw => ((conv => (lhs; whnf)); first | done | with_reducible rfl)) | (refine wpPlan_eff rfl ?hw (fun _ _ => ?_); case hw => ((conv => (lhs; whnf)); first | done | with_reducible rfl)) | (refine wpPlan_skip0 rfl ?hw ?_; case hw => ((conv => (lhs; whnf)); first | done | with_reducible rfl)) | (refine wpPlan_skip1d rfl ?hw ?_; case hw => ((conv => (lhs; whnf)); first | done | with_reducible rfl)) | (refine wpPlan_skip2 rfl ?hw ?_; case hw => ((conv => (lhs; whnf)); first | done | with_reducible rfl)) | (refine wpPlan_read1 rfl ?hw rfl (fun _ _ _ => ?_); case hw => ((conv => (lhs; whnf)); first | done | with_reducible rfl)) | refine wpPlan_fork ?_ ?_) | ((with_reducible show Owed _ _ _ _ _ _ _ _ _); first | refine Owed.none_ ?_ | refine Owed.nil_ ?_ | refine Owed.miss rfl ?_ | refine Owed.hit ?_ ?_) | ((with_reducible show Same _ _ _ _ _); intro _; go_simp; done) | (with_reducible exact True.intro) | ((with_reducible show Code.wp _ (Code.region 14 _ true) _ _ _); refine wp_region_plan [(0, 0, []), (1, 1, []), (2, 1, []), (3, 0, []), (4, 0, []), (5, 1, []), (6, 1, []), (7, 1, []), (8, 1, []), (9, 1, []), (10, 1, [])] (by kernel_rfl) (by kernel_rfl) (by kernel_rfl) ?_) | ((with_reducible show Code.wp _ (Code.region 16 _ true) _ _ _); refine wp_region_plan [(0, 0, []), (1, 1, []), (2, 1, []), (3, 0, []), (4, 0, []), (5, 1, []), (6, 1, []), (7, 1, []), (8, 1, []), (9, 0, []), (10, 1, []), (11, 1, []), (12, 2, []), (13, 0, [])] (by kernel_rfl) (by kernel_rfl) (by kernel_rfl) ?_) | ((with_reducible show Code.wp _ (Code.region 24 _ true) _ _ _); refine wp_region_plan [(0, 0, []), (1, 0, []), (2, 0, []), (3, 1, []), (4, 1, []), (5, 1, []), (6, 0, []), (7, 0, []), (8, 0, []), (9, 1, []), (10, 1, []), (11, 1, []), (12, 1, []), (13, 1, []), (14, 1, []), (15, 2, []), (16, 0, [])] (by kernel_rfl) (by kernel_rfl) (by kernel_rfl) ?_) | (at_builtin; refine appList_blk rfl slInt rfl (World.ownsRow.alloc HOB.out _) rfl (news := [.int .i64 t]) ((heap_alloc_at (by simp)) : Blk _ wk.heap.size _ _) rfl rfl (by simp [Value.oneCell']) (by decide) (by unfold maxLen; omega) (by omega) ?_; intro g8 c8 w8 hown8 hgrow8 hat8; refine Stop7.intro ?_))
                    unfold Stop7
                    have hO8 : Outside (fun x => (Value.slice Ak lk ck).ownBlock = some x) (wk.setCell ⟨gN, t, none⟩ (.int .i64 lk)) w8 := ((Outside.refl (fun x => (Value.slice Ak lk ck).ownBlock = some x) _).alloc (.cells #[.int .i64 t] 3)).grown hgrow8 (fun z hz => .inl hz)
                    have hown9 : w8.ownsRow 0 3 1 (.slice (some ⟨g8, 0, none⟩) (lk + 1) c8) ((vis ls i r q).2 ++ [t]).length (cellsOf ncell ((vis ls i r q).2 ++ [t])) := by
                      rw [cellsOf_append, List.length_append, ← HLK.out.1]
                      exact hown8
                    have HC := Lib.hid (HBn.out.app hO8 hown9 (fun x hx => by
                      have h1 : g8 = x := by simpa [Value.ownBlock] using hx
                      subst h1
                      rcases hat8 with h | h
                      · exact .inl h
                      · refine .inr (Nat.le_trans ?_ h)
                        simp))
                    have HN8 := Lib.hid (own_out HNn.out hO8 (fun x hx e => own_apart_own HNn.out HOB.out (by decide) hx e))
                    have n8c := HC.out.num_.cell t
                    rw [List.getElem?_toArray, icells_get, List.getElem?_set_self (by rw [(HPOS.out q).1.len, HL.out]; exact htn)] at n8c
                    dsimp only [Option.map] at n8c
                    have n8l := HC.out.num_.lt
                    obtain ⟨m0, m1⟩ := own_at2 HC.out.row HA.out
                    have g9l := own_lt HC.out.row rfl
                    have hne : numAt (stepC (vis ls i r q) ⟨ae, t⟩).1 (t : Int) = lk := by
                      rw [HST.out]
                      exact numAt_get (List.getElem?_set_self (by rw [(HPOS.out q).1.len, HL.out]; exact htn)) _ rfl
                    have hRN := HRN.out
                    rw [hne] at hRN
                    rw [← HNX.out] at hRN
                    have HRN2 := Lib.hid hRN
                    clear hO8 hown8 hown9 hgrow8 hat8 nc c0 c1 hne hRN
                    go_wp2_with (first | ((with_reducible show wpPlan _ _ _ _ _ (Act.put _ _ _) _); simp only [List.getElem_toArray, List.getElem_cons_succ, List.getElem_cons_zero, Act.put, List.setIfInBounds_toArray, List.set_cons_zero, List.set_cons_succ]) | ((with_reducible show wpPlan _ _ _ _ _ _ _); first | refine wpPlan_nil ?_ | (refine wpPlan_read0 rfl ?hw rfl (fun _ _ _ => ?_); case hw => ((conv => (lhs; whnf)); first | done | with_reducible rfl)) | (refine wpPlan_read1d rfl ?hw rfl rfl (fun _ _ _ => ?_); case hw => ((conv => (lhs; whnf)); first | done | with_reducible rfl)) | (refine wpPlan_eff rfl ?hw (fun _ _ => ?_); case hw => ((conv => (lhs; whnf)); first | done | with_reducible rfl)) | (refine wpPlan_skip0 rfl ?hw ?_; case hw => ((conv => (lhs; whnf)); first | done | with_reducible rfl)) | (refine wpPlan_skip1d rfl ?hw ?_; case hw => ((conv => (lhs; whnf)); first | done | with_reducible rfl)) | (refine wpPlan_skip2 rfl ?hw ?_; case hw => ((conv => (lhs; whnf)); first | done | with_reducible rfl)) | (refine wpPlan_read1 rfl ?hw rfl (fun _ _ _ => ?_); case hw => ((conv => (lhs; whnf)); first | done | with_reducible rfl)) | refine wpPlan_fork ?_ ?_) | ((with_reducible show Owed _ _ _ _ _ _ _ _ _); first | refine Owed.none_ ?_ | refine Owed.nil_ ?_ | refine Owed.miss rfl ?_ | refine Owed.hit ?_ ?_) | ((with_reducible show Same _ _ _ _ _); intro _; go_simp; done) | (with_reducible exact True.intro) | ((with_reducible show Code.wp _ (Code.region 14 _ true) _ _ _); refine wp_region_plan [(0, 0, []), (1, 1, []), (2, 1, []), (3, 0, []), (4, 0, []), (5, 1, []), (6, 1, []), (7, 1, []), (8, 1, []), (9, 1, []), (10, 1, [])] (by kernel_rfl) (by kernel_rfl) (by kernel_rfl) ?_) | ((with_reducible show Code.wp _ (Code.region 16 _ true) _ _ _); refine wp_region_plan [(0, 0, []), (1, 1, []), (2, 1, []), (3, 0, []), (4, 0, []), (5, 1, []), (6, 1, []), (7, 1, []), (8, 1, []), (9, 0, []), (10, 1, []), (11, 1, []), (12, 2, []), (13, 0, [])] (by kernel_rfl) (by kernel_rfl) (by kernel_rfl) ?_) | ((with_reducible show Code.wp _ (Code.region 24 _ true) _ _ _); refine wp_region_plan [(0, 0, []), (1, 0, []), (2, 0, []), (3, 1, []), (4, 1, []), (5, 1, []), (6, 0, []), (7, 0, []), (8, 0, []), (9, 1, []), (10, 1, []), (11, 1, []), (12, 1, []), (13, 1, []), (14, 1, []), (15, 2, []), (16, 0, [])] (by kernel_rfl) (by kernel_rfl) (by kernel_rfl) ?_))
                    refine (insertC_any An nx cn _ ⟨ae, (lk : Int)⟩ _ HN8.out.drew (by omega)).mono ?_
                    rintro e w6 ⟨⟨A6, n6, c6, l6, rfl, ho6, hi6, hb6⟩, hB6⟩
                    have hl6 := hi6.eq
                    rw [← HRN2.out] at hl6
                    subst hl6
                    have hn6 : n6 = (((r.take (q + 1)).map (ren (vis ls i r (q + 1)).1)).foldl insF []).length := by
                      have := ho6.1
                      rw [cellsOf_length Arc.cells_len] at this
                      omega
                    have h6l := hi6.len
                    have hnx6 : n6 ≤ q + 1 := by
                      have := HLK.out.2
                      omega
                    have HE := Lib.hid (show lk + 1 = (vis ls i r (q + 1)).2.length ∧ n6 = (((r.take (q + 1)).map (ren (vis ls i r (q + 1)).1)).foldl insF []).length from
                      ⟨by rw [HNX.out, HST.out, List.length_append, ← HLK.out.1]; rfl, hn6⟩)
                    have HF := Lib.hid (show InAt wr w6 gN wr.heap.size (.slice (some ⟨go, 0, none⟩) lo co) (.slice (some ⟨g8, 0, none⟩) (lk + 1) c8) (.slice (some ⟨g9, 0, none⟩) nr c9) (vis ls i r (q + 1)).1 (vis ls i r (q + 1)).2 nr r ∧ w6.ownsRow 0 23 2 (.slice A6 n6 c6) n6 (cellsOf Arc.cells (((r.take (q + 1)).map (ren (vis ls i r (q + 1)).1)).foldl insF [])) ∧ ∀ y, (Value.slice A6 n6 c6).ownBlock = some y → wr.heap.size ≤ y from
                      ⟨by
                        rw [HNX.out, HST.out]
                        exact HC.out.below ((Below.refl w8.heap.size w8).drew.trans hB6), ho6, fun y hy => by
                        rcases hb6 y hy with h1 | h1
                        · exact HI.out.2.2 y h1
                        · have h2 : w8.heap.size ≤ y := h1
                          have := HC.out.fr.size
                          omega⟩)
                    clear ho6 hi6 hb6 hB6 hn6 h6l n8c m0 m1
                    go_wp2_with (first | ((with_reducible show wpPlan _ _ _ _ _ (Act.put _ _ _) _); simp only [List.getElem_toArray, List.getElem_cons_succ, List.getElem_cons_zero, Act.put, List.setIfInBounds_toArray, List.set_cons_zero, List.set_cons_succ]) | ((with_reducible show wpPlan _ _ _ _ _ _ _); first | refine wpPlan_nil ?_ | (refine wpPlan_read0 rfl ?hw rfl (fun _ _ _ => ?_); case hw => ((conv => (lhs; whnf)); first | done | with_reducible rfl)) | (refine wpPlan_read1d rfl ?hw rfl rfl (fun _ _ _ => ?_); case hw => ((conv => (lhs; whnf)); first | done | with_reducible rfl)) | (refine wpPlan_eff rfl ?hw (fun _ _ => ?_); case hw => ((conv => (lhs; whnf)); first | done | with_reducible rfl)) | (refine wpPlan_skip0 rfl ?hw ?_; case hw => ((conv => (lhs; whnf)); first | done | with_reducible rfl)) | (refine wpPlan_skip1d rfl ?hw ?_; case hw => ((conv => (lhs; whnf)); first | done | with_reducible rfl)) | (refine wpPlan_skip2 rfl ?hw ?_; case hw => ((conv => (lhs; whnf)); first | done | with_reducible rfl)) | (refine wpPlan_read1 rfl ?hw rfl (fun _ _ _ => ?_); case hw => ((conv => (lhs; whnf)); first | done | with_reducible rfl)) | refine wpPlan_fork ?_ ?_) | ((with_reducible show Owed _ _ _ _ _ _ _ _ _); first | refine Owed.none_ ?_ | refine Owed.nil_ ?_ | refine Owed.miss rfl ?_ | refine Owed.hit ?_ ?_) | ((with_reducible show Same _ _ _ _ _); intro _; go_simp; done) | (with_reducible exact True.intro) | ((with_reducible show Code.wp _ (Code.region 14 _ true) _ _ _); refine wp_region_plan [(0, 0, []), (1, 1, []), (2, 1, []), (3, 0, []), (4, 0, []), (5, 1, []), (6, 1, []), (7, 1, []), (8, 1, []), (9, 1, []), (10, 1, [])] (by kernel_rfl) (by kernel_rfl) (by kernel_rfl) ?_) | ((with_reducible show Code.wp _ (Code.region 16 _ true) _ _ _); refine wp_region_plan [(0, 0, []), (1, 1, []), (2, 1, []), (3, 0, []), (4, 0, []), (5, 1, []), (6, 1, []), (7, 1, []), (8, 1, []), (9, 0, []), (10, 1, []), (11, 1, []), (12, 2, []), (13, 0, [])] (by kernel_rfl) (by kernel_rfl) (by kernel_rfl) ?_) | ((with_reducible show Code.wp _ (Code.region 24 _ true) _ _ _); refine wp_region_plan [(0, 0, []), (1, 0, []), (2, 0, []), (3, 1, []), (4, 1, []), (5, 1, []), (6, 0, []), (7, 0, []), (8, 0, []), (9, 1, []), (10, 1, []), (11, 1, []), (12, 1, []), (13, 1, []), (14, 1, []), (15, 2, []), (16, 0, [])] (by kernel_rfl) (by kernel_rfl) (by kernel_rfl) ?_))
                    go_roundw
                    case rel => exact ⟨q + 1, lk + 1, n6, by omega, hnx6, hsum, by go_num, HE, HF⟩
                    case measure => simp [intOf]; omega
                  · have hzk : ∃ y : Nat, z = y := by
                      rcases hnv with h | ⟨y, h, _⟩
                      · omega
                      · exact ⟨y, h⟩
                    obtain ⟨y, rfl⟩ := hzk
                    have HST := Lib.hid (show stepC (vis ls i r q) ⟨ae, t⟩ = vis ls i r q from by
                      rw [stepC, if_neg (by rw [HZ.out]; exact hzn)])
                    have hne : numAt (stepC (vis ls i r q) ⟨ae, t⟩).1 (t : Int) = y := by rw [HST.out]; exact HZ.out
                    have hRN := HRN.out
                    rw [hne] at hRN
                    rw [← HNX.out] at hRN
                    have HRN2 := Lib.hid hRN
                    clear hnv hne hRN
                    go_wp2_with (first | ((with_reducible show wpPlan _ _ _ _ _ (Act.put _ _ _) _); simp only [List.getElem_toArray, List.getElem_cons_succ, List.getElem_cons_zero, Act.put, List.setIfInBounds_toArray, List.set_cons_zero, List.set_cons_succ]) | ((with_reducible show wpPlan _ _ _ _ _ _ _); first | refine wpPlan_nil ?_ | (refine wpPlan_read0 rfl ?hw rfl (fun _ _ _ => ?_); case hw => ((conv => (lhs; whnf)); first | done | with_reducible rfl)) | (refine wpPlan_read1d rfl ?hw rfl rfl (fun _ _ _ => ?_); case hw => ((conv => (lhs; whnf)); first | done | with_reducible rfl)) | (refine wpPlan_eff rfl ?hw (fun _ _ => ?_); case hw => ((conv => (lhs; whnf)); first | done | with_reducible rfl)) | (refine wpPlan_skip0 rfl ?hw ?_; case hw => ((conv => (lhs; whnf)); first | done | with_reducible rfl)) | (refine wpPlan_skip1d rfl ?hw ?_; case hw => ((conv => (lhs; whnf)); first | done | with_reducible rfl)) | (refine wpPlan_skip2 rfl ?hw ?_; case hw => ((conv => (lhs; whnf)); first | done | with_reducible rfl)) | (refine wpPlan_read1 rfl ?hw rfl (fun _ _ _ => ?_); case hw => ((conv => (lhs; whnf)); first | done | with_reducible rfl)) | refine wpPlan_fork ?_ ?_) | ((with_reducible show Owed _ _ _ _ _ _ _ _ _); first | refine Owed.none_ ?_ | refine Owed.nil_ ?_ | refine Owed.miss rfl ?_ | refine Owed.hit ?_ ?_) | ((with_reducible show Same _ _ _ _ _); intro _; go_simp; done) | (with_reducible exact True.intro) | ((with_reducible show Code.wp _ (Code.region 14 _ true) _ _ _); refine wp_region_plan [(0, 0, []), (1, 1, []), (2, 1, []), (3, 0, []), (4, 0, []), (5, 1, []), (6, 1, []), (7, 1, []), (8, 1, []), (9, 1, []), (10, 1, [])] (by kernel_rfl) (by kernel_rfl) (by kernel_rfl) ?_) | ((with_reducible show Code.wp _ (Code.region 16 _ true) _ _ _); refine wp_region_plan [(0, 0, []), (1, 1, []), (2, 1, []), (3, 0, []), (4, 0, []), (5, 1, []), (6, 1, []), (7, 1, []), (8, 1, []), (9, 0, []), (10, 1, []), (11, 1, []), (12, 2, []), (13, 0, [])] (by kernel_rfl) (by kernel_rfl) (by kernel_rfl) ?_) | ((with_reducible show Code.wp _ (Code.region 24 _ true) _ _ _); refine wp_region_plan [(0, 0, []), (1, 0, []), (2, 0, []), (3, 1, []), (4, 1, []), (5, 1, []), (6, 0, []), (7, 0, []), (8, 0, []), (9, 1, []), (10, 1, []), (11, 1, []), (12, 1, []), (13, 1, []), (14, 1, []), (15, 2, []), (16, 0, [])] (by kernel_rfl) (by kernel_rfl) (by kernel_rfl) ?_))
                    refine (insertC_any An nx cn _ ⟨ae, (y : Int)⟩ _ HI.out.2.1.drew (by omega)).mono ?_
                    rintro e w6 ⟨⟨A6, n6, c6, l6, rfl, ho6, hi6, hb6⟩, hB6⟩
                    have hl6 := hi6.eq
                    rw [← HRN2.out] at hl6
                    subst hl6
                    have hn6 : n6 = (((r.take (q + 1)).map (ren (vis ls i r (q + 1)).1)).foldl insF []).length := by
                      have := ho6.1
                      rw [cellsOf_length Arc.cells_len] at this
                      omega
                    have h6l := hi6.len
                    have hnx6 : n6 ≤ q + 1 := by
                      have := HLK.out.2
                      omega

                    have HE := Lib.hid (show lk = (vis ls i r (q + 1)).2.length ∧ n6 = (((r.take (q + 1)).map (ren (vis ls i r (q + 1)).1)).foldl insF []).length from
                      ⟨by rw [HNX.out, HST.out]; exact HLK.out.1, hn6⟩)
                    have HF := Lib.hid (show InAt wr w6 gN wr.heap.size (.slice (some ⟨go, 0, none⟩) lo co) (.slice Ak lk ck) (.slice (some ⟨g9, 0, none⟩) nr c9) (vis ls i r (q + 1)).1 (vis ls i r (q + 1)).2 nr r ∧ w6.ownsRow 0 23 2 (.slice A6 n6 c6) n6 (cellsOf Arc.cells (((r.take (q + 1)).map (ren (vis ls i r (q + 1)).1)).foldl insF [])) ∧ ∀ y, (Value.slice A6 n6 c6).ownBlock = some y → wr.heap.size ≤ y from
                      ⟨by
                        rw [HNX.out, HST.out]
                        exact HI.out.1.below ((Below.refl wk.heap.size wk).drew.trans hB6), ho6, fun y hy => by
                        rcases hb6 y hy with h1 | h1
                        · exact HI.out.2.2 y h1
                        · have h2 : wk.heap.size ≤ y := h1
                          have := HI.out.1.fr.size
                          omega⟩)
                    clear ho6 hi6 hb6 hB6 hn6 h6l nc c0 c1
                    go_wp2_with (first | ((with_reducible show wpPlan _ _ _ _ _ (Act.put _ _ _) _); simp only [List.getElem_toArray, List.getElem_cons_succ, List.getElem_cons_zero, Act.put, List.setIfInBounds_toArray, List.set_cons_zero, List.set_cons_succ]) | ((with_reducible show wpPlan _ _ _ _ _ _ _); first | refine wpPlan_nil ?_ | (refine wpPlan_read0 rfl ?hw rfl (fun _ _ _ => ?_); case hw => ((conv => (lhs; whnf)); first | done | with_reducible rfl)) | (refine wpPlan_read1d rfl ?hw rfl rfl (fun _ _ _ => ?_); case hw => ((conv => (lhs; whnf)); first | done | with_reducible rfl)) | (refine wpPlan_eff rfl ?hw (fun _ _ => ?_); case hw => ((conv => (lhs; whnf)); first | done | with_reducible rfl)) | (refine wpPlan_skip0 rfl ?hw ?_; case hw => ((conv => (lhs; whnf)); first | done | with_reducible rfl)) | (refine wpPlan_skip1d rfl ?hw ?_; case hw => ((conv => (lhs; whnf)); first | done | with_reducible rfl)) | (refine wpPlan_skip2 rfl ?hw ?_; case hw => ((conv => (lhs; whnf)); first | done | with_reducible rfl)) | (refine wpPlan_read1 rfl ?hw rfl (fun _ _ _ => ?_); case hw => ((conv => (lhs; whnf)); first | done | with_reducible rfl)) | refine wpPlan_fork ?_ ?_) | ((with_reducible show Owed _ _ _ _ _ _ _ _ _); first | refine Owed.none_ ?_ | refine Owed.nil_ ?_ | refine Owed.miss rfl ?_ | refine Owed.hit ?_ ?_) | ((with_reducible show Same _ _ _ _ _); intro _; go_simp; done) | (with_reducible exact True.intro) | ((with_reducible show Code.wp _ (Code.region 14 _ true) _ _ _); refine wp_region_plan [(0, 0, []), (1, 1, []), (2, 1, []), (3, 0, []), (4, 0, []), (5, 1, []), (6, 1, []), (7, 1, []), (8, 1, []), (9, 1, []), (10, 1, [])] (by kernel_rfl) (by kernel_rfl) (by kernel_rfl) ?_) | ((with_reducible show Code.wp _ (Code.region 16 _ true) _ _ _); refine wp_region_plan [(0, 0, []), (1, 1, []), (2, 1, []), (3, 0, []), (4, 0, []), (5, 1, []), (6, 1, []), (7, 1, []), (8, 1, []), (9, 0, []), (10, 1, []), (11, 1, []), (12, 2, []), (13, 0, [])] (by kernel_rfl) (by kernel_rfl) (by kernel_rfl) ?_) | ((with_reducible show Code.wp _ (Code.region 24 _ true) _ _ _); refine wp_region_plan [(0, 0, []), (1, 0, []), (2, 0, []), (3, 1, []), (4, 1, []), (5, 1, []), (6, 0, []), (7, 0, []), (8, 0, []), (9, 1, []), (10, 1, []), (11, 1, []), (12, 1, []), (13, 1, []), (14, 1, []), (15, 2, []), (16, 0, [])] (by kernel_rfl) (by kernel_rfl) (by kernel_rfl) ?_))
                    go_roundw
                    case rel => exact ⟨q + 1, lk, n6, by omega, hnx6, hlk, by go_num, HE, HF⟩
                    case measure => simp [intOf]; omega
                · have hkn : q = nr := by omega
                  subst hkn
                  have hsd : ((r.take q).map (ren (vis ls i r q).1)).foldl insF [] = sd (r.map (ren (vis ls i r q).1)) := by
                    rw [← HNR.out, List.take_length]
                    rfl
                  have hrow := HI.out.2.1
                  have hnl := HLK.out.2
                  rw [hsd] at hrow hnl
                  have hlol : lo ≤ lk := by
                    have h1 := visit_len (r.take q) ((canonK ls i).num, (canonK ls i).old)
                    rw [HLO.out, HLK.out.1]
                    exact h1
                  have hfr : Outside (fun x => x = gN ∨ (Value.slice (some ⟨go, 0, none⟩) lo co).ownBlock = some x ∨ wr.heap.size ≤ x) wr wk := HI.out.1.fr
                  have hvo : ∀ x, (Value.slice (some ⟨go, 0, none⟩) lo co).ownBlock = some x → go = x := fun x hx => by simpa [Value.ownBlock] using hx
                  have hgo2 := HW.out.2.2.1 go rfl
                  have hgT : go ≠ T := fun e => own_apart HOLD.out HW.out.2.2.2.2.1 (by decide) (by rw [← e]; rfl)
                  have HT7 := Lib.hid (show Blk wk T 27 #[.slice Aq i cq] ∧ Blk wk w.heap.size 27 #[.slice (some ⟨b1, o1, none⟩) k c] ∧ Blk wk (w.heap.size + 1) 27 #[.slice none 0 0] ∧ Below w.heap.size w wk from by
                    have hd : ∀ x, (x = T ∨ x ≤ w.heap.size + 1) → ¬ (x = gN ∨ (Value.slice (some ⟨go, 0, none⟩) lo co).ownBlock = some x ∨ wr.heap.size ≤ x) := fun x hx e => by
                      rcases e with e | e | e
                      · omega
                      · have := hvo x e; omega
                      · omega
                    exact ⟨HW.out.2.2.2.2.1.out hfr (hd _ (.inl rfl)), HW.out.2.2.2.2.2.1.out hfr (hd _ (.inr (by omega))), HW.out.2.2.2.2.2.2.1.out hfr (hd _ (.inr (by omega))), HB8.out.trans (hfr.below HB8.out.size (fun x hx => hd x (.inr (by omega))))⟩)
                  have HRX7 := Lib.hid (HXS.out.outT hfr (fun x hx e => by
                    rcases e with e | e | e
                    · exact own_apart HXS.out.own HW.out.1 (by decide) (by rw [← e]; exact hx)
                    · exact own_apart_own HXS.out.own HOLD.out (by decide) hx e
                    · have := own_lt HXS.out.own hx; omega) (fun u l hu x hx e => by
                    rcases e with e | e | e
                    · exact own_apart hu HW.out.1 (by decide) (by rw [← e]; exact hx)
                    · exact own_apart_own hu HOLD.out (by decide) hx e
                    · have := own_lt hu hx; omega))
                  have HU7 := Lib.hid (show wk.ownsRow 0 23 2 (.slice An nx cn) (sd (r.map (ren (vis ls i r q).1))).length (cellsOf Arc.cells (sd (r.map (ren (vis ls i r q).1)))) ∧ ∀ x, (Value.slice An nx cn).ownBlock = some x → T + 1 ≤ x from
                    ⟨by rw [← hnl]; exact hrow, fun x hx => by have := HI.out.2.2 x hx; omega⟩)
                  have HK := Lib.hid (show canonK ls (i + 1) = ⟨(vis ls i r q).1, (vis ls i r q).2, (canonK ls i).out ++ [sd (r.map (ren (vis ls i r q).1))]⟩ from by rw [canon_next HRR.out, HNR.out])
                  have t7c := HT7.out.1.cell
                  have t7l := HT7.out.1.lt
                  have hfs := hfr.size
                  clear hrow hnl hsd hfr hvo hgT
                  go_wp2_with (first | ((with_reducible show wpPlan _ _ _ _ _ (Act.put _ _ _) _); simp only [List.getElem_toArray, List.getElem_cons_succ, List.getElem_cons_zero, Act.put, List.setIfInBounds_toArray, List.set_cons_zero, List.set_cons_succ]) | ((with_reducible show wpPlan _ _ _ _ _ _ _); first | refine wpPlan_nil ?_ | (refine wpPlan_read0 rfl ?hw rfl (fun _ _ _ => ?_); case hw => ((conv => (lhs; whnf)); first | done | with_reducible rfl)) | (refine wpPlan_read1d rfl ?hw rfl rfl (fun _ _ _ => ?_); case hw => ((conv => (lhs; whnf)); first | done | with_reducible rfl)) | (refine wpPlan_eff rfl ?hw (fun _ _ => ?_); case hw => ((conv => (lhs; whnf)); first | done | with_reducible rfl)) | (refine wpPlan_skip0 rfl ?hw ?_; case hw => ((conv => (lhs; whnf)); first | done | with_reducible rfl)) | (refine wpPlan_skip1d rfl ?hw ?_; case hw => ((conv => (lhs; whnf)); first | done | with_reducible rfl)) | (refine wpPlan_skip2 rfl ?hw ?_; case hw => ((conv => (lhs; whnf)); first | done | with_reducible rfl)) | (refine wpPlan_read1 rfl ?hw rfl (fun _ _ _ => ?_); case hw => ((conv => (lhs; whnf)); first | done | with_reducible rfl)) | refine wpPlan_fork ?_ ?_) | ((with_reducible show Owed _ _ _ _ _ _ _ _ _); first | refine Owed.none_ ?_ | refine Owed.nil_ ?_ | refine Owed.miss rfl ?_ | refine Owed.hit ?_ ?_) | ((with_reducible show Same _ _ _ _ _); intro _; go_simp; done) | (with_reducible exact True.intro) | ((with_reducible show Code.wp _ (Code.region 14 _ true) _ _ _); refine wp_region_plan [(0, 0, []), (1, 1, []), (2, 1, []), (3, 0, []), (4, 0, []), (5, 1, []), (6, 1, []), (7, 1, []), (8, 1, []), (9, 1, []), (10, 1, [])] (by kernel_rfl) (by kernel_rfl) (by kernel_rfl) ?_) | ((with_reducible show Code.wp _ (Code.region 16 _ true) _ _ _); refine wp_region_plan [(0, 0, []), (1, 1, []), (2, 1, []), (3, 0, []), (4, 0, []), (5, 1, []), (6, 1, []), (7, 1, []), (8, 1, []), (9, 0, []), (10, 1, []), (11, 1, []), (12, 2, []), (13, 0, [])] (by kernel_rfl) (by kernel_rfl) (by kernel_rfl) ?_) | ((with_reducible show Code.wp _ (Code.region 24 _ true) _ _ _); refine wp_region_plan [(0, 0, []), (1, 0, []), (2, 0, []), (3, 1, []), (4, 1, []), (5, 1, []), (6, 0, []), (7, 0, []), (8, 0, []), (9, 1, []), (10, 1, []), (11, 1, []), (12, 1, []), (13, 1, []), (14, 1, []), (15, 2, []), (16, 0, [])] (by kernel_rfl) (by kernel_rfl) (by kernel_rfl) ?_) | (at_builtin; refine appList_blk rfl slRow rfl (World.ownsRow.alloc HRX7.out.own _) rfl (news := [.slice An nx cn]) ((heap_alloc_at rfl) : Blk _ wk.heap.size _ _) rfl rfl (by simp [Value.oneCell']) (by decide) (by unfold maxLen; omega) (by omega) ?_; intro g8 c8 w8 hown8 hgrow8 hat8; refine Stop7.intro ?_))
                  unfold Stop7
                  have hO8 : Outside (fun x => (Value.slice Aq i cq).ownBlock = some x) wk w8 := ((Outside.refl (fun x => (Value.slice Aq i cq).ownBlock = some x) wk).alloc (.cells #[.slice An nx cn] 24)).grown hgrow8 (fun z hz => .inl hz)
                  have hg8 : ∀ x, (Value.slice (some ⟨g8, 0, none⟩) (i + 1) c8).ownBlock = some x → T + 1 ≤ x := fun x hx => by
                    have h1 : g8 = x := by simpa [Value.ownBlock] using hx
                    rcases hat8 with h | h
                    · have := HRX7.out.base g8 h; omega
                    · simp at h
                      omega
                  have hSn := HRX7.out.snoc hown8 hg8 hO8 HU7.out.1 HU7.out.2
                  have hs8 := hO8.size
                  have hqb : ∀ x, (Value.slice Aq i cq).ownBlock = some x → T + 1 ≤ x := HRX7.out.base
                  have hT8 := HT7.out.1.out hO8 (fun e => by have := hqb _ e; omega)
                  have t8c := hT8.cell
                  have t8l := hT8.lt
                  have t8f := hT8.frozen
                  have hO9 : Outside (fun x => x = T) w8 (w8.setCell ⟨T, 0, none⟩ (.slice (some ⟨g8, 0, none⟩) (i + 1) c8)) := (Outside.refl (fun x => x = T) w8).setCell (p := ⟨T, 0, none⟩) (Or.inl rfl) _
                  have hO7 := own_out HOLK.out hO8 (fun x hx e => own_apart_own HRX7.out.own HOLK.out (by decide) e hx)
                  have HE := Lib.hid (show Blk (w8.setCell ⟨T, 0, none⟩ (.slice (some ⟨g8, 0, none⟩) (i + 1) c8)) gN 3 (cellsOf icell (canonK ls (i + 1)).num).toArray ∧ (w8.setCell ⟨T, 0, none⟩ (.slice (some ⟨g8, 0, none⟩) (i + 1) c8)).ownsRow 0 3 1 (.slice Ak lk ck) (canonK ls (i + 1)).old.length (cellsOf ncell (canonK ls (i + 1)).old) ∧
                      (∀ x, (Value.slice Ak lk ck).ownBlock = some x → gN < x) ∧ (∃ xs, RowsX (w8.setCell ⟨T, 0, none⟩ (.slice (some ⟨g8, 0, none⟩) (i + 1) c8)) (T + 1) (.slice (some ⟨g8, 0, none⟩) (i + 1) c8) (i + 1) xs (canonK ls (i + 1)).out) ∧ Blk (w8.setCell ⟨T, 0, none⟩ (.slice (some ⟨g8, 0, none⟩) (i + 1) c8)) T 27 #[.slice (some ⟨g8, 0, none⟩) (i + 1) c8] ∧
                      Blk (w8.setCell ⟨T, 0, none⟩ (.slice (some ⟨g8, 0, none⟩) (i + 1) c8)) w.heap.size 27 #[.slice (some ⟨b1, o1, none⟩) k c] ∧ Blk (w8.setCell ⟨T, 0, none⟩ (.slice (some ⟨g8, 0, none⟩) (i + 1) c8)) (w.heap.size + 1) 27 #[.slice none 0 0] ∧ Below w.heap.size w (w8.setCell ⟨T, 0, none⟩ (.slice (some ⟨g8, 0, none⟩) (i + 1) c8)) from by
                    rw [HK.out]
                    refine ⟨(HI.out.1.num_.out hO8 (fun e => own_apart HRX7.out.own HI.out.1.num_ (by decide) e)).out hO9 (by omega), ?_, HI.out.1.one, ⟨_, hSn.out hO9 (fun x h1 h2 => by omega)⟩, ?_, (HT7.out.2.1.out hO8 (fun e => by have := hqb _ e; omega)).out hO9 (by omega), (HT7.out.2.2.1.out hO8 (fun e => by have := hqb _ e; omega)).out hO9 (by omega), (HT7.out.2.2.2.trans (hO8.below HT7.out.2.2.2.size (fun x hx e => by have := hqb _ e; omega))).setCell (p := ⟨T, 0, none⟩) (by dsimp only; omega) _⟩
                    · have h1 := own_out hO7 hO9 (fun x hx e => own_apart hO7 hT8 (by decide) (by rw [← e]; exact hx))
                      show (w8.setCell ⟨T, 0, none⟩ (.slice (some ⟨g8, 0, none⟩) (i + 1) c8)).ownsRow 0 3 1 (.slice Ak lk ck) (vis ls i r q).2.length (cellsOf ncell (vis ls i r q).2)
                      rw [← HLK.out.1]
                      exact h1
                    · exact hT8.put 0 _)
                  have HLK2 := Lib.hid (show lk = (canonK ls (i + 1)).old.length by rw [HK.out]; exact HLK.out.1)
                  have HJ2 := Lib.hid (show ∀ j, j < i + 1 → j < (canonK ls j).old.length from fun j hj => by
                    by_cases h : j < i
                    · exact HJ.out j h
                    · have : j = i := by omega
                      subst this
                      rw [← HLO.out]
                      exact hlt)
                  have hzT : T < (w8.setCell ⟨T, 0, none⟩ (.slice (some ⟨g8, 0, none⟩) (i + 1) c8)).heap.size := by simp; omega
                  clear hO8 hg8 hSn hqb hown8 hgrow8 hat8 hT8 hO9 hO7
                  go_wp2_with (first | ((with_reducible show wpPlan _ _ _ _ _ (Act.put _ _ _) _); simp only [List.getElem_toArray, List.getElem_cons_succ, List.getElem_cons_zero, Act.put, List.setIfInBounds_toArray, List.set_cons_zero, List.set_cons_succ]) | ((with_reducible show wpPlan _ _ _ _ _ _ _); first | refine wpPlan_nil ?_ | (refine wpPlan_read0 rfl ?hw rfl (fun _ _ _ => ?_); case hw => ((conv => (lhs; whnf)); first | done | with_reducible rfl)) | (refine wpPlan_read1d rfl ?hw rfl rfl (fun _ _ _ => ?_); case hw => ((conv => (lhs; whnf)); first | done | with_reducible rfl)) | (refine wpPlan_eff rfl ?hw (fun _ _ => ?_); case hw => ((conv => (lhs; whnf)); first | done | with_reducible rfl)) | (refine wpPlan_skip0 rfl ?hw ?_; case hw => ((conv => (lhs; whnf)); first | done | with_reducible rfl)) | (refine wpPlan_skip1d rfl ?hw ?_; case hw => ((conv => (lhs; whnf)); first | done | with_reducible rfl)) | (refine wpPlan_skip2 rfl ?hw ?_; case hw => ((conv => (lhs; whnf)); first | done | with_reducible rfl)) | (refine wpPlan_read1 rfl ?hw rfl (fun _ _ _ => ?_); case hw => ((conv => (lhs; whnf)); first | done | with_reducible rfl)) | refine wpPlan_fork ?_ ?_) | ((with_reducible show Owed _ _ _ _ _ _ _ _ _); first | refine Owed.none_ ?_ | refine Owed.nil_ ?_ | refine Owed.miss rfl ?_ | refine Owed.hit ?_ ?_) | ((with_reducible show Same _ _ _ _ _); intro _; go_simp; done) | (with_reducible exact True.intro) | ((with_reducible show Code.wp _ (Code.region 14 _ true) _ _ _); refine wp_region_plan [(0, 0, []), (1, 1, []), (2, 1, []), (3, 0, []), (4, 0, []), (5, 1, []), (6, 1, []), (7, 1, []), (8, 1, []), (9, 1, []), (10, 1, [])] (by kernel_rfl) (by kernel_rfl) (by kernel_rfl) ?_) | ((with_reducible show Code.wp _ (Code.region 16 _ true) _ _ _); refine wp_region_plan [(0, 0, []), (1, 1, []), (2, 1, []), (3, 0, []), (4, 0, []), (5, 1, []), (6, 1, []), (7, 1, []), (8, 1, []), (9, 0, []), (10, 1, []), (11, 1, []), (12, 2, []), (13, 0, [])] (by kernel_rfl) (by kernel_rfl) (by kernel_rfl) ?_) | ((with_reducible show Code.wp _ (Code.region 24 _ true) _ _ _); refine wp_region_plan [(0, 0, []), (1, 0, []), (2, 0, []), (3, 1, []), (4, 1, []), (5, 1, []), (6, 0, []), (7, 0, []), (8, 0, []), (9, 1, []), (10, 1, []), (11, 1, []), (12, 1, []), (13, 1, []), (14, 1, []), (15, 2, []), (16, 0, [])] (by kernel_rfl) (by kernel_rfl) (by kernel_rfl) ?_))
                  go_roundw
                  case rel => exact ⟨i + 1, lk, _, by omega, hlk, by go_num, hzT, HLK2, HE, HJ2⟩
                  case measure => simp [intOf]; omega
        · have hil : i = lo := by omega
          subst hil
          have t7c := HW.out.2.2.2.2.1.cell
          have t7l := HW.out.2.2.2.2.1.lt
          have b1c := HW.out.2.2.2.2.2.2.1.cell
          have b1l := HW.out.2.2.2.2.2.2.1.lt
          have b1f := HW.out.2.2.2.2.2.2.1.frozen
          obtain ⟨Ao, co, rfl, _, _⟩ := own_form HOLD.out
          have hput := (HW.out.2.2.2.2.2.2.1.put 0 (.slice Aq i cq)).cell 0
          have hO9 : Outside (fun x => x = w.heap.size + 1) wr (wr.setCell ⟨w.heap.size + 1, 0, none⟩ (.slice Aq i cq)) := (Outside.refl (fun x => x = w.heap.size + 1) wr).setCell (p := ⟨w.heap.size + 1, 0, none⟩) (Or.inl rfl) _
          have HZ := Lib.hid (And.intro (HXS.out.out hO9 (fun x h1 h2 => by omega)) (And.intro (Rd.ofOwn (own_out HOLD.out hO9 (fun x hx e => by have := HW.out.2.2.1 x hx; omega))) (HB8.out.setCell (p := ⟨w.heap.size + 1, 0, none⟩) (by simp) (.slice Aq i cq))))
          clear hO9
          go_wp2_with (first | ((with_reducible show wpPlan _ _ _ _ _ (Act.put _ _ _) _); simp only [List.getElem_toArray, List.getElem_cons_succ, List.getElem_cons_zero, Act.put, List.setIfInBounds_toArray, List.set_cons_zero, List.set_cons_succ]) | ((with_reducible show wpPlan _ _ _ _ _ _ _); first | refine wpPlan_nil ?_ | (refine wpPlan_read0 rfl ?hw rfl (fun _ _ _ => ?_); case hw => ((conv => (lhs; whnf)); first | done | with_reducible rfl)) | (refine wpPlan_read1d rfl ?hw rfl rfl (fun _ _ _ => ?_); case hw => ((conv => (lhs; whnf)); first | done | with_reducible rfl)) | (refine wpPlan_eff rfl ?hw (fun _ _ => ?_); case hw => ((conv => (lhs; whnf)); first | done | with_reducible rfl)) | (refine wpPlan_skip0 rfl ?hw ?_; case hw => ((conv => (lhs; whnf)); first | done | with_reducible rfl)) | (refine wpPlan_skip1d rfl ?hw ?_; case hw => ((conv => (lhs; whnf)); first | done | with_reducible rfl)) | (refine wpPlan_skip2 rfl ?hw ?_; case hw => ((conv => (lhs; whnf)); first | done | with_reducible rfl)) | (refine wpPlan_read1 rfl ?hw rfl (fun _ _ _ => ?_); case hw => ((conv => (lhs; whnf)); first | done | with_reducible rfl)) | refine wpPlan_fork ?_ ?_) | ((with_reducible show Owed _ _ _ _ _ _ _ _ _); first | refine Owed.none_ ?_ | refine Owed.nil_ ?_ | refine Owed.miss rfl ?_ | refine Owed.hit ?_ ?_) | ((with_reducible show Same _ _ _ _ _); intro _; go_simp; done) | (with_reducible exact True.intro) | ((with_reducible show Code.wp _ (Code.region 14 _ true) _ _ _); refine wp_region_plan [(0, 0, []), (1, 1, []), (2, 1, []), (3, 0, []), (4, 0, []), (5, 1, []), (6, 1, []), (7, 1, []), (8, 1, []), (9, 1, []), (10, 1, [])] (by kernel_rfl) (by kernel_rfl) (by kernel_rfl) ?_) | ((with_reducible show Code.wp _ (Code.region 16 _ true) _ _ _); refine wp_region_plan [(0, 0, []), (1, 1, []), (2, 1, []), (3, 0, []), (4, 0, []), (5, 1, []), (6, 1, []), (7, 1, []), (8, 1, []), (9, 0, []), (10, 1, []), (11, 1, []), (12, 2, []), (13, 0, [])] (by kernel_rfl) (by kernel_rfl) (by kernel_rfl) ?_) | ((with_reducible show Code.wp _ (Code.region 24 _ true) _ _ _); refine wp_region_plan [(0, 0, []), (1, 0, []), (2, 0, []), (3, 1, []), (4, 1, []), (5, 1, []), (6, 0, []), (7, 0, []), (8, 0, []), (9, 1, []), (10, 1, []), (11, 1, []), (12, 1, []), (13, 1, []), (14, 1, []), (15, 2, []), (16, 0, [])] (by kernel_rfl) (by kernel_rfl) (by kernel_rfl) ?_))
          refine bodyPost_ret (v := .tuple #[.agg #[.slice Aq i cq], .slice Ao i co]) (by simp [results, Try.results47, go_sem, hput]) rfl ?_
          exact ⟨Aq, i, cq, _, Ao, i, co, _, rfl, ⟨_, _, by omega, HZ.out.1⟩, HZ.out.2.1, HZ.out.2.2, i, ⟨HJ.out, by rw [← HLO.out]; omega⟩, rfl, rfl⟩

theorem rcanonical_any (A : Option Addr) (n c B : Nat) (ls : List (List Arc)) (w : World) (h : RdL w B A n ls) (hB : B ≤ w.heap.size) (hlo : looseB ls = true) :
    Calls Try.prog 47 #[lts A n c] w (RCanPost w ls) := by
  refine (rcanonicalX_any A n c B ls w h hB hlo).mono ?_
  rintro e w' ⟨A1, n1, c1, out, A2, n2, c2, old, h1, ⟨_, _, _, h2⟩, h3⟩
  exact ⟨A1, n1, c1, out, A2, n2, c2, old, h1, h2.whole, h3⟩

end Go.Proofs.Ytmciinikfjfegaa
