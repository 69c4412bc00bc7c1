/- the generators' choices: New, Left, Next, Mod -/
import Derived.Test.YtlblaopkmigheaaGreatDoorRows
import Derived.Test.YtlblaopkmigheaaGreatDoorMem
import Derived.Test.YtlblaopkmigheaaGreatDoorPlan2
import Derived.IntWalk
namespace Go.Proofs.YtlblaopkmigheaaGreatDoor
open Go Go.RowKit
set_option maxHeartbeats 4000000

theorem mod_any (v n : Int) (w : World) (h1 : 1 ≤ n) (h2 : n ≤ 1000000) : Calls Tryz.prog 13 #[.int .i64 v, .int .i64 n] w fun e w' => (∃ r : Int, e = .returned (.int .i64 r) ∧ 0 ≤ r ∧ r < n) ∧ w = w' := by
  go_enter Tryz.func13, Tryz.ntmps13
  go_wp2
  have h0 : 0 ≤ IntKind.u64.wrap v := by
    have e : IntKind.u64.wrap v = v % 18446744073709551616 := rfl
    rw [e]
    exact Int.emod_nonneg _ (by decide)
  have h3 := Int.tmod_nonneg n h0
  have h4 := Int.tmod_lt_of_pos (IntKind.u64.wrap v) (show 0 < n by omega)
  have h5 : wrap64 ((IntKind.u64.wrap v).tmod n) = (IntKind.u64.wrap v).tmod n := IntWalk.wrap64_in _ ⟨by omega, by omega⟩
  go_ret
  exact ⟨⟨_, ret_int h5, h3, h4⟩, rfl⟩

/-- choices at b: the list (a slice A n c of ints that lies below block B), the next place -/
structure ChAt (w : World) (B b : Nat) (A : Option Addr) (n c : Nat) (zs : List Int) (i : Nat) : Prop where
  blk : Blk w b 44 #[.slice A n c, .int .i64 i]
  rd : Rd w B 1 A n (cellsOf icell zs)
  lo : B ≤ b
  le : i ≤ n
section
variable {w w' : World} {B b n c i : Nat} {A : Option Addr} {zs : List Int} {R : Nat → Prop}
theorem ChAt.below (h : ChAt w B b A n c zs i) (hb : Below w.heap.size w w') : ChAt w' B b A n c zs i :=
  ⟨h.blk.below hb h.blk.lt, h.rd.keep (fun p hp => hb.cell (by have := h.lo; have := h.blk.lt; omega)), h.lo, h.le⟩
theorem ChAt.out (h : ChAt w B b A n c zs i) (hO : Outside R w w') (hR : ¬ R b) (hB : ∀ k, k < B → ¬ R k) : ChAt w' B b A n c zs i :=
  ⟨h.blk.out hO hR, h.rd.keep (fun _ hp => (hO.below (Nat.le_trans h.lo (Nat.le_of_lt h.blk.lt)) hB).cell hp), h.lo, h.le⟩
theorem ChAt.drew (h : ChAt w B b A n c zs i) : ChAt w.drew B b A n c zs i := h.below ((Below.refl _ _).drew)
end

theorem new_any (B : Nat) (A : Option Addr) (n c : Nat) (zs : List Int) (w : World) (h : Rd w B 1 A n (cellsOf icell zs)) (hB : B ≤ w.heap.size) :
    Calls Tryz.prog 5 #[.slice A n c] w fun e w' => e = .returned (.pointer (some ⟨w.heap.size, 0, none⟩)) ∧ ChAt w' B w.heap.size A n c zs 0 ∧ Below w.heap.size w w' ∧ w'.heap.size = w.heap.size + 1 := by
  have HR := Lib.hid h
  clear h
  go_enter Tryz.func5, Tryz.ntmps5
  go_wp2
  go_ret
  exact ⟨rfl, ⟨Blk.new w _ _, HR.out.alloc hB _, hB, Nat.zero_le _⟩, (Below.refl _ _).alloc (Nat.le_refl _) _, by simp⟩

theorem next_any (B b : Nat) (A : Option Addr) (n c i : Nat) (zs : List Int) (m : Int) (w : World) (h : ChAt w B b A n c zs i) (hn : n ≤ 1000000000000) (h1 : 1 ≤ m) (h2 : m ≤ 1000000) :
    Calls Tryz.prog 6 #[.pointer (some ⟨b, 0, none⟩), .int .i64 m] w fun e w' => (∃ r : Int, e = .returned (.int .i64 r) ∧ 0 ≤ r ∧ r < m) ∧ (∃ j, ChAt w' B b A n c zs j ∧ i ≤ j) ∧ Outside (fun k => k = b) w w' := by
  have hC := h.blk.cell
  have hf := h.blk.frozen
  have hl := h.blk.lt
  have hle := h.le
  have HH := Lib.hid h
  by_cases hin : i < n
  · have hb1 : decide ((n : Int) ≤ (i : Int)) = false := decide_eq_false (by omega)
    obtain ⟨zb, off, z, rfl, hzb, hz, hcz⟩ := h.rd.int hin
    have hne : zb ≠ b := by have := h.lo; omega
    clear h hz
    go_enter Tryz.func6, Tryz.ntmps6
    go_wp2_with (first | ((with_reducible show wpPlan _ _ _ _ _ (Act.put _ _ _) _); simp only [List.getElem_toArray, List.getElem_cons_succ, List.getElem_cons_zero, Act.put, List.setIfInBounds_toArray, List.set_cons_zero, List.set_cons_succ]) | ((with_reducible show wpPlan _ _ _ _ _ _ _); first | refine wpPlan_nil ?_ | (refine wpPlan_read0 rfl ?hw rfl (fun _ _ _ => ?_); case hw => ((conv => (lhs; whnf)); first | done | with_reducible rfl)) | (refine wpPlan_read1d rfl ?hw rfl rfl (fun _ _ _ => ?_); case hw => ((conv => (lhs; whnf)); first | done | with_reducible rfl)) | (refine wpPlan_eff rfl ?hw (fun _ _ => ?_); case hw => ((conv => (lhs; whnf)); first | done | with_reducible rfl)) | (refine wpPlan_skip0 rfl ?hw ?_; case hw => ((conv => (lhs; whnf)); first | done | with_reducible rfl)) | (refine wpPlan_skip1d rfl ?hw ?_; case hw => ((conv => (lhs; whnf)); first | done | with_reducible rfl)) | (refine wpPlan_skip2 rfl ?hw ?_; case hw => ((conv => (lhs; whnf)); first | done | with_reducible rfl)) | (refine wpPlan_read1 rfl ?hw rfl (fun _ _ _ => ?_); case hw => ((conv => (lhs; whnf)); first | done | with_reducible rfl)) | refine wpPlan_fork ?_ ?_) | ((with_reducible show Owed _ _ _ _ _ _ _ _ _); first | refine Owed.none_ ?_ | refine Owed.nil_ ?_ | refine Owed.miss rfl ?_ | refine Owed.hit ?_ ?_) | ((with_reducible show Same _ _ _ _ _); intro _; go_simp; done) | (with_reducible exact True.intro) | ((with_reducible show Code.wp _ (Code.region 1 _ true) _ _ _); refine wp_region_plan [(0, 0, []), (1, 1, []), (2, 1, []), (3, 1, []), (4, 0, []), (5, 1, []), (6, 1, []), (7, 1, []), (8, 1, []), (9, 1, [])] (by kernel_rfl) (by kernel_rfl) (by kernel_rfl) ?_) | ((with_reducible show Code.wp _ (Code.region 4 _ true) _ _ _); refine wp_region_plan [(0, 0, []), (1, 1, []), (2, 1, []), (3, 1, []), (4, 0, []), (5, 1, []), (6, 1, []), (7, 1, []), (8, 1, []), (9, 1, []), (10, 1, []), (11, 0, []), (12, 2, []), (13, 0, [])] (by kernel_rfl) (by kernel_rfl) (by kernel_rfl) ?_))
    refine (mod_any z m _ h1 h2).mono ?_
    rintro e w2 ⟨⟨r, rfl, hr0, hr1⟩, rfl⟩
    go_wp2_with (first | ((with_reducible show wpPlan _ _ _ _ _ (Act.put _ _ _) _); simp only [List.getElem_toArray, List.getElem_cons_succ, List.getElem_cons_zero, Act.put, List.setIfInBounds_toArray, List.set_cons_zero, List.set_cons_succ]) | ((with_reducible show wpPlan _ _ _ _ _ _ _); first | refine wpPlan_nil ?_ | (refine wpPlan_read0 rfl ?hw rfl (fun _ _ _ => ?_); case hw => ((conv => (lhs; whnf)); first | done | with_reducible rfl)) | (refine wpPlan_read1d rfl ?hw rfl rfl (fun _ _ _ => ?_); case hw => ((conv => (lhs; whnf)); first | done | with_reducible rfl)) | (refine wpPlan_eff rfl ?hw (fun _ _ => ?_); case hw => ((conv => (lhs; whnf)); first | done | with_reducible rfl)) | (refine wpPlan_skip0 rfl ?hw ?_; case hw => ((conv => (lhs; whnf)); first | done | with_reducible rfl)) | (refine wpPlan_skip1d rfl ?hw ?_; case hw => ((conv => (lhs; whnf)); first | done | with_reducible rfl)) | (refine wpPlan_skip2 rfl ?hw ?_; case hw => ((conv => (lhs; whnf)); first | done | with_reducible rfl)) | (refine wpPlan_read1 rfl ?hw rfl (fun _ _ _ => ?_); case hw => ((conv => (lhs; whnf)); first | done | with_reducible rfl)) | refine wpPlan_fork ?_ ?_) | ((with_reducible show Owed _ _ _ _ _ _ _ _ _); first | refine Owed.none_ ?_ | refine Owed.nil_ ?_ | refine Owed.miss rfl ?_ | refine Owed.hit ?_ ?_) | ((with_reducible show Same _ _ _ _ _); intro _; go_simp; done) | (with_reducible exact True.intro) | ((with_reducible show Code.wp _ (Code.region 1 _ true) _ _ _); refine wp_region_plan [(0, 0, []), (1, 1, []), (2, 1, []), (3, 1, []), (4, 0, []), (5, 1, []), (6, 1, []), (7, 1, []), (8, 1, []), (9, 1, [])] (by kernel_rfl) (by kernel_rfl) (by kernel_rfl) ?_) | ((with_reducible show Code.wp _ (Code.region 4 _ true) _ _ _); refine wp_region_plan [(0, 0, []), (1, 1, []), (2, 1, []), (3, 1, []), (4, 0, []), (5, 1, []), (6, 1, []), (7, 1, []), (8, 1, []), (9, 1, []), (10, 1, []), (11, 0, []), (12, 2, []), (13, 0, [])] (by kernel_rfl) (by kernel_rfl) (by kernel_rfl) ?_))
    go_ret
    refine ⟨⟨r, rfl, hr0, hr1⟩, ⟨i + 1, ⟨?_, HH.out.rd.setCell (p := ⟨b, 1, none⟩) HH.out.lo _, HH.out.lo, by omega⟩, by omega⟩, (((Outside.refl (fun k => k = b) w).setCell (p := ⟨b, 1, none⟩) (.inl rfl) _).drew).drew⟩
    exact HH.out.blk.put 1 _
  · have hb1 : decide ((n : Int) ≤ (i : Int)) = true := decide_eq_true (by omega)
    clear h
    go_enter Tryz.func6, Tryz.ntmps6
    go_wp2_with (first | ((with_reducible show wpPlan _ _ _ _ _ (Act.put _ _ _) _); simp only [List.getElem_toArray, List.getElem_cons_succ, List.getElem_cons_zero, Act.put, List.setIfInBounds_toArray, List.set_cons_zero, List.set_cons_succ]) | ((with_reducible show wpPlan _ _ _ _ _ _ _); first | refine wpPlan_nil ?_ | (refine wpPlan_read0 rfl ?hw rfl (fun _ _ _ => ?_); case hw => ((conv => (lhs; whnf)); first | done | with_reducible rfl)) | (refine wpPlan_read1d rfl ?hw rfl rfl (fun _ _ _ => ?_); case hw => ((conv => (lhs; whnf)); first | done | with_reducible rfl)) | (refine wpPlan_eff rfl ?hw (fun _ _ => ?_); case hw => ((conv => (lhs; whnf)); first | done | with_reducible rfl)) | (refine wpPlan_skip0 rfl ?hw ?_; case hw => ((conv => (lhs; whnf)); first | done | with_reducible rfl)) | (refine wpPlan_skip1d rfl ?hw ?_; case hw => ((conv => (lhs; whnf)); first | done | with_reducible rfl)) | (refine wpPlan_skip2 rfl ?hw ?_; case hw => ((conv => (lhs; whnf)); first | done | with_reducible rfl)) | (refine wpPlan_read1 rfl ?hw rfl (fun _ _ _ => ?_); case hw => ((conv => (lhs; whnf)); first | done | with_reducible rfl)) | refine wpPlan_fork ?_ ?_) | ((with_reducible show Owed _ _ _ _ _ _ _ _ _); first | refine Owed.none_ ?_ | refine Owed.nil_ ?_ | refine Owed.miss rfl ?_ | refine Owed.hit ?_ ?_) | ((with_reducible show Same _ _ _ _ _); intro _; go_simp; done) | (with_reducible exact True.intro) | ((with_reducible show Code.wp _ (Code.region 1 _ true) _ _ _); refine wp_region_plan [(0, 0, []), (1, 1, []), (2, 1, []), (3, 1, []), (4, 0, []), (5, 1, []), (6, 1, []), (7, 1, []), (8, 1, []), (9, 1, [])] (by kernel_rfl) (by kernel_rfl) (by kernel_rfl) ?_) | ((with_reducible show Code.wp _ (Code.region 4 _ true) _ _ _); refine wp_region_plan [(0, 0, []), (1, 1, []), (2, 1, []), (3, 1, []), (4, 0, []), (5, 1, []), (6, 1, []), (7, 1, []), (8, 1, []), (9, 1, []), (10, 1, []), (11, 0, []), (12, 2, []), (13, 0, [])] (by kernel_rfl) (by kernel_rfl) (by kernel_rfl) ?_))
    go_ret
    exact ⟨⟨0, rfl, by omega, by omega⟩, ⟨i, HH.out.drew, Nat.le_refl _⟩, (Outside.refl _ _).drew⟩

end Go.Proofs.YtlblaopkmigheaaGreatDoor
