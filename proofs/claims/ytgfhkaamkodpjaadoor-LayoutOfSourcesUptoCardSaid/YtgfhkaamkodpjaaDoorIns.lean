/- walks of the layout package's inserter -/
import Derived.Test.YtgfhkaamkodpjaaDoorRows
import Derived.Test.YtgfhkaamkodpjaaDoorMem
import Derived.Test.YtgfhkaamkodpjaaDoorPlan
namespace Go.Proofs.YtgfhkaamkodpjaaDoor
open Go Go.RowKit
set_option maxHeartbeats 400000

theorem infoTok : (Tryd.prog.info? 40).map (fun i => (i.zero, i.size, i.bytes)) = some (some (.agg #[.int .i64 0, .int .i64 0, .string ByteArray.empty, .int .i64 0, .int .i64 0]), 5, 48) := by kernel_rfl
theorem infoInt : (Tryd.prog.info? 3).map (fun i => (i.zero, i.size, i.bytes)) = some (some (.int .i64 0), 1, 8) := by kernel_rfl
theorem infoPos : (Tryd.prog.info? 29).map (fun i => (i.zero, i.size, i.bytes)) = some (some (.agg #[.int .i64 0, .int .i64 0]), 2, 16) := by kernel_rfl

theorem slTok : SlT Tryd.prog 22 40 5 48 := SlT.of Tryd.underlying22 infoTok rfl (by decide)
theorem slInt : SlT Tryd.prog 23 3 1 8 := SlT.of Tryd.underlying23 infoInt rfl (by decide)
theorem slPos : SlT Tryd.prog 66 29 2 16 := SlT.of Tryd.underlying66 infoPos rfl (by decide)
theorem insert_any (b : Nat) (out : Value) (n : Nat) (xs : List Value) (kind : Int) (p : Pos) (cs : Array Value) (w : World)
    (hb : Blk w b 68 cs) (h0 : cs[0]? = some out) (ho : w.ownsRow 0 40 5 out n xs) (hn : n ≤ 1000000000) :
    Calls Tryd.prog 39 #[.pointer (some ⟨b, 0, none⟩), .int .i64 kind, p.v] w fun e w' => e = .returned (.tuple #[]) ∧ ∃ out', Blk w' b 68 (cs.setIfInBounds 0 out') ∧
      w'.ownsRow 0 40 5 out' (n + 1) (xs ++ Tok.cells ⟨kind, 0, ByteArray.empty, p⟩) ∧ Outside (fun k => k = b ∨ out.ownBlock = some k) w w' ∧ (out'.ownBlock = out.ownBlock ∨ ∃ g, out'.ownBlock = some g ∧ w.heap.size ≤ g) := by
  have hbl := hb.lt
  have hf0 : w.frozen? ⟨b, 0, none⟩ = false := hb.frozen 0
  have hc0 : w.cell? ⟨b, 0, none⟩ = some out := (hb.cell 0).trans h0
  obtain ⟨A, cap, rfl, hcap, hmax⟩ := own_form ho
  obtain ⟨pl, pc⟩ := p
  have hnb : (Value.slice A n cap).ownBlock ≠ some b := own_apart ho hb (by decide)
  have hnw : (Value.slice A n cap).ownBlock ≠ some w.heap.size := fun h => by have := own_lt ho h; omega
  go_enter Tryd.func39, Tryd.ntmps39
  go_wp2
  refine wp_region_plan [(0, 0, []), (1, 0, []), (2, 1, []), (3, 1, []), (4, 1, []), (5, 0, []), (6, 1, []), (7, 1, []), (8, 2, [2, 3, 4]), (9, 2, []), (10, 1, []), (11, 1, []), (12, 2, [])] (by kernel_rfl) (by kernel_rfl) (by kernel_rfl) ?_
  go_wp2_with (first | ((with_reducible show wpPlan _ _ _ ((9, 2, _) :: _) _ _ _); refine wpPlan_eff rfl rfl (fun _ hK => ?_); refine app_blk slTok rfl (((ho.alloc _).alloc _).drew) rfl (news := Tok.cells ⟨kind, 0, ByteArray.empty, ⟨pl, pc⟩⟩) ((heap_alloc_at (by simp)) : Blk _ (w.heap.size + 1) _ _) rfl rfl (by simp [Tok.cells, Value.oneCell']) (by omega) (by unfold maxLen; omega) (by omega) ?_; intro g cap1 w1 hown1 hgrow hat; refine hK _ _ ?_; clear hK; have hb1 := (((hb.alloc _).alloc _).drew).grown hgrow (Ne.symm hnb); have hf1 := hb1.frozen 0; have hc1 := (hb1.cell 0).trans h0; simp only [Act.put, List.setIfInBounds_toArray]) | ((with_reducible show wpPlan _ _ _ [] _ _ _); refine wpPlan_nil ?_) | ((with_reducible show wpPlan _ _ _ ((_, 0, _) :: _) _ _ _); first | (refine wpPlan_read0 rfl ?hw rfl (fun _ _ _ => ?_); case hw => ((conv => (lhs; whnf)); first | done | with_reducible rfl)) | (refine wpPlan_skip0 rfl ?hw ?_; case hw => ((conv => (lhs; whnf)); first | done | with_reducible rfl))) | ((with_reducible show wpPlan _ _ _ ((_, 1, _) :: _) _ _ _); first | (refine wpPlan_read1 rfl ?hw rfl (fun _ _ _ => ?_); case hw => ((conv => (lhs; whnf)); first | done | with_reducible rfl)) | (refine wpPlan_skip1 rfl ?hw ?_; case hw => ((conv => (lhs; whnf)); first | done | with_reducible rfl))) | ((with_reducible show wpPlan _ _ _ ((_, 2, _) :: _) _ _ _); first | (refine wpPlan_eff rfl ?hw (fun _ _ => ?_); case hw => ((conv => (lhs; whnf)); first | done | with_reducible rfl)) | (refine wpPlan_skip2 rfl ?hw ?_; case hw => ((conv => (lhs; whnf)); first | done | with_reducible rfl))) | ((with_reducible show wpPlan _ _ _ _ _ _ _); refine wpPlan_fork ?_ ?_) | ((with_reducible show Owed _ _ _ [] _ _ _ _ _); refine Owed.none_ ?_) | ((with_reducible show Owed _ _ _ _ [] _ _ _ _); refine Owed.nil_ ?_) | ((with_reducible show Owed _ _ _ _ _ _ _ _ _); first | (refine Owed.miss rfl ?_) | (refine Owed.hit ?_ ?_)) | ((with_reducible show Same _ _ _ _ _); intro _; go_simp; done) | (with_reducible exact True.intro))
  go_end0
  refine ⟨rfl, _, hb1.put 0 _, own_setCell hown1 (own_apart hown1 hb1 (by decide)) _, ?_, ?_⟩
  · have hO : Outside (fun k => k = b ∨ (Value.slice A n cap).ownBlock = some k) w w1 := ((((Outside.refl _ _).alloc _).alloc _).drew).grown hgrow (fun k hk => Or.inl (Or.inr hk))
    exact hO.setCell (p := ⟨b, 0, none⟩) (Or.inl (Or.inl rfl)) _
  · exact hat.imp (fun h => h.symm) (fun h => ⟨g, rfl, by simp at h; omega⟩)
end Go.Proofs.YtgfhkaamkodpjaaDoor
