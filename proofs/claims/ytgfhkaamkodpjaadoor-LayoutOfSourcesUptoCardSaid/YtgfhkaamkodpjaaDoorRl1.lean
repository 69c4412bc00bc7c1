/- the reference's inserter in memory; walks of its methods put, top, close, begin -/
import Derived.Test.YtgfhkaamkodpjaaDoorRin
namespace Go.Proofs.YtgfhkaamkodpjaaDoor
open Go Go.RowKit
set_option maxHeartbeats 4000000
attribute [local irreducible] kwB syB clB

structure RInsAt (w : World) (b : Nat) (x : RIns) (vo vc : Value) : Prop where
  blk : Blk w b 76 #[vo, vc, .int .i64 x.nx.line, .int .i64 x.nx.col, .int .i64 x.lt.line, .int .i64 x.lt.col]
  out : w.ownsRow 0 40 5 vo x.out.length (cellsOf Tok.cells x.out)
  cols : w.ownsRow 0 3 1 vc x.cols.length (cellsOf icell x.cols.reverse)
def rfoot (b : Nat) (vo vc : Value) (k : Nat) : Prop := k = b ∨ vo.ownBlock = some k ∨ vc.ownBlock = some k
def RStep (w : World) (b : Nat) (vo vc : Value) (x' : RIns) (w' : World) : Prop :=
  ∃ vo' vc', RInsAt w' b x' vo' vc' ∧ Outside (rfoot b vo vc) w w' ∧ ∀ k, rfoot b vo' vc' k → rfoot b vo vc k ∨ w.heap.size ≤ k

section
variable {w w' w1 w2 : World} {b : Nat} {x x' x'' : RIns} {vo vc : Value} {R : Nat → Prop}
theorem RInsAt.lt (h : RInsAt w b x vo vc) {k : Nat} (hk : rfoot b vo vc k) : k < w.heap.size := by
  rcases hk with rfl | hk | hk
  · exact h.blk.lt
  · exact own_lt h.out hk
  · exact own_lt h.cols hk
theorem RInsAt.keep (h : RInsAt w b x vo vc) (ho : Outside R w w') (hR : ∀ k, rfoot b vo vc k → ¬ R k) : RInsAt w' b x vo vc :=
  ⟨h.blk.out ho (hR _ (.inl rfl)), own_out h.out ho (fun _ hg => hR _ (.inr (.inl hg))), own_out h.cols ho (fun _ hg => hR _ (.inr (.inr hg)))⟩
theorem RInsAt.below (h : RInsAt w b x vo vc) (ho : Below w.heap.size w w') : RInsAt w' b x vo vc := h.keep (Below.new ho) (fun _ _ h => h)
theorem RInsAt.alloc (h : RInsAt w b x vo vc) (o : Obj) : RInsAt (w.alloc o) b x vo vc := h.below ((Below.refl _ _).alloc (Nat.le_refl _) o)
theorem RInsAt.drew (h : RInsAt w b x vo vc) : RInsAt w.drew b x vo vc := ⟨h.blk, h.out, h.cols⟩
theorem RInsAt.cell (h : RInsAt w b x vo vc) : ∀ i, w.cell? ⟨b, i, none⟩ = #[vo, vc, .int .i64 x.nx.line, .int .i64 x.nx.col, .int .i64 x.lt.line, .int .i64 x.lt.col][i]? := h.blk.cell
theorem RInsAt.free (h : RInsAt w b x vo vc) : ∀ i, w.frozen? ⟨b, i, none⟩ = false := h.blk.frozen
theorem RStep.after (h0 : Outside (fun _ => False) w w1) (h : RStep w1 b vo vc x' w2) : RStep w b vo vc x' w2 := by
  obtain ⟨vo', vc', h1, h2, h3⟩ := h
  exact ⟨vo', vc', h1, (h0.mono (fun _ _ h => h.elim)).trans h2, fun k hk => (h3 k hk).imp id (fun h => Nat.le_trans h0.size h)⟩
theorem RInsAt.rows (h : RInsAt w b x vo vc) (i : Nat) (u : Value) : (w.setCell ⟨b, i, none⟩ u).ownsRow 0 40 5 vo x.out.length (cellsOf Tok.cells x.out) ∧
    (w.setCell ⟨b, i, none⟩ u).ownsRow 0 3 1 vc x.cols.length (cellsOf icell x.cols.reverse) :=
  ⟨own_setCell h.out (own_apart h.out h.blk (by decide)) u, own_setCell h.cols (own_apart h.cols h.blk (by decide)) u⟩
end

theorem put_any (b : Nat) (out : Value) (n : Nat) (xs : List Value) (kind : Int) (p : Pos) (cs : Array Value) (w : World)
    (hb : Blk w b 76 cs) (h0 : cs[0]? = some out) (ho : w.ownsRow 0 40 5 out n xs) (hn : n ≤ 1000000000) :
    Calls Tryd.prog 47 #[.pointer (some ⟨b, 0, none⟩), .int .i64 kind, p.v] w fun e w' => e = .returned (.tuple #[]) ∧ ∃ out', Blk w' b 76 (cs.setIfInBounds 0 out') ∧
      w'.ownsRow 0 40 5 out' (n + 1) (xs ++ Tok.cells ⟨kind, 0, ByteArray.empty, p⟩) ∧ Outside (fun k => k = b ∨ out.ownBlock = some k) w w' ∧ (out'.ownBlock = out.ownBlock ∨ ∃ g, out'.ownBlock = some g ∧ w.heap.size ≤ g) := by
  have hbl := hb.lt
  have hf0 : w.frozen? ⟨b, 0, none⟩ = false := hb.frozen 0
  have hc0 : w.cell? ⟨b, 0, none⟩ = some out := (hb.cell 0).trans h0
  obtain ⟨A, cap, rfl, hcap, hmax⟩ := own_form ho
  obtain ⟨pl, pc⟩ := p
  have hnb : (Value.slice A n cap).ownBlock ≠ some b := own_apart ho hb (by decide)
  have hnw : (Value.slice A n cap).ownBlock ≠ some w.heap.size := fun h => by have := own_lt ho h; omega
  go_enter Tryd.func47, Tryd.ntmps47
  go_wp2
  refine wp_region_plan [(0, 0, []), (1, 0, []), (2, 1, []), (3, 1, []), (4, 1, []), (5, 0, []), (6, 1, []), (7, 1, []), (8, 2, [2, 3, 4]), (9, 2, []), (10, 1, []), (11, 1, []), (12, 2, [])] (by kernel_rfl) (by kernel_rfl) (by kernel_rfl) ?_
  go_wp2_with (first | ((with_reducible show wpPlan _ _ _ ((9, 2, _) :: _) _ _ _); refine wpPlan_eff rfl rfl (fun _ hK => ?_); refine app_blk slTok rfl (((ho.alloc _).alloc _).drew) rfl (news := Tok.cells ⟨kind, 0, ByteArray.empty, ⟨pl, pc⟩⟩) ((heap_alloc_at (by simp)) : Blk _ (w.heap.size + 1) _ _) rfl rfl (by simp [Tok.cells, Value.oneCell']) (by omega) (by unfold maxLen; omega) (by omega) ?_; intro g cap1 w1 hown1 hgrow hat; refine hK _ _ ?_; clear hK; have hb1 := (((hb.alloc _).alloc _).drew).grown hgrow (Ne.symm hnb); have hf1 := hb1.frozen 0; have hc1 := (hb1.cell 0).trans h0; simp only [Act.put, List.setIfInBounds_toArray]) | ((with_reducible show wpPlan _ _ _ [] _ _ _); refine wpPlan_nil ?_) | ((with_reducible show wpPlan _ _ _ ((_, 0, _) :: _) _ _ _); first | (refine wpPlan_read0 rfl ?hw rfl (fun _ _ _ => ?_); case hw => ((conv => (lhs; whnf)); first | done | with_reducible rfl)) | (refine wpPlan_skip0 rfl ?hw ?_; case hw => ((conv => (lhs; whnf)); first | done | with_reducible rfl))) | ((with_reducible show wpPlan _ _ _ ((_, 1, _) :: _) _ _ _); first | (refine wpPlan_read1 rfl ?hw rfl (fun _ _ _ => ?_); case hw => ((conv => (lhs; whnf)); first | done | with_reducible rfl)) | (refine wpPlan_skip1 rfl ?hw ?_; case hw => ((conv => (lhs; whnf)); first | done | with_reducible rfl))) | ((with_reducible show wpPlan _ _ _ ((_, 2, _) :: _) _ _ _); first | (refine wpPlan_eff rfl ?hw (fun _ _ => ?_); case hw => ((conv => (lhs; whnf)); first | done | with_reducible rfl)) | (refine wpPlan_skip2 rfl ?hw ?_; case hw => ((conv => (lhs; whnf)); first | done | with_reducible rfl))) | ((with_reducible show wpPlan _ _ _ _ _ _ _); refine wpPlan_fork ?_ ?_) | ((with_reducible show Owed _ _ _ [] _ _ _ _ _); refine Owed.none_ ?_) | ((with_reducible show Owed _ _ _ _ [] _ _ _ _); refine Owed.nil_ ?_) | ((with_reducible show Owed _ _ _ _ _ _ _ _ _); first | (refine Owed.miss rfl ?_) | (refine Owed.hit ?_ ?_)) | ((with_reducible show Same _ _ _ _ _); intro _; go_simp; done) | (with_reducible exact True.intro))
  go_end0
  refine ⟨rfl, _, hb1.put 0 _, own_setCell hown1 (own_apart hown1 hb1 (by decide)) _, ?_, ?_⟩
  · have hO : Outside (fun k => k = b ∨ (Value.slice A n cap).ownBlock = some k) w w1 := ((((Outside.refl _ _).alloc _).alloc _).drew).grown hgrow (fun k hk => Or.inl (Or.inr hk))
    exact hO.setCell (p := ⟨b, 0, none⟩) (Or.inl (Or.inl rfl)) _
  · exact hat.imp (fun h => h.symm) (fun h => ⟨g, rfl, by simp at h; omega⟩)

theorem put_step (b : Nat) (x : RIns) (vo vc : Value) (kind : Int) (p : Pos) (w : World) (h : RInsAt w b x vo vc) (hn : x.out.length ≤ 1000000000) :
    Calls Tryd.prog 47 #[.pointer (some ⟨b, 0, none⟩), .int .i64 kind, p.v] w fun e w' => e = .returned (.tuple #[]) ∧ RStep w b vo vc { x with out := x.out ++ [⟨kind, 0, ByteArray.empty, p⟩] } w' := by
  refine (put_any b vo x.out.length _ kind p _ w h.blk rfl h.out hn).mono ?_
  rintro e w' ⟨rfl, out', hb, ho, hout, hat⟩
  refine ⟨rfl, out', vc, ⟨hb, by simpa [cellsOf] using ho, own_out h.cols hout ?_⟩, hout.mono (fun k _ hk => ?_), fun k hk => ?_⟩
  · rintro g hg (rfl | h1)
    · exact own_apart h.cols h.blk (by decide) hg
    · exact own_apart_own h.cols h.out (by decide) hg h1
  · rcases hk with rfl | hk
    · exact .inl rfl
    · exact .inr (.inl hk)
  · rcases hk with rfl | hk | hk
    · exact .inl (.inl rfl)
    · rcases hat with h1 | ⟨g, h1, h2⟩
      · exact .inl (.inr (.inl (by rw [← h1]; exact hk)))
      · rw [h1] at hk
        cases hk
        exact .inr h2
    · exact .inl (.inr (.inr hk))

theorem top_any (b : Nat) (x : RIns) (vo vc : Value) (w : World) (h : RInsAt w b x vo vc) (hc : x.cols ≠ []) (hn : x.cols.length ≤ 1000000000) :
    Calls Tryd.prog 81 #[.pointer (some ⟨b, 0, none⟩)] w fun e w' => e = .returned (.int .i64 (x.cols.headD 0)) ∧ w.drew = w' := by
  obtain ⟨c, r, hcr⟩ := List.exists_cons_of_ne_nil hc
  have hlen : 0 < x.cols.length := by rw [hcr]; simp
  obtain ⟨g, cap, rfl, _, hg⟩ := h.cols.form hlen
  have hC := h.cell
  have hL : w.cell? ⟨g, x.cols.length - 1, none⟩ = some (.int .i64 c) := by
    rw [h.cols.cellAt _ (by omega), show x.cols.length - 1 = (x.cols.length - 1) * 1 + 0 by omega, cellsOf_get icell_len _ _ _ (by decide), hcr]
    simp [icell]
  have HH := Lib.hid (show x.cols.headD 0 = c by rw [hcr]; rfl)
  clear h hc hcr
  go_enter Tryd.func81, Tryd.ntmps81
  go_wp2
  refine wp_region_plan [(0, 0, []), (1, 1, []), (2, 1, []), (3, 1, []), (4, 0, []), (5, 1, []), (6, 1, []), (7, 1, []), (8, 1, []), (9, 1, []), (10, 1, []), (11, 1, []), (12, 0, [])] (by kernel_rfl) (by kernel_rfl) (by kernel_rfl) ?_
  go_wp2_with (first | ((with_reducible show wpPlan _ _ _ [] _ _ _); refine wpPlan_nil ?_) | ((with_reducible show wpPlan _ _ _ ((_, 0, _) :: _) _ _ _); first | (refine wpPlan_read0 rfl ?hw rfl (fun _ _ _ => ?_); case hw => ((conv => (lhs; whnf)); first | done | with_reducible rfl)) | (refine wpPlan_skip0 rfl ?hw ?_; case hw => ((conv => (lhs; whnf)); first | done | with_reducible rfl))) | ((with_reducible show wpPlan _ _ _ ((_, 1, _) :: _) _ _ _); first | (refine wpPlan_read1 rfl ?hw rfl (fun _ _ _ => ?_); case hw => ((conv => (lhs; whnf)); first | done | with_reducible rfl)) | (refine wpPlan_skip1 rfl ?hw ?_; case hw => ((conv => (lhs; whnf)); first | done | with_reducible rfl))) | ((with_reducible show wpPlan _ _ _ ((_, 2, _) :: _) _ _ _); first | (refine wpPlan_eff rfl ?hw (fun _ _ => ?_); case hw => ((conv => (lhs; whnf)); first | done | with_reducible rfl)) | (refine wpPlan_skip2 rfl ?hw ?_; case hw => ((conv => (lhs; whnf)); first | done | with_reducible rfl))) | ((with_reducible show wpPlan _ _ _ _ _ _ _); refine wpPlan_fork ?_ ?_) | ((with_reducible show Owed _ _ _ [] _ _ _ _ _); refine Owed.none_ ?_) | ((with_reducible show Owed _ _ _ _ [] _ _ _ _); refine Owed.nil_ ?_) | ((with_reducible show Owed _ _ _ _ _ _ _ _ _); first | (refine Owed.miss rfl ?_) | (refine Owed.hit ?_ ?_)) | ((with_reducible show Same _ _ _ _ _); intro _; go_simp; done) | (with_reducible exact True.intro))
  go_ret
  exact ⟨ret_int HH.out.symm, rfl⟩

theorem close_any (b : Nat) (x : RIns) (vo vc : Value) (p : Pos) (w : World) (h : RInsAt w b x vo vc) (hc : x.cols ≠ []) (hn : x.out.length ≤ 1000000000) (hcn : x.cols.length ≤ 1000000000) :
    Calls Tryd.prog 52 #[.pointer (some ⟨b, 0, none⟩), p.v] w fun e w' => e = .returned (.tuple #[]) ∧ RStep w b vo vc { x with out := x.out ++ [closeTok p], cols := x.cols.tail } w' := by
  obtain ⟨c, r, hcr⟩ := List.exists_cons_of_ne_nil hc
  have hlen : 0 < x.cols.length := by rw [hcr]; simp
  have HA := Lib.hid (h.alloc (.cells #[.int .i64 p.line, .int .i64 p.col] 29))
  have HX := Lib.hid hcr
  have hb := h.blk.lt
  clear h hc hcr
  go_enter Tryd.func52, Tryd.ntmps52
  go_wp2_with (first | (go_at_call 47; refine (put_step b x vo vc 7 p _ HA.out hn).mono ?_; rintro e w1 ⟨rfl, hS⟩; obtain ⟨vo1, vc1, hI1, hO1, hF1⟩ := hS; obtain ⟨g, cap, rfl, _, hg⟩ := hI1.cols.form hlen; have hcap1 := own_cap hI1.cols; dsimp only at hcap1; have hC1 := hI1.cell; have hf1 := hI1.free; have HI1 := Lib.hid hI1; have HO1 := Lib.hid hO1; have HF1 := Lib.hid hF1; clear hI1 hO1 hF1) | ((with_reducible show wpPlan _ _ _ [] _ _ _); refine wpPlan_nil ?_) | ((with_reducible show wpPlan _ _ _ ((_, 0, _) :: _) _ _ _); first | (refine wpPlan_read0 rfl ?hw rfl (fun _ _ _ => ?_); case hw => ((conv => (lhs; whnf)); first | done | with_reducible rfl)) | (refine wpPlan_skip0 rfl ?hw ?_; case hw => ((conv => (lhs; whnf)); first | done | with_reducible rfl))) | ((with_reducible show wpPlan _ _ _ ((_, 1, _) :: _) _ _ _); first | (refine wpPlan_read1 rfl ?hw rfl (fun _ _ _ => ?_); case hw => ((conv => (lhs; whnf)); first | done | with_reducible rfl)) | (refine wpPlan_skip1 rfl ?hw ?_; case hw => ((conv => (lhs; whnf)); first | done | with_reducible rfl))) | ((with_reducible show wpPlan _ _ _ ((_, 2, _) :: _) _ _ _); first | (refine wpPlan_eff rfl ?hw (fun _ _ => ?_); case hw => ((conv => (lhs; whnf)); first | done | with_reducible rfl)) | (refine wpPlan_skip2 rfl ?hw ?_; case hw => ((conv => (lhs; whnf)); first | done | with_reducible rfl))) | ((with_reducible show wpPlan _ _ _ _ _ _ _); refine wpPlan_fork ?_ ?_) | ((with_reducible show Owed _ _ _ [] _ _ _ _ _); refine Owed.none_ ?_) | ((with_reducible show Owed _ _ _ _ [] _ _ _ _); refine Owed.nil_ ?_) | ((with_reducible show Owed _ _ _ _ _ _ _ _ _); first | (refine Owed.miss rfl ?_) | (refine Owed.hit ?_ ?_)) | ((with_reducible show Same _ _ _ _ _); intro _; go_simp; done) | (with_reducible exact True.intro) | ((with_reducible show Code.wp _ (Code.region 2 _ true) _ _ _); refine wp_region_plan [(0, 0, []), (1, 0, []), (2, 1, []), (3, 1, []), (4, 1, []), (5, 0, []), (6, 1, []), (7, 1, []), (8, 1, []), (9, 1, []), (10, 1, []), (11, 1, []), (12, 1, []), (13, 1, []), (14, 2, [])] (by kernel_rfl) (by kernel_rfl) (by kernel_rfl) ?_))
  go_end0
  refine ⟨rfl, RStep.after (Below.new ((Below.refl _ _).alloc (Nat.le_refl _) _)) ⟨vo1, .slice (some ⟨g, 0, none⟩) (x.cols.length - 1) cap, ?_, (HO1.out.drew).setCell (p := ⟨b, 1, none⟩) (.inl (.inl rfl)) _, fun k hk => HF1.out k hk⟩⟩
  have h1 := HI1.out
  have hl : x.cols.tail.length = x.cols.length - 1 := by rw [HX.out]; simp
  refine RInsAt.drew ?_
  refine ⟨h1.blk.put 1 _, (h1.rows 1 _).1, ?_⟩
  dsimp only
  rw [hl, show cellsOf icell x.cols.tail.reverse = (cellsOf icell x.cols.reverse).take ((x.cols.length - 1) * 1) by
    rw [← cellsOf_take icell_len, HX.out]; simp]
  exact own_cut (h1.rows 1 _).2 (by omega)

/-- the field's slice has been appended to, and is stored back -/
theorem rpushOut {w W1 w2 : World} {b : Nat} {x : RIns} {vo vc v' : Value} {c : Tok} (h : RInsAt w b x vo vc) (h0 : Outside (fun _ => False) w W1) (hg : W1.grownBy w2 vo.ownBlock)
    (ho : w2.ownsRow 0 40 5 v' (x.out.length + 1) (cellsOf Tok.cells x.out ++ c.cells)) (hat : vo.ownBlock = v'.ownBlock ∨ ∃ g, v'.ownBlock = some g ∧ W1.heap.size ≤ g) : RStep w b vo vc { x with out := x.out ++ [c] } (w2.setCell ⟨b, 0, none⟩ v') := by
  have h1 := h.keep h0 (fun _ _ h => h)
  have hb2 := h1.blk.grown hg (Ne.symm (own_apart h1.out h1.blk (by decide)))
  have hO : Outside (fun k => vo.ownBlock = some k) W1 w2 := (Outside.refl _ _).grown hg (fun k hk => .inl hk)
  have oCols := own_out h1.cols hO (fun g hg h2 => own_apart_own h1.out h1.cols (by decide) h2 hg)
  refine ⟨v', vc, ⟨hb2.put 0 _, own_setCell (by simpa [cellsOf] using ho) (own_apart ho hb2 (by decide)) _, own_setCell oCols (own_apart oCols hb2 (by decide)) _⟩, ?_, fun k hk => ?_⟩
  · exact ((h0.mono (fun _ _ h => h.elim)).trans (hO.mono (fun k _ hk => .inr (.inl hk)))).setCell (p := ⟨b, 0, none⟩) (.inl (.inl rfl)) _
  · rcases hk with hk | hk | hk
    · exact .inl (.inl hk)
    · rcases hat with h2 | ⟨g, h2, h3⟩
      · rw [← h2] at hk
        exact .inl (.inr (.inl hk))
      · rw [h2] at hk
        cases hk
        exact .inr (Nat.le_trans h0.size h3)
    · exact .inl (.inr (.inr hk))
theorem rpushCols {w W1 w2 : World} {b : Nat} {x : RIns} {vo vc v' : Value} {c : Int} (h : RInsAt w b x vo vc) (h0 : Outside (fun _ => False) w W1) (hg : W1.grownBy w2 vc.ownBlock)
    (ho : w2.ownsRow 0 3 1 v' (x.cols.length + 1) (cellsOf icell x.cols.reverse ++ icell c)) (hat : vc.ownBlock = v'.ownBlock ∨ ∃ g, v'.ownBlock = some g ∧ W1.heap.size ≤ g) : RStep w b vo vc { x with cols := c :: x.cols } (w2.setCell ⟨b, 1, none⟩ v') := by
  have h1 := h.keep h0 (fun _ _ h => h)
  have hb2 := h1.blk.grown hg (Ne.symm (own_apart h1.cols h1.blk (by decide)))
  have hO : Outside (fun k => vc.ownBlock = some k) W1 w2 := (Outside.refl _ _).grown hg (fun k hk => .inl hk)
  have oOut := own_out h1.out hO (fun g hg h2 => own_apart_own h1.cols h1.out (by decide) h2 hg)
  refine ⟨vo, v', ⟨hb2.put 1 _, own_setCell oOut (own_apart oOut hb2 (by decide)) _, own_setCell (by simpa [cellsOf] using ho) (own_apart ho hb2 (by decide)) _⟩, ?_, fun k hk => ?_⟩
  · exact ((h0.mono (fun _ _ h => h.elim)).trans (hO.mono (fun k _ hk => .inr (.inr hk)))).setCell (p := ⟨b, 1, none⟩) (.inl (.inl rfl)) _
  · rcases hk with hk | hk | hk
    · exact .inl (.inl hk)
    · exact .inl (.inr (.inl hk))
    · rcases hat with h2 | ⟨g, h2, h3⟩
      · rw [← h2] at hk
        exact .inl (.inr (.inr hk))
      · rw [h2] at hk
        cases hk
        exact .inr (Nat.le_trans h0.size h3)

/-- In the middle of a method that was called in world W with the inserter at vo0, vc0: the box N of the method's token, the inserter as it is by now. -/
structure RLoc (W : World) (vo0 vc0 : Value) (b N : Nat) (t : Tok) (w : World) (x : RIns) (vo vc : Value) : Prop where
  ins : RInsAt w b x vo vc
  box : Blk w N 40 #[.int .i64 t.kind, .int .i64 t.int, .string t.str, .int .i64 t.pos.line, .int .i64 t.pos.col]
  out0 : Outside (rfoot b vo0 vc0) W w
  fp : ∀ k, rfoot b vo vc k → rfoot b vo0 vc0 k ∨ W.heap.size ≤ k
  apart : ¬ rfoot b vo vc N
  old : W.heap.size ≤ N

section
variable {b N : Nat} {W w w' : World} {vo0 vc0 vo vc : Value} {t : Tok} {x x' : RIns}
theorem RLoc.start (h : RInsAt W b x vo vc) :
    RLoc W vo vc b W.heap.size t (W.alloc (.cells #[.int .i64 t.kind, .int .i64 t.int, .string t.str, .int .i64 t.pos.line, .int .i64 t.pos.col] 40)) x vo vc :=
  ⟨h.alloc _, Blk.new _ _ _, (Outside.refl _ _).alloc _, fun _ hk => .inl hk, fun hk => by have := h.lt hk; omega, Nat.le_refl _⟩
theorem RLoc.step (h : RLoc W vo0 vc0 b N t w x vo vc) (hS : RStep w b vo vc x' w') : ∃ vo' vc', RLoc W vo0 vc0 b N t w' x' vo' vc' := by
  obtain ⟨vo', vc', h1, h2, h3⟩ := hS
  have hsz := h.out0.size
  refine ⟨vo', vc', h1, h.box.out h2 h.apart, ?_, fun k hk => ?_, fun hk => ?_, h.old⟩
  · refine ⟨h2.os.trans h.out0.os, h2.tape.trans h.out0.tape, h2.output.trans h.out0.output, Nat.le_trans h.out0.size h2.size, fun k hk hn => ?_⟩
    refine (h2.block k (Nat.lt_of_lt_of_le hk hsz) (fun hf => ?_)).trans (h.out0.block k hk hn)
    rcases h.fp k hf with h4 | h4
    · exact hn h4
    · omega
  · rcases h3 k hk with h4 | h4
    · exact h.fp k h4
    · exact .inr (Nat.le_trans hsz h4)
  · rcases h3 _ hk with h4 | h4
    · exact h.apart h4
    · have := h.box.lt; omega
theorem RLoc.below (h : RLoc W vo0 vc0 b N t w x vo vc) (hb : Below w.heap.size w w') : RLoc W vo0 vc0 b N t w' x vo vc :=
  ⟨h.ins.below hb, h.box.below hb h.box.lt, h.out0.trans ((Below.new hb).mono (fun _ _ h => h.elim)), h.fp, h.apart, h.old⟩
theorem RLoc.drew (h : RLoc W vo0 vc0 b N t w x vo vc) : RLoc W vo0 vc0 b N t w.drew x vo vc := h.below ((Below.refl _ _).drew)
theorem RLoc.done (h : RLoc W vo0 vc0 b N t w x vo vc) : RStep W b vo0 vc0 x w := ⟨vo, vc, h.ins, h.out0, h.fp⟩
theorem RLoc.cells (h : RLoc W vo0 vc0 b N t w x vo vc) : ∀ i, w.cell? ⟨N, i, none⟩ = #[.int .i64 t.kind, .int .i64 t.int, .string t.str, .int .i64 t.pos.line, .int .i64 t.pos.col][i]? := h.box.cell
end

theorem rbegin_close (b : Nat) (x : RIns) (vo vc : Value) (t : Tok) (w : World) (h : RInsAt w b x vo vc)
    (ho : x.out.length ≤ 999999999) (hk : isClose t = true) :
    Calls Tryd.prog 50 #[.pointer (some ⟨b, 0, none⟩), t.v] w fun e w' => e = .returned (.int .i64 (rbeginS x t).2) ∧ RStep w b vo vc (rbeginS x t).1 w' := by
  have HS : Hid (rbeginS x t = ({ x with out := x.out ++ [openTok t.pos] ++ [closeTok t.pos] }, 0)) := by show rbeginS x t = _; unfold rbeginS; simp only [hk, if_true]
  have HK := Lib.hid hk
  have L0 := Lib.hid (RLoc.start (t := t) h)
  have hT0 := L0.out.cells
  clear h hk
  go_enter Tryd.func50, Tryd.ntmps50
  go_wp2_with fail
  refine (closer_any t _).mono ?_
  rw [HK.out]
  rintro e w2 ⟨rfl, hb2⟩
  have L2 := Lib.hid (L0.out.below hb2)
  have hT2 := L2.out.cells
  clear hb2 hT0
  go_wp2_with fail
  refine (put_step b _ vo vc 5 t.pos _ L2.out.ins (by omega)).mono ?_
  rintro e w3 ⟨rfl, hS⟩
  obtain ⟨vo3, vc3, hL⟩ := L2.out.step hS
  have L3 := Lib.hid hL
  have hT3 := hL.cells
  clear hS hL hT2
  go_wp2_with fail
  refine (put_step b _ vo3 vc3 7 t.pos _ L3.out.ins (by dsimp only; rw [List.length_append]; simp; omega)).mono ?_
  rintro e w4 ⟨rfl, hS⟩
  obtain ⟨vo4, vc4, hL⟩ := L3.out.step hS
  have L4 := Lib.hid hL
  clear hS hL hT3
  go_wp2
  go_ret
  rw [HS.out]
  exact ⟨rfl, L4.out.done⟩

theorem rbegin_plain (b : Nat) (x : RIns) (vo vc : Value) (t : Tok) (w : World) (h : RInsAt w b x vo vc)
    (ho : x.out.length ≤ 999999999) (hc : x.cols ≠ []) (hcn : x.cols.length ≤ 100) (hk : isClose t = false) :
    Calls Tryd.prog 50 #[.pointer (some ⟨b, 0, none⟩), t.v] w fun e w' => e = .returned (.int .i64 (rbeginS x t).2) ∧ RStep w b vo vc (rbeginS x t).1 w' := by
  have HK := Lib.hid hk
  have HC := Lib.hid hc
  have L0 := Lib.hid (RLoc.start (t := t) h)
  have hT0 := L0.out.cells
  have HS : Hid (rbeginS x t = if t.pos.col ≤ x.cols.headD 0 then (x, 3) else if 64 ≤ x.cols.length then (x, 10)
      else ({ x with out := x.out ++ [openTok t.pos], cols := t.pos.col :: x.cols }, 0)) := by
    show rbeginS x t = _
    unfold rbeginS
    simp only [hk, Bool.false_eq_true, if_false]
  clear h hk hc
  go_enter Tryd.func50, Tryd.ntmps50
  go_wp2_with fail
  refine (closer_any t _).mono ?_
  rw [HK.out]
  rintro e w2 ⟨rfl, hb2⟩
  have L2 := Lib.hid (L0.out.below hb2)
  have hT2 := L2.out.cells
  have hC2 := L2.out.ins.cell
  have hf2 := L2.out.ins.free
  obtain ⟨g, cap, rfl, _, hg⟩ := L2.out.ins.cols.form (List.length_pos_iff.2 HC.out)
  have hcl : (x.cols.length : Int) ≤ 100 := by omega
  clear hb2 hT0
  have hNb := L2.out.box.lt
  have hbb := L2.out.ins.blk.lt
  obtain ⟨c0, hc0⟩ : ∃ c0, x.cols.headD 0 = c0 := ⟨_, rfl⟩
  have HC0 := Lib.hid hc0
  clear hc0
  by_cases hcol : t.pos.col ≤ c0
  · have hcb : decide (t.pos.col ≤ c0) = true := by simpa using hcol
    go_wp2_with (first | ((with_reducible show wpPlan _ _ _ [] _ _ _); refine wpPlan_nil ?_) | ((with_reducible show wpPlan _ _ _ ((_, 0, _) :: _) _ _ _); first | (refine wpPlan_read0 rfl ?hw rfl (fun _ _ _ => ?_); case hw => ((conv => (lhs; whnf)); first | done | with_reducible rfl)) | (refine wpPlan_skip0 rfl ?hw ?_; case hw => ((conv => (lhs; whnf)); first | done | with_reducible rfl))) | ((with_reducible show wpPlan _ _ _ ((_, 1, _) :: _) _ _ _); first | (refine wpPlan_read1 rfl ?hw rfl (fun _ _ _ => ?_); case hw => ((conv => (lhs; whnf)); first | done | with_reducible rfl)) | (refine wpPlan_skip1 rfl ?hw ?_; case hw => ((conv => (lhs; whnf)); first | done | with_reducible rfl))) | ((with_reducible show wpPlan _ _ _ ((_, 2, _) :: _) _ _ _); first | (refine wpPlan_eff rfl ?hw (fun _ _ => ?_); case hw => ((conv => (lhs; whnf)); first | done | with_reducible rfl)) | (refine wpPlan_skip2 rfl ?hw ?_; case hw => ((conv => (lhs; whnf)); first | done | with_reducible rfl))) | ((with_reducible show wpPlan _ _ _ _ _ _ _); refine wpPlan_fork ?_ ?_) | ((with_reducible show Owed _ _ _ [] _ _ _ _ _); refine Owed.none_ ?_) | ((with_reducible show Owed _ _ _ _ [] _ _ _ _); refine Owed.nil_ ?_) | ((with_reducible show Owed _ _ _ _ _ _ _ _ _); first | (refine Owed.miss rfl ?_) | (refine Owed.hit ?_ ?_)) | ((with_reducible show Same _ _ _ _ _); intro _; go_simp; done) | (with_reducible exact True.intro) | ((with_reducible show Code.wp _ (Code.region 5 _ true) _ _ _); refine wp_region_plan [(0, 1, []), (1, 1, []), (2, 1, []), (3, 0, []), (4, 2, [0, 1, 2]), (5, 1, [])] (by kernel_rfl) (by kernel_rfl) (by kernel_rfl) ?_) | ((with_reducible show Code.wp _ (Code.region 10 _ true) _ _ _); refine wp_region_plan [(0, 0, []), (1, 0, []), (2, 1, []), (3, 1, []), (4, 1, []), (5, 1, []), (6, 1, []), (7, 1, []), (8, 2, [2, 3, 4]), (9, 2, []), (10, 1, []), (11, 1, []), (12, 2, [])] (by kernel_rfl) (by kernel_rfl) (by kernel_rfl) ?_) | (go_at_call 81; refine (top_any b _ vo _ _ L2.out.drew.ins HC.out (by omega)).mono ?_; rw [HC0.out]; rintro e w3 ⟨rfl, rfl⟩))
    go_ret
    rw [HS.out, HC0.out, if_pos hcol]
    exact ⟨rfl, L2.out.drew.drew.done⟩
  have hcb : decide (t.pos.col ≤ c0) = false := by simpa using hcol
  by_cases h64 : 64 ≤ x.cols.length
  · have h64b : decide ((64 : Int) ≤ (x.cols.length : Int)) = true := by simp; omega
    have H64 := Lib.hid h64
    clear h64
    go_wp2_with (first | ((with_reducible show wpPlan _ _ _ [] _ _ _); refine wpPlan_nil ?_) | ((with_reducible show wpPlan _ _ _ ((_, 0, _) :: _) _ _ _); first | (refine wpPlan_read0 rfl ?hw rfl (fun _ _ _ => ?_); case hw => ((conv => (lhs; whnf)); first | done | with_reducible rfl)) | (refine wpPlan_skip0 rfl ?hw ?_; case hw => ((conv => (lhs; whnf)); first | done | with_reducible rfl))) | ((with_reducible show wpPlan _ _ _ ((_, 1, _) :: _) _ _ _); first | (refine wpPlan_read1 rfl ?hw rfl (fun _ _ _ => ?_); case hw => ((conv => (lhs; whnf)); first | done | with_reducible rfl)) | (refine wpPlan_skip1 rfl ?hw ?_; case hw => ((conv => (lhs; whnf)); first | done | with_reducible rfl))) | ((with_reducible show wpPlan _ _ _ ((_, 2, _) :: _) _ _ _); first | (refine wpPlan_eff rfl ?hw (fun _ _ => ?_); case hw => ((conv => (lhs; whnf)); first | done | with_reducible rfl)) | (refine wpPlan_skip2 rfl ?hw ?_; case hw => ((conv => (lhs; whnf)); first | done | with_reducible rfl))) | ((with_reducible show wpPlan _ _ _ _ _ _ _); refine wpPlan_fork ?_ ?_) | ((with_reducible show Owed _ _ _ [] _ _ _ _ _); refine Owed.none_ ?_) | ((with_reducible show Owed _ _ _ _ [] _ _ _ _); refine Owed.nil_ ?_) | ((with_reducible show Owed _ _ _ _ _ _ _ _ _); first | (refine Owed.miss rfl ?_) | (refine Owed.hit ?_ ?_)) | ((with_reducible show Same _ _ _ _ _); intro _; go_simp; done) | (with_reducible exact True.intro) | ((with_reducible show Code.wp _ (Code.region 5 _ true) _ _ _); refine wp_region_plan [(0, 1, []), (1, 1, []), (2, 1, []), (3, 0, []), (4, 2, [0, 1, 2]), (5, 1, [])] (by kernel_rfl) (by kernel_rfl) (by kernel_rfl) ?_) | ((with_reducible show Code.wp _ (Code.region 10 _ true) _ _ _); refine wp_region_plan [(0, 0, []), (1, 0, []), (2, 1, []), (3, 1, []), (4, 1, []), (5, 1, []), (6, 1, []), (7, 1, []), (8, 2, [2, 3, 4]), (9, 2, []), (10, 1, []), (11, 1, []), (12, 2, [])] (by kernel_rfl) (by kernel_rfl) (by kernel_rfl) ?_) | (go_at_call 81; refine (top_any b _ vo _ _ L2.out.drew.ins HC.out (by omega)).mono ?_; rw [HC0.out]; rintro e w3 ⟨rfl, rfl⟩))
    go_ret
    rw [HS.out, HC0.out, if_neg (by omega), if_pos H64.out]
    exact ⟨rfl, L2.out.drew.drew.done⟩
  have h64b : decide ((64 : Int) ≤ (x.cols.length : Int)) = false := by simp; omega
  have H64 := Lib.hid h64
  clear h64
  go_wp2_with (first | ((with_reducible show wpPlan _ _ _ [] _ _ _); refine wpPlan_nil ?_) | ((with_reducible show wpPlan _ _ _ ((_, 0, _) :: _) _ _ _); first | (refine wpPlan_read0 rfl ?hw rfl (fun _ _ _ => ?_); case hw => ((conv => (lhs; whnf)); first | done | with_reducible rfl)) | (refine wpPlan_skip0 rfl ?hw ?_; case hw => ((conv => (lhs; whnf)); first | done | with_reducible rfl))) | ((with_reducible show wpPlan _ _ _ ((_, 1, _) :: _) _ _ _); first | (refine wpPlan_read1 rfl ?hw rfl (fun _ _ _ => ?_); case hw => ((conv => (lhs; whnf)); first | done | with_reducible rfl)) | (refine wpPlan_skip1 rfl ?hw ?_; case hw => ((conv => (lhs; whnf)); first | done | with_reducible rfl))) | ((with_reducible show wpPlan _ _ _ ((_, 2, _) :: _) _ _ _); first | (refine wpPlan_eff rfl ?hw (fun _ _ => ?_); case hw => ((conv => (lhs; whnf)); first | done | with_reducible rfl)) | (refine wpPlan_skip2 rfl ?hw ?_; case hw => ((conv => (lhs; whnf)); first | done | with_reducible rfl))) | ((with_reducible show wpPlan _ _ _ _ _ _ _); refine wpPlan_fork ?_ ?_) | ((with_reducible show Owed _ _ _ [] _ _ _ _ _); refine Owed.none_ ?_) | ((with_reducible show Owed _ _ _ _ [] _ _ _ _); refine Owed.nil_ ?_) | ((with_reducible show Owed _ _ _ _ _ _ _ _ _); first | (refine Owed.miss rfl ?_) | (refine Owed.hit ?_ ?_)) | ((with_reducible show Same _ _ _ _ _); intro _; go_simp; done) | (with_reducible exact True.intro) | ((with_reducible show Code.wp _ (Code.region 5 _ true) _ _ _); refine wp_region_plan [(0, 1, []), (1, 1, []), (2, 1, []), (3, 0, []), (4, 2, [0, 1, 2]), (5, 1, [])] (by kernel_rfl) (by kernel_rfl) (by kernel_rfl) ?_) | ((with_reducible show Code.wp _ (Code.region 10 _ true) _ _ _); refine wp_region_plan [(0, 0, []), (1, 0, []), (2, 1, []), (3, 1, []), (4, 1, []), (5, 1, []), (6, 1, []), (7, 1, []), (8, 2, [2, 3, 4]), (9, 2, []), (10, 1, []), (11, 1, []), (12, 2, [])] (by kernel_rfl) (by kernel_rfl) (by kernel_rfl) ?_) | (go_at_call 81; refine (top_any b _ vo _ _ L2.out.drew.ins HC.out (by omega)).mono ?_; rw [HC0.out]; rintro e w3 ⟨rfl, rfl⟩))
  refine (put_step b _ vo _ 5 t.pos _ L2.out.drew.drew.ins (by omega)).mono ?_
  rintro e w3 ⟨rfl, hS⟩
  obtain ⟨vo3, vc3, hL⟩ := L2.out.drew.drew.step hS
  have L3 := Lib.hid hL
  have hT3 := hL.cells
  have hC3 := hL.ins.cell
  have hf3 := hL.ins.free
  have hNb3 := hL.box.lt
  have hbb3 := hL.ins.blk.lt
  obtain ⟨A3, cap3, rfl, _, _⟩ := own_form hL.ins.cols
  have HO3 := Lib.hid hL.ins.cols
  have HB3 := Lib.hid hL.ins.blk
  clear hS hL hT2 hC2 hf2 hcb h64b
  go_wp2_with (first | ((with_reducible show wpPlan _ _ _ ((9, 2, _) :: _) _ _ _); refine wpPlan_eff rfl rfl (fun _ hK => ?_); refine app_blk slInt rfl ((HO3.out.alloc _).drew) rfl (news := icell t.pos.col) ((heap_alloc_at rfl) : Blk _ w3.heap.size _ _) rfl rfl (by simp [icell, Value.oneCell']) (by omega) (by unfold maxLen; omega) (by omega) ?_; intro g4 cap4 w4 hown4 hgrow4 hat4; refine hK _ _ ?_; clear hK; have hb4 := ((HB3.out.alloc _).drew).grown hgrow4 (Ne.symm (own_apart L3.out.ins.cols L3.out.ins.blk (by decide))); have hf4 := hb4.frozen; have hc4 := hb4.cell; simp only [Act.put, List.setIfInBounds_toArray]) | ((with_reducible show wpPlan _ _ _ [] _ _ _); refine wpPlan_nil ?_) | ((with_reducible show wpPlan _ _ _ ((_, 0, _) :: _) _ _ _); first | (refine wpPlan_read0 rfl ?hw rfl (fun _ _ _ => ?_); case hw => ((conv => (lhs; whnf)); first | done | with_reducible rfl)) | (refine wpPlan_skip0 rfl ?hw ?_; case hw => ((conv => (lhs; whnf)); first | done | with_reducible rfl))) | ((with_reducible show wpPlan _ _ _ ((_, 1, _) :: _) _ _ _); first | (refine wpPlan_read1 rfl ?hw rfl (fun _ _ _ => ?_); case hw => ((conv => (lhs; whnf)); first | done | with_reducible rfl)) | (refine wpPlan_skip1 rfl ?hw ?_; case hw => ((conv => (lhs; whnf)); first | done | with_reducible rfl))) | ((with_reducible show wpPlan _ _ _ ((_, 2, _) :: _) _ _ _); first | (refine wpPlan_eff rfl ?hw (fun _ _ => ?_); case hw => ((conv => (lhs; whnf)); first | done | with_reducible rfl)) | (refine wpPlan_skip2 rfl ?hw ?_; case hw => ((conv => (lhs; whnf)); first | done | with_reducible rfl))) | ((with_reducible show wpPlan _ _ _ _ _ _ _); refine wpPlan_fork ?_ ?_) | ((with_reducible show Owed _ _ _ [] _ _ _ _ _); refine Owed.none_ ?_) | ((with_reducible show Owed _ _ _ _ [] _ _ _ _); refine Owed.nil_ ?_) | ((with_reducible show Owed _ _ _ _ _ _ _ _ _); first | (refine Owed.miss rfl ?_) | (refine Owed.hit ?_ ?_)) | ((with_reducible show Same _ _ _ _ _); intro _; go_simp; done) | (with_reducible exact True.intro) | ((with_reducible show Code.wp _ (Code.region 5 _ true) _ _ _); refine wp_region_plan [(0, 1, []), (1, 1, []), (2, 1, []), (3, 0, []), (4, 2, [0, 1, 2]), (5, 1, [])] (by kernel_rfl) (by kernel_rfl) (by kernel_rfl) ?_) | ((with_reducible show Code.wp _ (Code.region 10 _ true) _ _ _); refine wp_region_plan [(0, 0, []), (1, 0, []), (2, 1, []), (3, 1, []), (4, 1, []), (5, 1, []), (6, 1, []), (7, 1, []), (8, 2, [2, 3, 4]), (9, 2, []), (10, 1, []), (11, 1, []), (12, 2, [])] (by kernel_rfl) (by kernel_rfl) (by kernel_rfl) ?_))
  go_ret
  rw [HS.out, HC0.out, if_neg (by omega), if_neg H64.out]
  refine ⟨rfl, ?_⟩
  have hP := rpushCols (c := t.pos.col) L3.out.ins (((Outside.refl _ _).alloc _).drew) hgrow4 hown4 (hat4.imp id (fun h => ⟨g4, rfl, h⟩))
  obtain ⟨_, _, hL⟩ := L3.out.step hP
  exact hL.done

theorem rbegin_any (b : Nat) (x : RIns) (vo vc : Value) (t : Tok) (w : World) (h : RInsAt w b x vo vc)
    (ho : x.out.length ≤ 999999999) (hc : x.cols ≠ []) (hcn : x.cols.length ≤ 100) :
    Calls Tryd.prog 50 #[.pointer (some ⟨b, 0, none⟩), t.v] w fun e w' => e = .returned (.int .i64 (rbeginS x t).2) ∧ RStep w b vo vc (rbeginS x t).1 w' := by
  cases hk : isClose t
  · exact rbegin_plain b x vo vc t w h ho hc hcn hk
  · exact rbegin_close b x vo vc t w h ho hk

end Go.Proofs.YtgfhkaamkodpjaaDoor
