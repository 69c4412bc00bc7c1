/- The inserter's state in memory; walks of its small methods -/
import Derived.Test.YtgfhkaamkodpjaaDoorDel
namespace Go.Proofs.YtgfhkaamkodpjaaDoor
open Go Go.RowKit
set_option maxHeartbeats 800000

/-- The inserter: what it has put out; the columns of the open blocks, the innermost first; the token before; ... -/
structure Ins where
  out : List Tok
  cols : List Int
  bf : Tok
  nx : Bool
  wt : Bool
  opn : List Pos
  ow : Pos

structure InsAt (w : World) (b : Nat) (x : Ins) (vo vc vp : Value) : Prop where
  blk : Blk w b 68 #[vo, vc, .int .i64 x.bf.kind, .int .i64 x.bf.int, .string x.bf.str, .int .i64 x.bf.pos.line, .int .i64 x.bf.pos.col, .bool x.nx, .bool x.wt, vp, .int .i64 x.ow.line, .int .i64 x.ow.col]
  out : w.ownsRow 0 40 5 vo x.out.length (cellsOf Tok.cells x.out)
  cols : w.ownsRow 0 3 1 vc x.cols.length (cellsOf icell x.cols.reverse)
  opn : w.ownsRow 0 29 2 vp x.opn.length (cellsOf Pos.cells x.opn)

/-- the blocks that the inserter lies in -/
def foot (b : Nat) (vo vc vp : Value) (k : Nat) : Prop := k = b ∨ vo.ownBlock = some k ∨ vc.ownBlock = some k ∨ vp.ownBlock = some k

/-- What a method makes of it: x' lies in w'; nothing but the inserter's own blocks has turned. -/
def Step (w : World) (b : Nat) (vo vc vp : Value) (x' : Ins) (w' : World) : Prop :=
  ∃ vo' vc' vp', InsAt w' b x' vo' vc' vp' ∧ Outside (foot b vo vc vp) w w' ∧ ∀ k, foot b vo' vc' vp' k → foot b vo vc vp k ∨ w.heap.size ≤ k

section
variable {w w' w1 w2 : World} {b : Nat} {x x' x'' : Ins} {vo vc vp : Value} {R : Nat → Prop}
theorem InsAt.lt (h : InsAt w b x vo vc vp) {k : Nat} (hk : foot b vo vc vp k) : k < w.heap.size := by
  rcases hk with rfl | hk | hk | hk
  · exact h.blk.lt
  · exact own_lt h.out hk
  · exact own_lt h.cols hk
  · exact own_lt h.opn hk
theorem InsAt.keep (h : InsAt w b x vo vc vp) (ho : Outside R w w') (hR : ∀ k, foot b vo vc vp k → ¬ R k) : InsAt w' b x vo vc vp :=
  ⟨h.blk.out ho (hR _ (.inl rfl)), own_out h.out ho (fun _ hg => hR _ (.inr (.inl hg))), own_out h.cols ho (fun _ hg => hR _ (.inr (.inr (.inl hg)))), own_out h.opn ho (fun _ hg => hR _ (.inr (.inr (.inr hg))))⟩
theorem InsAt.below (h : InsAt w b x vo vc vp) (ho : Below w.heap.size w w') : InsAt w' b x vo vc vp := h.keep (Below.new ho) (fun _ _ h => h)
theorem InsAt.alloc (h : InsAt w b x vo vc vp) (o : Obj) : InsAt (w.alloc o) b x vo vc vp := h.below ((Below.refl _ _).alloc (Nat.le_refl _) o)
theorem InsAt.drew (h : InsAt w b x vo vc vp) : InsAt w.drew b x vo vc vp := ⟨h.blk, h.out, h.cols, h.opn⟩
theorem InsAt.drewN (h : InsAt w b x vo vc vp) (n : Nat) : InsAt (w.drewN n) b x vo vc vp := ⟨h.blk, h.out, h.cols, h.opn⟩
theorem InsAt.cell (h : InsAt w b x vo vc vp) : ∀ i, w.cell? ⟨b, i, none⟩ = #[vo, vc, .int .i64 x.bf.kind, .int .i64 x.bf.int, .string x.bf.str, .int .i64 x.bf.pos.line, .int .i64 x.bf.pos.col, .bool x.nx, .bool x.wt, vp, .int .i64 x.ow.line, .int .i64 x.ow.col][i]? := h.blk.cell
theorem InsAt.free (h : InsAt w b x vo vc vp) : ∀ i, w.frozen? ⟨b, i, none⟩ = false := h.blk.frozen
theorem Step.same (h : InsAt w' b x vo vc vp) (ho : Outside (foot b vo vc vp) w w') : Step w b vo vc vp x w' := ⟨vo, vc, vp, h, ho, fun _ hk => .inl hk⟩
theorem Step.of_below (h : InsAt w b x vo vc vp) (ho : Below w.heap.size w w') : Step w b vo vc vp x w' := Step.same (h.below ho) ((Below.new ho).mono (fun _ _ h => h.elim))
theorem Step.after (h0 : Outside (fun _ => False) w w1) (h : Step w1 b vo vc vp x' w2) : Step w b vo vc vp x' w2 := by
  obtain ⟨vo', vc', vp', h1, h2, h3⟩ := h
  exact ⟨vo', vc', vp', h1, (h0.mono (fun _ _ h => h.elim)).trans h2, fun k hk => (h3 k hk).imp id (fun h => Nat.le_trans h0.size h)⟩
theorem Step.trans (h : Step w b vo vc vp x' w1) (h' : ∀ vo' vc' vp', InsAt w1 b x' vo' vc' vp' → Step w1 b vo' vc' vp' x'' w2) : Step w b vo vc vp x'' w2 := by
  obtain ⟨vo', vc', vp', h1, h2, h3⟩ := h
  obtain ⟨vo2, vc2, vp2, g1, g2, g3⟩ := h' vo' vc' vp' h1
  refine ⟨vo2, vc2, vp2, g1, ⟨g2.os.trans h2.os, g2.tape.trans h2.tape, g2.output.trans h2.output, Nat.le_trans h2.size g2.size, fun k hk hn => ?_⟩, fun k hk => ?_⟩
  · refine (g2.block k (Nat.lt_of_lt_of_le hk h2.size) (fun hf => ?_)).trans (h2.block k hk hn)
    rcases h3 k hf with h4 | h4
    · exact hn h4
    · omega
  · rcases g3 k hk with h4 | h4
    · exact h3 k h4
    · exact .inr (Nat.le_trans h2.size h4)
/-- a store into the inserter's own block -/
theorem Step.put (h : Step w b vo vc vp x w1) (i : Nat) (u : Value) (hx : ∀ vo' vc' vp', InsAt w1 b x vo' vc' vp' → InsAt (w1.setCell ⟨b, i, none⟩ u) b x' vo' vc' vp') : Step w b vo vc vp x' (w1.setCell ⟨b, i, none⟩ u) := by
  obtain ⟨vo', vc', vp', h1, h2, h3⟩ := h
  exact ⟨vo', vc', vp', hx _ _ _ h1, h2.setCell (p := ⟨b, i, none⟩) (.inl (.inl rfl)) u, h3⟩
end

section
variable {w : World} {b : Nat} {x : Ins} {vo vc vp : Value}
/-- stores into the block's own cells leave the rows -/
theorem InsAt.rows (h : InsAt w b x vo vc vp) (i : Nat) (u : Value) : (w.setCell ⟨b, i, none⟩ u).ownsRow 0 40 5 vo x.out.length (cellsOf Tok.cells x.out) ∧
    (w.setCell ⟨b, i, none⟩ u).ownsRow 0 3 1 vc x.cols.length (cellsOf icell x.cols.reverse) ∧ (w.setCell ⟨b, i, none⟩ u).ownsRow 0 29 2 vp x.opn.length (cellsOf Pos.cells x.opn) :=
  ⟨own_setCell h.out (own_apart h.out h.blk (by decide)) u, own_setCell h.cols (own_apart h.cols h.blk (by decide)) u, own_setCell h.opn (own_apart h.opn h.blk (by decide)) u⟩
theorem InsAt.putNx (h : InsAt w b x vo vc vp) (v : Bool) : InsAt (w.setCell ⟨b, 7, none⟩ (.bool v)) b { x with nx := v } vo vc vp :=
  ⟨h.blk.put 7 _, (h.rows 7 _).1, (h.rows 7 _).2.1, (h.rows 7 _).2.2⟩
theorem InsAt.putWt (h : InsAt w b x vo vc vp) (v : Bool) : InsAt (w.setCell ⟨b, 8, none⟩ (.bool v)) b { x with wt := v } vo vc vp :=
  ⟨h.blk.put 8 _, (h.rows 8 _).1, (h.rows 8 _).2.1, (h.rows 8 _).2.2⟩
end

theorem insert_step (b : Nat) (x : Ins) (vo vc vp : Value) (kind : Int) (p : Pos) (w : World) (h : InsAt w b x vo vc vp) (hn : x.out.length ≤ 1000000000) :
    Calls Tryd.prog 39 #[.pointer (some ⟨b, 0, none⟩), .int .i64 kind, p.v] w fun e w' => e = .returned (.tuple #[]) ∧ Step w b vo vc vp { x with out := x.out ++ [⟨kind, 0, ByteArray.empty, p⟩] } w' := by
  refine (insert_any b vo x.out.length _ kind p _ w h.blk rfl h.out hn).mono ?_
  rintro e w' ⟨rfl, out', hb, ho, hout, hat⟩
  refine ⟨rfl, out', vc, vp, ⟨hb, by simpa [cellsOf] using ho, own_out h.cols hout ?_, own_out h.opn hout ?_⟩, hout.mono (fun k _ hk => ?_), fun k hk => ?_⟩
  · rintro g hg (rfl | h1)
    · exact own_apart h.cols h.blk (by decide) hg
    · exact own_apart_own h.cols h.out (by decide) hg h1
  · rintro g hg (rfl | h1)
    · exact own_apart h.opn h.blk (by decide) hg
    · exact own_apart_own h.opn h.out (by decide) hg h1
  · rcases hk with rfl | hk
    · exact .inl rfl
    · exact .inr (.inl hk)
  · rcases hk with rfl | hk | hk | hk
    · exact .inl (.inl rfl)
    · rcases hat with h1 | ⟨g, h1, h2⟩
      · exact .inl (.inr (.inl (by rw [← h1]; exact hk)))
      · rw [h1] at hk
        cases hk
        exact .inr h2
    · exact .inl (.inr (.inr (.inl hk)))
    · exact .inl (.inr (.inr (.inr hk)))

theorem innermost_any (b : Nat) (x : Ins) (vo vc vp : Value) (w : World) (h : InsAt w b x vo vc vp) (hc : x.cols ≠ []) (hn : x.cols.length ≤ 1000000000) :
    Calls Tryd.prog 87 #[.pointer (some ⟨b, 0, none⟩)] w fun e w' => e = .returned (.int .i64 (x.cols.headD 0)) ∧ w.drew = w' := by
  obtain ⟨c, r, hcr⟩ := List.exists_cons_of_ne_nil hc
  have hlen : 0 < x.cols.length := by rw [hcr]; simp
  obtain ⟨g, cap, rfl, _, hg⟩ := h.cols.form hlen
  have hC := h.cell
  have hL : w.cell? ⟨g, x.cols.length - 1, none⟩ = some (.int .i64 c) := by
    rw [h.cols.cellAt _ (by omega), show x.cols.length - 1 = (x.cols.length - 1) * 1 + 0 by omega, cellsOf_get icell_len _ _ _ (by decide), hcr]
    simp [icell]
  have HH := Lib.hid (show x.cols.headD 0 = c by rw [hcr]; rfl)
  clear h hc hcr
  go_enter Tryd.func87, Tryd.ntmps87
  go_wp2
  refine wp_region_plan [(0, 0, []), (1, 1, []), (2, 1, []), (3, 1, []), (4, 0, []), (5, 1, []), (6, 1, []), (7, 1, []), (8, 1, []), (9, 1, []), (10, 1, []), (11, 1, []), (12, 0, [])] (by kernel_rfl) (by kernel_rfl) (by kernel_rfl) ?_
  go_wp2_with (first | ((with_reducible show wpPlan _ _ _ [] _ _ _); refine wpPlan_nil ?_) | ((with_reducible show wpPlan _ _ _ ((_, 0, _) :: _) _ _ _); first | (refine wpPlan_read0 rfl ?hw rfl (fun _ _ _ => ?_); case hw => ((conv => (lhs; whnf)); first | done | with_reducible rfl)) | (refine wpPlan_skip0 rfl ?hw ?_; case hw => ((conv => (lhs; whnf)); first | done | with_reducible rfl))) | ((with_reducible show wpPlan _ _ _ ((_, 1, _) :: _) _ _ _); first | (refine wpPlan_read1 rfl ?hw rfl (fun _ _ _ => ?_); case hw => ((conv => (lhs; whnf)); first | done | with_reducible rfl)) | (refine wpPlan_skip1 rfl ?hw ?_; case hw => ((conv => (lhs; whnf)); first | done | with_reducible rfl))) | ((with_reducible show wpPlan _ _ _ ((_, 2, _) :: _) _ _ _); first | (refine wpPlan_eff rfl ?hw (fun _ _ => ?_); case hw => ((conv => (lhs; whnf)); first | done | with_reducible rfl)) | (refine wpPlan_skip2 rfl ?hw ?_; case hw => ((conv => (lhs; whnf)); first | done | with_reducible rfl))) | ((with_reducible show wpPlan _ _ _ _ _ _ _); refine wpPlan_fork ?_ ?_) | ((with_reducible show Owed _ _ _ [] _ _ _ _ _); refine Owed.none_ ?_) | ((with_reducible show Owed _ _ _ _ [] _ _ _ _); refine Owed.nil_ ?_) | ((with_reducible show Owed _ _ _ _ _ _ _ _ _); first | (refine Owed.miss rfl ?_) | (refine Owed.hit ?_ ?_)) | ((with_reducible show Same _ _ _ _ _); intro _; go_simp; done) | (with_reducible exact True.intro))
  go_ret
  exact ⟨ret_int HH.out.symm, rfl⟩

theorem starts_any (b : Nat) (x : Ins) (vo vc vp : Value) (t : Tok) (w : World) (h : InsAt w b x vo vc vp) :
    Calls Tryd.prog 84 #[.pointer (some ⟨b, 0, none⟩), t.v] w fun e w' => e = .returned (.bool (decide (x.bf.pos.line < t.pos.line))) ∧ Below w.heap.size w w' := by
  have hb := h.blk.lt
  have hC := h.cell
  clear h
  go_enter Tryd.func84, Tryd.ntmps84
  go_wp2
  refine wp_region_plan [(0, 1, []), (1, 1, []), (2, 1, []), (3, 0, []), (4, 1, []), (5, 1, []), (6, 1, []), (7, 1, []), (8, 1, []), (9, 1, []), (10, 0, [])] (by kernel_rfl) (by kernel_rfl) (by kernel_rfl) ?_
  go_wp2_with (first | ((with_reducible show wpPlan _ _ _ [] _ _ _); refine wpPlan_nil ?_) | ((with_reducible show wpPlan _ _ _ ((_, 0, _) :: _) _ _ _); first | (refine wpPlan_read0 rfl ?hw rfl (fun _ _ _ => ?_); case hw => ((conv => (lhs; whnf)); first | done | with_reducible rfl)) | (refine wpPlan_skip0 rfl ?hw ?_; case hw => ((conv => (lhs; whnf)); first | done | with_reducible rfl))) | ((with_reducible show wpPlan _ _ _ ((_, 1, _) :: _) _ _ _); first | (refine wpPlan_read1 rfl ?hw rfl (fun _ _ _ => ?_); case hw => ((conv => (lhs; whnf)); first | done | with_reducible rfl)) | (refine wpPlan_skip1 rfl ?hw ?_; case hw => ((conv => (lhs; whnf)); first | done | with_reducible rfl))) | ((with_reducible show wpPlan _ _ _ ((_, 2, _) :: _) _ _ _); first | (refine wpPlan_eff rfl ?hw (fun _ _ => ?_); case hw => ((conv => (lhs; whnf)); first | done | with_reducible rfl)) | (refine wpPlan_skip2 rfl ?hw ?_; case hw => ((conv => (lhs; whnf)); first | done | with_reducible rfl))) | ((with_reducible show wpPlan _ _ _ _ _ _ _); refine wpPlan_fork ?_ ?_) | ((with_reducible show Owed _ _ _ [] _ _ _ _ _); refine Owed.none_ ?_) | ((with_reducible show Owed _ _ _ _ [] _ _ _ _); refine Owed.nil_ ?_) | ((with_reducible show Owed _ _ _ _ _ _ _ _ _); first | (refine Owed.miss rfl ?_) | (refine Owed.hit ?_ ?_)) | ((with_reducible show Same _ _ _ _ _); intro _; go_simp; done) | (with_reducible exact True.intro))
  go_ret
  exact ⟨ret_bool rfl, ((Below.refl _ _).alloc (by simp) _).drew⟩

end Go.Proofs.YtgfhkaamkodpjaaDoor
