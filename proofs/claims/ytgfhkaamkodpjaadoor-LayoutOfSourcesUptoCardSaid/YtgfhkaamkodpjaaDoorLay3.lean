/- walks: a token that begins a block -/
import Derived.Test.YtgfhkaamkodpjaaDoorLay2
namespace Go.Proofs.YtgfhkaamkodpjaaDoor
open Go Go.RowKit
set_option maxHeartbeats 1000000
attribute [local irreducible] kwB syB clB

def beganS (x : Ins) : Ins := if x.nx then { x with nx := false, opn := keepOf x.opn x.bf.pos } else { x with wt := false, opn := keepOf x.opn x.ow }

theorem began_any (b : Nat) (x : Ins) (vo vc vp : Value) (t : Tok) (w : World) (h : InsAt w b x vo vc vp) (hn : x.opn.length ≤ 1000000000) :
    Calls Tryd.prog 85 #[.pointer (some ⟨b, 0, none⟩), t.v] w fun e w' => e = .returned (.tuple #[]) ∧ Step w b vo vc vp (beganS x) w' := by
  have hb := h.blk.lt
  have hC := h.cell
  have hf := h.free
  have HI := Lib.hid h
  clear h
  cases hnx : x.nx
  · have HS : Hid (beganS x = { x with wt := false, opn := keepOf x.opn x.ow }) := by show beganS x = _; unfold beganS; rw [hnx]; rfl
    go_enter Tryd.func85, Tryd.ntmps85
    go_wp2_with (first | (go_at_call 88; refine (forget_any b { x with wt := false } vo vc vp x.ow _ (((HI.out.putWt false).alloc _).alloc _) hn).mono ?_; rintro e w1 ⟨rfl, hS⟩; have HS1 := Lib.hid hS; clear hS))
    go_end0
    rw [HS.out]
    refine ⟨rfl, ?_⟩
    obtain ⟨vo1, vc1, vp1, h1, h2, h3⟩ := HS1.out
    exact ⟨vo1, vc1, vp1, h1, ((((Outside.refl _ _).setCell (p := ⟨b, 8, none⟩) (.inl (.inl rfl)) _).alloc _).alloc _).trans h2, fun k hk => (h3 k hk).imp id (fun h => by simp at h; omega)⟩
  · have HS : Hid (beganS x = { x with nx := false, opn := keepOf x.opn x.bf.pos }) := by show beganS x = _; unfold beganS; rw [hnx]; rfl
    go_enter Tryd.func85, Tryd.ntmps85
    go_wp2_with (first | (go_at_call 88; refine (forget_any b { x with nx := false } vo vc vp x.bf.pos _ (((HI.out.putNx false).alloc _).alloc _) hn).mono ?_; rintro e w1 ⟨rfl, hS⟩; have HS1 := Lib.hid hS; clear hS))
    go_end0
    rw [HS.out]
    refine ⟨rfl, ?_⟩
    obtain ⟨vo1, vc1, vp1, h1, h2, h3⟩ := HS1.out
    exact ⟨vo1, vc1, vp1, h1, ((((Outside.refl _ _).setCell (p := ⟨b, 7, none⟩) (.inl (.inl rfl)) _).alloc _).alloc _).trans h2, fun k hk => (h3 k hk).imp id (fun h => by simp at h; omega)⟩

theorem Step.outside {w w' : World} {b : Nat} {vo vc vp : Value} {x : Ins} (h : Step w b vo vc vp x w') : Outside (foot b vo vc vp) w w' := by
  obtain ⟨_, _, _, _, h2, _⟩ := h
  exact h2
theorem Glob.step {w w' : World} {b B : Nat} {vo vc vp : Value} (hG : Glob B w) (hB : ∀ k, foot b vo vc vp k → B ≤ k) (h : Outside (foot b vo vc vp) w w') : Glob B w' :=
  hG.below (h.below hG.size (fun k hk hf => by have := hB k hf; omega))

theorem closers_any (B : Nat) (t : Tok) (w : World) (hG : Glob B w) (A : Option Addr) (c : Nat) (hR : Rd w B 1 A clB.length (cellsOf scell clB)) :
    Calls Tryd.prog 86 #[t.v, .slice A clB.length c] w fun e w' => e = .returned (.bool (isClose t)) ∧ Below w.heap.size w w' :=
  keyword_any t A clB.length c B clB w hR hG.size (by rw [clB_len]; decide)

/-- In the middle of a method that was called in world W with the inserter at vo0, vc0, vp0: the box N of the method's token, the inserter as it is by now, the variables. -/
structure Loc (B : Nat) (W : World) (vo0 vc0 vp0 : Value) (b N : Nat) (t : Tok) (w : World) (x : Ins) (vo vc vp : Value) : Prop where
  ins : InsAt w b x vo vc vp
  box : Blk w N 40 #[.int .i64 t.kind, .int .i64 t.int, .string t.str, .int .i64 t.pos.line, .int .i64 t.pos.col]
  glob : Glob B w
  above : ∀ k, foot b vo0 vc0 vp0 k → B ≤ k
  base : B ≤ W.heap.size
  out0 : Outside (foot b vo0 vc0 vp0) W w
  fp : ∀ k, foot b vo vc vp k → foot b vo0 vc0 vp0 k ∨ W.heap.size ≤ k
  apart : ¬ foot b vo vc vp N
  old : W.heap.size ≤ N

section
variable {B b N : Nat} {W w w' : World} {vo0 vc0 vp0 vo vc vp : Value} {t : Tok} {x x' : Ins}
theorem Loc.start (h : InsAt W b x vo vc vp) (hG : Glob B W) (hB : ∀ k, foot b vo vc vp k → B ≤ k) :
    Loc B W vo vc vp b W.heap.size t (W.alloc (.cells #[.int .i64 t.kind, .int .i64 t.int, .string t.str, .int .i64 t.pos.line, .int .i64 t.pos.col] 40)) x vo vc vp :=
  ⟨h.alloc _, Blk.new _ _ _, hG.alloc _, hB, hG.size, (Outside.refl _ _).alloc _, fun _ hk => .inl hk, fun hk => by have := h.lt hk; omega, Nat.le_refl _⟩
theorem Loc.lo (h : Loc B W vo0 vc0 vp0 b N t w x vo vc vp) : ∀ k, foot b vo vc vp k → B ≤ k := fun k hk => (h.fp k hk).elim (h.above k) (fun hk => Nat.le_trans h.base hk)
theorem Loc.step (h : Loc B W vo0 vc0 vp0 b N t w x vo vc vp) (hS : Step w b vo vc vp x' w') : ∃ vo' vc' vp', Loc B W vo0 vc0 vp0 b N t w' x' vo' vc' vp' := by
  obtain ⟨vo', vc', vp', h1, h2, h3⟩ := hS
  have hsz := h.out0.size
  refine ⟨vo', vc', vp', h1, h.box.out h2 h.apart, h.glob.step h.lo h2, h.above, h.base, ?_, fun k hk => ?_, fun hk => ?_, h.old⟩
  · refine ⟨h2.os.trans h.out0.os, h2.tape.trans h.out0.tape, h2.output.trans h.out0.output, Nat.le_trans h.out0.size h2.size, fun k hk hn => ?_⟩
    refine (h2.block k (Nat.lt_of_lt_of_le hk hsz) (fun hf => ?_)).trans (h.out0.block k hk hn)
    rcases h.fp k hf with h4 | h4
    · exact hn h4
    · omega
  · rcases h3 k hk with h4 | h4
    · exact h.fp k h4
    · exact .inr (Nat.le_trans hsz h4)
  · rcases h3 _ hk with h4 | h4
    · exact h.apart h4
    · have := h.box.lt; omega
theorem Loc.below (h : Loc B W vo0 vc0 vp0 b N t w x vo vc vp) (hb : Below w.heap.size w w') : Loc B W vo0 vc0 vp0 b N t w' x vo vc vp :=
  ⟨h.ins.below hb, h.box.below hb h.box.lt, h.glob.below (hb.mono h.glob.size), h.above, h.base, h.out0.trans ((Below.new hb).mono (fun _ _ h => h.elim)), h.fp, h.apart, h.old⟩
theorem Loc.drew (h : Loc B W vo0 vc0 vp0 b N t w x vo vc vp) : Loc B W vo0 vc0 vp0 b N t w.drew x vo vc vp := h.below ((Below.refl _ _).drew)
theorem Loc.done (h : Loc B W vo0 vc0 vp0 b N t w x vo vc vp) : Step W b vo0 vc0 vp0 x w := ⟨vo, vc, vp, h.ins, h.out0, h.fp⟩
theorem Loc.cells (h : Loc B W vo0 vc0 vp0 b N t w x vo vc vp) : ∀ i, w.cell? ⟨N, i, none⟩ = #[.int .i64 t.kind, .int .i64 t.int, .string t.str, .int .i64 t.pos.line, .int .i64 t.pos.col][i]? := h.box.cell
end

/-- the state and the error when t begins a block -/
def beginS (x0 : Ins) (t : Tok) : Ins × Int :=
  let x := beganS x0
  if isClose t then ({ x with out := x.out ++ [⟨5, 0, ByteArray.empty, t.pos⟩] ++ [⟨7, 0, ByteArray.empty, t.pos⟩] }, 0)
  else if t.pos.col ≤ x.cols.headD 0 then (x, 3)
  else if x.cols.length = 64 then (x, 10)
  else ({ x with out := x.out ++ [⟨5, 0, ByteArray.empty, t.pos⟩], cols := t.pos.col :: x.cols }, 0)

theorem beganS_cols (x : Ins) : (beganS x).cols = x.cols ∧ (beganS x).out = x.out := by unfold beganS; split <;> exact ⟨rfl, rfl⟩

theorem begin_close (B b : Nat) (x : Ins) (vo vc vp : Value) (t : Tok) (w : World) (h : InsAt w b x vo vc vp) (hG : Glob B w) (hB : ∀ k, foot b vo vc vp k → B ≤ k)
    (hn : x.opn.length ≤ 1000000000) (ho : x.out.length ≤ 999999999) (hk : isClose t = true) :
    Calls Tryd.prog 75 #[.pointer (some ⟨b, 0, none⟩), t.v] w fun e w' => e = .returned (.int .i64 (beginS x t).2) ∧ Step w b vo vc vp (beginS x t).1 w' := by
  have hbo := (beganS_cols x).2
  have HS : Hid (beginS x t = ({ beganS x with out := (beganS x).out ++ [⟨5, 0, ByteArray.empty, t.pos⟩] ++ [⟨7, 0, ByteArray.empty, t.pos⟩] }, 0)) := by show beginS x t = _; unfold beginS; simp only [hk, if_true]
  have HO := Lib.hid hbo
  have HK := Lib.hid hk
  have L0 := Lib.hid (Loc.start (t := t) h hG hB)
  clear h hG hB hk hbo
  go_enter Tryd.func75, Tryd.ntmps75
  go_wp2_with fail
  refine (began_any b x vo vc vp t _ L0.out.ins hn).mono ?_
  rintro e w1 ⟨rfl, hS⟩
  obtain ⟨vo1, vc1, vp1, hL⟩ := L0.out.step hS
  have L1 := Lib.hid hL
  have hT1 := hL.cells
  obtain ⟨_, A, c, hc, hR⟩ := hL.glob.cl
  have HR := Lib.hid hR
  clear hS hL hR
  go_wp2_with fail
  refine (closers_any B t _ L1.out.glob A c HR.out).mono ?_
  rw [HK.out]
  rintro e w2 ⟨rfl, hb2⟩
  have L2 := Lib.hid (L1.out.below hb2)
  have hT2 := L2.out.cells
  clear hb2 hT1
  go_wp2_with fail
  refine (insert_step b _ vo1 vc1 vp1 5 t.pos _ L2.out.ins (by rw [HO.out]; omega)).mono ?_
  rintro e w3 ⟨rfl, hS⟩
  obtain ⟨vo3, vc3, vp3, hL⟩ := L2.out.step hS
  have L3 := Lib.hid hL
  have hT3 := hL.cells
  clear hS hL hT2
  go_wp2_with fail
  refine (insert_step b _ vo3 vc3 vp3 7 t.pos _ L3.out.ins (by dsimp only; rw [List.length_append, HO.out]; simp; omega)).mono ?_
  rintro e w4 ⟨rfl, hS⟩
  obtain ⟨vo4, vc4, vp4, hL⟩ := L3.out.step hS
  have L4 := Lib.hid hL
  clear hS hL hT3
  go_wp2
  go_ret
  rw [HS.out]
  exact ⟨rfl, L4.out.done⟩

theorem begin_plain (B b : Nat) (x : Ins) (vo vc vp : Value) (t : Tok) (w : World) (h : InsAt w b x vo vc vp) (hG : Glob B w) (hB : ∀ k, foot b vo vc vp k → B ≤ k)
    (hn : x.opn.length ≤ 1000000000) (ho : x.out.length ≤ 999999999) (hc : x.cols ≠ []) (hcn : x.cols.length ≤ 100) (hk : isClose t = false) :
    Calls Tryd.prog 75 #[.pointer (some ⟨b, 0, none⟩), t.v] w fun e w' => e = .returned (.int .i64 (beginS x t).2) ∧ Step w b vo vc vp (beginS x t).1 w' := by
  have hbo := beganS_cols x
  have HO := Lib.hid hbo
  have HK := Lib.hid hk
  have HC := Lib.hid hc
  have L0 := Lib.hid (Loc.start (t := t) h hG hB)
  have HS : Hid (beginS x t = if t.pos.col ≤ x.cols.headD 0 then (beganS x, 3) else if x.cols.length = 64 then (beganS x, 10)
      else ({ beganS x with out := (beganS x).out ++ [⟨5, 0, ByteArray.empty, t.pos⟩], cols := t.pos.col :: (beganS x).cols }, 0)) := by
    show beginS x t = _
    unfold beginS
    simp only [hk, Bool.false_eq_true, if_false, hbo.1]
  clear h hG hB hk hbo hc
  go_enter Tryd.func75, Tryd.ntmps75
  go_wp2_with fail
  refine (began_any b x vo vc vp t _ L0.out.ins hn).mono ?_
  rintro e w1 ⟨rfl, hS⟩
  obtain ⟨vo1, vc1, vp1, hL⟩ := L0.out.step hS
  have L1 := Lib.hid hL
  have hT1 := hL.cells
  obtain ⟨_, A, c, hc, hR⟩ := hL.glob.cl
  have HR := Lib.hid hR
  clear hS hL hR
  go_wp2_with fail
  refine (closers_any B t _ L1.out.glob A c HR.out).mono ?_
  rw [HK.out]
  rintro e w2 ⟨rfl, hb2⟩
  have L2 := Lib.hid (L1.out.below hb2)
  have hT2 := L2.out.cells
  have hC2 := L2.out.ins.cell
  have hf2 := L2.out.ins.free
  obtain ⟨g, cap, rfl, _, hg⟩ := L2.out.ins.cols.form (by rw [HO.out.1]; exact List.length_pos_iff.2 HC.out)
  have hcl : ((beganS x).cols.length : Int) ≤ 100 := by rw [HO.out.1]; omega
  clear hb2 hT1
  have hNb := L2.out.box.lt
  have hbb := L2.out.ins.blk.lt
  obtain ⟨c0, hc0⟩ : ∃ c0, x.cols.headD 0 = c0 := ⟨_, rfl⟩
  have HC0 := Lib.hid hc0
  clear hc0
  by_cases hcol : t.pos.col ≤ c0
  · have hcb : decide (t.pos.col ≤ c0) = true := by simpa using hcol
    go_wp2_with (first | ((with_reducible show wpPlan _ _ _ [] _ _ _); refine wpPlan_nil ?_) | ((with_reducible show wpPlan _ _ _ ((_, 0, _) :: _) _ _ _); first | (refine wpPlan_read0 rfl ?hw rfl (fun _ _ _ => ?_); case hw => ((conv => (lhs; whnf)); first | done | with_reducible rfl)) | (refine wpPlan_skip0 rfl ?hw ?_; case hw => ((conv => (lhs; whnf)); first | done | with_reducible rfl))) | ((with_reducible show wpPlan _ _ _ ((_, 1, _) :: _) _ _ _); first | (refine wpPlan_read1 rfl ?hw rfl (fun _ _ _ => ?_); case hw => ((conv => (lhs; whnf)); first | done | with_reducible rfl)) | (refine wpPlan_skip1 rfl ?hw ?_; case hw => ((conv => (lhs; whnf)); first | done | with_reducible rfl))) | ((with_reducible show wpPlan _ _ _ ((_, 2, _) :: _) _ _ _); first | (refine wpPlan_eff rfl ?hw (fun _ _ => ?_); case hw => ((conv => (lhs; whnf)); first | done | with_reducible rfl)) | (refine wpPlan_skip2 rfl ?hw ?_; case hw => ((conv => (lhs; whnf)); first | done | with_reducible rfl))) | ((with_reducible show wpPlan _ _ _ _ _ _ _); refine wpPlan_fork ?_ ?_) | ((with_reducible show Owed _ _ _ [] _ _ _ _ _); refine Owed.none_ ?_) | ((with_reducible show Owed _ _ _ _ [] _ _ _ _); refine Owed.nil_ ?_) | ((with_reducible show Owed _ _ _ _ _ _ _ _ _); first | (refine Owed.miss rfl ?_) | (refine Owed.hit ?_ ?_)) | ((with_reducible show Same _ _ _ _ _); intro _; go_simp; done) | (with_reducible exact True.intro) | ((with_reducible show Code.wp _ (Code.region 6 _ true) _ _ _); refine wp_region_plan [(0, 1, []), (1, 1, []), (2, 1, []), (3, 0, []), (4, 2, [0, 1, 2]), (5, 1, [])] (by kernel_rfl) (by kernel_rfl) (by kernel_rfl) ?_) | ((with_reducible show Code.wp _ (Code.region 11 _ true) _ _ _); refine wp_region_plan [(0, 0, []), (1, 0, []), (2, 1, []), (3, 1, []), (4, 1, []), (5, 1, []), (6, 1, []), (7, 1, []), (8, 2, [2, 3, 4]), (9, 2, []), (10, 1, []), (11, 1, []), (12, 2, [])] (by kernel_rfl) (by kernel_rfl) (by kernel_rfl) ?_) | (go_at_call 87; refine (innermost_any b _ vo1 _ vp1 _ L2.out.drew.ins (by rw [HO.out.1]; exact HC.out) (by rw [HO.out.1]; omega)).mono ?_; rw [HO.out.1, HC0.out]; rintro e w3 ⟨rfl, rfl⟩))
    go_ret
    rw [HS.out, HC0.out, if_pos hcol]
    exact ⟨rfl, L2.out.drew.drew.done⟩
  have hcb : decide (t.pos.col ≤ c0) = false := by simpa using hcol
  by_cases h64 : x.cols.length = 64
  · have h64b : (((beganS x).cols.length : Int) == 64) = true := by rw [HO.out.1, h64]; rfl
    have H64 := Lib.hid h64
    clear h64
    go_wp2_with (first | ((with_reducible show wpPlan _ _ _ [] _ _ _); refine wpPlan_nil ?_) | ((with_reducible show wpPlan _ _ _ ((_, 0, _) :: _) _ _ _); first | (refine wpPlan_read0 rfl ?hw rfl (fun _ _ _ => ?_); case hw => ((conv => (lhs; whnf)); first | done | with_reducible rfl)) | (refine wpPlan_skip0 rfl ?hw ?_; case hw => ((conv => (lhs; whnf)); first | done | with_reducible rfl))) | ((with_reducible show wpPlan _ _ _ ((_, 1, _) :: _) _ _ _); first | (refine wpPlan_read1 rfl ?hw rfl (fun _ _ _ => ?_); case hw => ((conv => (lhs; whnf)); first | done | with_reducible rfl)) | (refine wpPlan_skip1 rfl ?hw ?_; case hw => ((conv => (lhs; whnf)); first | done | with_reducible rfl))) | ((with_reducible show wpPlan _ _ _ ((_, 2, _) :: _) _ _ _); first | (refine wpPlan_eff rfl ?hw (fun _ _ => ?_); case hw => ((conv => (lhs; whnf)); first | done | with_reducible rfl)) | (refine wpPlan_skip2 rfl ?hw ?_; case hw => ((conv => (lhs; whnf)); first | done | with_reducible rfl))) | ((with_reducible show wpPlan _ _ _ _ _ _ _); refine wpPlan_fork ?_ ?_) | ((with_reducible show Owed _ _ _ [] _ _ _ _ _); refine Owed.none_ ?_) | ((with_reducible show Owed _ _ _ _ [] _ _ _ _); refine Owed.nil_ ?_) | ((with_reducible show Owed _ _ _ _ _ _ _ _ _); first | (refine Owed.miss rfl ?_) | (refine Owed.hit ?_ ?_)) | ((with_reducible show Same _ _ _ _ _); intro _; go_simp; done) | (with_reducible exact True.intro) | ((with_reducible show Code.wp _ (Code.region 6 _ true) _ _ _); refine wp_region_plan [(0, 1, []), (1, 1, []), (2, 1, []), (3, 0, []), (4, 2, [0, 1, 2]), (5, 1, [])] (by kernel_rfl) (by kernel_rfl) (by kernel_rfl) ?_) | ((with_reducible show Code.wp _ (Code.region 11 _ true) _ _ _); refine wp_region_plan [(0, 0, []), (1, 0, []), (2, 1, []), (3, 1, []), (4, 1, []), (5, 1, []), (6, 1, []), (7, 1, []), (8, 2, [2, 3, 4]), (9, 2, []), (10, 1, []), (11, 1, []), (12, 2, [])] (by kernel_rfl) (by kernel_rfl) (by kernel_rfl) ?_) | (go_at_call 87; refine (innermost_any b _ vo1 _ vp1 _ L2.out.drew.ins (by rw [HO.out.1]; exact HC.out) (by rw [HO.out.1]; omega)).mono ?_; rw [HO.out.1, HC0.out]; rintro e w3 ⟨rfl, rfl⟩))
    go_ret
    rw [HS.out, HC0.out, if_neg (by omega), if_pos H64.out]
    exact ⟨rfl, L2.out.drew.drew.done⟩
  have h64b : (((beganS x).cols.length : Int) == 64) = false := by rw [HO.out.1, beq_eq_false_iff_ne]; omega
  have H64 := Lib.hid h64
  clear h64
  go_wp2_with (first | ((with_reducible show wpPlan _ _ _ [] _ _ _); refine wpPlan_nil ?_) | ((with_reducible show wpPlan _ _ _ ((_, 0, _) :: _) _ _ _); first | (refine wpPlan_read0 rfl ?hw rfl (fun _ _ _ => ?_); case hw => ((conv => (lhs; whnf)); first | done | with_reducible rfl)) | (refine wpPlan_skip0 rfl ?hw ?_; case hw => ((conv => (lhs; whnf)); first | done | with_reducible rfl))) | ((with_reducible show wpPlan _ _ _ ((_, 1, _) :: _) _ _ _); first | (refine wpPlan_read1 rfl ?hw rfl (fun _ _ _ => ?_); case hw => ((conv => (lhs; whnf)); first | done | with_reducible rfl)) | (refine wpPlan_skip1 rfl ?hw ?_; case hw => ((conv => (lhs; whnf)); first | done | with_reducible rfl))) | ((with_reducible show wpPlan _ _ _ ((_, 2, _) :: _) _ _ _); first | (refine wpPlan_eff rfl ?hw (fun _ _ => ?_); case hw => ((conv => (lhs; whnf)); first | done | with_reducible rfl)) | (refine wpPlan_skip2 rfl ?hw ?_; case hw => ((conv => (lhs; whnf)); first | done | with_reducible rfl))) | ((with_reducible show wpPlan _ _ _ _ _ _ _); refine wpPlan_fork ?_ ?_) | ((with_reducible show Owed _ _ _ [] _ _ _ _ _); refine Owed.none_ ?_) | ((with_reducible show Owed _ _ _ _ [] _ _ _ _); refine Owed.nil_ ?_) | ((with_reducible show Owed _ _ _ _ _ _ _ _ _); first | (refine Owed.miss rfl ?_) | (refine Owed.hit ?_ ?_)) | ((with_reducible show Same _ _ _ _ _); intro _; go_simp; done) | (with_reducible exact True.intro) | ((with_reducible show Code.wp _ (Code.region 6 _ true) _ _ _); refine wp_region_plan [(0, 1, []), (1, 1, []), (2, 1, []), (3, 0, []), (4, 2, [0, 1, 2]), (5, 1, [])] (by kernel_rfl) (by kernel_rfl) (by kernel_rfl) ?_) | ((with_reducible show Code.wp _ (Code.region 11 _ true) _ _ _); refine wp_region_plan [(0, 0, []), (1, 0, []), (2, 1, []), (3, 1, []), (4, 1, []), (5, 1, []), (6, 1, []), (7, 1, []), (8, 2, [2, 3, 4]), (9, 2, []), (10, 1, []), (11, 1, []), (12, 2, [])] (by kernel_rfl) (by kernel_rfl) (by kernel_rfl) ?_) | (go_at_call 87; refine (innermost_any b _ vo1 _ vp1 _ L2.out.drew.ins (by rw [HO.out.1]; exact HC.out) (by rw [HO.out.1]; omega)).mono ?_; rw [HO.out.1, HC0.out]; rintro e w3 ⟨rfl, rfl⟩))
  refine (insert_step b _ vo1 _ vp1 5 t.pos _ L2.out.drew.drew.ins (by rw [HO.out.2]; omega)).mono ?_
  rintro e w3 ⟨rfl, hS⟩
  obtain ⟨vo3, vc3, vp3, hL⟩ := L2.out.drew.drew.step hS
  have L3 := Lib.hid hL
  have hT3 := hL.cells
  have hC3 := hL.ins.cell
  have hf3 := hL.ins.free
  have hNb3 := hL.box.lt
  have hbb3 := hL.ins.blk.lt
  obtain ⟨A3, cap3, rfl, _, _⟩ := own_form hL.ins.cols
  have HO3 := Lib.hid hL.ins.cols
  have HB3 := Lib.hid hL.ins.blk
  clear hS hL hT2 hC2 hf2 hcb h64b
  go_wp2_with (first | ((with_reducible show wpPlan _ _ _ ((9, 2, _) :: _) _ _ _); refine wpPlan_eff rfl rfl (fun _ hK => ?_); refine app_blk slInt rfl ((HO3.out.alloc _).drew) rfl (news := icell t.pos.col) ((heap_alloc_at rfl) : Blk _ w3.heap.size _ _) rfl rfl (by simp [icell, Value.oneCell']) (by omega) (by unfold maxLen; omega) (by omega) ?_; intro g4 cap4 w4 hown4 hgrow4 hat4; refine hK _ _ ?_; clear hK; have hb4 := ((HB3.out.alloc _).drew).grown hgrow4 (Ne.symm (own_apart L3.out.ins.cols L3.out.ins.blk (by decide))); have hf4 := hb4.frozen; have hc4 := hb4.cell; simp only [Act.put, List.setIfInBounds_toArray]) | ((with_reducible show wpPlan _ _ _ [] _ _ _); refine wpPlan_nil ?_) | ((with_reducible show wpPlan _ _ _ ((_, 0, _) :: _) _ _ _); first | (refine wpPlan_read0 rfl ?hw rfl (fun _ _ _ => ?_); case hw => ((conv => (lhs; whnf)); first | done | with_reducible rfl)) | (refine wpPlan_skip0 rfl ?hw ?_; case hw => ((conv => (lhs; whnf)); first | done | with_reducible rfl))) | ((with_reducible show wpPlan _ _ _ ((_, 1, _) :: _) _ _ _); first | (refine wpPlan_read1 rfl ?hw rfl (fun _ _ _ => ?_); case hw => ((conv => (lhs; whnf)); first | done | with_reducible rfl)) | (refine wpPlan_skip1 rfl ?hw ?_; case hw => ((conv => (lhs; whnf)); first | done | with_reducible rfl))) | ((with_reducible show wpPlan _ _ _ ((_, 2, _) :: _) _ _ _); first | (refine wpPlan_eff rfl ?hw (fun _ _ => ?_); case hw => ((conv => (lhs; whnf)); first | done | with_reducible rfl)) | (refine wpPlan_skip2 rfl ?hw ?_; case hw => ((conv => (lhs; whnf)); first | done | with_reducible rfl))) | ((with_reducible show wpPlan _ _ _ _ _ _ _); refine wpPlan_fork ?_ ?_) | ((with_reducible show Owed _ _ _ [] _ _ _ _ _); refine Owed.none_ ?_) | ((with_reducible show Owed _ _ _ _ [] _ _ _ _); refine Owed.nil_ ?_) | ((with_reducible show Owed _ _ _ _ _ _ _ _ _); first | (refine Owed.miss rfl ?_) | (refine Owed.hit ?_ ?_)) | ((with_reducible show Same _ _ _ _ _); intro _; go_simp; done) | (with_reducible exact True.intro) | ((with_reducible show Code.wp _ (Code.region 6 _ true) _ _ _); refine wp_region_plan [(0, 1, []), (1, 1, []), (2, 1, []), (3, 0, []), (4, 2, [0, 1, 2]), (5, 1, [])] (by kernel_rfl) (by kernel_rfl) (by kernel_rfl) ?_) | ((with_reducible show Code.wp _ (Code.region 11 _ true) _ _ _); refine wp_region_plan [(0, 0, []), (1, 0, []), (2, 1, []), (3, 1, []), (4, 1, []), (5, 1, []), (6, 1, []), (7, 1, []), (8, 2, [2, 3, 4]), (9, 2, []), (10, 1, []), (11, 1, []), (12, 2, [])] (by kernel_rfl) (by kernel_rfl) (by kernel_rfl) ?_))
  go_ret
  rw [HS.out, HC0.out, if_neg (by omega), if_neg H64.out]
  refine ⟨rfl, ?_⟩
  have hP := pushCols (c := t.pos.col) L3.out.ins (((Outside.refl _ _).alloc _).drew) hgrow4 hown4 (hat4.imp id (fun h => ⟨g4, rfl, h⟩))
  obtain ⟨_, _, _, hL⟩ := L3.out.step hP
  exact hL.done

theorem begin_any (B b : Nat) (x : Ins) (vo vc vp : Value) (t : Tok) (w : World) (h : InsAt w b x vo vc vp) (hG : Glob B w) (hB : ∀ k, foot b vo vc vp k → B ≤ k)
    (hn : x.opn.length ≤ 1000000000) (ho : x.out.length ≤ 999999999) (hc : x.cols ≠ []) (hcn : x.cols.length ≤ 100) :
    Calls Tryd.prog 75 #[.pointer (some ⟨b, 0, none⟩), t.v] w fun e w' => e = .returned (.int .i64 (beginS x t).2) ∧ Step w b vo vc vp (beginS x t).1 w' := by
  cases hk : isClose t
  · exact begin_plain B b x vo vc vp t w h hG hB hn ho hc hcn hk
  · exact begin_close B b x vo vc vp t w h hG hB hn ho hk

end Go.Proofs.YtgfhkaamkodpjaaDoor
