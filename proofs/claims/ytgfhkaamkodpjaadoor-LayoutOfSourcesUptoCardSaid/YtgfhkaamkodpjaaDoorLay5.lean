/- walks: whether a token lies behind the one before; what is remembered of a token -/
import Derived.Test.YtgfhkaamkodpjaaDoorLay3
namespace Go.Proofs.YtgfhkaamkodpjaaDoor
open Go Go.RowKit
set_option maxHeartbeats 4000000
attribute [local irreducible] kwB syB clB

def afterT (p q : Pos) : Bool := decide (1 ≤ q.line) && decide (1 ≤ q.col) && (decide (p.line < q.line) || decide (q.line = p.line) && decide (p.col < q.col))

theorem lafter_any (b : Nat) (x : Ins) (vo vc vp : Value) (t : Tok) (w : World) (h : InsAt w b x vo vc vp) :
    Calls Tryd.prog 73 #[.pointer (some ⟨b, 0, none⟩), t.v] w fun e w' => e = .returned (.bool (afterT x.bf.pos t.pos)) ∧ Below w.heap.size w w' := by
  have hb := h.blk.lt
  have hC := h.cell
  have hC2 := fun o1 o2 => ((h.alloc o1).alloc o2).cell
  have hC3 := fun o1 o2 o3 => (((h.alloc o1).alloc o2).alloc o3).cell
  clear h
  go_enter Tryd.func73, Tryd.ntmps73
  go_wp2_with (first | ((with_reducible show wpPlan _ _ _ [] _ _ _); refine wpPlan_nil ?_) | ((with_reducible show wpPlan _ _ _ ((_, 0, _) :: _) _ _ _); first | (refine wpPlan_read0 rfl ?hw rfl (fun _ _ _ => ?_); case hw => ((conv => (lhs; whnf)); first | done | with_reducible rfl)) | (refine wpPlan_skip0 rfl ?hw ?_; case hw => ((conv => (lhs; whnf)); first | done | with_reducible rfl))) | ((with_reducible show wpPlan _ _ _ ((_, 1, _) :: _) _ _ _); first | (refine wpPlan_read1 rfl ?hw rfl (fun _ _ _ => ?_); case hw => ((conv => (lhs; whnf)); first | done | with_reducible rfl)) | (refine wpPlan_skip1 rfl ?hw ?_; case hw => ((conv => (lhs; whnf)); first | done | with_reducible rfl))) | ((with_reducible show wpPlan _ _ _ ((_, 2, _) :: _) _ _ _); first | (refine wpPlan_eff rfl ?hw (fun _ _ => ?_); case hw => ((conv => (lhs; whnf)); first | done | with_reducible rfl)) | (refine wpPlan_skip2 rfl ?hw ?_; case hw => ((conv => (lhs; whnf)); first | done | with_reducible rfl))) | ((with_reducible show wpPlan _ _ _ _ _ _ _); refine wpPlan_fork ?_ ?_) | ((with_reducible show Owed _ _ _ [] _ _ _ _ _); refine Owed.none_ ?_) | ((with_reducible show Owed _ _ _ _ [] _ _ _ _); refine Owed.nil_ ?_) | ((with_reducible show Owed _ _ _ _ _ _ _ _ _); first | (refine Owed.miss rfl ?_) | (refine Owed.hit ?_ ?_)) | ((with_reducible show Same _ _ _ _ _); intro _; go_simp; done) | (with_reducible exact True.intro) | ((with_reducible show Code.wp _ (Code.region 1 _ true) _ _ _); refine wp_region_plan [(0, 0, []), (1, 1, []), (2, 1, []), (3, 1, []), (4, 1, []), (5, 1, []), (6, 1, []), (7, 11, [1, 2, 3, 4, 5, 6]), (9, 2, [5, 6]), (10, 2, [])] (by kernel_rfl) (by kernel_rfl) (by kernel_rfl) ?_))
  all_goals go_ret
  all_goals refine ⟨ret_bool ?_, ?_⟩
  all_goals (try (with_reducible show Below _ _ _))
  all_goals (repeat' (first | exact Below.refl _ _ | refine Below.drew ?_ | refine Below.alloc ?_ ?_ _ | refine Below.setCell ?_ ?_ _))
  all_goals (try (with_reducible show _ ≤ _))
  all_goals (first | (simp; done) | (simp; omega) | skip)
  all_goals (first | (rw [Bool.eq_iff_iff]; simp [afterT]; done) | (rw [Bool.eq_iff_iff]; simp [afterT]; omega) | (simp_all [afterT]; done) | (simp_all [afterT]; omega) | skip)

def rememberS (x : Ins) (t : Tok) : Ins :=
  if isKw t [bstr [108, 101, 116], bstr [101, 120, 112, 111, 114, 116, 115]] then { x with bf := t, nx := true, opn := x.opn ++ [t.pos] }
  else if isKw t [bstr [109, 111, 100, 117, 108, 101], bstr [84, 105, 109, 101, 100]] then { x with bf := t, wt := true, ow := t.pos, opn := (if x.wt then keepOf x.opn x.ow else x.opn) ++ [t.pos] }
  else { x with bf := t }

theorem InsAt.putBf {w : World} {b : Nat} {x : Ins} {vo vc vp : Value} (h : InsAt w b x vo vc vp) (t : Tok) :
    InsAt (w.setCells b 2 [.int .i64 t.kind, .int .i64 t.int, .string t.str, .int .i64 t.pos.line, .int .i64 t.pos.col]) b { x with bf := t } vo vc vp := by
  have h1 := own_apart h.out h.blk (by decide)
  have h2 := own_apart h.cols h.blk (by decide)
  have h3 := own_apart h.opn h.blk (by decide)
  refine ⟨(((((h.blk.put 2 _).put 3 _).put 4 _).put 5 _).put 6 _), ?_, ?_, ?_⟩
  · exact own_setCell (own_setCell (own_setCell (own_setCell (own_setCell h.out h1 _) h1 _) h1 _) h1 _) h1 _
  · exact own_setCell (own_setCell (own_setCell (own_setCell (own_setCell h.cols h2 _) h2 _) h2 _) h2 _) h2 _
  · exact own_setCell (own_setCell (own_setCell (own_setCell (own_setCell h.opn h3 _) h3 _) h3 _) h3 _) h3 _
theorem InsAt.putOw {w : World} {b : Nat} {x : Ins} {vo vc vp : Value} (h : InsAt w b x vo vc vp) (q : Pos) :
    InsAt (w.setCells b 10 [.int .i64 q.line, .int .i64 q.col]) b { x with ow := q } vo vc vp := by
  have h1 := own_apart h.out h.blk (by decide)
  have h2 := own_apart h.cols h.blk (by decide)
  have h3 := own_apart h.opn h.blk (by decide)
  exact ⟨(h.blk.put 10 _).put 11 _, own_setCell (own_setCell h.out h1 _) h1 _, own_setCell (own_setCell h.cols h2 _) h2 _, own_setCell (own_setCell h.opn h3 _) h3 _⟩
theorem Outside.setCells {R : Nat → Prop} {w : World} {b : Nat} (hb : R b) : ∀ (vs : List Value) (o : Nat) (w' : World), Outside R w w' → Outside R w (w'.setCells b o vs)
  | [], _, _, h => h
  | _ :: vs, o, _, h => Outside.setCells hb vs (o + 1) _ (h.setCell (p := ⟨b, o, none⟩) (.inl hb) _)
theorem InsAt.there {w : World} {b : Nat} {x : Ins} {vo vc vp : Value} (h : InsAt w b x vo vc vp) (o n : Nat) (hn : o + n ≤ 12) : w.there b o n := fun j hj => by
  refine ⟨?_, h.free _⟩
  rw [h.cell, Array.getElem?_eq_getElem (by simp; omega)]
  rfl

theorem szTok : (Tryd.prog.info? 40).map (·.size) = some 5 := by kernel_rfl
theorem szPos : (Tryd.prog.info? 29).map (·.size) = some 2 := by kernel_rfl
def Stop (p : Prop) : Prop := p
theorem Stop.intro {p : Prop} (h : Stop p) : p := h
attribute [irreducible] Stop

theorem remember_any (B b : Nat) (x : Ins) (vo vc vp : Value) (t : Tok) (w : World) (h : InsAt w b x vo vc vp) (hG : Glob B w) (hB : ∀ k, foot b vo vc vp k → B ≤ k) (hn : x.opn.length ≤ 900000000) :
    Calls Tryd.prog 77 #[.pointer (some ⟨b, 0, none⟩), t.v] w fun e w' => e = .returned (.tuple #[]) ∧ Step w b vo vc vp (rememberS x t) w' := by
  obtain ⟨k1, hk1⟩ : ∃ k1, isKw t [bstr [108, 101, 116], bstr [101, 120, 112, 111, 114, 116, 115]] = k1 := ⟨_, rfl⟩
  have HK1 := Lib.hid hk1
  clear hk1
  have L0 := Lib.hid (Loc.start (t := t) h hG hB)
  have hT0 := L0.out.cells
  have hNb := L0.out.box.lt
  have hbb := h.blk.lt
  clear h hG hB
  go_enter Tryd.func77, Tryd.ntmps77
  go_wp2_with (first | ((with_reducible show wpList _ _ _ ({ dst := _, op := Op.store _ _ _, type := _, pos := _, after := _, guard := _ } :: _) _ _); refine Stop.intro ?_))
  unfold Stop
  refine wpList_store_mid rfl 40 _ _ rfl b 2 #[.int .i64 t.kind, .int .i64 t.int, .string t.str, .int .i64 t.pos.line, .int .i64 t.pos.col] rfl rfl (L0.out.ins.there 2 5 (by decide)) szTok (by simp [Value.oneCell']) ?_
  have hS := Step.same (L0.out.ins.putBf t) (Outside.setCells (.inl rfl) _ 2 _ (Outside.refl _ _))
  generalize hw1 : World.setCells _ _ _ _ = w1
  rw [hw1] at hS
  clear hw1
  obtain ⟨vo1, vc1, vp1, hL⟩ := L0.out.step hS
  have L1 := Lib.hid hL
  have hT1 := hL.cells
  clear hS hL hT0
  go_wp2_with fail
  refine (keyword_any t _ 2 2 (w1.heap.size + 1) [bstr [108, 101, 116], bstr [101, 120, 112, 111, 114, 116, 115]] _ (Rd.ofBlk (Blk.new w1 _ _) rfl) (by simp) (by decide)).mono ?_
  rw [HK1.out]
  rintro e w2 ⟨rfl, hb2⟩
  have hL := L1.out.below (((Below.refl w1.heap.size w1).alloc (Nat.le_refl _) _).trans (hb2.mono (by simp)))
  have L2 := Lib.hid hL
  have hT2 := hL.cells
  have hC2 := hL.ins.cell
  have hf2 := hL.ins.free
  clear hb2 hT1 hL
  cases k1
  · clear hC2 hf2
    go_wp2_with fail
    refine (keyword_any t _ 2 2 (w2.heap.size + 1) [bstr [109, 111, 100, 117, 108, 101], bstr [84, 105, 109, 101, 100]] _ (Rd.ofBlk (Blk.new w2 _ _) rfl) (by simp) (by decide)).mono ?_
    obtain ⟨k2, hk2⟩ : ∃ k2, isKw t [bstr [109, 111, 100, 117, 108, 101], bstr [84, 105, 109, 101, 100]] = k2 := ⟨_, rfl⟩
    have HK2 := Lib.hid hk2
    clear hk2
    rw [HK2.out]
    rintro e w5 ⟨rfl, hb2⟩
    have hL := L2.out.below (((Below.refl w2.heap.size w2).alloc (Nat.le_refl _) _).trans (hb2.mono (by simp)))
    have L5 := Lib.hid hL
    have hT5 := hL.cells
    have hC5 := hL.ins.cell
    have hf5 := hL.ins.free
    have hb5 := hL.ins.blk.lt
    clear hb2 hT2 hL
    cases k2
    · go_wp2_with fail
      go_end0
      have HS : Hid (rememberS x t = { x with bf := t }) := Lib.hid (by unfold rememberS; rw [HK1.out, HK2.out]; rfl)
      rw [HS.out]
      exact ⟨rfl, L5.out.done⟩
    · have HS : Hid (rememberS x t = { x with bf := t, wt := true, ow := t.pos, opn := (if x.wt then keepOf x.opn x.ow else x.opn) ++ [t.pos] }) := Lib.hid (by unfold rememberS; rw [HK1.out, HK2.out]; rfl)
      obtain ⟨wt, hwt⟩ : ∃ wt, x.wt = wt := ⟨_, rfl⟩
      have HW := Lib.hid hwt
      rw [hwt] at hC5
      clear hwt
      cases wt
      · go_wp2_with (first | ((with_reducible show Code.wp _ (Code.region 10 _ _) _ _ _); refine Stop.intro ?_)); unfold Stop
        have hS := Step.same ((L5.out.ins.putWt true).putOw t.pos) (Outside.setCells (.inl rfl) _ 10 _ (Outside.setCell (p := ⟨b, 8, none⟩) (R := foot b vo1 vc1 vp1) (Outside.refl _ _) (.inl (.inl rfl)) _))
        obtain ⟨w3, hw3⟩ : ∃ w3, (w5.setCell ⟨b, 8, none⟩ (.bool true)).setCells b 10 [.int .i64 t.pos.line, .int .i64 t.pos.col] = w3 := ⟨_, rfl⟩; change Code.wp _ _ _ _ ((w5.setCell ⟨b, 8, none⟩ (.bool true)).setCells b 10 [.int .i64 t.pos.line, .int .i64 t.pos.col]); rw [hw3]; rw [hw3] at hS; clear hw3; obtain ⟨vo3, vc3, vp3, hL⟩ := L5.out.step hS; have L3 := Lib.hid hL; have hT3 := hL.cells; have hC3 := hL.ins.cell; have hf3 := hL.ins.free; have hNb3 := hL.box.lt; have hbb3 := hL.ins.blk.lt; obtain ⟨A3, cap3, rfl, _, _⟩ := own_form hL.ins.opn; have HO3 := Lib.hid hL.ins.opn; have HB3 := Lib.hid hL.ins.blk; clear hS hL hT5 hC5 hf5; go_wp2_with (first | ((with_reducible show wpPlan _ _ _ ((8, 2, _) :: _) _ _ _); refine Stop.intro ?_) | ((with_reducible show wpPlan _ _ _ [] _ _ _); refine wpPlan_nil ?_) | ((with_reducible show wpPlan _ _ _ ((_, 0, _) :: _) _ _ _); first | (refine wpPlan_read0 rfl ?hw rfl (fun _ _ _ => ?_); case hw => ((conv => (lhs; whnf)); first | done | with_reducible rfl)) | (refine wpPlan_skip0 rfl ?hw ?_; case hw => ((conv => (lhs; whnf)); first | done | with_reducible rfl))) | ((with_reducible show wpPlan _ _ _ ((_, 1, _) :: _) _ _ _); first | (refine wpPlan_read1 rfl ?hw rfl (fun _ _ _ => ?_); case hw => ((conv => (lhs; whnf)); first | done | with_reducible rfl)) | (refine wpPlan_skip1 rfl ?hw ?_; case hw => ((conv => (lhs; whnf)); first | done | with_reducible rfl))) | ((with_reducible show wpPlan _ _ _ ((_, 2, _) :: _) _ _ _); first | (refine wpPlan_eff rfl ?hw (fun _ _ => ?_); case hw => ((conv => (lhs; whnf)); first | done | with_reducible rfl)) | (refine wpPlan_skip2 rfl ?hw ?_; case hw => ((conv => (lhs; whnf)); first | done | with_reducible rfl))) | ((with_reducible show wpPlan _ _ _ _ _ _ _); refine wpPlan_fork ?_ ?_) | ((with_reducible show Owed _ _ _ [] _ _ _ _ _); refine Owed.none_ ?_) | ((with_reducible show Owed _ _ _ _ [] _ _ _ _); refine Owed.nil_ ?_) | ((with_reducible show Owed _ _ _ _ _ _ _ _ _); first | (refine Owed.miss rfl ?_) | (refine Owed.hit ?_ ?_)) | ((with_reducible show Same _ _ _ _ _); intro _; go_simp; done) | (with_reducible exact True.intro) | ((with_reducible show Code.wp _ (Code.region 4 _ true) _ _ _); refine wp_region_plan [(0, 0, []), (1, 0, []), (2, 1, []), (3, 1, []), (4, 1, []), (5, 1, []), (6, 1, []), (7, 2, [2, 3, 4]), (8, 2, []), (9, 1, []), (10, 1, []), (11, 2, [])] (by kernel_rfl) (by kernel_rfl) (by kernel_rfl) ?_) | ((with_reducible show Code.wp _ (Code.region 10 _ true) _ _ _); refine wp_region_plan [(0, 0, []), (1, 0, []), (2, 1, []), (3, 1, []), (4, 1, []), (5, 1, []), (6, 1, []), (7, 2, [2, 3, 4]), (8, 2, []), (9, 1, []), (10, 1, []), (11, 2, [])] (by kernel_rfl) (by kernel_rfl) (by kernel_rfl) ?_)); unfold Stop; refine wpPlan_eff rfl rfl (fun _ hK => ?_); refine app_blk slPos rfl ((HO3.out.alloc _).drew) rfl (news := t.pos.cells) ((heap_alloc_at rfl) : Blk _ w3.heap.size _ _) rfl rfl (by simp [Pos.cells, Value.oneCell']) (by decide) (by unfold maxLen; first | omega | (dsimp only; omega)) (by first | omega | (dsimp only; omega)) ?_; intro g4 cap4 w4 hown4 hgrow4 hat4; refine hK _ _ ?_; clear hK; have hb4 := ((HB3.out.alloc _).drew).grown hgrow4 (Ne.symm (own_apart L3.out.ins.opn L3.out.ins.blk (by decide))); have hf4 := hb4.frozen; have hc4 := hb4.cell; simp only [Act.put, List.setIfInBounds_toArray]; go_wp2_with (first | ((with_reducible show wpPlan _ _ _ [] _ _ _); refine wpPlan_nil ?_) | ((with_reducible show wpPlan _ _ _ ((_, 0, _) :: _) _ _ _); first | (refine wpPlan_read0 rfl ?hw rfl (fun _ _ _ => ?_); case hw => ((conv => (lhs; whnf)); first | done | with_reducible rfl)) | (refine wpPlan_skip0 rfl ?hw ?_; case hw => ((conv => (lhs; whnf)); first | done | with_reducible rfl))) | ((with_reducible show wpPlan _ _ _ ((_, 1, _) :: _) _ _ _); first | (refine wpPlan_read1 rfl ?hw rfl (fun _ _ _ => ?_); case hw => ((conv => (lhs; whnf)); first | done | with_reducible rfl)) | (refine wpPlan_skip1 rfl ?hw ?_; case hw => ((conv => (lhs; whnf)); first | done | with_reducible rfl))) | ((with_reducible show wpPlan _ _ _ ((_, 2, _) :: _) _ _ _); first | (refine wpPlan_eff rfl ?hw (fun _ _ => ?_); case hw => ((conv => (lhs; whnf)); first | done | with_reducible rfl)) | (refine wpPlan_skip2 rfl ?hw ?_; case hw => ((conv => (lhs; whnf)); first | done | with_reducible rfl))) | ((with_reducible show wpPlan _ _ _ _ _ _ _); refine wpPlan_fork ?_ ?_) | ((with_reducible show Owed _ _ _ [] _ _ _ _ _); refine Owed.none_ ?_) | ((with_reducible show Owed _ _ _ _ [] _ _ _ _); refine Owed.nil_ ?_) | ((with_reducible show Owed _ _ _ _ _ _ _ _ _); first | (refine Owed.miss rfl ?_) | (refine Owed.hit ?_ ?_)) | ((with_reducible show Same _ _ _ _ _); intro _; go_simp; done) | (with_reducible exact True.intro) | ((with_reducible show Code.wp _ (Code.region 4 _ true) _ _ _); refine wp_region_plan [(0, 0, []), (1, 0, []), (2, 1, []), (3, 1, []), (4, 1, []), (5, 1, []), (6, 1, []), (7, 2, [2, 3, 4]), (8, 2, []), (9, 1, []), (10, 1, []), (11, 2, [])] (by kernel_rfl) (by kernel_rfl) (by kernel_rfl) ?_) | ((with_reducible show Code.wp _ (Code.region 10 _ true) _ _ _); refine wp_region_plan [(0, 0, []), (1, 0, []), (2, 1, []), (3, 1, []), (4, 1, []), (5, 1, []), (6, 1, []), (7, 2, [2, 3, 4]), (8, 2, []), (9, 1, []), (10, 1, []), (11, 2, [])] (by kernel_rfl) (by kernel_rfl) (by kernel_rfl) ?_)); go_end0; rw [HS.out]; refine ⟨rfl, ?_⟩; have hP := pushOpn (c := t.pos) L3.out.ins (((Outside.refl _ _).alloc _).drew) hgrow4 hown4 (hat4.imp id (fun h => ⟨g4, rfl, h⟩)); obtain ⟨_, _, _, hL⟩ := L3.out.step hP
        rw [HW.out]
        exact hL.done
      · have hO5 : w5.cell? ⟨b, 8, none⟩ = some (.bool true) := hC5 8
        go_wp2_with fail
        refine (forget_any b { x with bf := t } vo1 vc1 vp1 x.ow _ L5.out.ins (by dsimp only; omega)).mono ?_
        rintro e w6 ⟨rfl, hS⟩
        obtain ⟨vo1, vc1, vp1, hL⟩ := L5.out.step hS
        have L6 := Lib.hid hL
        have hT6 := hL.cells
        have hC6 := hL.ins.cell
        have hf6 := hL.ins.free
        have hb6 := hL.ins.blk.lt
        clear hS hL hC5 hf5 hO5 hT5
        go_wp2_with (first | ((with_reducible show Code.wp _ (Code.region 10 _ _) _ _ _); refine Stop.intro ?_)); unfold Stop
        have hS := Step.same ((L6.out.ins.putWt true).putOw t.pos) (Outside.setCells (.inl rfl) _ 10 _ (Outside.setCell (p := ⟨b, 8, none⟩) (R := foot b vo1 vc1 vp1) (Outside.refl _ _) (.inl (.inl rfl)) _))
        have hkl : (keepOf x.opn x.ow).length ≤ x.opn.length := List.length_filter_le _ _
        obtain ⟨w3, hw3⟩ : ∃ w3, (w6.setCell ⟨b, 8, none⟩ (.bool true)).setCells b 10 [.int .i64 t.pos.line, .int .i64 t.pos.col] = w3 := ⟨_, rfl⟩; change Code.wp _ _ _ _ ((w6.setCell ⟨b, 8, none⟩ (.bool true)).setCells b 10 [.int .i64 t.pos.line, .int .i64 t.pos.col]); rw [hw3]; rw [hw3] at hS; clear hw3; obtain ⟨vo3, vc3, vp3, hL⟩ := L6.out.step hS; have L3 := Lib.hid hL; have hT3 := hL.cells; have hC3 := hL.ins.cell; have hf3 := hL.ins.free; have hNb3 := hL.box.lt; have hbb3 := hL.ins.blk.lt; obtain ⟨A3, cap3, rfl, _, _⟩ := own_form hL.ins.opn; have HO3 := Lib.hid hL.ins.opn; have HB3 := Lib.hid hL.ins.blk; clear hS hL hT6 hC6 hf6; go_wp2_with (first | ((with_reducible show wpPlan _ _ _ ((8, 2, _) :: _) _ _ _); refine Stop.intro ?_) | ((with_reducible show wpPlan _ _ _ [] _ _ _); refine wpPlan_nil ?_) | ((with_reducible show wpPlan _ _ _ ((_, 0, _) :: _) _ _ _); first | (refine wpPlan_read0 rfl ?hw rfl (fun _ _ _ => ?_); case hw => ((conv => (lhs; whnf)); first | done | with_reducible rfl)) | (refine wpPlan_skip0 rfl ?hw ?_; case hw => ((conv => (lhs; whnf)); first | done | with_reducible rfl))) | ((with_reducible show wpPlan _ _ _ ((_, 1, _) :: _) _ _ _); first | (refine wpPlan_read1 rfl ?hw rfl (fun _ _ _ => ?_); case hw => ((conv => (lhs; whnf)); first | done | with_reducible rfl)) | (refine wpPlan_skip1 rfl ?hw ?_; case hw => ((conv => (lhs; whnf)); first | done | with_reducible rfl))) | ((with_reducible show wpPlan _ _ _ ((_, 2, _) :: _) _ _ _); first | (refine wpPlan_eff rfl ?hw (fun _ _ => ?_); case hw => ((conv => (lhs; whnf)); first | done | with_reducible rfl)) | (refine wpPlan_skip2 rfl ?hw ?_; case hw => ((conv => (lhs; whnf)); first | done | with_reducible rfl))) | ((with_reducible show wpPlan _ _ _ _ _ _ _); refine wpPlan_fork ?_ ?_) | ((with_reducible show Owed _ _ _ [] _ _ _ _ _); refine Owed.none_ ?_) | ((with_reducible show Owed _ _ _ _ [] _ _ _ _); refine Owed.nil_ ?_) | ((with_reducible show Owed _ _ _ _ _ _ _ _ _); first | (refine Owed.miss rfl ?_) | (refine Owed.hit ?_ ?_)) | ((with_reducible show Same _ _ _ _ _); intro _; go_simp; done) | (with_reducible exact True.intro) | ((with_reducible show Code.wp _ (Code.region 4 _ true) _ _ _); refine wp_region_plan [(0, 0, []), (1, 0, []), (2, 1, []), (3, 1, []), (4, 1, []), (5, 1, []), (6, 1, []), (7, 2, [2, 3, 4]), (8, 2, []), (9, 1, []), (10, 1, []), (11, 2, [])] (by kernel_rfl) (by kernel_rfl) (by kernel_rfl) ?_) | ((with_reducible show Code.wp _ (Code.region 10 _ true) _ _ _); refine wp_region_plan [(0, 0, []), (1, 0, []), (2, 1, []), (3, 1, []), (4, 1, []), (5, 1, []), (6, 1, []), (7, 2, [2, 3, 4]), (8, 2, []), (9, 1, []), (10, 1, []), (11, 2, [])] (by kernel_rfl) (by kernel_rfl) (by kernel_rfl) ?_)); unfold Stop; refine wpPlan_eff rfl rfl (fun _ hK => ?_); refine app_blk slPos rfl ((HO3.out.alloc _).drew) rfl (news := t.pos.cells) ((heap_alloc_at rfl) : Blk _ w3.heap.size _ _) rfl rfl (by simp [Pos.cells, Value.oneCell']) (by decide) (by unfold maxLen; first | omega | (dsimp only; omega)) (by first | omega | (dsimp only; omega)) ?_; intro g4 cap4 w4 hown4 hgrow4 hat4; refine hK _ _ ?_; clear hK; have hb4 := ((HB3.out.alloc _).drew).grown hgrow4 (Ne.symm (own_apart L3.out.ins.opn L3.out.ins.blk (by decide))); have hf4 := hb4.frozen; have hc4 := hb4.cell; simp only [Act.put, List.setIfInBounds_toArray]; go_wp2_with (first | ((with_reducible show wpPlan _ _ _ [] _ _ _); refine wpPlan_nil ?_) | ((with_reducible show wpPlan _ _ _ ((_, 0, _) :: _) _ _ _); first | (refine wpPlan_read0 rfl ?hw rfl (fun _ _ _ => ?_); case hw => ((conv => (lhs; whnf)); first | done | with_reducible rfl)) | (refine wpPlan_skip0 rfl ?hw ?_; case hw => ((conv => (lhs; whnf)); first | done | with_reducible rfl))) | ((with_reducible show wpPlan _ _ _ ((_, 1, _) :: _) _ _ _); first | (refine wpPlan_read1 rfl ?hw rfl (fun _ _ _ => ?_); case hw => ((conv => (lhs; whnf)); first | done | with_reducible rfl)) | (refine wpPlan_skip1 rfl ?hw ?_; case hw => ((conv => (lhs; whnf)); first | done | with_reducible rfl))) | ((with_reducible show wpPlan _ _ _ ((_, 2, _) :: _) _ _ _); first | (refine wpPlan_eff rfl ?hw (fun _ _ => ?_); case hw => ((conv => (lhs; whnf)); first | done | with_reducible rfl)) | (refine wpPlan_skip2 rfl ?hw ?_; case hw => ((conv => (lhs; whnf)); first | done | with_reducible rfl))) | ((with_reducible show wpPlan _ _ _ _ _ _ _); refine wpPlan_fork ?_ ?_) | ((with_reducible show Owed _ _ _ [] _ _ _ _ _); refine Owed.none_ ?_) | ((with_reducible show Owed _ _ _ _ [] _ _ _ _); refine Owed.nil_ ?_) | ((with_reducible show Owed _ _ _ _ _ _ _ _ _); first | (refine Owed.miss rfl ?_) | (refine Owed.hit ?_ ?_)) | ((with_reducible show Same _ _ _ _ _); intro _; go_simp; done) | (with_reducible exact True.intro) | ((with_reducible show Code.wp _ (Code.region 4 _ true) _ _ _); refine wp_region_plan [(0, 0, []), (1, 0, []), (2, 1, []), (3, 1, []), (4, 1, []), (5, 1, []), (6, 1, []), (7, 2, [2, 3, 4]), (8, 2, []), (9, 1, []), (10, 1, []), (11, 2, [])] (by kernel_rfl) (by kernel_rfl) (by kernel_rfl) ?_) | ((with_reducible show Code.wp _ (Code.region 10 _ true) _ _ _); refine wp_region_plan [(0, 0, []), (1, 0, []), (2, 1, []), (3, 1, []), (4, 1, []), (5, 1, []), (6, 1, []), (7, 2, [2, 3, 4]), (8, 2, []), (9, 1, []), (10, 1, []), (11, 2, [])] (by kernel_rfl) (by kernel_rfl) (by kernel_rfl) ?_)); go_end0; rw [HS.out]; refine ⟨rfl, ?_⟩; have hP := pushOpn (c := t.pos) L3.out.ins (((Outside.refl _ _).alloc _).drew) hgrow4 hown4 (hat4.imp id (fun h => ⟨g4, rfl, h⟩)); obtain ⟨_, _, _, hL⟩ := L3.out.step hP
        rw [HW.out]
        exact hL.done
  · have HS : Hid (rememberS x t = { x with bf := t, nx := true, opn := x.opn ++ [t.pos] }) := Lib.hid (by unfold rememberS; rw [HK1.out]; rfl)
    go_wp2_with (first | ((with_reducible show Code.wp _ (Code.region 4 _ _) _ _ _); refine Stop.intro ?_)); unfold Stop
    have hS := Step.same (L2.out.ins.putNx true) (Outside.setCell (p := ⟨b, 7, none⟩) (R := foot b vo1 vc1 vp1) (Outside.refl _ _) (.inl (.inl rfl)) _)
    generalize hw3 : World.setCell _ _ _ = w3
    rw [hw3] at hS
    clear hw3
    obtain ⟨vo3, vc3, vp3, hL⟩ := L2.out.step hS
    have L3 := Lib.hid hL
    have hT3 := hL.cells; have hC3 := hL.ins.cell; have hf3 := hL.ins.free; have hNb3 := hL.box.lt; have hbb3 := hL.ins.blk.lt; obtain ⟨A3, cap3, rfl, _, _⟩ := own_form hL.ins.opn; have HO3 := Lib.hid hL.ins.opn; have HB3 := Lib.hid hL.ins.blk; clear hS hL hT2 hC2 hf2; go_wp2_with (first | ((with_reducible show wpPlan _ _ _ ((8, 2, _) :: _) _ _ _); refine Stop.intro ?_) | ((with_reducible show wpPlan _ _ _ [] _ _ _); refine wpPlan_nil ?_) | ((with_reducible show wpPlan _ _ _ ((_, 0, _) :: _) _ _ _); first | (refine wpPlan_read0 rfl ?hw rfl (fun _ _ _ => ?_); case hw => ((conv => (lhs; whnf)); first | done | with_reducible rfl)) | (refine wpPlan_skip0 rfl ?hw ?_; case hw => ((conv => (lhs; whnf)); first | done | with_reducible rfl))) | ((with_reducible show wpPlan _ _ _ ((_, 1, _) :: _) _ _ _); first | (refine wpPlan_read1 rfl ?hw rfl (fun _ _ _ => ?_); case hw => ((conv => (lhs; whnf)); first | done | with_reducible rfl)) | (refine wpPlan_skip1 rfl ?hw ?_; case hw => ((conv => (lhs; whnf)); first | done | with_reducible rfl))) | ((with_reducible show wpPlan _ _ _ ((_, 2, _) :: _) _ _ _); first | (refine wpPlan_eff rfl ?hw (fun _ _ => ?_); case hw => ((conv => (lhs; whnf)); first | done | with_reducible rfl)) | (refine wpPlan_skip2 rfl ?hw ?_; case hw => ((conv => (lhs; whnf)); first | done | with_reducible rfl))) | ((with_reducible show wpPlan _ _ _ _ _ _ _); refine wpPlan_fork ?_ ?_) | ((with_reducible show Owed _ _ _ [] _ _ _ _ _); refine Owed.none_ ?_) | ((with_reducible show Owed _ _ _ _ [] _ _ _ _); refine Owed.nil_ ?_) | ((with_reducible show Owed _ _ _ _ _ _ _ _ _); first | (refine Owed.miss rfl ?_) | (refine Owed.hit ?_ ?_)) | ((with_reducible show Same _ _ _ _ _); intro _; go_simp; done) | (with_reducible exact True.intro) | ((with_reducible show Code.wp _ (Code.region 4 _ true) _ _ _); refine wp_region_plan [(0, 0, []), (1, 0, []), (2, 1, []), (3, 1, []), (4, 1, []), (5, 1, []), (6, 1, []), (7, 2, [2, 3, 4]), (8, 2, []), (9, 1, []), (10, 1, []), (11, 2, [])] (by kernel_rfl) (by kernel_rfl) (by kernel_rfl) ?_) | ((with_reducible show Code.wp _ (Code.region 10 _ true) _ _ _); refine wp_region_plan [(0, 0, []), (1, 0, []), (2, 1, []), (3, 1, []), (4, 1, []), (5, 1, []), (6, 1, []), (7, 2, [2, 3, 4]), (8, 2, []), (9, 1, []), (10, 1, []), (11, 2, [])] (by kernel_rfl) (by kernel_rfl) (by kernel_rfl) ?_)); unfold Stop; refine wpPlan_eff rfl rfl (fun _ hK => ?_); refine app_blk slPos rfl ((HO3.out.alloc _).drew) rfl (news := t.pos.cells) ((heap_alloc_at rfl) : Blk _ w3.heap.size _ _) rfl rfl (by simp [Pos.cells, Value.oneCell']) (by decide) (by unfold maxLen; first | omega | (dsimp only; omega)) (by first | omega | (dsimp only; omega)) ?_; intro g4 cap4 w4 hown4 hgrow4 hat4; refine hK _ _ ?_; clear hK; have hb4 := ((HB3.out.alloc _).drew).grown hgrow4 (Ne.symm (own_apart L3.out.ins.opn L3.out.ins.blk (by decide))); have hf4 := hb4.frozen; have hc4 := hb4.cell; simp only [Act.put, List.setIfInBounds_toArray]; go_wp2_with (first | ((with_reducible show wpPlan _ _ _ [] _ _ _); refine wpPlan_nil ?_) | ((with_reducible show wpPlan _ _ _ ((_, 0, _) :: _) _ _ _); first | (refine wpPlan_read0 rfl ?hw rfl (fun _ _ _ => ?_); case hw => ((conv => (lhs; whnf)); first | done | with_reducible rfl)) | (refine wpPlan_skip0 rfl ?hw ?_; case hw => ((conv => (lhs; whnf)); first | done | with_reducible rfl))) | ((with_reducible show wpPlan _ _ _ ((_, 1, _) :: _) _ _ _); first | (refine wpPlan_read1 rfl ?hw rfl (fun _ _ _ => ?_); case hw => ((conv => (lhs; whnf)); first | done | with_reducible rfl)) | (refine wpPlan_skip1 rfl ?hw ?_; case hw => ((conv => (lhs; whnf)); first | done | with_reducible rfl))) | ((with_reducible show wpPlan _ _ _ ((_, 2, _) :: _) _ _ _); first | (refine wpPlan_eff rfl ?hw (fun _ _ => ?_); case hw => ((conv => (lhs; whnf)); first | done | with_reducible rfl)) | (refine wpPlan_skip2 rfl ?hw ?_; case hw => ((conv => (lhs; whnf)); first | done | with_reducible rfl))) | ((with_reducible show wpPlan _ _ _ _ _ _ _); refine wpPlan_fork ?_ ?_) | ((with_reducible show Owed _ _ _ [] _ _ _ _ _); refine Owed.none_ ?_) | ((with_reducible show Owed _ _ _ _ [] _ _ _ _); refine Owed.nil_ ?_) | ((with_reducible show Owed _ _ _ _ _ _ _ _ _); first | (refine Owed.miss rfl ?_) | (refine Owed.hit ?_ ?_)) | ((with_reducible show Same _ _ _ _ _); intro _; go_simp; done) | (with_reducible exact True.intro) | ((with_reducible show Code.wp _ (Code.region 4 _ true) _ _ _); refine wp_region_plan [(0, 0, []), (1, 0, []), (2, 1, []), (3, 1, []), (4, 1, []), (5, 1, []), (6, 1, []), (7, 2, [2, 3, 4]), (8, 2, []), (9, 1, []), (10, 1, []), (11, 2, [])] (by kernel_rfl) (by kernel_rfl) (by kernel_rfl) ?_) | ((with_reducible show Code.wp _ (Code.region 10 _ true) _ _ _); refine wp_region_plan [(0, 0, []), (1, 0, []), (2, 1, []), (3, 1, []), (4, 1, []), (5, 1, []), (6, 1, []), (7, 2, [2, 3, 4]), (8, 2, []), (9, 1, []), (10, 1, []), (11, 2, [])] (by kernel_rfl) (by kernel_rfl) (by kernel_rfl) ?_))
    go_end0
    rw [HS.out]
    refine ⟨rfl, ?_⟩
    have hP := pushOpn (c := t.pos) L3.out.ins (((Outside.refl _ _).alloc _).drew) hgrow4 hown4 (hat4.imp id (fun h => ⟨g4, rfl, h⟩))
    obtain ⟨_, _, _, hL⟩ := L3.out.step hP
    exact hL.done

end Go.Proofs.YtgfhkaamkodpjaaDoor
