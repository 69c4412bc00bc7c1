/- walks: one token -/
import Derived.Test.YtgfhkaamkodpjaaDoorLay4
import Derived.Test.YtgfhkaamkodpjaaDoorLay5
namespace Go.Proofs.YtgfhkaamkodpjaaDoor
open Go Go.RowKit
set_option maxHeartbeats 8000000
attribute [local irreducible] kwB syB clB

def pushS (x : Ins) (t : Tok) : Ins := rememberS { x with out := x.out ++ [t] } t
/-- the state behind a token, and the error -/
def tokenS (x : Ins) (t : Tok) : Ins × Int :=
  if validTok t && afterT x.bf.pos t.pos then
    if x.out.length = 1 then
      if t.pos.col = 1 then (pushS x t, 0) else (x, 3)
    else if x.nx || x.wt && decide (x.bf.pos.line < t.pos.line) then
      if (beginS x t).2 = 0 then (pushS (beginS x t).1 t, 0) else beginS x t
    else (pushS (placeS x t) t, 0)
  else (x, 1)


theorem beginS_len (x : Ins) (t : Tok) : (beginS x t).1.out.length ≤ x.out.length + 2 ∧ (beginS x t).1.opn.length ≤ x.opn.length := by
  have hb := beganS_cols x
  have ho : (beganS x).opn.length ≤ x.opn.length := by unfold beganS; split <;> exact List.length_filter_le _ _
  unfold beginS
  dsimp only
  split
  · simp [hb.2, ho]
  · split
    · simp [hb.2, ho]
    · split <;> simp [hb.2, ho]
theorem placeS_len (x : Ins) (t : Tok) : (placeS x t).out.length ≤ x.out.length + x.cols.length + 2 ∧ (placeS x t).opn = x.opn := by
  refine ⟨?_, rfl⟩
  have h1 := closeLoop_len t.pos x.out x.cols
  show (placeC t _ _ _).length ≤ _
  unfold placeC placeB placeA
  repeat' split
  all_goals (try simp only [List.length_append, List.length_cons, List.length_nil])
  all_goals omega

theorem token_any (B b : Nat) (x : Ins) (vo vc vp : Value) (t : Tok) (w : World) (h : InsAt w b x vo vc vp) (hG : Glob B w) (hB : ∀ k, foot b vo vc vp k → B ≤ k)
    (hs : t.str.size ≤ 1000000000000) (ho : x.out.length ≤ 900000000) (hc : x.cols.getLast? = some 1) (hcn : x.cols.length ≤ 64) (hn : x.opn.length ≤ 800000000) :
    Calls Tryd.prog 40 #[.pointer (some ⟨b, 0, none⟩), t.v] w fun e w' => e = .returned (.int .i64 (tokenS x t).2) ∧ Step w b vo vc vp (tokenS x t).1 w' := by
  obtain ⟨v, hv⟩ : ∃ v, validTok t = v := ⟨_, rfl⟩
  obtain ⟨af, haf⟩ : ∃ af, afterT x.bf.pos t.pos = af := ⟨_, rfl⟩
  have HV := Lib.hid hv
  have HA := Lib.hid haf
  have HC := Lib.hid hc
  clear hv haf hc
  obtain ⟨f1, hf1⟩ : ∃ f1, ((x.out.length : Int) == 1) = f1 := ⟨_, rfl⟩
  have L0 := Lib.hid (Loc.start (t := t) h hG hB)
  have hT0 := L0.out.cells
  have hNb := L0.out.box.lt
  have hC := h.cell
  have hbb := h.blk.lt
  obtain ⟨A, cap, rfl, _, _⟩ := own_form h.out
  have HF := Lib.hid hf1
  clear h hG hB
  go_enter Tryd.func40, Tryd.ntmps40
  go_wp2_with fail
  refine (valid_any B t _ L0.out.glob hs).mono ?_
  rw [HV.out]
  rintro e w1 ⟨rfl, hb1⟩
  have hL := L0.out.below hb1
  have L1 := Lib.hid hL
  have hT1 := hL.cells
  clear hb1 hT0 hL hC
  cases v
  · go_wp2
    go_ret
    have HS : Hid (tokenS x t = (x, 1)) := Lib.hid (by unfold tokenS; rw [HV.out]; rfl)
    rw [HS.out]
    exact ⟨rfl, L1.out.done⟩
  go_wp2_with fail
  refine (lafter_any b x _ vc vp t _ L1.out.ins).mono ?_
  rw [HA.out]
  rintro e w2 ⟨rfl, hb2⟩
  have hL := L1.out.below hb2
  have L2 := Lib.hid hL
  have hT2 := hL.cells
  clear hb2 hT1 hL
  cases af
  · go_wp2
    go_ret
    have HS : Hid (tokenS x t = (x, 1)) := Lib.hid (by unfold tokenS; rw [HV.out, HA.out]; rfl)
    rw [HS.out]
    exact ⟨rfl, L2.out.done⟩
  cases f1
  · have H1 : Hid (¬ x.out.length = 1) := Lib.hid (by have := HF.out; simp at this; omega)
    obtain ⟨bg, hbg⟩ : ∃ bg, (x.nx || x.wt && decide (x.bf.pos.line < t.pos.line)) = bg := ⟨_, rfl⟩
    have HBG := Lib.hid hbg
    clear hbg
    go_wp2_with fail
    refine (begins_any b x _ vc vp t _ L2.out.ins).mono ?_
    rw [HBG.out]
    rintro e w7 ⟨rfl, hb2⟩
    have hL := L2.out.below hb2
    have L7 := Lib.hid hL
    have hT7 := hL.cells
    clear hb2 hT2 hL
    cases bg
    · have HS : Hid (tokenS x t = (pushS (placeS x t) t, 0)) := Lib.hid (by unfold tokenS; rw [HV.out, HA.out, Bool.and_self, if_pos rfl, if_neg H1.out, HBG.out, if_neg (by decide)])
      have hpl := placeS_len x t
      have hc1 : Hid (1 ≤ t.pos.col) := Lib.hid (by have := HA.out; unfold afterT at this; simp at this; exact this.1.2)
      have hpo := Lib.hid hpl.2
      have hpn : (placeS x t).opn.length ≤ 800000000 := by rw [hpl.2]; exact hn
      go_wp2_with fail
      refine (place_any B b x _ vc vp t _ L7.out.ins L7.out.glob L7.out.lo ho HC.out (by omega) hc1.out).mono ?_
      rintro e w3 ⟨rfl, hS⟩
      obtain ⟨vo3, vc3, vp3, hL⟩ := L7.out.step hS
      have L3 := Lib.hid hL
      clear hS hT7
      have hT3 := hL.cells; have hC3 := hL.ins.cell; have hf3 := hL.ins.free; have hNb3 := hL.box.lt; have hbb3 := hL.ins.blk.lt; obtain ⟨A3, cap3, rfl, _, _⟩ := own_form hL.ins.out; have HO3 := Lib.hid hL.ins.out; have HB3 := Lib.hid hL.ins.blk; clear hL; go_wp2_with (first | ((with_reducible show wpPlan _ _ _ ((7, 2, _) :: _) _ _ _); refine Stop.intro ?_) | ((with_reducible show wpPlan _ _ _ [] _ _ _); refine wpPlan_nil ?_) | ((with_reducible show wpPlan _ _ _ ((_, 0, _) :: _) _ _ _); first | (refine wpPlan_read0 rfl ?hw rfl (fun _ _ _ => ?_); case hw => ((conv => (lhs; whnf)); first | done | with_reducible rfl)) | (refine wpPlan_skip0 rfl ?hw ?_; case hw => ((conv => (lhs; whnf)); first | done | with_reducible rfl))) | ((with_reducible show wpPlan _ _ _ ((_, 1, _) :: _) _ _ _); first | (refine wpPlan_read1 rfl ?hw rfl (fun _ _ _ => ?_); case hw => ((conv => (lhs; whnf)); first | done | with_reducible rfl)) | (refine wpPlan_skip1 rfl ?hw ?_; case hw => ((conv => (lhs; whnf)); first | done | with_reducible rfl))) | ((with_reducible show wpPlan _ _ _ ((_, 2, _) :: _) _ _ _); first | (refine wpPlan_eff rfl ?hw (fun _ _ => ?_); case hw => ((conv => (lhs; whnf)); first | done | with_reducible rfl)) | (refine wpPlan_skip2 rfl ?hw ?_; case hw => ((conv => (lhs; whnf)); first | done | with_reducible rfl))) | ((with_reducible show wpPlan _ _ _ _ _ _ _); refine wpPlan_fork ?_ ?_) | ((with_reducible show Owed _ _ _ [] _ _ _ _ _); refine Owed.none_ ?_) | ((with_reducible show Owed _ _ _ _ [] _ _ _ _); refine Owed.nil_ ?_) | ((with_reducible show Owed _ _ _ _ _ _ _ _ _); first | (refine Owed.miss rfl ?_) | (refine Owed.hit ?_ ?_)) | ((with_reducible show Same _ _ _ _ _); intro _; go_simp; done) | (with_reducible exact True.intro) | ((with_reducible show Code.wp _ (Code.region 12 _ true) _ _ _); refine wp_region_plan [(0, 0, []), (1, 0, []), (2, 1, []), (3, 1, []), (4, 1, []), (5, 1, []), (6, 2, [2, 3, 4]), (7, 2, []), (8, 1, []), (9, 1, []), (10, 2, [])] (by kernel_rfl) (by kernel_rfl) (by kernel_rfl) ?_)); unfold Stop; refine wpPlan_eff rfl rfl (fun _ hK => ?_); refine app_blk slTok rfl ((HO3.out.alloc _).drew) rfl (news := t.cells) ((heap_alloc_at rfl) : Blk _ w3.heap.size _ _) rfl rfl (by simp [Tok.cells, Value.oneCell']) (by decide) (by unfold maxLen; omega) (by omega) ?_; intro g4 cap4 w4 hown4 hgrow4 hat4; refine hK _ _ ?_; clear hK; have hb4 := ((HB3.out.alloc _).drew).grown hgrow4 (Ne.symm (own_apart L3.out.ins.out L3.out.ins.blk (by decide))); have hf4 := hb4.frozen; have hc4 := hb4.cell; have hN4 := ((L3.out.box.alloc _).drew).grown hgrow4 (fun hh => L3.out.apart (.inr (.inl hh.symm))); have hn4 := hN4.cell; have hnb4 := hN4.lt; have hbb4 := hb4.lt; simp only [Act.put, List.setIfInBounds_toArray]; clear hT3 hC3 hf3
      go_wp2_with (first | ((with_reducible show wpPlan _ _ _ [] _ _ _); refine wpPlan_nil ?_) | ((with_reducible show wpPlan _ _ _ ((_, 0, _) :: _) _ _ _); first | (refine wpPlan_read0 rfl ?hw rfl (fun _ _ _ => ?_); case hw => ((conv => (lhs; whnf)); first | done | with_reducible rfl)) | (refine wpPlan_skip0 rfl ?hw ?_; case hw => ((conv => (lhs; whnf)); first | done | with_reducible rfl))) | ((with_reducible show wpPlan _ _ _ ((_, 1, _) :: _) _ _ _); first | (refine wpPlan_read1 rfl ?hw rfl (fun _ _ _ => ?_); case hw => ((conv => (lhs; whnf)); first | done | with_reducible rfl)) | (refine wpPlan_skip1 rfl ?hw ?_; case hw => ((conv => (lhs; whnf)); first | done | with_reducible rfl))) | ((with_reducible show wpPlan _ _ _ ((_, 2, _) :: _) _ _ _); first | (refine wpPlan_eff rfl ?hw (fun _ _ => ?_); case hw => ((conv => (lhs; whnf)); first | done | with_reducible rfl)) | (refine wpPlan_skip2 rfl ?hw ?_; case hw => ((conv => (lhs; whnf)); first | done | with_reducible rfl))) | ((with_reducible show wpPlan _ _ _ _ _ _ _); refine wpPlan_fork ?_ ?_) | ((with_reducible show Owed _ _ _ [] _ _ _ _ _); refine Owed.none_ ?_) | ((with_reducible show Owed _ _ _ _ [] _ _ _ _); refine Owed.nil_ ?_) | ((with_reducible show Owed _ _ _ _ _ _ _ _ _); first | (refine Owed.miss rfl ?_) | (refine Owed.hit ?_ ?_)) | ((with_reducible show Same _ _ _ _ _); intro _; go_simp; done) | (with_reducible exact True.intro) | ((with_reducible show Code.wp _ (Code.region 12 _ true) _ _ _); refine wp_region_plan [(0, 0, []), (1, 0, []), (2, 1, []), (3, 1, []), (4, 1, []), (5, 1, []), (6, 2, [2, 3, 4]), (7, 2, []), (8, 1, []), (9, 1, []), (10, 2, [])] (by kernel_rfl) (by kernel_rfl) (by kernel_rfl) ?_))
      obtain ⟨vo5, vc5, vp5, hL5⟩ := L3.out.step (pushOut (c := t) L3.out.ins (((Outside.refl _ _).alloc _).drew) hgrow4 hown4 (hat4.imp id (fun h => ⟨g4, rfl, h⟩))); have L5 := Lib.hid hL5; clear hL5
      refine (remember_any B b { placeS x t with out := (placeS x t).out ++ [t] } vo5 vc5 vp5 t _ L5.out.ins L5.out.glob L5.out.lo (by dsimp only; omega)).mono ?_
      rintro e w6 ⟨rfl, hS⟩
      obtain ⟨_, _, _, hL6⟩ := L5.out.step hS
      clear hS
      go_wp2
      go_ret
      rw [HS.out]
      exact ⟨rfl, hL6.done⟩
    · have hne : x.cols ≠ [] := by have := HC.out; rintro e; rw [e] at this; cases this
      have HNE := Lib.hid hne
      have hbl := beginS_len x t
      obtain ⟨e2, he2⟩ : ∃ e2, (beginS x t).2 = e2 := ⟨_, rfl⟩
      have HE := Lib.hid he2
      clear he2 hne
      go_wp2_with fail
      refine (begin_any B b x _ vc vp t _ L7.out.ins L7.out.glob L7.out.lo (by omega) (by omega) HNE.out (by omega)).mono ?_
      rw [HE.out]
      rintro e w3 ⟨rfl, hS⟩
      obtain ⟨vo3, vc3, vp3, hL⟩ := L7.out.step hS
      have L3 := Lib.hid hL
      clear hS hT7
      by_cases h0 : e2 = 0
      · subst h0
        have HS : Hid (tokenS x t = (pushS (beginS x t).1 t, 0)) := Lib.hid (by unfold tokenS; rw [HV.out, HA.out, Bool.and_self, if_pos rfl, if_neg H1.out, HBG.out, if_pos rfl, if_pos HE.out])
        have hT3 := hL.cells; have hC3 := hL.ins.cell; have hf3 := hL.ins.free; have hNb3 := hL.box.lt; have hbb3 := hL.ins.blk.lt; obtain ⟨A3, cap3, rfl, _, _⟩ := own_form hL.ins.out; have HO3 := Lib.hid hL.ins.out; have HB3 := Lib.hid hL.ins.blk; clear hL; go_wp2_with (first | ((with_reducible show wpPlan _ _ _ ((7, 2, _) :: _) _ _ _); refine Stop.intro ?_) | ((with_reducible show wpPlan _ _ _ [] _ _ _); refine wpPlan_nil ?_) | ((with_reducible show wpPlan _ _ _ ((_, 0, _) :: _) _ _ _); first | (refine wpPlan_read0 rfl ?hw rfl (fun _ _ _ => ?_); case hw => ((conv => (lhs; whnf)); first | done | with_reducible rfl)) | (refine wpPlan_skip0 rfl ?hw ?_; case hw => ((conv => (lhs; whnf)); first | done | with_reducible rfl))) | ((with_reducible show wpPlan _ _ _ ((_, 1, _) :: _) _ _ _); first | (refine wpPlan_read1 rfl ?hw rfl (fun _ _ _ => ?_); case hw => ((conv => (lhs; whnf)); first | done | with_reducible rfl)) | (refine wpPlan_skip1 rfl ?hw ?_; case hw => ((conv => (lhs; whnf)); first | done | with_reducible rfl))) | ((with_reducible show wpPlan _ _ _ ((_, 2, _) :: _) _ _ _); first | (refine wpPlan_eff rfl ?hw (fun _ _ => ?_); case hw => ((conv => (lhs; whnf)); first | done | with_reducible rfl)) | (refine wpPlan_skip2 rfl ?hw ?_; case hw => ((conv => (lhs; whnf)); first | done | with_reducible rfl))) | ((with_reducible show wpPlan _ _ _ _ _ _ _); refine wpPlan_fork ?_ ?_) | ((with_reducible show Owed _ _ _ [] _ _ _ _ _); refine Owed.none_ ?_) | ((with_reducible show Owed _ _ _ _ [] _ _ _ _); refine Owed.nil_ ?_) | ((with_reducible show Owed _ _ _ _ _ _ _ _ _); first | (refine Owed.miss rfl ?_) | (refine Owed.hit ?_ ?_)) | ((with_reducible show Same _ _ _ _ _); intro _; go_simp; done) | (with_reducible exact True.intro) | ((with_reducible show Code.wp _ (Code.region 12 _ true) _ _ _); refine wp_region_plan [(0, 0, []), (1, 0, []), (2, 1, []), (3, 1, []), (4, 1, []), (5, 1, []), (6, 2, [2, 3, 4]), (7, 2, []), (8, 1, []), (9, 1, []), (10, 2, [])] (by kernel_rfl) (by kernel_rfl) (by kernel_rfl) ?_)); unfold Stop; refine wpPlan_eff rfl rfl (fun _ hK => ?_); refine app_blk slTok rfl ((HO3.out.alloc _).drew) rfl (news := t.cells) ((heap_alloc_at rfl) : Blk _ w3.heap.size _ _) rfl rfl (by simp [Tok.cells, Value.oneCell']) (by decide) (by unfold maxLen; omega) (by omega) ?_; intro g4 cap4 w4 hown4 hgrow4 hat4; refine hK _ _ ?_; clear hK; have hb4 := ((HB3.out.alloc _).drew).grown hgrow4 (Ne.symm (own_apart L3.out.ins.out L3.out.ins.blk (by decide))); have hf4 := hb4.frozen; have hc4 := hb4.cell; have hN4 := ((L3.out.box.alloc _).drew).grown hgrow4 (fun hh => L3.out.apart (.inr (.inl hh.symm))); have hn4 := hN4.cell; have hnb4 := hN4.lt; have hbb4 := hb4.lt; simp only [Act.put, List.setIfInBounds_toArray]; clear hT3 hC3 hf3
        go_wp2_with (first | ((with_reducible show wpPlan _ _ _ [] _ _ _); refine wpPlan_nil ?_) | ((with_reducible show wpPlan _ _ _ ((_, 0, _) :: _) _ _ _); first | (refine wpPlan_read0 rfl ?hw rfl (fun _ _ _ => ?_); case hw => ((conv => (lhs; whnf)); first | done | with_reducible rfl)) | (refine wpPlan_skip0 rfl ?hw ?_; case hw => ((conv => (lhs; whnf)); first | done | with_reducible rfl))) | ((with_reducible show wpPlan _ _ _ ((_, 1, _) :: _) _ _ _); first | (refine wpPlan_read1 rfl ?hw rfl (fun _ _ _ => ?_); case hw => ((conv => (lhs; whnf)); first | done | with_reducible rfl)) | (refine wpPlan_skip1 rfl ?hw ?_; case hw => ((conv => (lhs; whnf)); first | done | with_reducible rfl))) | ((with_reducible show wpPlan _ _ _ ((_, 2, _) :: _) _ _ _); first | (refine wpPlan_eff rfl ?hw (fun _ _ => ?_); case hw => ((conv => (lhs; whnf)); first | done | with_reducible rfl)) | (refine wpPlan_skip2 rfl ?hw ?_; case hw => ((conv => (lhs; whnf)); first | done | with_reducible rfl))) | ((with_reducible show wpPlan _ _ _ _ _ _ _); refine wpPlan_fork ?_ ?_) | ((with_reducible show Owed _ _ _ [] _ _ _ _ _); refine Owed.none_ ?_) | ((with_reducible show Owed _ _ _ _ [] _ _ _ _); refine Owed.nil_ ?_) | ((with_reducible show Owed _ _ _ _ _ _ _ _ _); first | (refine Owed.miss rfl ?_) | (refine Owed.hit ?_ ?_)) | ((with_reducible show Same _ _ _ _ _); intro _; go_simp; done) | (with_reducible exact True.intro) | ((with_reducible show Code.wp _ (Code.region 12 _ true) _ _ _); refine wp_region_plan [(0, 0, []), (1, 0, []), (2, 1, []), (3, 1, []), (4, 1, []), (5, 1, []), (6, 2, [2, 3, 4]), (7, 2, []), (8, 1, []), (9, 1, []), (10, 2, [])] (by kernel_rfl) (by kernel_rfl) (by kernel_rfl) ?_))
        obtain ⟨vo5, vc5, vp5, hL5⟩ := L3.out.step (pushOut (c := t) L3.out.ins (((Outside.refl _ _).alloc _).drew) hgrow4 hown4 (hat4.imp id (fun h => ⟨g4, rfl, h⟩))); have L5 := Lib.hid hL5; clear hL5
        refine (remember_any B b { (beginS x t).1 with out := (beginS x t).1.out ++ [t] } vo5 vc5 vp5 t _ L5.out.ins L5.out.glob L5.out.lo (by dsimp only; omega)).mono ?_
        rintro e w6 ⟨rfl, hS⟩
        obtain ⟨_, _, _, hL6⟩ := L5.out.step hS
        clear hS
        go_wp2
        go_ret
        rw [HS.out]
        exact ⟨rfl, hL6.done⟩
      · have hcb : (e2 != 0) = true := by simpa using h0
        have HS : Hid (tokenS x t = beginS x t) := Lib.hid (by unfold tokenS; rw [HV.out, HA.out, Bool.and_self, if_pos rfl, if_neg H1.out, HBG.out, if_pos rfl, if_neg (by rw [HE.out]; exact h0)])
        clear h0 hL
        go_wp2
        go_ret
        rw [HS.out, HE.out]
        exact ⟨rfl, L3.out.done⟩
  · have H1 : Hid (x.out.length = 1) := Lib.hid (by have := HF.out; simp at this; omega)
    by_cases hcol : t.pos.col = 1
    · have hcb : (t.pos.col != 1) = false := by simpa using hcol
      have HS : Hid (tokenS x t = (pushS x t, 0)) := Lib.hid (by unfold tokenS; rw [HV.out, HA.out, Bool.and_self, if_pos rfl, if_pos H1.out, if_pos hcol])
      clear hcol
      obtain ⟨w3, hw3⟩ : ∃ w3, w3 = w2 := ⟨_, rfl⟩
      subst hw3
      obtain ⟨vo3, vc3, vp3, hL⟩ : ∃ vo3 vc3 vp3, Loc B w (.slice A x.out.length cap) vc vp b w.heap.size t w3 x vo3 vc3 vp3 := ⟨_, _, _, L2.out⟩
      have L3 := Lib.hid hL
      have hT3 := hL.cells; have hC3 := hL.ins.cell; have hf3 := hL.ins.free; have hNb3 := hL.box.lt; have hbb3 := hL.ins.blk.lt; obtain ⟨A3, cap3, rfl, _, _⟩ := own_form hL.ins.out; have HO3 := Lib.hid hL.ins.out; have HB3 := Lib.hid hL.ins.blk; clear hL; go_wp2_with (first | ((with_reducible show wpPlan _ _ _ ((7, 2, _) :: _) _ _ _); refine Stop.intro ?_) | ((with_reducible show wpPlan _ _ _ [] _ _ _); refine wpPlan_nil ?_) | ((with_reducible show wpPlan _ _ _ ((_, 0, _) :: _) _ _ _); first | (refine wpPlan_read0 rfl ?hw rfl (fun _ _ _ => ?_); case hw => ((conv => (lhs; whnf)); first | done | with_reducible rfl)) | (refine wpPlan_skip0 rfl ?hw ?_; case hw => ((conv => (lhs; whnf)); first | done | with_reducible rfl))) | ((with_reducible show wpPlan _ _ _ ((_, 1, _) :: _) _ _ _); first | (refine wpPlan_read1 rfl ?hw rfl (fun _ _ _ => ?_); case hw => ((conv => (lhs; whnf)); first | done | with_reducible rfl)) | (refine wpPlan_skip1 rfl ?hw ?_; case hw => ((conv => (lhs; whnf)); first | done | with_reducible rfl))) | ((with_reducible show wpPlan _ _ _ ((_, 2, _) :: _) _ _ _); first | (refine wpPlan_eff rfl ?hw (fun _ _ => ?_); case hw => ((conv => (lhs; whnf)); first | done | with_reducible rfl)) | (refine wpPlan_skip2 rfl ?hw ?_; case hw => ((conv => (lhs; whnf)); first | done | with_reducible rfl))) | ((with_reducible show wpPlan _ _ _ _ _ _ _); refine wpPlan_fork ?_ ?_) | ((with_reducible show Owed _ _ _ [] _ _ _ _ _); refine Owed.none_ ?_) | ((with_reducible show Owed _ _ _ _ [] _ _ _ _); refine Owed.nil_ ?_) | ((with_reducible show Owed _ _ _ _ _ _ _ _ _); first | (refine Owed.miss rfl ?_) | (refine Owed.hit ?_ ?_)) | ((with_reducible show Same _ _ _ _ _); intro _; go_simp; done) | (with_reducible exact True.intro) | ((with_reducible show Code.wp _ (Code.region 12 _ true) _ _ _); refine wp_region_plan [(0, 0, []), (1, 0, []), (2, 1, []), (3, 1, []), (4, 1, []), (5, 1, []), (6, 2, [2, 3, 4]), (7, 2, []), (8, 1, []), (9, 1, []), (10, 2, [])] (by kernel_rfl) (by kernel_rfl) (by kernel_rfl) ?_)); unfold Stop; refine wpPlan_eff rfl rfl (fun _ hK => ?_); refine app_blk slTok rfl ((HO3.out.alloc _).drew) rfl (news := t.cells) ((heap_alloc_at rfl) : Blk _ w3.heap.size _ _) rfl rfl (by simp [Tok.cells, Value.oneCell']) (by decide) (by unfold maxLen; omega) (by omega) ?_; intro g4 cap4 w4 hown4 hgrow4 hat4; refine hK _ _ ?_; clear hK; have hb4 := ((HB3.out.alloc _).drew).grown hgrow4 (Ne.symm (own_apart L3.out.ins.out L3.out.ins.blk (by decide))); have hf4 := hb4.frozen; have hc4 := hb4.cell; have hN4 := ((L3.out.box.alloc _).drew).grown hgrow4 (fun hh => L3.out.apart (.inr (.inl hh.symm))); have hn4 := hN4.cell; have hnb4 := hN4.lt; have hbb4 := hb4.lt; simp only [Act.put, List.setIfInBounds_toArray]; clear hT3 hC3 hf3
      go_wp2_with (first | ((with_reducible show wpPlan _ _ _ [] _ _ _); refine wpPlan_nil ?_) | ((with_reducible show wpPlan _ _ _ ((_, 0, _) :: _) _ _ _); first | (refine wpPlan_read0 rfl ?hw rfl (fun _ _ _ => ?_); case hw => ((conv => (lhs; whnf)); first | done | with_reducible rfl)) | (refine wpPlan_skip0 rfl ?hw ?_; case hw => ((conv => (lhs; whnf)); first | done | with_reducible rfl))) | ((with_reducible show wpPlan _ _ _ ((_, 1, _) :: _) _ _ _); first | (refine wpPlan_read1 rfl ?hw rfl (fun _ _ _ => ?_); case hw => ((conv => (lhs; whnf)); first | done | with_reducible rfl)) | (refine wpPlan_skip1 rfl ?hw ?_; case hw => ((conv => (lhs; whnf)); first | done | with_reducible rfl))) | ((with_reducible show wpPlan _ _ _ ((_, 2, _) :: _) _ _ _); first | (refine wpPlan_eff rfl ?hw (fun _ _ => ?_); case hw => ((conv => (lhs; whnf)); first | done | with_reducible rfl)) | (refine wpPlan_skip2 rfl ?hw ?_; case hw => ((conv => (lhs; whnf)); first | done | with_reducible rfl))) | ((with_reducible show wpPlan _ _ _ _ _ _ _); refine wpPlan_fork ?_ ?_) | ((with_reducible show Owed _ _ _ [] _ _ _ _ _); refine Owed.none_ ?_) | ((with_reducible show Owed _ _ _ _ [] _ _ _ _); refine Owed.nil_ ?_) | ((with_reducible show Owed _ _ _ _ _ _ _ _ _); first | (refine Owed.miss rfl ?_) | (refine Owed.hit ?_ ?_)) | ((with_reducible show Same _ _ _ _ _); intro _; go_simp; done) | (with_reducible exact True.intro) | ((with_reducible show Code.wp _ (Code.region 12 _ true) _ _ _); refine wp_region_plan [(0, 0, []), (1, 0, []), (2, 1, []), (3, 1, []), (4, 1, []), (5, 1, []), (6, 2, [2, 3, 4]), (7, 2, []), (8, 1, []), (9, 1, []), (10, 2, [])] (by kernel_rfl) (by kernel_rfl) (by kernel_rfl) ?_))
      obtain ⟨vo5, vc5, vp5, hL5⟩ := L3.out.step (pushOut (c := t) L3.out.ins (((Outside.refl _ _).alloc _).drew) hgrow4 hown4 (hat4.imp id (fun h => ⟨g4, rfl, h⟩))); have L5 := Lib.hid hL5; clear hL5
      refine (remember_any B b { x with out := x.out ++ [t] } vo5 vc5 vp5 t _ L5.out.ins L5.out.glob L5.out.lo (by dsimp only; omega)).mono ?_
      rintro e w6 ⟨rfl, hS⟩
      obtain ⟨_, _, _, hL6⟩ := L5.out.step hS
      clear hS
      go_wp2
      go_ret
      rw [HS.out]
      exact ⟨rfl, hL6.done⟩
    · have hcb : (t.pos.col != 1) = true := by simpa using hcol
      have HS : Hid (tokenS x t = (x, 3)) := Lib.hid (by unfold tokenS; rw [HV.out, HA.out, Bool.and_self, if_pos rfl, if_pos H1.out, if_neg hcol])
      clear hcol
      go_wp2
      go_ret
      rw [HS.out]
      exact ⟨rfl, L2.out.done⟩

end Go.Proofs.YtgfhkaamkodpjaaDoor
