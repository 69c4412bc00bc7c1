/- walks of the inserter's methods that close a block, ask whether one begins, forget a keyword -/
import Derived.Test.YtgfhkaamkodpjaaDoorLay
namespace Go.Proofs.YtgfhkaamkodpjaaDoor
open Go Go.RowKit
set_option maxHeartbeats 800000

def closeTok (p : Pos) : Tok := ⟨7, 0, ByteArray.empty, p⟩

theorem closeBlock_any (b : Nat) (x : Ins) (vo vc vp : Value) (p : Pos) (w : World) (h : InsAt w b x vo vc vp) (hc : x.cols ≠ []) (hn : x.out.length ≤ 1000000000) (hcn : x.cols.length ≤ 1000000000) :
    Calls Tryd.prog 41 #[.pointer (some ⟨b, 0, none⟩), p.v] w fun e w' => e = .returned (.tuple #[]) ∧ Step w b vo vc vp { x with out := x.out ++ [closeTok p], cols := x.cols.tail } w' := by
  obtain ⟨c, r, hcr⟩ := List.exists_cons_of_ne_nil hc
  have hlen : 0 < x.cols.length := by rw [hcr]; simp
  have HA := Lib.hid (h.alloc (.cells #[.int .i64 p.line, .int .i64 p.col] 29))
  have HX := Lib.hid hcr
  have hb := h.blk.lt
  clear h hc hcr
  go_enter Tryd.func41, Tryd.ntmps41
  go_wp2_with (first | (go_at_call 39; refine (insert_step b x vo vc vp 7 p _ HA.out hn).mono ?_; rintro e w1 ⟨rfl, hS⟩; obtain ⟨vo1, vc1, vp1, hI1, hO1, hF1⟩ := hS; obtain ⟨g, cap, rfl, _, hg⟩ := hI1.cols.form hlen; have hcap1 := own_cap hI1.cols; dsimp only at hcap1; have hC1 := hI1.cell; have hf1 := hI1.free; have HI1 := Lib.hid hI1; have HO1 := Lib.hid hO1; have HF1 := Lib.hid hF1; clear hI1 hO1 hF1) | ((with_reducible show wpPlan _ _ _ [] _ _ _); refine wpPlan_nil ?_) | ((with_reducible show wpPlan _ _ _ ((_, 0, _) :: _) _ _ _); first | (refine wpPlan_read0 rfl ?hw rfl (fun _ _ _ => ?_); case hw => ((conv => (lhs; whnf)); first | done | with_reducible rfl)) | (refine wpPlan_skip0 rfl ?hw ?_; case hw => ((conv => (lhs; whnf)); first | done | with_reducible rfl))) | ((with_reducible show wpPlan _ _ _ ((_, 1, _) :: _) _ _ _); first | (refine wpPlan_read1 rfl ?hw rfl (fun _ _ _ => ?_); case hw => ((conv => (lhs; whnf)); first | done | with_reducible rfl)) | (refine wpPlan_skip1 rfl ?hw ?_; case hw => ((conv => (lhs; whnf)); first | done | with_reducible rfl))) | ((with_reducible show wpPlan _ _ _ ((_, 2, _) :: _) _ _ _); first | (refine wpPlan_eff rfl ?hw (fun _ _ => ?_); case hw => ((conv => (lhs; whnf)); first | done | with_reducible rfl)) | (refine wpPlan_skip2 rfl ?hw ?_; case hw => ((conv => (lhs; whnf)); first | done | with_reducible rfl))) | ((with_reducible show wpPlan _ _ _ _ _ _ _); refine wpPlan_fork ?_ ?_) | ((with_reducible show Owed _ _ _ [] _ _ _ _ _); refine Owed.none_ ?_) | ((with_reducible show Owed _ _ _ _ [] _ _ _ _); refine Owed.nil_ ?_) | ((with_reducible show Owed _ _ _ _ _ _ _ _ _); first | (refine Owed.miss rfl ?_) | (refine Owed.hit ?_ ?_)) | ((with_reducible show Same _ _ _ _ _); intro _; go_simp; done) | (with_reducible exact True.intro) | ((with_reducible show Code.wp _ (Code.region 2 _ true) _ _ _); refine wp_region_plan [(0, 0, []), (1, 0, []), (2, 1, []), (3, 1, []), (4, 1, []), (5, 0, []), (6, 1, []), (7, 1, []), (8, 1, []), (9, 1, []), (10, 1, []), (11, 1, []), (12, 1, []), (13, 1, []), (14, 2, [])] (by kernel_rfl) (by kernel_rfl) (by kernel_rfl) ?_))
  go_end0
  refine ⟨rfl, Step.after (Below.new ((Below.refl _ _).alloc (Nat.le_refl _) _)) ⟨vo1, .slice (some ⟨g, 0, none⟩) (x.cols.length - 1) cap, vp1, ?_, (HO1.out.drew).setCell (p := ⟨b, 1, none⟩) (.inl (.inl rfl)) _, fun k hk => HF1.out k hk⟩⟩
  have h1 := HI1.out
  have hl : x.cols.tail.length = x.cols.length - 1 := by rw [HX.out]; simp
  refine InsAt.drew ?_
  refine ⟨h1.blk.put 1 _, (h1.rows 1 _).1, ?_, (h1.rows 1 _).2.2⟩
  dsimp only
  rw [hl, show cellsOf icell x.cols.tail.reverse = (cellsOf icell x.cols.reverse).take ((x.cols.length - 1) * 1) by
    rw [← cellsOf_take icell_len, HX.out]; simp]
  exact own_cut (h1.rows 1 _).2.1 (by omega)

theorem begins_any (b : Nat) (x : Ins) (vo vc vp : Value) (t : Tok) (w : World) (h : InsAt w b x vo vc vp) :
    Calls Tryd.prog 74 #[.pointer (some ⟨b, 0, none⟩), t.v] w fun e w' => e = .returned (.bool (x.nx || x.wt && decide (x.bf.pos.line < t.pos.line))) ∧ Below w.heap.size w w' := by
  have hb := h.blk.lt
  have hC := h.cell
  have HA := Lib.hid (h.alloc (.cells #[.int .i64 t.kind, .int .i64 t.int, .string t.str, .int .i64 t.pos.line, .int .i64 t.pos.col] 40))
  have HB := Lib.hid ((Below.refl w.heap.size w).alloc (Nat.le_refl _) (.cells #[.int .i64 t.kind, .int .i64 t.int, .string t.str, .int .i64 t.pos.line, .int .i64 t.pos.col] 40))
  clear h
  cases hnx : x.nx
  · cases hwt : x.wt
    · go_enter Tryd.func74, Tryd.ntmps74
      go_wp2
      go_ret
      exact ⟨ret_bool (by simp), HB.out⟩
    · go_enter Tryd.func74, Tryd.ntmps74
      go_wp2_with (first | (go_at_call 84; refine (starts_any b x vo vc vp t _ HA.out).mono ?_; rintro e w1 ⟨rfl, hb1⟩; have HB1 := Lib.hid hb1; clear hb1))
      go_ret
      exact ⟨ret_bool (by simp), HB.out.trans (HB1.out.mono (by simp))⟩
  · go_enter Tryd.func74, Tryd.ntmps74
    go_wp2
    go_ret
    exact ⟨ret_bool (by simp), HB.out⟩

theorem forget_any (b : Nat) (x : Ins) (vo vc vp : Value) (q : Pos) (w : World) (h : InsAt w b x vo vc vp) (hn : x.opn.length ≤ 1000000000) :
    Calls Tryd.prog 88 #[.pointer (some ⟨b, 0, none⟩), q.v] w fun e w' => e = .returned (.tuple #[]) ∧ Step w b vo vc vp { x with opn := keepOf x.opn q } w' := by
  have hb := h.blk.lt
  obtain ⟨A, cap, rfl, _, _⟩ := own_form h.opn
  have hA := h.alloc (.cells #[.int .i64 q.line, .int .i64 q.col] 29)
  have hC := h.cell
  have hne : (Value.slice A x.opn.length cap).ownBlock ≠ some w.heap.size := fun e => by have := own_lt h.opn e; omega
  have HA := Lib.hid hA
  have HQ := Lib.hid (Blk.new w 29 #[.int .i64 q.line, .int .i64 q.col])
  have HN := Lib.hid hne
  clear h hA hne
  go_enter Tryd.func88, Tryd.ntmps88
  go_wp2_with (first | (go_at_call 92; refine (delPos_any _ _ _ _ q _ HA.out.opn hn HQ.out HN.out).mono ?_; rintro e w1 ⟨v1, rfl, ho1, hO1, hv1⟩; obtain ⟨A1, cap1, rfl, _, _⟩ := own_form ho1; have hb1 := HA.out.blk.out hO1 (own_apart HA.out.opn HA.out.blk (by decide)); have hC1 := hb1.cell; have hf1 := hb1.frozen; have Ho1 := Lib.hid ho1; have HO1 := Lib.hid hO1; have HV1 := Lib.hid hv1; have HB1 := Lib.hid hb1; clear ho1 hO1 hv1 hb1))
  go_end0
  have h0 := HA.out
  have o1 := own_out h0.out HO1.out (fun g hg h1 => own_apart_own h0.opn h0.out (by decide) h1 hg)
  have o2 := own_out h0.cols HO1.out (fun g hg h1 => own_apart_own h0.opn h0.cols (by decide) h1 hg)
  have hI : InsAt (w1.setCell ⟨b, 9, none⟩ (.slice A1 (keepOf x.opn q).length cap1)) b { x with opn := keepOf x.opn q } vo vc (.slice A1 (keepOf x.opn q).length cap1) :=
    ⟨HB1.out.put 9 _, own_setCell o1 (own_apart o1 HB1.out (by decide)) _, own_setCell o2 (own_apart o2 HB1.out (by decide)) _, own_setCell Ho1.out (own_apart Ho1.out HB1.out (by decide)) _⟩
  refine ⟨rfl, Step.after (Below.new ((Below.refl _ _).alloc (Nat.le_refl _) _)) ⟨vo, vc, _, hI, (HO1.out.mono (fun k _ hk => .inr (.inr (.inr hk)))).setCell (p := ⟨b, 9, none⟩) (.inl (.inl rfl)) _, fun k hk => .inl ?_⟩⟩
  rcases hk with hk | hk | hk | hk
  · exact .inl hk
  · exact .inr (.inl hk)
  · exact .inr (.inr (.inl hk))
  · exact .inr (.inr (.inr (HV1.out ▸ hk)))


/-- the field's slice has been appended to, and is stored back -/
theorem pushOut {w W1 w2 : World} {b : Nat} {x : Ins} {vo vc vp v' : Value} {c : Tok} (h : InsAt w b x vo vc vp) (h0 : Outside (fun _ => False) w W1) (hg : W1.grownBy w2 vo.ownBlock)
    (ho : w2.ownsRow 0 40 5 v' (x.out.length + 1) (cellsOf Tok.cells x.out ++ c.cells)) (hat : vo.ownBlock = v'.ownBlock ∨ ∃ g, v'.ownBlock = some g ∧ W1.heap.size ≤ g) : Step w b vo vc vp { x with out := x.out ++ [c] } (w2.setCell ⟨b, 0, none⟩ v') := by
  have h1 := h.keep h0 (fun _ _ h => h)
  have hb2 := h1.blk.grown hg (Ne.symm (own_apart h1.out h1.blk (by decide)))
  have hO : Outside (fun k => vo.ownBlock = some k) W1 w2 := (Outside.refl _ _).grown hg (fun k hk => .inl hk)
  have oCols := own_out h1.cols hO (fun g hg h2 => own_apart_own h1.out h1.cols (by decide) h2 hg)
  have oOpn := own_out h1.opn hO (fun g hg h2 => own_apart_own h1.out h1.opn (by decide) h2 hg)
  refine ⟨v', vc, vp, ⟨hb2.put 0 _, own_setCell (by simpa [cellsOf] using ho) (own_apart ho hb2 (by decide)) _, own_setCell oCols (own_apart oCols hb2 (by decide)) _, own_setCell oOpn (own_apart oOpn hb2 (by decide)) _⟩, ?_, fun k hk => ?_⟩
  · exact ((h0.mono (fun _ _ h => h.elim)).trans (hO.mono (fun k _ hk => .inr (.inl hk)))).setCell (p := ⟨b, 0, none⟩) (.inl (.inl rfl)) _
  · rcases hk with hk | hk | hk | hk
    · exact .inl (.inl hk)
    · rcases hat with h2 | ⟨g, h2, h3⟩
      · rw [← h2] at hk
        exact .inl (.inr (.inl hk))
      · rw [h2] at hk
        cases hk
        exact .inr (Nat.le_trans h0.size h3)
    · exact .inl (.inr (.inr (.inl hk)))
    · exact .inl (.inr (.inr (.inr hk)))

/-- the field's slice has been appended to, and is stored back -/
theorem pushCols {w W1 w2 : World} {b : Nat} {x : Ins} {vo vc vp v' : Value} {c : Int} (h : InsAt w b x vo vc vp) (h0 : Outside (fun _ => False) w W1) (hg : W1.grownBy w2 vc.ownBlock)
    (ho : w2.ownsRow 0 3 1 v' (x.cols.length + 1) (cellsOf icell x.cols.reverse ++ icell c)) (hat : vc.ownBlock = v'.ownBlock ∨ ∃ g, v'.ownBlock = some g ∧ W1.heap.size ≤ g) : Step w b vo vc vp { x with cols := c :: x.cols } (w2.setCell ⟨b, 1, none⟩ v') := by
  have h1 := h.keep h0 (fun _ _ h => h)
  have hb2 := h1.blk.grown hg (Ne.symm (own_apart h1.cols h1.blk (by decide)))
  have hO : Outside (fun k => vc.ownBlock = some k) W1 w2 := (Outside.refl _ _).grown hg (fun k hk => .inl hk)
  have oOut := own_out h1.out hO (fun g hg h2 => own_apart_own h1.cols h1.out (by decide) h2 hg)
  have oOpn := own_out h1.opn hO (fun g hg h2 => own_apart_own h1.cols h1.opn (by decide) h2 hg)
  refine ⟨vo, v', vp, ⟨hb2.put 1 _, own_setCell oOut (own_apart oOut hb2 (by decide)) _, own_setCell (by simpa [cellsOf] using ho) (own_apart ho hb2 (by decide)) _, own_setCell oOpn (own_apart oOpn hb2 (by decide)) _⟩, ?_, fun k hk => ?_⟩
  · exact ((h0.mono (fun _ _ h => h.elim)).trans (hO.mono (fun k _ hk => .inr (.inr (.inl hk))))).setCell (p := ⟨b, 1, none⟩) (.inl (.inl rfl)) _
  · rcases hk with hk | hk | hk | hk
    · exact .inl (.inl hk)
    · exact .inl (.inr (.inl hk))
    · rcases hat with h2 | ⟨g, h2, h3⟩
      · rw [← h2] at hk
        exact .inl (.inr (.inr (.inl hk)))
      · rw [h2] at hk
        cases hk
        exact .inr (Nat.le_trans h0.size h3)
    · exact .inl (.inr (.inr (.inr hk)))

/-- the field's slice has been appended to, and is stored back -/
theorem pushOpn {w W1 w2 : World} {b : Nat} {x : Ins} {vo vc vp v' : Value} {c : Pos} (h : InsAt w b x vo vc vp) (h0 : Outside (fun _ => False) w W1) (hg : W1.grownBy w2 vp.ownBlock)
    (ho : w2.ownsRow 0 29 2 v' (x.opn.length + 1) (cellsOf Pos.cells x.opn ++ c.cells)) (hat : vp.ownBlock = v'.ownBlock ∨ ∃ g, v'.ownBlock = some g ∧ W1.heap.size ≤ g) : Step w b vo vc vp { x with opn := x.opn ++ [c] } (w2.setCell ⟨b, 9, none⟩ v') := by
  have h1 := h.keep h0 (fun _ _ h => h)
  have hb2 := h1.blk.grown hg (Ne.symm (own_apart h1.opn h1.blk (by decide)))
  have hO : Outside (fun k => vp.ownBlock = some k) W1 w2 := (Outside.refl _ _).grown hg (fun k hk => .inl hk)
  have oOut := own_out h1.out hO (fun g hg h2 => own_apart_own h1.opn h1.out (by decide) h2 hg)
  have oCols := own_out h1.cols hO (fun g hg h2 => own_apart_own h1.opn h1.cols (by decide) h2 hg)
  refine ⟨vo, vc, v', ⟨hb2.put 9 _, own_setCell oOut (own_apart oOut hb2 (by decide)) _, own_setCell oCols (own_apart oCols hb2 (by decide)) _, own_setCell (by simpa [cellsOf] using ho) (own_apart ho hb2 (by decide)) _⟩, ?_, fun k hk => ?_⟩
  · exact ((h0.mono (fun _ _ h => h.elim)).trans (hO.mono (fun k _ hk => .inr (.inr (.inr hk))))).setCell (p := ⟨b, 9, none⟩) (.inl (.inl rfl)) _
  · rcases hk with hk | hk | hk | hk
    · exact .inl (.inl hk)
    · exact .inl (.inr (.inl hk))
    · exact .inl (.inr (.inr (.inl hk)))
    · rcases hat with h2 | ⟨g, h2, h3⟩
      · rw [← h2] at hk
        exact .inl (.inr (.inr (.inr hk)))
      · rw [h2] at hk
        cases hk
        exact .inr (Nat.le_trans h0.size h3)

end Go.Proofs.YtgfhkaamkodpjaaDoor
