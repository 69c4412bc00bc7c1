/- walks: layout.Insert -/
import Derived.Test.YtgfhkaamkodpjaaDoorLay7
import Derived.Deep.LoopGhost
namespace Go.Proofs.YtgfhkaamkodpjaaDoor
open Go Go.RowKit
set_option maxHeartbeats 8000000
attribute [local irreducible] kwB syB clB

/-- In layout.Insert, called in world W: the inserter at b, the cell r of the result's place. -/
structure InFr (W : World) (b r : Nat) (wr : World) (x : Ins) (vo vc vp : Value) : Prop where
  ins : InsAt wr b x vo vc vp
  below : Below W.heap.size W wr
  lo : ∀ j, foot b vo vc vp j → W.heap.size ≤ j
  ret : Blk wr r 29 #[.int .i64 0, .int .i64 0]
  retf : ¬ foot b vo vc vp r

theorem InFr.step {W wr w' : World} {b r : Nat} {x x' : Ins} {vo vc vp : Value} (h : InFr W b r wr x vo vc vp) (hS : Step wr b vo vc vp x' w') : ∃ vo' vc' vp', InFr W b r w' x' vo' vc' vp' := by
  obtain ⟨vo', vc', vp', h1, h2, h3⟩ := hS
  have hsz := h.below.size
  refine ⟨vo', vc', vp', h1, h.below.trans (h2.below hsz (fun j hj hf => absurd (h.lo j hf) (by omega))), fun j hj => (h3 j hj).elim (h.lo j) (fun h => Nat.le_trans hsz h), h.ret.out h2 h.retf, fun hj => (h3 _ hj).elim h.retf (fun h4 => ?_)⟩
  have := h.ret.lt
  omega
theorem InFr.alloc {W wr : World} {b r : Nat} {x : Ins} {vo vc vp : Value} (h : InFr W b r wr x vo vc vp) (o : Obj) : InFr W b r (wr.alloc o) x vo vc vp :=
  ⟨h.ins.alloc o, h.below.alloc h.below.size o, h.lo, h.ret.alloc o, h.retf⟩
/-- k tokens have been processed -/
def InRel (W : World) (l : List Tok) (b r k : Nat) (wr : World) : Prop :=
  ∃ x vo vc vp, InFr W b r wr x vo vc vp ∧ foldS (l.drop k) x = foldS l startIns ∧ TokInv x k

theorem newIns (w : World) : InsAt (((w.alloc (.cells #[.int .i64 0, .int .i64 0] 29)).alloc (.cells #[.int .i64 1] 3)).alloc
      (.cells #[.slice none 0 0, .slice (some ⟨w.heap.size + 1, 0, none⟩) 1 1, .int .i64 0, .int .i64 0, .string ByteArray.empty, .int .i64 0, .int .i64 0, .bool false, .bool false, .slice none 0 0, .int .i64 0, .int .i64 0] 68))
    (w.heap.size + 1 + 1) ⟨[], [1], ⟨0, 0, ByteArray.empty, ⟨0, 0⟩⟩, false, false, [], ⟨0, 0⟩⟩ (.slice none 0 0) (.slice (some ⟨w.heap.size + 1, 0, none⟩) 1 1) (.slice none 0 0) := by
  have hB : Blk ((w.alloc (.cells #[.int .i64 0, .int .i64 0] 29)).alloc (.cells #[.int .i64 1] 3)) (w.heap.size + 1) 3 #[.int .i64 1] := by
    have := Blk.new (w.alloc (.cells #[.int .i64 0, .int .i64 0] 29)) 3 #[.int .i64 1]
    simpa using this
  refine ⟨?_, World.ownsRow_nil _ _ _ _, ⟨rfl, .inr ⟨w.heap.size + 1, 1, #[.int .i64 1], rfl, Nat.zero_le _, hB.alloc _, Nat.le_refl _, by unfold maxLen; omega, rfl, rfl⟩⟩, World.ownsRow_nil _ _ _ _⟩
  have := Blk.new ((w.alloc (.cells #[.int .i64 0, .int .i64 0] 29)).alloc (.cells #[.int .i64 1] 3)) 68 #[.slice none 0 0, .slice (some ⟨w.heap.size + 1, 0, none⟩) 1 1, .int .i64 0, .int .i64 0, .string ByteArray.empty, .int .i64 0, .int .i64 0, .bool false, .bool false, .slice none 0 0, .int .i64 0, .int .i64 0]
  simpa using this

theorem foldS_cons (t : Tok) (r : List Tok) (x : Ins) : foldS (t :: r) x = if (tokenS x t).2 = 0 then foldS r (tokenS x t).1 else ((tokenS x t).1, some (t.pos, (tokenS x t).2)) := rfl

theorem InFr.lo2 {W wr : World} {b r B : Nat} {x : Ins} {vo vc vp : Value} (h : InFr W b r wr x vo vc vp) (hB : B ≤ W.heap.size) : ∀ k, foot b vo vc vp k → B ≤ k := fun k hk => Nat.le_trans hB (h.lo k hk)

theorem linsert_any (B B1 : Nat) (A : Option Addr) (n c : Nat) (l : List Tok) (w : World) (hR : Rd w B1 5 A n (cellsOf Tok.cells l)) (hB1 : B1 ≤ w.heap.size) (hG : Glob B w)
    (hn : n ≤ 10000000) (hs : ∀ t ∈ l, t.str.size ≤ 1000000000000) :
    Calls Tryd.prog 19 #[.slice A n c] w fun e w' =>
      (∃ A' n', e = .returned (.tuple #[.slice A' n' n', (insS l).2.1.v, .int .i64 (insS l).2.2]) ∧ Rd w' w'.heap.size 5 A' n' (cellsOf Tok.cells (insS l).1) ∧ ∀ a, A' = some a → w.heap.size ≤ a.block) ∧ Below w.heap.size w w' := by
  go_enter Tryd.func19, Tryd.ntmps19
  go_wp2_with fail
  have hI := newIns w
  refine (insert_step _ ⟨[], [1], ⟨0, 0, ByteArray.empty, ⟨0, 0⟩⟩, false, false, [], ⟨0, 0⟩⟩ _ _ _ 5 ⟨1, 1⟩ _ hI (by decide)).mono ?_
  rintro e w1 ⟨rfl, hS⟩
  have hF0 : InFr w (w.heap.size + 1 + 1) w.heap.size _ _ _ _ _ := ⟨hI, (((Below.refl w.heap.size w).alloc (Nat.le_refl _) _).alloc (by simp) _).alloc (by simp; omega) _, ?_, ?_, ?_⟩
  rotate_left
  · intro j hj
    rcases hj with rfl | hj | hj | hj
    · omega
    · cases hj
    · simp [Value.ownBlock] at hj; omega
    · cases hj
  · exact ((Blk.new w _ _).alloc _).alloc _
  · intro hj
    rcases hj with hj | hj | hj | hj
    · omega
    · cases hj
    · simp [Value.ownBlock] at hj
    · cases hj
  obtain ⟨vo1, vc1, vp1, hF⟩ := hF0.step hS
  have hrel : InRel w l (w.heap.size + 1 + 1) w.heap.size 0 w1 := ⟨startIns, vo1, vc1, vp1, hF, rfl, TokInv.start⟩
  have HR := Lib.hid hR
  have HG := Lib.hid hG
  have HS := Lib.hid hs
  have hlen := hR.len Tok.cells_len (by decide)
  have HL := Lib.hid hlen
  clear hI hS hF0 hF hR hG hs hlen
  go_wp2_with fail
  go_loopw [7, 17] (fun _ i wr => ∃ k : Nat, k ≤ n ∧ i = .int .i64 k ∧ InRel w l (w.heap.size + 1 + 1) w.heap.size k wr) (fun _ i _ => n - (intOf i).toNat)
  case atStart => exact ⟨0, Nat.zero_le _, rfl, hrel⟩
  case round =>
    obtain ⟨k, hk, rfl, x, vo, vc, vp, hF, hfold, hinv⟩ := hrel
    by_cases hlt : k < n
    · obtain ⟨tb, off, t, rfl, htb, ht, hc0, hc1, hc2, hc3, hc4⟩ := (HR.out.keep (w' := wr) (fun p hp => hF.below.cell (by omega))).tok hlt
      have HT := Lib.hid ht
      have HF := Lib.hid hF
      have HFO := Lib.hid hfold
      have HI := Lib.hid hinv
      clear hF hfold hinv ht
      go_wp2_with fail
      have HFa := Lib.hid (HF.out.alloc (.cells #[.int .i64 t.kind, .int .i64 t.int, .string t.str, .int .i64 t.pos.line, .int .i64 t.pos.col] 40))
      have HNr := Lib.hid (Blk.new wr 40 #[.int .i64 t.kind, .int .i64 t.int, .string t.str, .int .i64 t.pos.line, .int .i64 t.pos.col])
      obtain ⟨e1, he1⟩ : ∃ e1, (tokenS x t).2 = e1 := ⟨_, rfl⟩
      have HE := Lib.hid he1
      clear he1 hc0 hc1 hc2 hc3 hc4
      refine (token_any B (w.heap.size + 1 + 1) x _ _ _ t _ HFa.out.ins (HG.out.below (HFa.out.below.mono HG.out.size)) (HFa.out.lo2 HG.out.size) (HS.out t (List.mem_of_getElem? HT.out)) (by have := HI.out.out; omega) HI.out.last HI.out.nest (by have := HI.out.opn; omega)).mono ?_
      rw [HE.out]
      rintro e w2 ⟨rfl, hS⟩
      obtain ⟨vo2, vc2, vp2, hF2⟩ := HFa.out.step hS
      have hb2 := HNr.out.out hS.choose_spec.choose_spec.choose_spec.2.1 (fun hf => by have := HF.out.ins.lt hf; omega)
      have HF2 := Lib.hid hF2
      have hT2 := hb2.cell
      have hN2 := hb2.lt
      clear hS hF2 hb2
      by_cases h0 : e1 = 0
      · have h0b : (e1 != 0) = false := by simpa using h0
        have H0 := Lib.hid h0
        clear h0
        go_wp2_with (first | ((with_reducible show wpPlan _ _ _ [] _ _ _); refine wpPlan_nil ?_) | ((with_reducible show wpPlan _ _ _ ((_, 0, _) :: _) _ _ _); first | (refine wpPlan_read0 rfl ?hw rfl (fun _ _ _ => ?_); case hw => ((conv => (lhs; whnf)); first | done | with_reducible rfl)) | (refine wpPlan_skip0 rfl ?hw ?_; case hw => ((conv => (lhs; whnf)); first | done | with_reducible rfl))) | ((with_reducible show wpPlan _ _ _ ((_, 1, _) :: _) _ _ _); first | (refine wpPlan_read1 rfl ?hw rfl (fun _ _ _ => ?_); case hw => ((conv => (lhs; whnf)); first | done | with_reducible rfl)) | (refine wpPlan_skip1 rfl ?hw ?_; case hw => ((conv => (lhs; whnf)); first | done | with_reducible rfl))) | ((with_reducible show wpPlan _ _ _ ((_, 2, _) :: _) _ _ _); first | (refine wpPlan_eff rfl ?hw (fun _ _ => ?_); case hw => ((conv => (lhs; whnf)); first | done | with_reducible rfl)) | (refine wpPlan_skip2 rfl ?hw ?_; case hw => ((conv => (lhs; whnf)); first | done | with_reducible rfl))) | ((with_reducible show wpPlan _ _ _ _ _ _ _); refine wpPlan_fork ?_ ?_) | ((with_reducible show Owed _ _ _ [] _ _ _ _ _); refine Owed.none_ ?_) | ((with_reducible show Owed _ _ _ _ [] _ _ _ _); refine Owed.nil_ ?_) | ((with_reducible show Owed _ _ _ _ _ _ _ _ _); first | (refine Owed.miss rfl ?_) | (refine Owed.hit ?_ ?_)) | ((with_reducible show Same _ _ _ _ _); intro _; go_simp; done) | (with_reducible exact True.intro) | ((with_reducible show Code.wp _ (Code.region 8 _ true) _ _ _); refine wp_region_plan [(0, 1, []), (1, 1, []), (2, 0, []), (3, 0, []), (4, 2, []), (5, 0, [])] (by kernel_rfl) (by kernel_rfl) (by kernel_rfl) ?_) | ((with_reducible show Code.wp _ (Code.region 11 _ true) _ _ _); refine wp_region_plan [(0, 0, []), (1, 1, []), (2, 1, []), (3, 1, []), (4, 1, []), (5, 1, []), (6, 0, []), (7, 2, []), (8, 0, [])] (by kernel_rfl) (by kernel_rfl) (by kernel_rfl) ?_))
        go_roundw
        case rel =>
          refine ⟨k + 1, by omega, by go_num, _, _, _, _, HF2.out, ?_, ?_⟩
          · have hd : l.drop k = t :: l.drop (k + 1) := by
              have := HT.out
              rw [List.drop_eq_getElem_cons (by have := HL.out; omega)]
              rw [List.getElem?_eq_getElem (by have := HL.out; omega)] at this
              injection this with this
              rw [this]
            have := HFO.out
            rw [hd, foldS_cons, if_pos (by rw [HE.out]; exact H0.out)] at this
            exact this
          · exact tokenS_inv t HI.out (by rw [HE.out]; exact H0.out)
        case measure => simp [intOf]; omega
      · have h0b : (e1 != 0) = true := by simpa using h0
        have H0 := Lib.hid h0
        clear h0
        have hr2 := HF2.out.ret.cell
        have hrf2 := HF2.out.ret.frozen
        have hrl2 := HF2.out.ret.lt
        go_wp2_with (first | ((with_reducible show wpPlan _ _ _ [] _ _ _); refine wpPlan_nil ?_) | ((with_reducible show wpPlan _ _ _ ((_, 0, _) :: _) _ _ _); first | (refine wpPlan_read0 rfl ?hw rfl (fun _ _ _ => ?_); case hw => ((conv => (lhs; whnf)); first | done | with_reducible rfl)) | (refine wpPlan_skip0 rfl ?hw ?_; case hw => ((conv => (lhs; whnf)); first | done | with_reducible rfl))) | ((with_reducible show wpPlan _ _ _ ((_, 1, _) :: _) _ _ _); first | (refine wpPlan_read1 rfl ?hw rfl (fun _ _ _ => ?_); case hw => ((conv => (lhs; whnf)); first | done | with_reducible rfl)) | (refine wpPlan_skip1 rfl ?hw ?_; case hw => ((conv => (lhs; whnf)); first | done | with_reducible rfl))) | ((with_reducible show wpPlan _ _ _ ((_, 2, _) :: _) _ _ _); first | (refine wpPlan_eff rfl ?hw (fun _ _ => ?_); case hw => ((conv => (lhs; whnf)); first | done | with_reducible rfl)) | (refine wpPlan_skip2 rfl ?hw ?_; case hw => ((conv => (lhs; whnf)); first | done | with_reducible rfl))) | ((with_reducible show wpPlan _ _ _ _ _ _ _); refine wpPlan_fork ?_ ?_) | ((with_reducible show Owed _ _ _ [] _ _ _ _ _); refine Owed.none_ ?_) | ((with_reducible show Owed _ _ _ _ [] _ _ _ _); refine Owed.nil_ ?_) | ((with_reducible show Owed _ _ _ _ _ _ _ _ _); first | (refine Owed.miss rfl ?_) | (refine Owed.hit ?_ ?_)) | ((with_reducible show Same _ _ _ _ _); intro _; go_simp; done) | (with_reducible exact True.intro) | ((with_reducible show Code.wp _ (Code.region 8 _ true) _ _ _); refine wp_region_plan [(0, 1, []), (1, 1, []), (2, 0, []), (3, 0, []), (4, 2, []), (5, 0, [])] (by kernel_rfl) (by kernel_rfl) (by kernel_rfl) ?_) | ((with_reducible show Code.wp _ (Code.region 11 _ true) _ _ _); refine wp_region_plan [(0, 0, []), (1, 1, []), (2, 1, []), (3, 1, []), (4, 1, []), (5, 1, []), (6, 0, []), (7, 2, []), (8, 0, [])] (by kernel_rfl) (by kernel_rfl) (by kernel_rfl) ?_))
        have hins : insS l = ([], t.pos, e1) := by
          have h1 := HFO.out
          have hd : l.drop k = t :: l.drop (k + 1) := by
            have := HT.out
            rw [List.drop_eq_getElem_cons (by have := HL.out; omega)]
            rw [List.getElem?_eq_getElem (by have := HL.out; omega)] at this
            injection this with this
            rw [this]
          rw [hd, foldS_cons, if_neg (by rw [HE.out]; exact H0.out), HE.out] at h1
          unfold insS
          rw [← h1]
        rw [hins]
        have hp0 := HF2.out.ret.put 0 (.int .i64 t.pos.line)
        have hp1 := hp0.put 1 (.int .i64 t.pos.col)
        have hq0 := hp0.cell 0
        have hq1 := hp1.cell 1
        simp at hq0 hq1
        refine bodyPost_ret (v := .tuple #[.slice none 0 0, t.pos.v, .int .i64 e1]) (by simp [results, Tryd.results19, go_sem, hq0, hq1]) rfl ⟨⟨none, 0, rfl, Rd.nil, fun _ h => by cases h⟩, ?_⟩
        exact ((HF2.out.below.setCell (p := ⟨w.heap.size, 0, none⟩) (Nat.le_refl _) _).setCell (p := ⟨w.heap.size, 1, none⟩) (Nat.le_refl _) _).drew
    · have hk' : k = n := by omega
      have hfo : foldS l startIns = (x, none) := by
        rw [← hfold, List.drop_of_length_le (by have := HL.out; omega)]
        rfl
      have HFO := Lib.hid hfo
      have HF := Lib.hid hF
      have HI := Lib.hid hinv
      obtain ⟨Ap, capp, rfl, _, _⟩ := own_form hF.ins.opn
      have hC := hF.ins.cell
      have hrl := hF.ret.lt
      have hr := hF.ret.cell
      have hrf := hF.ret.frozen
      have hop := hinv.opn
      clear hfold hfo hF hinv hk'
      by_cases hp0 : x.opn.length = 0
      · have hpb : decide ((0:Int) < (x.opn.length : Int)) = false := decide_eq_false (by omega)
        go_wp2_with (first | ((with_reducible show wpPlan _ _ _ [] _ _ _); refine wpPlan_nil ?_) | ((with_reducible show wpPlan _ _ _ ((_, 0, _) :: _) _ _ _); first | (refine wpPlan_read0 rfl ?hw rfl (fun _ _ _ => ?_); case hw => ((conv => (lhs; whnf)); first | done | with_reducible rfl)) | (refine wpPlan_skip0 rfl ?hw ?_; case hw => ((conv => (lhs; whnf)); first | done | with_reducible rfl))) | ((with_reducible show wpPlan _ _ _ ((_, 1, _) :: _) _ _ _); first | (refine wpPlan_read1 rfl ?hw rfl (fun _ _ _ => ?_); case hw => ((conv => (lhs; whnf)); first | done | with_reducible rfl)) | (refine wpPlan_skip1 rfl ?hw ?_; case hw => ((conv => (lhs; whnf)); first | done | with_reducible rfl))) | ((with_reducible show wpPlan _ _ _ ((_, 2, _) :: _) _ _ _); first | (refine wpPlan_eff rfl ?hw (fun _ _ => ?_); case hw => ((conv => (lhs; whnf)); first | done | with_reducible rfl)) | (refine wpPlan_skip2 rfl ?hw ?_; case hw => ((conv => (lhs; whnf)); first | done | with_reducible rfl))) | ((with_reducible show wpPlan _ _ _ _ _ _ _); refine wpPlan_fork ?_ ?_) | ((with_reducible show Owed _ _ _ [] _ _ _ _ _); refine Owed.none_ ?_) | ((with_reducible show Owed _ _ _ _ [] _ _ _ _); refine Owed.nil_ ?_) | ((with_reducible show Owed _ _ _ _ _ _ _ _ _); first | (refine Owed.miss rfl ?_) | (refine Owed.hit ?_ ?_)) | ((with_reducible show Same _ _ _ _ _); intro _; go_simp; done) | (with_reducible exact True.intro) | ((with_reducible show Code.wp _ (Code.region 8 _ true) _ _ _); refine wp_region_plan [(0, 1, []), (1, 1, []), (2, 0, []), (3, 0, []), (4, 2, []), (5, 0, [])] (by kernel_rfl) (by kernel_rfl) (by kernel_rfl) ?_) | ((with_reducible show Code.wp _ (Code.region 11 _ true) _ _ _); refine wp_region_plan [(0, 0, []), (1, 1, []), (2, 1, []), (3, 1, []), (4, 1, []), (5, 1, []), (6, 0, []), (7, 2, []), (8, 0, [])] (by kernel_rfl) (by kernel_rfl) (by kernel_rfl) ?_))
        clear hC hop hr hrf
        go_loopg [] x.cols.length (fun j wz => ∃ (y : Ins) (vo vc vp : Value), InFr w (w.heap.size + 1 + 1) w.heap.size wz y vo vc vp ∧ y.cols.length = j ∧ closeAll y.out y.cols.length = closeAll x.out x.cols.length ∧ y.out.length + y.cols.length = x.out.length + x.cols.length)
        case atStart => exact ⟨x, _, _, _, HF.out, rfl, rfl, rfl⟩
        case round =>
          obtain ⟨y, vo, vc, vp, hF, hj, hcl, hsum⟩ := hrel
          have hnest := HI.out.nest
          have hout := HI.out.out
          obtain ⟨Ac, capc, rfl, _, _⟩ := own_form hF.ins.cols
          obtain ⟨Ao, capo, rfl, hco, hcm⟩ := own_form hF.ins.out
          have hC := hF.ins.cell
          have hrl := hF.ret.lt
          have hr := hF.ret.cell
          have hrf := hF.ret.frozen
          have HF2 := Lib.hid hF
          have HJ := Lib.hid hj
          have HCL := Lib.hid hcl
          have HSU := Lib.hid hsum
          clear hF hj hcl hsum
          by_cases hc0 : 0 < y.cols.length
          · have hcb : decide ((0:Int) < (y.cols.length : Int)) = true := decide_eq_true (by omega)
            clear hr hrf
            go_wp2_with (first | ((with_reducible show wpPlan _ _ _ [] _ _ _); refine wpPlan_nil ?_) | ((with_reducible show wpPlan _ _ _ ((_, 0, _) :: _) _ _ _); first | (refine wpPlan_read0 rfl ?hw rfl (fun _ _ _ => ?_); case hw => ((conv => (lhs; whnf)); first | done | with_reducible rfl)) | (refine wpPlan_skip0 rfl ?hw ?_; case hw => ((conv => (lhs; whnf)); first | done | with_reducible rfl))) | ((with_reducible show wpPlan _ _ _ ((_, 1, _) :: _) _ _ _); first | (refine wpPlan_read1 rfl ?hw rfl (fun _ _ _ => ?_); case hw => ((conv => (lhs; whnf)); first | done | with_reducible rfl)) | (refine wpPlan_skip1 rfl ?hw ?_; case hw => ((conv => (lhs; whnf)); first | done | with_reducible rfl))) | ((with_reducible show wpPlan _ _ _ ((_, 2, _) :: _) _ _ _); first | (refine wpPlan_eff rfl ?hw (fun _ _ => ?_); case hw => ((conv => (lhs; whnf)); first | done | with_reducible rfl)) | (refine wpPlan_skip2 rfl ?hw ?_; case hw => ((conv => (lhs; whnf)); first | done | with_reducible rfl))) | ((with_reducible show wpPlan _ _ _ _ _ _ _); refine wpPlan_fork ?_ ?_) | ((with_reducible show Owed _ _ _ [] _ _ _ _ _); refine Owed.none_ ?_) | ((with_reducible show Owed _ _ _ _ [] _ _ _ _); refine Owed.nil_ ?_) | ((with_reducible show Owed _ _ _ _ _ _ _ _ _); first | (refine Owed.miss rfl ?_) | (refine Owed.hit ?_ ?_)) | ((with_reducible show Same _ _ _ _ _); intro _; go_simp; done) | (with_reducible exact True.intro) | ((with_reducible show Code.wp _ (Code.region 8 _ true) _ _ _); refine wp_region_plan [(0, 1, []), (1, 1, []), (2, 0, []), (3, 0, []), (4, 2, []), (5, 0, [])] (by kernel_rfl) (by kernel_rfl) (by kernel_rfl) ?_) | ((with_reducible show Code.wp _ (Code.region 11 _ true) _ _ _); refine wp_region_plan [(0, 0, []), (1, 1, []), (2, 1, []), (3, 1, []), (4, 1, []), (5, 1, []), (6, 0, []), (7, 2, []), (8, 0, [])] (by kernel_rfl) (by kernel_rfl) (by kernel_rfl) ?_))
            refine (closeBlock_any _ y _ _ _ ⟨0, 0⟩ _ HF2.out.ins (fun e => by rw [e] at hc0; cases hc0) (by have := HSU.out; omega) (by have := HSU.out; omega)).mono ?_
            rintro e w2 ⟨rfl, hS⟩
            obtain ⟨vo2, vc2, vp2, hF3⟩ := HF2.out.step hS
            have HF3 := Lib.hid hF3
            clear hS hF3
            go_wp2_with fail
            go_roundg (y.cols.length - 1)
            · refine ⟨_, _, _, _, HF3.out, by simp, ?_, ?_⟩
              · rw [← HCL.out]
                cases hy : y.cols with
                | nil => rw [hy] at hc0; cases hc0
                | cons a r => simp [closeAll, List.replicate_succ]
              · have := HSU.out
                simp
                omega
            · have := HJ.out; omega
          · have hcb : decide ((0:Int) < (y.cols.length : Int)) = false := decide_eq_false (by omega)
            go_wp2_with (first | ((with_reducible show wpPlan _ _ _ [] _ _ _); refine wpPlan_nil ?_) | ((with_reducible show wpPlan _ _ _ ((_, 0, _) :: _) _ _ _); first | (refine wpPlan_read0 rfl ?hw rfl (fun _ _ _ => ?_); case hw => ((conv => (lhs; whnf)); first | done | with_reducible rfl)) | (refine wpPlan_skip0 rfl ?hw ?_; case hw => ((conv => (lhs; whnf)); first | done | with_reducible rfl))) | ((with_reducible show wpPlan _ _ _ ((_, 1, _) :: _) _ _ _); first | (refine wpPlan_read1 rfl ?hw rfl (fun _ _ _ => ?_); case hw => ((conv => (lhs; whnf)); first | done | with_reducible rfl)) | (refine wpPlan_skip1 rfl ?hw ?_; case hw => ((conv => (lhs; whnf)); first | done | with_reducible rfl))) | ((with_reducible show wpPlan _ _ _ ((_, 2, _) :: _) _ _ _); first | (refine wpPlan_eff rfl ?hw (fun _ _ => ?_); case hw => ((conv => (lhs; whnf)); first | done | with_reducible rfl)) | (refine wpPlan_skip2 rfl ?hw ?_; case hw => ((conv => (lhs; whnf)); first | done | with_reducible rfl))) | ((with_reducible show wpPlan _ _ _ _ _ _ _); refine wpPlan_fork ?_ ?_) | ((with_reducible show Owed _ _ _ [] _ _ _ _ _); refine Owed.none_ ?_) | ((with_reducible show Owed _ _ _ _ [] _ _ _ _); refine Owed.nil_ ?_) | ((with_reducible show Owed _ _ _ _ _ _ _ _ _); first | (refine Owed.miss rfl ?_) | (refine Owed.hit ?_ ?_)) | ((with_reducible show Same _ _ _ _ _); intro _; go_simp; done) | (with_reducible exact True.intro) | ((with_reducible show Code.wp _ (Code.region 8 _ true) _ _ _); refine wp_region_plan [(0, 1, []), (1, 1, []), (2, 0, []), (3, 0, []), (4, 2, []), (5, 0, [])] (by kernel_rfl) (by kernel_rfl) (by kernel_rfl) ?_) | ((with_reducible show Code.wp _ (Code.region 11 _ true) _ _ _); refine wp_region_plan [(0, 0, []), (1, 1, []), (2, 1, []), (3, 1, []), (4, 1, []), (5, 1, []), (6, 0, []), (7, 2, []), (8, 0, [])] (by kernel_rfl) (by kernel_rfl) (by kernel_rfl) ?_) | (go_at_call 42; refine (clip_any _ _ _ _ hco hcm).mono ?_; rintro e w' ⟨rfl, rfl⟩))
            have hy0 : y.cols.length = 0 := by omega
            have hins : insS l = (y.out, ⟨0, 0⟩, 0) := by
              have ho : x.opn = [] := List.eq_nil_of_length_eq_zero hp0
              have hc := HCL.out
              unfold insS
              rw [HFO.out]
              dsimp only
              rw [ho]
              dsimp only
              rw [← hc, hy0]
              simp [closeAll]
            rw [hins]
            have hp0 := HF2.out.ret.put 0 (.int .i64 0)
            have hp1 := hp0.put 1 (.int .i64 0)
            have hq0 := hp0.cell 0
            have hq1 := hp1.cell 1
            simp at hq0 hq1
            have hne : (Value.slice Ao y.out.length capo).ownBlock ≠ some w.heap.size := fun e => HF2.out.retf (.inr (.inl e))
            have hown := own_setCell (p := ⟨w.heap.size, 1, none⟩) (own_setCell (p := ⟨w.heap.size, 0, none⟩) HF2.out.ins.out hne (.int .i64 0)) hne (.int .i64 0)
            have hrd := Rd.ofOwn hown
            refine bodyPost_ret (v := .tuple #[.slice Ao y.out.length y.out.length, .agg #[.int .i64 0, .int .i64 0], .int .i64 0]) (by simp [results, Tryd.results19, go_sem, hq0, hq1]) rfl ⟨⟨Ao, y.out.length, rfl, hrd, fun a ha => HF2.out.lo a.block (.inr (.inl (by rw [ha]; rfl)))⟩, ?_⟩
            exact ((HF2.out.below.setCell (p := ⟨w.heap.size, 0, none⟩) (Nat.le_refl _) _).setCell (p := ⟨w.heap.size, 1, none⟩) (Nat.le_refl _) _)
      · have hpb : decide ((0:Int) < (x.opn.length : Int)) = true := decide_eq_true (by omega)
        obtain ⟨q, rq, hq⟩ := List.exists_cons_of_ne_nil (l := x.opn) (fun e => hp0 (by rw [e]; rfl))
        have hl0 : 0 < x.opn.length := by omega
        obtain ⟨g, capg, hgv, _, hg⟩ := HF.out.ins.opn.form hl0
        have hAp : Ap = some ⟨g, 0, none⟩ := by injection hgv
        subst hAp
        have hq0 := HF.out.ins.opn.cellAt 0 (by omega)
        have hq1 := HF.out.ins.opn.cellAt 1 (by omega)
        rw [hq] at hq0 hq1
        simp only [cellsOf, List.flatMap_cons, Pos.cells, List.cons_append, List.getElem?_cons_zero, List.getElem?_cons_succ] at hq0 hq1
        have HQ := Lib.hid hq
        clear hp0 hq hgv
        go_wp2_with (first | ((with_reducible show wpPlan _ _ _ [] _ _ _); refine wpPlan_nil ?_) | ((with_reducible show wpPlan _ _ _ ((_, 0, _) :: _) _ _ _); first | (refine wpPlan_read0 rfl ?hw rfl (fun _ _ _ => ?_); case hw => ((conv => (lhs; whnf)); first | done | with_reducible rfl)) | (refine wpPlan_skip0 rfl ?hw ?_; case hw => ((conv => (lhs; whnf)); first | done | with_reducible rfl))) | ((with_reducible show wpPlan _ _ _ ((_, 1, _) :: _) _ _ _); first | (refine wpPlan_read1 rfl ?hw rfl (fun _ _ _ => ?_); case hw => ((conv => (lhs; whnf)); first | done | with_reducible rfl)) | (refine wpPlan_skip1 rfl ?hw ?_; case hw => ((conv => (lhs; whnf)); first | done | with_reducible rfl))) | ((with_reducible show wpPlan _ _ _ ((_, 2, _) :: _) _ _ _); first | (refine wpPlan_eff rfl ?hw (fun _ _ => ?_); case hw => ((conv => (lhs; whnf)); first | done | with_reducible rfl)) | (refine wpPlan_skip2 rfl ?hw ?_; case hw => ((conv => (lhs; whnf)); first | done | with_reducible rfl))) | ((with_reducible show wpPlan _ _ _ _ _ _ _); refine wpPlan_fork ?_ ?_) | ((with_reducible show Owed _ _ _ [] _ _ _ _ _); refine Owed.none_ ?_) | ((with_reducible show Owed _ _ _ _ [] _ _ _ _); refine Owed.nil_ ?_) | ((with_reducible show Owed _ _ _ _ _ _ _ _ _); first | (refine Owed.miss rfl ?_) | (refine Owed.hit ?_ ?_)) | ((with_reducible show Same _ _ _ _ _); intro _; go_simp; done) | (with_reducible exact True.intro) | ((with_reducible show Code.wp _ (Code.region 8 _ true) _ _ _); refine wp_region_plan [(0, 1, []), (1, 1, []), (2, 0, []), (3, 0, []), (4, 2, []), (5, 0, [])] (by kernel_rfl) (by kernel_rfl) (by kernel_rfl) ?_) | ((with_reducible show Code.wp _ (Code.region 11 _ true) _ _ _); refine wp_region_plan [(0, 0, []), (1, 1, []), (2, 1, []), (3, 1, []), (4, 1, []), (5, 1, []), (6, 0, []), (7, 2, []), (8, 0, [])] (by kernel_rfl) (by kernel_rfl) (by kernel_rfl) ?_))
        have hins : insS l = ([], q, 3) := by
          unfold insS
          rw [HFO.out]
          dsimp only
          rw [HQ.out]
        rw [hins]
        have hp0 := HF.out.ret.put 0 (.int .i64 q.line)
        have hp1 := hp0.put 1 (.int .i64 q.col)
        have hq0 := hp0.cell 0
        have hq1 := hp1.cell 1
        simp at hq0 hq1
        refine bodyPost_ret (v := .tuple #[.slice none 0 0, q.v, .int .i64 3]) (by simp [results, Tryd.results19, go_sem, hq0, hq1]) rfl ⟨⟨none, 0, rfl, Rd.nil, fun _ h => by cases h⟩, ?_⟩
        exact ((HF.out.below.setCell (p := ⟨w.heap.size, 0, none⟩) (Nat.le_refl _) _).setCell (p := ⟨w.heap.size, 1, none⟩) (Nat.le_refl _) _).drew

end Go.Proofs.YtgfhkaamkodpjaaDoor
