/- walks: a token that begins no block; the token behind the one before it -/
import Derived.Test.YtgfhkaamkodpjaaDoorLay3
import Derived.Test.YtgfhkaamkodpjaaDoorPlan2
import Derived.Deep.LoopGhost
namespace Go.Proofs.YtgfhkaamkodpjaaDoor
open Go Go.RowKit
set_option maxHeartbeats 20000000
attribute [local irreducible] kwB syB clB

/-- while the column is less than the innermost block's, that block is closed -/
def closeLoop (p : Pos) : List Tok → List Int → List Tok × List Int
  | out, [] => (out, [])
  | out, c :: r => if p.col < c then closeLoop p (out ++ [closeTok p]) r else (out, c :: r)

def placeB (t : Tok) (x : Ins) (cl : Bool) (a : List Tok × List Int) : List Tok × List Int :=
  if cl && decide (a.2.length = x.cols.length) && decide (1 < a.2.length) then (a.1 ++ [closeTok t.pos], a.2.tail) else a
def placeC (t : Tok) (st cl : Bool) (a : List Tok × List Int) : List Tok :=
  if st && !cl && decide (t.pos.col = a.2.headD 0) then a.1 ++ [⟨6, 0, ByteArray.empty, t.pos⟩] else a.1
def placeA (t : Tok) (x : Ins) (st : Bool) : List Tok × List Int := if st then closeLoop t.pos x.out x.cols else (x.out, x.cols)
def placeS (x : Ins) (t : Tok) : Ins :=
  { x with out := placeC t (decide (x.bf.pos.line < t.pos.line)) (isClose t) (placeB t x (isClose t) (placeA t x (decide (x.bf.pos.line < t.pos.line))))
           cols := (placeB t x (isClose t) (placeA t x (decide (x.bf.pos.line < t.pos.line)))).2 }

theorem placeC_one {t : Tok} {o : List Tok} {cs : List Int} (h : t.pos.col = cs.headD 0) : placeC t true false (o, cs) = o ++ [⟨6, 0, ByteArray.empty, t.pos⟩] := by
  simp only [placeC, h, decide_true, Bool.not_false, Bool.and_self, if_true]
theorem placeC_none {t : Tok} {st cl : Bool} {o : List Tok} {cs : List Int} (h : ¬ (st = true ∧ t.pos.col = cs.headD 0) ∨ cl = true) : placeC t st cl (o, cs) = o := by
  unfold placeC
  rw [if_neg]
  intro hh
  simp only [Bool.and_eq_true, Bool.not_eq_true', decide_eq_true_eq] at hh
  rcases h with h | h
  · exact h ⟨hh.1.1, hh.2⟩
  · rw [h] at hh; cases hh.1.2
theorem closeLoop_len (p : Pos) : ∀ (o : List Tok) (c : List Int), (closeLoop p o c).2.length ≤ c.length ∧ (closeLoop p o c).1.length ≤ o.length + c.length
  | o, [] => by simp [closeLoop]
  | o, c :: r => by
    rw [closeLoop]
    split
    · have := closeLoop_len p (o ++ [closeTok p]) r
      simp at this ⊢
      omega
    · simp
theorem closeLoop_last (p : Pos) (hp : 1 ≤ p.col) : ∀ (o : List Tok) (c : List Int), c.getLast? = some 1 → (closeLoop p o c).2.getLast? = some 1
  | o, [], h => by simp at h
  | o, c :: r, h => by
    rw [closeLoop]
    split
    · rename_i hlt
      refine closeLoop_last p hp _ r ?_
      cases r with
      | nil => simp at h; omega
      | cons d r => simpa using h
    · exact h

/-- the loop's relation: k blocks are left; some have been closed -/
def PlRel (B : Nat) (W : World) (vo vc vp : Value) (b N : Nat) (t : Tok) (x : Ins) (st : Bool) (a : List Tok × List Int) (k : Nat) (rm : Value) (wr : World) : Prop :=
  ∃ (o : List Tok) (cs : List Int) (vo' vc' vp' : Value), Loc B W vo vc vp b N t wr { x with out := o, cols := cs } vo' vc' vp' ∧ rm = .bool (decide (cs.length < x.cols.length)) ∧
    cs.getLast? = some 1 ∧ placeA t { x with out := o, cols := cs } st = a ∧ cs.length = k ∧ cs.length ≤ x.cols.length ∧ o.length + cs.length ≤ x.out.length + x.cols.length
theorem PlRel.start {B : Nat} {W w : World} {vo vc vp vo' vc' vp' : Value} {b N : Nat} {t : Tok} {x : Ins} {st : Bool} {a : List Tok × List Int} (h : Loc B W vo vc vp b N t w x vo' vc' vp') (hc : x.cols.getLast? = some 1) (ha : placeA t x st = a) :
    PlRel B W vo vc vp b N t x st a x.cols.length (.bool false) w := ⟨x.out, x.cols, vo', vc', vp', h, by simp, hc, ha, rfl, Nat.le_refl _, Nat.le_refl _⟩

theorem place_any (B b : Nat) (x : Ins) (vo vc vp : Value) (t : Tok) (w : World) (h : InsAt w b x vo vc vp) (hG : Glob B w) (hB : ∀ k, foot b vo vc vp k → B ≤ k)
    (ho : x.out.length ≤ 900000000) (hc : x.cols.getLast? = some 1) (hcn : x.cols.length ≤ 100) (ht : 1 ≤ t.pos.col) :
    Calls Tryd.prog 76 #[.pointer (some ⟨b, 0, none⟩), t.v] w fun e w' => e = .returned (.tuple #[]) ∧ Step w b vo vc vp (placeS x t) w' := by
  obtain ⟨st, hst⟩ : ∃ st, decide (x.bf.pos.line < t.pos.line) = st := ⟨_, rfl⟩
  obtain ⟨cl, hcls⟩ : ∃ cl, isClose t = cl := ⟨_, rfl⟩
  obtain ⟨a, ha⟩ : ∃ a, placeA t x st = a := ⟨_, rfl⟩
  have HS : Hid (placeS x t = { x with out := placeC t st cl (placeB t x cl a), cols := (placeB t x cl a).2 }) := by show placeS x t = _; unfold placeS; rw [hst, hcls, ha]
  have HST := Lib.hid hst
  have HCL := Lib.hid hcls
  have HAA := Lib.hid ha
  clear hst hcls ha
  have L0 := Lib.hid (Loc.start (t := t) h hG hB).drew
  have hne : x.cols ≠ [] := by rintro e; rw [e] at hc; cases hc
  have HC := Lib.hid hc
  have HN := Lib.hid hne
  obtain ⟨_, A, c, hcl, hR⟩ := L0.out.glob.cl
  have HR := Lib.hid hR
  have hT0 := L0.out.cells
  have hNb := L0.out.box.lt
  clear h hG hB hc hne hR
  go_enter Tryd.func76, Tryd.ntmps76
  go_wp2
  refine wp_region_plan [(0, 0, []), (1, 1, []), (3, 1, []), (4, 1, []), (2, 2, [3, 4]), (5, 2, []), (6, 0, []), (7, 0, []), (8, 0, [])] (by kernel_rfl) (by kernel_rfl) (by kernel_rfl) ?_
  go_wp2_with (first | ((with_reducible show wpPlan _ _ _ [] _ _ _); refine wpPlan_nil ?_) | ((with_reducible show wpPlan _ _ _ ((_, 0, _) :: _) _ _ _); first | (refine wpPlan_read0 rfl ?hw rfl (fun _ _ _ => ?_); case hw => ((conv => (lhs; whnf)); first | done | with_reducible rfl)) | (refine wpPlan_skip0 rfl ?hw ?_; case hw => ((conv => (lhs; whnf)); first | done | with_reducible rfl))) | ((with_reducible show wpPlan _ _ _ ((_, 1, _) :: _) _ _ _); first | (refine wpPlan_read1 rfl ?hw rfl (fun _ _ _ => ?_); case hw => ((conv => (lhs; whnf)); first | done | with_reducible rfl)) | (refine wpPlan_skip1 rfl ?hw ?_; case hw => ((conv => (lhs; whnf)); first | done | with_reducible rfl))) | ((with_reducible show wpPlan _ _ _ ((_, 2, _) :: _) _ _ _); first | (refine wpPlan_eff rfl ?hw (fun _ _ => ?_); case hw => ((conv => (lhs; whnf)); first | done | with_reducible rfl)) | (refine wpPlan_skip2 rfl ?hw ?_; case hw => ((conv => (lhs; whnf)); first | done | with_reducible rfl))) | ((with_reducible show wpPlan _ _ _ _ _ _ _); refine wpPlan_fork ?_ ?_) | ((with_reducible show Owed _ _ _ [] _ _ _ _ _); refine Owed.none_ ?_) | ((with_reducible show Owed _ _ _ _ [] _ _ _ _); refine Owed.nil_ ?_) | ((with_reducible show Owed _ _ _ _ _ _ _ _ _); first | (refine Owed.miss rfl ?_) | (refine Owed.hit ?_ ?_)) | ((with_reducible show Same _ _ _ _ _); intro _; go_simp; done) | (with_reducible exact True.intro))
  refine (starts_any b x vo vc vp t _ L0.out.ins).mono ?_
  rw [HST.out]
  rintro e w1 ⟨rfl, hb1⟩
  have L1 := Lib.hid (L0.out.below hb1)
  have hT1 := L1.out.cells
  have hgl : 2 < B := L0.out.glob.cl.1
  have hcl1 : w1.cell? ⟨2, 0, none⟩ = some (.slice A clB.length c) := (hb1.cell (p := ⟨2, 0, none⟩) (by have := L0.out.glob.size; dsimp only; omega)).trans hcl
  have HR1 := Lib.hid (HR.out.below (hb1.mono L0.out.glob.size))
  clear hb1
  go_wp2_with (first | ((with_reducible show wpPlan _ _ _ [] _ _ _); refine wpPlan_nil ?_) | ((with_reducible show wpPlan _ _ _ ((_, 0, _) :: _) _ _ _); first | (refine wpPlan_read0 rfl ?hw rfl (fun _ _ _ => ?_); case hw => ((conv => (lhs; whnf)); first | done | with_reducible rfl)) | (refine wpPlan_skip0 rfl ?hw ?_; case hw => ((conv => (lhs; whnf)); first | done | with_reducible rfl))) | ((with_reducible show wpPlan _ _ _ ((_, 1, _) :: _) _ _ _); first | (refine wpPlan_read1 rfl ?hw rfl (fun _ _ _ => ?_); case hw => ((conv => (lhs; whnf)); first | done | with_reducible rfl)) | (refine wpPlan_skip1 rfl ?hw ?_; case hw => ((conv => (lhs; whnf)); first | done | with_reducible rfl))) | ((with_reducible show wpPlan _ _ _ ((_, 2, _) :: _) _ _ _); first | (refine wpPlan_eff rfl ?hw (fun _ _ => ?_); case hw => ((conv => (lhs; whnf)); first | done | with_reducible rfl)) | (refine wpPlan_skip2 rfl ?hw ?_; case hw => ((conv => (lhs; whnf)); first | done | with_reducible rfl))) | ((with_reducible show wpPlan _ _ _ _ _ _ _); refine wpPlan_fork ?_ ?_) | ((with_reducible show Owed _ _ _ [] _ _ _ _ _); refine Owed.none_ ?_) | ((with_reducible show Owed _ _ _ _ [] _ _ _ _); refine Owed.nil_ ?_) | ((with_reducible show Owed _ _ _ _ _ _ _ _ _); first | (refine Owed.miss rfl ?_) | (refine Owed.hit ?_ ?_)) | ((with_reducible show Same _ _ _ _ _); intro _; go_simp; done) | (with_reducible exact True.intro))
  refine (closers_any B t _ L1.out.glob A c HR1.out).mono ?_
  rw [HCL.out]
  rintro e w2 ⟨rfl, hb2⟩
  have L2 := Lib.hid (L1.out.below hb2)
  have hT2 := L2.out.cells
  clear hb2 hT1 hT0 hcl hcl1 hgl
  go_wp2_with (first | ((with_reducible show wpPlan _ _ _ [] _ _ _); refine wpPlan_nil ?_) | ((with_reducible show wpPlan _ _ _ ((_, 0, _) :: _) _ _ _); first | (refine wpPlan_read0 rfl ?hw rfl (fun _ _ _ => ?_); case hw => ((conv => (lhs; whnf)); first | done | with_reducible rfl)) | (refine wpPlan_skip0 rfl ?hw ?_; case hw => ((conv => (lhs; whnf)); first | done | with_reducible rfl))) | ((with_reducible show wpPlan _ _ _ ((_, 1, _) :: _) _ _ _); first | (refine wpPlan_read1 rfl ?hw rfl (fun _ _ _ => ?_); case hw => ((conv => (lhs; whnf)); first | done | with_reducible rfl)) | (refine wpPlan_skip1 rfl ?hw ?_; case hw => ((conv => (lhs; whnf)); first | done | with_reducible rfl))) | ((with_reducible show wpPlan _ _ _ ((_, 2, _) :: _) _ _ _); first | (refine wpPlan_eff rfl ?hw (fun _ _ => ?_); case hw => ((conv => (lhs; whnf)); first | done | with_reducible rfl)) | (refine wpPlan_skip2 rfl ?hw ?_; case hw => ((conv => (lhs; whnf)); first | done | with_reducible rfl))) | ((with_reducible show wpPlan _ _ _ _ _ _ _); refine wpPlan_fork ?_ ?_) | ((with_reducible show Owed _ _ _ [] _ _ _ _ _); refine Owed.none_ ?_) | ((with_reducible show Owed _ _ _ _ [] _ _ _ _); refine Owed.nil_ ?_) | ((with_reducible show Owed _ _ _ _ _ _ _ _ _); first | (refine Owed.miss rfl ?_) | (refine Owed.hit ?_ ?_)) | ((with_reducible show Same _ _ _ _ _); intro _; go_simp; done) | (with_reducible exact True.intro))
  clear hT2
  go_loopg [5] x.cols.length (fun k rm wr => PlRel B w vo vc vp b w.heap.size t x st a k rm wr)
  case atStart => exact PlRel.start L2.out HC.out HAA.out
  case round =>
    obtain ⟨o, cs, vo', vc', vp', hL, rfl, hcs, hA, hK, hlen, hol⟩ := hrel
    have HL := Lib.hid hL
    have HCS := Lib.hid hcs
    have HA := Lib.hid hA
    have HK := Lib.hid hK
    obtain ⟨rm, hrm⟩ : ∃ rm, decide (cs.length < x.cols.length) = rm := ⟨_, rfl⟩
    rw [hrm]
    have HRM := Lib.hid hrm
    have hne : cs ≠ [] := by rintro e; rw [e] at hcs; cases hcs
    obtain ⟨c0, hc0⟩ : ∃ c0, cs.headD 0 = c0 := ⟨_, rfl⟩
    have HC0 := Lib.hid hc0
    have HNE := Lib.hid hne
    have hT := HL.out.cells
    have hNr := HL.out.box.lt
    have hbr := HL.out.ins.blk.lt
    have hC := HL.out.ins.cell
    have hf := HL.out.ins.free
    obtain ⟨g, cap, rfl, _, hg⟩ := hL.ins.cols.form (List.length_pos_iff.2 hne)
    have hcl1 : (cs.length : Int) ≤ 100 := by omega
    have hcl0 : (0 : Int) < (cs.length : Int) := by have := List.length_pos_iff.2 hne; omega
    clear hc0 hne hrm hL hcs hA hK
    have HLEN := Lib.hid hlen
    have HOL := Lib.hid hol
    clear hlen hol
    by_cases hgo : st = true ∧ t.pos.col < c0
    · obtain ⟨rfl, hlt⟩ := hgo
      have hltb : decide (t.pos.col < c0) = true := by simpa using hlt
      have H1 : Hid (1 < cs.length) := by
        refine Lib.hid ?_
        have hc := HCS.out
        have h0 := HC0.out
        cases hcs2 : cs with
        | nil => rw [hcs2] at hc; cases hc
        | cons d r =>
          cases r with
          | nil => rw [hcs2] at hc h0; simp at hc h0; omega
          | cons _ _ => simp
      clear hlt
      go_wp2_with (first | ((with_reducible show wpPlan _ _ _ _ _ (Act.put _ _ _) _); simp only [List.getElem_toArray, List.getElem_cons_succ, List.getElem_cons_zero, Act.put, List.setIfInBounds_toArray, List.set_cons_zero, List.set_cons_succ]) | ((with_reducible show wpPlan _ _ _ _ _ _ _); first | refine wpPlan_nil ?_ | (refine wpPlan_read0 rfl ?hw rfl (fun _ _ _ => ?_); case hw => ((conv => (lhs; whnf)); first | done | with_reducible rfl)) | (refine wpPlan_read1d rfl ?hw rfl rfl (fun _ _ _ => ?_); case hw => ((conv => (lhs; whnf)); first | done | with_reducible rfl)) | (refine wpPlan_eff rfl ?hw (fun _ _ => ?_); case hw => ((conv => (lhs; whnf)); first | done | with_reducible rfl)) | (refine wpPlan_skip0 rfl ?hw ?_; case hw => ((conv => (lhs; whnf)); first | done | with_reducible rfl)) | (refine wpPlan_skip1d rfl ?hw ?_; case hw => ((conv => (lhs; whnf)); first | done | with_reducible rfl)) | (refine wpPlan_skip2 rfl ?hw ?_; case hw => ((conv => (lhs; whnf)); first | done | with_reducible rfl)) | (refine wpPlan_read1 rfl ?hw rfl (fun _ _ _ => ?_); case hw => ((conv => (lhs; whnf)); first | done | with_reducible rfl)) | refine wpPlan_fork ?_ ?_) | ((with_reducible show Owed _ _ _ _ _ _ _ _ _); first | refine Owed.none_ ?_ | refine Owed.nil_ ?_ | refine Owed.miss rfl ?_ | refine Owed.hit ?_ ?_) | ((with_reducible show Same _ _ _ _ _); intro _; go_simp; done) | (with_reducible exact True.intro) | ((with_reducible show Code.wp _ (Code.region 1 _ true) _ _ _); refine wp_region_plan [(0, 0, []), (1, 1, []), (3, 1, []), (4, 1, []), (2, 2, [3, 4]), (5, 2, []), (6, 0, []), (7, 0, []), (8, 0, [])] (by kernel_rfl) (by kernel_rfl) (by kernel_rfl) ?_) | ((with_reducible show Code.wp _ (Code.region 2 _ true) _ _ _); refine wp_region_plan [(0, 0, []), (1, 0, []), (2, 1, []), (3, 1, []), (4, 1, []), (5, 0, []), (6, 2, [2, 3, 4]), (7, 1, []), (8, 0, [])] (by kernel_rfl) (by kernel_rfl) (by kernel_rfl) ?_) | ((with_reducible show Code.wp _ (Code.region 7 _ true) _ _ _); refine wp_region_plan [(0, 0, []), (1, 0, []), (2, 0, []), (3, 1, []), (4, 0, []), (5, 0, []), (6, 1, []), (7, 1, []), (8, 1, []), (9, 0, []), (10, 2, [6, 7, 8]), (11, 1, []), (12, 0, [])] (by kernel_rfl) (by kernel_rfl) (by kernel_rfl) ?_) | (go_at_call 87; refine (innermost_any b _ vo' _ vp' _ (by first | exact HL.out.drew.ins | exact HL.out.drew.drew.drew.ins) HNE.out (by have := HLEN.out; dsimp only; omega)).mono ?_; rw [HC0.out]; rintro e w3 ⟨rfl, rfl⟩))
      refine (closeBlock_any b _ vo' _ vp' t.pos _ HL.out.drew.drew.ins HNE.out (by have := HOL.out; dsimp only; omega) (by have := HLEN.out; dsimp only; omega)).mono ?_
      rintro e w4 ⟨rfl, hS⟩
      obtain ⟨vo4, vc4, vp4, hL4⟩ := HL.out.drew.drew.step hS
      have L4 := Lib.hid hL4
      clear hS hL4
      go_wp2
      go_roundg (cs.length - 1)
      · refine ⟨o ++ [closeTok t.pos], cs.tail, vo4, vc4, vp4, L4.out, ?_, ?_, ?_, by simp, ?_, ?_⟩
        · have := H1.out; have := HLEN.out; simp; omega
        · have hc := HCS.out
          have h1 := H1.out
          cases hcs2 : cs with
          | nil => rw [hcs2] at hc; cases hc
          | cons d r =>
            cases r with
            | nil => rw [hcs2] at h1; simp at h1
            | cons _ _ => rw [hcs2] at hc; simpa using hc
        · have hA := HA.out
          have h0 := HC0.out
          rw [← hA]
          cases hcs2 : cs with
          | nil => exact absurd hcs2 HNE.out
          | cons d r =>
            rw [hcs2] at h0
            simp at h0
            have hlt : t.pos.col < d := by rw [h0]; simpa using hltb
            simp [placeA, closeLoop, hlt]
        · have := HLEN.out; simp; omega
        · have := HOL.out; have := H1.out; simp; omega
      · have := H1.out; have := HK.out; omega
    have hOC : (o, cs) = a := by
      have hA := HA.out
      have h0 := HC0.out
      rw [← hA]
      cases st
      · rfl
      · cases hcs2 : cs with
        | nil => simp [placeA, closeLoop]
        | cons d r =>
          rw [hcs2] at h0
          simp at h0
          have hlt : ¬ t.pos.col < d := by rw [h0]; intro hh; exact hgo ⟨rfl, hh⟩
          simp [placeA, closeLoop, hlt]
    have HOC := Lib.hid hOC
    have HGO := Lib.hid hgo
    clear hOC hgo
    by_cases hq : cl = true ∧ rm = false ∧ 1 < cs.length
    · obtain ⟨rfl, rfl, h1⟩ := hq
      have h1b : decide ((1:Int) < (cs.length : Int)) = true := by simp; omega
      have HF : Hid (placeS x t = { x with out := o ++ [closeTok t.pos], cols := cs.tail }) := by
        refine Lib.hid ?_
        have hrm := HRM.out
        have := HLEN.out
        have hl : cs.length = x.cols.length := by simp at hrm; omega
        rw [HS.out, ← HOC.out]
        simp [placeB, placeC, hl, hl ▸ h1]
      clear h1
      have H1 : Hid (cs ≠ []) := Lib.hid HNE.out
      cases st
      · go_wp2_with (first | ((with_reducible show wpPlan _ _ _ _ _ (Act.put _ _ _) _); simp only [List.getElem_toArray, List.getElem_cons_succ, List.getElem_cons_zero, Act.put, List.setIfInBounds_toArray, List.set_cons_zero, List.set_cons_succ]) | ((with_reducible show wpPlan _ _ _ _ _ _ _); first | refine wpPlan_nil ?_ | (refine wpPlan_read0 rfl ?hw rfl (fun _ _ _ => ?_); case hw => ((conv => (lhs; whnf)); first | done | with_reducible rfl)) | (refine wpPlan_read1d rfl ?hw rfl rfl (fun _ _ _ => ?_); case hw => ((conv => (lhs; whnf)); first | done | with_reducible rfl)) | (refine wpPlan_eff rfl ?hw (fun _ _ => ?_); case hw => ((conv => (lhs; whnf)); first | done | with_reducible rfl)) | (refine wpPlan_skip0 rfl ?hw ?_; case hw => ((conv => (lhs; whnf)); first | done | with_reducible rfl)) | (refine wpPlan_skip1d rfl ?hw ?_; case hw => ((conv => (lhs; whnf)); first | done | with_reducible rfl)) | (refine wpPlan_skip2 rfl ?hw ?_; case hw => ((conv => (lhs; whnf)); first | done | with_reducible rfl)) | (refine wpPlan_read1 rfl ?hw rfl (fun _ _ _ => ?_); case hw => ((conv => (lhs; whnf)); first | done | with_reducible rfl)) | refine wpPlan_fork ?_ ?_) | ((with_reducible show Owed _ _ _ _ _ _ _ _ _); first | refine Owed.none_ ?_ | refine Owed.nil_ ?_ | refine Owed.miss rfl ?_ | refine Owed.hit ?_ ?_) | ((with_reducible show Same _ _ _ _ _); intro _; go_simp; done) | (with_reducible exact True.intro) | ((with_reducible show Code.wp _ (Code.region 1 _ true) _ _ _); refine wp_region_plan [(0, 0, []), (1, 1, []), (3, 1, []), (4, 1, []), (2, 2, [3, 4]), (5, 2, []), (6, 0, []), (7, 0, []), (8, 0, [])] (by kernel_rfl) (by kernel_rfl) (by kernel_rfl) ?_) | ((with_reducible show Code.wp _ (Code.region 2 _ true) _ _ _); refine wp_region_plan [(0, 0, []), (1, 0, []), (2, 1, []), (3, 1, []), (4, 1, []), (5, 0, []), (6, 2, [2, 3, 4]), (7, 1, []), (8, 0, [])] (by kernel_rfl) (by kernel_rfl) (by kernel_rfl) ?_) | ((with_reducible show Code.wp _ (Code.region 7 _ true) _ _ _); refine wp_region_plan [(0, 0, []), (1, 0, []), (2, 0, []), (3, 1, []), (4, 0, []), (5, 0, []), (6, 1, []), (7, 1, []), (8, 1, []), (9, 0, []), (10, 2, [6, 7, 8]), (11, 1, []), (12, 0, [])] (by kernel_rfl) (by kernel_rfl) (by kernel_rfl) ?_))
        refine (closeBlock_any b _ vo' _ vp' t.pos _ HL.out.drew.ins HNE.out (by have := HOL.out; dsimp only; omega) (by have := HLEN.out; dsimp only; omega)).mono ?_
        rintro e w4 ⟨rfl, hS⟩
        obtain ⟨vo4, vc4, vp4, hL4⟩ := HL.out.drew.step hS
        have L4 := Lib.hid hL4
        clear hS hL4
        go_wp2_with (first | ((with_reducible show wpPlan _ _ _ _ _ (Act.put _ _ _) _); simp only [List.getElem_toArray, List.getElem_cons_succ, List.getElem_cons_zero, Act.put, List.setIfInBounds_toArray, List.set_cons_zero, List.set_cons_succ]) | ((with_reducible show wpPlan _ _ _ _ _ _ _); first | refine wpPlan_nil ?_ | (refine wpPlan_read0 rfl ?hw rfl (fun _ _ _ => ?_); case hw => ((conv => (lhs; whnf)); first | done | with_reducible rfl)) | (refine wpPlan_read1d rfl ?hw rfl rfl (fun _ _ _ => ?_); case hw => ((conv => (lhs; whnf)); first | done | with_reducible rfl)) | (refine wpPlan_eff rfl ?hw (fun _ _ => ?_); case hw => ((conv => (lhs; whnf)); first | done | with_reducible rfl)) | (refine wpPlan_skip0 rfl ?hw ?_; case hw => ((conv => (lhs; whnf)); first | done | with_reducible rfl)) | (refine wpPlan_skip1d rfl ?hw ?_; case hw => ((conv => (lhs; whnf)); first | done | with_reducible rfl)) | (refine wpPlan_skip2 rfl ?hw ?_; case hw => ((conv => (lhs; whnf)); first | done | with_reducible rfl)) | (refine wpPlan_read1 rfl ?hw rfl (fun _ _ _ => ?_); case hw => ((conv => (lhs; whnf)); first | done | with_reducible rfl)) | refine wpPlan_fork ?_ ?_) | ((with_reducible show Owed _ _ _ _ _ _ _ _ _); first | refine Owed.none_ ?_ | refine Owed.nil_ ?_ | refine Owed.miss rfl ?_ | refine Owed.hit ?_ ?_) | ((with_reducible show Same _ _ _ _ _); intro _; go_simp; done) | (with_reducible exact True.intro) | ((with_reducible show Code.wp _ (Code.region 1 _ true) _ _ _); refine wp_region_plan [(0, 0, []), (1, 1, []), (3, 1, []), (4, 1, []), (2, 2, [3, 4]), (5, 2, []), (6, 0, []), (7, 0, []), (8, 0, [])] (by kernel_rfl) (by kernel_rfl) (by kernel_rfl) ?_) | ((with_reducible show Code.wp _ (Code.region 2 _ true) _ _ _); refine wp_region_plan [(0, 0, []), (1, 0, []), (2, 1, []), (3, 1, []), (4, 1, []), (5, 0, []), (6, 2, [2, 3, 4]), (7, 1, []), (8, 0, [])] (by kernel_rfl) (by kernel_rfl) (by kernel_rfl) ?_) | ((with_reducible show Code.wp _ (Code.region 7 _ true) _ _ _); refine wp_region_plan [(0, 0, []), (1, 0, []), (2, 0, []), (3, 1, []), (4, 0, []), (5, 0, []), (6, 1, []), (7, 1, []), (8, 1, []), (9, 0, []), (10, 2, [6, 7, 8]), (11, 1, []), (12, 0, [])] (by kernel_rfl) (by kernel_rfl) (by kernel_rfl) ?_))
        go_end0
        rw [HF.out]
        exact ⟨rfl, L4.out.drew.done⟩
      · have hltb : decide (t.pos.col < c0) = false := decide_eq_false (fun hh => HGO.out ⟨rfl, hh⟩)
        go_wp2_with (first | ((with_reducible show wpPlan _ _ _ _ _ (Act.put _ _ _) _); simp only [List.getElem_toArray, List.getElem_cons_succ, List.getElem_cons_zero, Act.put, List.setIfInBounds_toArray, List.set_cons_zero, List.set_cons_succ]) | ((with_reducible show wpPlan _ _ _ _ _ _ _); first | refine wpPlan_nil ?_ | (refine wpPlan_read0 rfl ?hw rfl (fun _ _ _ => ?_); case hw => ((conv => (lhs; whnf)); first | done | with_reducible rfl)) | (refine wpPlan_read1d rfl ?hw rfl rfl (fun _ _ _ => ?_); case hw => ((conv => (lhs; whnf)); first | done | with_reducible rfl)) | (refine wpPlan_eff rfl ?hw (fun _ _ => ?_); case hw => ((conv => (lhs; whnf)); first | done | with_reducible rfl)) | (refine wpPlan_skip0 rfl ?hw ?_; case hw => ((conv => (lhs; whnf)); first | done | with_reducible rfl)) | (refine wpPlan_skip1d rfl ?hw ?_; case hw => ((conv => (lhs; whnf)); first | done | with_reducible rfl)) | (refine wpPlan_skip2 rfl ?hw ?_; case hw => ((conv => (lhs; whnf)); first | done | with_reducible rfl)) | (refine wpPlan_read1 rfl ?hw rfl (fun _ _ _ => ?_); case hw => ((conv => (lhs; whnf)); first | done | with_reducible rfl)) | refine wpPlan_fork ?_ ?_) | ((with_reducible show Owed _ _ _ _ _ _ _ _ _); first | refine Owed.none_ ?_ | refine Owed.nil_ ?_ | refine Owed.miss rfl ?_ | refine Owed.hit ?_ ?_) | ((with_reducible show Same _ _ _ _ _); intro _; go_simp; done) | (with_reducible exact True.intro) | ((with_reducible show Code.wp _ (Code.region 1 _ true) _ _ _); refine wp_region_plan [(0, 0, []), (1, 1, []), (3, 1, []), (4, 1, []), (2, 2, [3, 4]), (5, 2, []), (6, 0, []), (7, 0, []), (8, 0, [])] (by kernel_rfl) (by kernel_rfl) (by kernel_rfl) ?_) | ((with_reducible show Code.wp _ (Code.region 2 _ true) _ _ _); refine wp_region_plan [(0, 0, []), (1, 0, []), (2, 1, []), (3, 1, []), (4, 1, []), (5, 0, []), (6, 2, [2, 3, 4]), (7, 1, []), (8, 0, [])] (by kernel_rfl) (by kernel_rfl) (by kernel_rfl) ?_) | ((with_reducible show Code.wp _ (Code.region 7 _ true) _ _ _); refine wp_region_plan [(0, 0, []), (1, 0, []), (2, 0, []), (3, 1, []), (4, 0, []), (5, 0, []), (6, 1, []), (7, 1, []), (8, 1, []), (9, 0, []), (10, 2, [6, 7, 8]), (11, 1, []), (12, 0, [])] (by kernel_rfl) (by kernel_rfl) (by kernel_rfl) ?_) | (go_at_call 87; refine (innermost_any b _ vo' _ vp' _ (by first | exact HL.out.drew.ins | exact HL.out.drew.drew.drew.ins) HNE.out (by have := HLEN.out; dsimp only; omega)).mono ?_; rw [HC0.out]; rintro e w3 ⟨rfl, rfl⟩))
        refine (closeBlock_any b _ vo' _ vp' t.pos _ HL.out.drew.drew.ins HNE.out (by have := HOL.out; dsimp only; omega) (by have := HLEN.out; dsimp only; omega)).mono ?_
        rintro e w4 ⟨rfl, hS⟩
        obtain ⟨vo4, vc4, vp4, hL4⟩ := HL.out.drew.drew.step hS
        have L4 := Lib.hid hL4
        clear hS hL4
        go_wp2_with (first | ((with_reducible show wpPlan _ _ _ _ _ (Act.put _ _ _) _); simp only [List.getElem_toArray, List.getElem_cons_succ, List.getElem_cons_zero, Act.put, List.setIfInBounds_toArray, List.set_cons_zero, List.set_cons_succ]) | ((with_reducible show wpPlan _ _ _ _ _ _ _); first | refine wpPlan_nil ?_ | (refine wpPlan_read0 rfl ?hw rfl (fun _ _ _ => ?_); case hw => ((conv => (lhs; whnf)); first | done | with_reducible rfl)) | (refine wpPlan_read1d rfl ?hw rfl rfl (fun _ _ _ => ?_); case hw => ((conv => (lhs; whnf)); first | done | with_reducible rfl)) | (refine wpPlan_eff rfl ?hw (fun _ _ => ?_); case hw => ((conv => (lhs; whnf)); first | done | with_reducible rfl)) | (refine wpPlan_skip0 rfl ?hw ?_; case hw => ((conv => (lhs; whnf)); first | done | with_reducible rfl)) | (refine wpPlan_skip1d rfl ?hw ?_; case hw => ((conv => (lhs; whnf)); first | done | with_reducible rfl)) | (refine wpPlan_skip2 rfl ?hw ?_; case hw => ((conv => (lhs; whnf)); first | done | with_reducible rfl)) | (refine wpPlan_read1 rfl ?hw rfl (fun _ _ _ => ?_); case hw => ((conv => (lhs; whnf)); first | done | with_reducible rfl)) | refine wpPlan_fork ?_ ?_) | ((with_reducible show Owed _ _ _ _ _ _ _ _ _); first | refine Owed.none_ ?_ | refine Owed.nil_ ?_ | refine Owed.miss rfl ?_ | refine Owed.hit ?_ ?_) | ((with_reducible show Same _ _ _ _ _); intro _; go_simp; done) | (with_reducible exact True.intro) | ((with_reducible show Code.wp _ (Code.region 1 _ true) _ _ _); refine wp_region_plan [(0, 0, []), (1, 1, []), (3, 1, []), (4, 1, []), (2, 2, [3, 4]), (5, 2, []), (6, 0, []), (7, 0, []), (8, 0, [])] (by kernel_rfl) (by kernel_rfl) (by kernel_rfl) ?_) | ((with_reducible show Code.wp _ (Code.region 2 _ true) _ _ _); refine wp_region_plan [(0, 0, []), (1, 0, []), (2, 1, []), (3, 1, []), (4, 1, []), (5, 0, []), (6, 2, [2, 3, 4]), (7, 1, []), (8, 0, [])] (by kernel_rfl) (by kernel_rfl) (by kernel_rfl) ?_) | ((with_reducible show Code.wp _ (Code.region 7 _ true) _ _ _); refine wp_region_plan [(0, 0, []), (1, 0, []), (2, 0, []), (3, 1, []), (4, 0, []), (5, 0, []), (6, 1, []), (7, 1, []), (8, 1, []), (9, 0, []), (10, 2, [6, 7, 8]), (11, 1, []), (12, 0, [])] (by kernel_rfl) (by kernel_rfl) (by kernel_rfl) ?_))
        go_end0
        rw [HF.out]
        exact ⟨rfl, L4.out.drew.done⟩
    have HQ := Lib.hid hq
    have hPB : Hid (placeB t x cl (o, cs) = (o, cs)) := by
      refine Lib.hid ?_
      have hrm := HRM.out
      have := HLEN.out
      unfold placeB
      split
      · rename_i hh
        exfalso
        simp at hh
        exact hq ⟨hh.1.1, by rw [← hrm]; simp; omega, hh.2⟩
      · rfl
    clear hq
    cases cl
    · by_cases hcc : st = true ∧ t.pos.col = c0
      · obtain ⟨rfl, hcc⟩ := hcc
        have HF : Hid (placeS x t = { x with out := o ++ [⟨6, 0, ByteArray.empty, t.pos⟩], cols := cs }) := Lib.hid (by rw [HS.out, ← HOC.out, hPB.out, placeC_one (by rw [HC0.out]; exact hcc)])
        have hltb : decide (t.pos.col < c0) = false := decide_eq_false (by omega)
        have heqb : (t.pos.col == c0) = true := beq_iff_eq.2 hcc
        clear hcc
        go_wp2_with (first | ((with_reducible show wpPlan _ _ _ _ _ (Act.put _ _ _) _); simp only [List.getElem_toArray, List.getElem_cons_succ, List.getElem_cons_zero, Act.put, List.setIfInBounds_toArray, List.set_cons_zero, List.set_cons_succ]) | ((with_reducible show wpPlan _ _ _ _ _ _ _); first | refine wpPlan_nil ?_ | (refine wpPlan_read0 rfl ?hw rfl (fun _ _ _ => ?_); case hw => ((conv => (lhs; whnf)); first | done | with_reducible rfl)) | (refine wpPlan_read1d rfl ?hw rfl rfl (fun _ _ _ => ?_); case hw => ((conv => (lhs; whnf)); first | done | with_reducible rfl)) | (refine wpPlan_eff rfl ?hw (fun _ _ => ?_); case hw => ((conv => (lhs; whnf)); first | done | with_reducible rfl)) | (refine wpPlan_skip0 rfl ?hw ?_; case hw => ((conv => (lhs; whnf)); first | done | with_reducible rfl)) | (refine wpPlan_skip1d rfl ?hw ?_; case hw => ((conv => (lhs; whnf)); first | done | with_reducible rfl)) | (refine wpPlan_skip2 rfl ?hw ?_; case hw => ((conv => (lhs; whnf)); first | done | with_reducible rfl)) | (refine wpPlan_read1 rfl ?hw rfl (fun _ _ _ => ?_); case hw => ((conv => (lhs; whnf)); first | done | with_reducible rfl)) | refine wpPlan_fork ?_ ?_) | ((with_reducible show Owed _ _ _ _ _ _ _ _ _); first | refine Owed.none_ ?_ | refine Owed.nil_ ?_ | refine Owed.miss rfl ?_ | refine Owed.hit ?_ ?_) | ((with_reducible show Same _ _ _ _ _); intro _; go_simp; done) | (with_reducible exact True.intro) | ((with_reducible show Code.wp _ (Code.region 1 _ true) _ _ _); refine wp_region_plan [(0, 0, []), (1, 1, []), (3, 1, []), (4, 1, []), (2, 2, [3, 4]), (5, 2, []), (6, 0, []), (7, 0, []), (8, 0, [])] (by kernel_rfl) (by kernel_rfl) (by kernel_rfl) ?_) | ((with_reducible show Code.wp _ (Code.region 2 _ true) _ _ _); refine wp_region_plan [(0, 0, []), (1, 0, []), (2, 1, []), (3, 1, []), (4, 1, []), (5, 0, []), (6, 2, [2, 3, 4]), (7, 1, []), (8, 0, [])] (by kernel_rfl) (by kernel_rfl) (by kernel_rfl) ?_) | ((with_reducible show Code.wp _ (Code.region 7 _ true) _ _ _); refine wp_region_plan [(0, 0, []), (1, 0, []), (2, 0, []), (3, 1, []), (4, 0, []), (5, 0, []), (6, 1, []), (7, 1, []), (8, 1, []), (9, 0, []), (10, 2, [6, 7, 8]), (11, 1, []), (12, 0, [])] (by kernel_rfl) (by kernel_rfl) (by kernel_rfl) ?_) | (go_at_call 87; refine (innermost_any b _ vo' _ vp' _ (by first | exact HL.out.drew.ins | exact HL.out.drew.drew.drew.ins) HNE.out (by have := HLEN.out; dsimp only; omega)).mono ?_; rw [HC0.out]; rintro e w3 ⟨rfl, rfl⟩))
        refine (insert_step b _ vo' _ vp' 6 t.pos _ HL.out.drew.drew.drew.drew.ins (by have := HOL.out; dsimp only; omega)).mono ?_
        rintro e w4 ⟨rfl, hS⟩
        obtain ⟨vo4, vc4, vp4, hL4⟩ := HL.out.drew.drew.drew.drew.step hS
        have L4 := Lib.hid hL4
        clear hS hL4
        go_wp2
        go_end0
        rw [HF.out]
        exact ⟨rfl, L4.out.done⟩
      · have HF : Hid (placeS x t = { x with out := o, cols := cs }) := Lib.hid (by rw [HS.out, ← HOC.out, hPB.out, placeC_none (.inl (by rw [HC0.out]; exact hcc))])
        cases st
        · clear hcc
          go_wp2_with (first | ((with_reducible show wpPlan _ _ _ _ _ (Act.put _ _ _) _); simp only [List.getElem_toArray, List.getElem_cons_succ, List.getElem_cons_zero, Act.put, List.setIfInBounds_toArray, List.set_cons_zero, List.set_cons_succ]) | ((with_reducible show wpPlan _ _ _ _ _ _ _); first | refine wpPlan_nil ?_ | (refine wpPlan_read0 rfl ?hw rfl (fun _ _ _ => ?_); case hw => ((conv => (lhs; whnf)); first | done | with_reducible rfl)) | (refine wpPlan_read1d rfl ?hw rfl rfl (fun _ _ _ => ?_); case hw => ((conv => (lhs; whnf)); first | done | with_reducible rfl)) | (refine wpPlan_eff rfl ?hw (fun _ _ => ?_); case hw => ((conv => (lhs; whnf)); first | done | with_reducible rfl)) | (refine wpPlan_skip0 rfl ?hw ?_; case hw => ((conv => (lhs; whnf)); first | done | with_reducible rfl)) | (refine wpPlan_skip1d rfl ?hw ?_; case hw => ((conv => (lhs; whnf)); first | done | with_reducible rfl)) | (refine wpPlan_skip2 rfl ?hw ?_; case hw => ((conv => (lhs; whnf)); first | done | with_reducible rfl)) | (refine wpPlan_read1 rfl ?hw rfl (fun _ _ _ => ?_); case hw => ((conv => (lhs; whnf)); first | done | with_reducible rfl)) | refine wpPlan_fork ?_ ?_) | ((with_reducible show Owed _ _ _ _ _ _ _ _ _); first | refine Owed.none_ ?_ | refine Owed.nil_ ?_ | refine Owed.miss rfl ?_ | refine Owed.hit ?_ ?_) | ((with_reducible show Same _ _ _ _ _); intro _; go_simp; done) | (with_reducible exact True.intro) | ((with_reducible show Code.wp _ (Code.region 1 _ true) _ _ _); refine wp_region_plan [(0, 0, []), (1, 1, []), (3, 1, []), (4, 1, []), (2, 2, [3, 4]), (5, 2, []), (6, 0, []), (7, 0, []), (8, 0, [])] (by kernel_rfl) (by kernel_rfl) (by kernel_rfl) ?_) | ((with_reducible show Code.wp _ (Code.region 2 _ true) _ _ _); refine wp_region_plan [(0, 0, []), (1, 0, []), (2, 1, []), (3, 1, []), (4, 1, []), (5, 0, []), (6, 2, [2, 3, 4]), (7, 1, []), (8, 0, [])] (by kernel_rfl) (by kernel_rfl) (by kernel_rfl) ?_) | ((with_reducible show Code.wp _ (Code.region 7 _ true) _ _ _); refine wp_region_plan [(0, 0, []), (1, 0, []), (2, 0, []), (3, 1, []), (4, 0, []), (5, 0, []), (6, 1, []), (7, 1, []), (8, 1, []), (9, 0, []), (10, 2, [6, 7, 8]), (11, 1, []), (12, 0, [])] (by kernel_rfl) (by kernel_rfl) (by kernel_rfl) ?_))
          go_end0
          rw [HF.out]
          exact ⟨rfl, HL.out.drew.drew.done⟩
        · have hltb : decide (t.pos.col < c0) = false := decide_eq_false (fun hh => HGO.out ⟨rfl, hh⟩)
          have heqb : (t.pos.col == c0) = false := beq_eq_false_iff_ne.2 (fun hh => hcc ⟨rfl, hh⟩)
          clear hcc
          go_wp2_with (first | ((with_reducible show wpPlan _ _ _ _ _ (Act.put _ _ _) _); simp only [List.getElem_toArray, List.getElem_cons_succ, List.getElem_cons_zero, Act.put, List.setIfInBounds_toArray, List.set_cons_zero, List.set_cons_succ]) | ((with_reducible show wpPlan _ _ _ _ _ _ _); first | refine wpPlan_nil ?_ | (refine wpPlan_read0 rfl ?hw rfl (fun _ _ _ => ?_); case hw => ((conv => (lhs; whnf)); first | done | with_reducible rfl)) | (refine wpPlan_read1d rfl ?hw rfl rfl (fun _ _ _ => ?_); case hw => ((conv => (lhs; whnf)); first | done | with_reducible rfl)) | (refine wpPlan_eff rfl ?hw (fun _ _ => ?_); case hw => ((conv => (lhs; whnf)); first | done | with_reducible rfl)) | (refine wpPlan_skip0 rfl ?hw ?_; case hw => ((conv => (lhs; whnf)); first | done | with_reducible rfl)) | (refine wpPlan_skip1d rfl ?hw ?_; case hw => ((conv => (lhs; whnf)); first | done | with_reducible rfl)) | (refine wpPlan_skip2 rfl ?hw ?_; case hw => ((conv => (lhs; whnf)); first | done | with_reducible rfl)) | (refine wpPlan_read1 rfl ?hw rfl (fun _ _ _ => ?_); case hw => ((conv => (lhs; whnf)); first | done | with_reducible rfl)) | refine wpPlan_fork ?_ ?_) | ((with_reducible show Owed _ _ _ _ _ _ _ _ _); first | refine Owed.none_ ?_ | refine Owed.nil_ ?_ | refine Owed.miss rfl ?_ | refine Owed.hit ?_ ?_) | ((with_reducible show Same _ _ _ _ _); intro _; go_simp; done) | (with_reducible exact True.intro) | ((with_reducible show Code.wp _ (Code.region 1 _ true) _ _ _); refine wp_region_plan [(0, 0, []), (1, 1, []), (3, 1, []), (4, 1, []), (2, 2, [3, 4]), (5, 2, []), (6, 0, []), (7, 0, []), (8, 0, [])] (by kernel_rfl) (by kernel_rfl) (by kernel_rfl) ?_) | ((with_reducible show Code.wp _ (Code.region 2 _ true) _ _ _); refine wp_region_plan [(0, 0, []), (1, 0, []), (2, 1, []), (3, 1, []), (4, 1, []), (5, 0, []), (6, 2, [2, 3, 4]), (7, 1, []), (8, 0, [])] (by kernel_rfl) (by kernel_rfl) (by kernel_rfl) ?_) | ((with_reducible show Code.wp _ (Code.region 7 _ true) _ _ _); refine wp_region_plan [(0, 0, []), (1, 0, []), (2, 0, []), (3, 1, []), (4, 0, []), (5, 0, []), (6, 1, []), (7, 1, []), (8, 1, []), (9, 0, []), (10, 2, [6, 7, 8]), (11, 1, []), (12, 0, [])] (by kernel_rfl) (by kernel_rfl) (by kernel_rfl) ?_) | (go_at_call 87; refine (innermost_any b _ vo' _ vp' _ (by first | exact HL.out.drew.ins | exact HL.out.drew.drew.drew.ins) HNE.out (by have := HLEN.out; dsimp only; omega)).mono ?_; rw [HC0.out]; rintro e w3 ⟨rfl, rfl⟩))
          go_end0
          rw [HF.out]
          exact ⟨rfl, HL.out.drew.drew.drew.drew.done⟩
    · have HF : Hid (placeS x t = { x with out := o, cols := cs }) := Lib.hid (by rw [HS.out, ← HOC.out, hPB.out, placeC_none (.inr rfl)])
      have hlq : rm = false → decide ((1:Int) < (cs.length : Int)) = false := fun hr => decide_eq_false (fun hh => HQ.out ⟨rfl, hr, by omega⟩)
      cases st
      · cases rm
        · have hlb := hlq rfl
          clear hlq
          go_wp2_with (first | ((with_reducible show wpPlan _ _ _ _ _ (Act.put _ _ _) _); simp only [List.getElem_toArray, List.getElem_cons_succ, List.getElem_cons_zero, Act.put, List.setIfInBounds_toArray, List.set_cons_zero, List.set_cons_succ]) | ((with_reducible show wpPlan _ _ _ _ _ _ _); first | refine wpPlan_nil ?_ | (refine wpPlan_read0 rfl ?hw rfl (fun _ _ _ => ?_); case hw => ((conv => (lhs; whnf)); first | done | with_reducible rfl)) | (refine wpPlan_read1d rfl ?hw rfl rfl (fun _ _ _ => ?_); case hw => ((conv => (lhs; whnf)); first | done | with_reducible rfl)) | (refine wpPlan_eff rfl ?hw (fun _ _ => ?_); case hw => ((conv => (lhs; whnf)); first | done | with_reducible rfl)) | (refine wpPlan_skip0 rfl ?hw ?_; case hw => ((conv => (lhs; whnf)); first | done | with_reducible rfl)) | (refine wpPlan_skip1d rfl ?hw ?_; case hw => ((conv => (lhs; whnf)); first | done | with_reducible rfl)) | (refine wpPlan_skip2 rfl ?hw ?_; case hw => ((conv => (lhs; whnf)); first | done | with_reducible rfl)) | (refine wpPlan_read1 rfl ?hw rfl (fun _ _ _ => ?_); case hw => ((conv => (lhs; whnf)); first | done | with_reducible rfl)) | refine wpPlan_fork ?_ ?_) | ((with_reducible show Owed _ _ _ _ _ _ _ _ _); first | refine Owed.none_ ?_ | refine Owed.nil_ ?_ | refine Owed.miss rfl ?_ | refine Owed.hit ?_ ?_) | ((with_reducible show Same _ _ _ _ _); intro _; go_simp; done) | (with_reducible exact True.intro) | ((with_reducible show Code.wp _ (Code.region 1 _ true) _ _ _); refine wp_region_plan [(0, 0, []), (1, 1, []), (3, 1, []), (4, 1, []), (2, 2, [3, 4]), (5, 2, []), (6, 0, []), (7, 0, []), (8, 0, [])] (by kernel_rfl) (by kernel_rfl) (by kernel_rfl) ?_) | ((with_reducible show Code.wp _ (Code.region 2 _ true) _ _ _); refine wp_region_plan [(0, 0, []), (1, 0, []), (2, 1, []), (3, 1, []), (4, 1, []), (5, 0, []), (6, 2, [2, 3, 4]), (7, 1, []), (8, 0, [])] (by kernel_rfl) (by kernel_rfl) (by kernel_rfl) ?_) | ((with_reducible show Code.wp _ (Code.region 7 _ true) _ _ _); refine wp_region_plan [(0, 0, []), (1, 0, []), (2, 0, []), (3, 1, []), (4, 0, []), (5, 0, []), (6, 1, []), (7, 1, []), (8, 1, []), (9, 0, []), (10, 2, [6, 7, 8]), (11, 1, []), (12, 0, [])] (by kernel_rfl) (by kernel_rfl) (by kernel_rfl) ?_))
          go_end0
          rw [HF.out]
          exact ⟨rfl, HL.out.drew.drew.done⟩
        · clear hlq
          go_wp2_with (first | ((with_reducible show wpPlan _ _ _ _ _ (Act.put _ _ _) _); simp only [List.getElem_toArray, List.getElem_cons_succ, List.getElem_cons_zero, Act.put, List.setIfInBounds_toArray, List.set_cons_zero, List.set_cons_succ]) | ((with_reducible show wpPlan _ _ _ _ _ _ _); first | refine wpPlan_nil ?_ | (refine wpPlan_read0 rfl ?hw rfl (fun _ _ _ => ?_); case hw => ((conv => (lhs; whnf)); first | done | with_reducible rfl)) | (refine wpPlan_read1d rfl ?hw rfl rfl (fun _ _ _ => ?_); case hw => ((conv => (lhs; whnf)); first | done | with_reducible rfl)) | (refine wpPlan_eff rfl ?hw (fun _ _ => ?_); case hw => ((conv => (lhs; whnf)); first | done | with_reducible rfl)) | (refine wpPlan_skip0 rfl ?hw ?_; case hw => ((conv => (lhs; whnf)); first | done | with_reducible rfl)) | (refine wpPlan_skip1d rfl ?hw ?_; case hw => ((conv => (lhs; whnf)); first | done | with_reducible rfl)) | (refine wpPlan_skip2 rfl ?hw ?_; case hw => ((conv => (lhs; whnf)); first | done | with_reducible rfl)) | (refine wpPlan_read1 rfl ?hw rfl (fun _ _ _ => ?_); case hw => ((conv => (lhs; whnf)); first | done | with_reducible rfl)) | refine wpPlan_fork ?_ ?_) | ((with_reducible show Owed _ _ _ _ _ _ _ _ _); first | refine Owed.none_ ?_ | refine Owed.nil_ ?_ | refine Owed.miss rfl ?_ | refine Owed.hit ?_ ?_) | ((with_reducible show Same _ _ _ _ _); intro _; go_simp; done) | (with_reducible exact True.intro) | ((with_reducible show Code.wp _ (Code.region 1 _ true) _ _ _); refine wp_region_plan [(0, 0, []), (1, 1, []), (3, 1, []), (4, 1, []), (2, 2, [3, 4]), (5, 2, []), (6, 0, []), (7, 0, []), (8, 0, [])] (by kernel_rfl) (by kernel_rfl) (by kernel_rfl) ?_) | ((with_reducible show Code.wp _ (Code.region 2 _ true) _ _ _); refine wp_region_plan [(0, 0, []), (1, 0, []), (2, 1, []), (3, 1, []), (4, 1, []), (5, 0, []), (6, 2, [2, 3, 4]), (7, 1, []), (8, 0, [])] (by kernel_rfl) (by kernel_rfl) (by kernel_rfl) ?_) | ((with_reducible show Code.wp _ (Code.region 7 _ true) _ _ _); refine wp_region_plan [(0, 0, []), (1, 0, []), (2, 0, []), (3, 1, []), (4, 0, []), (5, 0, []), (6, 1, []), (7, 1, []), (8, 1, []), (9, 0, []), (10, 2, [6, 7, 8]), (11, 1, []), (12, 0, [])] (by kernel_rfl) (by kernel_rfl) (by kernel_rfl) ?_))
          go_end0
          rw [HF.out]
          exact ⟨rfl, HL.out.drew.drew.done⟩
      · have hltb : decide (t.pos.col < c0) = false := decide_eq_false (fun hh => HGO.out ⟨rfl, hh⟩)
        cases rm
        · have hlb := hlq rfl
          clear hlq
          go_wp2_with (first | ((with_reducible show wpPlan _ _ _ _ _ (Act.put _ _ _) _); simp only [List.getElem_toArray, List.getElem_cons_succ, List.getElem_cons_zero, Act.put, List.setIfInBounds_toArray, List.set_cons_zero, List.set_cons_succ]) | ((with_reducible show wpPlan _ _ _ _ _ _ _); first | refine wpPlan_nil ?_ | (refine wpPlan_read0 rfl ?hw rfl (fun _ _ _ => ?_); case hw => ((conv => (lhs; whnf)); first | done | with_reducible rfl)) | (refine wpPlan_read1d rfl ?hw rfl rfl (fun _ _ _ => ?_); case hw => ((conv => (lhs; whnf)); first | done | with_reducible rfl)) | (refine wpPlan_eff rfl ?hw (fun _ _ => ?_); case hw => ((conv => (lhs; whnf)); first | done | with_reducible rfl)) | (refine wpPlan_skip0 rfl ?hw ?_; case hw => ((conv => (lhs; whnf)); first | done | with_reducible rfl)) | (refine wpPlan_skip1d rfl ?hw ?_; case hw => ((conv => (lhs; whnf)); first | done | with_reducible rfl)) | (refine wpPlan_skip2 rfl ?hw ?_; case hw => ((conv => (lhs; whnf)); first | done | with_reducible rfl)) | (refine wpPlan_read1 rfl ?hw rfl (fun _ _ _ => ?_); case hw => ((conv => (lhs; whnf)); first | done | with_reducible rfl)) | refine wpPlan_fork ?_ ?_) | ((with_reducible show Owed _ _ _ _ _ _ _ _ _); first | refine Owed.none_ ?_ | refine Owed.nil_ ?_ | refine Owed.miss rfl ?_ | refine Owed.hit ?_ ?_) | ((with_reducible show Same _ _ _ _ _); intro _; go_simp; done) | (with_reducible exact True.intro) | ((with_reducible show Code.wp _ (Code.region 1 _ true) _ _ _); refine wp_region_plan [(0, 0, []), (1, 1, []), (3, 1, []), (4, 1, []), (2, 2, [3, 4]), (5, 2, []), (6, 0, []), (7, 0, []), (8, 0, [])] (by kernel_rfl) (by kernel_rfl) (by kernel_rfl) ?_) | ((with_reducible show Code.wp _ (Code.region 2 _ true) _ _ _); refine wp_region_plan [(0, 0, []), (1, 0, []), (2, 1, []), (3, 1, []), (4, 1, []), (5, 0, []), (6, 2, [2, 3, 4]), (7, 1, []), (8, 0, [])] (by kernel_rfl) (by kernel_rfl) (by kernel_rfl) ?_) | ((with_reducible show Code.wp _ (Code.region 7 _ true) _ _ _); refine wp_region_plan [(0, 0, []), (1, 0, []), (2, 0, []), (3, 1, []), (4, 0, []), (5, 0, []), (6, 1, []), (7, 1, []), (8, 1, []), (9, 0, []), (10, 2, [6, 7, 8]), (11, 1, []), (12, 0, [])] (by kernel_rfl) (by kernel_rfl) (by kernel_rfl) ?_) | (go_at_call 87; refine (innermost_any b _ vo' _ vp' _ (by first | exact HL.out.drew.ins | exact HL.out.drew.drew.drew.ins) HNE.out (by have := HLEN.out; dsimp only; omega)).mono ?_; rw [HC0.out]; rintro e w3 ⟨rfl, rfl⟩))
          go_end0
          rw [HF.out]
          exact ⟨rfl, HL.out.drew.drew.drew.done⟩
        · clear hlq
          go_wp2_with (first | ((with_reducible show wpPlan _ _ _ _ _ (Act.put _ _ _) _); simp only [List.getElem_toArray, List.getElem_cons_succ, List.getElem_cons_zero, Act.put, List.setIfInBounds_toArray, List.set_cons_zero, List.set_cons_succ]) | ((with_reducible show wpPlan _ _ _ _ _ _ _); first | refine wpPlan_nil ?_ | (refine wpPlan_read0 rfl ?hw rfl (fun _ _ _ => ?_); case hw => ((conv => (lhs; whnf)); first | done | with_reducible rfl)) | (refine wpPlan_read1d rfl ?hw rfl rfl (fun _ _ _ => ?_); case hw => ((conv => (lhs; whnf)); first | done | with_reducible rfl)) | (refine wpPlan_eff rfl ?hw (fun _ _ => ?_); case hw => ((conv => (lhs; whnf)); first | done | with_reducible rfl)) | (refine wpPlan_skip0 rfl ?hw ?_; case hw => ((conv => (lhs; whnf)); first | done | with_reducible rfl)) | (refine wpPlan_skip1d rfl ?hw ?_; case hw => ((conv => (lhs; whnf)); first | done | with_reducible rfl)) | (refine wpPlan_skip2 rfl ?hw ?_; case hw => ((conv => (lhs; whnf)); first | done | with_reducible rfl)) | (refine wpPlan_read1 rfl ?hw rfl (fun _ _ _ => ?_); case hw => ((conv => (lhs; whnf)); first | done | with_reducible rfl)) | refine wpPlan_fork ?_ ?_) | ((with_reducible show Owed _ _ _ _ _ _ _ _ _); first | refine Owed.none_ ?_ | refine Owed.nil_ ?_ | refine Owed.miss rfl ?_ | refine Owed.hit ?_ ?_) | ((with_reducible show Same _ _ _ _ _); intro _; go_simp; done) | (with_reducible exact True.intro) | ((with_reducible show Code.wp _ (Code.region 1 _ true) _ _ _); refine wp_region_plan [(0, 0, []), (1, 1, []), (3, 1, []), (4, 1, []), (2, 2, [3, 4]), (5, 2, []), (6, 0, []), (7, 0, []), (8, 0, [])] (by kernel_rfl) (by kernel_rfl) (by kernel_rfl) ?_) | ((with_reducible show Code.wp _ (Code.region 2 _ true) _ _ _); refine wp_region_plan [(0, 0, []), (1, 0, []), (2, 1, []), (3, 1, []), (4, 1, []), (5, 0, []), (6, 2, [2, 3, 4]), (7, 1, []), (8, 0, [])] (by kernel_rfl) (by kernel_rfl) (by kernel_rfl) ?_) | ((with_reducible show Code.wp _ (Code.region 7 _ true) _ _ _); refine wp_region_plan [(0, 0, []), (1, 0, []), (2, 0, []), (3, 1, []), (4, 0, []), (5, 0, []), (6, 1, []), (7, 1, []), (8, 1, []), (9, 0, []), (10, 2, [6, 7, 8]), (11, 1, []), (12, 0, [])] (by kernel_rfl) (by kernel_rfl) (by kernel_rfl) ?_) | (go_at_call 87; refine (innermost_any b _ vo' _ vp' _ (by first | exact HL.out.drew.ins | exact HL.out.drew.drew.drew.ins) HNE.out (by have := HLEN.out; dsimp only; omega)).mono ?_; rw [HC0.out]; rintro e w3 ⟨rfl, rfl⟩))
          go_end0
          rw [HF.out]
          exact ⟨rfl, HL.out.drew.drew.drew.done⟩

end Go.Proofs.YtgfhkaamkodpjaaDoor
