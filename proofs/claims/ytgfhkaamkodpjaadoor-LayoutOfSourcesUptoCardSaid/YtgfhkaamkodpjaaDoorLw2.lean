/- the laws' helpers: lines, awake, agrees -/
import Derived.Test.YtgfhkaamkodpjaaDoorLw1
import Derived.Test.YtgfhkaamkodpjaaDoorLay8
import Derived.Test.YtgfhkaamkodpjaaDoorRl3
namespace Go.Proofs.YtgfhkaamkodpjaaDoor
open Go Go.RowKit
set_option maxHeartbeats 8000000

/-- scan, then lay out -/
def linesS (l : List UInt8) : List Tok × Pos × Int := insS (scanS l).1

theorem awake_one : (linesS [102, 32, 61, 32, 108, 101, 116, 32, 120, 32, 61, 32, 49, 10, 32, 32, 32, 32, 32, 32, 32, 32, 121, 32, 61, 32, 50, 10, 32, 32, 32, 32, 119, 105, 116, 104, 105, 110, 32, 120, 10, 103, 32, 61, 32, 51]).2.2 = 0 ∧
    (linesS [102, 32, 61, 32, 108, 101, 116, 32, 120, 32, 61, 32, 49, 10, 32, 32, 32, 32, 32, 32, 32, 32, 121, 32, 61, 32, 50, 10, 32, 32, 32, 32, 119, 105, 116, 104, 105, 110, 32, 120, 10, 103, 32, 61, 32, 51]).1.map kindB = [79, 46, 46, 46, 79, 46, 46, 46, 83, 46, 46, 46, 67, 46, 46, 83, 46, 46, 46, 67] := by decide +kernel
theorem awake_two : (linesS [32, 102, 32, 61, 32, 49]).2.2 = 3 ∧ (linesS [32, 102, 32, 61, 32, 49]).2.1 = ⟨1, 2⟩ := by decide +kernel

attribute [local irreducible] kwB syB clB
theorem Glob.alloc2 {B : Nat} {w : World} (h : Glob B w) (o : Obj) : Glob B (w.alloc o) := h.alloc o

theorem Rd.far {w : World} {B k n r : Nat} {A : Option Addr} {xs : List Value} {i : Nat} (h : Rd w B k A n xs) (hA : ∀ a, A = some a → r < a.block) (u : Value) : Rd (w.setCell ⟨r, i, none⟩ u) B k A n xs :=
  ⟨h.1, fun hn => by
    obtain ⟨b, off, e, hb, hc⟩ := h.2 hn
    refine ⟨b, off, e, hb, fun j v hv => ?_⟩
    rw [World.cell?_setCell_other _ _ _ _ (fun e2 => by
      have := hA _ e
      injection e2 with e3
      dsimp only at this
      omega)]
    exact hc j v hv⟩
theorem lines_any (B : Nat) (s : ByteArray) (w : World) (hG : Glob B w) (hs : s.size ≤ 1000000000000 - 4) :
    Calls Tryd.prog 17 #[.string s] w fun e w' =>
      (∃ A n, e = .returned (.tuple #[.slice A n n, (linesS s.data.toList).2.1.v, .int .i64 (linesS s.data.toList).2.2]) ∧ Rd w' w'.heap.size 5 A n (cellsOf Tok.cells (linesS s.data.toList).1)) ∧ Below w.heap.size w w' := by
  have HN := Lib.hid (Blk.new w 29 #[.int .i64 0, .int .i64 0])
  have HB := Lib.hid ((Below.refl w.heap.size w).alloc (Nat.le_refl _) (.cells #[.int .i64 0, .int .i64 0] 29))
  have hsm := scanS_small s.data.toList
  rw [blen] at hsm
  have HSM := Lib.hid hsm
  have HG := Lib.hid hG
  clear hsm hG
  go_enter Tryd.func17, Tryd.ntmps17
  go_wp2_with (first | ((with_reducible show wpPlan _ _ _ _ _ (Act.put _ _ _) _); simp only [List.getElem_toArray, List.getElem_cons_succ, List.getElem_cons_zero, Act.put, List.setIfInBounds_toArray, List.set_cons_zero, List.set_cons_succ]) | ((with_reducible show wpPlan _ _ _ _ _ _ _); first | refine wpPlan_nil ?_ | (refine wpPlan_read0 rfl ?hw rfl (fun _ _ _ => ?_); case hw => ((conv => (lhs; whnf)); first | done | with_reducible rfl)) | (refine wpPlan_read1d rfl ?hw rfl rfl (fun _ _ _ => ?_); case hw => ((conv => (lhs; whnf)); first | done | with_reducible rfl)) | (refine wpPlan_eff rfl ?hw (fun _ _ => ?_); case hw => ((conv => (lhs; whnf)); first | done | with_reducible rfl)) | (refine wpPlan_skip0 rfl ?hw ?_; case hw => ((conv => (lhs; whnf)); first | done | with_reducible rfl)) | (refine wpPlan_skip1d rfl ?hw ?_; case hw => ((conv => (lhs; whnf)); first | done | with_reducible rfl)) | (refine wpPlan_skip2 rfl ?hw ?_; case hw => ((conv => (lhs; whnf)); first | done | with_reducible rfl)) | (refine wpPlan_read1 rfl ?hw rfl (fun _ _ _ => ?_); case hw => ((conv => (lhs; whnf)); first | done | with_reducible rfl)) | refine wpPlan_fork ?_ ?_) | ((with_reducible show Owed _ _ _ _ _ _ _ _ _); first | refine Owed.none_ ?_ | refine Owed.nil_ ?_ | refine Owed.miss rfl ?_ | refine Owed.hit ?_ ?_) | ((with_reducible show Same _ _ _ _ _); intro _; go_simp; done) | (with_reducible exact True.intro))
  refine (scan_any s _ (by omega)).mono ?_
  obtain ⟨⟨tl, sp, se⟩, hsc⟩ : ∃ x, scanS s.data.toList = x := ⟨_, rfl⟩
  unfold ScPost
  rw [hsc]
  have HSC := Lib.hid hsc
  clear hsc
  rintro e w1 ⟨⟨A1, n1, c1, rfl, hn1, hc1, hR1⟩, hb1⟩
  have hlen := hR1.len Tok.cells_len (by decide)
  have HR1 := Lib.hid hR1
  have HB1 := Lib.hid (HB.out.trans (hb1.mono (by simp)))
  have HN1 := Lib.hid (HN.out.below hb1 HN.out.lt)
  have HLN := Lib.hid hlen
  clear hR1 hb1 hlen
  dsimp only
  go_wp2_with (first | ((with_reducible show wpPlan _ _ _ _ _ (Act.put _ _ _) _); simp only [List.getElem_toArray, List.getElem_cons_succ, List.getElem_cons_zero, Act.put, List.setIfInBounds_toArray, List.set_cons_zero, List.set_cons_succ]) | ((with_reducible show wpPlan _ _ _ _ _ _ _); first | refine wpPlan_nil ?_ | (refine wpPlan_read0 rfl ?hw rfl (fun _ _ _ => ?_); case hw => ((conv => (lhs; whnf)); first | done | with_reducible rfl)) | (refine wpPlan_read1d rfl ?hw rfl rfl (fun _ _ _ => ?_); case hw => ((conv => (lhs; whnf)); first | done | with_reducible rfl)) | (refine wpPlan_eff rfl ?hw (fun _ _ => ?_); case hw => ((conv => (lhs; whnf)); first | done | with_reducible rfl)) | (refine wpPlan_skip0 rfl ?hw ?_; case hw => ((conv => (lhs; whnf)); first | done | with_reducible rfl)) | (refine wpPlan_skip1d rfl ?hw ?_; case hw => ((conv => (lhs; whnf)); first | done | with_reducible rfl)) | (refine wpPlan_skip2 rfl ?hw ?_; case hw => ((conv => (lhs; whnf)); first | done | with_reducible rfl)) | (refine wpPlan_read1 rfl ?hw rfl (fun _ _ _ => ?_); case hw => ((conv => (lhs; whnf)); first | done | with_reducible rfl)) | refine wpPlan_fork ?_ ?_) | ((with_reducible show Owed _ _ _ _ _ _ _ _ _); first | refine Owed.none_ ?_ | refine Owed.nil_ ?_ | refine Owed.miss rfl ?_ | refine Owed.hit ?_ ?_) | ((with_reducible show Same _ _ _ _ _); intro _; go_simp; done) | (with_reducible exact True.intro))
  have HG1 := Lib.hid ((HG.out.below (HB1.out.mono HG.out.size)).alloc (.cells #[.int .i64 sp.line, .int .i64 sp.col] 29))
  have HRa := Lib.hid (HR1.out.alloc (Nat.le_refl _) (.cells #[.int .i64 sp.line, .int .i64 sp.col] 29))
  have hts : ∀ t ∈ tl, t.str.size ≤ 1000000000000 := fun t ht => by
    have := HSM.out.1 t (by rw [HSC.out]; exact ht)
    omega
  have hnt : n1 ≤ 10000000 := by
    have h1 := HSM.out.2
    have h2 := HLN.out
    rw [HSC.out] at h1
    dsimp only at h1 h2
    omega
  have HTS := Lib.hid hts
  clear hts
  refine (linsert_any B w1.heap.size A1 n1 c1 tl _ HRa.out (by simp) HG1.out hnt HTS.out).mono ?_
  have hli : insS tl = linesS s.data.toList := by unfold linesS; rw [HSC.out]
  rw [hli]
  have HLI := Lib.hid hli
  clear hli
  obtain ⟨⟨ol, op, oe⟩, hol⟩ : ∃ x, linesS s.data.toList = x := ⟨_, rfl⟩
  rw [hol]
  have HOL := Lib.hid hol
  clear hol
  rintro e w2 ⟨⟨A2, n2, rfl, hR2, hA2⟩, hb2⟩
  have HB2 := Lib.hid ((HB1.out.alloc HB1.out.size (.cells #[.int .i64 sp.line, .int .i64 sp.col] 29)).trans (hb2.mono (by simp; have := HB1.out.size; omega)))
  have HN2 := Lib.hid ((HN1.out.alloc _).below hb2 (HN1.out.alloc _).lt)
  have HR2 := Lib.hid hR2
  have HA2 : Hid (∀ a, A2 = some a → w.heap.size < a.block) := Lib.hid (fun a ha => by
    have h1 := hA2 a ha
    simp at h1
    have := HN1.out.lt
    omega)
  have hN2 := HN2.out.cell
  have hNf2 := HN2.out.frozen
  have hNl2 := HN2.out.lt
  clear hR2 hA2 hb2
  dsimp only [Pos.v]
  go_wp2_with (first | ((with_reducible show wpPlan _ _ _ _ _ (Act.put _ _ _) _); simp only [List.getElem_toArray, List.getElem_cons_succ, List.getElem_cons_zero, Act.put, List.setIfInBounds_toArray, List.set_cons_zero, List.set_cons_succ]) | ((with_reducible show wpPlan _ _ _ _ _ _ _); first | refine wpPlan_nil ?_ | (refine wpPlan_read0 rfl ?hw rfl (fun _ _ _ => ?_); case hw => ((conv => (lhs; whnf)); first | done | with_reducible rfl)) | (refine wpPlan_read1d rfl ?hw rfl rfl (fun _ _ _ => ?_); case hw => ((conv => (lhs; whnf)); first | done | with_reducible rfl)) | (refine wpPlan_eff rfl ?hw (fun _ _ => ?_); case hw => ((conv => (lhs; whnf)); first | done | with_reducible rfl)) | (refine wpPlan_skip0 rfl ?hw ?_; case hw => ((conv => (lhs; whnf)); first | done | with_reducible rfl)) | (refine wpPlan_skip1d rfl ?hw ?_; case hw => ((conv => (lhs; whnf)); first | done | with_reducible rfl)) | (refine wpPlan_skip2 rfl ?hw ?_; case hw => ((conv => (lhs; whnf)); first | done | with_reducible rfl)) | (refine wpPlan_read1 rfl ?hw rfl (fun _ _ _ => ?_); case hw => ((conv => (lhs; whnf)); first | done | with_reducible rfl)) | refine wpPlan_fork ?_ ?_) | ((with_reducible show Owed _ _ _ _ _ _ _ _ _); first | refine Owed.none_ ?_ | refine Owed.nil_ ?_ | refine Owed.miss rfl ?_ | refine Owed.hit ?_ ?_) | ((with_reducible show Same _ _ _ _ _); intro _; go_simp; done) | (with_reducible exact True.intro))
  have q0 := cell_put HN2.out 0 (by simp) (.int .i64 op.line)
  have q1 := cell_put (HN2.out.put 0 (.int .i64 op.line)) 1 (by simp) (.int .i64 op.col)
  refine bodyPost_ret (v := .tuple #[.slice A2 n2 n2, .agg #[.int .i64 op.line, .int .i64 op.col], .int .i64 oe]) (by simp [results, Tryd.results17, go_sem, q0, q1]) rfl ⟨⟨A2, n2, by rw [HOL.out], ?_⟩, (HB2.out.setCell (p := ⟨w.heap.size, 0, none⟩) (Nat.le_refl _) _).setCell (p := ⟨w.heap.size, 1, none⟩) (Nat.le_refl _) _⟩
  rw [HOL.out]
  exact (HR2.out.far HA2.out _).far HA2.out _ |>.more (by simp [World.setCell])

set_option maxRecDepth 100000 in
theorem awake_any (B : Nat) (w : World) (hG : Glob B w) : Calls Tryd.prog 11 #[] w fun e w' => e = .returned (.bool true) ∧ Below w.heap.size w w' := by
  have HG := Lib.hid hG
  have HB := Lib.hid (Below.refl w.heap.size w)
  clear hG
  go_enter Tryd.func11, Tryd.ntmps11
  go_wp2_with (first | ((with_reducible show wpPlan _ _ _ _ _ (Act.put _ _ _) _); simp only [List.getElem_toArray, List.getElem_cons_succ, List.getElem_cons_zero, Act.put, List.setIfInBounds_toArray, List.set_cons_zero, List.set_cons_succ]) | ((with_reducible show wpPlan _ _ _ _ _ _ _); first | refine wpPlan_nil ?_ | (refine wpPlan_read0 rfl ?hw rfl (fun _ _ _ => ?_); case hw => ((conv => (lhs; whnf)); first | done | with_reducible rfl)) | (refine wpPlan_read1d rfl ?hw rfl rfl (fun _ _ _ => ?_); case hw => ((conv => (lhs; whnf)); first | done | with_reducible rfl)) | (refine wpPlan_eff rfl ?hw (fun _ _ => ?_); case hw => ((conv => (lhs; whnf)); first | done | with_reducible rfl)) | (refine wpPlan_skip0 rfl ?hw ?_; case hw => ((conv => (lhs; whnf)); first | done | with_reducible rfl)) | (refine wpPlan_skip1d rfl ?hw ?_; case hw => ((conv => (lhs; whnf)); first | done | with_reducible rfl)) | (refine wpPlan_skip2 rfl ?hw ?_; case hw => ((conv => (lhs; whnf)); first | done | with_reducible rfl)) | (refine wpPlan_read1 rfl ?hw rfl (fun _ _ _ => ?_); case hw => ((conv => (lhs; whnf)); first | done | with_reducible rfl)) | refine wpPlan_fork ?_ ?_) | ((with_reducible show Owed _ _ _ _ _ _ _ _ _); first | refine Owed.none_ ?_ | refine Owed.nil_ ?_ | refine Owed.miss rfl ?_ | refine Owed.hit ?_ ?_) | ((with_reducible show Same _ _ _ _ _); intro _; go_simp; done) | (with_reducible exact True.intro))
  refine (lines_any B _ _ HG.out (by decide)).mono ?_
  obtain ⟨⟨l1, p1, e1⟩, h1⟩ : ∃ x, linesS [102, 32, 61, 32, 108, 101, 116, 32, 120, 32, 61, 32, 49, 10, 32, 32, 32, 32, 32, 32, 32, 32, 121, 32, 61, 32, 50, 10, 32, 32, 32, 32, 119, 105, 116, 104, 105, 110, 32, 120, 10, 103, 32, 61, 32, 51] = x := ⟨_, rfl⟩
  dsimp only
  rw [h1]
  have a1 := awake_one
  rw [h1] at a1
  obtain ⟨ha, hb⟩ := a1
  dsimp only at ha hb
  subst ha
  have HK := Lib.hid hb
  clear h1 hb
  rintro e w1 ⟨⟨A1, n1, rfl, hR1⟩, hb1⟩
  have HR1 := Lib.hid hR1
  have HB1 := Lib.hid hb1
  have HL1 := Lib.hid (hR1.len Tok.cells_len (by decide))
  have HG1 := Lib.hid ((HG.out.below (hb1.mono HG.out.size)).alloc (.cells #[.int .i64 p1.line, .int .i64 p1.col] 29))
  clear hR1 hb1
  dsimp only [Pos.v]
  go_wp2_with (first | ((with_reducible show wpPlan _ _ _ _ _ (Act.put _ _ _) _); simp only [List.getElem_toArray, List.getElem_cons_succ, List.getElem_cons_zero, Act.put, List.setIfInBounds_toArray, List.set_cons_zero, List.set_cons_succ]) | ((with_reducible show wpPlan _ _ _ _ _ _ _); first | refine wpPlan_nil ?_ | (refine wpPlan_read0 rfl ?hw rfl (fun _ _ _ => ?_); case hw => ((conv => (lhs; whnf)); first | done | with_reducible rfl)) | (refine wpPlan_read1d rfl ?hw rfl rfl (fun _ _ _ => ?_); case hw => ((conv => (lhs; whnf)); first | done | with_reducible rfl)) | (refine wpPlan_eff rfl ?hw (fun _ _ => ?_); case hw => ((conv => (lhs; whnf)); first | done | with_reducible rfl)) | (refine wpPlan_skip0 rfl ?hw ?_; case hw => ((conv => (lhs; whnf)); first | done | with_reducible rfl)) | (refine wpPlan_skip1d rfl ?hw ?_; case hw => ((conv => (lhs; whnf)); first | done | with_reducible rfl)) | (refine wpPlan_skip2 rfl ?hw ?_; case hw => ((conv => (lhs; whnf)); first | done | with_reducible rfl)) | (refine wpPlan_read1 rfl ?hw rfl (fun _ _ _ => ?_); case hw => ((conv => (lhs; whnf)); first | done | with_reducible rfl)) | refine wpPlan_fork ?_ ?_) | ((with_reducible show Owed _ _ _ _ _ _ _ _ _); first | refine Owed.none_ ?_ | refine Owed.nil_ ?_ | refine Owed.miss rfl ?_ | refine Owed.hit ?_ ?_) | ((with_reducible show Same _ _ _ _ _); intro _; go_simp; done) | (with_reducible exact True.intro))
  refine (lines_any B _ _ HG1.out (by decide)).mono ?_
  obtain ⟨⟨l2, p2, e2⟩, h2⟩ : ∃ x, linesS [32, 102, 32, 61, 32, 49] = x := ⟨_, rfl⟩
  dsimp only
  rw [h2]
  have a2 := awake_two
  rw [h2] at a2
  obtain ⟨ha, hb⟩ := a2
  dsimp only at ha hb
  subst ha hb
  clear h2
  rintro e w2 ⟨⟨A2, n2, rfl, hR2⟩, hb2⟩
  have HR2 := Lib.hid hR2
  have HB2 := Lib.hid hb2
  clear hR2 hb2
  dsimp only [Pos.v]
  go_wp2_with (first | ((with_reducible show wpPlan _ _ _ _ _ (Act.put _ _ _) _); simp only [List.getElem_toArray, List.getElem_cons_succ, List.getElem_cons_zero, Act.put, List.setIfInBounds_toArray, List.set_cons_zero, List.set_cons_succ]) | ((with_reducible show wpPlan _ _ _ _ _ _ _); first | refine wpPlan_nil ?_ | (refine wpPlan_read0 rfl ?hw rfl (fun _ _ _ => ?_); case hw => ((conv => (lhs; whnf)); first | done | with_reducible rfl)) | (refine wpPlan_read1d rfl ?hw rfl rfl (fun _ _ _ => ?_); case hw => ((conv => (lhs; whnf)); first | done | with_reducible rfl)) | (refine wpPlan_eff rfl ?hw (fun _ _ => ?_); case hw => ((conv => (lhs; whnf)); first | done | with_reducible rfl)) | (refine wpPlan_skip0 rfl ?hw ?_; case hw => ((conv => (lhs; whnf)); first | done | with_reducible rfl)) | (refine wpPlan_skip1d rfl ?hw ?_; case hw => ((conv => (lhs; whnf)); first | done | with_reducible rfl)) | (refine wpPlan_skip2 rfl ?hw ?_; case hw => ((conv => (lhs; whnf)); first | done | with_reducible rfl)) | (refine wpPlan_read1 rfl ?hw rfl (fun _ _ _ => ?_); case hw => ((conv => (lhs; whnf)); first | done | with_reducible rfl)) | refine wpPlan_fork ?_ ?_) | ((with_reducible show Owed _ _ _ _ _ _ _ _ _); first | refine Owed.none_ ?_ | refine Owed.nil_ ?_ | refine Owed.miss rfl ?_ | refine Owed.hit ?_ ?_) | ((with_reducible show Same _ _ _ _ _); intro _; go_simp; done) | (with_reducible exact True.intro))
  have hn1 : n1 ≤ 1000000000 := by
    have h1 := congrArg List.length HK.out
    have h2 := HL1.out
    simp at h1 h2
    omega
  have HRk := Lib.hid (((HR1.out.alloc (Nat.le_refl _) (.cells #[.int .i64 p1.line, .int .i64 p1.col] 29)).below (HB2.out.mono (by simp))).alloc (B := w1.heap.size) (by have := HB2.out.size; simp at this; omega) (.cells #[.int .i64 1, .int .i64 2] 29))
  refine (kinds_any A1 n1 n1 _ l1 _ HRk.out hn1).mono ?_
  rw [HK.out]
  have hq : ((bstr [79, 46, 46, 46, 79, 46, 46, 46, 83, 46, 46, 46, 67, 46, 46, 83, 46, 46, 46, 67]).toList == [79, 46, 46, 46, 79, 46, 46, 46, 83, 46, 46, 46, 67, 46, 46, 83, 46, 46, 46, 67]) = true := by decide +kernel
  generalize bstr [79, 46, 46, 46, 79, 46, 46, 46, 83, 46, 46, 46, 67, 46, 46, 83, 46, 46, 46, 67] = sk at hq
  rintro e w3 ⟨rfl, rfl⟩
  have HBL : Hid (Below w.heap.size w ((w2.alloc (.cells #[.int .i64 1, .int .i64 2] 29)))) := Lib.hid (((HB1.out.alloc HB1.out.size _).trans (HB2.out.mono (by simp; have := HB1.out.size; omega))).alloc (by have h1 := HB1.out.size; have h2 := HB2.out.size; simp at h2; omega) _)
  go_wp2_with (first | ((with_reducible show wpPlan _ _ _ _ _ (Act.put _ _ _) _); simp only [List.getElem_toArray, List.getElem_cons_succ, List.getElem_cons_zero, Act.put, List.setIfInBounds_toArray, List.set_cons_zero, List.set_cons_succ]) | ((with_reducible show wpPlan _ _ _ _ _ _ _); first | refine wpPlan_nil ?_ | (refine wpPlan_read0 rfl ?hw rfl (fun _ _ _ => ?_); case hw => ((conv => (lhs; whnf)); first | done | with_reducible rfl)) | (refine wpPlan_read1d rfl ?hw rfl rfl (fun _ _ _ => ?_); case hw => ((conv => (lhs; whnf)); first | done | with_reducible rfl)) | (refine wpPlan_eff rfl ?hw (fun _ _ => ?_); case hw => ((conv => (lhs; whnf)); first | done | with_reducible rfl)) | (refine wpPlan_skip0 rfl ?hw ?_; case hw => ((conv => (lhs; whnf)); first | done | with_reducible rfl)) | (refine wpPlan_skip1d rfl ?hw ?_; case hw => ((conv => (lhs; whnf)); first | done | with_reducible rfl)) | (refine wpPlan_skip2 rfl ?hw ?_; case hw => ((conv => (lhs; whnf)); first | done | with_reducible rfl)) | (refine wpPlan_read1 rfl ?hw rfl (fun _ _ _ => ?_); case hw => ((conv => (lhs; whnf)); first | done | with_reducible rfl)) | refine wpPlan_fork ?_ ?_) | ((with_reducible show Owed _ _ _ _ _ _ _ _ _); first | refine Owed.none_ ?_ | refine Owed.nil_ ?_ | refine Owed.miss rfl ?_ | refine Owed.hit ?_ ?_) | ((with_reducible show Same _ _ _ _ _); intro _; go_simp; done) | (with_reducible exact True.intro))
  go_ret
  exact ⟨rfl, HBL.out⟩

end Go.Proofs.YtgfhkaamkodpjaaDoor
