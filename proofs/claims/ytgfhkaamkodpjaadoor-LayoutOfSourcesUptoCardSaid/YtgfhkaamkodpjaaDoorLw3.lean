/- the laws' helper agrees: the layout's Insert and the reference's give the same -/
import Derived.Test.YtgfhkaamkodpjaaDoorLw2
namespace Go.Proofs.YtgfhkaamkodpjaaDoor
open Go Go.RowKit
set_option maxHeartbeats 8000000
attribute [local irreducible] kwB syB clB

theorem foldS_inv : ∀ (l : List Tok) (x : Ins) (k : Nat), TokInv x k → (foldS l x).2 = none → TokInv (foldS l x).1 (k + l.length)
  | [], x, k, h, _ => h
  | t :: r, x, k, h, h0 => by
    rw [foldS_cons] at h0 ⊢
    split at h0
    · rename_i he
      rw [if_pos he]
      have := foldS_inv r _ (k + 1) (tokenS_inv t h he) h0
      rw [show k + 1 + r.length = k + (t :: r).length from by simp; omega] at this
      exact this
    · cases h0
theorem insS_len (l : List Tok) : (insS l).1.length ≤ 65 + 67 * l.length := by
  unfold insS
  cases h : foldS l startIns with
  | mk x o =>
    cases o with
    | some pe => simp
    | none =>
      have hi := foldS_inv l startIns 0 TokInv.start (by rw [h])
      rw [h] at hi
      dsimp only
      split
      · simp
      · have h1 := hi.out
        have h2 := hi.nest
        dsimp only at h1 h2
        simp only [closeAll, List.length_append, List.length_replicate]
        omega

set_option maxRecDepth 100000 in
theorem agrees_any (B B1 : Nat) (A : Option Addr) (n c : Nat) (l : List Tok) (w : World) (hR : Rd w B1 5 A n (cellsOf Tok.cells l)) (hB1 : B1 ≤ w.heap.size) (hG : Glob B w)
    (hn : n ≤ 10000000) (hs : ∀ t ∈ l, t.str.size ≤ 1000000000000) :
    Calls Tryd.prog 12 #[.slice A n c] w fun e w' => e = .returned (.bool true) ∧ Below w.heap.size w w' := by
  have HR := Lib.hid hR
  have HG := Lib.hid hG
  have HS := Lib.hid hs
  have HLN := Lib.hid (hR.len Tok.cells_len (by decide))
  clear hR hG hs
  go_enter Tryd.func12, Tryd.ntmps12
  go_wp2_with (first | ((with_reducible show wpPlan _ _ _ _ _ (Act.put _ _ _) _); simp only [List.getElem_toArray, List.getElem_cons_succ, List.getElem_cons_zero, Act.put, List.setIfInBounds_toArray, List.set_cons_zero, List.set_cons_succ]) | ((with_reducible show wpPlan _ _ _ _ _ _ _); first | refine wpPlan_nil ?_ | (refine wpPlan_read0 rfl ?hw rfl (fun _ _ _ => ?_); case hw => ((conv => (lhs; whnf)); first | done | with_reducible rfl)) | (refine wpPlan_read1d rfl ?hw rfl rfl (fun _ _ _ => ?_); case hw => ((conv => (lhs; whnf)); first | done | with_reducible rfl)) | (refine wpPlan_eff rfl ?hw (fun _ _ => ?_); case hw => ((conv => (lhs; whnf)); first | done | with_reducible rfl)) | (refine wpPlan_skip0 rfl ?hw ?_; case hw => ((conv => (lhs; whnf)); first | done | with_reducible rfl)) | (refine wpPlan_skip1d rfl ?hw ?_; case hw => ((conv => (lhs; whnf)); first | done | with_reducible rfl)) | (refine wpPlan_skip2 rfl ?hw ?_; case hw => ((conv => (lhs; whnf)); first | done | with_reducible rfl)) | (refine wpPlan_read1 rfl ?hw rfl (fun _ _ _ => ?_); case hw => ((conv => (lhs; whnf)); first | done | with_reducible rfl)) | refine wpPlan_fork ?_ ?_) | ((with_reducible show Owed _ _ _ _ _ _ _ _ _); first | refine Owed.none_ ?_ | refine Owed.nil_ ?_ | refine Owed.miss rfl ?_ | refine Owed.hit ?_ ?_) | ((with_reducible show Same _ _ _ _ _); intro _; go_simp; done) | (with_reducible exact True.intro))
  refine (linsert_any B B1 A n c l _ HR.out hB1 HG.out hn HS.out).mono ?_
  obtain ⟨⟨ol, op, oe⟩, hol⟩ : ∃ x, insS l = x := ⟨_, rfl⟩
  have hlen := insS_len l
  rw [hol] at hlen ⊢
  have HRI : Hid (rinsS l = (ol, op, oe)) := Lib.hid (by rw [← insS_eq, hol])
  have hol2 : ol.length ≤ 1000000000 := by
    have := HLN.out
    dsimp only at hlen
    omega
  clear hol hlen
  rintro e w1 ⟨⟨A1, n1, rfl, hR1, _⟩, hb1⟩
  have HR1 := Lib.hid hR1
  have HB1 := Lib.hid hb1
  have HL1 := Lib.hid (hR1.len Tok.cells_len (by decide))
  have HRa := Lib.hid ((HR.out.below (hb1.mono hB1)).alloc (Nat.le_trans hB1 hb1.size) (.cells #[.int .i64 op.line, .int .i64 op.col] 29))
  have HB1' := Lib.hid (Nat.le_trans hB1 hb1.size)
  clear hR1 hb1
  dsimp only [Pos.v]
  go_wp2_with (first | ((with_reducible show wpPlan _ _ _ _ _ (Act.put _ _ _) _); simp only [List.getElem_toArray, List.getElem_cons_succ, List.getElem_cons_zero, Act.put, List.setIfInBounds_toArray, List.set_cons_zero, List.set_cons_succ]) | ((with_reducible show wpPlan _ _ _ _ _ _ _); first | refine wpPlan_nil ?_ | (refine wpPlan_read0 rfl ?hw rfl (fun _ _ _ => ?_); case hw => ((conv => (lhs; whnf)); first | done | with_reducible rfl)) | (refine wpPlan_read1d rfl ?hw rfl rfl (fun _ _ _ => ?_); case hw => ((conv => (lhs; whnf)); first | done | with_reducible rfl)) | (refine wpPlan_eff rfl ?hw (fun _ _ => ?_); case hw => ((conv => (lhs; whnf)); first | done | with_reducible rfl)) | (refine wpPlan_skip0 rfl ?hw ?_; case hw => ((conv => (lhs; whnf)); first | done | with_reducible rfl)) | (refine wpPlan_skip1d rfl ?hw ?_; case hw => ((conv => (lhs; whnf)); first | done | with_reducible rfl)) | (refine wpPlan_skip2 rfl ?hw ?_; case hw => ((conv => (lhs; whnf)); first | done | with_reducible rfl)) | (refine wpPlan_read1 rfl ?hw rfl (fun _ _ _ => ?_); case hw => ((conv => (lhs; whnf)); first | done | with_reducible rfl)) | refine wpPlan_fork ?_ ?_) | ((with_reducible show Owed _ _ _ _ _ _ _ _ _); first | refine Owed.none_ ?_ | refine Owed.nil_ ?_ | refine Owed.miss rfl ?_ | refine Owed.hit ?_ ?_) | ((with_reducible show Same _ _ _ _ _); intro _; go_simp; done) | (with_reducible exact True.intro))
  refine (rinsert_any B1 A n c l _ HRa.out (by have := HB1'.out; simp; omega) hn HS.out).mono ?_
  rw [HRI.out]
  rintro e w2 ⟨⟨A2, n2, c2, rfl, hR2⟩, hb2⟩
  have HR2 := Lib.hid hR2
  have HB2 := Lib.hid hb2
  have HL2 := Lib.hid (hR2.len Tok.cells_len (by decide))
  have HRb := Lib.hid ((((HR1.out.alloc (Nat.le_refl _) (.cells #[.int .i64 op.line, .int .i64 op.col] 29)).below (hb2.mono (by simp))).more (by have := hb2.size; simp at this; omega : w1.heap.size ≤ w2.heap.size)).alloc (Nat.le_refl _) (.cells #[.int .i64 op.line, .int .i64 op.col] 29))
  have HRc := Lib.hid (hR2.alloc (Nat.le_refl _) (.cells #[.int .i64 op.line, .int .i64 op.col] 29))
  have HX1 := Lib.hid (((Blk.new w1 29 #[.int .i64 op.line, .int .i64 op.col]).below hb2 (by simp)).alloc (.cells #[.int .i64 op.line, .int .i64 op.col] 29))
  have HX2 := Lib.hid (Blk.new w2 29 #[.int .i64 op.line, .int .i64 op.col])
  clear hR2 hb2
  dsimp only [Pos.v]
  go_wp2_with (first | ((with_reducible show wpPlan _ _ _ _ _ (Act.put _ _ _) _); simp only [List.getElem_toArray, List.getElem_cons_succ, List.getElem_cons_zero, Act.put, List.setIfInBounds_toArray, List.set_cons_zero, List.set_cons_succ]) | ((with_reducible show wpPlan _ _ _ _ _ _ _); first | refine wpPlan_nil ?_ | (refine wpPlan_read0 rfl ?hw rfl (fun _ _ _ => ?_); case hw => ((conv => (lhs; whnf)); first | done | with_reducible rfl)) | (refine wpPlan_read1d rfl ?hw rfl rfl (fun _ _ _ => ?_); case hw => ((conv => (lhs; whnf)); first | done | with_reducible rfl)) | (refine wpPlan_eff rfl ?hw (fun _ _ => ?_); case hw => ((conv => (lhs; whnf)); first | done | with_reducible rfl)) | (refine wpPlan_skip0 rfl ?hw ?_; case hw => ((conv => (lhs; whnf)); first | done | with_reducible rfl)) | (refine wpPlan_skip1d rfl ?hw ?_; case hw => ((conv => (lhs; whnf)); first | done | with_reducible rfl)) | (refine wpPlan_skip2 rfl ?hw ?_; case hw => ((conv => (lhs; whnf)); first | done | with_reducible rfl)) | (refine wpPlan_read1 rfl ?hw rfl (fun _ _ _ => ?_); case hw => ((conv => (lhs; whnf)); first | done | with_reducible rfl)) | refine wpPlan_fork ?_ ?_) | ((with_reducible show Owed _ _ _ _ _ _ _ _ _); first | refine Owed.none_ ?_ | refine Owed.nil_ ?_ | refine Owed.miss rfl ?_ | refine Owed.hit ?_ ?_) | ((with_reducible show Same _ _ _ _ _); intro _; go_simp; done) | (with_reducible exact True.intro))
  have e12 : n1 = n2 := by rw [← HL1.out, HL2.out]
  subst e12
  refine (equal_same A1 A2 n1 n1 c2 _ ol _ HRb.out HRc.out (by simp) (by have := HL1.out; omega)).mono ?_
  rintro e w3 ⟨rfl, hb3⟩
  have hx1 := (HX1.out.below hb3 HX1.out.lt)
  have hx2 := (HX2.out.below hb3 HX2.out.lt)
  have hc1 := hx1.cell
  have hc2 := hx2.cell
  have hl1 := hx1.lt
  have hl2 := hx2.lt
  have HBL : Hid (Below w.heap.size w w3) := Lib.hid ((((HB1.out.alloc HB1.out.size _).trans (HB2.out.mono (by simp; have := HB1.out.size; omega))).alloc (by have h1 := HB1.out.size; have h2 := HB2.out.size; simp at h2; omega) _).trans (hb3.mono (by have h1 := HB1.out.size; have h2 := HB2.out.size; simp at h2 ⊢; omega)))
  clear hb3 hx1 hx2
  go_wp2_with (first | ((with_reducible show wpPlan _ _ _ _ _ (Act.put _ _ _) _); simp only [List.getElem_toArray, List.getElem_cons_succ, List.getElem_cons_zero, Act.put, List.setIfInBounds_toArray, List.set_cons_zero, List.set_cons_succ]) | ((with_reducible show wpPlan _ _ _ _ _ _ _); first | refine wpPlan_nil ?_ | (refine wpPlan_read0 rfl ?hw rfl (fun _ _ _ => ?_); case hw => ((conv => (lhs; whnf)); first | done | with_reducible rfl)) | (refine wpPlan_read1d rfl ?hw rfl rfl (fun _ _ _ => ?_); case hw => ((conv => (lhs; whnf)); first | done | with_reducible rfl)) | (refine wpPlan_eff rfl ?hw (fun _ _ => ?_); case hw => ((conv => (lhs; whnf)); first | done | with_reducible rfl)) | (refine wpPlan_skip0 rfl ?hw ?_; case hw => ((conv => (lhs; whnf)); first | done | with_reducible rfl)) | (refine wpPlan_skip1d rfl ?hw ?_; case hw => ((conv => (lhs; whnf)); first | done | with_reducible rfl)) | (refine wpPlan_skip2 rfl ?hw ?_; case hw => ((conv => (lhs; whnf)); first | done | with_reducible rfl)) | (refine wpPlan_read1 rfl ?hw rfl (fun _ _ _ => ?_); case hw => ((conv => (lhs; whnf)); first | done | with_reducible rfl)) | refine wpPlan_fork ?_ ?_) | ((with_reducible show Owed _ _ _ _ _ _ _ _ _); first | refine Owed.none_ ?_ | refine Owed.nil_ ?_ | refine Owed.miss rfl ?_ | refine Owed.hit ?_ ?_) | ((with_reducible show Same _ _ _ _ _); intro _; go_simp; done) | (with_reducible exact True.intro))
  go_ret
  exact ⟨rfl, HBL.out⟩

end Go.Proofs.YtgfhkaamkodpjaaDoor
