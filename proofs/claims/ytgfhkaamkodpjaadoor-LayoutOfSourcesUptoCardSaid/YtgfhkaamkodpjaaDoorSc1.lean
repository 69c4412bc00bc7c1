/- the reference's scanner: its cursor in memory; walks of step and at -/
import Derived.Test.YtgfhkaamkodpjaaDoorTok
import Derived.Test.YtgfhkaamkodpjaaDoorPlan2
import Derived.Deep.LoopGhost
namespace Go.Proofs.YtgfhkaamkodpjaaDoor
open Go Go.RowKit
set_option maxHeartbeats 4000000
attribute [local irreducible] kwB syB clB

def stepP (c : UInt8) (p : Pos) : Pos := if c = 10 then ⟨p.line + 1, 1⟩ else ⟨p.line, p.col + 1⟩
def posAfter (l : List UInt8) (p : Pos) : Pos := l.foldl (fun p c => stepP c p) p
theorem posAfter_nil (p : Pos) : posAfter [] p = p := rfl
theorem posAfter_cons (c : UInt8) (l : List UInt8) (p : Pos) : posAfter (c :: l) p = posAfter l (stepP c p) := rfl
theorem posAfter_append (a b : List UInt8) (p : Pos) : posAfter (a ++ b) p = posAfter b (posAfter a p) := by simp [posAfter]

/-- a place that i bytes can have led to -/
def PosIn (p : Pos) (i : Nat) : Prop := 0 ≤ p.line ∧ p.line ≤ 1 + (i : Int) ∧ 0 ≤ p.col ∧ p.col ≤ 1 + (i : Int)
theorem PosIn.step {p : Pos} {i : Nat} (c : UInt8) (h : PosIn p i) : PosIn (stepP c p) (i + 1) := by
  obtain ⟨h1, h2, h3, h4⟩ := h
  unfold stepP PosIn
  split
  · refine ⟨?_, ?_, ?_, ?_⟩ <;> dsimp only <;> omega
  · refine ⟨?_, ?_, ?_, ?_⟩ <;> dsimp only <;> omega

/-- the cursor at b: the source s, the place i of the next byte, its line and column -/
def CurAt (w : World) (b : Nat) (s : ByteArray) (i : Nat) (p : Pos) : Prop := Blk w b 54 #[.string s, .int .i64 i, .int .i64 p.line, .int .i64 p.col]
section
variable {w w' : World} {b i : Nat} {s : ByteArray} {p : Pos} {R : Nat → Prop}
theorem CurAt.lt (h : CurAt w b s i p) : b < w.heap.size := Blk.lt h
theorem CurAt.cell (h : CurAt w b s i p) : ∀ j, w.cell? ⟨b, j, none⟩ = #[.string s, .int .i64 i, .int .i64 p.line, .int .i64 p.col][j]? := Blk.cell h
theorem CurAt.free (h : CurAt w b s i p) : ∀ j, w.frozen? ⟨b, j, none⟩ = false := Blk.frozen h
theorem CurAt.out (h : CurAt w b s i p) (ho : Outside R w w') (hb : ¬ R b) : CurAt w' b s i p := Blk.out h ho hb
theorem CurAt.below (h : CurAt w b s i p) (hb : Below w.heap.size w w') : CurAt w' b s i p := Blk.below h hb h.lt
theorem CurAt.drew (h : CurAt w b s i p) : CurAt w.drew b s i p := h
end

theorem cstep_any (b : Nat) (s : ByteArray) (i : Nat) (p : Pos) (w : World) (h : CurAt w b s i p) (hi : i < s.size) (hs : s.size ≤ 1000000000000) (hp : PosIn p i) :
    Calls Tryd.prog 31 #[.pointer (some ⟨b, 0, none⟩)] w fun e w' => e = .returned (.tuple #[]) ∧ CurAt w' b s (i + 1) (stepP s[i] p) ∧ Outside (fun k => k = b) w w' := by
  obtain ⟨h1, h2, h3, h4⟩ := hp
  have hC := h.cell
  have hf := h.free
  have hb := h.lt
  have HC := Lib.hid h
  clear h
  by_cases hc : s[i] = 10
  · have hcb : (((s[i]).toNat : Int) == 10) = true := by rw [hc]; rfl
    have HCC := Lib.hid hc
    clear hc
    go_enter Tryd.func31, Tryd.ntmps31
    go_wp2_with (first | ((with_reducible show wpPlan _ _ _ _ _ (Act.put _ _ _) _); simp only [List.getElem_toArray, List.getElem_cons_succ, List.getElem_cons_zero, Act.put, List.setIfInBounds_toArray, List.set_cons_zero, List.set_cons_succ]) | ((with_reducible show wpPlan _ _ _ _ _ _ _); first | refine wpPlan_nil ?_ | (refine wpPlan_read0 rfl ?hw rfl (fun _ _ _ => ?_); case hw => ((conv => (lhs; whnf)); first | done | with_reducible rfl)) | (refine wpPlan_read1d rfl ?hw rfl rfl (fun _ _ _ => ?_); case hw => ((conv => (lhs; whnf)); first | done | with_reducible rfl)) | (refine wpPlan_eff rfl ?hw (fun _ _ => ?_); case hw => ((conv => (lhs; whnf)); first | done | with_reducible rfl)) | (refine wpPlan_skip0 rfl ?hw ?_; case hw => ((conv => (lhs; whnf)); first | done | with_reducible rfl)) | (refine wpPlan_skip1d rfl ?hw ?_; case hw => ((conv => (lhs; whnf)); first | done | with_reducible rfl)) | (refine wpPlan_skip2 rfl ?hw ?_; case hw => ((conv => (lhs; whnf)); first | done | with_reducible rfl)) | (refine wpPlan_read1 rfl ?hw rfl (fun _ _ _ => ?_); case hw => ((conv => (lhs; whnf)); first | done | with_reducible rfl)) | refine wpPlan_fork ?_ ?_) | ((with_reducible show Owed _ _ _ _ _ _ _ _ _); first | refine Owed.none_ ?_ | refine Owed.nil_ ?_ | refine Owed.miss rfl ?_ | refine Owed.hit ?_ ?_) | ((with_reducible show Same _ _ _ _ _); intro _; go_simp; done) | (with_reducible exact True.intro) | ((with_reducible show Code.wp _ (Code.region 0 _ true) _ _ _); refine wp_region_plan [(0, 0, []), (1, 1, []), (2, 1, []), (3, 1, []), (4, 0, []), (5, 1, []), (6, 1, []), (7, 1, []), (8, 1, []), (9, 1, [])] (by kernel_rfl) (by kernel_rfl) (by kernel_rfl) ?_))
    go_end0
    refine ⟨rfl, ?_, ?_⟩
    · unfold stepP
      rw [if_pos HCC.out]
      exact ((Blk.put HC.out 2 _).put 3 _).put 1 _
    · exact (((Outside.refl (fun k => k = b) w).drew.setCell (p := ⟨b, 2, none⟩) (.inl rfl) _).setCell (p := ⟨b, 3, none⟩) (.inl rfl) _).setCell (p := ⟨b, 1, none⟩) (.inl rfl) _
  · have hcb : (((s[i]).toNat : Int) == 10) = false := by
      rw [beq_eq_false_iff_ne]
      intro e
      exact hc (UInt8.toNat_inj.1 (by show s[i].toNat = 10; omega))
    have HCC := Lib.hid hc
    clear hc
    go_enter Tryd.func31, Tryd.ntmps31
    go_wp2_with (first | ((with_reducible show wpPlan _ _ _ _ _ (Act.put _ _ _) _); simp only [List.getElem_toArray, List.getElem_cons_succ, List.getElem_cons_zero, Act.put, List.setIfInBounds_toArray, List.set_cons_zero, List.set_cons_succ]) | ((with_reducible show wpPlan _ _ _ _ _ _ _); first | refine wpPlan_nil ?_ | (refine wpPlan_read0 rfl ?hw rfl (fun _ _ _ => ?_); case hw => ((conv => (lhs; whnf)); first | done | with_reducible rfl)) | (refine wpPlan_read1d rfl ?hw rfl rfl (fun _ _ _ => ?_); case hw => ((conv => (lhs; whnf)); first | done | with_reducible rfl)) | (refine wpPlan_eff rfl ?hw (fun _ _ => ?_); case hw => ((conv => (lhs; whnf)); first | done | with_reducible rfl)) | (refine wpPlan_skip0 rfl ?hw ?_; case hw => ((conv => (lhs; whnf)); first | done | with_reducible rfl)) | (refine wpPlan_skip1d rfl ?hw ?_; case hw => ((conv => (lhs; whnf)); first | done | with_reducible rfl)) | (refine wpPlan_skip2 rfl ?hw ?_; case hw => ((conv => (lhs; whnf)); first | done | with_reducible rfl)) | (refine wpPlan_read1 rfl ?hw rfl (fun _ _ _ => ?_); case hw => ((conv => (lhs; whnf)); first | done | with_reducible rfl)) | refine wpPlan_fork ?_ ?_) | ((with_reducible show Owed _ _ _ _ _ _ _ _ _); first | refine Owed.none_ ?_ | refine Owed.nil_ ?_ | refine Owed.miss rfl ?_ | refine Owed.hit ?_ ?_) | ((with_reducible show Same _ _ _ _ _); intro _; go_simp; done) | (with_reducible exact True.intro) | ((with_reducible show Code.wp _ (Code.region 0 _ true) _ _ _); refine wp_region_plan [(0, 0, []), (1, 1, []), (2, 1, []), (3, 1, []), (4, 0, []), (5, 1, []), (6, 1, []), (7, 1, []), (8, 1, []), (9, 1, [])] (by kernel_rfl) (by kernel_rfl) (by kernel_rfl) ?_))
    go_end0
    refine ⟨rfl, ?_, ?_⟩
    · unfold stepP
      rw [if_neg HCC.out]
      exact (Blk.put HC.out 3 _).put 1 _
    · exact ((Outside.refl (fun k => k = b) w).drew.setCell (p := ⟨b, 3, none⟩) (.inl rfl) _).setCell (p := ⟨b, 1, none⟩) (.inl rfl) _

def startsW (t : List UInt8) (l : List UInt8) : Bool := t.isPrefixOf l
theorem ext_eq (s t : ByteArray) (i : Nat) (_h : i + t.size ≤ s.size) : ((s.extract i (i + t.size)).toList == t.toList) = startsW t.data.toList (s.data.toList.drop i) := by
  unfold startsW
  rw [ByteArray.toList_eq, ByteArray.toList_eq, Bool.eq_iff_iff, beq_iff_eq, List.isPrefixOf_iff_prefix, List.prefix_iff_eq_take, ByteArray.data_extract]
  have e : (s.data.extract i (i + t.size)).toList = (s.data.toList.drop i).take t.size := by
    simp [Array.toList_extract, List.extract]
  rw [e, blen]
  exact eq_comm

theorem cat_any (b : Nat) (s : ByteArray) (i : Nat) (p : Pos) (t : ByteArray) (w : World) (h : CurAt w b s i p) (hi : i ≤ s.size) (hs : s.size ≤ 1000000000000) (ht : t.size ≤ 1000000) :
    Calls Tryd.prog 54 #[.pointer (some ⟨b, 0, none⟩), .string t] w fun e w' => e = .returned (.bool (startsW t.data.toList (s.data.toList.drop i))) ∧ w.drew = w' := by
  have hC := h.cell
  have hb := h.lt
  clear h
  by_cases hle : i + t.size ≤ s.size
  · obtain ⟨q, hq⟩ : ∃ q, ((s.extract i (i + t.size)).toList == t.toList) = q := ⟨_, rfl⟩
    have HQ : Hid (startsW t.data.toList (s.data.toList.drop i) = q) := Lib.hid (by rw [← hq]; exact (ext_eq s t i hle).symm)
    have hleb : decide ((i : Int) + (t.size : Int) ≤ (s.size : Int)) = true := decide_eq_true (by omega)
    go_enter Tryd.func54, Tryd.ntmps54
    go_wp2_with (first | ((with_reducible show wpPlan _ _ _ _ _ (Act.put _ _ _) _); simp only [List.getElem_toArray, List.getElem_cons_succ, List.getElem_cons_zero, Act.put, List.setIfInBounds_toArray, List.set_cons_zero, List.set_cons_succ]) | ((with_reducible show wpPlan _ _ _ _ _ _ _); first | refine wpPlan_nil ?_ | (refine wpPlan_read0 rfl ?hw rfl (fun _ _ _ => ?_); case hw => ((conv => (lhs; whnf)); first | done | with_reducible rfl)) | (refine wpPlan_read1d rfl ?hw rfl rfl (fun _ _ _ => ?_); case hw => ((conv => (lhs; whnf)); first | done | with_reducible rfl)) | (refine wpPlan_eff rfl ?hw (fun _ _ => ?_); case hw => ((conv => (lhs; whnf)); first | done | with_reducible rfl)) | (refine wpPlan_skip0 rfl ?hw ?_; case hw => ((conv => (lhs; whnf)); first | done | with_reducible rfl)) | (refine wpPlan_skip1d rfl ?hw ?_; case hw => ((conv => (lhs; whnf)); first | done | with_reducible rfl)) | (refine wpPlan_skip2 rfl ?hw ?_; case hw => ((conv => (lhs; whnf)); first | done | with_reducible rfl)) | (refine wpPlan_read1 rfl ?hw rfl (fun _ _ _ => ?_); case hw => ((conv => (lhs; whnf)); first | done | with_reducible rfl)) | refine wpPlan_fork ?_ ?_) | ((with_reducible show Owed _ _ _ _ _ _ _ _ _); first | refine Owed.none_ ?_ | refine Owed.nil_ ?_ | refine Owed.miss rfl ?_ | refine Owed.hit ?_ ?_) | ((with_reducible show Same _ _ _ _ _); intro _; go_simp; done) | (with_reducible exact True.intro) | ((with_reducible show Code.wp _ (Code.region 1 _ true) _ _ _); refine wp_region_plan [(0, 0, []), (1, 1, []), (2, 1, []), (3, 1, []), (4, 0, []), (5, 1, []), (6, 1, []), (7, 0, []), (8, 1, []), (9, 1, []), (10, 1, []), (11, 1, []), (12, 1, []), (13, 0, []), (14, 0, []), (15, 1, []), (16, 1, []), (17, 1, []), (18, 0, []), (19, 1, []), (20, 1, []), (21, 1, []), (22, 0, []), (23, 1, []), (24, 1, []), (25, 1, []), (26, 0, []), (27, 1, []), (28, 1, []), (29, 1, []), (30, 0, []), (31, 1, []), (32, 0, []), (33, 0, [])] (by kernel_rfl) (by kernel_rfl) (by kernel_rfl) ?_))
    go_ret
    exact ⟨ret_bool HQ.out.symm, rfl⟩
  · have HQ : Hid (startsW t.data.toList (s.data.toList.drop i) = false) := Lib.hid (by
      unfold startsW
      rw [Bool.eq_false_iff]
      intro hh
      have := (List.isPrefixOf_iff_prefix.1 hh).length_le
      rw [List.length_drop, blen, blen] at this
      omega)
    have hleb : decide ((i : Int) + (t.size : Int) ≤ (s.size : Int)) = false := decide_eq_false (by omega)
    go_enter Tryd.func54, Tryd.ntmps54
    go_wp2_with (first | ((with_reducible show wpPlan _ _ _ _ _ (Act.put _ _ _) _); simp only [List.getElem_toArray, List.getElem_cons_succ, List.getElem_cons_zero, Act.put, List.setIfInBounds_toArray, List.set_cons_zero, List.set_cons_succ]) | ((with_reducible show wpPlan _ _ _ _ _ _ _); first | refine wpPlan_nil ?_ | (refine wpPlan_read0 rfl ?hw rfl (fun _ _ _ => ?_); case hw => ((conv => (lhs; whnf)); first | done | with_reducible rfl)) | (refine wpPlan_read1d rfl ?hw rfl rfl (fun _ _ _ => ?_); case hw => ((conv => (lhs; whnf)); first | done | with_reducible rfl)) | (refine wpPlan_eff rfl ?hw (fun _ _ => ?_); case hw => ((conv => (lhs; whnf)); first | done | with_reducible rfl)) | (refine wpPlan_skip0 rfl ?hw ?_; case hw => ((conv => (lhs; whnf)); first | done | with_reducible rfl)) | (refine wpPlan_skip1d rfl ?hw ?_; case hw => ((conv => (lhs; whnf)); first | done | with_reducible rfl)) | (refine wpPlan_skip2 rfl ?hw ?_; case hw => ((conv => (lhs; whnf)); first | done | with_reducible rfl)) | (refine wpPlan_read1 rfl ?hw rfl (fun _ _ _ => ?_); case hw => ((conv => (lhs; whnf)); first | done | with_reducible rfl)) | refine wpPlan_fork ?_ ?_) | ((with_reducible show Owed _ _ _ _ _ _ _ _ _); first | refine Owed.none_ ?_ | refine Owed.nil_ ?_ | refine Owed.miss rfl ?_ | refine Owed.hit ?_ ?_) | ((with_reducible show Same _ _ _ _ _); intro _; go_simp; done) | (with_reducible exact True.intro) | ((with_reducible show Code.wp _ (Code.region 1 _ true) _ _ _); refine wp_region_plan [(0, 0, []), (1, 1, []), (2, 1, []), (3, 1, []), (4, 0, []), (5, 1, []), (6, 1, []), (7, 0, []), (8, 1, []), (9, 1, []), (10, 1, []), (11, 1, []), (12, 1, []), (13, 0, []), (14, 0, []), (15, 1, []), (16, 1, []), (17, 1, []), (18, 0, []), (19, 1, []), (20, 1, []), (21, 1, []), (22, 0, []), (23, 1, []), (24, 1, []), (25, 1, []), (26, 0, []), (27, 1, []), (28, 1, []), (29, 1, []), (30, 0, []), (31, 1, []), (32, 0, []), (33, 0, [])] (by kernel_rfl) (by kernel_rfl) (by kernel_rfl) ?_))
    go_ret
    exact ⟨ret_bool HQ.out.symm, rfl⟩

end Go.Proofs.YtgfhkaamkodpjaaDoor
