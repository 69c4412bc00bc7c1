/- sane's walk -/
import Derived.Test.YtonpdclccgpceaaRwPs
import Derived.Test.YtonpdclccgpceaaRwG3
namespace Go.Proofs.Ytonpdclccgpceaa
open Go Go.RowKit
set_option maxHeartbeats 8000000

theorem one_rd (w : World) : RdL (((w.alloc (.cells #[.int .i64 2, .int .i64 0] 55)).alloc (.cells #[.slice (some ⟨w.heap.size, 0, none⟩) 1 1] 49)).alloc (.cells #[.slice (some ⟨w.heap.size + 1, 0, none⟩) 1 1] 25))
    (w.heap.size + 2) (some ⟨w.heap.size + 1, 0, none⟩) 1 oneL := by
  have h1 : Blk (w.alloc (.cells #[.int .i64 2, .int .i64 0] 55)) w.heap.size 55 #[.int .i64 2, .int .i64 0] := Blk.new _ _ _
  have h2 : Blk ((w.alloc (.cells #[.int .i64 2, .int .i64 0] 55)).alloc (.cells #[.slice (some ⟨w.heap.size, 0, none⟩) 1 1] 49)) (w.heap.size + 1) 49 #[.slice (some ⟨w.heap.size, 0, none⟩) 1 1] := heap_alloc_at (by simp)
  have h1' := (h1.alloc (.cells #[.slice (some ⟨w.heap.size, 0, none⟩) 1 1] 49)).alloc (.cells #[.slice (some ⟨w.heap.size + 1, 0, none⟩) 1 1] 25)
  have h2' := h2.alloc (.cells #[.slice (some ⟨w.heap.size + 1, 0, none⟩) 1 1] 25)
  refine ⟨[.slice (some ⟨w.heap.size, 0, none⟩) 1 1], Rd.ofBlk (t := 49) h2' rfl, rfl, fun i l hl => ?_⟩
  match i with
  | 0 =>
    have : l = [⟨2, 0⟩] := by simpa [oneL] using hl.symm
    subst this
    exact ⟨_, 1, 1, rfl, (Rd.ofBlk (t := 55) (cs := cellsOf Arc.cells [⟨2, 0⟩]) h1' rfl).more (by omega)⟩
  | i + 1 => simp [oneL] at hl
theorem one_len : (packB oneL).length = 12 := by rw [one_pack]; rfl
theorem one_take {w : World} {B : Nat} {A : Option Addr} (h : Rd w B 1 A 12 (cellsOf ucell (packB oneL))) : Rd w B 1 A 8 (cellsOf ucell [67, 82, 1, 1, 3, 1, 2, 0]) := by
  refine ⟨rfl, fun _ => ?_⟩
  obtain ⟨b, o, e, hb, hc⟩ := h.2 (by decide)
  refine ⟨b, o, e, hb, fun j u hu => hc j u ?_⟩
  rw [one_pack, cellsOf_append]
  rw [List.getElem?_append_left (List.getElem?_eq_some_iff.1 hu).1]
  exact hu

set_option maxRecDepth 100000 in
theorem sane_any (w : World) : Calls Try.prog 17 #[] w fun e w' => e = .returned (.bool true) ∧ Below w.heap.size w w' := by
  have HR0 := Lib.hid (one_rd w)
  have HB0 := Lib.hid (below3 (w := w) (.cells #[.int .i64 2, .int .i64 0] 55) (.cells #[.slice (some ⟨w.heap.size, 0, none⟩) 1 1] 49) (.cells #[.slice (some ⟨w.heap.size + 1, 0, none⟩) 1 1] 25))
  have HS0 := Lib.hid (show w.heap.size + 2 ≤ (((w.alloc (.cells #[.int .i64 2, .int .i64 0] 55)).alloc (.cells #[.slice (some ⟨w.heap.size, 0, none⟩) 1 1] 49)).alloc (.cells #[.slice (some ⟨w.heap.size + 1, 0, none⟩) 1 1] 25)).heap.size by simp)
  go_enter Try.func17, Try.ntmps17
  go_wp2_with (first | ((with_reducible show wpPlan _ _ _ [] _ _ _); refine wpPlan_nil ?_) | ((with_reducible show wpPlan _ _ _ ((_, 0, _) :: _) _ _ _); first | (refine wpPlan_read0 rfl ?hw rfl (fun _ _ _ => ?_); case hw => ((conv => (lhs; whnf)); first | done | with_reducible rfl)) | (refine wpPlan_skip0 rfl ?hw ?_; (case hw => ((conv => (lhs; whnf)); first | done | with_reducible rfl)); (try simp only [List.getElem_toArray, List.getElem_cons_succ, List.getElem_cons_zero, Act.put, List.setIfInBounds_toArray, List.set_cons_zero, List.set_cons_succ]))) | ((with_reducible show wpPlan _ _ _ ((_, 1, _) :: _) _ _ _); first | (refine wpPlan_read1d rfl ?hw rfl rfl (fun _ _ _ => ?_); case hw => ((conv => (lhs; whnf)); first | done | with_reducible rfl)) | (refine wpPlan_skip1d rfl ?hw ?_; (case hw => ((conv => (lhs; whnf)); first | done | with_reducible rfl)); (try simp only [List.getElem_toArray, List.getElem_cons_succ, List.getElem_cons_zero, Act.put, List.setIfInBounds_toArray, List.set_cons_zero, List.set_cons_succ])) | (refine wpPlan_read1 rfl ?hw rfl (fun _ _ _ => ?_); case hw => ((conv => (lhs; whnf)); first | done | with_reducible rfl))) | ((with_reducible show wpPlan _ _ _ ((_, 2, _) :: _) _ _ _); first | (refine wpPlan_eff rfl ?hw (fun _ _ => ?_); case hw => ((conv => (lhs; whnf)); first | done | with_reducible rfl)) | (refine wpPlan_skip2 rfl ?hw ?_; (case hw => ((conv => (lhs; whnf)); first | done | with_reducible rfl)); (try simp only [List.getElem_toArray, List.getElem_cons_succ, List.getElem_cons_zero, Act.put, List.setIfInBounds_toArray, List.set_cons_zero, List.set_cons_succ]))) | ((with_reducible show wpPlan _ _ _ _ _ _ _); refine wpPlan_fork ?_ ?_) | ((with_reducible show Owed _ _ _ [] _ _ _ _ _); refine Owed.none_ ?_) | ((with_reducible show Owed _ _ _ _ [] _ _ _ _); refine Owed.nil_ ?_) | ((with_reducible show Owed _ _ _ _ _ _ _ _ _); first | (refine Owed.miss rfl ?_) | (refine Owed.hit ?_ ?_)) | ((with_reducible show Same _ _ _ _ _); intro _; go_simp; done) | (with_reducible exact True.intro))
  refine (pkg_any _ 1 1 (w.heap.size + 2) oneL _ HR0.out HS0.out (by decide) (by decide) (fun _ => by rw [one_len]; decide)).mono ?_
  rintro e w1 ⟨hres, hb1⟩
  rcases hres with ⟨hq, _⟩ | ⟨_, v1, rfl, ho1, hf1⟩
  · rw [one_valid] at hq; cases hq
  obtain ⟨A1, c1, rfl, hc1, _⟩ := ho1.form
  have hR1 := ho1.rd
  rw [one_len] at hR1 hc1
  have HB1 := Lib.hid (HB0.out.trans (hb1.mono HB0.out.size))
  have HR1 := Lib.hid hR1
  obtain ⟨b1, o1, eA, hbl, _⟩ := hR1.2 (by decide)
  subst eA
  rw [one_len]
  clear hb1 ho1 hf1 hR1
  go_wp2_with (first | ((with_reducible show wpPlan _ _ _ [] _ _ _); refine wpPlan_nil ?_) | ((with_reducible show wpPlan _ _ _ ((_, 0, _) :: _) _ _ _); first | (refine wpPlan_read0 rfl ?hw rfl (fun _ _ _ => ?_); case hw => ((conv => (lhs; whnf)); first | done | with_reducible rfl)) | (refine wpPlan_skip0 rfl ?hw ?_; (case hw => ((conv => (lhs; whnf)); first | done | with_reducible rfl)); (try simp only [List.getElem_toArray, List.getElem_cons_succ, List.getElem_cons_zero, Act.put, List.setIfInBounds_toArray, List.set_cons_zero, List.set_cons_succ]))) | ((with_reducible show wpPlan _ _ _ ((_, 1, _) :: _) _ _ _); first | (refine wpPlan_read1d rfl ?hw rfl rfl (fun _ _ _ => ?_); case hw => ((conv => (lhs; whnf)); first | done | with_reducible rfl)) | (refine wpPlan_skip1d rfl ?hw ?_; (case hw => ((conv => (lhs; whnf)); first | done | with_reducible rfl)); (try simp only [List.getElem_toArray, List.getElem_cons_succ, List.getElem_cons_zero, Act.put, List.setIfInBounds_toArray, List.set_cons_zero, List.set_cons_succ])) | (refine wpPlan_read1 rfl ?hw rfl (fun _ _ _ => ?_); case hw => ((conv => (lhs; whnf)); first | done | with_reducible rfl))) | ((with_reducible show wpPlan _ _ _ ((_, 2, _) :: _) _ _ _); first | (refine wpPlan_eff rfl ?hw (fun _ _ => ?_); case hw => ((conv => (lhs; whnf)); first | done | with_reducible rfl)) | (refine wpPlan_skip2 rfl ?hw ?_; (case hw => ((conv => (lhs; whnf)); first | done | with_reducible rfl)); (try simp only [List.getElem_toArray, List.getElem_cons_succ, List.getElem_cons_zero, Act.put, List.setIfInBounds_toArray, List.set_cons_zero, List.set_cons_succ]))) | ((with_reducible show wpPlan _ _ _ _ _ _ _); refine wpPlan_fork ?_ ?_) | ((with_reducible show Owed _ _ _ [] _ _ _ _ _); refine Owed.none_ ?_) | ((with_reducible show Owed _ _ _ _ [] _ _ _ _); refine Owed.nil_ ?_) | ((with_reducible show Owed _ _ _ _ _ _ _ _ _); first | (refine Owed.miss rfl ?_) | (refine Owed.hit ?_ ?_)) | ((with_reducible show Same _ _ _ _ _); intro _; go_simp; done) | (with_reducible exact True.intro))
  refine (unpackNil_any _).mono ?_
  rintro e w2 ⟨rfl, hb2⟩
  have HB2 := Lib.hid ((HB1.out.trans (hb2.mono HB1.out.size)).alloc (Nat.le_trans HB1.out.size hb2.size) (.cells #[.slice none 0 0] 25))
  have HR2 := (one_take HR1.out).below hb2
  have k2 := conv_any (c := c1) (w2.alloc (.cells #[.slice none 0 0] 25)) (HR2.alloc hb2.size _) (by decide)
  rw [one_str] at k2
  clear hb2 HR2
  go_wp2_with (first | ((with_reducible show wpPlan _ _ _ [] _ _ _); refine wpPlan_nil ?_) | ((with_reducible show wpPlan _ _ _ ((_, 0, _) :: _) _ _ _); first | (refine wpPlan_read0 rfl ?hw rfl (fun _ _ _ => ?_); case hw => ((conv => (lhs; whnf)); first | done | with_reducible rfl)) | (refine wpPlan_skip0 rfl ?hw ?_; (case hw => ((conv => (lhs; whnf)); first | done | with_reducible rfl)); (try simp only [List.getElem_toArray, List.getElem_cons_succ, List.getElem_cons_zero, Act.put, List.setIfInBounds_toArray, List.set_cons_zero, List.set_cons_succ]))) | ((with_reducible show wpPlan _ _ _ ((_, 1, _) :: _) _ _ _); first | (refine wpPlan_read1d rfl ?hw rfl rfl (fun _ _ _ => ?_); case hw => ((conv => (lhs; whnf)); first | done | with_reducible rfl)) | (refine wpPlan_skip1d rfl ?hw ?_; (case hw => ((conv => (lhs; whnf)); first | done | with_reducible rfl)); (try simp only [List.getElem_toArray, List.getElem_cons_succ, List.getElem_cons_zero, Act.put, List.setIfInBounds_toArray, List.set_cons_zero, List.set_cons_succ])) | (refine wpPlan_read1 rfl ?hw rfl (fun _ _ _ => ?_); case hw => ((conv => (lhs; whnf)); first | done | with_reducible rfl))) | ((with_reducible show wpPlan _ _ _ ((_, 2, _) :: _) _ _ _); first | (refine wpPlan_eff rfl ?hw (fun _ _ => ?_); case hw => ((conv => (lhs; whnf)); first | done | with_reducible rfl)) | (refine wpPlan_skip2 rfl ?hw ?_; (case hw => ((conv => (lhs; whnf)); first | done | with_reducible rfl)); (try simp only [List.getElem_toArray, List.getElem_cons_succ, List.getElem_cons_zero, Act.put, List.setIfInBounds_toArray, List.set_cons_zero, List.set_cons_succ]))) | ((with_reducible show wpPlan _ _ _ _ _ _ _); refine wpPlan_fork ?_ ?_) | ((with_reducible show Owed _ _ _ [] _ _ _ _ _); refine Owed.none_ ?_) | ((with_reducible show Owed _ _ _ _ [] _ _ _ _); refine Owed.nil_ ?_) | ((with_reducible show Owed _ _ _ _ _ _ _ _ _); first | (refine Owed.miss rfl ?_) | (refine Owed.hit ?_ ?_)) | ((with_reducible show Same _ _ _ _ _); intro _; go_simp; done) | (with_reducible exact True.intro))
  go_ret
  exact ⟨ret_bool (by simp), HB2.out⟩

end Go.Proofs.Ytonpdclccgpceaa
