/- a row of an opened system is read: Row's walk -/
import Derived.Test.YtonpdclccgpceaaRwO2
namespace Go.Proofs.Ytonpdclccgpceaa
open Go Go.RowKit
set_option maxHeartbeats 8000000

/-- what Row gives -/
def RowAns (w : World) (ls : List (List Arc)) (i : Int) (e : Ending) (w' : World) : Prop :=
  ∃ (A : Option Addr) (n c : Nat) (l : List Arc), e = .returned (.slice A n c) ∧ Rd w' w'.heap.size 2 A n (cellsOf Arc.cells l) ∧ n ≤ 262144 ∧ Below w.heap.size w w' ∧ (0 ≤ i → i < ls.length → ls[i.toNat]? = some l) ∧ ((i < 0 ∨ (ls.length : Int) ≤ i) → n = 0)

set_option maxRecDepth 100000 in
theorem rowIn_any (W g : Nat) (vb vs : Value) (ls : List (List Arc)) (k : Nat) (w : World) (h : OpAt w W g vb vs ls) (hv : validB ls = true) (hp : (packB ls).length ≤ 1048576) (hk : k < ls.length) :
    Calls Try.prog 28 #[.pointer (some ⟨g, 0, none⟩), .int .i64 k] w (RowAns w ls k) := by
  have hn2 := (Pk.of hv).n2
  obtain ⟨Ab, cb, rfl, _, _⟩ := own_form h.own
  obtain ⟨As, cs, rfl, _, _⟩ := own_form h.st
  obtain ⟨bs, os, q0, rfl, hbs, hq0, c0⟩ := (Rd.ofOwn h.st).nat (i := k / 16) (by omega)
  have hq1 : q0 = startK ls (k / 16) := by
    rw [List.getElem?_map, List.getElem?_range (by omega)] at hq0
    simpa using hq0.symm
  have hql := startK_le ls (k / 16)
  have hqd := startK_drop ls (k / 16)
  rw [← hq1] at hql hqd
  have H := Lib.hid h
  have HV := Lib.hid hv
  have HR := Lib.hid h.own.rd
  obtain ⟨n, hn⟩ : ∃ n, ls.length = n := ⟨_, rfl⟩
  obtain ⟨m, hm⟩ : ∃ m, (packB ls).length = m := ⟨_, rfl⟩
  have HN := Lib.hid (And.intro hn hm)
  have HQD := Lib.hid hqd
  have gc := h.blk.cell
  have gl := h.blk.lt
  rw [hn] at hk hn2 gc
  rw [hm] at hp hql gc HR
  clear h hv hq0 hq1 hqd hn hm
  go_enter Try.func28, Try.ntmps28
  go_wp2_with (first | ((with_reducible show wpPlan _ _ _ [] _ _ _); refine wpPlan_nil ?_) | ((with_reducible show wpPlan _ _ _ ((_, 0, _) :: _) _ _ _); first | (refine wpPlan_read0 rfl ?hw rfl (fun _ _ _ => ?_); case hw => ((conv => (lhs; whnf)); first | done | with_reducible rfl)) | (refine wpPlan_skip0 rfl ?hw ?_; (case hw => ((conv => (lhs; whnf)); first | done | with_reducible rfl)); (try simp only [List.getElem_toArray, List.getElem_cons_succ, List.getElem_cons_zero, Act.put, List.setIfInBounds_toArray, List.set_cons_zero, List.set_cons_succ]))) | ((with_reducible show wpPlan _ _ _ ((_, 1, _) :: _) _ _ _); first | (refine wpPlan_read1d rfl ?hw rfl rfl (fun _ _ _ => ?_); case hw => ((conv => (lhs; whnf)); first | done | with_reducible rfl)) | (refine wpPlan_skip1d rfl ?hw ?_; (case hw => ((conv => (lhs; whnf)); first | done | with_reducible rfl)); (try simp only [List.getElem_toArray, List.getElem_cons_succ, List.getElem_cons_zero, Act.put, List.setIfInBounds_toArray, List.set_cons_zero, List.set_cons_succ])) | (refine wpPlan_read1 rfl ?hw rfl (fun _ _ _ => ?_); case hw => ((conv => (lhs; whnf)); first | done | with_reducible rfl))) | ((with_reducible show wpPlan _ _ _ ((_, 2, _) :: _) _ _ _); first | (refine wpPlan_eff rfl ?hw (fun _ _ => ?_); case hw => ((conv => (lhs; whnf)); first | done | with_reducible rfl)) | (refine wpPlan_skip2 rfl ?hw ?_; (case hw => ((conv => (lhs; whnf)); first | done | with_reducible rfl)); (try simp only [List.getElem_toArray, List.getElem_cons_succ, List.getElem_cons_zero, Act.put, List.setIfInBounds_toArray, List.set_cons_zero, List.set_cons_succ]))) | ((with_reducible show wpPlan _ _ _ _ _ _ _); refine wpPlan_fork ?_ ?_) | ((with_reducible show Owed _ _ _ [] _ _ _ _ _); refine Owed.none_ ?_) | ((with_reducible show Owed _ _ _ _ [] _ _ _ _); refine Owed.nil_ ?_) | ((with_reducible show Owed _ _ _ _ _ _ _ _ _); first | (refine Owed.miss rfl ?_) | (refine Owed.hit ?_ ?_)) | ((with_reducible show Same _ _ _ _ _); intro _; go_simp; done) | (with_reducible exact True.intro) | ((with_reducible show Code.wp _ (Code.region 3 _ true) _ _ _); refine wp_region_plan [(0, 0, []), (1, 1, []), (2, 1, []), (3, 1, []), (4, 0, []), (5, 1, []), (6, 1, []), (7, 1, []), (8, 0, []), (9, 1, []), (10, 1, []), (11, 1, []), (12, 1, []), (13, 2, []), (14, 0, [])] (by kernel_rfl) (by kernel_rfl) (by kernel_rfl) ?_))
  have HB0 := Lib.hid (((Below.refl w.heap.size w).alloc (Nat.le_refl _) (.cells #[.slice Ab m cb, .int .i64 q0, .bool false] 66)).drew)
  have HRD := Lib.hid (show RdrAt ((w.alloc (.cells #[.slice Ab m cb, .int .i64 q0, .bool false] 66)).drew) w.heap.size w.heap.size Ab m cb (packB ls) q0 false from
    ⟨(Blk.new w _ _).drew, (HR.out.alloc (Nat.le_refl _) _).drewN 1, Nat.le_refl _, hql, pack_byte ls⟩)
  clear gc gl c0
  go_loopw [6] (fun vj wr => ∃ (j q : Nat), j ≤ k ∧ vj = .int .i64 j ∧ Hid (RdrAt wr w.heap.size w.heap.size Ab m cb (packB ls) q false ∧ (packB ls).drop q = ((rowsOf ls).drop j).flatten ++ sum4 (crcF (bodyB ls)) ∧ Below w.heap.size w wr)) (fun vj _ => k - (intOf vj).toNat)
  case atStart => exact ⟨k / 16 * 16, q0, by omega, by go_num, Lib.hid ⟨HRD.out, by rw [Nat.mul_comm]; exact HQD.out, HB0.out⟩⟩
  case round =>
    obtain ⟨j, q, hj, rfl, HW⟩ := hrel
    have hblk := (H.out.below HW.out.2.2).blk
    rw [HN.out.1, HN.out.2] at hblk
    have gc := hblk.cell
    have gl := hblk.lt
    clear hblk
    obtain ⟨r0, hr0⟩ : ∃ r0, ls[j]? = some r0 := ⟨_, List.getElem?_eq_getElem (show j < ls.length by rw [HN.out.1]; omega)⟩
    have hG := rowG_of HV.out hr0 rfl HW.out.2.1
    rw [HN.out.1] at hG
    have HG := Lib.hid hG
    have HR0 := Lib.hid hr0
    clear hG hr0
    by_cases hlt : j < k
    · go_wp2_with fail
      refine (readRow_any w.heap.size w.heap.size Ab m cb q (packB ls) false j n _ HW.out.1 (by omega) (by omega) hn2).mono ?_
      rintro e w5 ⟨u, r, q5, b5, rfl, _, _, _, hR5, hO5, _, hex5⟩
      obtain ⟨e1, e2, e3⟩ := hex5 _ _ HG.out
      subst e3
      have hG2 := HG.out
      rw [← HN.out.1] at hG2
      have HZ := Lib.hid (show RdrAt w5 w.heap.size w.heap.size Ab m cb (packB ls) q5 false ∧ (packB ls).drop q5 = ((rowsOf ls).drop (j + 1)).flatten ++ sum4 (crcF (bodyB ls)) ∧ Below w.heap.size w w5 from
        ⟨hR5, by rw [e2]; exact rowG_next hG2, HW.out.2.2.trans (hO5.below (B := w.heap.size) HW.out.2.2.size (fun x hx e => by omega))⟩)
      clear hR5 hO5 hex5 hG2 e1 e2
      go_wp2_with fail
      go_roundw
      case rel => exact ⟨j + 1, q5, by omega, by go_num, HZ⟩
      case measure => simp [intOf]; omega
    · have hjk : j = k := by omega
      subst hjk
      go_wp2_with fail
      refine (readRow_any w.heap.size w.heap.size Ab m cb q (packB ls) false j n _ HW.out.1 (by omega) (by omega) hn2).mono ?_
      rintro e w5 ⟨u, r, q5, b5, rfl, hown5, _, hrl, _, hO5, _, hex5⟩
      obtain ⟨e1, _, _⟩ := hex5 _ _ HG.out
      obtain ⟨A5, c5, rfl, _, _⟩ := own_form hown5
      have HZ := Lib.hid (And.intro (Rd.ofOwn hown5) (And.intro hrl (And.intro (HW.out.2.2.trans (hO5.below (B := w.heap.size) HW.out.2.2.size (fun x hx e => by omega))) e1)))
      clear hown5 hrl hO5 hex5 e1
      go_wp2_with fail
      go_ret
      refine ⟨A5, _, c5, r, rfl, HZ.out.1, HZ.out.2.1, HZ.out.2.2.1, fun _ _ => ?_, fun h => ?_⟩
      · rw [HZ.out.2.2.2, Int.toNat_natCast]
        exact HR0.out
      · have := HN.out.1
        omega

set_option maxRecDepth 100000 in
theorem orow_any (W g : Nat) (vb vs : Value) (ls : List (List Arc)) (i : Int) (w : World) (h : OpAt w W g vb vs ls) (hv : validB ls = true) (hp : (packB ls).length ≤ 1048576) :
    Calls Try.prog 28 #[.pointer (some ⟨g, 0, none⟩), .int .i64 i] w (RowAns w ls i) := by
  by_cases h1 : i < 0
  · go_enter Try.func28, Try.ntmps28
    go_wp2_with (first | ((with_reducible show wpPlan _ _ _ [] _ _ _); refine wpPlan_nil ?_) | ((with_reducible show wpPlan _ _ _ ((_, 0, _) :: _) _ _ _); first | (refine wpPlan_read0 rfl ?hw rfl (fun _ _ _ => ?_); case hw => ((conv => (lhs; whnf)); first | done | with_reducible rfl)) | (refine wpPlan_skip0 rfl ?hw ?_; (case hw => ((conv => (lhs; whnf)); first | done | with_reducible rfl)); (try simp only [List.getElem_toArray, List.getElem_cons_succ, List.getElem_cons_zero, Act.put, List.setIfInBounds_toArray, List.set_cons_zero, List.set_cons_succ]))) | ((with_reducible show wpPlan _ _ _ ((_, 1, _) :: _) _ _ _); first | (refine wpPlan_read1d rfl ?hw rfl rfl (fun _ _ _ => ?_); case hw => ((conv => (lhs; whnf)); first | done | with_reducible rfl)) | (refine wpPlan_skip1d rfl ?hw ?_; (case hw => ((conv => (lhs; whnf)); first | done | with_reducible rfl)); (try simp only [List.getElem_toArray, List.getElem_cons_succ, List.getElem_cons_zero, Act.put, List.setIfInBounds_toArray, List.set_cons_zero, List.set_cons_succ])) | (refine wpPlan_read1 rfl ?hw rfl (fun _ _ _ => ?_); case hw => ((conv => (lhs; whnf)); first | done | with_reducible rfl))) | ((with_reducible show wpPlan _ _ _ ((_, 2, _) :: _) _ _ _); first | (refine wpPlan_eff rfl ?hw (fun _ _ => ?_); case hw => ((conv => (lhs; whnf)); first | done | with_reducible rfl)) | (refine wpPlan_skip2 rfl ?hw ?_; (case hw => ((conv => (lhs; whnf)); first | done | with_reducible rfl)); (try simp only [List.getElem_toArray, List.getElem_cons_succ, List.getElem_cons_zero, Act.put, List.setIfInBounds_toArray, List.set_cons_zero, List.set_cons_succ]))) | ((with_reducible show wpPlan _ _ _ _ _ _ _); refine wpPlan_fork ?_ ?_) | ((with_reducible show Owed _ _ _ [] _ _ _ _ _); refine Owed.none_ ?_) | ((with_reducible show Owed _ _ _ _ [] _ _ _ _); refine Owed.nil_ ?_) | ((with_reducible show Owed _ _ _ _ _ _ _ _ _); first | (refine Owed.miss rfl ?_) | (refine Owed.hit ?_ ?_)) | ((with_reducible show Same _ _ _ _ _); intro _; go_simp; done) | (with_reducible exact True.intro) | ((with_reducible show Code.wp _ (Code.region 3 _ true) _ _ _); refine wp_region_plan [(0, 0, []), (1, 1, []), (2, 1, []), (3, 1, []), (4, 0, []), (5, 1, []), (6, 1, []), (7, 1, []), (8, 0, []), (9, 1, []), (10, 1, []), (11, 1, []), (12, 1, []), (13, 2, []), (14, 0, [])] (by kernel_rfl) (by kernel_rfl) (by kernel_rfl) ?_))
    go_ret
    exact ⟨none, 0, 0, [], rfl, Rd.nil, by omega, Below.refl _ _, fun h _ => by omega, fun _ => rfl⟩
  · by_cases h2 : i < ls.length
    · obtain ⟨k, rfl⟩ : ∃ k : Nat, i = k := ⟨i.toNat, by omega⟩
      exact rowIn_any W g vb vs ls k w h hv hp (by omega)
    · have gc := h.blk.cell
      have gl := h.blk.lt
      clear h
      go_enter Try.func28, Try.ntmps28
      go_wp2_with (first | ((with_reducible show wpPlan _ _ _ [] _ _ _); refine wpPlan_nil ?_) | ((with_reducible show wpPlan _ _ _ ((_, 0, _) :: _) _ _ _); first | (refine wpPlan_read0 rfl ?hw rfl (fun _ _ _ => ?_); case hw => ((conv => (lhs; whnf)); first | done | with_reducible rfl)) | (refine wpPlan_skip0 rfl ?hw ?_; (case hw => ((conv => (lhs; whnf)); first | done | with_reducible rfl)); (try simp only [List.getElem_toArray, List.getElem_cons_succ, List.getElem_cons_zero, Act.put, List.setIfInBounds_toArray, List.set_cons_zero, List.set_cons_succ]))) | ((with_reducible show wpPlan _ _ _ ((_, 1, _) :: _) _ _ _); first | (refine wpPlan_read1d rfl ?hw rfl rfl (fun _ _ _ => ?_); case hw => ((conv => (lhs; whnf)); first | done | with_reducible rfl)) | (refine wpPlan_skip1d rfl ?hw ?_; (case hw => ((conv => (lhs; whnf)); first | done | with_reducible rfl)); (try simp only [List.getElem_toArray, List.getElem_cons_succ, List.getElem_cons_zero, Act.put, List.setIfInBounds_toArray, List.set_cons_zero, List.set_cons_succ])) | (refine wpPlan_read1 rfl ?hw rfl (fun _ _ _ => ?_); case hw => ((conv => (lhs; whnf)); first | done | with_reducible rfl))) | ((with_reducible show wpPlan _ _ _ ((_, 2, _) :: _) _ _ _); first | (refine wpPlan_eff rfl ?hw (fun _ _ => ?_); case hw => ((conv => (lhs; whnf)); first | done | with_reducible rfl)) | (refine wpPlan_skip2 rfl ?hw ?_; (case hw => ((conv => (lhs; whnf)); first | done | with_reducible rfl)); (try simp only [List.getElem_toArray, List.getElem_cons_succ, List.getElem_cons_zero, Act.put, List.setIfInBounds_toArray, List.set_cons_zero, List.set_cons_succ]))) | ((with_reducible show wpPlan _ _ _ _ _ _ _); refine wpPlan_fork ?_ ?_) | ((with_reducible show Owed _ _ _ [] _ _ _ _ _); refine Owed.none_ ?_) | ((with_reducible show Owed _ _ _ _ [] _ _ _ _); refine Owed.nil_ ?_) | ((with_reducible show Owed _ _ _ _ _ _ _ _ _); first | (refine Owed.miss rfl ?_) | (refine Owed.hit ?_ ?_)) | ((with_reducible show Same _ _ _ _ _); intro _; go_simp; done) | (with_reducible exact True.intro) | ((with_reducible show Code.wp _ (Code.region 3 _ true) _ _ _); refine wp_region_plan [(0, 0, []), (1, 1, []), (2, 1, []), (3, 1, []), (4, 0, []), (5, 1, []), (6, 1, []), (7, 1, []), (8, 0, []), (9, 1, []), (10, 1, []), (11, 1, []), (12, 1, []), (13, 2, []), (14, 0, [])] (by kernel_rfl) (by kernel_rfl) (by kernel_rfl) ?_))
      go_ret
      exact ⟨none, 0, 0, [], rfl, Rd.nil, by omega, Below.refl _ _, fun _ h => absurd h (by omega), fun _ => rfl⟩

end Go.Proofs.Ytonpdclccgpceaa
