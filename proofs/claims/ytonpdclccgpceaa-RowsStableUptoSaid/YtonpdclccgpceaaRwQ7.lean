/- both Canonicals agree: the walk of canonicals -/
import Derived.Test.YtonpdclccgpceaaRwQ6
import Derived.Test.YtonpdclccgpceaaRwLe
import Derived.Test.YtonpdclccgpceaaRwV
namespace Go.Proofs.Ytonpdclccgpceaa
open Go Go.RowKit
set_option maxHeartbeats 8000000

theorem rowAt_len {ls : List (List Arc)} {N : Nat} (h : ∀ l ∈ ls, l.length ≤ N) (s : Nat) : (rowAt ls s).length ≤ N := by
  rw [rowAt, List.getD_eq_getElem?_getD]
  cases hx : ls[s]? with
  | none => exact Nat.zero_le _
  | some x => exact h x (List.mem_of_getElem? hx)
theorem canon_rows {ls : List (List Arc)} {N : Nat} (h : ∀ l ∈ ls, l.length ≤ N) : ∀ i, ∀ l ∈ (canonK ls i).out, l.length ≤ N
  | 0, l, hl => by cases hl
  | i + 1, l, hl => by
    rw [canon_next rfl] at hl
    rcases List.mem_append.1 hl with h1 | h1
    · exact canon_rows h i l h1
    · obtain rfl := List.mem_singleton.1 h1
      have h2 := sd_len (rowAt ls ((canonK ls i).old.getD i 0))
      have h3 := sd_len ((sd (rowAt ls ((canonK ls i).old.getD i 0))).map (ren (vis ls i (sd (rowAt ls ((canonK ls i).old.getD i 0))) (sd (rowAt ls ((canonK ls i).old.getD i 0))).length).1))
      rw [List.length_map] at h3
      have h4 := rowAt_len h ((canonK ls i).old.getD i 0)
      omega
theorem done_le {ls : List (List Arc)} {i : Nat} (h : TosIn ls) (h0 : 0 < ls.length) (hd : DoneC ls i) : i ≤ ls.length := by
  cases i with
  | zero => exact Nat.zero_le _
  | succ i =>
    have h1 := hd.1 i (by omega)
    have h2 := (canon_inv h h0 i).le
    omega

set_option maxRecDepth 100000 in
theorem canonicals_any (A : Option Addr) (n c B : Nat) (ls : List (List Arc)) (w : World) (h : RdL w B A n ls) (hB : B ≤ w.heap.size) (hn : n ≤ 1000000000000) (hs : ∀ l ∈ ls, l.length ≤ 1000000000000) :
    Calls Try.prog 33 #[lts A n c] w fun e w' => e = .returned (.bool true) ∧ Below w.heap.size w w' := by
  have HN0 := Lib.hid (Blk.new w 25 #[.slice A n c])
  have HR0 := Lib.hid (h.alloc hB (.cells #[.slice A n c] 25))
  have HB0 := Lib.hid ((Below.refl w.heap.size w).alloc (Nat.le_refl _) (.cells #[.slice A n c] 25))
  have HS := Lib.hid hs
  have HL := Lib.hid h.len
  clear h hs
  have n0c := HN0.out.cell
  have n0l := HN0.out.lt
  go_enter Try.func33, Try.ntmps33
  go_wp2_with (first | ((with_reducible show wpPlan _ _ _ [] _ _ _); refine wpPlan_nil ?_) | ((with_reducible show wpPlan _ _ _ ((_, 0, _) :: _) _ _ _); first | (refine wpPlan_read0 rfl ?hw rfl (fun _ _ _ => ?_); case hw => ((conv => (lhs; whnf)); first | done | with_reducible rfl)) | (refine wpPlan_skip0 rfl ?hw ?_; (case hw => ((conv => (lhs; whnf)); first | done | with_reducible rfl)); (try simp only [List.getElem_toArray, List.getElem_cons_succ, List.getElem_cons_zero, Act.put, List.setIfInBounds_toArray, List.set_cons_zero, List.set_cons_succ]))) | ((with_reducible show wpPlan _ _ _ ((_, 1, _) :: _) _ _ _); first | (refine wpPlan_read1d rfl ?hw rfl rfl (fun _ _ _ => ?_); case hw => ((conv => (lhs; whnf)); first | done | with_reducible rfl)) | (refine wpPlan_skip1d rfl ?hw ?_; (case hw => ((conv => (lhs; whnf)); first | done | with_reducible rfl)); (try simp only [List.getElem_toArray, List.getElem_cons_succ, List.getElem_cons_zero, Act.put, List.setIfInBounds_toArray, List.set_cons_zero, List.set_cons_succ])) | (refine wpPlan_read1 rfl ?hw rfl (fun _ _ _ => ?_); case hw => ((conv => (lhs; whnf)); first | done | with_reducible rfl))) | ((with_reducible show wpPlan _ _ _ ((_, 2, _) :: _) _ _ _); first | (refine wpPlan_eff rfl ?hw (fun _ _ => ?_); case hw => ((conv => (lhs; whnf)); first | done | with_reducible rfl)) | (refine wpPlan_skip2 rfl ?hw ?_; (case hw => ((conv => (lhs; whnf)); first | done | with_reducible rfl)); (try simp only [List.getElem_toArray, List.getElem_cons_succ, List.getElem_cons_zero, Act.put, List.setIfInBounds_toArray, List.set_cons_zero, List.set_cons_succ]))) | ((with_reducible show wpPlan _ _ _ _ _ _ _); refine wpPlan_fork ?_ ?_) | ((with_reducible show Owed _ _ _ [] _ _ _ _ _); refine Owed.none_ ?_) | ((with_reducible show Owed _ _ _ _ [] _ _ _ _); refine Owed.nil_ ?_) | ((with_reducible show Owed _ _ _ _ _ _ _ _ _); first | (refine Owed.miss rfl ?_) | (refine Owed.hit ?_ ?_)) | ((with_reducible show Same _ _ _ _ _); intro _; go_simp; done) | (with_reducible exact True.intro))
  refine (canonical_any A n c B ls _ HR0.out (by simp; omega) (by omega)).mono ?_
  rintro e w1 ⟨A1, n1, c1, out, A2, n2, c2, old, err, rfl, hR1, hO1, hb1, hres⟩
  have hs1 : w.heap.size + 1 ≤ w1.heap.size := by have := hb1.size; simpa using this
  have HW1 := Lib.hid (show RdL (w1.alloc (.cells #[.slice A1 n1 c1] 25)) B A n ls ∧ RdL (w1.alloc (.cells #[.slice A1 n1 c1] 25)) w1.heap.size A1 n1 out ∧ Rd (w1.alloc (.cells #[.slice A1 n1 c1] 25)) w1.heap.size 1 A2 n2 (cellsOf ncell old) ∧
      Blk (w1.alloc (.cells #[.slice A1 n1 c1] 25)) w.heap.size 25 #[.slice A n c] ∧ Blk (w1.alloc (.cells #[.slice A1 n1 c1] 25)) w1.heap.size 25 #[.slice A1 n1 c1] ∧ Below w.heap.size w (w1.alloc (.cells #[.slice A1 n1 c1] 25)) from
    ⟨(HR0.out.below (hb1.mono (by simp; omega))).alloc (by omega) _, hR1.alloc (Nat.le_refl _) _, hO1.alloc (Nat.le_refl _) _, (HN0.out.below hb1 HN0.out.lt).alloc _, Blk.new w1 _ _, (HB0.out.trans (hb1.mono (by simp))).alloc (by omega) _⟩)
  clear hR1 hO1 hb1 n0c n0l
  have a1c := HW1.out.2.2.2.1.cell
  have a1l := HW1.out.2.2.2.1.lt
  go_wp2_with (first | ((with_reducible show wpPlan _ _ _ [] _ _ _); refine wpPlan_nil ?_) | ((with_reducible show wpPlan _ _ _ ((_, 0, _) :: _) _ _ _); first | (refine wpPlan_read0 rfl ?hw rfl (fun _ _ _ => ?_); case hw => ((conv => (lhs; whnf)); first | done | with_reducible rfl)) | (refine wpPlan_skip0 rfl ?hw ?_; (case hw => ((conv => (lhs; whnf)); first | done | with_reducible rfl)); (try simp only [List.getElem_toArray, List.getElem_cons_succ, List.getElem_cons_zero, Act.put, List.setIfInBounds_toArray, List.set_cons_zero, List.set_cons_succ]))) | ((with_reducible show wpPlan _ _ _ ((_, 1, _) :: _) _ _ _); first | (refine wpPlan_read1d rfl ?hw rfl rfl (fun _ _ _ => ?_); case hw => ((conv => (lhs; whnf)); first | done | with_reducible rfl)) | (refine wpPlan_skip1d rfl ?hw ?_; (case hw => ((conv => (lhs; whnf)); first | done | with_reducible rfl)); (try simp only [List.getElem_toArray, List.getElem_cons_succ, List.getElem_cons_zero, Act.put, List.setIfInBounds_toArray, List.set_cons_zero, List.set_cons_succ])) | (refine wpPlan_read1 rfl ?hw rfl (fun _ _ _ => ?_); case hw => ((conv => (lhs; whnf)); first | done | with_reducible rfl))) | ((with_reducible show wpPlan _ _ _ ((_, 2, _) :: _) _ _ _); first | (refine wpPlan_eff rfl ?hw (fun _ _ => ?_); case hw => ((conv => (lhs; whnf)); first | done | with_reducible rfl)) | (refine wpPlan_skip2 rfl ?hw ?_; (case hw => ((conv => (lhs; whnf)); first | done | with_reducible rfl)); (try simp only [List.getElem_toArray, List.getElem_cons_succ, List.getElem_cons_zero, Act.put, List.setIfInBounds_toArray, List.set_cons_zero, List.set_cons_succ]))) | ((with_reducible show wpPlan _ _ _ _ _ _ _); refine wpPlan_fork ?_ ?_) | ((with_reducible show Owed _ _ _ [] _ _ _ _ _); refine Owed.none_ ?_) | ((with_reducible show Owed _ _ _ _ [] _ _ _ _); refine Owed.nil_ ?_) | ((with_reducible show Owed _ _ _ _ _ _ _ _ _); first | (refine Owed.miss rfl ?_) | (refine Owed.hit ?_ ?_)) | ((with_reducible show Same _ _ _ _ _); intro _; go_simp; done) | (with_reducible exact True.intro))
  refine (rlooseL_any A n c B ls _ HW1.out.1 (by simp; omega) (by omega) HS.out).mono ?_
  rintro e w2 ⟨rfl, hb2⟩
  have hs2 : w1.heap.size + 1 ≤ w2.heap.size := by have := hb2.size; simpa using this
  have HW2 := Lib.hid (show RdL w2 B A n ls ∧ RdL w2 w1.heap.size A1 n1 out ∧ Rd w2 w1.heap.size 1 A2 n2 (cellsOf ncell old) ∧ Blk w2 w.heap.size 25 #[.slice A n c] ∧ Blk w2 w1.heap.size 25 #[.slice A1 n1 c1] ∧ Below w.heap.size w w2 from
    ⟨HW1.out.1.below (hb2.mono (by simp; omega)), HW1.out.2.1.below (hb2.mono (by simp)), HW1.out.2.2.1.below (hb2.mono (by simp)), HW1.out.2.2.2.1.below hb2 HW1.out.2.2.2.1.lt, HW1.out.2.2.2.2.1.below hb2 HW1.out.2.2.2.2.1.lt, HW1.out.2.2.2.2.2.trans (hb2.mono HW1.out.2.2.2.2.2.size)⟩)
  clear hb2 a1c a1l
  have a2c := HW2.out.2.2.2.1.cell
  have a2l := HW2.out.2.2.2.1.lt
  have b2c := HW2.out.2.2.2.2.1.cell
  have b2l := HW2.out.2.2.2.2.1.lt
  rcases hres with ⟨hq, rfl, rfl, rfl⟩ | ⟨hq, rfl, i, hd, rfl, rfl⟩
  · have hn1 : n1 = 0 := HW2.out.2.1.len.symm
    have hn2 : n2 = 0 := (HW2.out.2.2.1.len ncell_len (by decide)).symm
    subst hn1 hn2
    rw [hq]
    clear hq
    go_wp2_with (first | ((with_reducible show wpPlan _ _ _ [] _ _ _); refine wpPlan_nil ?_) | ((with_reducible show wpPlan _ _ _ ((_, 0, _) :: _) _ _ _); first | (refine wpPlan_read0 rfl ?hw rfl (fun _ _ _ => ?_); case hw => ((conv => (lhs; whnf)); first | done | with_reducible rfl)) | (refine wpPlan_skip0 rfl ?hw ?_; (case hw => ((conv => (lhs; whnf)); first | done | with_reducible rfl)); (try simp only [List.getElem_toArray, List.getElem_cons_succ, List.getElem_cons_zero, Act.put, List.setIfInBounds_toArray, List.set_cons_zero, List.set_cons_succ]))) | ((with_reducible show wpPlan _ _ _ ((_, 1, _) :: _) _ _ _); first | (refine wpPlan_read1d rfl ?hw rfl rfl (fun _ _ _ => ?_); case hw => ((conv => (lhs; whnf)); first | done | with_reducible rfl)) | (refine wpPlan_skip1d rfl ?hw ?_; (case hw => ((conv => (lhs; whnf)); first | done | with_reducible rfl)); (try simp only [List.getElem_toArray, List.getElem_cons_succ, List.getElem_cons_zero, Act.put, List.setIfInBounds_toArray, List.set_cons_zero, List.set_cons_succ])) | (refine wpPlan_read1 rfl ?hw rfl (fun _ _ _ => ?_); case hw => ((conv => (lhs; whnf)); first | done | with_reducible rfl))) | ((with_reducible show wpPlan _ _ _ ((_, 2, _) :: _) _ _ _); first | (refine wpPlan_eff rfl ?hw (fun _ _ => ?_); case hw => ((conv => (lhs; whnf)); first | done | with_reducible rfl)) | (refine wpPlan_skip2 rfl ?hw ?_; (case hw => ((conv => (lhs; whnf)); first | done | with_reducible rfl)); (try simp only [List.getElem_toArray, List.getElem_cons_succ, List.getElem_cons_zero, Act.put, List.setIfInBounds_toArray, List.set_cons_zero, List.set_cons_succ]))) | ((with_reducible show wpPlan _ _ _ _ _ _ _); refine wpPlan_fork ?_ ?_) | ((with_reducible show Owed _ _ _ [] _ _ _ _ _); refine Owed.none_ ?_) | ((with_reducible show Owed _ _ _ _ [] _ _ _ _); refine Owed.nil_ ?_) | ((with_reducible show Owed _ _ _ _ _ _ _ _ _); first | (refine Owed.miss rfl ?_) | (refine Owed.hit ?_ ?_)) | ((with_reducible show Same _ _ _ _ _); intro _; go_simp; done) | (with_reducible exact True.intro))
    refine bodyPost_ret (v := .bool true) (by simp [results, Try.results33, go_sem]) rfl ?_
    exact ⟨rfl, HW2.out.2.2.2.2.2⟩
  · have HQ := Lib.hid hq
    have HD := Lib.hid hd
    rw [hq]
    clear hq hd
    go_wp2_with (first | ((with_reducible show wpPlan _ _ _ [] _ _ _); refine wpPlan_nil ?_) | ((with_reducible show wpPlan _ _ _ ((_, 0, _) :: _) _ _ _); first | (refine wpPlan_read0 rfl ?hw rfl (fun _ _ _ => ?_); case hw => ((conv => (lhs; whnf)); first | done | with_reducible rfl)) | (refine wpPlan_skip0 rfl ?hw ?_; (case hw => ((conv => (lhs; whnf)); first | done | with_reducible rfl)); (try simp only [List.getElem_toArray, List.getElem_cons_succ, List.getElem_cons_zero, Act.put, List.setIfInBounds_toArray, List.set_cons_zero, List.set_cons_succ]))) | ((with_reducible show wpPlan _ _ _ ((_, 1, _) :: _) _ _ _); first | (refine wpPlan_read1d rfl ?hw rfl rfl (fun _ _ _ => ?_); case hw => ((conv => (lhs; whnf)); first | done | with_reducible rfl)) | (refine wpPlan_skip1d rfl ?hw ?_; (case hw => ((conv => (lhs; whnf)); first | done | with_reducible rfl)); (try simp only [List.getElem_toArray, List.getElem_cons_succ, List.getElem_cons_zero, Act.put, List.setIfInBounds_toArray, List.set_cons_zero, List.set_cons_succ])) | (refine wpPlan_read1 rfl ?hw rfl (fun _ _ _ => ?_); case hw => ((conv => (lhs; whnf)); first | done | with_reducible rfl))) | ((with_reducible show wpPlan _ _ _ ((_, 2, _) :: _) _ _ _); first | (refine wpPlan_eff rfl ?hw (fun _ _ => ?_); case hw => ((conv => (lhs; whnf)); first | done | with_reducible rfl)) | (refine wpPlan_skip2 rfl ?hw ?_; (case hw => ((conv => (lhs; whnf)); first | done | with_reducible rfl)); (try simp only [List.getElem_toArray, List.getElem_cons_succ, List.getElem_cons_zero, Act.put, List.setIfInBounds_toArray, List.set_cons_zero, List.set_cons_succ]))) | ((with_reducible show wpPlan _ _ _ _ _ _ _); refine wpPlan_fork ?_ ?_) | ((with_reducible show Owed _ _ _ [] _ _ _ _ _); refine Owed.none_ ?_) | ((with_reducible show Owed _ _ _ _ [] _ _ _ _); refine Owed.nil_ ?_) | ((with_reducible show Owed _ _ _ _ _ _ _ _ _); first | (refine Owed.miss rfl ?_) | (refine Owed.hit ?_ ?_)) | ((with_reducible show Same _ _ _ _ _); intro _; go_simp; done) | (with_reducible exact True.intro))
    refine (rcanonical_any A n c B ls _ HW2.out.1 (by omega) HQ.out).mono ?_
    rintro e w3 ⟨A3, n3, c3, out3, A4, n4, c4, old3, rfl, hR3, hO3, hb3, i3, hd3, rfl, rfl⟩
    obtain rfl := hd3.unique HD.out
    obtain ⟨htos, hl1, hl2, hl3⟩ := loose_tos HQ.out
    have hi := done_le htos hl1 HD.out
    have hn1 := HW2.out.2.1.len
    rw [canon_out] at hn1
    have hn2 := HW2.out.2.2.1.len ncell_len (by decide)
    have hol := (canon_inv htos hl1 i3).le
    have hs3 : w2.heap.size ≤ w3.heap.size := hb3.size
    have HCR := Lib.hid (show ∀ l ∈ (canonK ls i3).out, l.length ≤ 1000000000000 from fun l hl => by have := canon_rows hl3 i3 l hl; omega)
    have HW3 := Lib.hid (show RdL (w3.alloc (.cells #[.slice A3 n3 c3] 25)) w3.heap.size A1 n1 (canonK ls i3).out ∧ RdL (w3.alloc (.cells #[.slice A3 n3 c3] 25)) w3.heap.size A3 n3 (canonK ls i3).out ∧ Rd (w3.alloc (.cells #[.slice A3 n3 c3] 25)) w3.heap.size 1 A2 n2 (cellsOf ncell (canonK ls i3).old) ∧
        Rd (w3.alloc (.cells #[.slice A3 n3 c3] 25)) w3.heap.size 1 A4 n4 (cellsOf ncell (canonK ls i3).old) ∧ Blk (w3.alloc (.cells #[.slice A3 n3 c3] 25)) w1.heap.size 25 #[.slice A1 n1 c1] ∧ Blk (w3.alloc (.cells #[.slice A3 n3 c3] 25)) w3.heap.size 25 #[.slice A3 n3 c3] ∧ Below w.heap.size w (w3.alloc (.cells #[.slice A3 n3 c3] 25)) from
      ⟨((HW2.out.2.1.below (hb3.mono (by omega))).more (by omega)).alloc (Nat.le_refl _) _, hR3.alloc (Nat.le_refl _) _, ((HW2.out.2.2.1.below (hb3.mono (by omega))).more (by omega)).alloc (Nat.le_refl _) _, hO3.alloc (Nat.le_refl _) _, (HW2.out.2.2.2.2.1.below hb3 b2l).alloc _, Blk.new w3 _ _, (HW2.out.2.2.2.2.2.trans (hb3.mono (by omega))).alloc (by omega) _⟩)
    rw [nat_cells] at HW3
    clear hR3 hO3 hb3 hd3 a2c a2l b2c b2l hl3 htos
    have b3c := HW3.out.2.2.2.2.1.cell
    have b3l := HW3.out.2.2.2.2.1.lt
    have d3c := HW3.out.2.2.2.2.2.1.cell
    have d3l := HW3.out.2.2.2.2.2.1.lt
    go_wp2_with (first | ((with_reducible show wpPlan _ _ _ [] _ _ _); refine wpPlan_nil ?_) | ((with_reducible show wpPlan _ _ _ ((_, 0, _) :: _) _ _ _); first | (refine wpPlan_read0 rfl ?hw rfl (fun _ _ _ => ?_); case hw => ((conv => (lhs; whnf)); first | done | with_reducible rfl)) | (refine wpPlan_skip0 rfl ?hw ?_; (case hw => ((conv => (lhs; whnf)); first | done | with_reducible rfl)); (try simp only [List.getElem_toArray, List.getElem_cons_succ, List.getElem_cons_zero, Act.put, List.setIfInBounds_toArray, List.set_cons_zero, List.set_cons_succ]))) | ((with_reducible show wpPlan _ _ _ ((_, 1, _) :: _) _ _ _); first | (refine wpPlan_read1d rfl ?hw rfl rfl (fun _ _ _ => ?_); case hw => ((conv => (lhs; whnf)); first | done | with_reducible rfl)) | (refine wpPlan_skip1d rfl ?hw ?_; (case hw => ((conv => (lhs; whnf)); first | done | with_reducible rfl)); (try simp only [List.getElem_toArray, List.getElem_cons_succ, List.getElem_cons_zero, Act.put, List.setIfInBounds_toArray, List.set_cons_zero, List.set_cons_succ])) | (refine wpPlan_read1 rfl ?hw rfl (fun _ _ _ => ?_); case hw => ((conv => (lhs; whnf)); first | done | with_reducible rfl))) | ((with_reducible show wpPlan _ _ _ ((_, 2, _) :: _) _ _ _); first | (refine wpPlan_eff rfl ?hw (fun _ _ => ?_); case hw => ((conv => (lhs; whnf)); first | done | with_reducible rfl)) | (refine wpPlan_skip2 rfl ?hw ?_; (case hw => ((conv => (lhs; whnf)); first | done | with_reducible rfl)); (try simp only [List.getElem_toArray, List.getElem_cons_succ, List.getElem_cons_zero, Act.put, List.setIfInBounds_toArray, List.set_cons_zero, List.set_cons_succ]))) | ((with_reducible show wpPlan _ _ _ _ _ _ _); refine wpPlan_fork ?_ ?_) | ((with_reducible show Owed _ _ _ [] _ _ _ _ _); refine Owed.none_ ?_) | ((with_reducible show Owed _ _ _ _ [] _ _ _ _); refine Owed.nil_ ?_) | ((with_reducible show Owed _ _ _ _ _ _ _ _ _); first | (refine Owed.miss rfl ?_) | (refine Owed.hit ?_ ?_)) | ((with_reducible show Same _ _ _ _ _); intro _; go_simp; done) | (with_reducible exact True.intro))
    refine (same_any A1 A3 n1 c1 n3 c3 w3.heap.size (canonK ls i3).out (canonK ls i3).out _ HW3.out.1 HW3.out.2.1 (by simp) (by omega) HCR.out).mono ?_
    rintro e w4 ⟨rfl, hb4⟩
    rw [show decide ((canonK ls i3).out = (canonK ls i3).out) = true from decide_eq_true rfl]
    have HW4 := Lib.hid (And.intro (HW3.out.2.2.1.below (hb4.mono (by simp))) (And.intro (HW3.out.2.2.2.1.below (hb4.mono (by simp))) (HW3.out.2.2.2.2.2.2.trans (hb4.mono HW3.out.2.2.2.2.2.2.size))))
    have hs4 : w3.heap.size + 1 ≤ w4.heap.size := by have := hb4.size; simpa using this
    clear hb4 b3c b3l d3c d3l
    go_wp2_with (first | ((with_reducible show wpPlan _ _ _ [] _ _ _); refine wpPlan_nil ?_) | ((with_reducible show wpPlan _ _ _ ((_, 0, _) :: _) _ _ _); first | (refine wpPlan_read0 rfl ?hw rfl (fun _ _ _ => ?_); case hw => ((conv => (lhs; whnf)); first | done | with_reducible rfl)) | (refine wpPlan_skip0 rfl ?hw ?_; (case hw => ((conv => (lhs; whnf)); first | done | with_reducible rfl)); (try simp only [List.getElem_toArray, List.getElem_cons_succ, List.getElem_cons_zero, Act.put, List.setIfInBounds_toArray, List.set_cons_zero, List.set_cons_succ]))) | ((with_reducible show wpPlan _ _ _ ((_, 1, _) :: _) _ _ _); first | (refine wpPlan_read1d rfl ?hw rfl rfl (fun _ _ _ => ?_); case hw => ((conv => (lhs; whnf)); first | done | with_reducible rfl)) | (refine wpPlan_skip1d rfl ?hw ?_; (case hw => ((conv => (lhs; whnf)); first | done | with_reducible rfl)); (try simp only [List.getElem_toArray, List.getElem_cons_succ, List.getElem_cons_zero, Act.put, List.setIfInBounds_toArray, List.set_cons_zero, List.set_cons_succ])) | (refine wpPlan_read1 rfl ?hw rfl (fun _ _ _ => ?_); case hw => ((conv => (lhs; whnf)); first | done | with_reducible rfl))) | ((with_reducible show wpPlan _ _ _ ((_, 2, _) :: _) _ _ _); first | (refine wpPlan_eff rfl ?hw (fun _ _ => ?_); case hw => ((conv => (lhs; whnf)); first | done | with_reducible rfl)) | (refine wpPlan_skip2 rfl ?hw ?_; (case hw => ((conv => (lhs; whnf)); first | done | with_reducible rfl)); (try simp only [List.getElem_toArray, List.getElem_cons_succ, List.getElem_cons_zero, Act.put, List.setIfInBounds_toArray, List.set_cons_zero, List.set_cons_succ]))) | ((with_reducible show wpPlan _ _ _ _ _ _ _); refine wpPlan_fork ?_ ?_) | ((with_reducible show Owed _ _ _ [] _ _ _ _ _); refine Owed.none_ ?_) | ((with_reducible show Owed _ _ _ _ [] _ _ _ _); refine Owed.nil_ ?_) | ((with_reducible show Owed _ _ _ _ _ _ _ _ _); first | (refine Owed.miss rfl ?_) | (refine Owed.hit ?_ ?_)) | ((with_reducible show Same _ _ _ _ _); intro _; go_simp; done) | (with_reducible exact True.intro))
    refine (ints_any A2 A4 n2 c2 n4 c4 w3.heap.size _ _ _ HW4.out.1 HW4.out.2.1 (by omega) (by omega)).mono ?_
    rintro e w5 ⟨rfl, hb5⟩
    rw [show decide ((canonK ls i3).old.map (fun x : Nat => (x : Int)) = (canonK ls i3).old.map (fun x : Nat => (x : Int))) = true from decide_eq_true rfl]
    have HB5 := Lib.hid (HW4.out.2.2.trans (hb5.mono HW4.out.2.2.size))
    clear hb5
    go_wp2_with (first | ((with_reducible show wpPlan _ _ _ [] _ _ _); refine wpPlan_nil ?_) | ((with_reducible show wpPlan _ _ _ ((_, 0, _) :: _) _ _ _); first | (refine wpPlan_read0 rfl ?hw rfl (fun _ _ _ => ?_); case hw => ((conv => (lhs; whnf)); first | done | with_reducible rfl)) | (refine wpPlan_skip0 rfl ?hw ?_; (case hw => ((conv => (lhs; whnf)); first | done | with_reducible rfl)); (try simp only [List.getElem_toArray, List.getElem_cons_succ, List.getElem_cons_zero, Act.put, List.setIfInBounds_toArray, List.set_cons_zero, List.set_cons_succ]))) | ((with_reducible show wpPlan _ _ _ ((_, 1, _) :: _) _ _ _); first | (refine wpPlan_read1d rfl ?hw rfl rfl (fun _ _ _ => ?_); case hw => ((conv => (lhs; whnf)); first | done | with_reducible rfl)) | (refine wpPlan_skip1d rfl ?hw ?_; (case hw => ((conv => (lhs; whnf)); first | done | with_reducible rfl)); (try simp only [List.getElem_toArray, List.getElem_cons_succ, List.getElem_cons_zero, Act.put, List.setIfInBounds_toArray, List.set_cons_zero, List.set_cons_succ])) | (refine wpPlan_read1 rfl ?hw rfl (fun _ _ _ => ?_); case hw => ((conv => (lhs; whnf)); first | done | with_reducible rfl))) | ((with_reducible show wpPlan _ _ _ ((_, 2, _) :: _) _ _ _); first | (refine wpPlan_eff rfl ?hw (fun _ _ => ?_); case hw => ((conv => (lhs; whnf)); first | done | with_reducible rfl)) | (refine wpPlan_skip2 rfl ?hw ?_; (case hw => ((conv => (lhs; whnf)); first | done | with_reducible rfl)); (try simp only [List.getElem_toArray, List.getElem_cons_succ, List.getElem_cons_zero, Act.put, List.setIfInBounds_toArray, List.set_cons_zero, List.set_cons_succ]))) | ((with_reducible show wpPlan _ _ _ _ _ _ _); refine wpPlan_fork ?_ ?_) | ((with_reducible show Owed _ _ _ [] _ _ _ _ _); refine Owed.none_ ?_) | ((with_reducible show Owed _ _ _ _ [] _ _ _ _); refine Owed.nil_ ?_) | ((with_reducible show Owed _ _ _ _ _ _ _ _ _); first | (refine Owed.miss rfl ?_) | (refine Owed.hit ?_ ?_)) | ((with_reducible show Same _ _ _ _ _); intro _; go_simp; done) | (with_reducible exact True.intro))
    refine bodyPost_ret (v := .bool true) (by simp [results, Try.results33, go_sem]) rfl ?_
    exact ⟨rfl, HB5.out⟩

end Go.Proofs.Ytonpdclccgpceaa
