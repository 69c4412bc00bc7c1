/- RowsExamples: the law's walk -/
import Derived.Test.YtonpdclccgpceaaRwQ5
import Derived.Test.YtonpdclccgpceaaRwSa
namespace Go.Proofs.Ytonpdclccgpceaa
open Go Go.RowKit
set_option maxHeartbeats 8000000

def exL : List (List Arc) := [[⟨2, 2⟩], [], [⟨3, 0⟩]]
def exC : List (List Arc) := [[⟨2, 1⟩], [⟨3, 0⟩]]
theorem ex_loose : looseB exL = true := by decide
theorem ex_done : DoneC exL 2 := by
  refine ⟨fun j hj => ?_, by decide⟩
  match j, hj with
  | 0, _ => decide
  | 1, _ => decide
theorem ex_out : (canonK exL 2).out = exC := by decide
theorem ex_old : (canonK exL 2).old = [0, 2] := by decide
theorem nat_cells (l : List Nat) : cellsOf ncell l = cellsOf icell (l.map fun x : Nat => (x : Int)) := by
  induction l with
  | nil => rfl
  | cons a l ih =>
    simp only [cellsOf, List.flatMap_cons, List.map_cons] at ih ⊢
    rw [ih]
    rfl
theorem rows_rd {w : World} {g B m : Nat} {vs : List Value} {ls : List (List Arc)} (hb : Blk w g 49 vs.toArray) (hg : g < B) (hm : vs.length = m) (hl : ls.length = m)
    (h : ∀ (i : Nat) (l : List Arc), ls[i]? = some l → ∃ (A' : Option Addr) (n' c' : Nat), vs[i]? = some (.slice A' n' c') ∧ Rd w B 2 A' n' (cellsOf Arc.cells l)) : RdL w B (some ⟨g, 0, none⟩) m ls :=
  ⟨vs, (Rd.ofBlk (k := 1) (n := m) hb (by omega)).more hg, hl, h⟩

/-- the worlds in which the two systems stand -/
abbrev exW (w : World) (p : Nat) (a b : Arc) (vs : Array Value) (m : Nat) : World :=
  (((w.alloc (.cells #[.int .i64 a.ev, .int .i64 a.to] 55)).alloc (.cells #[.int .i64 b.ev, .int .i64 b.to] 55)).alloc (.cells vs 49)).alloc (.cells #[.slice (some ⟨p + 1 + 1, 0, none⟩) m m] 25)
theorem ex_blks (w : World) {p : Nat} (hp : p = w.heap.size) (a b : Arc) (vs : Array Value) (m : Nat) : Rd (exW w p a b vs m) (p + 3) 2 (some ⟨p, 0, none⟩) 1 (cellsOf Arc.cells [a]) ∧ Rd (exW w p a b vs m) (p + 3) 2 (some ⟨p + 1, 0, none⟩) 1 (cellsOf Arc.cells [b]) ∧
    Blk (exW w p a b vs m) (p + 1 + 1) 49 vs ∧ Blk (exW w p a b vs m) (p + 1 + 1 + 1) 25 #[.slice (some ⟨p + 1 + 1, 0, none⟩) m m] ∧ Below p w (exW w p a b vs m) := by
  subst hp
  have h1 := ((((Blk.new w 55 #[.int .i64 a.ev, .int .i64 a.to]).alloc (.cells #[.int .i64 b.ev, .int .i64 b.to] 55)).alloc (.cells vs 49)).alloc (.cells #[.slice (some ⟨w.heap.size + 1 + 1, 0, none⟩) m m] 25))
  have h2 : Blk (((w.alloc (.cells #[.int .i64 a.ev, .int .i64 a.to] 55)).alloc (.cells #[.int .i64 b.ev, .int .i64 b.to] 55))) (w.heap.size + 1) 55 #[.int .i64 b.ev, .int .i64 b.to] := heap_alloc_at (by simp)
  have h3 : Blk ((((w.alloc (.cells #[.int .i64 a.ev, .int .i64 a.to] 55)).alloc (.cells #[.int .i64 b.ev, .int .i64 b.to] 55))).alloc (.cells vs 49)) (w.heap.size + 1 + 1) 49 vs := heap_alloc_at (by simp)
  exact ⟨(Rd.ofBlk (cs := cellsOf Arc.cells [a]) h1 rfl).more (by omega), (Rd.ofBlk (cs := cellsOf Arc.cells [b]) ((h2.alloc _).alloc _) rfl).more (by omega), h3.alloc _, heap_alloc_at (by simp),
    ((((Below.refl w.heap.size w).alloc (Nat.le_refl _) _).alloc (by simp) _).alloc (by simp; omega) _).alloc (by simp; omega) _⟩

set_option maxRecDepth 100000 in
theorem rowsExamples_law (w : World) : Calls Try.prog 8 #[] w fun e w' => e = .returned (.bool true) ∧ Below w.heap.size w w' := by
  have H0 := Lib.hid (ex_blks w rfl ⟨2, 2⟩ ⟨3, 0⟩ #[.slice (some ⟨w.heap.size, 0, none⟩) 1 1, .slice none 0 0, .slice (some ⟨w.heap.size + 1, 0, none⟩) 1 1] 3)
  have HR0 := Lib.hid (rows_rd (B := w.heap.size + 3) (m := 3) (vs := [.slice (some ⟨w.heap.size, 0, none⟩) 1 1, .slice none 0 0, .slice (some ⟨w.heap.size + 1, 0, none⟩) 1 1]) (ls := exL) H0.out.2.2.1 (by omega) rfl rfl fun i l hl => by
    match i with
    | 0 =>
      have : l = [⟨2, 2⟩] := by simpa [exL] using hl.symm
      subst this
      exact ⟨_, 1, 1, rfl, H0.out.1⟩
    | 1 =>
      have : l = [] := by simpa [exL] using hl.symm
      subst this
      exact ⟨_, 0, 0, rfl, Rd.nil⟩
    | 2 =>
      have : l = [⟨3, 0⟩] := by simpa [exL] using hl.symm
      subst this
      exact ⟨_, 1, 1, rfl, H0.out.2.1⟩
    | i + 3 => simp [exL] at hl)
  have HS0 := Lib.hid (show (exW w w.heap.size ⟨2, 2⟩ ⟨3, 0⟩ #[.slice (some ⟨w.heap.size, 0, none⟩) 1 1, .slice none 0 0, .slice (some ⟨w.heap.size + 1, 0, none⟩) 1 1] 3).heap.size = w.heap.size + 4 by simp)
  go_enter Try.func8, Try.ntmps8
  go_wp2_with (first | ((with_reducible show wpPlan _ _ _ [] _ _ _); refine wpPlan_nil ?_) | ((with_reducible show wpPlan _ _ _ ((_, 0, _) :: _) _ _ _); first | (refine wpPlan_read0 rfl ?hw rfl (fun _ _ _ => ?_); case hw => ((conv => (lhs; whnf)); first | done | with_reducible rfl)) | (refine wpPlan_skip0 rfl ?hw ?_; (case hw => ((conv => (lhs; whnf)); first | done | with_reducible rfl)); (try simp only [List.getElem_toArray, List.getElem_cons_succ, List.getElem_cons_zero, Act.put, List.setIfInBounds_toArray, List.set_cons_zero, List.set_cons_succ]))) | ((with_reducible show wpPlan _ _ _ ((_, 1, _) :: _) _ _ _); first | (refine wpPlan_read1d rfl ?hw rfl rfl (fun _ _ _ => ?_); case hw => ((conv => (lhs; whnf)); first | done | with_reducible rfl)) | (refine wpPlan_skip1d rfl ?hw ?_; (case hw => ((conv => (lhs; whnf)); first | done | with_reducible rfl)); (try simp only [List.getElem_toArray, List.getElem_cons_succ, List.getElem_cons_zero, Act.put, List.setIfInBounds_toArray, List.set_cons_zero, List.set_cons_succ])) | (refine wpPlan_read1 rfl ?hw rfl (fun _ _ _ => ?_); case hw => ((conv => (lhs; whnf)); first | done | with_reducible rfl))) | ((with_reducible show wpPlan _ _ _ ((_, 2, _) :: _) _ _ _); first | (refine wpPlan_eff rfl ?hw (fun _ _ => ?_); case hw => ((conv => (lhs; whnf)); first | done | with_reducible rfl)) | (refine wpPlan_skip2 rfl ?hw ?_; (case hw => ((conv => (lhs; whnf)); first | done | with_reducible rfl)); (try simp only [List.getElem_toArray, List.getElem_cons_succ, List.getElem_cons_zero, Act.put, List.setIfInBounds_toArray, List.set_cons_zero, List.set_cons_succ]))) | ((with_reducible show wpPlan _ _ _ _ _ _ _); refine wpPlan_fork ?_ ?_) | ((with_reducible show Owed _ _ _ [] _ _ _ _ _); refine Owed.none_ ?_) | ((with_reducible show Owed _ _ _ _ [] _ _ _ _); refine Owed.nil_ ?_) | ((with_reducible show Owed _ _ _ _ _ _ _ _ _); first | (refine Owed.miss rfl ?_) | (refine Owed.hit ?_ ?_)) | ((with_reducible show Same _ _ _ _ _); intro _; go_simp; done) | (with_reducible exact True.intro))
  refine (canonical_any (some ⟨w.heap.size + 1 + 1, 0, none⟩) 3 3 (w.heap.size + 3) exL _ HR0.out (by rw [HS0.out]; omega) (by decide)).mono ?_
  rintro e w1 ⟨A1, n1, c1, out, A2, n2, c2, old, err, rfl, hR1, hO1, hb1, hres⟩
  rcases hres with ⟨hq, _⟩ | ⟨_, rfl, i, hd, rfl, rfl⟩
  · rw [ex_loose] at hq; cases hq
  obtain rfl := hd.unique ex_done
  rw [ex_out] at hR1
  rw [ex_old, nat_cells] at hO1
  have HB1 := Lib.hid ((H0.out.2.2.2.2.trans (hb1.mono (by rw [HS0.out]; omega))).alloc (by have := hb1.size; rw [HS0.out] at this; omega) (.cells #[.slice A1 n1 c1] 25))
  have HR1 := Lib.hid (hR1.alloc (Nat.le_refl _) (.cells #[.slice A1 n1 c1] 25))
  have HO1 := Lib.hid (hO1.alloc (Nat.le_refl _) (.cells #[.slice A1 n1 c1] 25))
  have HN1 := Lib.hid (Blk.new w1 25 #[.slice A1 n1 c1])
  have hl1 := hR1.len
  have hn1 : n1 = 2 := hl1.symm
  have hn2 : n2 = 2 := by
    have := hO1.len icell_len (by decide)
    exact this.symm
  subst hn1 hn2
  have hs1 : w.heap.size ≤ w1.heap.size := by have := hb1.size; rw [HS0.out] at this; omega
  clear hR1 hO1 hb1 hd hl1
  have H2 := Lib.hid (ex_blks (w1.alloc (.cells #[.slice A1 2 c1] 25)) (p := w1.heap.size + 1) (by simp) ⟨2, 1⟩ ⟨3, 0⟩ #[.slice (some ⟨w1.heap.size + 1, 0, none⟩) 1 1, .slice (some ⟨w1.heap.size + 1 + 1, 0, none⟩) 1 1] 2)
  have HR2 := Lib.hid (rows_rd (B := w1.heap.size + 1 + 3) (m := 2) (vs := [.slice (some ⟨w1.heap.size + 1, 0, none⟩) 1 1, .slice (some ⟨w1.heap.size + 1 + 1, 0, none⟩) 1 1]) (ls := exC) H2.out.2.2.1 (by omega) rfl rfl fun i l hl => by
    match i with
    | 0 =>
      have : l = [⟨2, 1⟩] := by simpa [exC] using hl.symm
      subst this
      exact ⟨_, 1, 1, rfl, H2.out.1⟩
    | 1 =>
      have : l = [⟨3, 0⟩] := by simpa [exC] using hl.symm
      subst this
      exact ⟨_, 1, 1, rfl, H2.out.2.1⟩
    | i + 2 => simp [exC] at hl)
  have HS2 := Lib.hid (show (exW (w1.alloc (.cells #[.slice A1 2 c1] 25)) (w1.heap.size + 1) ⟨2, 1⟩ ⟨3, 0⟩ #[.slice (some ⟨w1.heap.size + 1, 0, none⟩) 1 1, .slice (some ⟨w1.heap.size + 1 + 1, 0, none⟩) 1 1] 2).heap.size = w1.heap.size + 5 by simp)
  have HX2 := Lib.hid (And.intro ((HR1.out.below (H2.out.2.2.2.2.mono (by omega))).more (show w1.heap.size ≤ w1.heap.size + 1 + 3 by omega)) (And.intro ((HO1.out.below (H2.out.2.2.2.2.mono (by omega))).more (show w1.heap.size ≤ w1.heap.size + 1 + 3 by omega)) (HB1.out.trans (H2.out.2.2.2.2.mono (by omega)))))
  have n2c := (HN1.out.below H2.out.2.2.2.2 (by omega)).cell
  have n2l := (HN1.out.below H2.out.2.2.2.2 (by omega)).lt
  go_wp2_with (first | ((with_reducible show wpPlan _ _ _ [] _ _ _); refine wpPlan_nil ?_) | ((with_reducible show wpPlan _ _ _ ((_, 0, _) :: _) _ _ _); first | (refine wpPlan_read0 rfl ?hw rfl (fun _ _ _ => ?_); case hw => ((conv => (lhs; whnf)); first | done | with_reducible rfl)) | (refine wpPlan_skip0 rfl ?hw ?_; (case hw => ((conv => (lhs; whnf)); first | done | with_reducible rfl)); (try simp only [List.getElem_toArray, List.getElem_cons_succ, List.getElem_cons_zero, Act.put, List.setIfInBounds_toArray, List.set_cons_zero, List.set_cons_succ]))) | ((with_reducible show wpPlan _ _ _ ((_, 1, _) :: _) _ _ _); first | (refine wpPlan_read1d rfl ?hw rfl rfl (fun _ _ _ => ?_); case hw => ((conv => (lhs; whnf)); first | done | with_reducible rfl)) | (refine wpPlan_skip1d rfl ?hw ?_; (case hw => ((conv => (lhs; whnf)); first | done | with_reducible rfl)); (try simp only [List.getElem_toArray, List.getElem_cons_succ, List.getElem_cons_zero, Act.put, List.setIfInBounds_toArray, List.set_cons_zero, List.set_cons_succ])) | (refine wpPlan_read1 rfl ?hw rfl (fun _ _ _ => ?_); case hw => ((conv => (lhs; whnf)); first | done | with_reducible rfl))) | ((with_reducible show wpPlan _ _ _ ((_, 2, _) :: _) _ _ _); first | (refine wpPlan_eff rfl ?hw (fun _ _ => ?_); case hw => ((conv => (lhs; whnf)); first | done | with_reducible rfl)) | (refine wpPlan_skip2 rfl ?hw ?_; (case hw => ((conv => (lhs; whnf)); first | done | with_reducible rfl)); (try simp only [List.getElem_toArray, List.getElem_cons_succ, List.getElem_cons_zero, Act.put, List.setIfInBounds_toArray, List.set_cons_zero, List.set_cons_succ]))) | ((with_reducible show wpPlan _ _ _ _ _ _ _); refine wpPlan_fork ?_ ?_) | ((with_reducible show Owed _ _ _ [] _ _ _ _ _); refine Owed.none_ ?_) | ((with_reducible show Owed _ _ _ _ [] _ _ _ _); refine Owed.nil_ ?_) | ((with_reducible show Owed _ _ _ _ _ _ _ _ _); first | (refine Owed.miss rfl ?_) | (refine Owed.hit ?_ ?_)) | ((with_reducible show Same _ _ _ _ _); intro _; go_simp; done) | (with_reducible exact True.intro))
  refine (same_any A1 _ 2 c1 2 2 (w1.heap.size + 1 + 3) exC exC _ HX2.out.1 HR2.out (by rw [HS2.out]; omega) (by decide) (by decide)).mono ?_
  rintro e w3 ⟨rfl, hb3⟩
  rw [show decide (exC = exC) = true from decide_eq_true rfl]
  have hs3 : w1.heap.size + 5 ≤ w3.heap.size := by have := hb3.size; rw [HS2.out] at this; exact this
  have HX3 := Lib.hid (And.intro ((HX2.out.2.1.below (hb3.mono (by rw [HS2.out]; omega))).more (show w1.heap.size + 1 + 3 ≤ w3.heap.size by omega)) (HX2.out.2.2.trans (hb3.mono (by rw [HS2.out]; omega))))
  have HI3 := Lib.hid ((Rd.ofBlk (k := 1) (n := 2) (cs := cellsOf icell [0, 2]) (Blk.new w3 3 #[.int .i64 0, .int .i64 2]) rfl))
  clear hb3 n2c n2l
  go_wp2_with (first | ((with_reducible show wpPlan _ _ _ [] _ _ _); refine wpPlan_nil ?_) | ((with_reducible show wpPlan _ _ _ ((_, 0, _) :: _) _ _ _); first | (refine wpPlan_read0 rfl ?hw rfl (fun _ _ _ => ?_); case hw => ((conv => (lhs; whnf)); first | done | with_reducible rfl)) | (refine wpPlan_skip0 rfl ?hw ?_; (case hw => ((conv => (lhs; whnf)); first | done | with_reducible rfl)); (try simp only [List.getElem_toArray, List.getElem_cons_succ, List.getElem_cons_zero, Act.put, List.setIfInBounds_toArray, List.set_cons_zero, List.set_cons_succ]))) | ((with_reducible show wpPlan _ _ _ ((_, 1, _) :: _) _ _ _); first | (refine wpPlan_read1d rfl ?hw rfl rfl (fun _ _ _ => ?_); case hw => ((conv => (lhs; whnf)); first | done | with_reducible rfl)) | (refine wpPlan_skip1d rfl ?hw ?_; (case hw => ((conv => (lhs; whnf)); first | done | with_reducible rfl)); (try simp only [List.getElem_toArray, List.getElem_cons_succ, List.getElem_cons_zero, Act.put, List.setIfInBounds_toArray, List.set_cons_zero, List.set_cons_succ])) | (refine wpPlan_read1 rfl ?hw rfl (fun _ _ _ => ?_); case hw => ((conv => (lhs; whnf)); first | done | with_reducible rfl))) | ((with_reducible show wpPlan _ _ _ ((_, 2, _) :: _) _ _ _); first | (refine wpPlan_eff rfl ?hw (fun _ _ => ?_); case hw => ((conv => (lhs; whnf)); first | done | with_reducible rfl)) | (refine wpPlan_skip2 rfl ?hw ?_; (case hw => ((conv => (lhs; whnf)); first | done | with_reducible rfl)); (try simp only [List.getElem_toArray, List.getElem_cons_succ, List.getElem_cons_zero, Act.put, List.setIfInBounds_toArray, List.set_cons_zero, List.set_cons_succ]))) | ((with_reducible show wpPlan _ _ _ _ _ _ _); refine wpPlan_fork ?_ ?_) | ((with_reducible show Owed _ _ _ [] _ _ _ _ _); refine Owed.none_ ?_) | ((with_reducible show Owed _ _ _ _ [] _ _ _ _); refine Owed.nil_ ?_) | ((with_reducible show Owed _ _ _ _ _ _ _ _ _); first | (refine Owed.miss rfl ?_) | (refine Owed.hit ?_ ?_)) | ((with_reducible show Same _ _ _ _ _); intro _; go_simp; done) | (with_reducible exact True.intro))
  refine (ints_any A2 _ 2 c2 2 2 (w3.heap.size + 1) [0, 2] [0, 2] _ ((HX3.out.1.alloc (Nat.le_refl _) _).more (by omega)) HI3.out (by simp) (by decide)).mono ?_
  rintro e w4 ⟨rfl, hb4⟩
  have HB4 := Lib.hid ((HX3.out.2.alloc HX3.out.2.size (.cells #[.int .i64 0, .int .i64 2] 3)).trans (hb4.mono (by have := HX3.out.2.size; simp; omega)))
  rw [show decide (([0, 2] : List Int) = [0, 2]) = true from by decide]
  clear hb4
  go_wp2_with (first | ((with_reducible show wpPlan _ _ _ [] _ _ _); refine wpPlan_nil ?_) | ((with_reducible show wpPlan _ _ _ ((_, 0, _) :: _) _ _ _); first | (refine wpPlan_read0 rfl ?hw rfl (fun _ _ _ => ?_); case hw => ((conv => (lhs; whnf)); first | done | with_reducible rfl)) | (refine wpPlan_skip0 rfl ?hw ?_; (case hw => ((conv => (lhs; whnf)); first | done | with_reducible rfl)); (try simp only [List.getElem_toArray, List.getElem_cons_succ, List.getElem_cons_zero, Act.put, List.setIfInBounds_toArray, List.set_cons_zero, List.set_cons_succ]))) | ((with_reducible show wpPlan _ _ _ ((_, 1, _) :: _) _ _ _); first | (refine wpPlan_read1d rfl ?hw rfl rfl (fun _ _ _ => ?_); case hw => ((conv => (lhs; whnf)); first | done | with_reducible rfl)) | (refine wpPlan_skip1d rfl ?hw ?_; (case hw => ((conv => (lhs; whnf)); first | done | with_reducible rfl)); (try simp only [List.getElem_toArray, List.getElem_cons_succ, List.getElem_cons_zero, Act.put, List.setIfInBounds_toArray, List.set_cons_zero, List.set_cons_succ])) | (refine wpPlan_read1 rfl ?hw rfl (fun _ _ _ => ?_); case hw => ((conv => (lhs; whnf)); first | done | with_reducible rfl))) | ((with_reducible show wpPlan _ _ _ ((_, 2, _) :: _) _ _ _); first | (refine wpPlan_eff rfl ?hw (fun _ _ => ?_); case hw => ((conv => (lhs; whnf)); first | done | with_reducible rfl)) | (refine wpPlan_skip2 rfl ?hw ?_; (case hw => ((conv => (lhs; whnf)); first | done | with_reducible rfl)); (try simp only [List.getElem_toArray, List.getElem_cons_succ, List.getElem_cons_zero, Act.put, List.setIfInBounds_toArray, List.set_cons_zero, List.set_cons_succ]))) | ((with_reducible show wpPlan _ _ _ _ _ _ _); refine wpPlan_fork ?_ ?_) | ((with_reducible show Owed _ _ _ [] _ _ _ _ _); refine Owed.none_ ?_) | ((with_reducible show Owed _ _ _ _ [] _ _ _ _); refine Owed.nil_ ?_) | ((with_reducible show Owed _ _ _ _ _ _ _ _ _); first | (refine Owed.miss rfl ?_) | (refine Owed.hit ?_ ?_)) | ((with_reducible show Same _ _ _ _ _); intro _; go_simp; done) | (with_reducible exact True.intro))
  refine (sane_any _).mono ?_
  rintro e w5 ⟨rfl, hb5⟩
  have HB5 := Lib.hid (HB4.out.trans (hb5.mono HB4.out.size))
  clear hb5
  go_wp2_with (first | ((with_reducible show wpPlan _ _ _ [] _ _ _); refine wpPlan_nil ?_) | ((with_reducible show wpPlan _ _ _ ((_, 0, _) :: _) _ _ _); first | (refine wpPlan_read0 rfl ?hw rfl (fun _ _ _ => ?_); case hw => ((conv => (lhs; whnf)); first | done | with_reducible rfl)) | (refine wpPlan_skip0 rfl ?hw ?_; (case hw => ((conv => (lhs; whnf)); first | done | with_reducible rfl)); (try simp only [List.getElem_toArray, List.getElem_cons_succ, List.getElem_cons_zero, Act.put, List.setIfInBounds_toArray, List.set_cons_zero, List.set_cons_succ]))) | ((with_reducible show wpPlan _ _ _ ((_, 1, _) :: _) _ _ _); first | (refine wpPlan_read1d rfl ?hw rfl rfl (fun _ _ _ => ?_); case hw => ((conv => (lhs; whnf)); first | done | with_reducible rfl)) | (refine wpPlan_skip1d rfl ?hw ?_; (case hw => ((conv => (lhs; whnf)); first | done | with_reducible rfl)); (try simp only [List.getElem_toArray, List.getElem_cons_succ, List.getElem_cons_zero, Act.put, List.setIfInBounds_toArray, List.set_cons_zero, List.set_cons_succ])) | (refine wpPlan_read1 rfl ?hw rfl (fun _ _ _ => ?_); case hw => ((conv => (lhs; whnf)); first | done | with_reducible rfl))) | ((with_reducible show wpPlan _ _ _ ((_, 2, _) :: _) _ _ _); first | (refine wpPlan_eff rfl ?hw (fun _ _ => ?_); case hw => ((conv => (lhs; whnf)); first | done | with_reducible rfl)) | (refine wpPlan_skip2 rfl ?hw ?_; (case hw => ((conv => (lhs; whnf)); first | done | with_reducible rfl)); (try simp only [List.getElem_toArray, List.getElem_cons_succ, List.getElem_cons_zero, Act.put, List.setIfInBounds_toArray, List.set_cons_zero, List.set_cons_succ]))) | ((with_reducible show wpPlan _ _ _ _ _ _ _); refine wpPlan_fork ?_ ?_) | ((with_reducible show Owed _ _ _ [] _ _ _ _ _); refine Owed.none_ ?_) | ((with_reducible show Owed _ _ _ _ [] _ _ _ _); refine Owed.nil_ ?_) | ((with_reducible show Owed _ _ _ _ _ _ _ _ _); first | (refine Owed.miss rfl ?_) | (refine Owed.hit ?_ ?_)) | ((with_reducible show Same _ _ _ _ _); intro _; go_simp; done) | (with_reducible exact True.intro))
  refine bodyPost_ret (v := .bool true) (by simp [results, Try.results8, go_sem]) rfl ?_
  exact ⟨rfl, HB5.out⟩

end Go.Proofs.Ytonpdclccgpceaa
