/- loose and valid systems: the program's and the reference's -/
import Derived.Test.YtonpdclccgpceaaRows
import Derived.Test.YtonpdclccgpceaaRwSpec
import Derived.Test.YtonpdclccgpceaaPlan2
namespace Go.Proofs.Ytonpdclccgpceaa
open Go Go.RowKit
set_option maxHeartbeats 4000000

abbrev lts (A : Option Addr) (n c : Nat) : Value := .agg #[.slice A n c]
def cmpS (x y : Int) : Int := if x < y then -1 else if y < x then 1 else 0
def orS (x y : Int) : Int := if x = 0 then y else x
def arcCmp (a b : Arc) : Int := orS (cmpS a.ev b.ev) (cmpS a.to b.to)
theorem arcCmp_less (a b : Arc) : decide (0 ≤ arcCmp a b) = !lessB a b := by
  unfold arcCmp orS cmpS lessB
  rw [Bool.eq_iff_iff]
  simp only [decide_eq_true_eq, Bool.not_eq_true', decide_eq_false_iff_not]
  split <;> split at * <;> (try split at *) <;> omega

theorem isNaN_any (x : Int) (w : World) : Calls Try.prog 95 #[.int .i64 x] w fun e w' => e = .returned (.bool false) ∧ w = w' := by
  go_enter Try.func95, Try.ntmps95
  go_wp2
  go_ret
  exact ⟨ret_bool (by simp), rfl⟩
theorem cmpC_any (x y : Int) (w : World) : Calls Try.prog 78 #[.int .i64 x, .int .i64 y] w fun e w' => e = .returned (.int .i64 (cmpS x y)) ∧ w = w' := by
  by_cases h1 : x < y
  · have hc : cmpS x y = -1 := by rw [cmpS, if_pos h1]
    have HC := Lib.hid hc
    clear hc
    go_enter Try.func78, Try.ntmps78
    go_wp2_with (first | (go_at_call 95; refine (isNaN_any _ _).mono ?_; rintro e w' ⟨rfl, rfl⟩))
    go_ret
    exact ⟨ret_int HC.out.symm, rfl⟩
  · by_cases h2 : y < x
    · have hc : cmpS x y = 1 := by rw [cmpS, if_neg h1, if_pos h2]
      have HC := Lib.hid hc
      clear hc
      go_enter Try.func78, Try.ntmps78
      go_wp2_with (first | (go_at_call 95; refine (isNaN_any _ _).mono ?_; rintro e w' ⟨rfl, rfl⟩))
      go_ret
      exact ⟨ret_int HC.out.symm, rfl⟩
    · have hc : cmpS x y = 0 := by rw [cmpS, if_neg h1, if_neg h2]
      have HC := Lib.hid hc
      clear hc
      go_enter Try.func78, Try.ntmps78
      go_wp2_with (first | (go_at_call 95; refine (isNaN_any _ _).mono ?_; rintro e w' ⟨rfl, rfl⟩))
      go_ret
      exact ⟨ret_int HC.out.symm, rfl⟩
theorem or_any (B : Nat) (A : Option Addr) (c : Nat) (x y : Int) (w : World) (h : Rd w B 1 A 2 (cellsOf icell [x, y])) :
    Calls Try.prog 77 #[.slice A 2 c] w fun e w' => e = .returned (.int .i64 (orS x y)) ∧ w = w' := by
  have H := Lib.hid h
  clear h
  go_enter Try.func77, Try.ntmps77
  go_wp2
  go_loop [5, 8] (fun _ vk => ∃ k : Nat, k ≤ 2 ∧ vk = .int .i64 k ∧ (0 < k → x = 0) ∧ (1 < k → y = 0)) (fun _ vk => 2 - (intOf vk).toNat)
  case atStart => exact ⟨0, by omega, rfl, fun h => absurd h (by omega), fun h => absurd h (by omega)⟩
  case round =>
    obtain ⟨k, hk, rfl, hx, hy⟩ := hrel
    by_cases hlt : k < 2
    · obtain ⟨b1, o1, z, rfl, _, hz, c0⟩ := H.out.int hlt
      have hk01 : k = 0 ∨ k = 1 := by omega
      by_cases h0 : z = 0
      · subst h0
        go_wp2
        go_round
        case rel =>
          rcases hk01 with rfl | rfl
          · simp at hz
            exact ⟨1, by omega, rfl, fun _ => hz, fun h => absurd h (by omega)⟩
          · simp at hz
            exact ⟨2, by omega, rfl, fun _ => hx (by omega), fun _ => hz⟩
        case measure => simp [intOf]; omega
      · have h0b : (z == 0) = false := beq_eq_false_iff_ne.2 h0
        have hr : z = orS x y := by
          unfold orS
          rcases hk01 with rfl | rfl
          · simp at hz
            rw [if_neg (by rw [hz]; exact h0), hz]
          · simp at hz
            rw [if_pos (hx (by omega)), hz]
        have HR := Lib.hid hr
        clear hr hz hx hy
        go_wp2
        go_ret
        exact ⟨ret_int HR.out, rfl⟩
    · have hk2 : k = 2 := by omega
      subst hk2
      have hr : (0 : Int) = orS x y := by
        unfold orS
        rw [if_pos (hx (by omega)), hy (by omega)]
      have HR := Lib.hid hr
      clear hr hx hy
      go_wp2
      go_ret
      exact ⟨ret_int HR.out, rfl⟩

set_option maxRecDepth 100000 in
theorem compare_any (a b : Arc) (w : World) : Calls Try.prog 60 #[a.v, b.v] w fun e w' => e = .returned (.int .i64 (arcCmp a b)) ∧ Below w.heap.size w w' := by
  obtain ⟨ae, at_⟩ := a
  obtain ⟨be, bt⟩ := b
  have HB := Lib.hid (((Below.refl w.heap.size w).alloc (Nat.le_refl _) (.cells #[.int .i64 ae, .int .i64 at_] 55)).alloc (by simp) (.cells #[.int .i64 be, .int .i64 bt] 55))
  have hE : orS (cmpS ae be) (cmpS at_ bt) = arcCmp ⟨ae, at_⟩ ⟨be, bt⟩ := rfl
  obtain ⟨x, hx⟩ : ∃ x, cmpS ae be = x := ⟨_, rfl⟩
  obtain ⟨y, hy⟩ : ∃ y, cmpS at_ bt = y := ⟨_, rfl⟩
  rw [hx, hy] at hE
  have HX := Lib.hid hx
  have HY := Lib.hid hy
  have HE := Lib.hid hE
  have HZ := Lib.hid (show Rd (((w.alloc (.cells #[.int .i64 ae, .int .i64 at_] 55)).alloc (.cells #[.int .i64 be, .int .i64 bt] 55)).alloc (.cells #[.int .i64 x, .int .i64 y] 3)) (w.heap.size + 1 + 1 + 1) 1 (some ⟨w.heap.size + 1 + 1, 0, none⟩) 2 (cellsOf icell [x, y]) by
    exact Rd.ofBlk (k := 1) (n := 2) (t := 3) (heap_alloc_at (by simp)) rfl)
  clear hx hy hE
  go_enter Try.func60, Try.ntmps60
  go_wp2_with (first | ((with_reducible show wpPlan _ _ _ [] _ _ _); refine wpPlan_nil ?_) | ((with_reducible show wpPlan _ _ _ ((_, 0, _) :: _) _ _ _); first | (refine wpPlan_read0 rfl ?hw rfl (fun _ _ _ => ?_); case hw => ((conv => (lhs; whnf)); first | done | with_reducible rfl)) | (refine wpPlan_skip0 rfl ?hw ?_; (case hw => ((conv => (lhs; whnf)); first | done | with_reducible rfl)); (try simp only [List.getElem_toArray, List.getElem_cons_succ, List.getElem_cons_zero, Act.put, List.setIfInBounds_toArray, List.set_cons_zero, List.set_cons_succ]))) | ((with_reducible show wpPlan _ _ _ ((_, 1, _) :: _) _ _ _); first | (refine wpPlan_read1d rfl ?hw rfl rfl (fun _ _ _ => ?_); case hw => ((conv => (lhs; whnf)); first | done | with_reducible rfl)) | (refine wpPlan_skip1d rfl ?hw ?_; (case hw => ((conv => (lhs; whnf)); first | done | with_reducible rfl)); (try simp only [List.getElem_toArray, List.getElem_cons_succ, List.getElem_cons_zero, Act.put, List.setIfInBounds_toArray, List.set_cons_zero, List.set_cons_succ])) | (refine wpPlan_read1 rfl ?hw rfl (fun _ _ _ => ?_); case hw => ((conv => (lhs; whnf)); first | done | with_reducible rfl))) | ((with_reducible show wpPlan _ _ _ ((_, 2, _) :: _) _ _ _); first | (refine wpPlan_eff rfl ?hw (fun _ _ => ?_); case hw => ((conv => (lhs; whnf)); first | done | with_reducible rfl)) | (refine wpPlan_skip2 rfl ?hw ?_; (case hw => ((conv => (lhs; whnf)); first | done | with_reducible rfl)); (try simp only [List.getElem_toArray, List.getElem_cons_succ, List.getElem_cons_zero, Act.put, List.setIfInBounds_toArray, List.set_cons_zero, List.set_cons_succ]))) | ((with_reducible show wpPlan _ _ _ _ _ _ _); refine wpPlan_fork ?_ ?_) | ((with_reducible show Owed _ _ _ [] _ _ _ _ _); refine Owed.none_ ?_) | ((with_reducible show Owed _ _ _ _ [] _ _ _ _); refine Owed.nil_ ?_) | ((with_reducible show Owed _ _ _ _ _ _ _ _ _); first | (refine Owed.miss rfl ?_) | (refine Owed.hit ?_ ?_)) | ((with_reducible show Same _ _ _ _ _); intro _; go_simp; done) | (with_reducible exact True.intro) | ((with_reducible show Code.wp _ (Code.region 1 _ true) _ _ _); refine wp_region_plan [(0, 1, []), (1, 1, []), (2, 1, []), (3, 1, []), (5, 1, []), (6, 1, []), (7, 1, []), (8, 1, []), (4, 2, [5, 6, 7, 8]), (9, 2, []), (10, 2, []), (11, 2, []), (12, 0, [])] (by kernel_rfl) (by kernel_rfl) (by kernel_rfl) ?_))
  refine (cmpC_any ae be _).mono ?_
  rw [HX.out]
  rintro e w1 ⟨rfl, rfl⟩
  go_wp2_with (first | ((with_reducible show wpPlan _ _ _ [] _ _ _); refine wpPlan_nil ?_) | ((with_reducible show wpPlan _ _ _ ((_, 0, _) :: _) _ _ _); first | (refine wpPlan_read0 rfl ?hw rfl (fun _ _ _ => ?_); case hw => ((conv => (lhs; whnf)); first | done | with_reducible rfl)) | (refine wpPlan_skip0 rfl ?hw ?_; (case hw => ((conv => (lhs; whnf)); first | done | with_reducible rfl)); (try simp only [List.getElem_toArray, List.getElem_cons_succ, List.getElem_cons_zero, Act.put, List.setIfInBounds_toArray, List.set_cons_zero, List.set_cons_succ]))) | ((with_reducible show wpPlan _ _ _ ((_, 1, _) :: _) _ _ _); first | (refine wpPlan_read1d rfl ?hw rfl rfl (fun _ _ _ => ?_); case hw => ((conv => (lhs; whnf)); first | done | with_reducible rfl)) | (refine wpPlan_skip1d rfl ?hw ?_; (case hw => ((conv => (lhs; whnf)); first | done | with_reducible rfl)); (try simp only [List.getElem_toArray, List.getElem_cons_succ, List.getElem_cons_zero, Act.put, List.setIfInBounds_toArray, List.set_cons_zero, List.set_cons_succ])) | (refine wpPlan_read1 rfl ?hw rfl (fun _ _ _ => ?_); case hw => ((conv => (lhs; whnf)); first | done | with_reducible rfl))) | ((with_reducible show wpPlan _ _ _ ((_, 2, _) :: _) _ _ _); first | (refine wpPlan_eff rfl ?hw (fun _ _ => ?_); case hw => ((conv => (lhs; whnf)); first | done | with_reducible rfl)) | (refine wpPlan_skip2 rfl ?hw ?_; (case hw => ((conv => (lhs; whnf)); first | done | with_reducible rfl)); (try simp only [List.getElem_toArray, List.getElem_cons_succ, List.getElem_cons_zero, Act.put, List.setIfInBounds_toArray, List.set_cons_zero, List.set_cons_succ]))) | ((with_reducible show wpPlan _ _ _ _ _ _ _); refine wpPlan_fork ?_ ?_) | ((with_reducible show Owed _ _ _ [] _ _ _ _ _); refine Owed.none_ ?_) | ((with_reducible show Owed _ _ _ _ [] _ _ _ _); refine Owed.nil_ ?_) | ((with_reducible show Owed _ _ _ _ _ _ _ _ _); first | (refine Owed.miss rfl ?_) | (refine Owed.hit ?_ ?_)) | ((with_reducible show Same _ _ _ _ _); intro _; go_simp; done) | (with_reducible exact True.intro) | ((with_reducible show Code.wp _ (Code.region 1 _ true) _ _ _); refine wp_region_plan [(0, 1, []), (1, 1, []), (2, 1, []), (3, 1, []), (5, 1, []), (6, 1, []), (7, 1, []), (8, 1, []), (4, 2, [5, 6, 7, 8]), (9, 2, []), (10, 2, []), (11, 2, []), (12, 0, [])] (by kernel_rfl) (by kernel_rfl) (by kernel_rfl) ?_))
  refine (cmpC_any at_ bt _).mono ?_
  rw [HY.out]
  rintro e w1 ⟨rfl, rfl⟩
  go_wp2_with (first | ((with_reducible show wpPlan _ _ _ [] _ _ _); refine wpPlan_nil ?_) | ((with_reducible show wpPlan _ _ _ ((_, 0, _) :: _) _ _ _); first | (refine wpPlan_read0 rfl ?hw rfl (fun _ _ _ => ?_); case hw => ((conv => (lhs; whnf)); first | done | with_reducible rfl)) | (refine wpPlan_skip0 rfl ?hw ?_; (case hw => ((conv => (lhs; whnf)); first | done | with_reducible rfl)); (try simp only [List.getElem_toArray, List.getElem_cons_succ, List.getElem_cons_zero, Act.put, List.setIfInBounds_toArray, List.set_cons_zero, List.set_cons_succ]))) | ((with_reducible show wpPlan _ _ _ ((_, 1, _) :: _) _ _ _); first | (refine wpPlan_read1d rfl ?hw rfl rfl (fun _ _ _ => ?_); case hw => ((conv => (lhs; whnf)); first | done | with_reducible rfl)) | (refine wpPlan_skip1d rfl ?hw ?_; (case hw => ((conv => (lhs; whnf)); first | done | with_reducible rfl)); (try simp only [List.getElem_toArray, List.getElem_cons_succ, List.getElem_cons_zero, Act.put, List.setIfInBounds_toArray, List.set_cons_zero, List.set_cons_succ])) | (refine wpPlan_read1 rfl ?hw rfl (fun _ _ _ => ?_); case hw => ((conv => (lhs; whnf)); first | done | with_reducible rfl))) | ((with_reducible show wpPlan _ _ _ ((_, 2, _) :: _) _ _ _); first | (refine wpPlan_eff rfl ?hw (fun _ _ => ?_); case hw => ((conv => (lhs; whnf)); first | done | with_reducible rfl)) | (refine wpPlan_skip2 rfl ?hw ?_; (case hw => ((conv => (lhs; whnf)); first | done | with_reducible rfl)); (try simp only [List.getElem_toArray, List.getElem_cons_succ, List.getElem_cons_zero, Act.put, List.setIfInBounds_toArray, List.set_cons_zero, List.set_cons_succ]))) | ((with_reducible show wpPlan _ _ _ _ _ _ _); refine wpPlan_fork ?_ ?_) | ((with_reducible show Owed _ _ _ [] _ _ _ _ _); refine Owed.none_ ?_) | ((with_reducible show Owed _ _ _ _ [] _ _ _ _); refine Owed.nil_ ?_) | ((with_reducible show Owed _ _ _ _ _ _ _ _ _); first | (refine Owed.miss rfl ?_) | (refine Owed.hit ?_ ?_)) | ((with_reducible show Same _ _ _ _ _); intro _; go_simp; done) | (with_reducible exact True.intro) | ((with_reducible show Code.wp _ (Code.region 1 _ true) _ _ _); refine wp_region_plan [(0, 1, []), (1, 1, []), (2, 1, []), (3, 1, []), (5, 1, []), (6, 1, []), (7, 1, []), (8, 1, []), (4, 2, [5, 6, 7, 8]), (9, 2, []), (10, 2, []), (11, 2, []), (12, 0, [])] (by kernel_rfl) (by kernel_rfl) (by kernel_rfl) ?_))
  refine (or_any (w.heap.size + 1 + 1 + 1) _ 2 x y _ ?_).mono ?_
  · exact HZ.out
  rw [HE.out]
  rintro e w1 ⟨rfl, rfl⟩
  go_wp2_with (first | ((with_reducible show wpPlan _ _ _ [] _ _ _); refine wpPlan_nil ?_) | ((with_reducible show wpPlan _ _ _ ((_, 0, _) :: _) _ _ _); first | (refine wpPlan_read0 rfl ?hw rfl (fun _ _ _ => ?_); case hw => ((conv => (lhs; whnf)); first | done | with_reducible rfl)) | (refine wpPlan_skip0 rfl ?hw ?_; (case hw => ((conv => (lhs; whnf)); first | done | with_reducible rfl)); (try simp only [List.getElem_toArray, List.getElem_cons_succ, List.getElem_cons_zero, Act.put, List.setIfInBounds_toArray, List.set_cons_zero, List.set_cons_succ]))) | ((with_reducible show wpPlan _ _ _ ((_, 1, _) :: _) _ _ _); first | (refine wpPlan_read1d rfl ?hw rfl rfl (fun _ _ _ => ?_); case hw => ((conv => (lhs; whnf)); first | done | with_reducible rfl)) | (refine wpPlan_skip1d rfl ?hw ?_; (case hw => ((conv => (lhs; whnf)); first | done | with_reducible rfl)); (try simp only [List.getElem_toArray, List.getElem_cons_succ, List.getElem_cons_zero, Act.put, List.setIfInBounds_toArray, List.set_cons_zero, List.set_cons_succ])) | (refine wpPlan_read1 rfl ?hw rfl (fun _ _ _ => ?_); case hw => ((conv => (lhs; whnf)); first | done | with_reducible rfl))) | ((with_reducible show wpPlan _ _ _ ((_, 2, _) :: _) _ _ _); first | (refine wpPlan_eff rfl ?hw (fun _ _ => ?_); case hw => ((conv => (lhs; whnf)); first | done | with_reducible rfl)) | (refine wpPlan_skip2 rfl ?hw ?_; (case hw => ((conv => (lhs; whnf)); first | done | with_reducible rfl)); (try simp only [List.getElem_toArray, List.getElem_cons_succ, List.getElem_cons_zero, Act.put, List.setIfInBounds_toArray, List.set_cons_zero, List.set_cons_succ]))) | ((with_reducible show wpPlan _ _ _ _ _ _ _); refine wpPlan_fork ?_ ?_) | ((with_reducible show Owed _ _ _ [] _ _ _ _ _); refine Owed.none_ ?_) | ((with_reducible show Owed _ _ _ _ [] _ _ _ _); refine Owed.nil_ ?_) | ((with_reducible show Owed _ _ _ _ _ _ _ _ _); first | (refine Owed.miss rfl ?_) | (refine Owed.hit ?_ ?_)) | ((with_reducible show Same _ _ _ _ _); intro _; go_simp; done) | (with_reducible exact True.intro) | ((with_reducible show Code.wp _ (Code.region 1 _ true) _ _ _); refine wp_region_plan [(0, 1, []), (1, 1, []), (2, 1, []), (3, 1, []), (5, 1, []), (6, 1, []), (7, 1, []), (8, 1, []), (4, 2, [5, 6, 7, 8]), (9, 2, []), (10, 2, []), (11, 2, []), (12, 0, [])] (by kernel_rfl) (by kernel_rfl) (by kernel_rfl) ?_))
  go_ret
  exact ⟨rfl, (HB.out.alloc (by simp; omega) _).drew⟩

theorem total_cons (l : List Arc) (ls : List (List Arc)) : total (l :: ls) = l.length + total ls := by simp [total]
theorem total_take (ls : List (List Arc)) (k : Nat) (l : List Arc) (h : ls[k]? = some l) : total (ls.take (k + 1)) = total (ls.take k) + l.length := by
  obtain ⟨hk, he⟩ := List.getElem?_eq_some_iff.1 h
  rw [List.take_succ_eq_append_getElem hk, he]
  simp [total]
theorem total_le (ls : List (List Arc)) (k : Nat) : total (ls.take k) ≤ total ls := by
  have h : total ls = total (ls.take k) + total (ls.drop k) := by
    rw [total, total, total, ← List.sum_append, ← List.map_append, List.take_append_drop]
  omega
theorem loose_len {ls : List (List Arc)} (h : ¬ (1 ≤ ls.length ∧ ls.length ≤ 16384)) : looseB ls = false := by
  unfold looseB
  rw [decide_eq_false h]
  rfl
theorem loose_total {ls : List (List Arc)} {k : Nat} (h : 262144 < total (ls.take k)) : looseB ls = false := by
  unfold looseB
  have := total_le ls k
  rw [decide_eq_false (show ¬ total ls ≤ 262144 by omega)]
  simp
theorem loose_bad {ls : List (List Arc)} {k j : Nat} {l : List Arc} {a : Arc} (h : ls[k]? = some l) (hj : l[j]? = some a) (ha : okA ls.length a = false) : looseB ls = false := by
  unfold looseB
  rw [Bool.and_eq_false_iff]
  right
  rw [Bool.eq_false_iff]
  intro h2
  have h3 := List.all_eq_true.1 h2 l (List.mem_of_getElem? h)
  have h4 := List.all_eq_true.1 h3 a (List.mem_of_getElem? hj)
  rw [ha] at h4
  cases h4
theorem loose_ok {ls : List (List Arc)} (h1 : 1 ≤ ls.length) (h2 : ls.length ≤ 16384) (h3 : total ls ≤ 262144) (h4 : ls.all (fun l => l.all (okA ls.length)) = true) : looseB ls = true := by
  unfold looseB
  rw [decide_eq_true ⟨h1, h2⟩, decide_eq_true h3, h4]
  rfl
theorem all_take {α : Type} {p : α → Bool} {l : List α} {k : Nat} {a : α} (h : l[k]? = some a) (ha : p a = true) (h2 : (l.take k).all p = true) : (l.take (k + 1)).all p = true := by
  obtain ⟨hk, he⟩ := List.getElem?_eq_some_iff.1 h
  rw [List.take_succ_eq_append_getElem hk, he, List.all_append, h2]
  simp [ha]

set_option maxRecDepth 100000 in
theorem loose_any (A : Option Addr) (n c B : Nat) (ls : List (List Arc)) (w : World) (h : RdL w B A n ls) (hB : B ≤ w.heap.size) (hn : n ≤ 9223372036854775807) :
    Calls Try.prog 56 #[lts A n c] w fun e w' => e = .returned (.bool (looseB ls)) ∧ Below w.heap.size w w' := by
  have HL := Lib.hid h.len
  have H := Lib.hid h
  have HB0 := Lib.hid ((Below.refl w.heap.size w).alloc (Nat.le_refl _) (.cells #[.slice A n c] 25))
  obtain ⟨r, hr⟩ : ∃ r, looseB ls = r := ⟨_, rfl⟩
  rw [hr]
  have HR := Lib.hid hr
  clear h hr
  by_cases hn1 : n < 1
  · have hf : r = false := HR.out ▸ loose_len (by rw [HL.out]; omega)
    subst hf
    go_enter Try.func56, Try.ntmps56
    go_wp2
    go_ret
    exact ⟨rfl, HB0.out⟩
  by_cases hn2 : 16384 < n
  · have hf : r = false := HR.out ▸ loose_len (by rw [HL.out]; omega)
    subst hf
    go_enter Try.func56, Try.ntmps56
    go_wp2
    go_ret
    exact ⟨rfl, HB0.out⟩
  go_enter Try.func56, Try.ntmps56
  go_wp2
  go_loopw [4, 21] (fun vm vk wr => ∃ (k m : Nat), k ≤ n ∧ vk = .int .i64 k ∧ vm = .int .i64 m ∧ m + total (ls.take k) = 262144 ∧ Hid ((ls.take k).all (fun l => l.all (okA ls.length)) = true ∧ Below w.heap.size w wr)) (fun _ vk _ => n - (intOf vk).toNat)
  case atStart => exact ⟨0, 262144, Nat.zero_le _, rfl, rfl, by simp [total], Lib.hid ⟨by simp, HB0.out⟩⟩
  case round =>
    obtain ⟨k, m, hk, rfl, rfl, hm, HW⟩ := hrel
    by_cases hlt : k < n
    · obtain ⟨b1, o1, l, A', n', c', rfl, hb1, hl, hln, e0, hrow⟩ := (H.out.keep (w' := wr) (fun p hp => HW.out.2.cell (by omega))).row hlt
      have HROW := Lib.hid hrow
      have HLL := Lib.hid hl
      have htt := total_take ls k l hl
      clear hrow hl
      by_cases hbig : m < n'
      · have hf : r = false := HR.out ▸ loose_total (k := k + 1) (by omega)
        subst hf
        go_wp2
        go_ret
        exact ⟨rfl, HW.out.2⟩
      · go_wp2
        go_loopw [35] (fun vj wq => ∃ (j : Nat), j ≤ n' ∧ vj = .int .i64 j ∧ Hid ((l.take j).all (okA ls.length) = true ∧ Below w.heap.size wr wq)) (fun vj _ => n' - (intOf vj).toNat)
        case atStart => exact ⟨0, Nat.zero_le _, rfl, Lib.hid ⟨by simp, Below.refl _ _⟩⟩
        case round =>
          obtain ⟨j, hj, rfl, HV⟩ := hrel
          by_cases hlt2 : j < n'
          · obtain ⟨b2, o2, a, rfl, hb2, ha, d0, d1⟩ := (HROW.out.keep (w' := wr) (fun p hp => HV.out.2.cell (by omega))).arc hlt2
            obtain ⟨ae, at_⟩ := a
            have HA := Lib.hid ha
            have HBQ := Lib.hid (HW.out.2.trans HV.out.2)
            have HBA := Lib.hid (HV.out.2.alloc HBQ.out.size (.cells #[.int .i64 ae, .int .i64 at_] 55))
            have HBB := Lib.hid (HBQ.out.alloc HBQ.out.size (.cells #[.int .i64 ae, .int .i64 at_] 55))
            clear ha
            dsimp only at d0 d1
            have hls := HL.out
            by_cases hok : (0 ≤ ae ∧ ae ≤ 1025) ∧ 0 ≤ at_ ∧ at_ < n
            · have HO := Lib.hid (show okA ls.length ⟨ae, at_⟩ = true by
                unfold okA
                rw [Bool.and_eq_true, decide_eq_true_eq, decide_eq_true_eq, hls]
                exact hok)
              obtain ⟨⟨q1, q2⟩, q3, q4⟩ := hok
              clear hls
              go_wp2
              go_roundw
              case rel => exact ⟨j + 1, by omega, by go_num, Lib.hid ⟨all_take HA.out HO.out HV.out.1, HBA.out⟩⟩
              case measure => simp [intOf]; omega
            · have HO := Lib.hid (show r = false from HR.out ▸ loose_bad HLL.out HA.out (by
                unfold okA
                rw [Bool.and_eq_false_iff, decide_eq_false_iff_not, decide_eq_false_iff_not, hls]
                dsimp only
                omega))
              clear hls
              have h4 : ae < 0 ∨ (0 ≤ ae ∧ 1025 < ae) ∨ ((0 ≤ ae ∧ ae ≤ 1025) ∧ at_ < 0) ∨ ((0 ≤ ae ∧ ae ≤ 1025) ∧ 0 ≤ at_ ∧ (n : Int) ≤ at_) := by omega
              clear hok
              rcases h4 with q1 | ⟨q1, q2⟩ | ⟨⟨q1, q2⟩, q3⟩ | ⟨⟨q1, q2⟩, q3, q4⟩
              all_goals (go_wp2; go_ret; exact ⟨ret_bool HO.out.symm, HBB.out⟩)
          · have hj2 : l.take j = l := List.take_of_length_le (by omega)
            have HA := Lib.hid (hj2 ▸ HV.out.1)
            have HBQ := Lib.hid (HW.out.2.trans HV.out.2)
            clear hj2
            go_wp2
            go_roundw
            case rel => exact ⟨k + 1, m - n', by omega, by go_num, by go_num, by omega, Lib.hid ⟨all_take HLL.out HA.out HW.out.1, HBQ.out⟩⟩
            case measure => simp [intOf]; omega
    · have hk2 : ls.take k = ls := List.take_of_length_le (by rw [HL.out]; omega)
      have hA := HW.out.1
      rw [hk2] at hm hA
      have HO := Lib.hid (show r = true from HR.out ▸ loose_ok (by rw [HL.out]; omega) (by rw [HL.out]; omega) (by omega) hA)
      clear hk2 hA
      go_wp2
      go_ret
      exact ⟨ret_bool HO.out.symm, HW.out.2⟩

end Go.Proofs.Ytonpdclccgpceaa
