/- loose and valid systems: the program's and the reference's; valid systems: the program's Valid, the reference's Loose and Valid; loose and valid systems: the reference's; the reference's Same: rows and systems that are equal -/
import Derived.Test.YtmciinikfjfegaaRows
import Derived.Test.YtmciinikfjfegaaRwMem
import Derived.Test.YtmciinikfjfegaaPlan2
namespace Go.Proofs.Ytmciinikfjfegaa
open Go Go.RowKit
set_option maxHeartbeats 4000000

abbrev lts (A : Option Addr) (n c : Nat) : Value := .agg #[.slice A n c]
def cmpS (x y : Int) : Int := if x < y then -1 else if y < x then 1 else 0
def orS (x y : Int) : Int := if x = 0 then y else x
def arcCmp (a b : Arc) : Int := orS (cmpS a.ev b.ev) (cmpS a.to b.to)
theorem arcCmp_less (a b : Arc) : decide (0 ≤ arcCmp a b) = !lessB a b := by
  unfold arcCmp orS cmpS lessB
  rw [Bool.eq_iff_iff]
  simp only [decide_eq_true_eq, Bool.not_eq_true', decide_eq_false_iff_not]
  split <;> split at * <;> (try split at *) <;> omega

theorem isNaN_any (x : Int) (w : World) : Calls Try.prog 87 #[.int .i64 x] w fun e w' => e = .returned (.bool false) ∧ w = w' := by
  go_enter Try.func87, Try.ntmps87
  go_wp2
  go_ret
  exact ⟨ret_bool (by simp), rfl⟩
theorem cmpC_any (x y : Int) (w : World) : Calls Try.prog 76 #[.int .i64 x, .int .i64 y] w fun e w' => e = .returned (.int .i64 (cmpS x y)) ∧ w = w' := by
  by_cases h1 : x < y
  · have hc : cmpS x y = -1 := by rw [cmpS, if_pos h1]
    have HC := Lib.hid hc
    clear hc
    go_enter Try.func76, Try.ntmps76
    go_wp2_with (first | (go_at_call 87; refine (isNaN_any _ _).mono ?_; rintro e w' ⟨rfl, rfl⟩))
    go_ret
    exact ⟨ret_int HC.out.symm, rfl⟩
  · by_cases h2 : y < x
    · have hc : cmpS x y = 1 := by rw [cmpS, if_neg h1, if_pos h2]
      have HC := Lib.hid hc
      clear hc
      go_enter Try.func76, Try.ntmps76
      go_wp2_with (first | (go_at_call 87; refine (isNaN_any _ _).mono ?_; rintro e w' ⟨rfl, rfl⟩))
      go_ret
      exact ⟨ret_int HC.out.symm, rfl⟩
    · have hc : cmpS x y = 0 := by rw [cmpS, if_neg h1, if_neg h2]
      have HC := Lib.hid hc
      clear hc
      go_enter Try.func76, Try.ntmps76
      go_wp2_with (first | (go_at_call 87; refine (isNaN_any _ _).mono ?_; rintro e w' ⟨rfl, rfl⟩))
      go_ret
      exact ⟨ret_int HC.out.symm, rfl⟩
theorem or_any (B : Nat) (A : Option Addr) (c : Nat) (x y : Int) (w : World) (h : Rd w B 1 A 2 (cellsOf icell [x, y])) :
    Calls Try.prog 75 #[.slice A 2 c] w fun e w' => e = .returned (.int .i64 (orS x y)) ∧ w = w' := by
  have H := Lib.hid h
  clear h
  go_enter Try.func75, Try.ntmps75
  go_wp2
  go_loop [5, 8] (fun _ vk => ∃ k : Nat, k ≤ 2 ∧ vk = .int .i64 k ∧ (0 < k → x = 0) ∧ (1 < k → y = 0)) (fun _ vk => 2 - (intOf vk).toNat)
  case atStart => exact ⟨0, by omega, rfl, fun h => absurd h (by omega), fun h => absurd h (by omega)⟩
  case round =>
    obtain ⟨k, hk, rfl, hx, hy⟩ := hrel
    by_cases hlt : k < 2
    · obtain ⟨b1, o1, z, rfl, _, hz, c0⟩ := H.out.int hlt
      have hk01 : k = 0 ∨ k = 1 := by omega
      by_cases h0 : z = 0
      · subst h0
        go_wp2
        go_round
        case rel =>
          rcases hk01 with rfl | rfl
          · simp at hz
            exact ⟨1, by omega, rfl, fun _ => hz, fun h => absurd h (by omega)⟩
          · simp at hz
            exact ⟨2, by omega, rfl, fun _ => hx (by omega), fun _ => hz⟩
        case measure => simp [intOf]; omega
      · have h0b : (z == 0) = false := beq_eq_false_iff_ne.2 h0
        have hr : z = orS x y := by
          unfold orS
          rcases hk01 with rfl | rfl
          · simp at hz
            rw [if_neg (by rw [hz]; exact h0), hz]
          · simp at hz
            rw [if_pos (hx (by omega)), hz]
        have HR := Lib.hid hr
        clear hr hz hx hy
        go_wp2
        go_ret
        exact ⟨ret_int HR.out, rfl⟩
    · have hk2 : k = 2 := by omega
      subst hk2
      have hr : (0 : Int) = orS x y := by
        unfold orS
        rw [if_pos (hx (by omega)), hy (by omega)]
      have HR := Lib.hid hr
      clear hr hx hy
      go_wp2
      go_ret
      exact ⟨ret_int HR.out, rfl⟩

set_option maxRecDepth 100000 in
theorem compare_any (a b : Arc) (w : World) : Calls Try.prog 59 #[a.v, b.v] w fun e w' => e = .returned (.int .i64 (arcCmp a b)) ∧ Below w.heap.size w w' := by
  obtain ⟨ae, at_⟩ := a
  obtain ⟨be, bt⟩ := b
  have HB := Lib.hid (((Below.refl w.heap.size w).alloc (Nat.le_refl _) (.cells #[.int .i64 ae, .int .i64 at_] 23)).alloc (by simp) (.cells #[.int .i64 be, .int .i64 bt] 23))
  have hE : orS (cmpS ae be) (cmpS at_ bt) = arcCmp ⟨ae, at_⟩ ⟨be, bt⟩ := rfl
  obtain ⟨x, hx⟩ : ∃ x, cmpS ae be = x := ⟨_, rfl⟩
  obtain ⟨y, hy⟩ : ∃ y, cmpS at_ bt = y := ⟨_, rfl⟩
  rw [hx, hy] at hE
  have HX := Lib.hid hx
  have HY := Lib.hid hy
  have HE := Lib.hid hE
  have HZ := Lib.hid (show Rd (((w.alloc (.cells #[.int .i64 ae, .int .i64 at_] 23)).alloc (.cells #[.int .i64 be, .int .i64 bt] 23)).alloc (.cells #[.int .i64 x, .int .i64 y] 3)) (w.heap.size + 1 + 1 + 1) 1 (some ⟨w.heap.size + 1 + 1, 0, none⟩) 2 (cellsOf icell [x, y]) by
    exact Rd.ofBlk (k := 1) (n := 2) (t := 3) (heap_alloc_at (by simp)) rfl)
  clear hx hy hE
  go_enter Try.func59, Try.ntmps59
  go_wp2_with (first | ((with_reducible show wpPlan _ _ _ _ _ (Act.put _ _ _) _); simp only [List.getElem_toArray, List.getElem_cons_succ, List.getElem_cons_zero, Act.put, List.setIfInBounds_toArray, List.set_cons_zero, List.set_cons_succ]) | ((with_reducible show wpPlan _ _ _ _ _ _ _); first | refine wpPlan_nil ?_ | (refine wpPlan_read0 rfl ?hw rfl (fun _ _ _ => ?_); case hw => ((conv => (lhs; whnf)); first | done | with_reducible rfl)) | (refine wpPlan_read1d rfl ?hw rfl rfl (fun _ _ _ => ?_); case hw => ((conv => (lhs; whnf)); first | done | with_reducible rfl)) | (refine wpPlan_eff rfl ?hw (fun _ _ => ?_); case hw => ((conv => (lhs; whnf)); first | done | with_reducible rfl)) | (refine wpPlan_skip0 rfl ?hw ?_; case hw => ((conv => (lhs; whnf)); first | done | with_reducible rfl)) | (refine wpPlan_skip1d rfl ?hw ?_; case hw => ((conv => (lhs; whnf)); first | done | with_reducible rfl)) | (refine wpPlan_skip2 rfl ?hw ?_; case hw => ((conv => (lhs; whnf)); first | done | with_reducible rfl)) | (refine wpPlan_read1 rfl ?hw rfl (fun _ _ _ => ?_); case hw => ((conv => (lhs; whnf)); first | done | with_reducible rfl)) | refine wpPlan_fork ?_ ?_) | ((with_reducible show Owed _ _ _ _ _ _ _ _ _); first | refine Owed.none_ ?_ | refine Owed.nil_ ?_ | refine Owed.miss rfl ?_ | refine Owed.hit ?_ ?_) | ((with_reducible show Same _ _ _ _ _); intro _; go_simp; done) | (with_reducible exact True.intro) | ((with_reducible show Code.wp _ (Code.region 1 _ true) _ _ _); refine wp_region_plan [(0, 1, []), (1, 1, []), (2, 1, []), (3, 1, []), (5, 1, []), (6, 1, []), (7, 1, []), (8, 1, []), (4, 2, [5, 6, 7, 8]), (9, 2, []), (10, 2, []), (11, 2, []), (12, 0, [])] (by kernel_rfl) (by kernel_rfl) (by kernel_rfl) ?_))
  refine (cmpC_any ae be _).mono ?_
  rw [HX.out]
  rintro e w1 ⟨rfl, rfl⟩
  go_wp2_with (first | ((with_reducible show wpPlan _ _ _ _ _ (Act.put _ _ _) _); simp only [List.getElem_toArray, List.getElem_cons_succ, List.getElem_cons_zero, Act.put, List.setIfInBounds_toArray, List.set_cons_zero, List.set_cons_succ]) | ((with_reducible show wpPlan _ _ _ _ _ _ _); first | refine wpPlan_nil ?_ | (refine wpPlan_read0 rfl ?hw rfl (fun _ _ _ => ?_); case hw => ((conv => (lhs; whnf)); first | done | with_reducible rfl)) | (refine wpPlan_read1d rfl ?hw rfl rfl (fun _ _ _ => ?_); case hw => ((conv => (lhs; whnf)); first | done | with_reducible rfl)) | (refine wpPlan_eff rfl ?hw (fun _ _ => ?_); case hw => ((conv => (lhs; whnf)); first | done | with_reducible rfl)) | (refine wpPlan_skip0 rfl ?hw ?_; case hw => ((conv => (lhs; whnf)); first | done | with_reducible rfl)) | (refine wpPlan_skip1d rfl ?hw ?_; case hw => ((conv => (lhs; whnf)); first | done | with_reducible rfl)) | (refine wpPlan_skip2 rfl ?hw ?_; case hw => ((conv => (lhs; whnf)); first | done | with_reducible rfl)) | (refine wpPlan_read1 rfl ?hw rfl (fun _ _ _ => ?_); case hw => ((conv => (lhs; whnf)); first | done | with_reducible rfl)) | refine wpPlan_fork ?_ ?_) | ((with_reducible show Owed _ _ _ _ _ _ _ _ _); first | refine Owed.none_ ?_ | refine Owed.nil_ ?_ | refine Owed.miss rfl ?_ | refine Owed.hit ?_ ?_) | ((with_reducible show Same _ _ _ _ _); intro _; go_simp; done) | (with_reducible exact True.intro) | ((with_reducible show Code.wp _ (Code.region 1 _ true) _ _ _); refine wp_region_plan [(0, 1, []), (1, 1, []), (2, 1, []), (3, 1, []), (5, 1, []), (6, 1, []), (7, 1, []), (8, 1, []), (4, 2, [5, 6, 7, 8]), (9, 2, []), (10, 2, []), (11, 2, []), (12, 0, [])] (by kernel_rfl) (by kernel_rfl) (by kernel_rfl) ?_))
  refine (cmpC_any at_ bt _).mono ?_
  rw [HY.out]
  rintro e w1 ⟨rfl, rfl⟩
  go_wp2_with (first | ((with_reducible show wpPlan _ _ _ _ _ (Act.put _ _ _) _); simp only [List.getElem_toArray, List.getElem_cons_succ, List.getElem_cons_zero, Act.put, List.setIfInBounds_toArray, List.set_cons_zero, List.set_cons_succ]) | ((with_reducible show wpPlan _ _ _ _ _ _ _); first | refine wpPlan_nil ?_ | (refine wpPlan_read0 rfl ?hw rfl (fun _ _ _ => ?_); case hw => ((conv => (lhs; whnf)); first | done | with_reducible rfl)) | (refine wpPlan_read1d rfl ?hw rfl rfl (fun _ _ _ => ?_); case hw => ((conv => (lhs; whnf)); first | done | with_reducible rfl)) | (refine wpPlan_eff rfl ?hw (fun _ _ => ?_); case hw => ((conv => (lhs; whnf)); first | done | with_reducible rfl)) | (refine wpPlan_skip0 rfl ?hw ?_; case hw => ((conv => (lhs; whnf)); first | done | with_reducible rfl)) | (refine wpPlan_skip1d rfl ?hw ?_; case hw => ((conv => (lhs; whnf)); first | done | with_reducible rfl)) | (refine wpPlan_skip2 rfl ?hw ?_; case hw => ((conv => (lhs; whnf)); first | done | with_reducible rfl)) | (refine wpPlan_read1 rfl ?hw rfl (fun _ _ _ => ?_); case hw => ((conv => (lhs; whnf)); first | done | with_reducible rfl)) | refine wpPlan_fork ?_ ?_) | ((with_reducible show Owed _ _ _ _ _ _ _ _ _); first | refine Owed.none_ ?_ | refine Owed.nil_ ?_ | refine Owed.miss rfl ?_ | refine Owed.hit ?_ ?_) | ((with_reducible show Same _ _ _ _ _); intro _; go_simp; done) | (with_reducible exact True.intro) | ((with_reducible show Code.wp _ (Code.region 1 _ true) _ _ _); refine wp_region_plan [(0, 1, []), (1, 1, []), (2, 1, []), (3, 1, []), (5, 1, []), (6, 1, []), (7, 1, []), (8, 1, []), (4, 2, [5, 6, 7, 8]), (9, 2, []), (10, 2, []), (11, 2, []), (12, 0, [])] (by kernel_rfl) (by kernel_rfl) (by kernel_rfl) ?_))
  refine (or_any (w.heap.size + 1 + 1 + 1) _ 2 x y _ ?_).mono ?_
  · exact HZ.out
  rw [HE.out]
  rintro e w1 ⟨rfl, rfl⟩
  go_wp2_with (first | ((with_reducible show wpPlan _ _ _ _ _ (Act.put _ _ _) _); simp only [List.getElem_toArray, List.getElem_cons_succ, List.getElem_cons_zero, Act.put, List.setIfInBounds_toArray, List.set_cons_zero, List.set_cons_succ]) | ((with_reducible show wpPlan _ _ _ _ _ _ _); first | refine wpPlan_nil ?_ | (refine wpPlan_read0 rfl ?hw rfl (fun _ _ _ => ?_); case hw => ((conv => (lhs; whnf)); first | done | with_reducible rfl)) | (refine wpPlan_read1d rfl ?hw rfl rfl (fun _ _ _ => ?_); case hw => ((conv => (lhs; whnf)); first | done | with_reducible rfl)) | (refine wpPlan_eff rfl ?hw (fun _ _ => ?_); case hw => ((conv => (lhs; whnf)); first | done | with_reducible rfl)) | (refine wpPlan_skip0 rfl ?hw ?_; case hw => ((conv => (lhs; whnf)); first | done | with_reducible rfl)) | (refine wpPlan_skip1d rfl ?hw ?_; case hw => ((conv => (lhs; whnf)); first | done | with_reducible rfl)) | (refine wpPlan_skip2 rfl ?hw ?_; case hw => ((conv => (lhs; whnf)); first | done | with_reducible rfl)) | (refine wpPlan_read1 rfl ?hw rfl (fun _ _ _ => ?_); case hw => ((conv => (lhs; whnf)); first | done | with_reducible rfl)) | refine wpPlan_fork ?_ ?_) | ((with_reducible show Owed _ _ _ _ _ _ _ _ _); first | refine Owed.none_ ?_ | refine Owed.nil_ ?_ | refine Owed.miss rfl ?_ | refine Owed.hit ?_ ?_) | ((with_reducible show Same _ _ _ _ _); intro _; go_simp; done) | (with_reducible exact True.intro) | ((with_reducible show Code.wp _ (Code.region 1 _ true) _ _ _); refine wp_region_plan [(0, 1, []), (1, 1, []), (2, 1, []), (3, 1, []), (5, 1, []), (6, 1, []), (7, 1, []), (8, 1, []), (4, 2, [5, 6, 7, 8]), (9, 2, []), (10, 2, []), (11, 2, []), (12, 0, [])] (by kernel_rfl) (by kernel_rfl) (by kernel_rfl) ?_))
  go_ret
  exact ⟨rfl, (HB.out.alloc (by simp; omega) _).drew⟩

theorem total_cons (l : List Arc) (ls : List (List Arc)) : total (l :: ls) = l.length + total ls := by simp [total]
theorem total_take (ls : List (List Arc)) (k : Nat) (l : List Arc) (h : ls[k]? = some l) : total (ls.take (k + 1)) = total (ls.take k) + l.length := by
  obtain ⟨hk, he⟩ := List.getElem?_eq_some_iff.1 h
  rw [List.take_succ_eq_append_getElem hk, he]
  simp [total]
theorem total_le (ls : List (List Arc)) (k : Nat) : total (ls.take k) ≤ total ls := by
  have h : total ls = total (ls.take k) + total (ls.drop k) := by
    rw [total, total, total, ← List.sum_append, ← List.map_append, List.take_append_drop]
  omega
theorem loose_len {ls : List (List Arc)} (h : ¬ (1 ≤ ls.length ∧ ls.length ≤ 16384)) : looseB ls = false := by
  unfold looseB
  rw [decide_eq_false h]
  rfl
theorem loose_total {ls : List (List Arc)} {k : Nat} (h : 262144 < total (ls.take k)) : looseB ls = false := by
  unfold looseB
  have := total_le ls k
  rw [decide_eq_false (show ¬ total ls ≤ 262144 by omega)]
  simp
theorem loose_bad {ls : List (List Arc)} {k j : Nat} {l : List Arc} {a : Arc} (h : ls[k]? = some l) (hj : l[j]? = some a) (ha : okA ls.length a = false) : looseB ls = false := by
  unfold looseB
  rw [Bool.and_eq_false_iff]
  right
  rw [Bool.eq_false_iff]
  intro h2
  have h3 := List.all_eq_true.1 h2 l (List.mem_of_getElem? h)
  have h4 := List.all_eq_true.1 h3 a (List.mem_of_getElem? hj)
  rw [ha] at h4
  cases h4
theorem loose_ok {ls : List (List Arc)} (h1 : 1 ≤ ls.length) (h2 : ls.length ≤ 16384) (h3 : total ls ≤ 262144) (h4 : ls.all (fun l => l.all (okA ls.length)) = true) : looseB ls = true := by
  unfold looseB
  rw [decide_eq_true ⟨h1, h2⟩, decide_eq_true h3, h4]
  rfl
theorem all_take {α : Type} {p : α → Bool} {l : List α} {k : Nat} {a : α} (h : l[k]? = some a) (ha : p a = true) (h2 : (l.take k).all p = true) : (l.take (k + 1)).all p = true := by
  obtain ⟨hk, he⟩ := List.getElem?_eq_some_iff.1 h
  rw [List.take_succ_eq_append_getElem hk, he, List.all_append, h2]
  simp [ha]

set_option maxRecDepth 100000 in
theorem loose_any (A : Option Addr) (n c B : Nat) (ls : List (List Arc)) (w : World) (h : RdL w B A n ls) (hB : B ≤ w.heap.size) (hn : n ≤ 9223372036854775807) :
    Calls Try.prog 58 #[lts A n c] w fun e w' => e = .returned (.bool (looseB ls)) ∧ Below w.heap.size w w' := by
  have HL := Lib.hid h.len
  have H := Lib.hid h
  have HB0 := Lib.hid ((Below.refl w.heap.size w).alloc (Nat.le_refl _) (.cells #[.slice A n c] 27))
  obtain ⟨r, hr⟩ : ∃ r, looseB ls = r := ⟨_, rfl⟩
  rw [hr]
  have HR := Lib.hid hr
  clear h hr
  by_cases hn1 : n < 1
  · have hf : r = false := HR.out ▸ loose_len (by rw [HL.out]; omega)
    subst hf
    go_enter Try.func58, Try.ntmps58
    go_wp2
    go_ret
    exact ⟨rfl, HB0.out⟩
  by_cases hn2 : 16384 < n
  · have hf : r = false := HR.out ▸ loose_len (by rw [HL.out]; omega)
    subst hf
    go_enter Try.func58, Try.ntmps58
    go_wp2
    go_ret
    exact ⟨rfl, HB0.out⟩
  go_enter Try.func58, Try.ntmps58
  go_wp2
  go_loopw [4, 21] (fun vm vk wr => ∃ (k m : Nat), k ≤ n ∧ vk = .int .i64 k ∧ vm = .int .i64 m ∧ m + total (ls.take k) = 262144 ∧ Hid ((ls.take k).all (fun l => l.all (okA ls.length)) = true ∧ Below w.heap.size w wr)) (fun _ vk _ => n - (intOf vk).toNat)
  case atStart => exact ⟨0, 262144, Nat.zero_le _, rfl, rfl, by simp [total], Lib.hid ⟨by simp, HB0.out⟩⟩
  case round =>
    obtain ⟨k, m, hk, rfl, rfl, hm, HW⟩ := hrel
    by_cases hlt : k < n
    · obtain ⟨b1, o1, l, A', n', c', rfl, hb1, hl, hln, e0, hrow⟩ := (H.out.keep (w' := wr) (fun p hp => HW.out.2.cell (by omega))).row hlt
      have HROW := Lib.hid hrow
      have HLL := Lib.hid hl
      have htt := total_take ls k l hl
      clear hrow hl
      by_cases hbig : m < n'
      · have hf : r = false := HR.out ▸ loose_total (k := k + 1) (by omega)
        subst hf
        go_wp2
        go_ret
        exact ⟨rfl, HW.out.2⟩
      · go_wp2
        go_loopw [35] (fun vj wq => ∃ (j : Nat), j ≤ n' ∧ vj = .int .i64 j ∧ Hid ((l.take j).all (okA ls.length) = true ∧ Below w.heap.size wr wq)) (fun vj _ => n' - (intOf vj).toNat)
        case atStart => exact ⟨0, Nat.zero_le _, rfl, Lib.hid ⟨by simp, Below.refl _ _⟩⟩
        case round =>
          obtain ⟨j, hj, rfl, HV⟩ := hrel
          by_cases hlt2 : j < n'
          · obtain ⟨b2, o2, a, rfl, hb2, ha, d0, d1⟩ := (HROW.out.keep (w' := wr) (fun p hp => HV.out.2.cell (by omega))).arc hlt2
            obtain ⟨ae, at_⟩ := a
            have HA := Lib.hid ha
            have HBQ := Lib.hid (HW.out.2.trans HV.out.2)
            have HBA := Lib.hid (HV.out.2.alloc HBQ.out.size (.cells #[.int .i64 ae, .int .i64 at_] 23))
            have HBB := Lib.hid (HBQ.out.alloc HBQ.out.size (.cells #[.int .i64 ae, .int .i64 at_] 23))
            clear ha
            dsimp only at d0 d1
            have hls := HL.out
            by_cases hok : (0 ≤ ae ∧ ae ≤ 1025) ∧ 0 ≤ at_ ∧ at_ < n
            · have HO := Lib.hid (show okA ls.length ⟨ae, at_⟩ = true by
                unfold okA
                rw [Bool.and_eq_true, decide_eq_true_eq, decide_eq_true_eq, hls]
                exact hok)
              obtain ⟨⟨q1, q2⟩, q3, q4⟩ := hok
              clear hls
              go_wp2
              go_roundw
              case rel => exact ⟨j + 1, by omega, by go_num, Lib.hid ⟨all_take HA.out HO.out HV.out.1, HBA.out⟩⟩
              case measure => simp [intOf]; omega
            · have HO := Lib.hid (show r = false from HR.out ▸ loose_bad HLL.out HA.out (by
                unfold okA
                rw [Bool.and_eq_false_iff, decide_eq_false_iff_not, decide_eq_false_iff_not, hls]
                dsimp only
                omega))
              clear hls
              have h4 : ae < 0 ∨ (0 ≤ ae ∧ 1025 < ae) ∨ ((0 ≤ ae ∧ ae ≤ 1025) ∧ at_ < 0) ∨ ((0 ≤ ae ∧ ae ≤ 1025) ∧ 0 ≤ at_ ∧ (n : Int) ≤ at_) := by omega
              clear hok
              rcases h4 with q1 | ⟨q1, q2⟩ | ⟨⟨q1, q2⟩, q3⟩ | ⟨⟨q1, q2⟩, q3, q4⟩
              all_goals (go_wp2; go_ret; exact ⟨ret_bool HO.out.symm, HBB.out⟩)
          · have hj2 : l.take j = l := List.take_of_length_le (by omega)
            have HA := Lib.hid (hj2 ▸ HV.out.1)
            have HBQ := Lib.hid (HW.out.2.trans HV.out.2)
            clear hj2
            go_wp2
            go_roundw
            case rel => exact ⟨k + 1, m - n', by omega, by go_num, by go_num, by omega, Lib.hid ⟨all_take HLL.out HA.out HW.out.1, HBQ.out⟩⟩
            case measure => simp [intOf]; omega
    · have hk2 : ls.take k = ls := List.take_of_length_le (by rw [HL.out]; omega)
      have hA := HW.out.1
      rw [hk2] at hm hA
      have HO := Lib.hid (show r = true from HR.out ▸ loose_ok (by rw [HL.out]; omega) (by rw [HL.out]; omega) (by omega) hA)
      clear hk2 hA
      go_wp2
      go_ret
      exact ⟨ret_bool HO.out.symm, HW.out.2⟩

end Go.Proofs.Ytmciinikfjfegaa
namespace Go.Proofs.Ytmciinikfjfegaa
open Go Go.RowKit
set_option maxHeartbeats 4000000

theorem ascB_snoc : ∀ (l : List Arc) (a b : Arc), ascB (l ++ [a, b]) = (ascB (l ++ [a]) && lessB a b)
  | [], a, b => by simp [ascB]
  | [x], a, b => by simp [ascB]
  | x :: y :: r, a, b => by
    have h := ascB_snoc (y :: r) a b
    rw [List.cons_append, List.cons_append] at h
    show (lessB x y && ascB (y :: (r ++ [a, b]))) = ((lessB x y && ascB (y :: (r ++ [a]))) && lessB a b)
    rw [h, Bool.and_assoc]
theorem ascB_take : ∀ (l : List Arc) (k : Nat), ascB l = true → ascB (l.take k) = true
  | [], k, _ => by simp [ascB]
  | [a], k, _ => by cases k <;> simp [ascB]
  | a :: b :: r, 0, _ => rfl
  | a :: b :: r, 1, _ => rfl
  | a :: b :: r, k + 2, h => by
    rw [ascB, Bool.and_eq_true] at h
    have h2 := ascB_take (b :: r) (k + 1) h.2
    show (lessB a b && ascB ((b :: r).take (k + 1))) = true
    rw [h.1, h2]
    rfl
theorem asc_next {l : List Arc} {i : Nat} {a b : Arc} (hi : 1 ≤ i) (ha : l[i - 1]? = some a) (hb : l[i]? = some b) : ascB (l.take (i + 1)) = (ascB (l.take i) && lessB a b) := by
  obtain ⟨h1, e1⟩ := List.getElem?_eq_some_iff.1 ha
  obtain ⟨h2, e2⟩ := List.getElem?_eq_some_iff.1 hb
  obtain ⟨j, rfl⟩ : ∃ j, i = j + 1 := ⟨i - 1, by omega⟩
  have t1 : l.take (j + 1) = l.take j ++ [a] := by
    rw [List.take_succ_eq_append_getElem (by omega)]
    congr 2
  rw [List.take_succ_eq_append_getElem h2, e2, t1, List.append_assoc]
  exact ascB_snoc _ _ _
theorem asc_bad {l : List Arc} {i : Nat} {a b : Arc} (hi : 1 ≤ i) (ha : l[i - 1]? = some a) (hb : l[i]? = some b) (h : lessB a b = false) : ascB l = false := by
  cases hq : ascB l with
  | false => rfl
  | true =>
    have h1 := ascB_take l (i + 1) hq
    rw [asc_next hi ha hb, h, Bool.and_false] at h1
    cases h1
theorem valid_parts {ls : List (List Arc)} (h : validB ls = true) : looseB ls = true ∧ ∀ l ∈ ls, ascB l = true := by
  rw [validB, Bool.and_eq_true] at h
  exact ⟨h.1, fun l hl => List.all_eq_true.1 h.2 l hl⟩
theorem valid_loose {ls : List (List Arc)} (h : looseB ls = false) : validB ls = false := by rw [validB, h]; rfl
theorem valid_bad {ls : List (List Arc)} {k : Nat} {l : List Arc} (h : ls[k]? = some l) (hl : ascB l = false) : validB ls = false := by
  rw [validB, Bool.and_eq_false_iff]
  right
  rw [Bool.eq_false_iff]
  intro h2
  have h3 := List.all_eq_true.1 h2 l (List.mem_of_getElem? h)
  rw [hl] at h3
  cases h3
theorem valid_ok {ls : List (List Arc)} (h1 : looseB ls = true) (h2 : ls.all ascB = true) : validB ls = true := by rw [validB, h1, h2]; rfl

set_option maxRecDepth 100000 in
theorem less_any (a b : Arc) (w : World) : Calls Try.prog 62 #[a.v, b.v] w fun e w' => e = .returned (.bool (lessB a b)) ∧ Below w.heap.size w w' := by
  obtain ⟨ae, at_⟩ := a
  obtain ⟨be, bt⟩ := b
  have HB := Lib.hid (((Below.refl w.heap.size w).alloc (Nat.le_refl _) (.cells #[.int .i64 ae, .int .i64 at_] 23)).alloc (by simp) (.cells #[.int .i64 be, .int .i64 bt] 23))
  obtain ⟨r, hr⟩ : ∃ r, lessB ⟨ae, at_⟩ ⟨be, bt⟩ = r := ⟨_, rfl⟩
  rw [hr]
  unfold lessB at hr
  dsimp only at hr
  by_cases h1 : ae < be
  · have HR := Lib.hid (show true = r by rw [← hr]; simp [h1])
    clear hr
    go_enter Try.func62, Try.ntmps62
    go_wp2
    go_ret
    exact ⟨ret_bool HR.out, HB.out⟩
  · by_cases h2 : ae = be
    · subst h2
      by_cases h3 : at_ < bt
      · have HR := Lib.hid (show true = r by rw [← hr]; simp [h3])
        clear hr
        go_enter Try.func62, Try.ntmps62
        go_wp2
        go_ret
        exact ⟨ret_bool HR.out, HB.out⟩
      · have HR := Lib.hid (show false = r by rw [← hr]; simp [h3])
        clear hr
        go_enter Try.func62, Try.ntmps62
        go_wp2
        go_ret
        exact ⟨ret_bool HR.out, HB.out⟩
    · have h2b : (ae == be) = false := beq_eq_false_iff_ne.2 h2
      have HR := Lib.hid (show false = r by rw [← hr]; simp [h1, h2])
      clear hr
      go_enter Try.func62, Try.ntmps62
      go_wp2
      go_ret
      exact ⟨ret_bool HR.out, HB.out⟩

set_option maxRecDepth 100000 in
theorem validL_any (A : Option Addr) (n c B : Nat) (ls : List (List Arc)) (w : World) (h : RdL w B A n ls) (hB : B ≤ w.heap.size) (hn : n ≤ 9223372036854775807) (hs : ∀ l ∈ ls, l.length ≤ 1000000000000) :
    Calls Try.prog 33 #[lts A n c] w fun e w' => e = .returned (.bool (validB ls)) ∧ Below w.heap.size w w' := by
  have HL := Lib.hid h.len
  have H := Lib.hid h
  have HS := Lib.hid hs
  have HB0 := Lib.hid ((Below.refl w.heap.size w).alloc (Nat.le_refl _) (.cells #[.slice A n c] 27))
  have HN0 := Lib.hid (Blk.new w 27 #[.slice A n c])
  have HR0 := Lib.hid (h.alloc hB (.cells #[.slice A n c] 27))
  obtain ⟨r, hr⟩ : ∃ r, validB ls = r := ⟨_, rfl⟩
  obtain ⟨q, hq⟩ : ∃ q, looseB ls = q := ⟨_, rfl⟩
  rw [hr]
  have HR := Lib.hid hr
  have HQ := Lib.hid hq
  clear h hr hq hs
  go_enter Try.func33, Try.ntmps33
  go_wp2_with fail
  refine (loose_any A n c B ls _ HR0.out (by simp; omega) hn).mono ?_
  rw [HQ.out]
  rintro e w1 ⟨rfl, hb1⟩
  have HB1 := Lib.hid (HB0.out.trans (hb1.mono (by simp)))
  have hN1 := HN0.out.below hb1 HN0.out.lt
  have hN1c := hN1.cell
  have hN1l := hN1.lt
  clear hb1 hN1 HN0 HR0
  cases q
  · have HF := Lib.hid (show r = false from HR.out ▸ valid_loose HQ.out)
    go_wp2_with fail
    go_ret
    exact ⟨ret_bool HF.out.symm, HB1.out⟩
  · go_wp2_with fail
    go_loopw [12] (fun vk wr => ∃ k : Nat, k ≤ n ∧ vk = .int .i64 k ∧ Hid ((ls.take k).all ascB = true ∧ Below w.heap.size w wr)) (fun vk _ => n - (intOf vk).toNat)
    case atStart => exact ⟨0, Nat.zero_le _, rfl, Lib.hid ⟨by simp, HB1.out⟩⟩
    case round =>
      obtain ⟨k, hk, rfl, HW⟩ := hrel
      clear hN1c hN1l
      by_cases hlt : k < n
      · obtain ⟨b1, o1, l, A', n', c', rfl, hb1, hl, hln, e0, hrow⟩ := (H.out.keep (w' := wr) (fun p hp => HW.out.2.cell (by omega))).row hlt
        have HROW := Lib.hid hrow
        have HLL := Lib.hid hl
        have hll := HS.out l (List.mem_of_getElem? hl)
        clear hrow hl
        go_wp2_with fail
        go_loopw [5] (fun vi wr' => ∃ (i : Nat), 1 ≤ i ∧ i ≤ n' + 1 ∧ vi = .int .i64 i ∧ Hid (ascB (l.take i) = true ∧ Below w.heap.size wr wr')) (fun vi _ => n' + 1 - (intOf vi).toNat)
        case atStart => exact ⟨1, Nat.le_refl _, by omega, rfl, Lib.hid ⟨by cases l <;> simp [ascB], Below.refl _ _⟩⟩
        case round =>
          obtain ⟨i, hi1, hi, rfl, HV⟩ := hrel
          by_cases hlt2 : i < n'
          · obtain ⟨b2, o2, a, rfl, hb2, ha, d0, d1⟩ := (HROW.out.keep (w' := wr) (fun p hp => HV.out.2.cell (by omega))).arc (i := i - 1) (by omega)
            obtain ⟨b3, o3, b, hab, hb3, hbb, f0, f1⟩ := (HROW.out.keep (w' := wr) (fun p hp => HV.out.2.cell (by omega))).arc hlt2
            obtain ⟨rfl, rfl⟩ : b2 = b3 ∧ o2 = o3 := by simpa using hab
            obtain ⟨ae, at_⟩ := a
            obtain ⟨be, bt⟩ := b
            have HA := Lib.hid ha
            have HBB := Lib.hid hbb
            obtain ⟨j, rfl⟩ : ∃ j, i = j + 1 := ⟨i - 1, by omega⟩
            have hBQ := HW.out.2.trans HV.out.2
            have HBQ := Lib.hid hBQ
            dsimp only at d0 d1 f0 f1
            simp only [Nat.add_sub_cancel] at d0 d1
            have hcm := arcCmp_less ⟨ae, at_⟩ ⟨be, bt⟩
            obtain ⟨x, hx⟩ : ∃ x, arcCmp ⟨ae, at_⟩ ⟨be, bt⟩ = x := ⟨_, rfl⟩
            rw [hx] at hcm
            have HX := Lib.hid hx
            have HCM := Lib.hid hcm
            clear ha hbb hab hBQ hx hcm
            have hlt3 : b2 < wr.heap.size := by have := HBQ.out.size; omega
            go_wp2_with (first | ((with_reducible show wpPlan _ _ _ _ _ (Act.put _ _ _) _); simp only [List.getElem_toArray, List.getElem_cons_succ, List.getElem_cons_zero, Act.put, List.setIfInBounds_toArray, List.set_cons_zero, List.set_cons_succ]) | ((with_reducible show wpPlan _ _ _ _ _ _ _); first | refine wpPlan_nil ?_ | (refine wpPlan_read0 rfl ?hw rfl (fun _ _ _ => ?_); case hw => ((conv => (lhs; whnf)); first | done | with_reducible rfl)) | (refine wpPlan_read1d rfl ?hw rfl rfl (fun _ _ _ => ?_); case hw => ((conv => (lhs; whnf)); first | done | with_reducible rfl)) | (refine wpPlan_eff rfl ?hw (fun _ _ => ?_); case hw => ((conv => (lhs; whnf)); first | done | with_reducible rfl)) | (refine wpPlan_skip0 rfl ?hw ?_; case hw => ((conv => (lhs; whnf)); first | done | with_reducible rfl)) | (refine wpPlan_skip1d rfl ?hw ?_; case hw => ((conv => (lhs; whnf)); first | done | with_reducible rfl)) | (refine wpPlan_skip2 rfl ?hw ?_; case hw => ((conv => (lhs; whnf)); first | done | with_reducible rfl)) | (refine wpPlan_read1 rfl ?hw rfl (fun _ _ _ => ?_); case hw => ((conv => (lhs; whnf)); first | done | with_reducible rfl)) | refine wpPlan_fork ?_ ?_) | ((with_reducible show Owed _ _ _ _ _ _ _ _ _); first | refine Owed.none_ ?_ | refine Owed.nil_ ?_ | refine Owed.miss rfl ?_ | refine Owed.hit ?_ ?_) | ((with_reducible show Same _ _ _ _ _); intro _; go_simp; done) | (with_reducible exact True.intro) | ((with_reducible show Code.wp _ (Code.region 9 _ true) _ _ _); refine wp_region_plan [(0, 0, []), (1, 0, []), (2, 1, []), (3, 1, []), (4, 1, []), (5, 0, []), (6, 0, []), (7, 1, []), (8, 1, []), (9, 2, []), (10, 1, [])] (by kernel_rfl) (by kernel_rfl) (by kernel_rfl) ?_))
            refine (compare_any ⟨ae, at_⟩ ⟨be, bt⟩ _).mono ?_
            rw [HX.out]
            rintro e w3 ⟨rfl, hb3⟩
            have hbb3 : Below wr.heap.size wr w3 := (below_drewN (Below.refl wr.heap.size wr) 1).trans hb3
            have HB3 := Lib.hid (HV.out.2.trans (hbb3.mono HBQ.out.size))
            have HBQ3 := Lib.hid (HBQ.out.trans (hbb3.mono HBQ.out.size))
            clear hb3 hbb3 d0 d1 f0 f1 hlt3
            by_cases h0 : 0 ≤ x
            · have hle : lessB ⟨ae, at_⟩ ⟨be, bt⟩ = false := by
                have := HCM.out
                rw [decide_eq_true h0] at this
                simpa using this.symm
              have HF := Lib.hid (show r = false from HR.out ▸ valid_bad HLL.out (asc_bad (i := j + 1) (by omega) (by simpa using HA.out) HBB.out hle))
              clear hle
              go_wp2_with (first | ((with_reducible show wpPlan _ _ _ _ _ (Act.put _ _ _) _); simp only [List.getElem_toArray, List.getElem_cons_succ, List.getElem_cons_zero, Act.put, List.setIfInBounds_toArray, List.set_cons_zero, List.set_cons_succ]) | ((with_reducible show wpPlan _ _ _ _ _ _ _); first | refine wpPlan_nil ?_ | (refine wpPlan_read0 rfl ?hw rfl (fun _ _ _ => ?_); case hw => ((conv => (lhs; whnf)); first | done | with_reducible rfl)) | (refine wpPlan_read1d rfl ?hw rfl rfl (fun _ _ _ => ?_); case hw => ((conv => (lhs; whnf)); first | done | with_reducible rfl)) | (refine wpPlan_eff rfl ?hw (fun _ _ => ?_); case hw => ((conv => (lhs; whnf)); first | done | with_reducible rfl)) | (refine wpPlan_skip0 rfl ?hw ?_; case hw => ((conv => (lhs; whnf)); first | done | with_reducible rfl)) | (refine wpPlan_skip1d rfl ?hw ?_; case hw => ((conv => (lhs; whnf)); first | done | with_reducible rfl)) | (refine wpPlan_skip2 rfl ?hw ?_; case hw => ((conv => (lhs; whnf)); first | done | with_reducible rfl)) | (refine wpPlan_read1 rfl ?hw rfl (fun _ _ _ => ?_); case hw => ((conv => (lhs; whnf)); first | done | with_reducible rfl)) | refine wpPlan_fork ?_ ?_) | ((with_reducible show Owed _ _ _ _ _ _ _ _ _); first | refine Owed.none_ ?_ | refine Owed.nil_ ?_ | refine Owed.miss rfl ?_ | refine Owed.hit ?_ ?_) | ((with_reducible show Same _ _ _ _ _); intro _; go_simp; done) | (with_reducible exact True.intro) | ((with_reducible show Code.wp _ (Code.region 9 _ true) _ _ _); refine wp_region_plan [(0, 0, []), (1, 0, []), (2, 1, []), (3, 1, []), (4, 1, []), (5, 0, []), (6, 0, []), (7, 1, []), (8, 1, []), (9, 2, []), (10, 1, [])] (by kernel_rfl) (by kernel_rfl) (by kernel_rfl) ?_))
              go_ret
              exact ⟨ret_bool HF.out.symm, HBQ3.out⟩
            · have hle : lessB ⟨ae, at_⟩ ⟨be, bt⟩ = true := by
                have := HCM.out
                rw [decide_eq_false h0] at this
                simpa using this.symm
              have HF := Lib.hid (show ascB (l.take (j + 1 + 1)) = true by rw [asc_next (i := j + 1) (by omega) (by simpa using HA.out) HBB.out, HV.out.1, hle]; rfl)
              clear hle
              go_wp2_with (first | ((with_reducible show wpPlan _ _ _ _ _ (Act.put _ _ _) _); simp only [List.getElem_toArray, List.getElem_cons_succ, List.getElem_cons_zero, Act.put, List.setIfInBounds_toArray, List.set_cons_zero, List.set_cons_succ]) | ((with_reducible show wpPlan _ _ _ _ _ _ _); first | refine wpPlan_nil ?_ | (refine wpPlan_read0 rfl ?hw rfl (fun _ _ _ => ?_); case hw => ((conv => (lhs; whnf)); first | done | with_reducible rfl)) | (refine wpPlan_read1d rfl ?hw rfl rfl (fun _ _ _ => ?_); case hw => ((conv => (lhs; whnf)); first | done | with_reducible rfl)) | (refine wpPlan_eff rfl ?hw (fun _ _ => ?_); case hw => ((conv => (lhs; whnf)); first | done | with_reducible rfl)) | (refine wpPlan_skip0 rfl ?hw ?_; case hw => ((conv => (lhs; whnf)); first | done | with_reducible rfl)) | (refine wpPlan_skip1d rfl ?hw ?_; case hw => ((conv => (lhs; whnf)); first | done | with_reducible rfl)) | (refine wpPlan_skip2 rfl ?hw ?_; case hw => ((conv => (lhs; whnf)); first | done | with_reducible rfl)) | (refine wpPlan_read1 rfl ?hw rfl (fun _ _ _ => ?_); case hw => ((conv => (lhs; whnf)); first | done | with_reducible rfl)) | refine wpPlan_fork ?_ ?_) | ((with_reducible show Owed _ _ _ _ _ _ _ _ _); first | refine Owed.none_ ?_ | refine Owed.nil_ ?_ | refine Owed.miss rfl ?_ | refine Owed.hit ?_ ?_) | ((with_reducible show Same _ _ _ _ _); intro _; go_simp; done) | (with_reducible exact True.intro) | ((with_reducible show Code.wp _ (Code.region 9 _ true) _ _ _); refine wp_region_plan [(0, 0, []), (1, 0, []), (2, 1, []), (3, 1, []), (4, 1, []), (5, 0, []), (6, 0, []), (7, 1, []), (8, 1, []), (9, 2, []), (10, 1, [])] (by kernel_rfl) (by kernel_rfl) (by kernel_rfl) ?_))
              go_roundw
              case rel => exact ⟨j + 2, by omega, by omega, by go_num, Lib.hid ⟨HF.out, HB3.out⟩⟩
              case measure => simp [intOf]; omega
          · have hj2 : l.take i = l := List.take_of_length_le (by omega)
            have HA := Lib.hid (hj2 ▸ HV.out.1)
            have HBQ := Lib.hid (HW.out.2.trans HV.out.2)
            clear hj2
            go_wp2_with fail
            go_roundw
            case rel => exact ⟨k + 1, by omega, by go_num, Lib.hid ⟨all_take HLL.out HA.out HW.out.1, HBQ.out⟩⟩
            case measure => simp [intOf]; omega
      · have hk2 : ls.take k = ls := List.take_of_length_le (by rw [HL.out]; omega)
        have HF := Lib.hid (show r = true from HR.out ▸ valid_ok HQ.out (hk2 ▸ HW.out.1))
        clear hk2
        go_wp2_with fail
        go_ret
        exact ⟨ret_bool HF.out.symm, HW.out.2⟩

end Go.Proofs.Ytmciinikfjfegaa
namespace Go.Proofs.Ytmciinikfjfegaa
open Go Go.RowKit
set_option maxHeartbeats 4000000

set_option maxRecDepth 100000 in
theorem rlooseL_any (A : Option Addr) (n c B : Nat) (ls : List (List Arc)) (w : World) (h : RdL w B A n ls) (hB : B ≤ w.heap.size) (hn : n ≤ 9223372036854775807) (hs : ∀ l ∈ ls, l.length ≤ 1000000000000) :
    Calls Try.prog 67 #[lts A n c] w fun e w' => e = .returned (.bool (looseB ls)) ∧ Below w.heap.size w w' := by
  have HL := Lib.hid h.len
  have H := Lib.hid h
  have HS := Lib.hid hs
  have HB0 := Lib.hid ((Below.refl w.heap.size w).alloc (Nat.le_refl _) (.cells #[.slice A n c] 27))
  have HN0 := Lib.hid (Blk.new w 27 #[.slice A n c])
  obtain ⟨r, hr⟩ : ∃ r, looseB ls = r := ⟨_, rfl⟩
  rw [hr]
  have HR := Lib.hid hr
  clear h hr hs
  by_cases hn1 : n < 1
  · have hf : r = false := HR.out ▸ loose_len (by rw [HL.out]; omega)
    subst hf
    go_enter Try.func67, Try.ntmps67
    go_wp2
    go_ret
    exact ⟨rfl, HB0.out⟩
  by_cases hn2 : 16384 < n
  · have hf : r = false := HR.out ▸ loose_len (by rw [HL.out]; omega)
    subst hf
    go_enter Try.func67, Try.ntmps67
    go_wp2
    go_ret
    exact ⟨rfl, HB0.out⟩
  go_enter Try.func67, Try.ntmps67
  go_wp2
  go_loopw [4, 5] (fun vm vk wr => ∃ (k m : Nat), k ≤ n ∧ vk = .int .i64 k ∧ vm = .int .i64 m ∧ Hid (m = total (ls.take k)) ∧ m ≤ 262144 ∧ Hid ((ls.take k).all (fun l => l.all (okA ls.length)) = true ∧ Blk wr w.heap.size 27 #[.slice A n c] ∧ Below w.heap.size w wr)) (fun _ vk _ => n - (intOf vk).toNat)
  case atStart => exact ⟨0, 0, Nat.zero_le _, rfl, rfl, Lib.hid (by simp [total]), by omega, Lib.hid ⟨by simp, HN0.out, HB0.out⟩⟩
  case round =>
    obtain ⟨k, m, hk, rfl, rfl, HM, hm2, HW⟩ := hrel
    have hNc := HW.out.2.1.cell
    have hNl := HW.out.2.1.lt
    by_cases hlt : k < n
    · obtain ⟨b1, o1, l, A', n', c', rfl, hb1, hl, hln, e0, hrow⟩ := (H.out.keep (w' := wr) (fun p hp => HW.out.2.2.cell (by omega))).row hlt
      have HROW := Lib.hid hrow
      have HLL := Lib.hid hl
      have HE0 := Lib.hid e0
      have HTT := Lib.hid (total_take ls k l hl)
      have hll := HS.out l (List.mem_of_getElem? hl)
      have hb1l : b1 < wr.heap.size := by have := HW.out.2.2.size; omega
      clear hrow hl
      by_cases hbig : 262144 < m + n'
      · have hf : r = false := HR.out ▸ loose_total (k := k + 1) (by have := HM.out; have := HTT.out; omega)
        subst hf
        go_wp2
        go_ret
        exact ⟨rfl, HW.out.2.2⟩
      · go_wp2
        go_loopw [6] (fun vj wr' => ∃ (j : Nat), j ≤ n' ∧ vj = .int .i64 j ∧ Hid ((l.take j).all (okA ls.length) = true ∧ Blk wr' w.heap.size 27 #[.slice (some ⟨b1, o1, none⟩) n c] ∧ Below w.heap.size wr wr')) (fun vj _ => n' - (intOf vj).toNat)
        case atStart => exact ⟨0, Nat.zero_le _, rfl, Lib.hid ⟨by simp, HW.out.2.1, Below.refl _ _⟩⟩
        case round =>
          clear hNc hNl
          obtain ⟨j, hj, rfl, HV⟩ := hrel
          have hNc := HV.out.2.1.cell
          have hNl := HV.out.2.1.lt
          have e1 := (HV.out.2.2.cell (p := ⟨b1, o1 + k, none⟩) (by dsimp only; omega)).trans HE0.out
          have hb1l2 : b1 < wr.heap.size := by have := HV.out.2.2.size; omega
          by_cases hlt2 : j < n'
          · obtain ⟨b2, o2, a, rfl, hb2, ha, d0, d1⟩ := (HROW.out.keep (w' := wr) (fun p hp => HV.out.2.2.cell (by omega))).arc hlt2
            obtain ⟨ae, at_⟩ := a
            have HA := Lib.hid ha
            have HBQ := Lib.hid (HW.out.2.2.trans HV.out.2.2)
            have HBA := Lib.hid (HV.out.2.2.alloc HBQ.out.size (.cells #[.int .i64 ae, .int .i64 at_] 23))
            have HBB := Lib.hid (HBQ.out.alloc HBQ.out.size (.cells #[.int .i64 ae, .int .i64 at_] 23))
            have HNA := Lib.hid (HV.out.2.1.alloc (.cells #[.int .i64 ae, .int .i64 at_] 23))
            have hb2l : b2 < wr.heap.size := by have := HBQ.out.size; omega
            clear ha
            dsimp only at d0 d1
            have hls := HL.out
            by_cases hok : (0 ≤ ae ∧ ae ≤ 1025) ∧ 0 ≤ at_ ∧ at_ < n
            · have HO := Lib.hid (show okA ls.length ⟨ae, at_⟩ = true by
                unfold okA
                rw [Bool.and_eq_true, decide_eq_true_eq, decide_eq_true_eq, hls]
                exact hok)
              obtain ⟨⟨q1, q2⟩, q3, q4⟩ := hok
              clear hls
              go_wp2
              go_roundw
              case rel => exact ⟨j + 1, by omega, by go_num, Lib.hid ⟨all_take HA.out HO.out HV.out.1, HNA.out, HBA.out⟩⟩
              case measure => simp [intOf]; omega
            · have HO := Lib.hid (show r = false from HR.out ▸ loose_bad HLL.out HA.out (by
                unfold okA
                rw [Bool.and_eq_false_iff, decide_eq_false_iff_not, decide_eq_false_iff_not, hls]
                dsimp only
                omega))
              clear hls
              have h4 : ae < 0 ∨ (0 ≤ ae ∧ 1025 < ae) ∨ ((0 ≤ ae ∧ ae ≤ 1025) ∧ at_ < 0) ∨ ((0 ≤ ae ∧ ae ≤ 1025) ∧ 0 ≤ at_ ∧ (n : Int) ≤ at_) := by omega
              clear hok
              rcases h4 with q1 | ⟨q1, q2⟩ | ⟨⟨q1, q2⟩, q3⟩ | ⟨⟨q1, q2⟩, q3, q4⟩
              all_goals (go_wp2; go_ret; exact ⟨ret_bool HO.out.symm, HBB.out⟩)
          · have hj2 : l.take j = l := List.take_of_length_le (by omega)
            have HA := Lib.hid (hj2 ▸ HV.out.1)
            have HBQ := Lib.hid (HW.out.2.2.trans HV.out.2.2)
            clear hj2
            go_wp2
            go_roundw
            case rel => exact ⟨k + 1, m + n', by omega, by go_num, by go_num, Lib.hid (by have := HM.out; have := HTT.out; omega), by omega, Lib.hid ⟨all_take HLL.out HA.out HW.out.1, HV.out.2.1, HBQ.out⟩⟩
            case measure => simp [intOf]; omega
    · have hk2 : ls.take k = ls := List.take_of_length_le (by rw [HL.out]; omega)
      have hA := HW.out.1
      rw [hk2] at hA
      have hm := HM.out
      rw [hk2] at hm
      have HO := Lib.hid (show r = true from HR.out ▸ loose_ok (by rw [HL.out]; omega) (by rw [HL.out]; omega) (by omega) hA)
      clear hk2 hA hm
      go_wp2
      go_ret
      exact ⟨ret_bool HO.out.symm, HW.out.2.2⟩

set_option maxRecDepth 100000 in
theorem rvalidL_any (A : Option Addr) (n c B : Nat) (ls : List (List Arc)) (w : World) (h : RdL w B A n ls) (hB : B ≤ w.heap.size) (hn : n ≤ 9223372036854775807) (hs : ∀ l ∈ ls, l.length ≤ 1000000000000) :
    Calls Try.prog 44 #[lts A n c] w fun e w' => e = .returned (.bool (validB ls)) ∧ Below w.heap.size w w' := by
  have HL := Lib.hid h.len
  have H := Lib.hid h
  have HS := Lib.hid hs
  have HB0 := Lib.hid ((Below.refl w.heap.size w).alloc (Nat.le_refl _) (.cells #[.slice A n c] 27))
  have HN0 := Lib.hid (Blk.new w 27 #[.slice A n c])
  have HR0 := Lib.hid (h.alloc hB (.cells #[.slice A n c] 27))
  obtain ⟨r, hr⟩ : ∃ r, validB ls = r := ⟨_, rfl⟩
  obtain ⟨q, hq⟩ : ∃ q, looseB ls = q := ⟨_, rfl⟩
  rw [hr]
  have HR := Lib.hid hr
  have HQ := Lib.hid hq
  clear h hr hq hs
  go_enter Try.func44, Try.ntmps44
  go_wp2_with fail
  refine (rlooseL_any A n c B ls _ HR0.out (by simp; omega) hn HS.out).mono ?_
  rw [HQ.out]
  rintro e w1 ⟨rfl, hb1⟩
  have HB1 := Lib.hid (HB0.out.trans (hb1.mono (by simp)))
  have HN1 := Lib.hid (HN0.out.below hb1 HN0.out.lt)
  clear hb1 HN0 HR0
  cases q
  · have HF := Lib.hid (show r = false from HR.out ▸ valid_loose HQ.out)
    go_wp2_with fail
    go_ret
    exact ⟨ret_bool HF.out.symm, HB1.out⟩
  · go_wp2_with fail
    go_loopw [3] (fun vk wr => ∃ k : Nat, k ≤ n ∧ vk = .int .i64 k ∧ Hid ((ls.take k).all ascB = true ∧ Blk wr w.heap.size 27 #[.slice A n c] ∧ Below w.heap.size w wr)) (fun vk _ => n - (intOf vk).toNat)
    case atStart => exact ⟨0, Nat.zero_le _, rfl, Lib.hid ⟨by simp, HN1.out, HB1.out⟩⟩
    case round =>
      obtain ⟨k, hk, rfl, HW⟩ := hrel
      have hNc := HW.out.2.1.cell
      have hNl := HW.out.2.1.lt
      by_cases hlt : k < n
      · obtain ⟨b1, o1, l, A', n', c', rfl, hb1, hl, hln, e0, hrow⟩ := (H.out.keep (w' := wr) (fun p hp => HW.out.2.2.cell (by omega))).row hlt
        have HROW := Lib.hid hrow
        have HLL := Lib.hid hl
        have HE0 := Lib.hid e0
        have hll := HS.out l (List.mem_of_getElem? hl)
        clear hrow hl e0
        go_wp2_with fail
        go_loopw [4] (fun vi wr' => ∃ (i : Nat), 1 ≤ i ∧ i ≤ n' + 1 ∧ vi = .int .i64 i ∧ Hid (ascB (l.take i) = true ∧ Blk wr' w.heap.size 27 #[.slice (some ⟨b1, o1, none⟩) n c] ∧ Below w.heap.size wr wr')) (fun vi _ => n' + 1 - (intOf vi).toNat)
        case atStart => exact ⟨1, Nat.le_refl _, by omega, rfl, Lib.hid ⟨by cases l <;> simp [ascB], HW.out.2.1, Below.refl _ _⟩⟩
        case round =>
          clear hNc hNl
          obtain ⟨i, hi1, hi, rfl, HV⟩ := hrel
          have hNc := HV.out.2.1.cell
          have hNl := HV.out.2.1.lt
          have e1 := (HV.out.2.2.cell (p := ⟨b1, o1 + k, none⟩) (by dsimp only; omega)).trans HE0.out
          have hb1l2 : b1 < wr.heap.size := by have := HV.out.2.2.size; have := HW.out.2.2.size; omega
          by_cases hlt2 : i < n'
          · obtain ⟨b2, o2, a, rfl, hb2, ha, d0, d1⟩ := (HROW.out.keep (w' := wr) (fun p hp => HV.out.2.2.cell (by omega))).arc (i := i - 1) (by omega)
            obtain ⟨b3, o3, b, hab, hb3, hbb, f0, f1⟩ := (HROW.out.keep (w' := wr) (fun p hp => HV.out.2.2.cell (by omega))).arc hlt2
            obtain ⟨rfl, rfl⟩ : b2 = b3 ∧ o2 = o3 := by simpa using hab
            obtain ⟨ae, at_⟩ := a
            obtain ⟨be, bt⟩ := b
            have HA := Lib.hid ha
            have HBB := Lib.hid hbb
            obtain ⟨j, rfl⟩ : ∃ j, i = j + 1 := ⟨i - 1, by omega⟩
            have HBQ := Lib.hid (HW.out.2.2.trans HV.out.2.2)
            dsimp only at d0 d1 f0 f1
            simp only [Nat.add_sub_cancel] at d0 d1
            obtain ⟨x, hx⟩ : ∃ x, lessB ⟨ae, at_⟩ ⟨be, bt⟩ = x := ⟨_, rfl⟩
            have HX := Lib.hid hx
            clear ha hbb hab hx
            have hlt3 : b2 < wr.heap.size := by have := HBQ.out.size; omega
            go_wp2_with (first | ((with_reducible show wpPlan _ _ _ _ _ (Act.put _ _ _) _); simp only [List.getElem_toArray, List.getElem_cons_succ, List.getElem_cons_zero, Act.put, List.setIfInBounds_toArray, List.set_cons_zero, List.set_cons_succ]) | ((with_reducible show wpPlan _ _ _ _ _ _ _); first | refine wpPlan_nil ?_ | (refine wpPlan_read0 rfl ?hw rfl (fun _ _ _ => ?_); case hw => ((conv => (lhs; whnf)); first | done | with_reducible rfl)) | (refine wpPlan_read1d rfl ?hw rfl rfl (fun _ _ _ => ?_); case hw => ((conv => (lhs; whnf)); first | done | with_reducible rfl)) | (refine wpPlan_eff rfl ?hw (fun _ _ => ?_); case hw => ((conv => (lhs; whnf)); first | done | with_reducible rfl)) | (refine wpPlan_skip0 rfl ?hw ?_; case hw => ((conv => (lhs; whnf)); first | done | with_reducible rfl)) | (refine wpPlan_skip1d rfl ?hw ?_; case hw => ((conv => (lhs; whnf)); first | done | with_reducible rfl)) | (refine wpPlan_skip2 rfl ?hw ?_; case hw => ((conv => (lhs; whnf)); first | done | with_reducible rfl)) | (refine wpPlan_read1 rfl ?hw rfl (fun _ _ _ => ?_); case hw => ((conv => (lhs; whnf)); first | done | with_reducible rfl)) | refine wpPlan_fork ?_ ?_) | ((with_reducible show Owed _ _ _ _ _ _ _ _ _); first | refine Owed.none_ ?_ | refine Owed.nil_ ?_ | refine Owed.miss rfl ?_ | refine Owed.hit ?_ ?_) | ((with_reducible show Same _ _ _ _ _); intro _; go_simp; done) | (with_reducible exact True.intro) | ((with_reducible show Code.wp _ (Code.region 9 _ true) _ _ _); refine wp_region_plan [(0, 1, []), (1, 1, []), (2, 0, []), (3, 1, []), (4, 1, []), (5, 0, []), (6, 1, []), (7, 1, []), (8, 1, []), (9, 1, []), (10, 1, []), (11, 0, []), (12, 1, []), (13, 1, []), (14, 0, []), (15, 1, []), (16, 1, []), (17, 2, []), (18, 1, [])] (by kernel_rfl) (by kernel_rfl) (by kernel_rfl) ?_))
            refine (less_any ⟨ae, at_⟩ ⟨be, bt⟩ _).mono ?_
            rw [HX.out]
            rintro e w3 ⟨rfl, hb3⟩
            have hbb3 : Below wr.heap.size wr w3 := (below_drewN (Below.refl wr.heap.size wr) 1).trans hb3
            have HB3 := Lib.hid (HV.out.2.2.trans (hbb3.mono HBQ.out.size))
            have HBQ3 := Lib.hid (HBQ.out.trans (hbb3.mono HBQ.out.size))
            have HN3 := Lib.hid (HV.out.2.1.below hbb3 HV.out.2.1.lt)
            clear hb3 hbb3 d0 d1 f0 f1 hlt3 e1 hNc hNl
            cases x
            · have HF := Lib.hid (show r = false from HR.out ▸ valid_bad HLL.out (asc_bad (i := j + 1) (by omega) (by simpa using HA.out) HBB.out HX.out))
              go_wp2_with (first | ((with_reducible show wpPlan _ _ _ _ _ (Act.put _ _ _) _); simp only [List.getElem_toArray, List.getElem_cons_succ, List.getElem_cons_zero, Act.put, List.setIfInBounds_toArray, List.set_cons_zero, List.set_cons_succ]) | ((with_reducible show wpPlan _ _ _ _ _ _ _); first | refine wpPlan_nil ?_ | (refine wpPlan_read0 rfl ?hw rfl (fun _ _ _ => ?_); case hw => ((conv => (lhs; whnf)); first | done | with_reducible rfl)) | (refine wpPlan_read1d rfl ?hw rfl rfl (fun _ _ _ => ?_); case hw => ((conv => (lhs; whnf)); first | done | with_reducible rfl)) | (refine wpPlan_eff rfl ?hw (fun _ _ => ?_); case hw => ((conv => (lhs; whnf)); first | done | with_reducible rfl)) | (refine wpPlan_skip0 rfl ?hw ?_; case hw => ((conv => (lhs; whnf)); first | done | with_reducible rfl)) | (refine wpPlan_skip1d rfl ?hw ?_; case hw => ((conv => (lhs; whnf)); first | done | with_reducible rfl)) | (refine wpPlan_skip2 rfl ?hw ?_; case hw => ((conv => (lhs; whnf)); first | done | with_reducible rfl)) | (refine wpPlan_read1 rfl ?hw rfl (fun _ _ _ => ?_); case hw => ((conv => (lhs; whnf)); first | done | with_reducible rfl)) | refine wpPlan_fork ?_ ?_) | ((with_reducible show Owed _ _ _ _ _ _ _ _ _); first | refine Owed.none_ ?_ | refine Owed.nil_ ?_ | refine Owed.miss rfl ?_ | refine Owed.hit ?_ ?_) | ((with_reducible show Same _ _ _ _ _); intro _; go_simp; done) | (with_reducible exact True.intro) | ((with_reducible show Code.wp _ (Code.region 9 _ true) _ _ _); refine wp_region_plan [(0, 1, []), (1, 1, []), (2, 0, []), (3, 1, []), (4, 1, []), (5, 0, []), (6, 1, []), (7, 1, []), (8, 1, []), (9, 1, []), (10, 1, []), (11, 0, []), (12, 1, []), (13, 1, []), (14, 0, []), (15, 1, []), (16, 1, []), (17, 2, []), (18, 1, [])] (by kernel_rfl) (by kernel_rfl) (by kernel_rfl) ?_))
              go_ret
              exact ⟨ret_bool HF.out.symm, HBQ3.out⟩
            · have HF := Lib.hid (show ascB (l.take (j + 1 + 1)) = true by rw [asc_next (i := j + 1) (by omega) (by simpa using HA.out) HBB.out, HV.out.1, HX.out]; rfl)
              go_wp2_with (first | ((with_reducible show wpPlan _ _ _ _ _ (Act.put _ _ _) _); simp only [List.getElem_toArray, List.getElem_cons_succ, List.getElem_cons_zero, Act.put, List.setIfInBounds_toArray, List.set_cons_zero, List.set_cons_succ]) | ((with_reducible show wpPlan _ _ _ _ _ _ _); first | refine wpPlan_nil ?_ | (refine wpPlan_read0 rfl ?hw rfl (fun _ _ _ => ?_); case hw => ((conv => (lhs; whnf)); first | done | with_reducible rfl)) | (refine wpPlan_read1d rfl ?hw rfl rfl (fun _ _ _ => ?_); case hw => ((conv => (lhs; whnf)); first | done | with_reducible rfl)) | (refine wpPlan_eff rfl ?hw (fun _ _ => ?_); case hw => ((conv => (lhs; whnf)); first | done | with_reducible rfl)) | (refine wpPlan_skip0 rfl ?hw ?_; case hw => ((conv => (lhs; whnf)); first | done | with_reducible rfl)) | (refine wpPlan_skip1d rfl ?hw ?_; case hw => ((conv => (lhs; whnf)); first | done | with_reducible rfl)) | (refine wpPlan_skip2 rfl ?hw ?_; case hw => ((conv => (lhs; whnf)); first | done | with_reducible rfl)) | (refine wpPlan_read1 rfl ?hw rfl (fun _ _ _ => ?_); case hw => ((conv => (lhs; whnf)); first | done | with_reducible rfl)) | refine wpPlan_fork ?_ ?_) | ((with_reducible show Owed _ _ _ _ _ _ _ _ _); first | refine Owed.none_ ?_ | refine Owed.nil_ ?_ | refine Owed.miss rfl ?_ | refine Owed.hit ?_ ?_) | ((with_reducible show Same _ _ _ _ _); intro _; go_simp; done) | (with_reducible exact True.intro) | ((with_reducible show Code.wp _ (Code.region 9 _ true) _ _ _); refine wp_region_plan [(0, 1, []), (1, 1, []), (2, 0, []), (3, 1, []), (4, 1, []), (5, 0, []), (6, 1, []), (7, 1, []), (8, 1, []), (9, 1, []), (10, 1, []), (11, 0, []), (12, 1, []), (13, 1, []), (14, 0, []), (15, 1, []), (16, 1, []), (17, 2, []), (18, 1, [])] (by kernel_rfl) (by kernel_rfl) (by kernel_rfl) ?_))
              go_roundw
              case rel => exact ⟨j + 2, by omega, by omega, by go_num, Lib.hid ⟨HF.out, HN3.out, HB3.out⟩⟩
              case measure => simp [intOf]; omega
          · have hj2 : l.take i = l := List.take_of_length_le (by omega)
            have HA := Lib.hid (hj2 ▸ HV.out.1)
            have HBQ := Lib.hid (HW.out.2.2.trans HV.out.2.2)
            clear hj2
            go_wp2_with fail
            go_roundw
            case rel => exact ⟨k + 1, by omega, by go_num, Lib.hid ⟨all_take HLL.out HA.out HW.out.1, HV.out.2.1, HBQ.out⟩⟩
            case measure => simp [intOf]; omega
      · have hk2 : ls.take k = ls := List.take_of_length_le (by rw [HL.out]; omega)
        have HF := Lib.hid (show r = true from HR.out ▸ valid_ok HQ.out (hk2 ▸ HW.out.1))
        clear hk2
        go_wp2_with fail
        go_ret
        exact ⟨ret_bool HF.out.symm, HW.out.2.2⟩

end Go.Proofs.Ytmciinikfjfegaa
namespace Go.Proofs.Ytmciinikfjfegaa
open Go Go.RowKit
set_option maxHeartbeats 4000000

theorem take_eq_all {α : Type} {l l' : List α} {n : Nat} (h1 : l.length = n) (h2 : l'.length = n) : l.take n = l'.take n → l = l' := fun h => by
  rwa [List.take_of_length_le (by omega), List.take_of_length_le (by omega)] at h
theorem take_next {α : Type} {l l' : List α} {k : Nat} {x : α} (h : l.take k = l'.take k) (h1 : l[k]? = some x) (h2 : l'[k]? = some x) : l.take (k + 1) = l'.take (k + 1) := by
  rw [List.take_add_one, List.take_add_one, h, h1, h2]

set_option maxRecDepth 100000 in
theorem samerow_any (A A' : Option Addr) (n c n' c' B : Nat) (l l' : List Arc) (w : World) (h : Rd w B 2 A n (cellsOf Arc.cells l)) (h' : Rd w B 2 A' n' (cellsOf Arc.cells l')) (hB : B ≤ w.heap.size) (hn : n ≤ 1000000000000) :
    Calls Try.prog 51 #[.slice A n c, .slice A' n' c'] w fun e w' => e = .returned (.bool (decide (l = l'))) ∧ Below w.heap.size w w' := by
  have HL := Lib.hid (h.len Arc.cells_len (by decide))
  have HL' := Lib.hid (h'.len Arc.cells_len (by decide))
  have H := Lib.hid h
  have H' := Lib.hid h'
  clear h h'
  go_enter Try.func51, Try.ntmps51
  by_cases hne : n = n'
  · subst hne
    go_wp2_with fail
    go_loopw [5] (fun vk wr => ∃ k : Nat, k ≤ n ∧ vk = .int .i64 k ∧ Hid (l.take k = l'.take k ∧ Below w.heap.size w wr)) (fun vk _ => n - (intOf vk).toNat)
    case atStart => exact ⟨0, Nat.zero_le _, rfl, Lib.hid ⟨rfl, Below.refl _ _⟩⟩
    case round =>
      obtain ⟨k, hk, rfl, HW⟩ := hrel
      by_cases hlt : k < n
      · obtain ⟨b1, o1, x, rfl, _, hx, c0, c1⟩ := (H.out.keep (w' := wr) (fun p hp => HW.out.2.cell (by omega))).arc hlt
        obtain ⟨b2, o2, y, rfl, _, hy, d0, d1⟩ := (H'.out.keep (w' := wr) (fun p hp => HW.out.2.cell (by omega))).arc hlt
        by_cases hxy : x = y
        · subst hxy
          have HT := Lib.hid (take_next HW.out.1 hx hy)
          have HBW := Lib.hid HW.out.2.drew
          go_wp2_with (first | ((with_reducible show wpPlan _ _ _ _ _ (Act.put _ _ _) _); simp only [List.getElem_toArray, List.getElem_cons_succ, List.getElem_cons_zero, Act.put, List.setIfInBounds_toArray, List.set_cons_zero, List.set_cons_succ]) | ((with_reducible show wpPlan _ _ _ _ _ _ _); first | refine wpPlan_nil ?_ | (refine wpPlan_read0 rfl ?hw rfl (fun _ _ _ => ?_); case hw => ((conv => (lhs; whnf)); first | done | with_reducible rfl)) | (refine wpPlan_read1d rfl ?hw rfl rfl (fun _ _ _ => ?_); case hw => ((conv => (lhs; whnf)); first | done | with_reducible rfl)) | (refine wpPlan_eff rfl ?hw (fun _ _ => ?_); case hw => ((conv => (lhs; whnf)); first | done | with_reducible rfl)) | (refine wpPlan_skip0 rfl ?hw ?_; case hw => ((conv => (lhs; whnf)); first | done | with_reducible rfl)) | (refine wpPlan_skip1d rfl ?hw ?_; case hw => ((conv => (lhs; whnf)); first | done | with_reducible rfl)) | (refine wpPlan_skip2 rfl ?hw ?_; case hw => ((conv => (lhs; whnf)); first | done | with_reducible rfl)) | (refine wpPlan_read1 rfl ?hw rfl (fun _ _ _ => ?_); case hw => ((conv => (lhs; whnf)); first | done | with_reducible rfl)) | refine wpPlan_fork ?_ ?_) | ((with_reducible show Owed _ _ _ _ _ _ _ _ _); first | refine Owed.none_ ?_ | refine Owed.nil_ ?_ | refine Owed.miss rfl ?_ | refine Owed.hit ?_ ?_) | ((with_reducible show Same _ _ _ _ _); intro _; go_simp; done) | (with_reducible exact True.intro) | ((with_reducible show Code.wp _ (Code.region 6 _ true) _ _ _); refine wp_region_plan [(0, 0, []), (1, 0, []), (2, 1, []), (3, 1, []), (4, 0, []), (5, 0, []), (6, 1, []), (7, 1, []), (8, 1, [])] (by kernel_rfl) (by kernel_rfl) (by kernel_rfl) ?_))
          go_roundw
          case rel => exact ⟨k + 1, by omega, by go_num, Lib.hid ⟨HT.out, HBW.out⟩⟩
          case measure => simp [intOf]; omega
        · have HNE := Lib.hid (show decide (l = l') = false from decide_eq_false fun e => by
            rw [e, hy] at hx
            exact hxy (Option.some.inj hx).symm)
          have HBW := Lib.hid HW.out.2.drew
          by_cases he : x.ev = y.ev
          · have ht : ¬ x.to = y.to := fun h => hxy (by cases x; cases y; simp_all)
            rw [he] at c0
            clear hx hy he hxy
            go_wp2_with (first | ((with_reducible show wpPlan _ _ _ _ _ (Act.put _ _ _) _); simp only [List.getElem_toArray, List.getElem_cons_succ, List.getElem_cons_zero, Act.put, List.setIfInBounds_toArray, List.set_cons_zero, List.set_cons_succ]) | ((with_reducible show wpPlan _ _ _ _ _ _ _); first | refine wpPlan_nil ?_ | (refine wpPlan_read0 rfl ?hw rfl (fun _ _ _ => ?_); case hw => ((conv => (lhs; whnf)); first | done | with_reducible rfl)) | (refine wpPlan_read1d rfl ?hw rfl rfl (fun _ _ _ => ?_); case hw => ((conv => (lhs; whnf)); first | done | with_reducible rfl)) | (refine wpPlan_eff rfl ?hw (fun _ _ => ?_); case hw => ((conv => (lhs; whnf)); first | done | with_reducible rfl)) | (refine wpPlan_skip0 rfl ?hw ?_; case hw => ((conv => (lhs; whnf)); first | done | with_reducible rfl)) | (refine wpPlan_skip1d rfl ?hw ?_; case hw => ((conv => (lhs; whnf)); first | done | with_reducible rfl)) | (refine wpPlan_skip2 rfl ?hw ?_; case hw => ((conv => (lhs; whnf)); first | done | with_reducible rfl)) | (refine wpPlan_read1 rfl ?hw rfl (fun _ _ _ => ?_); case hw => ((conv => (lhs; whnf)); first | done | with_reducible rfl)) | refine wpPlan_fork ?_ ?_) | ((with_reducible show Owed _ _ _ _ _ _ _ _ _); first | refine Owed.none_ ?_ | refine Owed.nil_ ?_ | refine Owed.miss rfl ?_ | refine Owed.hit ?_ ?_) | ((with_reducible show Same _ _ _ _ _); intro _; go_simp; done) | (with_reducible exact True.intro) | ((with_reducible show Code.wp _ (Code.region 6 _ true) _ _ _); refine wp_region_plan [(0, 0, []), (1, 0, []), (2, 1, []), (3, 1, []), (4, 0, []), (5, 0, []), (6, 1, []), (7, 1, []), (8, 1, [])] (by kernel_rfl) (by kernel_rfl) (by kernel_rfl) ?_))
            go_ret
            exact ⟨ret_bool HNE.out.symm, HBW.out⟩
          · clear hx hy hxy
            go_wp2_with (first | ((with_reducible show wpPlan _ _ _ _ _ (Act.put _ _ _) _); simp only [List.getElem_toArray, List.getElem_cons_succ, List.getElem_cons_zero, Act.put, List.setIfInBounds_toArray, List.set_cons_zero, List.set_cons_succ]) | ((with_reducible show wpPlan _ _ _ _ _ _ _); first | refine wpPlan_nil ?_ | (refine wpPlan_read0 rfl ?hw rfl (fun _ _ _ => ?_); case hw => ((conv => (lhs; whnf)); first | done | with_reducible rfl)) | (refine wpPlan_read1d rfl ?hw rfl rfl (fun _ _ _ => ?_); case hw => ((conv => (lhs; whnf)); first | done | with_reducible rfl)) | (refine wpPlan_eff rfl ?hw (fun _ _ => ?_); case hw => ((conv => (lhs; whnf)); first | done | with_reducible rfl)) | (refine wpPlan_skip0 rfl ?hw ?_; case hw => ((conv => (lhs; whnf)); first | done | with_reducible rfl)) | (refine wpPlan_skip1d rfl ?hw ?_; case hw => ((conv => (lhs; whnf)); first | done | with_reducible rfl)) | (refine wpPlan_skip2 rfl ?hw ?_; case hw => ((conv => (lhs; whnf)); first | done | with_reducible rfl)) | (refine wpPlan_read1 rfl ?hw rfl (fun _ _ _ => ?_); case hw => ((conv => (lhs; whnf)); first | done | with_reducible rfl)) | refine wpPlan_fork ?_ ?_) | ((with_reducible show Owed _ _ _ _ _ _ _ _ _); first | refine Owed.none_ ?_ | refine Owed.nil_ ?_ | refine Owed.miss rfl ?_ | refine Owed.hit ?_ ?_) | ((with_reducible show Same _ _ _ _ _); intro _; go_simp; done) | (with_reducible exact True.intro) | ((with_reducible show Code.wp _ (Code.region 6 _ true) _ _ _); refine wp_region_plan [(0, 0, []), (1, 0, []), (2, 1, []), (3, 1, []), (4, 0, []), (5, 0, []), (6, 1, []), (7, 1, []), (8, 1, [])] (by kernel_rfl) (by kernel_rfl) (by kernel_rfl) ?_))
            go_ret
            exact ⟨ret_bool HNE.out.symm, HBW.out⟩
      · have hkn : k = n := by omega
        subst hkn
        have HD := Lib.hid (show decide (l = l') = true from decide_eq_true (take_eq_all HL.out HL'.out HW.out.1))
        go_wp2_with fail
        go_ret
        exact ⟨ret_bool HD.out.symm, HW.out.2⟩
  · rw [show decide (l = l') = false from decide_eq_false fun e => hne (by rw [← HL.out, ← HL'.out, e])]
    go_wp2_with fail
    go_ret
    exact ⟨rfl, Below.refl _ _⟩

set_option maxRecDepth 100000 in
theorem same_any (A A' : Option Addr) (n c n' c' B : Nat) (ls ls' : List (List Arc)) (w : World) (h : RdL w B A n ls) (h' : RdL w B A' n' ls') (hB : B ≤ w.heap.size) (hn : n ≤ 1000000000000) (hs : ∀ l ∈ ls, l.length ≤ 1000000000000) :
    Calls Try.prog 29 #[lts A n c, lts A' n' c'] w fun e w' => e = .returned (.bool (decide (ls = ls'))) ∧ Below w.heap.size w w' := by
  have HL := Lib.hid h.len
  have HL' := Lib.hid h'.len
  have H := Lib.hid h
  have H' := Lib.hid h'
  have HS := Lib.hid hs
  have HN := Lib.hid (((Blk.new w 27 #[.slice A n c]).alloc (.cells #[.slice A' n' c'] 27)))
  have HN' := Lib.hid (show Blk ((w.alloc (.cells #[.slice A n c] 27)).alloc (.cells #[.slice A' n' c'] 27)) (w.heap.size + 1) 27 #[.slice A' n' c'] from heap_alloc_at (by simp))
  have HB0 := Lib.hid (((Below.refl w.heap.size w).alloc (Nat.le_refl _) (.cells #[.slice A n c] 27)).alloc (by simp) (.cells #[.slice A' n' c'] 27))
  clear h h' hs
  go_enter Try.func29, Try.ntmps29
  by_cases hne : n = n'
  · subst hne
    go_wp2_with fail
    go_loopw [5] (fun vk wr => ∃ k : Nat, k ≤ n ∧ vk = .int .i64 k ∧ Hid (ls.take k = ls'.take k ∧ Below w.heap.size w wr ∧ Blk wr w.heap.size 27 #[.slice A n c] ∧ Blk wr (w.heap.size + 1) 27 #[.slice A' n c'])) (fun vk _ => n - (intOf vk).toNat)
    case atStart => exact ⟨0, Nat.zero_le _, rfl, Lib.hid ⟨rfl, HB0.out, HN.out, HN'.out⟩⟩
    case round =>
      obtain ⟨k, hk, rfl, HW⟩ := hrel
      have bc := HW.out.2.2.1.cell
      have bl := HW.out.2.2.1.lt
      have ec := HW.out.2.2.2.cell
      have el := HW.out.2.2.2.lt
      by_cases hlt : k < n
      · obtain ⟨b1, o1, x, A1, n1, c1, rfl, hb1, hx, hxn, e0, hr1⟩ := (H.out.keep (w' := wr) (fun p hp => HW.out.2.1.cell (by omega))).row hlt
        obtain ⟨b2, o2, y, A2, n2, c2, rfl, hb2, hy, hyn, d0, hr2⟩ := (H'.out.keep (w' := wr) (fun p hp => HW.out.2.1.cell (by omega))).row hlt
        have hxs := HS.out x (List.mem_of_getElem? hx)
        have HR := Lib.hid (And.intro hr1 hr2)
        have HX := Lib.hid (And.intro hx hy)
        clear hr1 hr2 hx hy
        go_wp2_with (first | ((with_reducible show wpPlan _ _ _ _ _ (Act.put _ _ _) _); simp only [List.getElem_toArray, List.getElem_cons_succ, List.getElem_cons_zero, Act.put, List.setIfInBounds_toArray, List.set_cons_zero, List.set_cons_succ]) | ((with_reducible show wpPlan _ _ _ _ _ _ _); first | refine wpPlan_nil ?_ | (refine wpPlan_read0 rfl ?hw rfl (fun _ _ _ => ?_); case hw => ((conv => (lhs; whnf)); first | done | with_reducible rfl)) | (refine wpPlan_read1d rfl ?hw rfl rfl (fun _ _ _ => ?_); case hw => ((conv => (lhs; whnf)); first | done | with_reducible rfl)) | (refine wpPlan_eff rfl ?hw (fun _ _ => ?_); case hw => ((conv => (lhs; whnf)); first | done | with_reducible rfl)) | (refine wpPlan_skip0 rfl ?hw ?_; case hw => ((conv => (lhs; whnf)); first | done | with_reducible rfl)) | (refine wpPlan_skip1d rfl ?hw ?_; case hw => ((conv => (lhs; whnf)); first | done | with_reducible rfl)) | (refine wpPlan_skip2 rfl ?hw ?_; case hw => ((conv => (lhs; whnf)); first | done | with_reducible rfl)) | (refine wpPlan_read1 rfl ?hw rfl (fun _ _ _ => ?_); case hw => ((conv => (lhs; whnf)); first | done | with_reducible rfl)) | refine wpPlan_fork ?_ ?_) | ((with_reducible show Owed _ _ _ _ _ _ _ _ _); first | refine Owed.none_ ?_ | refine Owed.nil_ ?_ | refine Owed.miss rfl ?_ | refine Owed.hit ?_ ?_) | ((with_reducible show Same _ _ _ _ _); intro _; go_simp; done) | (with_reducible exact True.intro) | ((with_reducible show Code.wp _ (Code.region 6 _ true) _ _ _); refine wp_region_plan [(0, 1, []), (1, 1, []), (2, 0, []), (3, 1, []), (4, 1, []), (5, 1, []), (6, 1, []), (7, 0, []), (8, 1, []), (9, 1, []), (10, 2, []), (11, 1, [])] (by kernel_rfl) (by kernel_rfl) (by kernel_rfl) ?_))
        refine (samerow_any A1 A2 n1 c1 n2 c2 B x y _ (HR.out.1.drewN 1) (HR.out.2.drewN 1) (by have := HW.out.2.1.size; simp; omega) (by omega)).mono ?_
        rintro e w5 ⟨rfl, hb5⟩
        have HW5 := Lib.hid (And.intro (HW.out.2.1.drew.trans (hb5.mono HW.out.2.1.size)) (And.intro (HW.out.2.2.1.drew.below hb5 bl) (HW.out.2.2.2.drew.below hb5 el)))
        clear hb5
        by_cases hxy : x = y
        · subst hxy
          have HT := Lib.hid (take_next HW.out.1 HX.out.1 HX.out.2)
          rw [show decide (x = x) = true from decide_eq_true rfl]
          go_wp2_with (first | ((with_reducible show wpPlan _ _ _ _ _ (Act.put _ _ _) _); simp only [List.getElem_toArray, List.getElem_cons_succ, List.getElem_cons_zero, Act.put, List.setIfInBounds_toArray, List.set_cons_zero, List.set_cons_succ]) | ((with_reducible show wpPlan _ _ _ _ _ _ _); first | refine wpPlan_nil ?_ | (refine wpPlan_read0 rfl ?hw rfl (fun _ _ _ => ?_); case hw => ((conv => (lhs; whnf)); first | done | with_reducible rfl)) | (refine wpPlan_read1d rfl ?hw rfl rfl (fun _ _ _ => ?_); case hw => ((conv => (lhs; whnf)); first | done | with_reducible rfl)) | (refine wpPlan_eff rfl ?hw (fun _ _ => ?_); case hw => ((conv => (lhs; whnf)); first | done | with_reducible rfl)) | (refine wpPlan_skip0 rfl ?hw ?_; case hw => ((conv => (lhs; whnf)); first | done | with_reducible rfl)) | (refine wpPlan_skip1d rfl ?hw ?_; case hw => ((conv => (lhs; whnf)); first | done | with_reducible rfl)) | (refine wpPlan_skip2 rfl ?hw ?_; case hw => ((conv => (lhs; whnf)); first | done | with_reducible rfl)) | (refine wpPlan_read1 rfl ?hw rfl (fun _ _ _ => ?_); case hw => ((conv => (lhs; whnf)); first | done | with_reducible rfl)) | refine wpPlan_fork ?_ ?_) | ((with_reducible show Owed _ _ _ _ _ _ _ _ _); first | refine Owed.none_ ?_ | refine Owed.nil_ ?_ | refine Owed.miss rfl ?_ | refine Owed.hit ?_ ?_) | ((with_reducible show Same _ _ _ _ _); intro _; go_simp; done) | (with_reducible exact True.intro) | ((with_reducible show Code.wp _ (Code.region 6 _ true) _ _ _); refine wp_region_plan [(0, 1, []), (1, 1, []), (2, 0, []), (3, 1, []), (4, 1, []), (5, 1, []), (6, 1, []), (7, 0, []), (8, 1, []), (9, 1, []), (10, 2, []), (11, 1, [])] (by kernel_rfl) (by kernel_rfl) (by kernel_rfl) ?_))
          go_roundw
          case rel => exact ⟨k + 1, by omega, by go_num, Lib.hid ⟨HT.out, HW5.out⟩⟩
          case measure => simp [intOf]; omega
        · rw [show decide (x = y) = false from decide_eq_false hxy]
          have HD := Lib.hid (show decide (ls = ls') = false from decide_eq_false fun e => by
            have h1 := HX.out.1
            rw [e, HX.out.2] at h1
            exact hxy (Option.some.inj h1).symm)
          go_wp2_with (first | ((with_reducible show wpPlan _ _ _ _ _ (Act.put _ _ _) _); simp only [List.getElem_toArray, List.getElem_cons_succ, List.getElem_cons_zero, Act.put, List.setIfInBounds_toArray, List.set_cons_zero, List.set_cons_succ]) | ((with_reducible show wpPlan _ _ _ _ _ _ _); first | refine wpPlan_nil ?_ | (refine wpPlan_read0 rfl ?hw rfl (fun _ _ _ => ?_); case hw => ((conv => (lhs; whnf)); first | done | with_reducible rfl)) | (refine wpPlan_read1d rfl ?hw rfl rfl (fun _ _ _ => ?_); case hw => ((conv => (lhs; whnf)); first | done | with_reducible rfl)) | (refine wpPlan_eff rfl ?hw (fun _ _ => ?_); case hw => ((conv => (lhs; whnf)); first | done | with_reducible rfl)) | (refine wpPlan_skip0 rfl ?hw ?_; case hw => ((conv => (lhs; whnf)); first | done | with_reducible rfl)) | (refine wpPlan_skip1d rfl ?hw ?_; case hw => ((conv => (lhs; whnf)); first | done | with_reducible rfl)) | (refine wpPlan_skip2 rfl ?hw ?_; case hw => ((conv => (lhs; whnf)); first | done | with_reducible rfl)) | (refine wpPlan_read1 rfl ?hw rfl (fun _ _ _ => ?_); case hw => ((conv => (lhs; whnf)); first | done | with_reducible rfl)) | refine wpPlan_fork ?_ ?_) | ((with_reducible show Owed _ _ _ _ _ _ _ _ _); first | refine Owed.none_ ?_ | refine Owed.nil_ ?_ | refine Owed.miss rfl ?_ | refine Owed.hit ?_ ?_) | ((with_reducible show Same _ _ _ _ _); intro _; go_simp; done) | (with_reducible exact True.intro) | ((with_reducible show Code.wp _ (Code.region 6 _ true) _ _ _); refine wp_region_plan [(0, 1, []), (1, 1, []), (2, 0, []), (3, 1, []), (4, 1, []), (5, 1, []), (6, 1, []), (7, 0, []), (8, 1, []), (9, 1, []), (10, 2, []), (11, 1, [])] (by kernel_rfl) (by kernel_rfl) (by kernel_rfl) ?_))
          go_ret
          exact ⟨ret_bool HD.out.symm, HW5.out.1⟩
      · have hkn : k = n := by omega
        subst hkn
        have HD := Lib.hid (show decide (ls = ls') = true from decide_eq_true (take_eq_all HL.out HL'.out HW.out.1))
        go_wp2_with fail
        go_ret
        exact ⟨ret_bool HD.out.symm, HW.out.2.1⟩
  · rw [show decide (ls = ls') = false from decide_eq_false fun e => hne (by rw [← HL.out, ← HL'.out, e])]
    go_wp2_with fail
    go_ret
    exact ⟨rfl, HB0.out⟩

end Go.Proofs.Ytmciinikfjfegaa
