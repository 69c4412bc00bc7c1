/- the last round in which two states are in one class: the binary search; the first arc without its like -/
import Derived.Test.YtmciinikfjfegaaSgW7
namespace Go.Proofs.Ytmciinikfjfegaa
open Go Go.RowKit
set_option maxHeartbeats 8000000

section
variable {ls : List (List Arc)}
theorem agr_iff_get {k s t K : Nat} {r : List Nat} (hk : k ≤ K) (hr : (rndL ls K)[k]? = some r) : agr ls k s t ↔ r.getD s 0 = r.getD t 0 := by
  rw [rndL_get hk] at hr
  rw [← Option.some.inj hr]
  exact Iff.rfl
end

set_option maxRecDepth 100000 in
theorem last1_any (f b1 b2 b3 k s t : Nat) (AR : Option Addr) (m cR : Nat) (rs : List (List Nat)) (r : List Nat) (B : Nat) (w : World) (h1 : w.cell? ⟨b1, 0, none⟩ = some (.pointer (some ⟨f, 0, none⟩))) (h2 : w.cell? ⟨b2, 0, none⟩ = some (.int .i64 s)) (h3 : w.cell? ⟨b3, 0, none⟩ = some (.int .i64 t))
    (hf : w.cell? ⟨f, 1, none⟩ = some (.slice AR m cR)) (h : RdZ w B AR m rs) (hB : B ≤ w.heap.size) (hk : k < m) (hr : rs[k]? = some r) (hs : s < r.length) (ht : t < r.length) :
    Calls Try.prog 70 #[.int .i64 k, .pointer (some ⟨b1, 0, none⟩), .pointer (some ⟨b2, 0, none⟩), .pointer (some ⟨b3, 0, none⟩)] w fun e w' => e = .returned (.bool (decide (r.getD s 0 ≠ r.getD t 0))) ∧ Below w.heap.size w w' := by
  have l1 := World.block_lt_of_cell? w _ h1
  have l2 := World.block_lt_of_cell? w _ h2
  have l3 := World.block_lt_of_cell? w _ h3
  have lf := World.block_lt_of_cell? w _ hf
  dsimp only at l1 l2 l3 lf
  obtain ⟨b4, o4, r', A', n', c', rfl, hb4, hr', hln, e0, hrow⟩ := h.row hk
  rw [hr] at hr'
  obtain rfl := Option.some.inj hr'
  obtain ⟨b5, o5, x, rfl, hb5, hx, c0⟩ := hrow.nat (i := s) (by omega)
  obtain ⟨b6, o6, y, hab, hb6, hy, d0⟩ := hrow.nat (i := t) (by omega)
  obtain ⟨rfl, rfl⟩ : b5 = b6 ∧ o5 = o6 := by simpa using hab
  have hb4l : b4 < w.heap.size := by omega
  have hb5l : b5 < w.heap.size := by omega
  have HD := Lib.hid (show decide (r.getD s 0 ≠ r.getD t 0) = decide (x ≠ y) by
    rw [List.getD_eq_getElem?_getD, List.getD_eq_getElem?_getD, hx, hy]
    rfl)
  rw [HD.out]
  clear h hr hr' hrow hab hx hy
  go_enter Try.func70, Try.ntmps70
  go_wp2_with (first | ((with_reducible show wpPlan _ _ _ _ _ (Act.put _ _ _) _); simp only [List.getElem_toArray, List.getElem_cons_succ, List.getElem_cons_zero, Act.put, List.setIfInBounds_toArray, List.set_cons_zero, List.set_cons_succ]) | ((with_reducible show wpPlan _ _ _ _ _ _ _); first | refine wpPlan_nil ?_ | (refine wpPlan_read0 rfl ?hw rfl (fun _ _ _ => ?_); case hw => ((conv => (lhs; whnf)); first | done | with_reducible rfl)) | (refine wpPlan_read1d rfl ?hw rfl rfl (fun _ _ _ => ?_); case hw => ((conv => (lhs; whnf)); first | done | with_reducible rfl)) | (refine wpPlan_eff rfl ?hw (fun _ _ => ?_); case hw => ((conv => (lhs; whnf)); first | done | with_reducible rfl)) | (refine wpPlan_skip0 rfl ?hw ?_; case hw => ((conv => (lhs; whnf)); first | done | with_reducible rfl)) | (refine wpPlan_skip1d rfl ?hw ?_; case hw => ((conv => (lhs; whnf)); first | done | with_reducible rfl)) | (refine wpPlan_skip2 rfl ?hw ?_; case hw => ((conv => (lhs; whnf)); first | done | with_reducible rfl)) | (refine wpPlan_read1 rfl ?hw rfl (fun _ _ _ => ?_); case hw => ((conv => (lhs; whnf)); first | done | with_reducible rfl)) | refine wpPlan_fork ?_ ?_) | ((with_reducible show Owed _ _ _ _ _ _ _ _ _); first | refine Owed.none_ ?_ | refine Owed.nil_ ?_ | refine Owed.miss rfl ?_ | refine Owed.hit ?_ ?_) | ((with_reducible show Same _ _ _ _ _); intro _; go_simp; done) | (with_reducible exact True.intro) | ((with_reducible show Code.wp _ (Code.region 1 _ true) _ _ _); refine wp_region_plan [(0, 1, []), (1, 1, []), (2, 1, []), (3, 1, []), (4, 0, []), (5, 1, []), (6, 1, []), (7, 1, []), (8, 1, []), (9, 1, []), (10, 1, []), (11, 1, []), (12, 1, []), (13, 1, []), (14, 0, []), (15, 1, []), (16, 1, []), (17, 1, []), (18, 1, []), (19, 1, []), (20, 1, []), (21, 0, [])] (by kernel_rfl) (by kernel_rfl) (by kernel_rfl) ?_))
  go_ret
  refine ⟨ret_bool ?_, (Below.refl _ _).drew⟩
  rw [Bool.eq_iff_iff]
  simp
  omega

/-- a finder's block -/
abbrev finC (vL vR vO : Value) : Array Value := #[vL, vR, vO]

set_option maxRecDepth 100000 in
theorem search_any (f b1 b2 b3 s t n K : Nat) (ls : List (List Arc)) (AR : Option Addr) (cR : Nat) (B : Nat) (w : World) (h1 : w.cell? ⟨b1, 0, none⟩ = some (.pointer (some ⟨f, 0, none⟩))) (h2 : w.cell? ⟨b2, 0, none⟩ = some (.int .i64 s)) (h3 : w.cell? ⟨b3, 0, none⟩ = some (.int .i64 t))
    (hf : w.cell? ⟨f, 1, none⟩ = some (.slice AR (K + 1) cR)) (h : RdZ w B AR (K + 1) (rndL ls K)) (hB : B ≤ w.heap.size) (hn : ls.length = n) (hs : s < n) (ht : t < n) (hK : K ≤ 100000) :
    Calls Try.prog 69 #[.int .i64 (K + 1), .func (.func 70) #[] #[.pointer (some ⟨b1, 0, none⟩), .pointer (some ⟨b2, 0, none⟩), .pointer (some ⟨b3, 0, none⟩)]] w fun e w' =>
      (∃ r : Nat, e = .returned (.int .i64 r) ∧ r ≤ K + 1 ∧ (∀ k, k < r → agr ls k s t) ∧ (r ≤ K → ¬ agr ls r s t)) ∧ Below w.heap.size w w' := by
  have H := Lib.hid (And.intro h1 (And.intro h2 (And.intro h3 (And.intro hf h))))
  have HN := Lib.hid hn
  have l1 := World.block_lt_of_cell? w _ h1
  have l2 := World.block_lt_of_cell? w _ h2
  have l3 := World.block_lt_of_cell? w _ h3
  have lf := World.block_lt_of_cell? w _ hf
  dsimp only at l1 l2 l3 lf
  clear h1 h2 h3 hf h hn
  go_enter Try.func69, Try.ntmps69
  go_wp2_with fail
  go_loopw [5, 6] (fun vi vj wr => ∃ i j : Nat, i ≤ j ∧ j ≤ K + 1 ∧ vi = .int .i64 i ∧ vj = .int .i64 j ∧ Hid ((∀ k, k < i → agr ls k s t) ∧ (j ≤ K → ¬ agr ls j s t) ∧ Below w.heap.size w wr)) (fun vi vj _ => (intOf vj).toNat - (intOf vi).toNat)
  case atStart => exact ⟨0, K + 1, Nat.zero_le _, Nat.le_refl _, rfl, by go_num, Lib.hid ⟨fun k hk => by omega, fun hj => by omega, Below.refl _ _⟩⟩
  case round =>
    obtain ⟨i, j, hij, hj, rfl, rfl, HW⟩ := hrel
    have hsz := HW.out.2.2.size
    by_cases hlt : i < j
    · obtain ⟨q, hq⟩ : ∃ q, (i + j) / 2 = q := ⟨_, rfl⟩
      have hq1 : i ≤ q := by omega
      have hq2 : q < j := by omega
      have hq3 : ((i : Int) + j) / 2 = q := by omega
      have HQ := Lib.hid hq
      clear hq
      go_wp2_with fail
      have hqK : q ≤ K := by omega
      have HA := Lib.hid (agr_iff_get (ls := ls) (s := s) (t := t) hqK (rndL_get hqK))
      refine (last1_any f b1 b2 b3 q s t AR (K + 1) cR (rndL ls K) (clK ls q) B wr ((HW.out.2.2.cell (by exact l1)).trans H.out.1) ((HW.out.2.2.cell (by exact l2)).trans H.out.2.1) ((HW.out.2.2.cell (by exact l3)).trans H.out.2.2.1) ((HW.out.2.2.cell (by exact lf)).trans H.out.2.2.2.1)
        (H.out.2.2.2.2.below (HW.out.2.2.mono hB)) (by omega) (by omega) (rndL_get hqK) (by rw [clK_len, HN.out]; exact hs) (by rw [clK_len, HN.out]; exact ht)).mono ?_
      obtain ⟨v, hv⟩ : ∃ v, decide ((clK ls q).getD s 0 ≠ (clK ls q).getD t 0) = v := ⟨_, rfl⟩
      rw [hv]
      rintro e w3 ⟨rfl, hb3⟩
      have HV := Lib.hid hv
      have HB3 := Lib.hid (HW.out.2.2.trans (hb3.mono hsz))
      clear hb3 hv hq3
      cases v
      · have HG := Lib.hid (show ∀ k, k < q + 1 → agr ls k s t from fun k hk => by
          have h1 : agr ls q s t := HA.out.2 (Decidable.not_not.1 (of_decide_eq_false HV.out))
          exact agr_le (by rw [HN.out]; exact hs) (by rw [HN.out]; exact ht) (by omega) h1)
        go_wp2_with fail
        go_roundw
        case rel => exact ⟨q + 1, j, by omega, hj, by go_num, rfl, Lib.hid ⟨HG.out, HW.out.2.1, HB3.out⟩⟩
        case measure => simp [intOf]; omega
      · have HG := Lib.hid (show ¬ agr ls q s t from fun e => of_decide_eq_true HV.out (HA.out.1 e))
        go_wp2_with fail
        go_roundw
        case rel => exact ⟨i, q, hq1, by omega, rfl, rfl, Lib.hid ⟨HW.out.1, fun _ => HG.out, HB3.out⟩⟩
        case measure => simp [intOf]; omega
    · have hji : i = j := by omega
      subst hji
      go_wp2_with fail
      go_ret
      exact ⟨⟨i, rfl, hj, HW.out.1, HW.out.2.1⟩, HW.out.2.2⟩

/-- the finder's block: the system, the partitions of all rounds, and what was built so far -/
structure FinAt (w : World) (f : Nat) (AL : Option Addr) (n cL : Nat) (ls : List (List Arc)) (AR : Option Addr) (K cR : Nat) (vO : Value) : Prop where
  blk : Blk w f 77 #[.slice AL n cL, .slice AR (K + 1) cR, vO]
  sys : RdL w f AL n ls
  rnd : RdZ w f AR (K + 1) (rndL ls K)
theorem FinAt.below {w w' : World} {f n cL K cR : Nat} {AL AR : Option Addr} {ls : List (List Arc)} {vO : Value} (h : FinAt w f AL n cL ls AR K cR vO) (hb : Below w.heap.size w w') : FinAt w' f AL n cL ls AR K cR vO :=
  ⟨h.blk.below hb h.blk.lt, h.sys.below (hb.mono (Nat.le_of_lt h.blk.lt)), h.rnd.below (hb.mono (Nat.le_of_lt h.blk.lt))⟩

set_option maxRecDepth 100000 in
theorem last_any (f s t n K : Nat) (ls : List (List Arc)) (AL AR : Option Addr) (cL cR : Nat) (vO : Value) (w : World) (h : FinAt w f AL n cL ls AR K cR vO) (hn : ls.length = n) (hs : s < n) (ht : t < n) (hK : K ≤ 100000) :
    Calls Try.prog 53 #[.pointer (some ⟨f, 0, none⟩), .int .i64 s, .int .i64 t] w fun e w' =>
      (∃ k : Nat, e = .returned (.int .i64 k) ∧ k ≤ K ∧ agr ls k s t ∧ (k < K → ¬ agr ls (k + 1) s t)) ∧ Below w.heap.size w w' := by
  have H := Lib.hid h
  have HN := Lib.hid hn
  have hfl := h.blk.lt
  have hfc := (((h.blk.alloc (.cells #[.pointer (some ⟨f, 0, none⟩)] 75)).alloc (.cells #[.int .i64 s] 3)).alloc (.cells #[.int .i64 t] 3)).cell 1
  have HRZ := Lib.hid (((h.rnd.alloc (Nat.le_of_lt hfl) (.cells #[.pointer (some ⟨f, 0, none⟩)] 75)).alloc (by simp; omega) (.cells #[.int .i64 s] 3)).alloc (by simp; omega) (.cells #[.int .i64 t] 3))
  have HC1 := Lib.hid (show (((w.alloc (.cells #[.pointer (some ⟨f, 0, none⟩)] 75)).alloc (.cells #[.int .i64 s] 3)).alloc (.cells #[.int .i64 t] 3)).cell? ⟨w.heap.size, 0, none⟩ = some (.pointer (some ⟨f, 0, none⟩)) from (((Blk.new w 75 #[.pointer (some ⟨f, 0, none⟩)]).alloc (.cells #[.int .i64 s] 3)).alloc (.cells #[.int .i64 t] 3)).cell 0)
  have HC2 := Lib.hid (show (((w.alloc (.cells #[.pointer (some ⟨f, 0, none⟩)] 75)).alloc (.cells #[.int .i64 s] 3)).alloc (.cells #[.int .i64 t] 3)).cell? ⟨w.heap.size + 1, 0, none⟩ = some (.int .i64 s) from ((show Blk ((w.alloc (.cells #[.pointer (some ⟨f, 0, none⟩)] 75)).alloc (.cells #[.int .i64 s] 3)) (w.heap.size + 1) 3 #[.int .i64 s] from heap_alloc_at (by simp)).alloc (.cells #[.int .i64 t] 3)).cell 0)
  have HC3 := Lib.hid (show (((w.alloc (.cells #[.pointer (some ⟨f, 0, none⟩)] 75)).alloc (.cells #[.int .i64 s] 3)).alloc (.cells #[.int .i64 t] 3)).cell? ⟨w.heap.size + 1 + 1, 0, none⟩ = some (.int .i64 t) from (show Blk (((w.alloc (.cells #[.pointer (some ⟨f, 0, none⟩)] 75)).alloc (.cells #[.int .i64 s] 3)).alloc (.cells #[.int .i64 t] 3)) (w.heap.size + 1 + 1) 3 #[.int .i64 t] from heap_alloc_at (by simp)).cell 0)
  have HFC := Lib.hid hfc
  have HB := Lib.hid ((((Below.refl w.heap.size w).alloc (Nat.le_refl _) (.cells #[.pointer (some ⟨f, 0, none⟩)] 75)).alloc (by simp) (.cells #[.int .i64 s] 3)).alloc (by simp; omega) (.cells #[.int .i64 t] 3))
  clear h hn
  go_enter Try.func53, Try.ntmps53
  go_wp2_with fail
  refine (search_any f w.heap.size (w.heap.size + 1) (w.heap.size + 1 + 1) s t n K ls AR cR f _ HC1.out HC2.out HC3.out HFC.out HRZ.out (by simp; omega) HN.out hs ht hK).mono ?_
  rintro e w2 ⟨⟨r, rfl, hr, h1, h2⟩, hb2⟩
  have h0 : 0 < r := by
    apply Nat.pos_of_ne_zero
    rintro rfl
    exact h2 (Nat.zero_le _) (agr_zero (by rw [HN.out]; exact hs) (by rw [HN.out]; exact ht))
  obtain ⟨k, rfl⟩ : ∃ k, r = k + 1 := ⟨r - 1, by omega⟩
  have HZ := Lib.hid (And.intro (h1 k (by omega)) (And.intro (fun h : k < K => h2 (by omega)) (HB.out.trans (hb2.mono (by simp; omega)))))
  clear h1 h2 hb2 hfc
  go_wp2_with fail
  go_ret
  exact ⟨⟨k, ret_int (by omega), by omega, HZ.out.1, HZ.out.2.1⟩, HZ.out.2.2⟩

end Go.Proofs.Ytmciinikfjfegaa
