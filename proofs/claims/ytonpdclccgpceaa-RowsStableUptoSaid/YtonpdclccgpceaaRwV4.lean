/- which systems are canonical: both IsCanonicals, and valids -/
import Derived.Test.YtonpdclccgpceaaRwN
import Derived.Test.YtonpdclccgpceaaRwQ7
namespace Go.Proofs.Ytonpdclccgpceaa
open Go Go.RowKit
set_option maxHeartbeats 8000000

/-- what IsCanonical answers -/
def CanRes (ls : List (List Arc)) (q : Bool) : Prop := validB ls = false ∧ q = false ∨ validB ls = true ∧ ∃ i, DoneC ls i ∧ q = decide ((canonK ls i).old = List.range ls.length)
theorem CanRes.unique {ls : List (List Arc)} {q q' : Bool} (h : CanRes ls q) (h' : CanRes ls q') : q = q' := by
  rcases h with ⟨h1, h2⟩ | ⟨h1, i, h2, h3⟩ <;> rcases h' with ⟨k1, k2⟩ | ⟨k1, j, k2, k3⟩
  · rw [h2, k2]
  · rw [h1] at k1; cases k1
  · rw [h1] at k1; cases k1
  · obtain rfl := h2.unique k2
    rw [h3, k3]
theorem valid_parts {ls : List (List Arc)} (h : validB ls = true) : looseB ls = true ∧ ∀ l ∈ ls, ascB l = true := by
  rw [validB, Bool.and_eq_true] at h
  exact ⟨h.1, fun l hl => List.all_eq_true.1 h.2 l hl⟩
theorem range_of {old : List Nat} {n : Nat} (h : ∀ (j x : Nat), j < n → old[j]? = some x → x = j) (hn : old.length = n) : old = List.range n := by
  apply List.ext_getElem?
  intro j
  by_cases hj : j < n
  · have hx := List.getElem?_eq_getElem (show j < old.length by omega)
    rw [hx, h j _ hj hx]
    simp [hj]
  · rw [List.getElem?_eq_none (by omega), List.getElem?_eq_none (by simp; omega)]

set_option maxRecDepth 100000 in
theorem iscanon_any (A : Option Addr) (n c B : Nat) (ls : List (List Arc)) (w : World) (h : RdL w B A n ls) (hB : B ≤ w.heap.size) (hn : n ≤ 1000000000000) (hs : ∀ l ∈ ls, l.length ≤ 1000000000000) :
    Calls Try.prog 39 #[lts A n c] w fun e w' => (∃ q, e = .returned (.bool q) ∧ CanRes ls q) ∧ Below w.heap.size w w' := by
  have HN0 := Lib.hid (Blk.new w 25 #[.slice A n c])
  have HR0 := Lib.hid (h.alloc hB (.cells #[.slice A n c] 25))
  have HB0 := Lib.hid ((Below.refl w.heap.size w).alloc (Nat.le_refl _) (.cells #[.slice A n c] 25))
  have HS := Lib.hid hs
  have HL := Lib.hid h.len
  obtain ⟨v, hv⟩ : ∃ v, validB ls = v := ⟨_, rfl⟩
  have HV := Lib.hid hv
  clear h hs hv
  have n0c := HN0.out.cell
  have n0l := HN0.out.lt
  go_enter Try.func39, Try.ntmps39
  go_wp2_with fail
  refine (validL_any A n c B ls _ HR0.out (by simp; omega) (by omega) HS.out).mono ?_
  rw [HV.out]
  rintro e w1 ⟨rfl, hb1⟩
  have hs1 : w.heap.size + 1 ≤ w1.heap.size := by have := hb1.size; simpa using this
  have HW1 := Lib.hid (And.intro (HR0.out.below (hb1.mono (by simp; omega))) (And.intro (HN0.out.below hb1 HN0.out.lt) (HB0.out.trans (hb1.mono (by simp)))))
  clear hb1 n0c n0l
  have n1c := HW1.out.2.1.cell
  have n1l := HW1.out.2.1.lt
  cases v
  · go_wp2_with fail
    go_ret
    exact ⟨⟨false, ret_bool rfl, .inl ⟨HV.out, rfl⟩⟩, HW1.out.2.2⟩
  · go_wp2_with fail
    refine (canonical_any A n c B ls _ HW1.out.1 (by omega) (by omega)).mono ?_
    rintro e w2 ⟨A1, n1, c1, out, A2, n2, c2, old, err, rfl, hR1, hO1, hb2, hres⟩
    obtain ⟨i, hd, rfl, rfl⟩ : ∃ i, DoneC ls i ∧ out = (canonK ls i).out ∧ old = (canonK ls i).old := by
      rcases hres with ⟨hq, _⟩ | ⟨_, _, h⟩
      · rw [(valid_parts HV.out).1] at hq
        cases hq
      · exact h
    have hs2 := hb2.size
    have HD := Lib.hid hd
    have HW2 := Lib.hid (show Rd (w2.alloc (.cells #[.slice A1 n1 c1] 25)) w2.heap.size 1 A2 n2 (cellsOf ncell (canonK ls i).old) ∧ Blk (w2.alloc (.cells #[.slice A1 n1 c1] 25)) w.heap.size 25 #[.slice A n c] ∧ Below w.heap.size w (w2.alloc (.cells #[.slice A1 n1 c1] 25)) from
      ⟨hO1.alloc (Nat.le_refl _) _, (HW1.out.2.1.below hb2 n1l).alloc _, (HW1.out.2.2.trans (hb2.mono HW1.out.2.2.size)).alloc (by omega) _⟩)
    have HOL := Lib.hid (HW2.out.1.len ncell_len (by decide))
    have HN2 := Lib.hid (show n2 ≤ n by
      obtain ⟨htos, hl1, _, _⟩ := loose_tos (valid_parts HV.out).1
      have h1 := (canon_inv htos hl1 i).le
      have h2 := HOL.out
      have h3 := HL.out
      omega)
    have hn2 := HN2.out
    clear hR1 hO1 hb2 hres hd n1c n1l
    have n2c := HW2.out.2.1.cell
    have n2l := HW2.out.2.1.lt
    go_wp2_with fail
    go_loopw [19] (fun vk wr => ∃ k : Nat, k ≤ n2 ∧ vk = .int .i64 k ∧ Hid ((∀ (j x : Nat), j < k → (canonK ls i).old[j]? = some x → x = j) ∧ Below (w2.heap.size + 1) (w2.alloc (.cells #[.slice A1 n1 c1] 25)) wr)) (fun vk _ => n2 - (intOf vk).toNat)
    case atStart => exact ⟨0, Nat.zero_le _, rfl, Lib.hid ⟨fun j x hj => by omega, Below.refl _ _⟩⟩
    case round =>
      obtain ⟨k, hk, rfl, HW⟩ := hrel
      have HB := Lib.hid (HW2.out.2.2.trans (HW.out.2.mono (by omega)))
      have hN := HW2.out.2.1.below (B := w2.heap.size + 1) HW.out.2 (by omega)
      clear n2c n2l
      have n3c := hN.cell
      have n3l := hN.lt
      clear hN
      by_cases hlt : k < n2
      · obtain ⟨b1, o1, x, rfl, hb1, hx, c0⟩ := (HW2.out.1.below (w' := wr) (HW.out.2.mono (by omega))).nat hlt
        have HX := Lib.hid hx
        clear hx
        by_cases hxk : x = k
        · subst hxk
          have HF := Lib.hid (show ∀ (j y : Nat), j < x + 1 → (canonK ls i).old[j]? = some y → y = j from fun j y hj hy => by
            by_cases e : j = x
            · subst e
              rw [HX.out] at hy
              exact (Option.some.inj hy).symm
            · exact HW.out.1 j y (by omega) hy)
          go_wp2_with fail
          go_roundw
          case rel => exact ⟨x + 1, by omega, by go_num, Lib.hid ⟨HF.out, HW.out.2⟩⟩
          case measure => simp [intOf]; omega
        · have HF := Lib.hid (show decide ((canonK ls i).old = List.range ls.length) = false from decide_eq_false fun e => by
            have h1 := HX.out
            rw [e] at h1
            have h2 := (List.getElem?_eq_some_iff.1 h1).2
            rw [List.getElem_range] at h2
            omega)
          go_wp2_with fail
          go_ret
          exact ⟨⟨false, ret_bool rfl, .inr ⟨HV.out, i, HD.out, HF.out.symm⟩⟩, HB.out⟩
      · have hkn : k = n2 := by omega
        subst hkn
        have HF := Lib.hid (show decide ((canonK ls i).old = List.range ls.length) = decide (k = n) from by
          congr 1
          apply propext
          constructor
          · intro e
            have h1 := congrArg List.length e
            rw [List.length_range, HOL.out, HL.out] at h1
            exact h1
          · intro e
            rw [HL.out, ← e]
            exact range_of HW.out.1 HOL.out)
        obtain ⟨q, hq⟩ : ∃ q, decide (k = n) = q := ⟨_, rfl⟩
        rw [hq] at HF
        by_cases e : k = n
        · have hq2 : q = true := by rw [← hq, decide_eq_true e]
          subst e hq2
          clear hq
          go_wp2_with fail
          go_ret
          exact ⟨⟨true, ret_bool (by simp), .inr ⟨HV.out, i, HD.out, HF.out.symm⟩⟩, HB.out⟩
        · have hq2 : q = false := by rw [← hq, decide_eq_false e]
          subst hq2
          clear hq
          go_wp2_with fail
          go_ret
          exact ⟨⟨false, ret_bool (by simp; omega), .inr ⟨HV.out, i, HD.out, HF.out.symm⟩⟩, HB.out⟩

set_option maxRecDepth 100000 in
theorem riscanon_any (A : Option Addr) (n c B : Nat) (ls : List (List Arc)) (w : World) (h : RdL w B A n ls) (hB : B ≤ w.heap.size) (hn : n ≤ 1000000000000) (hs : ∀ l ∈ ls, l.length ≤ 1000000000000) :
    Calls Try.prog 62 #[lts A n c] w fun e w' => (∃ q, e = .returned (.bool q) ∧ CanRes ls q) ∧ Below w.heap.size w w' := by
  have HN0 := Lib.hid (Blk.new w 25 #[.slice A n c])
  have HR0 := Lib.hid (h.alloc hB (.cells #[.slice A n c] 25))
  have HB0 := Lib.hid ((Below.refl w.heap.size w).alloc (Nat.le_refl _) (.cells #[.slice A n c] 25))
  have HS := Lib.hid hs
  have HL := Lib.hid h.len
  obtain ⟨v, hv⟩ : ∃ v, validB ls = v := ⟨_, rfl⟩
  have HV := Lib.hid hv
  clear h hs hv
  have n0c := HN0.out.cell
  have n0l := HN0.out.lt
  go_enter Try.func62, Try.ntmps62
  go_wp2_with fail
  refine (rvalidL_any A n c B ls _ HR0.out (by simp; omega) (by omega) HS.out).mono ?_
  rw [HV.out]
  rintro e w1 ⟨rfl, hb1⟩
  have hs1 : w.heap.size + 1 ≤ w1.heap.size := by have := hb1.size; simpa using this
  have HW1 := Lib.hid (And.intro (HR0.out.below (hb1.mono (by simp; omega))) (And.intro (HN0.out.below hb1 HN0.out.lt) (HB0.out.trans (hb1.mono (by simp)))))
  clear hb1 n0c n0l
  have n1c := HW1.out.2.1.cell
  have n1l := HW1.out.2.1.lt
  cases v
  · go_wp2_with fail
    go_ret
    exact ⟨⟨false, ret_bool rfl, .inl ⟨HV.out, rfl⟩⟩, HW1.out.2.2⟩
  · go_wp2_with fail
    refine (rcanonical_any A n c B ls _ HW1.out.1 (by omega) (valid_parts HV.out).1).mono ?_
    rintro e w2 ⟨A1, n1, c1, out, A2, n2, c2, old, rfl, hR1, hO1, hb2, i, hd, rfl, rfl⟩
    have hs2 := hb2.size
    have HD := Lib.hid hd
    have HW2 := Lib.hid (show RdL (w2.alloc (.cells #[.slice A1 n1 c1] 25)) w2.heap.size A1 n1 (canonK ls i).out ∧ RdL (w2.alloc (.cells #[.slice A1 n1 c1] 25)) w2.heap.size A n ls ∧ Blk (w2.alloc (.cells #[.slice A1 n1 c1] 25)) w.heap.size 25 #[.slice A n c] ∧ Blk (w2.alloc (.cells #[.slice A1 n1 c1] 25)) w2.heap.size 25 #[.slice A1 n1 c1] ∧ Below w.heap.size w (w2.alloc (.cells #[.slice A1 n1 c1] 25)) from
      ⟨hR1.alloc (Nat.le_refl _) _, ((HW1.out.1.below (hb2.mono (by omega))).more (by omega)).alloc (Nat.le_refl _) _, (HW1.out.2.1.below hb2 n1l).alloc _, Blk.new w2 _ _, (HW1.out.2.2.trans (hb2.mono HW1.out.2.2.size)).alloc (by omega) _⟩)
    obtain ⟨htos, hl1, hl2, hl3⟩ := loose_tos (valid_parts HV.out).1
    have hn1 := HW2.out.1.len
    rw [canon_out] at hn1
    have hi := done_le htos hl1 hd
    have HRS := Lib.hid (show ∀ l ∈ (canonK ls i).out, l.length ≤ 1000000000000 from fun l hl => by have := canon_rows hl3 i l hl; omega)
    have HT := Lib.hid (And.intro htos hl1)
    have hn1' : n1 ≤ 1000000000000 := by omega
    clear hR1 hO1 hb2 hd n1c n1l hs1 htos hl1 hl2 hl3 hn1 hi
    have n2c := HW2.out.2.2.1.cell
    have n2l := HW2.out.2.2.1.lt
    have m2c := HW2.out.2.2.2.1.cell
    have m2l := HW2.out.2.2.2.1.lt
    go_wp2_with fail
    refine (same_any A1 A n1 c1 n c w2.heap.size (canonK ls i).out ls _ HW2.out.1 HW2.out.2.1 (by simp) hn1' HRS.out).mono ?_
    have hiff : decide ((canonK ls i).out = ls) = decide ((canonK ls i).old = List.range ls.length) := by
      congr 1
      apply propext
      exact ⟨fun e => out_id HT.out.1 HT.out.2 (valid_parts HV.out).2 HD.out e, fun e => old_id HT.out.1 HT.out.2 (valid_parts HV.out).2 HD.out e⟩
    rw [hiff]
    clear hiff
    obtain ⟨q, hq⟩ : ∃ q, decide ((canonK ls i).old = List.range ls.length) = q := ⟨_, rfl⟩
    rw [hq]
    have HQ := Lib.hid hq
    clear hq
    rintro e w3 ⟨rfl, hb3⟩
    have HB3 := Lib.hid (HW2.out.2.2.2.2.trans (hb3.mono HW2.out.2.2.2.2.size))
    clear hb3 n2c n2l m2c m2l
    go_wp2_with fail
    go_ret
    exact ⟨⟨q, ret_bool rfl, .inr ⟨HV.out, i, HD.out, HQ.out.symm⟩⟩, HB3.out⟩

set_option maxRecDepth 100000 in
theorem valids_any (A : Option Addr) (n c B : Nat) (ls : List (List Arc)) (w : World) (h : RdL w B A n ls) (hB : B ≤ w.heap.size) (hn : n ≤ 1000000000000) (hs : ∀ l ∈ ls, l.length ≤ 1000000000000) :
    Calls Try.prog 36 #[lts A n c] w fun e w' => e = .returned (.bool true) ∧ Below w.heap.size w w' := by
  have HN0 := Lib.hid (Blk.new w 25 #[.slice A n c])
  have HR0 := Lib.hid (h.alloc hB (.cells #[.slice A n c] 25))
  have HB0 := Lib.hid ((Below.refl w.heap.size w).alloc (Nat.le_refl _) (.cells #[.slice A n c] 25))
  have HS := Lib.hid hs
  obtain ⟨v, hv⟩ : ∃ v, validB ls = v := ⟨_, rfl⟩
  have HV := Lib.hid hv
  clear h hs hv
  have n0c := HN0.out.cell
  have n0l := HN0.out.lt
  go_enter Try.func36, Try.ntmps36
  go_wp2_with (first | ((with_reducible show wpPlan _ _ _ [] _ _ _); refine wpPlan_nil ?_) | ((with_reducible show wpPlan _ _ _ ((_, 0, _) :: _) _ _ _); first | (refine wpPlan_read0 rfl ?hw rfl (fun _ _ _ => ?_); case hw => ((conv => (lhs; whnf)); first | done | with_reducible rfl)) | (refine wpPlan_skip0 rfl ?hw ?_; (case hw => ((conv => (lhs; whnf)); first | done | with_reducible rfl)); (try simp only [List.getElem_toArray, List.getElem_cons_succ, List.getElem_cons_zero, Act.put, List.setIfInBounds_toArray, List.set_cons_zero, List.set_cons_succ]))) | ((with_reducible show wpPlan _ _ _ ((_, 1, _) :: _) _ _ _); first | (refine wpPlan_read1d rfl ?hw rfl rfl (fun _ _ _ => ?_); case hw => ((conv => (lhs; whnf)); first | done | with_reducible rfl)) | (refine wpPlan_skip1d rfl ?hw ?_; (case hw => ((conv => (lhs; whnf)); first | done | with_reducible rfl)); (try simp only [List.getElem_toArray, List.getElem_cons_succ, List.getElem_cons_zero, Act.put, List.setIfInBounds_toArray, List.set_cons_zero, List.set_cons_succ])) | (refine wpPlan_read1 rfl ?hw rfl (fun _ _ _ => ?_); case hw => ((conv => (lhs; whnf)); first | done | with_reducible rfl))) | ((with_reducible show wpPlan _ _ _ ((_, 2, _) :: _) _ _ _); first | (refine wpPlan_eff rfl ?hw (fun _ _ => ?_); case hw => ((conv => (lhs; whnf)); first | done | with_reducible rfl)) | (refine wpPlan_skip2 rfl ?hw ?_; (case hw => ((conv => (lhs; whnf)); first | done | with_reducible rfl)); (try simp only [List.getElem_toArray, List.getElem_cons_succ, List.getElem_cons_zero, Act.put, List.setIfInBounds_toArray, List.set_cons_zero, List.set_cons_succ]))) | ((with_reducible show wpPlan _ _ _ _ _ _ _); refine wpPlan_fork ?_ ?_) | ((with_reducible show Owed _ _ _ [] _ _ _ _ _); refine Owed.none_ ?_) | ((with_reducible show Owed _ _ _ _ [] _ _ _ _); refine Owed.nil_ ?_) | ((with_reducible show Owed _ _ _ _ _ _ _ _ _); first | (refine Owed.miss rfl ?_) | (refine Owed.hit ?_ ?_)) | ((with_reducible show Same _ _ _ _ _); intro _; go_simp; done) | (with_reducible exact True.intro) | ((with_reducible show Code.wp _ (Code.region 1 _ true) _ _ _); refine wp_region_plan [(0, 1, []), (2, 1, []), (1, 2, [2]), (3, 2, []), (4, 1, []), (5, 0, []), (6, 1, []), (8, 1, []), (7, 2, [8]), (9, 2, []), (10, 1, []), (11, 0, []), (12, 0, [])] (by kernel_rfl) (by kernel_rfl) (by kernel_rfl) ?_))
  refine (validL_any A n c B ls _ (HR0.out.drewN 1) (by simp; omega) (by omega) HS.out).mono ?_
  rw [HV.out]
  rintro e w1 ⟨rfl, hb1⟩
  have hs1 : w.heap.size + 1 ≤ w1.heap.size := by have := hb1.size; simpa using this
  have hb1' : Below (w.heap.size + 1) (w.alloc (.cells #[.slice A n c] 25)) w1 := ((Below.refl _ _).drew).trans (hb1.mono (by simp))
  have HW1 := Lib.hid (And.intro (HR0.out.below (hb1'.mono (by omega))) (And.intro (HN0.out.below hb1' (by omega)) (HB0.out.trans (hb1'.mono (by omega)))))
  clear hb1 n0c n0l hb1'
  have n1c := HW1.out.2.1.cell
  have n1l := HW1.out.2.1.lt
  go_wp2_with (first | ((with_reducible show wpPlan _ _ _ [] _ _ _); refine wpPlan_nil ?_) | ((with_reducible show wpPlan _ _ _ ((_, 0, _) :: _) _ _ _); first | (refine wpPlan_read0 rfl ?hw rfl (fun _ _ _ => ?_); case hw => ((conv => (lhs; whnf)); first | done | with_reducible rfl)) | (refine wpPlan_skip0 rfl ?hw ?_; (case hw => ((conv => (lhs; whnf)); first | done | with_reducible rfl)); (try simp only [List.getElem_toArray, List.getElem_cons_succ, List.getElem_cons_zero, Act.put, List.setIfInBounds_toArray, List.set_cons_zero, List.set_cons_succ]))) | ((with_reducible show wpPlan _ _ _ ((_, 1, _) :: _) _ _ _); first | (refine wpPlan_read1d rfl ?hw rfl rfl (fun _ _ _ => ?_); case hw => ((conv => (lhs; whnf)); first | done | with_reducible rfl)) | (refine wpPlan_skip1d rfl ?hw ?_; (case hw => ((conv => (lhs; whnf)); first | done | with_reducible rfl)); (try simp only [List.getElem_toArray, List.getElem_cons_succ, List.getElem_cons_zero, Act.put, List.setIfInBounds_toArray, List.set_cons_zero, List.set_cons_succ])) | (refine wpPlan_read1 rfl ?hw rfl (fun _ _ _ => ?_); case hw => ((conv => (lhs; whnf)); first | done | with_reducible rfl))) | ((with_reducible show wpPlan _ _ _ ((_, 2, _) :: _) _ _ _); first | (refine wpPlan_eff rfl ?hw (fun _ _ => ?_); case hw => ((conv => (lhs; whnf)); first | done | with_reducible rfl)) | (refine wpPlan_skip2 rfl ?hw ?_; (case hw => ((conv => (lhs; whnf)); first | done | with_reducible rfl)); (try simp only [List.getElem_toArray, List.getElem_cons_succ, List.getElem_cons_zero, Act.put, List.setIfInBounds_toArray, List.set_cons_zero, List.set_cons_succ]))) | ((with_reducible show wpPlan _ _ _ _ _ _ _); refine wpPlan_fork ?_ ?_) | ((with_reducible show Owed _ _ _ [] _ _ _ _ _); refine Owed.none_ ?_) | ((with_reducible show Owed _ _ _ _ [] _ _ _ _); refine Owed.nil_ ?_) | ((with_reducible show Owed _ _ _ _ _ _ _ _ _); first | (refine Owed.miss rfl ?_) | (refine Owed.hit ?_ ?_)) | ((with_reducible show Same _ _ _ _ _); intro _; go_simp; done) | (with_reducible exact True.intro) | ((with_reducible show Code.wp _ (Code.region 1 _ true) _ _ _); refine wp_region_plan [(0, 1, []), (2, 1, []), (1, 2, [2]), (3, 2, []), (4, 1, []), (5, 0, []), (6, 1, []), (8, 1, []), (7, 2, [8]), (9, 2, []), (10, 1, []), (11, 0, []), (12, 0, [])] (by kernel_rfl) (by kernel_rfl) (by kernel_rfl) ?_))
  refine (rvalidL_any A n c B ls _ HW1.out.1 (by omega) (by omega) HS.out).mono ?_
  rw [HV.out]
  rintro e w2 ⟨rfl, hb2⟩
  have hs2 := hb2.size
  have HW2 := Lib.hid (And.intro (HW1.out.1.below (hb2.mono (by omega))) (And.intro (HW1.out.2.1.below hb2 n1l) (HW1.out.2.2.trans (hb2.mono HW1.out.2.2.size))))
  clear hb2 n1c n1l
  have n2c := HW2.out.2.1.cell
  have n2l := HW2.out.2.1.lt
  cases v <;> go_wp2_with (first | ((with_reducible show wpPlan _ _ _ [] _ _ _); refine wpPlan_nil ?_) | ((with_reducible show wpPlan _ _ _ ((_, 0, _) :: _) _ _ _); first | (refine wpPlan_read0 rfl ?hw rfl (fun _ _ _ => ?_); case hw => ((conv => (lhs; whnf)); first | done | with_reducible rfl)) | (refine wpPlan_skip0 rfl ?hw ?_; (case hw => ((conv => (lhs; whnf)); first | done | with_reducible rfl)); (try simp only [List.getElem_toArray, List.getElem_cons_succ, List.getElem_cons_zero, Act.put, List.setIfInBounds_toArray, List.set_cons_zero, List.set_cons_succ]))) | ((with_reducible show wpPlan _ _ _ ((_, 1, _) :: _) _ _ _); first | (refine wpPlan_read1d rfl ?hw rfl rfl (fun _ _ _ => ?_); case hw => ((conv => (lhs; whnf)); first | done | with_reducible rfl)) | (refine wpPlan_skip1d rfl ?hw ?_; (case hw => ((conv => (lhs; whnf)); first | done | with_reducible rfl)); (try simp only [List.getElem_toArray, List.getElem_cons_succ, List.getElem_cons_zero, Act.put, List.setIfInBounds_toArray, List.set_cons_zero, List.set_cons_succ])) | (refine wpPlan_read1 rfl ?hw rfl (fun _ _ _ => ?_); case hw => ((conv => (lhs; whnf)); first | done | with_reducible rfl))) | ((with_reducible show wpPlan _ _ _ ((_, 2, _) :: _) _ _ _); first | (refine wpPlan_eff rfl ?hw (fun _ _ => ?_); case hw => ((conv => (lhs; whnf)); first | done | with_reducible rfl)) | (refine wpPlan_skip2 rfl ?hw ?_; (case hw => ((conv => (lhs; whnf)); first | done | with_reducible rfl)); (try simp only [List.getElem_toArray, List.getElem_cons_succ, List.getElem_cons_zero, Act.put, List.setIfInBounds_toArray, List.set_cons_zero, List.set_cons_succ]))) | ((with_reducible show wpPlan _ _ _ _ _ _ _); refine wpPlan_fork ?_ ?_) | ((with_reducible show Owed _ _ _ [] _ _ _ _ _); refine Owed.none_ ?_) | ((with_reducible show Owed _ _ _ _ [] _ _ _ _); refine Owed.nil_ ?_) | ((with_reducible show Owed _ _ _ _ _ _ _ _ _); first | (refine Owed.miss rfl ?_) | (refine Owed.hit ?_ ?_)) | ((with_reducible show Same _ _ _ _ _); intro _; go_simp; done) | (with_reducible exact True.intro) | ((with_reducible show Code.wp _ (Code.region 1 _ true) _ _ _); refine wp_region_plan [(0, 1, []), (2, 1, []), (1, 2, [2]), (3, 2, []), (4, 1, []), (5, 0, []), (6, 1, []), (8, 1, []), (7, 2, [8]), (9, 2, []), (10, 1, []), (11, 0, []), (12, 0, [])] (by kernel_rfl) (by kernel_rfl) (by kernel_rfl) ?_))
  all_goals
    refine (iscanon_any A n c B ls _ HW2.out.1 (by omega) hn HS.out).mono ?_
    rintro e w3 ⟨⟨q, rfl, hq⟩, hb3⟩
    have hs3 := hb3.size
    have HQ := Lib.hid hq
    have HW3 := Lib.hid (And.intro (HW2.out.1.below (hb3.mono (by omega))) (And.intro (HW2.out.2.1.below hb3 n2l) (HW2.out.2.2.trans (hb3.mono HW2.out.2.2.size))))
    clear hb3 hq
    have n3c := HW3.out.2.1.cell
    have n3l := HW3.out.2.1.lt
    go_wp2_with (first | ((with_reducible show wpPlan _ _ _ [] _ _ _); refine wpPlan_nil ?_) | ((with_reducible show wpPlan _ _ _ ((_, 0, _) :: _) _ _ _); first | (refine wpPlan_read0 rfl ?hw rfl (fun _ _ _ => ?_); case hw => ((conv => (lhs; whnf)); first | done | with_reducible rfl)) | (refine wpPlan_skip0 rfl ?hw ?_; (case hw => ((conv => (lhs; whnf)); first | done | with_reducible rfl)); (try simp only [List.getElem_toArray, List.getElem_cons_succ, List.getElem_cons_zero, Act.put, List.setIfInBounds_toArray, List.set_cons_zero, List.set_cons_succ]))) | ((with_reducible show wpPlan _ _ _ ((_, 1, _) :: _) _ _ _); first | (refine wpPlan_read1d rfl ?hw rfl rfl (fun _ _ _ => ?_); case hw => ((conv => (lhs; whnf)); first | done | with_reducible rfl)) | (refine wpPlan_skip1d rfl ?hw ?_; (case hw => ((conv => (lhs; whnf)); first | done | with_reducible rfl)); (try simp only [List.getElem_toArray, List.getElem_cons_succ, List.getElem_cons_zero, Act.put, List.setIfInBounds_toArray, List.set_cons_zero, List.set_cons_succ])) | (refine wpPlan_read1 rfl ?hw rfl (fun _ _ _ => ?_); case hw => ((conv => (lhs; whnf)); first | done | with_reducible rfl))) | ((with_reducible show wpPlan _ _ _ ((_, 2, _) :: _) _ _ _); first | (refine wpPlan_eff rfl ?hw (fun _ _ => ?_); case hw => ((conv => (lhs; whnf)); first | done | with_reducible rfl)) | (refine wpPlan_skip2 rfl ?hw ?_; (case hw => ((conv => (lhs; whnf)); first | done | with_reducible rfl)); (try simp only [List.getElem_toArray, List.getElem_cons_succ, List.getElem_cons_zero, Act.put, List.setIfInBounds_toArray, List.set_cons_zero, List.set_cons_succ]))) | ((with_reducible show wpPlan _ _ _ _ _ _ _); refine wpPlan_fork ?_ ?_) | ((with_reducible show Owed _ _ _ [] _ _ _ _ _); refine Owed.none_ ?_) | ((with_reducible show Owed _ _ _ _ [] _ _ _ _); refine Owed.nil_ ?_) | ((with_reducible show Owed _ _ _ _ _ _ _ _ _); first | (refine Owed.miss rfl ?_) | (refine Owed.hit ?_ ?_)) | ((with_reducible show Same _ _ _ _ _); intro _; go_simp; done) | (with_reducible exact True.intro) | ((with_reducible show Code.wp _ (Code.region 1 _ true) _ _ _); refine wp_region_plan [(0, 1, []), (2, 1, []), (1, 2, [2]), (3, 2, []), (4, 1, []), (5, 0, []), (6, 1, []), (8, 1, []), (7, 2, [8]), (9, 2, []), (10, 1, []), (11, 0, []), (12, 0, [])] (by kernel_rfl) (by kernel_rfl) (by kernel_rfl) ?_))
    clear n2c n2l
    refine (riscanon_any A n c B ls _ HW3.out.1 (by omega) hn HS.out).mono ?_
    rintro e w4 ⟨⟨q', rfl, hq'⟩, hb4⟩
    obtain rfl : q = q' := HQ.out.unique hq'
    have HB4 := Lib.hid (HW3.out.2.2.trans (hb4.mono HW3.out.2.2.size))
    clear hb4 n3c n3l hq'
    cases q <;> go_wp2_with (first | ((with_reducible show wpPlan _ _ _ [] _ _ _); refine wpPlan_nil ?_) | ((with_reducible show wpPlan _ _ _ ((_, 0, _) :: _) _ _ _); first | (refine wpPlan_read0 rfl ?hw rfl (fun _ _ _ => ?_); case hw => ((conv => (lhs; whnf)); first | done | with_reducible rfl)) | (refine wpPlan_skip0 rfl ?hw ?_; (case hw => ((conv => (lhs; whnf)); first | done | with_reducible rfl)); (try simp only [List.getElem_toArray, List.getElem_cons_succ, List.getElem_cons_zero, Act.put, List.setIfInBounds_toArray, List.set_cons_zero, List.set_cons_succ]))) | ((with_reducible show wpPlan _ _ _ ((_, 1, _) :: _) _ _ _); first | (refine wpPlan_read1d rfl ?hw rfl rfl (fun _ _ _ => ?_); case hw => ((conv => (lhs; whnf)); first | done | with_reducible rfl)) | (refine wpPlan_skip1d rfl ?hw ?_; (case hw => ((conv => (lhs; whnf)); first | done | with_reducible rfl)); (try simp only [List.getElem_toArray, List.getElem_cons_succ, List.getElem_cons_zero, Act.put, List.setIfInBounds_toArray, List.set_cons_zero, List.set_cons_succ])) | (refine wpPlan_read1 rfl ?hw rfl (fun _ _ _ => ?_); case hw => ((conv => (lhs; whnf)); first | done | with_reducible rfl))) | ((with_reducible show wpPlan _ _ _ ((_, 2, _) :: _) _ _ _); first | (refine wpPlan_eff rfl ?hw (fun _ _ => ?_); case hw => ((conv => (lhs; whnf)); first | done | with_reducible rfl)) | (refine wpPlan_skip2 rfl ?hw ?_; (case hw => ((conv => (lhs; whnf)); first | done | with_reducible rfl)); (try simp only [List.getElem_toArray, List.getElem_cons_succ, List.getElem_cons_zero, Act.put, List.setIfInBounds_toArray, List.set_cons_zero, List.set_cons_succ]))) | ((with_reducible show wpPlan _ _ _ _ _ _ _); refine wpPlan_fork ?_ ?_) | ((with_reducible show Owed _ _ _ [] _ _ _ _ _); refine Owed.none_ ?_) | ((with_reducible show Owed _ _ _ _ [] _ _ _ _); refine Owed.nil_ ?_) | ((with_reducible show Owed _ _ _ _ _ _ _ _ _); first | (refine Owed.miss rfl ?_) | (refine Owed.hit ?_ ?_)) | ((with_reducible show Same _ _ _ _ _); intro _; go_simp; done) | (with_reducible exact True.intro) | ((with_reducible show Code.wp _ (Code.region 1 _ true) _ _ _); refine wp_region_plan [(0, 1, []), (2, 1, []), (1, 2, [2]), (3, 2, []), (4, 1, []), (5, 0, []), (6, 1, []), (8, 1, []), (7, 2, [8]), (9, 2, []), (10, 1, []), (11, 0, []), (12, 0, [])] (by kernel_rfl) (by kernel_rfl) (by kernel_rfl) ?_))
    all_goals
      go_ret
      exact ⟨ret_bool (by simp), HB4.out⟩

end Go.Proofs.Ytonpdclccgpceaa
