/- Classes, Rounds, Compress of the program -/
import Derived.Test.YtmciinikfjfegaaSgW6
import Derived.Test.YtmciinikfjfegaaSgN4
namespace Go.Proofs.Ytmciinikfjfegaa
open Go Go.RowKit
set_option maxHeartbeats 8000000

theorem nbd_append : ∀ (l l' : List Int) (m : Int), nbd (l ++ l') m = (nbd l m).bind fun k => nbd l' k
  | [], l', m => rfl
  | c :: l, l', m => by
    rw [List.cons_append, nbd, nbd]
    split
    · rfl
    · exact nbd_append l l' _
theorem nbd_num (K : Nat → Key) : ∀ n, nbd (intC (numK K n).1) 0 = some ((numK K n).2 : Nat)
  | 0 => rfl
  | n + 1 => by
    have ih := nbd_num K n
    have hs := numK_spec K n
    cases hc : (List.range n).find? (fun t => decide (K t = K n)) with
    | none =>
      have he : numK K (n + 1) = ((numK K n).1 ++ [(numK K n).2], (numK K n).2 + 1) := numS_none hc
      rw [he, intC, List.map_append]
      show nbd (intC (numK K n).1 ++ [(((numK K n).2 : Nat) : Int)]) 0 = _
      rw [nbd_append, ih]
      show nbd [(((numK K n).2 : Nat) : Int)] ((numK K n).2 : Nat) = _
      rw [nbd, if_neg (by omega), if_pos rfl]
      rfl
    | some u =>
      obtain ⟨hu, _⟩ := find_key hc
      have he : numK K (n + 1) = ((numK K n).1 ++ [(numK K n).1.getD u 0], (numK K n).2) := numS_some hc
      have h1 := hs.2.1 u hu
      rw [he, intC, List.map_append]
      show nbd (intC (numK K n).1 ++ [(((numK K n).1.getD u 0 : Nat) : Int)]) 0 = _
      rw [nbd_append, ih]
      show nbd [(((numK K n).1.getD u 0 : Nat) : Int)] ((numK K n).2 : Nat) = _
      rw [nbd, if_neg (by omega), if_neg (by omega)]
      rfl
theorem intC_nat (l : List Nat) : (intC l).map Int.toNat = l := by
  rw [intC, List.map_map]
  conv => rhs; rw [← List.map_id l]
  exact List.map_congr_left fun x _ => Int.toNat_natCast x
theorem cl_numB {ls : List (List Arc)} (K : Nat) : numB (intC (clK ls K)) ls.length = true := by
  rw [numB, clK_num, nbd_num]
  rw [Bool.and_eq_true]
  refine ⟨rfl, decide_eq_true ?_⟩
  rw [intC, List.length_map, numK_len]
theorem cl_max {ls : List (List Arc)} (h0 : 0 < ls.length) (K : Nat) : maxN (clK ls K) + 1 = ctK ls K := by
  have h1 : nbd (intC (clK ls K)) 0 = some (ctK ls K : Nat) := by rw [clK_num]; exact nbd_num _ _
  have h2 := nbd_max h1 (fun e => by
    have := congrArg List.length e
    rw [intC, List.length_map, clK_len] at this
    have h3 : ls.length = 0 := this
    omega)
  rw [intC_nat] at h2
  omega
theorem ok_of_valid {ls : List (List Arc)} {n : Nat} (hv : validB ls = true) (hn : ls.length = n) (hs : ∀ l ∈ ls, l.length ≤ 100000) : OkL ls n := by
  obtain ⟨h1, h2, h3, _⟩ := loose_tos (valid_parts hv).1
  exact ⟨hn, by omega, h1, loose_ev (valid_parts hv).1, hs⟩

set_option maxRecDepth 100000 in
theorem Classes_any (A : Option Addr) (n c : Nat) (ls : List (List Arc)) (B : Nat) (w : World) (h : RdL w B A n ls) (hB : B ≤ w.heap.size) (hn : n ≤ 1000000000000) (hs : ∀ l ∈ ls, l.length ≤ 100000) :
    Calls Try.prog 11 #[lts A n c] w fun e w' => (∃ (A' : Option Addr) (n' c' : Nat) (cl : List Nat), e = .returned (.slice A' n' c') ∧ Rd w' w'.heap.size 1 A' n' (cellsOf ncell cl) ∧ (validB ls = false ∧ cl = [] ∨ validB ls = true ∧ ∃ K, DoneR ls K ∧ cl = clK ls K)) ∧ Below w.heap.size w w' := by
  have HS := Lib.hid hs
  have HL := Lib.hid h.len
  have HR0 := Lib.hid (h.alloc hB (.cells #[.slice A n c] 27))
  have HN0 := Lib.hid (Blk.new w 27 #[.slice A n c])
  have HB0 := Lib.hid ((Below.refl w.heap.size w).alloc (Nat.le_refl _) (.cells #[.slice A n c] 27))
  obtain ⟨v, hv⟩ : ∃ v, validB ls = v := ⟨_, rfl⟩
  have HV := Lib.hid hv
  clear h hs hv
  go_enter Try.func11, Try.ntmps11
  go_wp2_with fail
  refine (validL_any A n c B ls _ HR0.out (by simp; omega) (by omega) (fun l hl => by have := HS.out l hl; omega)).mono ?_
  rw [HV.out]
  rintro e w1 ⟨rfl, hb1⟩
  have hs1 : w.heap.size + 1 ≤ w1.heap.size := by have := hb1.size; simpa using this
  have HW1 := Lib.hid (And.intro (HR0.out.below (hb1.mono (by simp; omega))) (And.intro (HN0.out.below hb1 HN0.out.lt) (HB0.out.trans (hb1.mono (by simp)))))
  clear hb1
  have n1c := HW1.out.2.1.cell
  have n1l := HW1.out.2.1.lt
  cases v
  · go_wp2_with fail
    go_ret
    exact ⟨⟨none, 0, 0, [], rfl, Rd.nil, .inl ⟨HV.out, rfl⟩⟩, HW1.out.2.2⟩
  · go_wp2_with fail
    refine (classes_any A n c ls B w1 HW1.out.1 (by omega) (ok_of_valid HV.out HL.out HS.out)).mono ?_
    rintro e w2 ⟨⟨v2, K, rfl, hd, ho2, _⟩, hb2⟩
    obtain ⟨A2, c2, rfl, _, _⟩ := own_form ho2
    have HZ := Lib.hid (And.intro (Rd.ofOwn ho2) (And.intro hd (HW1.out.2.2.trans (hb2.mono (by omega)))))
    clear ho2 hb2 hd n1c n1l
    go_wp2_with fail
    go_ret
    exact ⟨⟨A2, n, c2, _, rfl, HZ.out.1, .inr ⟨HV.out, K, HZ.out.2.1, rfl⟩⟩, HZ.out.2.2⟩

set_option maxRecDepth 100000 in
theorem Rounds_any (A : Option Addr) (n c : Nat) (ls : List (List Arc)) (B : Nat) (w : World) (h : RdL w B A n ls) (hB : B ≤ w.heap.size) (hn : n ≤ 1000000000000) (hs : ∀ l ∈ ls, l.length ≤ 100000) :
    Calls Try.prog 43 #[lts A n c] w fun e w' => (∃ (A' : Option Addr) (n' c' : Nat) (rs : List (List Nat)), e = .returned (.slice A' n' c') ∧ RdZ w' w'.heap.size A' n' rs ∧ (validB ls = false ∧ rs = [] ∨ validB ls = true ∧ ∃ K, DoneR ls K ∧ rs = rndL ls K)) ∧ Below w.heap.size w w' := by
  have HS := Lib.hid hs
  have HL := Lib.hid h.len
  have HR0 := Lib.hid (h.alloc hB (.cells #[.slice A n c] 27))
  have HN0 := Lib.hid (Blk.new w 27 #[.slice A n c])
  have HB0 := Lib.hid ((Below.refl w.heap.size w).alloc (Nat.le_refl _) (.cells #[.slice A n c] 27))
  obtain ⟨v, hv⟩ : ∃ v, validB ls = v := ⟨_, rfl⟩
  have HV := Lib.hid hv
  clear h hs hv
  go_enter Try.func43, Try.ntmps43
  go_wp2_with fail
  refine (validL_any A n c B ls _ HR0.out (by simp; omega) (by omega) (fun l hl => by have := HS.out l hl; omega)).mono ?_
  rw [HV.out]
  rintro e w1 ⟨rfl, hb1⟩
  have hs1 : w.heap.size + 1 ≤ w1.heap.size := by have := hb1.size; simpa using this
  have HW1 := Lib.hid (And.intro (HR0.out.below (hb1.mono (by simp; omega))) (And.intro (HN0.out.below hb1 HN0.out.lt) (HB0.out.trans (hb1.mono (by simp)))))
  clear hb1
  have n1c := HW1.out.2.1.cell
  have n1l := HW1.out.2.1.lt
  cases v
  · go_wp2_with fail
    go_ret
    exact ⟨⟨none, 0, 0, [], rfl, RdZ.nil, .inl ⟨HV.out, rfl⟩⟩, HW1.out.2.2⟩
  · go_wp2_with fail
    refine (rounds_any A n c ls B w1 HW1.out.1 (by omega) (ok_of_valid HV.out HL.out HS.out)).mono ?_
    rintro e w2 ⟨⟨v2, K, xs, rfl, hd, ho2⟩, hb2⟩
    obtain ⟨A2, c2, rfl, _, _⟩ := own_form ho2.own
    have HZ := Lib.hid (And.intro ho2.whole (And.intro hd (HW1.out.2.2.trans (hb2.mono (by omega)))))
    clear ho2 hb2 hd n1c n1l
    go_wp2_with fail
    go_ret
    exact ⟨⟨A2, K + 1, c2, _, rfl, HZ.out.1, .inr ⟨HV.out, K, HZ.out.2.1, rfl⟩⟩, HZ.out.2.2⟩

/-- what Compress gives -/
def ComPost (w : World) (ls : List (List Arc)) (e : Ending) (w' : World) : Prop :=
  ∃ (A1 : Option Addr) (n1 c1 : Nat) (out : List (List Arc)) (err : Nat), e = .returned (.tuple #[lts A1 n1 c1, .int .i64 err]) ∧ (∃ W xs, w.heap.size ≤ W ∧ RowsX w' W (.slice A1 n1 c1) n1 xs out) ∧ Below w.heap.size w w' ∧
    (validB ls = false ∧ err = 1 ∧ out = [] ∨ validB ls = true ∧ err = 0 ∧ ∃ K i, DoneR ls K ∧ DoneC (quoE ls K) i ∧ out = (canonK (quoE ls K) i).out)

set_option maxRecDepth 100000 in
theorem compress_any (A : Option Addr) (n c : Nat) (ls : List (List Arc)) (B : Nat) (w : World) (h : RdL w B A n ls) (hB : B ≤ w.heap.size) (hn : n ≤ 100000) (hs : ∀ l ∈ ls, l.length ≤ 100000) :
    Calls Try.prog 28 #[lts A n c] w (ComPost w ls) := by
  have HS := Lib.hid hs
  have HL := Lib.hid h.len
  have HR0 := Lib.hid ((h.alloc hB (.cells #[.slice A n c] 27)).alloc (by simp; omega) (.cells #[.slice none 0 0] 27))
  have HN0 := Lib.hid ((Blk.new w 27 #[.slice A n c]).alloc (.cells #[.slice none 0 0] 27))
  have HT0 := Lib.hid (show Blk ((w.alloc (.cells #[.slice A n c] 27)).alloc (.cells #[.slice none 0 0] 27)) (w.heap.size + 1) 27 #[.slice none 0 0] from heap_alloc_at (by simp))
  have HB0 := Lib.hid (((Below.refl w.heap.size w).alloc (Nat.le_refl _) (.cells #[.slice A n c] 27)).alloc (by simp) (.cells #[.slice none 0 0] 27))
  have hsz0 : w.heap.size + 2 ≤ ((w.alloc (.cells #[.slice A n c] 27)).alloc (.cells #[.slice none 0 0] 27)).heap.size := by simp
  clear h hs
  have n0c := HN0.out.cell
  have n0l := HN0.out.lt
  go_enter Try.func28, Try.ntmps28
  go_wp2_with (first | ((with_reducible show wpPlan _ _ _ _ _ (Act.put _ _ _) _); simp only [List.getElem_toArray, List.getElem_cons_succ, List.getElem_cons_zero, Act.put, List.setIfInBounds_toArray, List.set_cons_zero, List.set_cons_succ]) | ((with_reducible show wpPlan _ _ _ _ _ _ _); first | refine wpPlan_nil ?_ | (refine wpPlan_read0 rfl ?hw rfl (fun _ _ _ => ?_); case hw => ((conv => (lhs; whnf)); first | done | with_reducible rfl)) | (refine wpPlan_read1d rfl ?hw rfl rfl (fun _ _ _ => ?_); case hw => ((conv => (lhs; whnf)); first | done | with_reducible rfl)) | (refine wpPlan_eff rfl ?hw (fun _ _ => ?_); case hw => ((conv => (lhs; whnf)); first | done | with_reducible rfl)) | (refine wpPlan_skip0 rfl ?hw ?_; case hw => ((conv => (lhs; whnf)); first | done | with_reducible rfl)) | (refine wpPlan_skip1d rfl ?hw ?_; case hw => ((conv => (lhs; whnf)); first | done | with_reducible rfl)) | (refine wpPlan_skip2 rfl ?hw ?_; case hw => ((conv => (lhs; whnf)); first | done | with_reducible rfl)) | (refine wpPlan_read1 rfl ?hw rfl (fun _ _ _ => ?_); case hw => ((conv => (lhs; whnf)); first | done | with_reducible rfl)) | refine wpPlan_fork ?_ ?_) | ((with_reducible show Owed _ _ _ _ _ _ _ _ _); first | refine Owed.none_ ?_ | refine Owed.nil_ ?_ | refine Owed.miss rfl ?_ | refine Owed.hit ?_ ?_) | ((with_reducible show Same _ _ _ _ _); intro _; go_simp; done) | (with_reducible exact True.intro) | ((with_reducible show Code.wp _ (Code.region 1 _ true) _ _ _); refine wp_region_plan [(0, 1, []), (1, 1, []), (2, 2, [0]), (3, 2, []), (4, 1, []), (5, 1, []), (6, 2, []), (7, 0, [])] (by kernel_rfl) (by kernel_rfl) (by kernel_rfl) ?_))
  refine (Classes_any A n c ls B _ (HR0.out.drewN 1) (by simp; omega) (by omega) HS.out).mono ?_
  rintro e w1 ⟨⟨A1, n1, c1, cl, rfl, hR1, hres⟩, hb1⟩
  have hb1' : Below (w.heap.size + 2) ((w.alloc (.cells #[.slice A n c] 27)).alloc (.cells #[.slice none 0 0] 27)) w1 := ((Below.refl _ _).drew).trans (hb1.mono (by simp))
  have hs1 : w.heap.size + 2 ≤ w1.heap.size := by have := hb1'.size; simpa using this
  have HW1 := Lib.hid (And.intro (HR0.out.below (hb1'.mono (by omega))) (And.intro (HN0.out.below hb1' (by omega)) (And.intro (HT0.out.below hb1' (by omega)) (HB0.out.trans (hb1'.mono (by omega))))))
  have HC := Lib.hid hres
  have HQ1 := Lib.hid (show Rd w1 w1.heap.size 1 A1 n1 (cellsOf icell (intC cl)) from by
    have h1 : cellsOf icell (intC cl) = cellsOf ncell cl := by rw [nat_cells]; rfl
    rw [h1]
    exact hR1)
  have hn1 : n1 ≤ 1000000000000 := by
    have h1 := hR1.len ncell_len (by decide)
    rcases hres with ⟨_, rfl⟩ | ⟨_, K, _, rfl⟩
    · simp at h1
      omega
    · rw [clK_len, HL.out] at h1
      omega
  clear hR1 hb1 hb1' hres
  have n1c := HW1.out.2.1.cell
  have n1l := HW1.out.2.1.lt
  go_wp2_with (first | ((with_reducible show wpPlan _ _ _ _ _ (Act.put _ _ _) _); simp only [List.getElem_toArray, List.getElem_cons_succ, List.getElem_cons_zero, Act.put, List.setIfInBounds_toArray, List.set_cons_zero, List.set_cons_succ]) | ((with_reducible show wpPlan _ _ _ _ _ _ _); first | refine wpPlan_nil ?_ | (refine wpPlan_read0 rfl ?hw rfl (fun _ _ _ => ?_); case hw => ((conv => (lhs; whnf)); first | done | with_reducible rfl)) | (refine wpPlan_read1d rfl ?hw rfl rfl (fun _ _ _ => ?_); case hw => ((conv => (lhs; whnf)); first | done | with_reducible rfl)) | (refine wpPlan_eff rfl ?hw (fun _ _ => ?_); case hw => ((conv => (lhs; whnf)); first | done | with_reducible rfl)) | (refine wpPlan_skip0 rfl ?hw ?_; case hw => ((conv => (lhs; whnf)); first | done | with_reducible rfl)) | (refine wpPlan_skip1d rfl ?hw ?_; case hw => ((conv => (lhs; whnf)); first | done | with_reducible rfl)) | (refine wpPlan_skip2 rfl ?hw ?_; case hw => ((conv => (lhs; whnf)); first | done | with_reducible rfl)) | (refine wpPlan_read1 rfl ?hw rfl (fun _ _ _ => ?_); case hw => ((conv => (lhs; whnf)); first | done | with_reducible rfl)) | refine wpPlan_fork ?_ ?_) | ((with_reducible show Owed _ _ _ _ _ _ _ _ _); first | refine Owed.none_ ?_ | refine Owed.nil_ ?_ | refine Owed.miss rfl ?_ | refine Owed.hit ?_ ?_) | ((with_reducible show Same _ _ _ _ _); intro _; go_simp; done) | (with_reducible exact True.intro) | ((with_reducible show Code.wp _ (Code.region 1 _ true) _ _ _); refine wp_region_plan [(0, 1, []), (1, 1, []), (2, 2, [0]), (3, 2, []), (4, 1, []), (5, 1, []), (6, 2, []), (7, 0, [])] (by kernel_rfl) (by kernel_rfl) (by kernel_rfl) ?_))
  refine (quotient_any A n c ls A1 n1 c1 (intC cl) w1.heap.size w1 (HW1.out.1.more (by omega)) HQ1.out (Nat.le_refl _) hn hn1 HS.out).mono ?_
  rintro e w2 ⟨A2, n2, c2, out, err, rfl, ⟨W2, xs2, hW2, hX2⟩, hb2, hres2⟩
  have hs2 := hb2.size
  have hr2 := HW1.out.2.2.1.below hb2 HW1.out.2.2.1.lt
  have hput := (hr2.put 0 (.slice A2 n2 c2)).cell 0
  have r2c := hr2.cell
  have r2l := hr2.lt
  have r2f := hr2.frozen
  have hOs : Outside (fun x => x = w.heap.size + 1) w2 (w2.setCell ⟨w.heap.size + 1, 0, none⟩ (.slice A2 n2 c2)) := (Outside.refl (fun x => x = w.heap.size + 1) _).setCell (p := ⟨w.heap.size + 1, 0, none⟩) (.inl rfl) _
  have HZ := Lib.hid (And.intro (hX2.out hOs (fun x h1 _ e => by omega)) ((HW1.out.2.2.2.trans (hb2.mono (by omega))).setCell (p := ⟨w.heap.size + 1, 0, none⟩) (by simp) (.slice A2 n2 c2)))
  have HF := Lib.hid (show validB ls = false ∧ err = 1 ∧ out = [] ∨ validB ls = true ∧ err = 0 ∧ ∃ K i, DoneR ls K ∧ DoneC (quoE ls K) i ∧ out = (canonK (quoE ls K) i).out from by
    rcases HC.out with ⟨hv, _⟩ | ⟨hv, K, hK, rfl⟩
    · rcases hres2 with ⟨_, h1, h2⟩ | ⟨h1, _⟩
      · exact .inl ⟨hv, h1, h2⟩
      · rw [hv] at h1
        cases h1
    · rcases hres2 with ⟨h1, _⟩ | ⟨_, h2, i, h3, h4⟩
      · rw [hv, cl_numB] at h1
        cases h1
      · rw [intC_nat, cl_max (loose_tos (valid_parts hv).1).2.1] at h3 h4
        exact .inr ⟨hv, h2, K, i, hK, h3, h4⟩)
  clear hr2 hOs hX2 hb2 hres2
  go_wp2_with (first | ((with_reducible show wpPlan _ _ _ _ _ (Act.put _ _ _) _); simp only [List.getElem_toArray, List.getElem_cons_succ, List.getElem_cons_zero, Act.put, List.setIfInBounds_toArray, List.set_cons_zero, List.set_cons_succ]) | ((with_reducible show wpPlan _ _ _ _ _ _ _); first | refine wpPlan_nil ?_ | (refine wpPlan_read0 rfl ?hw rfl (fun _ _ _ => ?_); case hw => ((conv => (lhs; whnf)); first | done | with_reducible rfl)) | (refine wpPlan_read1d rfl ?hw rfl rfl (fun _ _ _ => ?_); case hw => ((conv => (lhs; whnf)); first | done | with_reducible rfl)) | (refine wpPlan_eff rfl ?hw (fun _ _ => ?_); case hw => ((conv => (lhs; whnf)); first | done | with_reducible rfl)) | (refine wpPlan_skip0 rfl ?hw ?_; case hw => ((conv => (lhs; whnf)); first | done | with_reducible rfl)) | (refine wpPlan_skip1d rfl ?hw ?_; case hw => ((conv => (lhs; whnf)); first | done | with_reducible rfl)) | (refine wpPlan_skip2 rfl ?hw ?_; case hw => ((conv => (lhs; whnf)); first | done | with_reducible rfl)) | (refine wpPlan_read1 rfl ?hw rfl (fun _ _ _ => ?_); case hw => ((conv => (lhs; whnf)); first | done | with_reducible rfl)) | refine wpPlan_fork ?_ ?_) | ((with_reducible show Owed _ _ _ _ _ _ _ _ _); first | refine Owed.none_ ?_ | refine Owed.nil_ ?_ | refine Owed.miss rfl ?_ | refine Owed.hit ?_ ?_) | ((with_reducible show Same _ _ _ _ _); intro _; go_simp; done) | (with_reducible exact True.intro) | ((with_reducible show Code.wp _ (Code.region 1 _ true) _ _ _); refine wp_region_plan [(0, 1, []), (1, 1, []), (2, 2, [0]), (3, 2, []), (4, 1, []), (5, 1, []), (6, 2, []), (7, 0, [])] (by kernel_rfl) (by kernel_rfl) (by kernel_rfl) ?_))
  refine bodyPost_ret (v := .tuple #[lts A2 n2 c2, .int .i64 err]) (by simp [results, Try.results28, go_sem, hput]) rfl ?_
  exact ⟨A2, n2, c2, out, err, rfl, ⟨W2, xs2, by omega, HZ.out.1⟩, HZ.out.2, HF.out⟩

end Go.Proofs.Ytmciinikfjfegaa
