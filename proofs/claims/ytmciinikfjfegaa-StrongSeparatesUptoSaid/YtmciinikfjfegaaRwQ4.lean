/- a list that repeats one number: slices.Repeat -/
import Derived.Test.YtmciinikfjfegaaRwQ0
import Derived.Test.YtmciinikfjfegaaRwA
import Derived.Test.YtmciinikfjfegaaRwG2
import Derived.Laws.CopyOwn
namespace Go.Proofs.Ytmciinikfjfegaa
open Go Go.RowKit
set_option maxHeartbeats 8000000

/-- copy into a block that is known whole, at the operation -/
theorem copy_wp {P : Program} {w : World} {o : Oper} {a : Act} {K : Act → World → Prop} {Q : Exit → Act → World → Prop} (d s : Operand) (dT sT : TypeId)
    (ho : o.op = .call { callee := .builtin .copy, args := #[d, s], argTypes := #[dT, sT] }) (elem : TypeId) (hu : P.underlying dT = some (.slice elem)) (hsz : (P.info? elem).map (·.size) = some 1)
    {g off dLen dCap : Nat} {ad : Addr} {sLen sCap : Nat} (hd : a.eval d = .slice (some ⟨g, off, none⟩) dLen dCap) (hs : a.eval s = .slice (some ad) sLen sCap)
    {cur : List Value} {t : TypeId} (hg : Blk w g t cur.toArray) {cs : List Value} {m : Nat} (hm : cs.length = m) (hn : m = Nat.min sLen dLen)
    (hsrc : ∀ j v, cs[j]? = some v → w.cell? (ad.add j) = some v) (hfit : off + m ≤ cur.length) (h1 : ∀ v ∈ cs, v.oneCell' = true)
    (h : ∀ w', Blk w' g t (cur.take off ++ (cs ++ cur.drop (off + cs.length))).toArray → Outside (fun k => k = g) w w' → K (a.put o.dst (.int .i64 m)) w') : o.wp P a w K Q := by
  subst hm
  have hrun := run_copy_row (P := P) w dT sT o.type elem g off dLen dCap ad sLen sCap cur.toArray t cs hu hsz hg hn hsrc (by simpa using hfit) h1
  unfold Oper.wp
  simp [execOp, ho, resolve, invoke, builtin, hd, hs, hrun, Result.andThen]
  refine h _ ?_ ?_
  · have := setRow_heap w g _ (cur.take off ++ (cs ++ cur.drop (off + cs.length))).toArray t (0, 0) hg
    simpa [Blk] using this
  · exact ⟨rfl, rfl, rfl, by simp [World.setRow], fun k hk hR => setRow_other w g k _ (fun e => hR (by rw [e]))⟩
theorem intSize1 : ((Try.prog).info? 3).map (·.size) = some 1 := by kernel_rfl
theorem made_zero (n : Nat) : madeCells #[Value.int .i64 0] n = (List.replicate n (Value.int .i64 0)).toArray := by
  apply Array.ext_getElem?
  intro i
  by_cases hi : i < n
  · simp [madeCells, hi, Nat.mod_one]
  · rw [Array.getElem?_eq_none (by simp [madeCells]; omega), Array.getElem?_eq_none (by simp; omega)]
/-- the first k places hold z -/
def FillAt (z : Int) (n k : Nat) (L : List Value) : Prop := L.length = n ∧ ∀ j, j < k → L[j]? = some (.int .i64 z)
theorem fill_step {z : Int} {n k : Nat} {L : List Value} (h : FillAt z n k L) (c : Nat) (hc : c ≤ k) (hk : k + c ≤ n) : FillAt z n (k + c) (L.take k ++ (L.take c ++ L.drop (k + (L.take c).length))) := by
  have hl := h.1
  have e1 : (L.take c).length = c := by rw [List.length_take]; omega
  have e2 : (L.take k).length = k := by rw [List.length_take]; omega
  refine ⟨by simp only [List.length_append, List.length_drop, e1, e2]; omega, fun j hj => ?_⟩
  by_cases h1 : j < k
  · rw [List.getElem?_append_left (by omega), List.getElem?_take, if_pos h1]
    exact h.2 j h1
  · rw [List.getElem?_append_right (by omega), e2, List.getElem?_append_left (by omega), List.getElem?_take, if_pos (by omega)]
    exact h.2 _ (by omega)
theorem fill_all {z : Int} {n : Nat} {L : List Value} (h : FillAt z n n L) : L = cellsOf icell (List.replicate n z) := by
  apply List.ext_getElem?
  intro j
  have e : (cellsOf icell (List.replicate n z))[j]? = ((List.replicate n z)[j]?).map fun x => Value.int .i64 x := by
    have := cellsOf_get icell_len (List.replicate n z) j 0 (by decide)
    simp only [Nat.mul_one, Nat.add_zero] at this
    rw [this]
    cases (List.replicate n z)[j]? <;> rfl
  rw [e]
  by_cases hj : j < n
  · rw [h.2 j hj, List.getElem?_replicate, if_pos hj]
    rfl
  · rw [List.getElem?_eq_none (by rw [h.1]; omega), List.getElem?_replicate, if_neg hj]
    rfl

set_option maxRecDepth 100000 in
theorem repeat_any (b c : Nat) (z : Int) (n : Nat) (w : World) (h : Blk w b 3 #[.int .i64 z]) (h1 : 1 ≤ n) (hn : n ≤ 100000) :
    Calls Try.prog 79 #[.slice (some ⟨b, 0, none⟩) 1 c, .int .i64 n] w fun e w' => (∃ g, e = .returned (.slice (some ⟨g, 0, none⟩) n n) ∧ Blk w' g 3 (cellsOf icell (List.replicate n z)).toArray ∧ w.heap.size ≤ g) ∧ Below w.heap.size w w' := by
  have H := Lib.hid h
  have hbl := h.lt
  obtain ⟨i0, hi, hz0, hz1, hz2⟩ := info_parts infoInt
  clear h
  have hmul := fun W => Go.Proofs.Any.bits_Mul mulL 1 n (by decide) (by omega) W
  have e1 : ((1 * n / 18446744073709551616 : Nat) : Int) = 0 := by
    have : 1 * n / 18446744073709551616 = 0 := by omega
    rw [this]; rfl
  have e2 : ((1 * n % 18446744073709551616 : Nat) : Int) = n := by
    have : 1 * n % 18446744073709551616 = n := by omega
    rw [this]
  rw [e1, e2] at hmul
  have HMUL := Lib.hid hmul
  clear hmul e1 e2
  go_enter Try.func79, Try.ntmps79
  go_wp2_with (first | ((with_reducible show wpPlan _ _ _ _ _ (Act.put _ _ _) _); simp only [List.getElem_toArray, List.getElem_cons_succ, List.getElem_cons_zero, Act.put, List.setIfInBounds_toArray, List.set_cons_zero, List.set_cons_succ]) | ((with_reducible show wpPlan _ _ _ _ _ _ _); first | refine wpPlan_nil ?_ | (refine wpPlan_read0 rfl ?hw rfl (fun _ _ _ => ?_); case hw => ((conv => (lhs; whnf)); first | done | with_reducible rfl)) | (refine wpPlan_read1d rfl ?hw rfl rfl (fun _ _ _ => ?_); case hw => ((conv => (lhs; whnf)); first | done | with_reducible rfl)) | (refine wpPlan_eff rfl ?hw (fun _ _ => ?_); case hw => ((conv => (lhs; whnf)); first | done | with_reducible rfl)) | (refine wpPlan_skip0 rfl ?hw ?_; case hw => ((conv => (lhs; whnf)); first | done | with_reducible rfl)) | (refine wpPlan_skip1d rfl ?hw ?_; case hw => ((conv => (lhs; whnf)); first | done | with_reducible rfl)) | (refine wpPlan_skip2 rfl ?hw ?_; case hw => ((conv => (lhs; whnf)); first | done | with_reducible rfl)) | (refine wpPlan_read1 rfl ?hw rfl (fun _ _ _ => ?_); case hw => ((conv => (lhs; whnf)); first | done | with_reducible rfl)) | refine wpPlan_fork ?_ ?_) | ((with_reducible show Owed _ _ _ _ _ _ _ _ _); first | refine Owed.none_ ?_ | refine Owed.nil_ ?_ | refine Owed.miss rfl ?_ | refine Owed.hit ?_ ?_) | ((with_reducible show Same _ _ _ _ _); intro _; go_simp; done) | (with_reducible exact True.intro) | ((with_reducible show Code.wp _ (Code.region 9 _ true) _ _ _); refine wp_region_plan [(0, 0, []), (1, 0, []), (2, 0, []), (3, 1, []), (4, 0, []), (5, 0, []), (6, 1, []), (7, 2, []), (8, 1, []), (9, 0, [])] (by kernel_rfl) (by kernel_rfl) (by kernel_rfl) ?_))
  refine (HMUL.out _).mono ?_
  rintro e w1 ⟨rfl, hw1⟩
  rw [hw1]
  clear hw1
  go_wp2_with (first | (at_make; refine wpList_makeX _ rfl _ _ 29 rfl 3 i0 (.int .i64 0) Try.underlying29 hi hz0 hz1 _ _ n rfl rfl (by rw [hz2]; omega) (by omega) ?_; refine Stop7.intro ?_) | ((with_reducible show wpPlan _ _ _ _ _ (Act.put _ _ _) _); simp only [List.getElem_toArray, List.getElem_cons_succ, List.getElem_cons_zero, Act.put, List.setIfInBounds_toArray, List.set_cons_zero, List.set_cons_succ]) | ((with_reducible show wpPlan _ _ _ _ _ _ _); first | refine wpPlan_nil ?_ | (refine wpPlan_read0 rfl ?hw rfl (fun _ _ _ => ?_); case hw => ((conv => (lhs; whnf)); first | done | with_reducible rfl)) | (refine wpPlan_read1d rfl ?hw rfl rfl (fun _ _ _ => ?_); case hw => ((conv => (lhs; whnf)); first | done | with_reducible rfl)) | (refine wpPlan_eff rfl ?hw (fun _ _ => ?_); case hw => ((conv => (lhs; whnf)); first | done | with_reducible rfl)) | (refine wpPlan_skip0 rfl ?hw ?_; case hw => ((conv => (lhs; whnf)); first | done | with_reducible rfl)) | (refine wpPlan_skip1d rfl ?hw ?_; case hw => ((conv => (lhs; whnf)); first | done | with_reducible rfl)) | (refine wpPlan_skip2 rfl ?hw ?_; case hw => ((conv => (lhs; whnf)); first | done | with_reducible rfl)) | (refine wpPlan_read1 rfl ?hw rfl (fun _ _ _ => ?_); case hw => ((conv => (lhs; whnf)); first | done | with_reducible rfl)) | refine wpPlan_fork ?_ ?_) | ((with_reducible show Owed _ _ _ _ _ _ _ _ _); first | refine Owed.none_ ?_ | refine Owed.nil_ ?_ | refine Owed.miss rfl ?_ | refine Owed.hit ?_ ?_) | ((with_reducible show Same _ _ _ _ _); intro _; go_simp; done) | (with_reducible exact True.intro) | ((with_reducible show Code.wp _ (Code.region 9 _ true) _ _ _); refine wp_region_plan [(0, 0, []), (1, 0, []), (2, 0, []), (3, 1, []), (4, 0, []), (5, 0, []), (6, 1, []), (7, 2, []), (8, 1, []), (9, 0, [])] (by kernel_rfl) (by kernel_rfl) (by kernel_rfl) ?_))
  unfold Stop7
  have HG := Lib.hid (show Blk (w.alloc (.cells (madeCells #[Value.int .i64 0] n) 3)) w.heap.size 3 (List.replicate n (Value.int .i64 0)).toArray by
    rw [made_zero]
    exact Blk.new w _ _)
  have HB0 := Lib.hid ((Below.refl w.heap.size w).alloc (Nat.le_refl _) (.cells (madeCells #[Value.int .i64 0] n) 3))
  have HSRC := Lib.hid (show ∀ (j : Nat) v, ([Value.int .i64 z] : List Value)[j]? = some v → (w.alloc (.cells (madeCells #[Value.int .i64 0] n) 3)).cell? ((⟨b, 0, none⟩ : Addr).add j) = some v from fun j v hj => by
    have h0 : j = 0 := by
      have := (List.getElem?_eq_some_iff.1 hj).1
      simp at this
      exact this
    subst h0
    have := (H.out.alloc (.cells (madeCells #[Value.int .i64 0] n) 3)).cell 0
    rw [← hj]
    exact this)
  go_wp2_with (first | ((with_reducible show wpList _ _ _ ({ dst := _, op := Op.call { callee := Callee.builtin Builtin.copy, args := _, argTypes := _ }, type := _, pos := _, after := _, guard := _ } :: _) _ _); (refine wpList_plain rfl fun K hK => ?_; refine copy_wp (.tmp 31) (.tmp 32) _ _ rfl 3 Try.underlying29 intSize1 rfl rfl HG.out (cs := [.int .i64 z]) (m := 1) rfl (Nat.min_eq_left h1).symm HSRC.out (by simp; omega) (by simp [Value.oneCell']) ?_; intro w4 hb4 hO4; refine hK _ _ ?_; clear hK; refine Stop7.intro ?_)) | ((with_reducible show wpPlan _ _ _ _ _ (Act.put _ _ _) _); simp only [List.getElem_toArray, List.getElem_cons_succ, List.getElem_cons_zero, Act.put, List.setIfInBounds_toArray, List.set_cons_zero, List.set_cons_succ]) | ((with_reducible show wpPlan _ _ _ _ _ _ _); first | refine wpPlan_nil ?_ | (refine wpPlan_read0 rfl ?hw rfl (fun _ _ _ => ?_); case hw => ((conv => (lhs; whnf)); first | done | with_reducible rfl)) | (refine wpPlan_read1d rfl ?hw rfl rfl (fun _ _ _ => ?_); case hw => ((conv => (lhs; whnf)); first | done | with_reducible rfl)) | (refine wpPlan_eff rfl ?hw (fun _ _ => ?_); case hw => ((conv => (lhs; whnf)); first | done | with_reducible rfl)) | (refine wpPlan_skip0 rfl ?hw ?_; case hw => ((conv => (lhs; whnf)); first | done | with_reducible rfl)) | (refine wpPlan_skip1d rfl ?hw ?_; case hw => ((conv => (lhs; whnf)); first | done | with_reducible rfl)) | (refine wpPlan_skip2 rfl ?hw ?_; case hw => ((conv => (lhs; whnf)); first | done | with_reducible rfl)) | (refine wpPlan_read1 rfl ?hw rfl (fun _ _ _ => ?_); case hw => ((conv => (lhs; whnf)); first | done | with_reducible rfl)) | refine wpPlan_fork ?_ ?_) | ((with_reducible show Owed _ _ _ _ _ _ _ _ _); first | refine Owed.none_ ?_ | refine Owed.nil_ ?_ | refine Owed.miss rfl ?_ | refine Owed.hit ?_ ?_) | ((with_reducible show Same _ _ _ _ _); intro _; go_simp; done) | (with_reducible exact True.intro) | ((with_reducible show Code.wp _ (Code.region 9 _ true) _ _ _); refine wp_region_plan [(0, 0, []), (1, 0, []), (2, 0, []), (3, 1, []), (4, 0, []), (5, 0, []), (6, 1, []), (7, 2, []), (8, 1, []), (9, 0, [])] (by kernel_rfl) (by kernel_rfl) (by kernel_rfl) ?_))
  unfold Stop7
  have HX := Lib.hid (show Blk w4 w.heap.size 3 (List.take 0 (List.replicate n (Value.int .i64 0)) ++ ([Value.int .i64 z] ++ List.drop 1 (List.replicate n (Value.int .i64 0)))).toArray ∧ FillAt z n 1 (List.take 0 (List.replicate n (Value.int .i64 0)) ++ ([Value.int .i64 z] ++ List.drop 1 (List.replicate n (Value.int .i64 0)))) ∧ Below w.heap.size w w4 from
    ⟨hb4, ⟨by simp; omega, fun j hj => by
      have h0 : j = 0 := by omega
      subst h0
      rfl⟩, HB0.out.trans (hO4.below (by simp) (fun k hk e => by omega))⟩)
  clear hb4 hO4
  go_wp2_with (first | ((with_reducible show wpPlan _ _ _ _ _ (Act.put _ _ _) _); simp only [List.getElem_toArray, List.getElem_cons_succ, List.getElem_cons_zero, Act.put, List.setIfInBounds_toArray, List.set_cons_zero, List.set_cons_succ]) | ((with_reducible show wpPlan _ _ _ _ _ _ _); first | refine wpPlan_nil ?_ | (refine wpPlan_read0 rfl ?hw rfl (fun _ _ _ => ?_); case hw => ((conv => (lhs; whnf)); first | done | with_reducible rfl)) | (refine wpPlan_read1d rfl ?hw rfl rfl (fun _ _ _ => ?_); case hw => ((conv => (lhs; whnf)); first | done | with_reducible rfl)) | (refine wpPlan_eff rfl ?hw (fun _ _ => ?_); case hw => ((conv => (lhs; whnf)); first | done | with_reducible rfl)) | (refine wpPlan_skip0 rfl ?hw ?_; case hw => ((conv => (lhs; whnf)); first | done | with_reducible rfl)) | (refine wpPlan_skip1d rfl ?hw ?_; case hw => ((conv => (lhs; whnf)); first | done | with_reducible rfl)) | (refine wpPlan_skip2 rfl ?hw ?_; case hw => ((conv => (lhs; whnf)); first | done | with_reducible rfl)) | (refine wpPlan_read1 rfl ?hw rfl (fun _ _ _ => ?_); case hw => ((conv => (lhs; whnf)); first | done | with_reducible rfl)) | refine wpPlan_fork ?_ ?_) | ((with_reducible show Owed _ _ _ _ _ _ _ _ _); first | refine Owed.none_ ?_ | refine Owed.nil_ ?_ | refine Owed.miss rfl ?_ | refine Owed.hit ?_ ?_) | ((with_reducible show Same _ _ _ _ _); intro _; go_simp; done) | (with_reducible exact True.intro) | ((with_reducible show Code.wp _ (Code.region 9 _ true) _ _ _); refine wp_region_plan [(0, 0, []), (1, 0, []), (2, 0, []), (3, 1, []), (4, 0, []), (5, 0, []), (6, 1, []), (7, 2, []), (8, 1, []), (9, 0, [])] (by kernel_rfl) (by kernel_rfl) (by kernel_rfl) ?_))
  go_loopw [8] (fun vk wr => ∃ (k : Nat) (L : List Value), 1 ≤ k ∧ k ≤ n ∧ vk = .int .i64 k ∧ Hid (Blk wr w.heap.size 3 L.toArray ∧ FillAt z n k L ∧ Below w.heap.size w wr)) (fun vk _ => n - (intOf vk).toNat)
  case atStart => exact ⟨1, _, Nat.le_refl _, h1, rfl, HX⟩
  case round =>
    obtain ⟨k, L, hk1, hk, rfl, HW⟩ := hrel
    by_cases hlt : k < n
    · have hne : ¬ n = k := by omega
      obtain ⟨cc, hcc⟩ : ∃ cc, Nat.min k (n - k) = cc := ⟨_, rfl⟩
      have hc1 : cc ≤ k := by rw [← hcc]; exact Nat.min_le_left _ _
      have hc2 : cc ≤ n - k := by rw [← hcc]; exact Nat.min_le_right _ _
      have hc0 : 0 < cc := by
        rw [← hcc]
        exact Nat.lt_min.2 ⟨hk1, by omega⟩
      have HLC := Lib.hid (show (L.take cc).length = cc by rw [List.length_take, HW.out.2.1.1]; omega)
      have HSR := Lib.hid (show ∀ (j : Nat) v, (L.take cc)[j]? = some v → wr.drew.cell? ((⟨w.heap.size, 0, none⟩ : Addr).add j) = some v from fun j v hj => by
        rw [List.getElem?_take] at hj
        split at hj
        · have := HW.out.1.drew.cell j
          simp only [List.getElem?_toArray] at this
          rw [hj] at this
          rw [← this]
          by_cases h0 : j = 0 <;> simp [Addr.add, h0]
        · cases hj)
      have HONE := Lib.hid (show ∀ v ∈ L.take cc, v.oneCell' = true from fun v hv => by
        obtain ⟨j, hj, rfl⟩ := List.getElem_of_mem hv
        have h2 := HW.out.2.1.2 j (by rw [HLC.out] at hj; omega)
        have h3 : (L.take cc)[j]? = L[j]? := by rw [List.getElem?_take, if_pos (by rw [HLC.out] at hj; omega)]
        rw [h2, List.getElem?_eq_getElem hj] at h3
        rw [Option.some.inj h3]
        rfl)
      have HLN := Lib.hid HW.out.2.1.1
      go_wp2_with (first | ((with_reducible show wpPlan _ _ _ ((7, 2, _) :: _) _ _ _); refine wpPlan_eff rfl rfl (fun _ hK => ?_); refine copy_wp (.tmp 41) (.tmp 44) _ _ rfl 3 Try.underlying29 intSize1 rfl rfl HW.out.1.drew HLC.out hcc.symm HSR.out (by rw [HLN.out]; omega) HONE.out ?_; intro w4 hb4 hO4; refine hK _ _ ?_; refine Stop7.intro ?_) | ((with_reducible show wpPlan _ _ _ _ _ (Act.put _ _ _) _); simp only [List.getElem_toArray, List.getElem_cons_succ, List.getElem_cons_zero, Act.put, List.setIfInBounds_toArray, List.set_cons_zero, List.set_cons_succ]) | ((with_reducible show wpPlan _ _ _ _ _ _ _); first | refine wpPlan_nil ?_ | (refine wpPlan_read0 rfl ?hw rfl (fun _ _ _ => ?_); case hw => ((conv => (lhs; whnf)); first | done | with_reducible rfl)) | (refine wpPlan_read1d rfl ?hw rfl rfl (fun _ _ _ => ?_); case hw => ((conv => (lhs; whnf)); first | done | with_reducible rfl)) | (refine wpPlan_eff rfl ?hw (fun _ _ => ?_); case hw => ((conv => (lhs; whnf)); first | done | with_reducible rfl)) | (refine wpPlan_skip0 rfl ?hw ?_; case hw => ((conv => (lhs; whnf)); first | done | with_reducible rfl)) | (refine wpPlan_skip1d rfl ?hw ?_; case hw => ((conv => (lhs; whnf)); first | done | with_reducible rfl)) | (refine wpPlan_skip2 rfl ?hw ?_; case hw => ((conv => (lhs; whnf)); first | done | with_reducible rfl)) | (refine wpPlan_read1 rfl ?hw rfl (fun _ _ _ => ?_); case hw => ((conv => (lhs; whnf)); first | done | with_reducible rfl)) | refine wpPlan_fork ?_ ?_) | ((with_reducible show Owed _ _ _ _ _ _ _ _ _); first | refine Owed.none_ ?_ | refine Owed.nil_ ?_ | refine Owed.miss rfl ?_ | refine Owed.hit ?_ ?_) | ((with_reducible show Same _ _ _ _ _); intro _; go_simp; done) | (with_reducible exact True.intro) | ((with_reducible show Code.wp _ (Code.region 9 _ true) _ _ _); refine wp_region_plan [(0, 0, []), (1, 0, []), (2, 0, []), (3, 1, []), (4, 0, []), (5, 0, []), (6, 1, []), (7, 2, []), (8, 1, []), (9, 0, [])] (by kernel_rfl) (by kernel_rfl) (by kernel_rfl) ?_))
      unfold Stop7
      have HZ := Lib.hid (And.intro hb4 (And.intro (fill_step HW.out.2.1 cc hc1 (by omega)) (HW.out.2.2.drew.trans (hO4.below HW.out.2.2.size (fun x hx e => by omega)))))
      clear hb4 hO4 hcc
      go_wp2_with (first | ((with_reducible show wpPlan _ _ _ _ _ (Act.put _ _ _) _); simp only [List.getElem_toArray, List.getElem_cons_succ, List.getElem_cons_zero, Act.put, List.setIfInBounds_toArray, List.set_cons_zero, List.set_cons_succ]) | ((with_reducible show wpPlan _ _ _ _ _ _ _); first | refine wpPlan_nil ?_ | (refine wpPlan_read0 rfl ?hw rfl (fun _ _ _ => ?_); case hw => ((conv => (lhs; whnf)); first | done | with_reducible rfl)) | (refine wpPlan_read1d rfl ?hw rfl rfl (fun _ _ _ => ?_); case hw => ((conv => (lhs; whnf)); first | done | with_reducible rfl)) | (refine wpPlan_eff rfl ?hw (fun _ _ => ?_); case hw => ((conv => (lhs; whnf)); first | done | with_reducible rfl)) | (refine wpPlan_skip0 rfl ?hw ?_; case hw => ((conv => (lhs; whnf)); first | done | with_reducible rfl)) | (refine wpPlan_skip1d rfl ?hw ?_; case hw => ((conv => (lhs; whnf)); first | done | with_reducible rfl)) | (refine wpPlan_skip2 rfl ?hw ?_; case hw => ((conv => (lhs; whnf)); first | done | with_reducible rfl)) | (refine wpPlan_read1 rfl ?hw rfl (fun _ _ _ => ?_); case hw => ((conv => (lhs; whnf)); first | done | with_reducible rfl)) | refine wpPlan_fork ?_ ?_) | ((with_reducible show Owed _ _ _ _ _ _ _ _ _); first | refine Owed.none_ ?_ | refine Owed.nil_ ?_ | refine Owed.miss rfl ?_ | refine Owed.hit ?_ ?_) | ((with_reducible show Same _ _ _ _ _); intro _; go_simp; done) | (with_reducible exact True.intro) | ((with_reducible show Code.wp _ (Code.region 9 _ true) _ _ _); refine wp_region_plan [(0, 0, []), (1, 0, []), (2, 0, []), (3, 1, []), (4, 0, []), (5, 0, []), (6, 1, []), (7, 2, []), (8, 1, []), (9, 0, [])] (by kernel_rfl) (by kernel_rfl) (by kernel_rfl) ?_))
      go_roundw
      case rel => exact ⟨k + cc, _, by omega, by omega, by go_num, HZ⟩
      case measure => simp [intOf]; omega
    · have hkn : k = n := by omega
      subst hkn
      have HE := Lib.hid (fill_all HW.out.2.1)
      go_wp2_with (first | ((with_reducible show wpPlan _ _ _ _ _ (Act.put _ _ _) _); simp only [List.getElem_toArray, List.getElem_cons_succ, List.getElem_cons_zero, Act.put, List.setIfInBounds_toArray, List.set_cons_zero, List.set_cons_succ]) | ((with_reducible show wpPlan _ _ _ _ _ _ _); first | refine wpPlan_nil ?_ | (refine wpPlan_read0 rfl ?hw rfl (fun _ _ _ => ?_); case hw => ((conv => (lhs; whnf)); first | done | with_reducible rfl)) | (refine wpPlan_read1d rfl ?hw rfl rfl (fun _ _ _ => ?_); case hw => ((conv => (lhs; whnf)); first | done | with_reducible rfl)) | (refine wpPlan_eff rfl ?hw (fun _ _ => ?_); case hw => ((conv => (lhs; whnf)); first | done | with_reducible rfl)) | (refine wpPlan_skip0 rfl ?hw ?_; case hw => ((conv => (lhs; whnf)); first | done | with_reducible rfl)) | (refine wpPlan_skip1d rfl ?hw ?_; case hw => ((conv => (lhs; whnf)); first | done | with_reducible rfl)) | (refine wpPlan_skip2 rfl ?hw ?_; case hw => ((conv => (lhs; whnf)); first | done | with_reducible rfl)) | (refine wpPlan_read1 rfl ?hw rfl (fun _ _ _ => ?_); case hw => ((conv => (lhs; whnf)); first | done | with_reducible rfl)) | refine wpPlan_fork ?_ ?_) | ((with_reducible show Owed _ _ _ _ _ _ _ _ _); first | refine Owed.none_ ?_ | refine Owed.nil_ ?_ | refine Owed.miss rfl ?_ | refine Owed.hit ?_ ?_) | ((with_reducible show Same _ _ _ _ _); intro _; go_simp; done) | (with_reducible exact True.intro) | ((with_reducible show Code.wp _ (Code.region 9 _ true) _ _ _); refine wp_region_plan [(0, 0, []), (1, 0, []), (2, 0, []), (3, 1, []), (4, 0, []), (5, 0, []), (6, 1, []), (7, 2, []), (8, 1, []), (9, 0, [])] (by kernel_rfl) (by kernel_rfl) (by kernel_rfl) ?_))
      go_ret
      exact ⟨⟨_, rfl, by rw [← HE.out]; exact HW.out.1, Nat.le_refl _⟩, HW.out.2.2⟩

end Go.Proofs.Ytmciinikfjfegaa
