/- the reference: split -/
import Derived.Test.YtmciinikfjfegaaSgV1
namespace Go.Proofs.Ytmciinikfjfegaa
open Go Go.RowKit
set_option maxHeartbeats 8000000

theorem zset_take {l : List Int} {k : Nat} {c : Int} (h : k < l.length) : (l.set k c).take (k + 1) = l.take k ++ [c] := by
  rw [List.take_add_one, List.getElem?_set_self h, List.take_set_of_le (Nat.le_refl _)]
  rfl
theorem iblk_at {w : World} {g : Nat} {t : TypeId} {L : List Int} (h : Blk w g t (cellsOf icell L).toArray) {k : Nat} {x : Int} (hx : L[k]? = some x) : w.cell? ⟨g, k, none⟩ = some (.int .i64 x) := by
  rw [h.cell]
  have h1 := cellsOf_get icell_len L k 0 (by decide)
  simp only [Nat.mul_one, Nat.add_zero] at h1
  rw [List.getElem?_toArray, h1, hx]
  rfl
theorem rep_intC (n : Nat) : cellsOf ncell (List.replicate n 0) = cellsOf icell (List.replicate n 0) := by
  rw [nat_cells, List.map_replicate]
  rfl
theorem intC_snoc (l : List Nat) (x : Nat) : intC (l ++ [x]) = intC l ++ [(x : Int)] := by simp [intC]
theorem getD_some {l : List Nat} {j : Nat} (h : j < l.length) : l[j]? = some (l.getD j 0) := by
  rw [List.getD_eq_getElem?_getD, List.getElem?_eq_getElem h]
  rfl

/-- what the inner loop knows: no earlier state was like s, or the first one was found -/
def SplIn (p : Nat → Nat → Bool) (s t : Nat) (x : Int) : Prop :=
  x = -1 ∧ (List.range t).find? (fun t => p s t) = none ∨ ∃ u, (List.range s).find? (fun t => p s t) = some u ∧ u < s ∧ x = (((numS p s).1.getD u 0 : Nat) : Int)
theorem find_stop {p : Nat → Bool} {t s : Nat} (h : (List.range t).find? p = none) (hp : p t = true) (hts : t < s) : (List.range s).find? p = some t := by
  obtain ⟨d, rfl⟩ : ∃ d, s = t + 1 + d := ⟨s - (t + 1), by omega⟩
  rw [List.range_add, List.find?_append, List.range_succ, List.find?_append, h]
  simp [hp]
theorem find_step {p : Nat → Bool} {t : Nat} (h : (List.range t).find? p = none) (hp : p t = false) : (List.range (t + 1)).find? p = none := by
  rw [List.range_succ, List.find?_append, h]
  simp [hp]

set_option maxRecDepth 100000 in
theorem split_any (A : Option Addr) (n c : Nat) (ls : List (List Arc)) (A' : Option Addr) (n' c' : Nat) (cl : List Nat) (B : Nat) (w : World) (h : RdL w B A n ls) (h' : Rd w B 1 A' n' (cellsOf ncell cl)) (hB : B ≤ w.heap.size) (hn : n ≤ 1000000000) (hcn : cl.length = n)
    (hT : TosIn ls) (hs : ∀ l ∈ ls, l.length ≤ 1000000000000) :
    Calls Try.prog 68 #[.slice A n c, .slice A' n' c'] w fun e w' => (∃ v, e = .returned v ∧ w'.ownsRow 0 3 1 v n (cellsOf ncell (numK (keyS ls cl) n).1) ∧ ∀ g, v.ownBlock = some g → w.heap.size ≤ g) ∧ Below w.heap.size w w' := by
  have H := Lib.hid h
  have H' := Lib.hid h'
  have HL := Lib.hid h.len
  have HL' := Lib.hid (h'.len ncell_len (by decide))
  have HT := Lib.hid hT
  have HS := Lib.hid hs
  obtain rfl : n' = n := by rw [← HL'.out, hcn]
  clear hcn
  obtain ⟨i0, hi0, hz0, hz1, hz2⟩ := info_parts infoInt
  rw [← split_key]
  obtain ⟨p, hp⟩ : ∃ p, eqS ls cl = p := ⟨_, rfl⟩
  have HP := Lib.hid hp
  rw [hp]
  clear h h' hT hs hp
  go_enter Try.func68, Try.ntmps68
  go_wp2_with (at_make; refine wpList_makeX _ rfl _ _ 29 rfl 3 i0 (.int .i64 0) Try.underlying29 hi0 hz0 hz1 _ _ n' rfl rfl (by rw [hz2]; omega) (by omega) ?_)
  have HW0 := Lib.hid (show Blk (w.alloc (.cells (madeCells (Value.int .i64 0).cells n') 3)) w.heap.size 3 (cellsOf icell (List.replicate n' 0)).toArray ∧ Below w.heap.size w (w.alloc (.cells (madeCells (Value.int .i64 0).cells n') 3)) from by
    refine ⟨?_, (Below.refl w.heap.size w).alloc (Nat.le_refl _) _⟩
    rw [← rep_intC, ← made_ncells]
    exact heap_alloc_at (by simp))
  go_loopw [6, 7] (fun vx vk wr => ∃ k : Nat, k ≤ n' ∧ vk = .int .i64 k ∧ ∃ (nx : Nat) (L : List Int), nx ≤ k ∧ vx = .int .i64 nx ∧ L.length = n' ∧ Hid ((numS p k).2 = nx ∧ L.take k = intC (numS p k).1 ∧ Blk wr w.heap.size 3 (cellsOf icell L).toArray ∧ Below w.heap.size w wr)) (fun _ vk _ => n' - (intOf vk).toNat)
  case atStart => exact ⟨0, Nat.zero_le _, rfl, 0, List.replicate n' 0, Nat.le_refl _, rfl, by simp, Lib.hid ⟨rfl, rfl, HW0.out.1, HW0.out.2⟩⟩
  case round =>
    obtain ⟨k, hk, rfl, nx, L, hnx, rfl, hLl, HW⟩ := hrel
    have HLl := Lib.hid hLl
    clear hLl
    by_cases hlt : k < n'
    · have HN1 := HW.out.2.2.1.put k (.int .i64 (-1))
      rw [icells_set] at HN1
      have hO1 : Below w.heap.size w (wr.setCell ⟨w.heap.size, k, none⟩ (.int .i64 (-1))) := HW.out.2.2.2.setCell (p := ⟨w.heap.size, k, none⟩) (Nat.le_refl _) _
      have HI0 := Lib.hid (And.intro HN1 hO1)
      have n1l := HW.out.2.2.1.lt
      have n1f := HW.out.2.2.1.frozen k
      have n1c := iblk_at HW.out.2.2.1 (show L[k]? = some (L[k]'(by rw [HLl.out]; exact hlt)) from List.getElem?_eq_getElem _)
      clear HN1 hO1
      go_wp2_with fail
      clear n1l n1f n1c
      go_loopw [8] (fun vt wr => ∃ t : Nat, t ≤ k ∧ vt = .int .i64 t ∧ ∃ x : Int, Hid (SplIn p k t x ∧ Blk wr w.heap.size 3 (cellsOf icell (L.set k x)).toArray ∧ Below w.heap.size w wr)) (fun vt _ => k - (intOf vt).toNat)
      case atStart => exact ⟨0, Nat.zero_le _, rfl, -1, Lib.hid ⟨.inl ⟨rfl, rfl⟩, HI0.out.1, HI0.out.2⟩⟩
      case round =>
        obtain ⟨t, ht, rfl, x, HI⟩ := hrel
        have hLk : k < L.length := by rw [HLl.out]; exact hlt
        have x0 := iblk_at HI.out.2.1 (show (L.set k x)[k]? = some x from List.getElem?_set_self hLk)
        have xl := HI.out.2.1.lt
        have xf := HI.out.2.1.frozen k
        have hsz := HI.out.2.2.size
        rcases HI.out.1 with ⟨rfl, hno⟩ | ⟨u, hu, huk, rfl⟩
        · have HNO := Lib.hid hno
          clear hno
          by_cases htk : t < k
          · obtain ⟨b1, o1, l, A9, n9, c9, rfl, hb1, hl, hln, e0, hrow⟩ := (H.out.below (w' := wr) (HI.out.2.2.mono hB)).row hlt
            obtain ⟨b1', o1', l8, A8, n8, c8, e, _, hl8, hln8, f0, hrow8⟩ := (H.out.below (w' := wr) (HI.out.2.2.mono hB)).row (i := t) (by omega)
            cases e
            obtain ⟨b2, o2, y, rfl, hb2, hy, d0⟩ := (H'.out.below (w' := wr) (HI.out.2.2.mono hB)).nat hlt
            obtain ⟨b2', o2', z, e, _, hz, d1⟩ := (H'.out.below (w' := wr) (HI.out.2.2.mono hB)).nat (i := t) (by omega)
            cases e
            have HROW := Lib.hid hrow
            have HROW8 := Lib.hid hrow8
            have HCL := Lib.hid (H'.out.below (w' := wr) (HI.out.2.2.mono hB))
            have HTO := Lib.hid (show (∀ a ∈ l, 0 ≤ a.to ∧ a.to < n') ∧ (∀ a ∈ l8, 0 ≤ a.to ∧ a.to < n') from by
              refine ⟨fun a ha => ?_, fun a ha => ?_⟩
              · have := HT.out l (List.mem_of_getElem? hl) a ha
                rw [← HL.out]
                exact this
              · have := HT.out l8 (List.mem_of_getElem? hl8) a ha
                rw [← HL.out]
                exact this)
            have hl9 : n9 ≤ 1000000000000 := by have := HS.out l (List.mem_of_getElem? hl); omega
            have hl8' : n8 ≤ 1000000000000 := by have := HS.out l8 (List.mem_of_getElem? hl8); omega
            obtain ⟨r1, hr1⟩ : ∃ r, covB l l8 cl = r := ⟨_, rfl⟩
            obtain ⟨r2, hr2⟩ : ∃ r, covB l8 l cl = r := ⟨_, rfl⟩
            have HPT := Lib.hid (show p k t = (decide (z = y) && r1 && r2) from by
              rw [← HP.out, eqS, rowAt_get hl, rowAt_get hl8, hr1, hr2, List.getD_eq_getElem?_getD, List.getD_eq_getElem?_getD, hy, hz]
              rfl)
            have HR1 := Lib.hid hr1
            have HR2 := Lib.hid hr2
            have hb1l : b1 < wr.heap.size := by omega
            have hb2l : b2 < wr.heap.size := by omega
            clear hl hl8 hy hz hrow hrow8 hr1 hr2
            by_cases hyz : z = y
            · subst hyz
              go_wp2_with (first | ((with_reducible show wpPlan _ _ _ _ _ (Act.put _ _ _) _); simp only [List.getElem_toArray, List.getElem_cons_succ, List.getElem_cons_zero, Act.put, List.setIfInBounds_toArray, List.set_cons_zero, List.set_cons_succ]) | ((with_reducible show wpPlan _ _ _ _ _ _ _); first | refine wpPlan_nil ?_ | (refine wpPlan_read0 rfl ?hw rfl (fun _ _ _ => ?_); case hw => ((conv => (lhs; whnf)); first | done | with_reducible rfl)) | (refine wpPlan_read1d rfl ?hw rfl rfl (fun _ _ _ => ?_); case hw => ((conv => (lhs; whnf)); first | done | with_reducible rfl)) | (refine wpPlan_eff rfl ?hw (fun _ _ => ?_); case hw => ((conv => (lhs; whnf)); first | done | with_reducible rfl)) | (refine wpPlan_skip0 rfl ?hw ?_; case hw => ((conv => (lhs; whnf)); first | done | with_reducible rfl)) | (refine wpPlan_skip1d rfl ?hw ?_; case hw => ((conv => (lhs; whnf)); first | done | with_reducible rfl)) | (refine wpPlan_skip2 rfl ?hw ?_; case hw => ((conv => (lhs; whnf)); first | done | with_reducible rfl)) | (refine wpPlan_read1 rfl ?hw rfl (fun _ _ _ => ?_); case hw => ((conv => (lhs; whnf)); first | done | with_reducible rfl)) | refine wpPlan_fork ?_ ?_) | ((with_reducible show Owed _ _ _ _ _ _ _ _ _); first | refine Owed.none_ ?_ | refine Owed.nil_ ?_ | refine Owed.miss rfl ?_ | refine Owed.hit ?_ ?_) | ((with_reducible show Same _ _ _ _ _); intro _; go_simp; done) | (with_reducible exact True.intro) | ((with_reducible show Code.wp _ (Code.region 10 _ true) _ _ _); refine wp_region_plan [(0, 0, []), (1, 0, []), (2, 1, []), (3, 1, []), (4, 0, []), (5, 0, []), (6, 1, []), (7, 1, []), (8, 1, []), (9, 0, []), (10, 0, []), (11, 0, []), (12, 1, []), (13, 1, []), (14, 0, []), (15, 0, []), (16, 1, []), (17, 1, []), (18, 0, []), (19, 2, []), (20, 0, []), (21, 0, []), (22, 0, []), (23, 0, []), (24, 1, []), (25, 1, []), (26, 0, []), (27, 0, []), (28, 1, []), (29, 1, []), (30, 0, []), (31, 2, []), (32, 0, [])] (by kernel_rfl) (by kernel_rfl) (by kernel_rfl) ?_))
              refine (covers_any A9 A8 (some ⟨b2, o2, none⟩) n9 c9 n8 c8 n' c' B l l8 cl _ (HROW.out.drewN 1) (HROW8.out.drewN 1) (HCL.out.drewN 1) (by simp; omega) hl9 hl8' HTO.out.1 HTO.out.2).mono ?_
              rw [HR1.out]
              rintro e w5 ⟨rfl, hb5⟩
              have hb5' : Below wr.heap.size wr w5 := ((Below.refl wr.heap.size wr).drew).trans hb5
              have hs5 := hb5'.size
              have g0 := (hb5'.cell (p := ⟨b1, o1 + k, none⟩) (by dsimp only; omega)).trans e0
              have g1 := (hb5'.cell (p := ⟨b1, o1 + t, none⟩) (by dsimp only; omega)).trans f0
              have HROW5 := Lib.hid (HROW.out.below (hb5'.mono (by omega)))
              have HROW58 := Lib.hid (HROW8.out.below (hb5'.mono (by omega)))
              have HCL5 := Lib.hid (HCL.out.below (hb5'.mono (by omega)))
              have HI5 := Lib.hid (And.intro (HI.out.2.1.below hb5' HI.out.2.1.lt) (HI.out.2.2.trans (hb5'.mono hsz)))
              clear hb5 hb5'
              cases r1
              · have HF := Lib.hid (show p k t = false from by rw [HPT.out]; simp)
                go_wp2_with (first | ((with_reducible show wpPlan _ _ _ _ _ (Act.put _ _ _) _); simp only [List.getElem_toArray, List.getElem_cons_succ, List.getElem_cons_zero, Act.put, List.setIfInBounds_toArray, List.set_cons_zero, List.set_cons_succ]) | ((with_reducible show wpPlan _ _ _ _ _ _ _); first | refine wpPlan_nil ?_ | (refine wpPlan_read0 rfl ?hw rfl (fun _ _ _ => ?_); case hw => ((conv => (lhs; whnf)); first | done | with_reducible rfl)) | (refine wpPlan_read1d rfl ?hw rfl rfl (fun _ _ _ => ?_); case hw => ((conv => (lhs; whnf)); first | done | with_reducible rfl)) | (refine wpPlan_eff rfl ?hw (fun _ _ => ?_); case hw => ((conv => (lhs; whnf)); first | done | with_reducible rfl)) | (refine wpPlan_skip0 rfl ?hw ?_; case hw => ((conv => (lhs; whnf)); first | done | with_reducible rfl)) | (refine wpPlan_skip1d rfl ?hw ?_; case hw => ((conv => (lhs; whnf)); first | done | with_reducible rfl)) | (refine wpPlan_skip2 rfl ?hw ?_; case hw => ((conv => (lhs; whnf)); first | done | with_reducible rfl)) | (refine wpPlan_read1 rfl ?hw rfl (fun _ _ _ => ?_); case hw => ((conv => (lhs; whnf)); first | done | with_reducible rfl)) | refine wpPlan_fork ?_ ?_) | ((with_reducible show Owed _ _ _ _ _ _ _ _ _); first | refine Owed.none_ ?_ | refine Owed.nil_ ?_ | refine Owed.miss rfl ?_ | refine Owed.hit ?_ ?_) | ((with_reducible show Same _ _ _ _ _); intro _; go_simp; done) | (with_reducible exact True.intro) | ((with_reducible show Code.wp _ (Code.region 10 _ true) _ _ _); refine wp_region_plan [(0, 0, []), (1, 0, []), (2, 1, []), (3, 1, []), (4, 0, []), (5, 0, []), (6, 1, []), (7, 1, []), (8, 1, []), (9, 0, []), (10, 0, []), (11, 0, []), (12, 1, []), (13, 1, []), (14, 0, []), (15, 0, []), (16, 1, []), (17, 1, []), (18, 0, []), (19, 2, []), (20, 0, []), (21, 0, []), (22, 0, []), (23, 0, []), (24, 1, []), (25, 1, []), (26, 0, []), (27, 0, []), (28, 1, []), (29, 1, []), (30, 0, []), (31, 2, []), (32, 0, [])] (by kernel_rfl) (by kernel_rfl) (by kernel_rfl) ?_))
                go_roundw
                case rel => exact ⟨t + 1, by omega, by go_num, -1, Lib.hid ⟨.inl ⟨rfl, find_step HNO.out HF.out⟩, HI5.out.1, HI5.out.2⟩⟩
                case measure => simp [intOf]; omega
              · go_wp2_with (first | ((with_reducible show wpPlan _ _ _ _ _ (Act.put _ _ _) _); simp only [List.getElem_toArray, List.getElem_cons_succ, List.getElem_cons_zero, Act.put, List.setIfInBounds_toArray, List.set_cons_zero, List.set_cons_succ]) | ((with_reducible show wpPlan _ _ _ _ _ _ _); first | refine wpPlan_nil ?_ | (refine wpPlan_read0 rfl ?hw rfl (fun _ _ _ => ?_); case hw => ((conv => (lhs; whnf)); first | done | with_reducible rfl)) | (refine wpPlan_read1d rfl ?hw rfl rfl (fun _ _ _ => ?_); case hw => ((conv => (lhs; whnf)); first | done | with_reducible rfl)) | (refine wpPlan_eff rfl ?hw (fun _ _ => ?_); case hw => ((conv => (lhs; whnf)); first | done | with_reducible rfl)) | (refine wpPlan_skip0 rfl ?hw ?_; case hw => ((conv => (lhs; whnf)); first | done | with_reducible rfl)) | (refine wpPlan_skip1d rfl ?hw ?_; case hw => ((conv => (lhs; whnf)); first | done | with_reducible rfl)) | (refine wpPlan_skip2 rfl ?hw ?_; case hw => ((conv => (lhs; whnf)); first | done | with_reducible rfl)) | (refine wpPlan_read1 rfl ?hw rfl (fun _ _ _ => ?_); case hw => ((conv => (lhs; whnf)); first | done | with_reducible rfl)) | refine wpPlan_fork ?_ ?_) | ((with_reducible show Owed _ _ _ _ _ _ _ _ _); first | refine Owed.none_ ?_ | refine Owed.nil_ ?_ | refine Owed.miss rfl ?_ | refine Owed.hit ?_ ?_) | ((with_reducible show Same _ _ _ _ _); intro _; go_simp; done) | (with_reducible exact True.intro) | ((with_reducible show Code.wp _ (Code.region 10 _ true) _ _ _); refine wp_region_plan [(0, 0, []), (1, 0, []), (2, 1, []), (3, 1, []), (4, 0, []), (5, 0, []), (6, 1, []), (7, 1, []), (8, 1, []), (9, 0, []), (10, 0, []), (11, 0, []), (12, 1, []), (13, 1, []), (14, 0, []), (15, 0, []), (16, 1, []), (17, 1, []), (18, 0, []), (19, 2, []), (20, 0, []), (21, 0, []), (22, 0, []), (23, 0, []), (24, 1, []), (25, 1, []), (26, 0, []), (27, 0, []), (28, 1, []), (29, 1, []), (30, 0, []), (31, 2, []), (32, 0, [])] (by kernel_rfl) (by kernel_rfl) (by kernel_rfl) ?_))
                refine (covers_any A8 A9 (some ⟨b2, o2, none⟩) n8 c8 n9 c9 n' c' B l8 l cl _ HROW58.out HROW5.out HCL5.out (by omega) hl8' hl9 HTO.out.2 HTO.out.1).mono ?_
                rw [HR2.out]
                rintro e w6 ⟨rfl, hb6⟩
                have hs6 := hb6.size
                have HI6 := Lib.hid (And.intro (HI5.out.1.below hb6 HI5.out.1.lt) (HI5.out.2.trans (hb6.mono (by omega))))
                clear hb6
                cases r2
                · have HF := Lib.hid (show p k t = false from by rw [HPT.out]; simp)
                  go_wp2_with (first | ((with_reducible show wpPlan _ _ _ _ _ (Act.put _ _ _) _); simp only [List.getElem_toArray, List.getElem_cons_succ, List.getElem_cons_zero, Act.put, List.setIfInBounds_toArray, List.set_cons_zero, List.set_cons_succ]) | ((with_reducible show wpPlan _ _ _ _ _ _ _); first | refine wpPlan_nil ?_ | (refine wpPlan_read0 rfl ?hw rfl (fun _ _ _ => ?_); case hw => ((conv => (lhs; whnf)); first | done | with_reducible rfl)) | (refine wpPlan_read1d rfl ?hw rfl rfl (fun _ _ _ => ?_); case hw => ((conv => (lhs; whnf)); first | done | with_reducible rfl)) | (refine wpPlan_eff rfl ?hw (fun _ _ => ?_); case hw => ((conv => (lhs; whnf)); first | done | with_reducible rfl)) | (refine wpPlan_skip0 rfl ?hw ?_; case hw => ((conv => (lhs; whnf)); first | done | with_reducible rfl)) | (refine wpPlan_skip1d rfl ?hw ?_; case hw => ((conv => (lhs; whnf)); first | done | with_reducible rfl)) | (refine wpPlan_skip2 rfl ?hw ?_; case hw => ((conv => (lhs; whnf)); first | done | with_reducible rfl)) | (refine wpPlan_read1 rfl ?hw rfl (fun _ _ _ => ?_); case hw => ((conv => (lhs; whnf)); first | done | with_reducible rfl)) | refine wpPlan_fork ?_ ?_) | ((with_reducible show Owed _ _ _ _ _ _ _ _ _); first | refine Owed.none_ ?_ | refine Owed.nil_ ?_ | refine Owed.miss rfl ?_ | refine Owed.hit ?_ ?_) | ((with_reducible show Same _ _ _ _ _); intro _; go_simp; done) | (with_reducible exact True.intro) | ((with_reducible show Code.wp _ (Code.region 10 _ true) _ _ _); refine wp_region_plan [(0, 0, []), (1, 0, []), (2, 1, []), (3, 1, []), (4, 0, []), (5, 0, []), (6, 1, []), (7, 1, []), (8, 1, []), (9, 0, []), (10, 0, []), (11, 0, []), (12, 1, []), (13, 1, []), (14, 0, []), (15, 0, []), (16, 1, []), (17, 1, []), (18, 0, []), (19, 2, []), (20, 0, []), (21, 0, []), (22, 0, []), (23, 0, []), (24, 1, []), (25, 1, []), (26, 0, []), (27, 0, []), (28, 1, []), (29, 1, []), (30, 0, []), (31, 2, []), (32, 0, [])] (by kernel_rfl) (by kernel_rfl) (by kernel_rfl) ?_))
                  go_roundw
                  case rel => exact ⟨t + 1, by omega, by go_num, -1, Lib.hid ⟨.inl ⟨rfl, find_step HNO.out HF.out⟩, HI6.out.1, HI6.out.2⟩⟩
                  case measure => simp [intOf]; omega
                · have HF := Lib.hid (show p k t = true from by rw [HPT.out]; simp)
                  have hv : L[t]? = some (((numS p k).1.getD t 0 : Nat) : Int) := by
                    have h1 : (L.take k)[t]? = L[t]? := List.getElem?_take_of_lt htk
                    rw [← h1, HW.out.2.1, intC, List.getElem?_map, getD_some (by rw [numS_len]; exact htk)]
                    rfl
                  have m0 := iblk_at HI6.out.1 (show (L.set k (-1))[k]? = some (-1) from List.getElem?_set_self hLk)
                  have m1 := iblk_at HI6.out.1 (show (L.set k (-1))[t]? = some (((numS p k).1.getD t 0 : Nat) : Int) from by rw [List.getElem?_set_ne (by omega)]; exact hv)
                  have ml := HI6.out.1.lt
                  have mf := HI6.out.1.frozen k
                  obtain ⟨v, hvv⟩ : ∃ v, (numS p k).1.getD t 0 = v := ⟨_, rfl⟩
                  rw [hvv] at m1
                  have HV := Lib.hid hvv
                  have HNp := HI6.out.1.put k (.int .i64 (v : Nat))
                  rw [icells_set, List.set_set] at HNp
                  have HI7 := Lib.hid (And.intro HNp (HI6.out.2.setCell (p := ⟨w.heap.size, k, none⟩) (Nat.le_refl _) (.int .i64 (v : Nat))))
                  clear hv hvv HNp
                  go_wp2_with (first | ((with_reducible show wpPlan _ _ _ _ _ (Act.put _ _ _) _); simp only [List.getElem_toArray, List.getElem_cons_succ, List.getElem_cons_zero, Act.put, List.setIfInBounds_toArray, List.set_cons_zero, List.set_cons_succ]) | ((with_reducible show wpPlan _ _ _ _ _ _ _); first | refine wpPlan_nil ?_ | (refine wpPlan_read0 rfl ?hw rfl (fun _ _ _ => ?_); case hw => ((conv => (lhs; whnf)); first | done | with_reducible rfl)) | (refine wpPlan_read1d rfl ?hw rfl rfl (fun _ _ _ => ?_); case hw => ((conv => (lhs; whnf)); first | done | with_reducible rfl)) | (refine wpPlan_eff rfl ?hw (fun _ _ => ?_); case hw => ((conv => (lhs; whnf)); first | done | with_reducible rfl)) | (refine wpPlan_skip0 rfl ?hw ?_; case hw => ((conv => (lhs; whnf)); first | done | with_reducible rfl)) | (refine wpPlan_skip1d rfl ?hw ?_; case hw => ((conv => (lhs; whnf)); first | done | with_reducible rfl)) | (refine wpPlan_skip2 rfl ?hw ?_; case hw => ((conv => (lhs; whnf)); first | done | with_reducible rfl)) | (refine wpPlan_read1 rfl ?hw rfl (fun _ _ _ => ?_); case hw => ((conv => (lhs; whnf)); first | done | with_reducible rfl)) | refine wpPlan_fork ?_ ?_) | ((with_reducible show Owed _ _ _ _ _ _ _ _ _); first | refine Owed.none_ ?_ | refine Owed.nil_ ?_ | refine Owed.miss rfl ?_ | refine Owed.hit ?_ ?_) | ((with_reducible show Same _ _ _ _ _); intro _; go_simp; done) | (with_reducible exact True.intro) | ((with_reducible show Code.wp _ (Code.region 10 _ true) _ _ _); refine wp_region_plan [(0, 0, []), (1, 0, []), (2, 1, []), (3, 1, []), (4, 0, []), (5, 0, []), (6, 1, []), (7, 1, []), (8, 1, []), (9, 0, []), (10, 0, []), (11, 0, []), (12, 1, []), (13, 1, []), (14, 0, []), (15, 0, []), (16, 1, []), (17, 1, []), (18, 0, []), (19, 2, []), (20, 0, []), (21, 0, []), (22, 0, []), (23, 0, []), (24, 1, []), (25, 1, []), (26, 0, []), (27, 0, []), (28, 1, []), (29, 1, []), (30, 0, []), (31, 2, []), (32, 0, [])] (by kernel_rfl) (by kernel_rfl) (by kernel_rfl) ?_))
                  go_roundw
                  case rel => exact ⟨t + 1, by omega, by go_num, (v : Int), Lib.hid ⟨.inr ⟨t, find_stop HNO.out HF.out htk, htk, by rw [HV.out]⟩, HI7.out.1, HI7.out.2⟩⟩
                  case measure => simp [intOf]; omega
            · have HF := Lib.hid (show p k t = false from by rw [HPT.out, decide_eq_false hyz]; simp)
              have hyz' : ¬ ((z : Int) = (y : Int)) := by omega
              have hyzb : ((z : Int) == (y : Int)) = false := by simpa using hyz'
              have HI5 := Lib.hid (And.intro (HI.out.2.1.drewN 1) HI.out.2.2.drew)
              go_wp2_with (first | ((with_reducible show wpPlan _ _ _ _ _ (Act.put _ _ _) _); simp only [List.getElem_toArray, List.getElem_cons_succ, List.getElem_cons_zero, Act.put, List.setIfInBounds_toArray, List.set_cons_zero, List.set_cons_succ]) | ((with_reducible show wpPlan _ _ _ _ _ _ _); first | refine wpPlan_nil ?_ | (refine wpPlan_read0 rfl ?hw rfl (fun _ _ _ => ?_); case hw => ((conv => (lhs; whnf)); first | done | with_reducible rfl)) | (refine wpPlan_read1d rfl ?hw rfl rfl (fun _ _ _ => ?_); case hw => ((conv => (lhs; whnf)); first | done | with_reducible rfl)) | (refine wpPlan_eff rfl ?hw (fun _ _ => ?_); case hw => ((conv => (lhs; whnf)); first | done | with_reducible rfl)) | (refine wpPlan_skip0 rfl ?hw ?_; case hw => ((conv => (lhs; whnf)); first | done | with_reducible rfl)) | (refine wpPlan_skip1d rfl ?hw ?_; case hw => ((conv => (lhs; whnf)); first | done | with_reducible rfl)) | (refine wpPlan_skip2 rfl ?hw ?_; case hw => ((conv => (lhs; whnf)); first | done | with_reducible rfl)) | (refine wpPlan_read1 rfl ?hw rfl (fun _ _ _ => ?_); case hw => ((conv => (lhs; whnf)); first | done | with_reducible rfl)) | refine wpPlan_fork ?_ ?_) | ((with_reducible show Owed _ _ _ _ _ _ _ _ _); first | refine Owed.none_ ?_ | refine Owed.nil_ ?_ | refine Owed.miss rfl ?_ | refine Owed.hit ?_ ?_) | ((with_reducible show Same _ _ _ _ _); intro _; go_simp; done) | (with_reducible exact True.intro) | ((with_reducible show Code.wp _ (Code.region 10 _ true) _ _ _); refine wp_region_plan [(0, 0, []), (1, 0, []), (2, 1, []), (3, 1, []), (4, 0, []), (5, 0, []), (6, 1, []), (7, 1, []), (8, 1, []), (9, 0, []), (10, 0, []), (11, 0, []), (12, 1, []), (13, 1, []), (14, 0, []), (15, 0, []), (16, 1, []), (17, 1, []), (18, 0, []), (19, 2, []), (20, 0, []), (21, 0, []), (22, 0, []), (23, 0, []), (24, 1, []), (25, 1, []), (26, 0, []), (27, 0, []), (28, 1, []), (29, 1, []), (30, 0, []), (31, 2, []), (32, 0, [])] (by kernel_rfl) (by kernel_rfl) (by kernel_rfl) ?_))
              go_roundw
              case rel => exact ⟨t + 1, by omega, by go_num, -1, Lib.hid ⟨.inl ⟨rfl, find_step HNO.out HF.out⟩, HI5.out.1, HI5.out.2⟩⟩
              case measure => simp [intOf]; omega
          · obtain rfl : t = k := by omega
            have HNp := HI.out.2.1.put t (.int .i64 (nx : Nat))
            rw [icells_set, List.set_set] at HNp
            have HI7 := Lib.hid (And.intro HNp (HI.out.2.2.setCell (p := ⟨w.heap.size, t, none⟩) (Nat.le_refl _) (.int .i64 (nx : Nat))))
            have HQ := Lib.hid (show (numS p (t + 1)).2 = nx + 1 ∧ (L.set t (nx : Int)).take (t + 1) = intC (numS p (t + 1)).1 from by
              rw [numS_none HNO.out, zset_take hLk, HW.out.2.1, HW.out.1]
              exact ⟨rfl, (intC_snoc _ _).symm⟩)
            clear HNp
            go_wp2_with fail
            go_roundw
            case rel => exact ⟨t + 1, by omega, by go_num, nx + 1, L.set t (nx : Int), by omega, by go_num, by rw [List.length_set]; exact HLl.out, Lib.hid ⟨HQ.out.1, HQ.out.2, HI7.out.1, HI7.out.2⟩⟩
            case measure => simp [intOf]; omega
        · obtain ⟨v, hvv⟩ : ∃ v, (numS p k).1.getD u 0 = v := ⟨_, rfl⟩
          have HQ := Lib.hid (show (numS p (k + 1)).2 = nx ∧ (L.set k (v : Int)).take (k + 1) = intC (numS p (k + 1)).1 from by
              rw [numS_some hu, zset_take hLk, HW.out.2.1, HW.out.1, hvv]
              exact ⟨rfl, (intC_snoc _ _).symm⟩)
          rw [hvv] at HI x0
          clear hu hvv
          by_cases htk : t < k
          · go_wp2_with fail
            go_roundw
            case rel => exact ⟨k + 1, by omega, by go_num, nx, L.set k (v : Int), by omega, rfl, by rw [List.length_set]; exact HLl.out, Lib.hid ⟨HQ.out.1, HQ.out.2, HI.out.2.1, HI.out.2.2⟩⟩
            case measure => simp [intOf]; omega
          · obtain rfl : t = k := by omega
            go_wp2_with fail
            go_roundw
            case rel => exact ⟨t + 1, by omega, by go_num, nx, L.set t (v : Int), by omega, rfl, by rw [List.length_set]; exact HLl.out, Lib.hid ⟨HQ.out.1, HQ.out.2, HI.out.2.1, HI.out.2.2⟩⟩
            case measure => simp [intOf]; omega
    · have hkn : k = n' := by omega
      subst hkn
      have HZ := Lib.hid (show wr.ownsRow 0 3 1 (.slice (some ⟨w.heap.size, 0, none⟩) k k) k (cellsOf ncell (numS p k).1) from by
        have h1 := HW.out.2.1
        rw [List.take_of_length_le (by rw [HLl.out]; exact Nat.le_refl _)] at h1
        rw [nat_cells]
        have h2 : (numS p k).1.map (fun x : Nat => (x : Int)) = L := h1.symm
        rw [h2]
        exact ⟨by rw [cellsOf_length icell_len, HLl.out], .inr ⟨w.heap.size, k, (cellsOf icell L).toArray, rfl, Nat.zero_le _, HW.out.2.2.1, Nat.le_refl _, by unfold maxLen; omega, by simp [cellsOf_length icell_len, HLl.out], by rw [List.take_of_length_le (by simp [cellsOf_length icell_len, HLl.out])]⟩⟩)
      go_wp2_with fail
      go_ret
      exact ⟨⟨_, rfl, HZ.out, fun g hg => by simp [Value.ownBlock] at hg; omega⟩, HW.out.2.2.2⟩

end Go.Proofs.Ytmciinikfjfegaa
