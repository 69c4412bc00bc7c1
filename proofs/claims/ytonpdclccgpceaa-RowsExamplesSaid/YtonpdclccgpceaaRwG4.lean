/- systems that are copied: Copy's walk -/
import Derived.Test.YtonpdclccgpceaaRwG3
namespace Go.Proofs.Ytonpdclccgpceaa
open Go Go.RowKit
set_option maxHeartbeats 8000000

theorem below3 {w : World} (a b c : Obj) : Below w.heap.size w (((w.alloc a).alloc b).alloc c) := (((Below.refl w.heap.size w).alloc (Nat.le_refl _) a).alloc (by simp) b).alloc (by simp; omega) c

set_option maxRecDepth 100000 in
theorem copy_any (A : Option Addr) (n c B bd : Nat) (ls : List (List Arc)) (w : World) (h : RdL w B A n ls) (hB : B ≤ w.heap.size) (hn : n ≤ 1000) (hs : ∀ l ∈ ls, l.length ≤ bd) (hbd : bd ≤ 1000) :
    Calls Try.prog 43 #[lts A n c] w fun e w' => (∃ v' xs, e = .returned (.agg #[v']) ∧ RowsOwn w' (w.heap.size + 3) v' n bd xs) ∧ Below w.heap.size w w' := by
  have H := Lib.hid h
  have HS := Lib.hid hs
  have HL := Lib.hid h.len
  have HBl := Lib.hid (((Blk.new w 25 #[.slice A n c]).alloc (.cells #[.slice none 0 0] 25)).alloc (.cells #[.slice none 0 0] 25))
  have HBr := Lib.hid (show Blk (((w.alloc (.cells #[.slice A n c] 25)).alloc (.cells #[.slice none 0 0] 25)).alloc (.cells #[.slice none 0 0] 25)) (w.heap.size + 1) 25 #[.slice none 0 0] by
    have := (Blk.new (w.alloc (.cells #[.slice A n c] 25)) 25 #[.slice none 0 0]).alloc (.cells #[.slice none 0 0] 25)
    simpa using this)
  have HBq := Lib.hid (show Blk (((w.alloc (.cells #[.slice A n c] 25)).alloc (.cells #[.slice none 0 0] 25)).alloc (.cells #[.slice none 0 0] 25)) (w.heap.size + 1 + 1) 25 #[.slice none 0 0] from heap_alloc_at (by simp))
  have HB0 := Lib.hid (below3 (w := w) (.cells #[.slice A n c] 25) (.cells #[.slice none 0 0] 25) (.cells #[.slice none 0 0] 25))
  have HSZ := Lib.hid (show (((w.alloc (.cells #[.slice A n c] 25)).alloc (.cells #[.slice none 0 0] 25)).alloc (.cells #[.slice none 0 0] 25)).heap.size = w.heap.size + 3 by simp)
  clear h hs
  go_enter Try.func43, Try.ntmps43
  go_wp2
  go_loopw [4] (fun vk wr => ∃ (k : Nat) (vq : Value) (xs : List Value), k ≤ n ∧ vk = .int .i64 k ∧ w.heap.size + 3 ≤ wr.heap.size ∧
    Hid (RowsOwn wr (w.heap.size + 3) vq k bd xs ∧ Blk wr w.heap.size 25 #[.slice A n c] ∧ Blk wr (w.heap.size + 1) 25 #[.slice none 0 0] ∧ Blk wr (w.heap.size + 1 + 1) 25 #[vq] ∧ Below w.heap.size w wr)) (fun vk _ => n - (intOf vk).toNat)
  case atStart => exact ⟨0, _, [], Nat.zero_le _, rfl, by rw [HSZ.out]; exact Nat.le_refl _, Lib.hid ⟨RowsOwn.nil _ _ _, HBl.out, HBr.out, HBq.out, HB0.out⟩⟩
  case round =>
    obtain ⟨k, vq, xs, hk, rfl, hsz, HW⟩ := hrel
    obtain ⟨Aq, cq, rfl, _, _⟩ := own_form HW.out.1.own
    have hbc := HW.out.2.1.cell
    have hbl := HW.out.2.1.lt
    have hqc := HW.out.2.2.2.1.cell
    have hql := HW.out.2.2.2.1.lt
    have hqf := HW.out.2.2.2.1.frozen
    by_cases hlt : k < n
    · obtain ⟨b1, o1, l, A', n', c', rfl, hb1, hl, hln, e0, hrow⟩ := (H.out.keep (w' := wr) (fun p hp => HW.out.2.2.2.2.cell (by omega))).row hlt
      have hll := HS.out l (List.mem_of_getElem? hl)
      have HROW := Lib.hid ((hrow.more (show B ≤ wr.heap.size by omega)).alloc (Nat.le_refl _) (Obj.cells #[] 55))
      have hb1l : b1 < wr.heap.size := by omega
      have hown : ((wr.alloc (Obj.cells #[] 55)).drew).ownsRow 0 55 2 (.slice (some ⟨wr.heap.size, 0, none⟩) 0 0) 0 [] :=
        ⟨rfl, .inr ⟨wr.heap.size, 0, #[], rfl, Nat.zero_le _, heap_alloc_new wr _, Nat.le_refl _, by simp [maxLen], rfl, rfl⟩⟩
      have HOW := Lib.hid hown
      clear hrow hl hown
      go_wp2_with (first | ((with_reducible show wpPlan _ _ _ ((8, 2, _) :: _) _ _ _); refine wpPlan_eff rfl rfl (fun _ hK => ?_); refine app_opt slArc rfl HOW.out rfl (HROW.out.drewN 1) (c := c') rfl (arc_ones _) (by unfold maxLen; omega) (by omega) ?_; intro v8 w8 hown8 hgrow8 hat8; refine hK _ _ ?_; refine Stop7.intro ?_) | ((with_reducible show wpPlan _ _ _ [] _ _ _); refine wpPlan_nil ?_) | ((with_reducible show wpPlan _ _ _ ((_, 0, _) :: _) _ _ _); first | (refine wpPlan_read0 rfl ?hw rfl (fun _ _ _ => ?_); case hw => ((conv => (lhs; whnf)); first | done | with_reducible rfl)) | (refine wpPlan_skip0 rfl ?hw ?_; (case hw => ((conv => (lhs; whnf)); first | done | with_reducible rfl)); (try simp only [List.getElem_toArray, List.getElem_cons_succ, List.getElem_cons_zero, Act.put, List.setIfInBounds_toArray, List.set_cons_zero, List.set_cons_succ]))) | ((with_reducible show wpPlan _ _ _ ((_, 1, _) :: _) _ _ _); first | (refine wpPlan_read1d rfl ?hw rfl rfl (fun _ _ _ => ?_); case hw => ((conv => (lhs; whnf)); first | done | with_reducible rfl)) | (refine wpPlan_skip1d rfl ?hw ?_; (case hw => ((conv => (lhs; whnf)); first | done | with_reducible rfl)); (try simp only [List.getElem_toArray, List.getElem_cons_succ, List.getElem_cons_zero, Act.put, List.setIfInBounds_toArray, List.set_cons_zero, List.set_cons_succ])) | (refine wpPlan_read1 rfl ?hw rfl (fun _ _ _ => ?_); case hw => ((conv => (lhs; whnf)); first | done | with_reducible rfl))) | ((with_reducible show wpPlan _ _ _ ((_, 2, _) :: _) _ _ _); first | (refine wpPlan_eff rfl ?hw (fun _ _ => ?_); case hw => ((conv => (lhs; whnf)); first | done | with_reducible rfl)) | (refine wpPlan_skip2 rfl ?hw ?_; (case hw => ((conv => (lhs; whnf)); first | done | with_reducible rfl)); (try simp only [List.getElem_toArray, List.getElem_cons_succ, List.getElem_cons_zero, Act.put, List.setIfInBounds_toArray, List.set_cons_zero, List.set_cons_succ]))) | ((with_reducible show wpPlan _ _ _ _ _ _ _); refine wpPlan_fork ?_ ?_) | ((with_reducible show Owed _ _ _ [] _ _ _ _ _); refine Owed.none_ ?_) | ((with_reducible show Owed _ _ _ _ [] _ _ _ _); refine Owed.nil_ ?_) | ((with_reducible show Owed _ _ _ _ _ _ _ _ _); first | (refine Owed.miss rfl ?_) | (refine Owed.hit ?_ ?_)) | ((with_reducible show Same _ _ _ _ _); intro _; go_simp; done) | (with_reducible exact True.intro) | ((with_reducible show Code.wp _ (Code.region 5 _ true) _ _ _); refine wp_region_plan [(0, 1, []), (1, 1, []), (3, 1, []), (4, 1, []), (5, 0, []), (6, 1, []), (7, 1, []), (2, 2, [0, 1, 3, 4, 6, 7]), (8, 2, [0, 1]), (9, 2, [0, 1]), (10, 2, []), (11, 1, []), (12, 2, [])] (by kernel_rfl) (by kernel_rfl) (by kernel_rfl) ?_))
      unfold Stop7
      rw [Nat.zero_add, List.nil_append] at hown8
      have hg8 : ((wr.alloc (Obj.cells #[] 55)).drew).grownBy w8 (some wr.heap.size) := hgrow8
      have hO8 : Outside (fun g => g = wr.heap.size) wr w8 := ((Outside.refl (fun g => g = wr.heap.size) wr).alloc (Obj.cells #[] 55)).drew.grown hg8 (fun z hz => by cases hz; exact .inl rfl)
      have hb8 : Below wr.heap.size wr w8 := hO8.below (Nat.le_refl _) (fun k hk e => by omega)
      have hv8 : ∀ g, v8.ownBlock = some g → wr.heap.size ≤ g := fun g hg => by
        rcases hat8 with h | h
        · have h1 : some wr.heap.size = some g := h.symm.trans hg
          simp at h1; omega
        · have h1 := h.symm.trans hg
          simp at h1; omega
      obtain ⟨A8, c8, rfl, hnc8, _⟩ := own_form hown8
      have hA8 : ∃ g8, A8 = some ⟨g8, 0, none⟩ := by
        rcases hown8.2 with ⟨e, _⟩ | ⟨g', cap, cur, e, _⟩
        · cases e
          rcases hat8 with h | h
          · simp [Value.ownBlock] at h
          · simp [Value.ownBlock] at h
        · cases e
          exact ⟨g', rfl⟩
      obtain ⟨g8, rfl⟩ := hA8
      have hAO : ArcOwn w8 (w.heap.size + 3) bd (.slice (some ⟨g8, 0, none⟩) n' c8) := ⟨g8, n', c8, l, rfl, hown8, by omega, Nat.le_trans hsz (hv8 g8 rfl)⟩
      have HAO := Lib.hid hAO
      have HV8 := Lib.hid (hv8 g8 rfl)
      have HRW := Lib.hid (HW.out.1.out (R := fun g => wr.heap.size ≤ g) (Outside.ofBelow hb8 (fun _ h => h)) (fun g _ h1 h2 => by omega))
      have HX := Lib.hid (And.intro (HW.out.2.1.below hb8 hbl) (And.intro (HW.out.2.2.1.below hb8 HW.out.2.2.1.lt) (And.intro (HW.out.2.2.2.1.below hb8 hql) (HW.out.2.2.2.2.trans (hb8.mono HW.out.2.2.2.2.size)))))
      have hs8 := hb8.size
      have q8c := HX.out.2.2.1.cell
      have q8l := HX.out.2.2.1.lt
      clear hown8 hgrow8 hat8 hg8 hO8 hb8 hv8 hAO
      go_wp2_with (first | ((with_reducible show wpPlan _ _ _ ((10, 2, _) :: _) _ _ _); refine wpPlan_eff rfl rfl (fun _ hK => ?_); refine app_blk slRow rfl (World.ownsRow.alloc HRW.out.own _) rfl (news := [.slice (some ⟨g8, 0, none⟩) n' c8]) ((heap_alloc_at rfl) : Blk _ w8.heap.size _ _) rfl rfl (by simp [Value.oneCell']) (by decide) (by unfold maxLen; omega) (by omega) ?_; intro g9 c9 w9 hown9 hgrow9 hat9; refine hK _ _ ?_; refine Stop7.intro ?_) | ((with_reducible show wpPlan _ _ _ [] _ _ _); refine wpPlan_nil ?_) | ((with_reducible show wpPlan _ _ _ ((_, 0, _) :: _) _ _ _); first | (refine wpPlan_read0 rfl ?hw rfl (fun _ _ _ => ?_); case hw => ((conv => (lhs; whnf)); first | done | with_reducible rfl)) | (refine wpPlan_skip0 rfl ?hw ?_; (case hw => ((conv => (lhs; whnf)); first | done | with_reducible rfl)); (try simp only [List.getElem_toArray, List.getElem_cons_succ, List.getElem_cons_zero, Act.put, List.setIfInBounds_toArray, List.set_cons_zero, List.set_cons_succ]))) | ((with_reducible show wpPlan _ _ _ ((_, 1, _) :: _) _ _ _); first | (refine wpPlan_read1d rfl ?hw rfl rfl (fun _ _ _ => ?_); case hw => ((conv => (lhs; whnf)); first | done | with_reducible rfl)) | (refine wpPlan_skip1d rfl ?hw ?_; (case hw => ((conv => (lhs; whnf)); first | done | with_reducible rfl)); (try simp only [List.getElem_toArray, List.getElem_cons_succ, List.getElem_cons_zero, Act.put, List.setIfInBounds_toArray, List.set_cons_zero, List.set_cons_succ])) | (refine wpPlan_read1 rfl ?hw rfl (fun _ _ _ => ?_); case hw => ((conv => (lhs; whnf)); first | done | with_reducible rfl))) | ((with_reducible show wpPlan _ _ _ ((_, 2, _) :: _) _ _ _); first | (refine wpPlan_eff rfl ?hw (fun _ _ => ?_); case hw => ((conv => (lhs; whnf)); first | done | with_reducible rfl)) | (refine wpPlan_skip2 rfl ?hw ?_; (case hw => ((conv => (lhs; whnf)); first | done | with_reducible rfl)); (try simp only [List.getElem_toArray, List.getElem_cons_succ, List.getElem_cons_zero, Act.put, List.setIfInBounds_toArray, List.set_cons_zero, List.set_cons_succ]))) | ((with_reducible show wpPlan _ _ _ _ _ _ _); refine wpPlan_fork ?_ ?_) | ((with_reducible show Owed _ _ _ [] _ _ _ _ _); refine Owed.none_ ?_) | ((with_reducible show Owed _ _ _ _ [] _ _ _ _); refine Owed.nil_ ?_) | ((with_reducible show Owed _ _ _ _ _ _ _ _ _); first | (refine Owed.miss rfl ?_) | (refine Owed.hit ?_ ?_)) | ((with_reducible show Same _ _ _ _ _); intro _; go_simp; done) | (with_reducible exact True.intro) | ((with_reducible show Code.wp _ (Code.region 5 _ true) _ _ _); refine wp_region_plan [(0, 1, []), (1, 1, []), (3, 1, []), (4, 1, []), (5, 0, []), (6, 1, []), (7, 1, []), (2, 2, [0, 1, 3, 4, 6, 7]), (8, 2, [0, 1]), (9, 2, [0, 1]), (10, 2, []), (11, 1, []), (12, 2, [])] (by kernel_rfl) (by kernel_rfl) (by kernel_rfl) ?_))
      unfold Stop7
      have hO9 : Outside (fun g => (Value.slice Aq k cq).ownBlock = some g) w8 w9 := ((Outside.refl (fun g => (Value.slice Aq k cq).ownBlock = some g) w8).alloc (.cells #[.slice (some ⟨g8, 0, none⟩) n' c8] 49)).grown hgrow9 (fun z hz => .inl hz)
      have hg9 : ∀ g, (Value.slice (some ⟨g9, 0, none⟩) (k + 1) c9).ownBlock = some g → w.heap.size + 3 ≤ g := fun g hg => by
        have h1 : g9 = g := by simpa [Value.ownBlock] using hg
        rcases hat9 with h | h
        · have := HRW.out.base g9 h
          omega
        · simp at h
          omega
      have hS := HRW.out.snoc hown9 hg9 hO9 HAO.out (fun j u' g h1 h2 h3 => by
        have h4 := (HW.out.1.rows j u' h1).lt h2
        have h5 : g8 = g := by simpa [Value.ownBlock] using h3
        have := HV8.out
        omega)
      have hnq : ∀ g, g < w.heap.size + 3 → ¬ (Value.slice Aq k cq).ownBlock = some g := fun g h1 h2 => by have := HRW.out.base g h2; omega
      have hOq : Outside (fun g => g = w.heap.size + 1 + 1) w9 (w9.setCell ⟨w.heap.size + 1 + 1, 0, none⟩ (.slice (some ⟨g9, 0, none⟩) (k + 1) c9)) := (Outside.refl (fun g => g = w.heap.size + 1 + 1) w9).setCell (p := ⟨w.heap.size + 1 + 1, 0, none⟩) (.inl rfl) _
      have hq9 := HX.out.2.2.1.out hO9 (hnq _ (by omega))
      have HZ := Lib.hid (And.intro (hS.out hOq (fun g h1 _ => by omega)) (And.intro ((HX.out.1.out hO9 (hnq _ (by omega))).out hOq (by omega)) (And.intro ((HX.out.2.1.out hO9 (hnq _ (by omega))).out hOq (by omega)) (And.intro (hq9.put 0 (.slice (some ⟨g9, 0, none⟩) (k + 1) c9)) ((HX.out.2.2.2.trans (hO9.below (by omega) (fun g h1 h2 => by have := HRW.out.base g h2; omega))).setCell (p := ⟨w.heap.size + 1 + 1, 0, none⟩) (by dsimp only; omega) (.slice (some ⟨g9, 0, none⟩) (k + 1) c9))))))
      have q9c := hq9.cell
      have q9l := hq9.lt
      have q9f := hq9.frozen
      have hsz9 : w.heap.size + 3 ≤ (w9.setCell ⟨w.heap.size + 1 + 1, 0, none⟩ (.slice (some ⟨g9, 0, none⟩) (k + 1) c9)).heap.size := Nat.le_trans hsz (Nat.le_trans hs8 (Nat.le_trans hO9.size hOq.size))
      have HS9 := Lib.hid hsz9
      clear hO9 hg9 hS hnq hOq hq9 hown9 hgrow9 hat9 hsz9
      go_wp2_with (first | ((with_reducible show wpPlan _ _ _ [] _ _ _); refine wpPlan_nil ?_) | ((with_reducible show wpPlan _ _ _ ((_, 0, _) :: _) _ _ _); first | (refine wpPlan_read0 rfl ?hw rfl (fun _ _ _ => ?_); case hw => ((conv => (lhs; whnf)); first | done | with_reducible rfl)) | (refine wpPlan_skip0 rfl ?hw ?_; (case hw => ((conv => (lhs; whnf)); first | done | with_reducible rfl)); (try simp only [List.getElem_toArray, List.getElem_cons_succ, List.getElem_cons_zero, Act.put, List.setIfInBounds_toArray, List.set_cons_zero, List.set_cons_succ]))) | ((with_reducible show wpPlan _ _ _ ((_, 1, _) :: _) _ _ _); first | (refine wpPlan_read1d rfl ?hw rfl rfl (fun _ _ _ => ?_); case hw => ((conv => (lhs; whnf)); first | done | with_reducible rfl)) | (refine wpPlan_skip1d rfl ?hw ?_; (case hw => ((conv => (lhs; whnf)); first | done | with_reducible rfl)); (try simp only [List.getElem_toArray, List.getElem_cons_succ, List.getElem_cons_zero, Act.put, List.setIfInBounds_toArray, List.set_cons_zero, List.set_cons_succ])) | (refine wpPlan_read1 rfl ?hw rfl (fun _ _ _ => ?_); case hw => ((conv => (lhs; whnf)); first | done | with_reducible rfl))) | ((with_reducible show wpPlan _ _ _ ((_, 2, _) :: _) _ _ _); first | (refine wpPlan_eff rfl ?hw (fun _ _ => ?_); case hw => ((conv => (lhs; whnf)); first | done | with_reducible rfl)) | (refine wpPlan_skip2 rfl ?hw ?_; (case hw => ((conv => (lhs; whnf)); first | done | with_reducible rfl)); (try simp only [List.getElem_toArray, List.getElem_cons_succ, List.getElem_cons_zero, Act.put, List.setIfInBounds_toArray, List.set_cons_zero, List.set_cons_succ]))) | ((with_reducible show wpPlan _ _ _ _ _ _ _); refine wpPlan_fork ?_ ?_) | ((with_reducible show Owed _ _ _ [] _ _ _ _ _); refine Owed.none_ ?_) | ((with_reducible show Owed _ _ _ _ [] _ _ _ _); refine Owed.nil_ ?_) | ((with_reducible show Owed _ _ _ _ _ _ _ _ _); first | (refine Owed.miss rfl ?_) | (refine Owed.hit ?_ ?_)) | ((with_reducible show Same _ _ _ _ _); intro _; go_simp; done) | (with_reducible exact True.intro) | ((with_reducible show Code.wp _ (Code.region 5 _ true) _ _ _); refine wp_region_plan [(0, 1, []), (1, 1, []), (3, 1, []), (4, 1, []), (5, 0, []), (6, 1, []), (7, 1, []), (2, 2, [0, 1, 3, 4, 6, 7]), (8, 2, [0, 1]), (9, 2, [0, 1]), (10, 2, []), (11, 1, []), (12, 2, [])] (by kernel_rfl) (by kernel_rfl) (by kernel_rfl) ?_))
      go_roundw
      case rel => exact ⟨k + 1, _, _, by omega, by go_num, HS9.out, HZ⟩
      case measure => simp [intOf]; omega
    · have hkn : k = n := by omega
      subst hkn
      have hrf := HW.out.2.2.1.frozen
      have hrc := HW.out.2.2.1.cell
      have hrl := HW.out.2.2.1.lt
      have hput := (HW.out.2.2.1.put 0 (.slice Aq k cq)).cell 0
      have HZ := Lib.hid (And.intro (HW.out.1.out (R := fun g => g = w.heap.size + 1) ((Outside.refl (fun g => g = w.heap.size + 1) wr).setCell (p := ⟨w.heap.size + 1, 0, none⟩) (.inl rfl) (.slice Aq k cq)) (fun g h1 _ => by omega)) (HW.out.2.2.2.2.setCell (p := ⟨w.heap.size + 1, 0, none⟩) (by simp) (.slice Aq k cq)))
      go_wp2_with fail
      refine bodyPost_ret (v := .agg #[.slice Aq k cq]) (by simp [results, Try.results43, go_sem, hput]) rfl ?_
      exact ⟨⟨_, xs, rfl, HZ.out.1⟩, HZ.out.2⟩

end Go.Proofs.Ytonpdclccgpceaa
