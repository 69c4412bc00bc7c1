/- the reference's Both -/
import Derived.Test.YtmciinikfjfegaaSgV4
import Derived.Test.YtmciinikfjfegaaSgV3
namespace Go.Proofs.Ytmciinikfjfegaa
open Go Go.RowKit
set_option maxHeartbeats 2000000

theorem wrap_fit {z : Int} (h : 0 ≤ z ∧ z < 9223372036854775808) : wrap64 z = z := by unfold wrap64; omega
/-- the row moved by m states, as the machine reckons -/
def mvdW (m : Nat) (l : List Arc) : List Arc := l.map fun x => ⟨x.ev, wrap64 (x.to + (m : Int))⟩
def bothW (a b : List (List Arc)) : List (List Arc) := a ++ b.map (mvdW a.length)
theorem mvdW_len (m : Nat) (l : List Arc) : (mvdW m l).length = l.length := by simp [mvdW]
theorem mvdW_take {m k : Nat} {l : List Arc} {x : Arc} (h : l[k]? = some x) : mvdW m (l.take (k + 1)) = mvdW m (l.take k) ++ [⟨x.ev, wrap64 (x.to + (m : Int))⟩] := by
  rw [mvdW, mvdW, List.take_add_one, h, List.map_append]
  rfl
theorem bothW_eq {a b : List (List Arc)} (ha : a.length ≤ 1000000000) (h : ∀ l ∈ b, ∀ x ∈ l, 0 ≤ x.to ∧ x.to ≤ 1000000000) : bothW a b = bothL a b := by
  rw [bothW, both_mvd]
  congr 1
  refine List.map_congr_left fun l hl => ?_
  rw [mvdW, mvd]
  refine List.map_congr_left fun x hx => ?_
  have := h l hl x hx
  rw [wrap_fit (by omega)]
theorem bothW_take {a b : List (List Arc)} {k : Nat} {l : List Arc} (h : b[k]? = some l) : a ++ (b.take (k + 1)).map (mvdW a.length) = (a ++ (b.take k).map (mvdW a.length)) ++ [mvdW a.length l] := by
  rw [List.take_add_one, h, List.map_append, List.append_assoc]
  rfl

theorem RdL.start {w : World} {B n : Nat} {A : Option Addr} {ls : List (List Arc)} (h : RdL w B A n ls) : ∃ vs, Rd w B 1 A n vs ∧ (∀ u ∈ vs, u.oneCell' = true) ∧ ∀ (w' : World) (v : Value) (W : Nat), w'.ownsRow 0 24 1 v n vs → (∀ g, v.ownBlock = some g → W ≤ g) → Below B w w' → RowsM w' B W v n vs ls := by
  obtain ⟨vs, h1, h2, h3⟩ := h
  refine ⟨vs, h1, fun u hu => ?_, fun w' v W ho hb hB => ⟨ho, hb, h2, fun j l hl => ?_⟩⟩
  · obtain ⟨i, hi⟩ := List.getElem?_of_mem hu
    have hlt := (List.getElem?_eq_some_iff.1 hi).1
    have hv := h1.1
    obtain ⟨A', n', c', h4, _⟩ := h3 i (ls[i]'(by omega)) (List.getElem?_eq_getElem _)
    rw [h4] at hi
    cases hi
    rfl
  · obtain ⟨A', n', c', h4, h5⟩ := h3 j l hl
    exact ⟨_, h4, .inl ⟨A', n', c', rfl, h5.below hB⟩⟩

set_option maxRecDepth 100000 in
theorem both_any (A A' : Option Addr) (n c n' c' B : Nat) (la lb : List (List Arc)) (w : World) (h : RdL w B A n la) (h' : RdL w B A' n' lb) (hB : B ≤ w.heap.size) (hn : n ≤ 1000000) (hn' : n' ≤ 1000000) (hs : ∀ l ∈ lb, l.length ≤ 1000000) :
    Calls Try.prog 23 #[lts A n c, lts A' n' c'] w fun e w' => (∃ (A2 : Option Addr) (c2 : Nat), e = .returned (lts A2 (n + n') c2) ∧ RdL w' w'.heap.size A2 (n + n') (bothW la lb)) ∧ Below w.heap.size w w' := by
  have HS := Lib.hid hs
  have HL := Lib.hid h.len
  have HL' := Lib.hid h'.len
  have hst := h.start
  obtain ⟨vs, hv1, hv2, hv3⟩ := hst
  have HV1 := Lib.hid ((((hv1.alloc hB (.cells #[.slice A n c] 27)).alloc (by simp; omega) (.cells #[.slice A' n' c'] 27)).alloc (by simp; omega) (.cells #[.slice none 0 0] 27)).alloc (by simp; omega) (.cells #[.slice none 0 0] 27))
  have HV2 := Lib.hid hv2
  have HV3 := Lib.hid hv3
  have H' := Lib.hid h'
  have HW0 := Lib.hid (show Blk ((((w.alloc (.cells #[.slice A n c] 27)).alloc (.cells #[.slice A' n' c'] 27)).alloc (.cells #[.slice none 0 0] 27)).alloc (.cells #[.slice none 0 0] 27)) (w.heap.size + 1) 27 #[.slice A' n' c'] ∧
      Blk ((((w.alloc (.cells #[.slice A n c] 27)).alloc (.cells #[.slice A' n' c'] 27)).alloc (.cells #[.slice none 0 0] 27)).alloc (.cells #[.slice none 0 0] 27)) (w.heap.size + 1 + 1) 27 #[.slice none 0 0] ∧
      Blk ((((w.alloc (.cells #[.slice A n c] 27)).alloc (.cells #[.slice A' n' c'] 27)).alloc (.cells #[.slice none 0 0] 27)).alloc (.cells #[.slice none 0 0] 27)) (w.heap.size + 1 + 1 + 1) 27 #[.slice none 0 0] ∧
      Below w.heap.size w ((((w.alloc (.cells #[.slice A n c] 27)).alloc (.cells #[.slice A' n' c'] 27)).alloc (.cells #[.slice none 0 0] 27)).alloc (.cells #[.slice none 0 0] 27)) from
    ⟨((show Blk ((w.alloc (.cells #[.slice A n c] 27)).alloc (.cells #[.slice A' n' c'] 27)) (w.heap.size + 1) 27 #[.slice A' n' c'] from heap_alloc_at (by simp)).alloc _).alloc _,
      (show Blk (((w.alloc (.cells #[.slice A n c] 27)).alloc (.cells #[.slice A' n' c'] 27)).alloc (.cells #[.slice none 0 0] 27)) (w.heap.size + 1 + 1) 27 #[.slice none 0 0] from heap_alloc_at (by simp)).alloc _, heap_alloc_at (by simp),
      ((((Below.refl w.heap.size w).alloc (Nat.le_refl _) _).alloc (by simp) _).alloc (by simp; omega) _).alloc (by simp; omega) _⟩)
  obtain ⟨W4, hW4⟩ : ∃ W4, ((((w.alloc (.cells #[.slice A n c] 27)).alloc (.cells #[.slice A' n' c'] 27)).alloc (.cells #[.slice none 0 0] 27)).alloc (.cells #[.slice none 0 0] 27)) = W4 := ⟨_, rfl⟩
  have hs4 : W4.heap.size = w.heap.size + 4 := by rw [← hW4]; simp
  have HW4 := Lib.hid hW4
  clear hW4
  clear h h' hs hv1 hv2 hv3
  go_enter Try.func23, Try.ntmps23
  go_wp2_with (first | (at_builtin; go_must (refine wpList_plain rfl fun _ hK => app_opt slRow rfl (World.ownsRow_nil _ _ _ _) rfl HV1.out rfl HV2.out (by unfold maxLen; omega) (by omega) ?_); intro v8 w8 hown8 hgrow8 hat8; refine hK _ _ ?_; refine Stop7.intro ?_) | ((with_reducible show wpPlan _ _ _ _ _ (Act.put _ _ _) _); simp only [List.getElem_toArray, List.getElem_cons_succ, List.getElem_cons_zero, Act.put, List.setIfInBounds_toArray, List.set_cons_zero, List.set_cons_succ]) | ((with_reducible show wpPlan _ _ _ _ _ _ _); first | refine wpPlan_nil ?_ | (refine wpPlan_read0 rfl ?hw rfl (fun _ _ _ => ?_); case hw => ((conv => (lhs; whnf)); first | done | with_reducible rfl)) | (refine wpPlan_read1d rfl ?hw rfl rfl (fun _ _ _ => ?_); case hw => ((conv => (lhs; whnf)); first | done | with_reducible rfl)) | (refine wpPlan_eff rfl ?hw (fun _ _ => ?_); case hw => ((conv => (lhs; whnf)); first | done | with_reducible rfl)) | (refine wpPlan_skip0 rfl ?hw ?_; case hw => ((conv => (lhs; whnf)); first | done | with_reducible rfl)) | (refine wpPlan_skip1d rfl ?hw ?_; case hw => ((conv => (lhs; whnf)); first | done | with_reducible rfl)) | (refine wpPlan_skip2 rfl ?hw ?_; case hw => ((conv => (lhs; whnf)); first | done | with_reducible rfl)) | (refine wpPlan_read1 rfl ?hw rfl (fun _ _ _ => ?_); case hw => ((conv => (lhs; whnf)); first | done | with_reducible rfl)) | refine wpPlan_fork ?_ ?_) | ((with_reducible show Owed _ _ _ _ _ _ _ _ _); first | refine Owed.none_ ?_ | refine Owed.nil_ ?_ | refine Owed.miss rfl ?_ | refine Owed.hit ?_ ?_) | ((with_reducible show Same _ _ _ _ _); intro _; go_simp; done) | (with_reducible exact True.intro) | ((with_reducible show Code.wp _ (Code.region 11 _ true) _ _ _); refine wp_region_plan [(0, 0, []), (1, 1, []), (2, 1, []), (3, 0, []), (4, 1, []), (5, 1, []), (6, 0, []), (7, 1, []), (8, 1, []), (9, 1, []), (10, 1, []), (11, 1, []), (12, 0, []), (13, 1, []), (14, 1, []), (15, 0, []), (16, 1, []), (17, 1, []), (18, 1, []), (19, 0, []), (20, 1, []), (21, 1, []), (22, 2, []), (23, 2, []), (24, 0, [])] (by kernel_rfl) (by kernel_rfl) (by kernel_rfl) ?_))
  unfold Stop7
  clear hK
  rw [HW4.out] at HW0 hgrow8 hat8
  rw [Nat.zero_add, List.nil_append] at hown8
  have hO8 : Outside (fun _ => False) W4 w8 := (Outside.refl _ W4).grown hgrow8 (fun z hz => by simp [Value.ownBlock] at hz)
  have hb8 : Below W4.heap.size W4 w8 := hO8.toBelow
  have hs8 := hb8.size
  have HG8 := Lib.hid (show ∀ g, v8.ownBlock = some g → w.heap.size + 4 ≤ g from fun g hg => by
    rcases hat8 with h | h
    · rw [hg] at h; simp [Value.ownBlock] at h
    · rw [hg] at h; simp at h; omega)
  have HM8 := Lib.hid (HV3.out w8 v8 (w.heap.size + 4) hown8 HG8.out ((HW0.out.2.2.2.trans (hb8.mono (by omega))).mono hB))
  have HX8 := Lib.hid (And.intro (HW0.out.1.below hb8 (by omega)) (And.intro (HW0.out.2.1.below hb8 (by omega)) (And.intro (HW0.out.2.2.1.below hb8 (by omega)) (HW0.out.2.2.2.trans (hb8.mono (by omega))))))
  obtain ⟨A8, c8, rfl, _, _⟩ := own_form hown8
  clear hown8 hgrow8 hat8 hO8 hb8
  have o8c := HX8.out.2.2.1.cell
  have o8l := HX8.out.2.2.1.lt
  have o8f := HX8.out.2.2.1.frozen
  have hO9 : Outside (fun x => x = w.heap.size + 1 + 1 + 1) w8 (w8.setCell ⟨w.heap.size + 1 + 1 + 1, 0, none⟩ (.slice A8 n c8)) := (Outside.refl (fun x => x = w.heap.size + 1 + 1 + 1) w8).setCell (p := ⟨w.heap.size + 1 + 1 + 1, 0, none⟩) (.inl rfl) _
  have HY := Lib.hid (show RowsM (w8.setCell ⟨w.heap.size + 1 + 1 + 1, 0, none⟩ (.slice A8 n c8)) B (w.heap.size + 4) (.slice A8 n c8) n vs la ∧ Blk (w8.setCell ⟨w.heap.size + 1 + 1 + 1, 0, none⟩ (.slice A8 n c8)) (w.heap.size + 1) 27 #[.slice A' n' c'] ∧ Blk (w8.setCell ⟨w.heap.size + 1 + 1 + 1, 0, none⟩ (.slice A8 n c8)) (w.heap.size + 1 + 1) 27 #[.slice none 0 0] ∧
      Blk (w8.setCell ⟨w.heap.size + 1 + 1 + 1, 0, none⟩ (.slice A8 n c8)) (w.heap.size + 1 + 1 + 1) 27 #[.slice A8 n c8] ∧ Below w.heap.size w (w8.setCell ⟨w.heap.size + 1 + 1 + 1, 0, none⟩ (.slice A8 n c8)) from
    ⟨HM8.out.out hO9 (fun g h1 _ => by omega) ((Below.refl B w8).setCell (p := ⟨w.heap.size + 1 + 1 + 1, 0, none⟩) (by dsimp only; omega) _), HX8.out.1.out hO9 (by omega), HX8.out.2.1.out hO9 (by omega), HX8.out.2.2.1.put 0 _, HX8.out.2.2.2.setCell (p := ⟨w.heap.size + 1 + 1 + 1, 0, none⟩) (by dsimp only; omega) _⟩)
  clear hO9
  go_wp2_with fail
  clear o8c o8l o8f
  go_loopw [7] (fun vk wr => ∃ s : Nat, s ≤ n' ∧ vk = .int .i64 s ∧ ∃ (A9 : Option Addr) (c9 : Nat) (xs : List Value), Hid (RowsM wr B (w.heap.size + 4) (.slice A9 (n + s) c9) (n + s) xs (la ++ (lb.take s).map (mvdW n)) ∧ Blk wr (w.heap.size + 1) 27 #[.slice A' n' c'] ∧ Blk wr (w.heap.size + 1 + 1) 27 #[.slice none 0 0] ∧ Blk wr (w.heap.size + 1 + 1 + 1) 27 #[.slice A9 (n + s) c9] ∧ Below w.heap.size w wr)) (fun vk _ => n' - (intOf vk).toNat)
  case atStart => exact ⟨0, Nat.zero_le _, rfl, A8, c8, vs, Lib.hid ⟨by simpa using HY.out.1, HY.out.2.1, HY.out.2.2.1, HY.out.2.2.2.1, HY.out.2.2.2.2⟩⟩
  case round =>
    obtain ⟨s, hs, rfl, A9, c9, xs, HW⟩ := hrel
    have b3c := HW.out.2.1.cell
    have b3l := HW.out.2.1.lt
    have b4c := HW.out.2.2.1.cell
    have b4l := HW.out.2.2.1.lt
    have b6c := HW.out.2.2.2.1.cell
    have b6l := HW.out.2.2.2.1.lt
    have b4f := HW.out.2.2.1.frozen
    have b6f := HW.out.2.2.2.1.frozen
    have hsz := HW.out.2.2.2.2.size
    by_cases hlt : s < n'
    · obtain ⟨b1, o1, l, A1, n1, c1, rfl, hb1, hl, hln, e0, hrow⟩ := (H'.out.below (w' := wr) (HW.out.2.2.2.2.mono hB)).row hlt
      have HROW := Lib.hid (hrow.more (show B ≤ wr.heap.size by omega))
      have hl1 : n1 ≤ 1000000 := by have := HS.out l (List.mem_of_getElem? hl); omega
      have HLX := Lib.hid hl
      have HE0 := Lib.hid e0
      have HB3 := Lib.hid HW.out.2.1
      have hb1l : b1 < wr.heap.size := by omega
      clear hl hrow
      go_wp2_with fail
      go_loopw [8, 9] (fun vr vi wi => ∃ i : Nat, i ≤ n1 ∧ vi = .int .i64 i ∧ ∃ (A2 : Option Addr) (c2 : Nat), vr = .slice A2 i c2 ∧ Hid (wi.ownsRow 0 23 2 (.slice A2 i c2) i (cellsOf Arc.cells (mvdW n (l.take i))) ∧ (∀ g, (Value.slice A2 i c2).ownBlock = some g → wr.heap.size ≤ g) ∧ Below wr.heap.size wr wi)) (fun _ vi _ => n1 - (intOf vi).toNat)
      case atStart => exact ⟨0, Nat.zero_le _, rfl, none, 0, rfl, Lib.hid ⟨World.ownsRow_nil _ _ _ _, fun g hg => by simp [Value.ownBlock] at hg, Below.refl _ _⟩⟩
      case round =>
        obtain ⟨i, hi, rfl, A2, c2, rfl, HI⟩ := hrel
        have k3 := HB3.out.below HI.out.2.2 HB3.out.lt
        have n3c := k3.cell
        have n3l := k3.lt
        have e1 := (HI.out.2.2.cell (p := ⟨b1, o1 + s, none⟩) hb1l).trans HE0.out
        have hs1 := HI.out.2.2.size
        have HO := Lib.hid HI.out.1
        have hb1w : b1 < wr.heap.size := by omega
        clear k3
        by_cases hil : i < n1
        · obtain ⟨b5, o5, x, rfl, hb5, hx, x0, x1⟩ := (HROW.out.below HI.out.2.2).arc hil
          have hb5w : b5 < wr.heap.size := by omega
          have HX := Lib.hid hx
          clear hx
          go_wp2_with (first | ((with_reducible show wpPlan _ _ _ ((23, 2, _) :: _) _ _ _); refine wpPlan_eff rfl rfl (fun _ hK => ?_); refine app_blk slArc rfl ((HO.out.alloc _).drew) rfl (news := [.int .i64 x.ev, .int .i64 (wrap64 (x.to + (n : Int)))]) ((heap_alloc_at rfl) : Blk _ wr.heap.size _ _) rfl rfl (by simp [Value.oneCell']) (by decide) (by unfold maxLen; omega) (by omega) ?_; intro g8 c8 w8 hown8 hgrow8 hat8; refine hK _ _ ?_; refine Stop7.intro ?_) | ((with_reducible show wpPlan _ _ _ _ _ (Act.put _ _ _) _); simp only [List.getElem_toArray, List.getElem_cons_succ, List.getElem_cons_zero, Act.put, List.setIfInBounds_toArray, List.set_cons_zero, List.set_cons_succ]) | ((with_reducible show wpPlan _ _ _ _ _ _ _); first | refine wpPlan_nil ?_ | (refine wpPlan_read0 rfl ?hw rfl (fun _ _ _ => ?_); case hw => ((conv => (lhs; whnf)); first | done | with_reducible rfl)) | (refine wpPlan_read1d rfl ?hw rfl rfl (fun _ _ _ => ?_); case hw => ((conv => (lhs; whnf)); first | done | with_reducible rfl)) | (refine wpPlan_eff rfl ?hw (fun _ _ => ?_); case hw => ((conv => (lhs; whnf)); first | done | with_reducible rfl)) | (refine wpPlan_skip0 rfl ?hw ?_; case hw => ((conv => (lhs; whnf)); first | done | with_reducible rfl)) | (refine wpPlan_skip1d rfl ?hw ?_; case hw => ((conv => (lhs; whnf)); first | done | with_reducible rfl)) | (refine wpPlan_skip2 rfl ?hw ?_; case hw => ((conv => (lhs; whnf)); first | done | with_reducible rfl)) | (refine wpPlan_read1 rfl ?hw rfl (fun _ _ _ => ?_); case hw => ((conv => (lhs; whnf)); first | done | with_reducible rfl)) | refine wpPlan_fork ?_ ?_) | ((with_reducible show Owed _ _ _ _ _ _ _ _ _); first | refine Owed.none_ ?_ | refine Owed.nil_ ?_ | refine Owed.miss rfl ?_ | refine Owed.hit ?_ ?_) | ((with_reducible show Same _ _ _ _ _); intro _; go_simp; done) | (with_reducible exact True.intro) | ((with_reducible show Code.wp _ (Code.region 11 _ true) _ _ _); refine wp_region_plan [(0, 0, []), (1, 1, []), (2, 1, []), (3, 0, []), (4, 1, []), (5, 1, []), (6, 0, []), (7, 1, []), (8, 1, []), (9, 1, []), (10, 1, []), (11, 1, []), (12, 0, []), (13, 1, []), (14, 1, []), (15, 0, []), (16, 1, []), (17, 1, []), (18, 1, []), (19, 0, []), (20, 1, []), (21, 1, []), (22, 2, []), (23, 2, []), (24, 0, [])] (by kernel_rfl) (by kernel_rfl) (by kernel_rfl) ?_))
          unfold Stop7
          have hg8 : ((wr.alloc (.cells #[.int .i64 x.ev, .int .i64 (wrap64 (x.to + (n : Int)))] 23)).drew).grownBy w8 (Value.slice A2 i c2).ownBlock := hgrow8
          have hO8 : Outside (fun g => (Value.slice A2 i c2).ownBlock = some g) wr w8 := (((Outside.refl (fun g => (Value.slice A2 i c2).ownBlock = some g) wr).alloc (.cells #[.int .i64 x.ev, .int .i64 (wrap64 (x.to + (n : Int)))] 23)).drew).grown hg8 (fun z hz => .inl hz)
          have HB8 := Lib.hid (HI.out.2.2.trans (hO8.below hs1 (fun g hg e => by have := HI.out.2.1 g e; omega)))
          have HN8 := Lib.hid (show w8.ownsRow 0 23 2 (.slice (some ⟨g8, 0, none⟩) (i + 1) c8) (i + 1) (cellsOf Arc.cells (mvdW n (l.take (i + 1)))) from by
            rw [mvdW_take HX.out, cellsOf_append]
            exact hown8)
          have HG8' := Lib.hid (show ∀ g, (Value.slice (some ⟨g8, 0, none⟩) (i + 1) c8).ownBlock = some g → _ ≤ g from fun g hg => by
            have h1 : g8 = g := by simpa [Value.ownBlock] using hg
            rcases hat8 with h | h
            · exact HI.out.2.1 g (by rw [← h1]; exact h)
            · simp at h
              omega)
          clear hown8 hgrow8 hat8 hg8 hO8
          go_wp2_with (first | ((with_reducible show wpPlan _ _ _ _ _ (Act.put _ _ _) _); simp only [List.getElem_toArray, List.getElem_cons_succ, List.getElem_cons_zero, Act.put, List.setIfInBounds_toArray, List.set_cons_zero, List.set_cons_succ]) | ((with_reducible show wpPlan _ _ _ _ _ _ _); first | refine wpPlan_nil ?_ | (refine wpPlan_read0 rfl ?hw rfl (fun _ _ _ => ?_); case hw => ((conv => (lhs; whnf)); first | done | with_reducible rfl)) | (refine wpPlan_read1d rfl ?hw rfl rfl (fun _ _ _ => ?_); case hw => ((conv => (lhs; whnf)); first | done | with_reducible rfl)) | (refine wpPlan_eff rfl ?hw (fun _ _ => ?_); case hw => ((conv => (lhs; whnf)); first | done | with_reducible rfl)) | (refine wpPlan_skip0 rfl ?hw ?_; case hw => ((conv => (lhs; whnf)); first | done | with_reducible rfl)) | (refine wpPlan_skip1d rfl ?hw ?_; case hw => ((conv => (lhs; whnf)); first | done | with_reducible rfl)) | (refine wpPlan_skip2 rfl ?hw ?_; case hw => ((conv => (lhs; whnf)); first | done | with_reducible rfl)) | (refine wpPlan_read1 rfl ?hw rfl (fun _ _ _ => ?_); case hw => ((conv => (lhs; whnf)); first | done | with_reducible rfl)) | refine wpPlan_fork ?_ ?_) | ((with_reducible show Owed _ _ _ _ _ _ _ _ _); first | refine Owed.none_ ?_ | refine Owed.nil_ ?_ | refine Owed.miss rfl ?_ | refine Owed.hit ?_ ?_) | ((with_reducible show Same _ _ _ _ _); intro _; go_simp; done) | (with_reducible exact True.intro) | ((with_reducible show Code.wp _ (Code.region 11 _ true) _ _ _); refine wp_region_plan [(0, 0, []), (1, 1, []), (2, 1, []), (3, 0, []), (4, 1, []), (5, 1, []), (6, 0, []), (7, 1, []), (8, 1, []), (9, 1, []), (10, 1, []), (11, 1, []), (12, 0, []), (13, 1, []), (14, 1, []), (15, 0, []), (16, 1, []), (17, 1, []), (18, 1, []), (19, 0, []), (20, 1, []), (21, 1, []), (22, 2, []), (23, 2, []), (24, 0, [])] (by kernel_rfl) (by kernel_rfl) (by kernel_rfl) ?_))
          go_roundw
          case rel => exact ⟨i + 1, by omega, by go_num, some ⟨g8, 0, none⟩, c8, rfl, Lib.hid ⟨HN8.out, HG8'.out, HB8.out⟩⟩
          case measure => simp [intOf]; omega
        · obtain rfl : i = n1 := by omega
          have HM := Lib.hid (HW.out.1.out (Below.new HI.out.2.2) (fun _ _ _ e => e) (HI.out.2.2.mono (by omega)))
          have HX := Lib.hid (And.intro (HW.out.2.1.below HI.out.2.2 HW.out.2.1.lt) (And.intro (HW.out.2.2.1.below HI.out.2.2 HW.out.2.2.1.lt) (And.intro (HW.out.2.2.2.1.below HI.out.2.2 HW.out.2.2.2.1.lt) (HW.out.2.2.2.2.trans (HI.out.2.2.mono hsz)))))
          have q6c := HX.out.2.2.1.cell
          have q6l := HX.out.2.2.1.lt
          have q6f := HX.out.2.2.1.frozen
          clear b3c b4c b6c b4f b6f e0
          go_wp2_with (first | (at_builtin; go_must (refine appList_blk rfl slRow rfl (World.ownsRow.alloc HM.out.own _) rfl (news := [.slice A2 i c2]) ((heap_alloc_at rfl) : Blk _ wr.heap.size _ _) rfl rfl (by simp [Value.oneCell']) (by decide) (by unfold maxLen; omega) (by omega) ?_); intro g8 c8' w9 hown8 hgrow8 hat8; refine Stop7.intro ?_))
          unfold Stop7
          have hO9 : Outside (fun g => (Value.slice A9 (n + s) c9).ownBlock = some g) wr w9 := ((Outside.refl (fun g => (Value.slice A9 (n + s) c9).ownBlock = some g) wr).alloc (.cells #[.slice A2 i c2] 24)).grown hgrow8 (fun z hz => .inl hz)
          have hB9 : Below (w.heap.size + 4) wr w9 := hO9.below (by omega) (fun g hg e => by have := HM.out.base g e; omega)
          have HG9 := Lib.hid (show ∀ g, (Value.slice (some ⟨g8, 0, none⟩) (n + s + 1) c8').ownBlock = some g → w.heap.size + 4 ≤ g from fun g hg => by
            have h1 : g8 = g := by simpa [Value.ownBlock] using hg
            rcases hat8 with h | h
            · exact HM.out.base g (by rw [← h1]; exact h)
            · simp at h
              omega)
          have HM9 := Lib.hid (show RowsM w9 B (w.heap.size + 4) (.slice (some ⟨g8, 0, none⟩) (n + s + 1) c8') (n + s + 1) (xs ++ [.slice A2 i c2]) (la ++ (lb.take (s + 1)).map (mvdW n)) from by
            have h1 := bothW_take (a := la) HLX.out
            rw [HL.out] at h1
            rw [h1]
            have h2 := HI.out.1
            rw [List.take_of_length_le (by omega)] at h2
            exact HM.out.snoc hown8 HG9.out hO9 (hB9.mono (by omega)) (by rw [mvdW_len, hln]; exact h2) (fun g hg => by have := HI.out.2.1 g hg; omega))
          have HX9 := Lib.hid (And.intro (HX.out.1.out hO9 (fun e => by have := HM.out.base _ e; omega)) (And.intro (HX.out.2.1.out hO9 (fun e => by have := HM.out.base _ e; omega)) (And.intro (HX.out.2.2.1.out hO9 (fun e => by have := HM.out.base _ e; omega)) (HX.out.2.2.2.trans (hB9.mono (by omega))))))
          have hs9 := hB9.size
          clear hown8 hgrow8 hat8 hB9 hO9 q6c q6l q6f
          have hO10 : Outside (fun x => x = w.heap.size + 1 + 1 + 1) w9 (w9.setCell ⟨w.heap.size + 1 + 1 + 1, 0, none⟩ (.slice (some ⟨g8, 0, none⟩) (n + s + 1) c8')) := (Outside.refl (fun x => x = w.heap.size + 1 + 1 + 1) w9).setCell (p := ⟨w.heap.size + 1 + 1 + 1, 0, none⟩) (.inl rfl) _
          have HM10 := Lib.hid (HM9.out.out hO10 (fun g h1 _ => by omega) ((Below.refl B w9).setCell (p := ⟨w.heap.size + 1 + 1 + 1, 0, none⟩) (by dsimp only; omega) _))
          have HX10 := Lib.hid (And.intro (HX9.out.1.out hO10 (by omega)) (And.intro (HX9.out.2.1.out hO10 (by omega)) (And.intro (HX9.out.2.2.1.put 0 (.slice (some ⟨g8, 0, none⟩) (n + s + 1) c8')) (HX9.out.2.2.2.setCell (p := ⟨w.heap.size + 1 + 1 + 1, 0, none⟩) (by dsimp only; omega) (.slice (some ⟨g8, 0, none⟩) (n + s + 1) c8')))))
          have r6c := HX9.out.2.2.1.cell
          have r6l := HX9.out.2.2.1.lt
          have r6f := HX9.out.2.2.1.frozen
          clear hO10
          go_wp2_with fail
          go_roundw
          case rel => exact ⟨s + 1, by omega, by go_num, some ⟨g8, 0, none⟩, c8', _, Lib.hid ⟨HM10.out, HX10.out.1, HX10.out.2.1, HX10.out.2.2.1, HX10.out.2.2.2⟩⟩
          case measure => simp [intOf]; omega
    · obtain rfl : s = n' := by omega
      have hE : la ++ (lb.take s).map (mvdW n) = bothW la lb := by rw [List.take_of_length_le (by rw [HL'.out]; exact Nat.le_refl _), bothW, HL.out]
      have hO : Outside (fun x => x = w.heap.size + 1 + 1) wr (wr.setCell ⟨w.heap.size + 1 + 1, 0, none⟩ (.slice A9 (n + s) c9)) := (Outside.refl (fun x => x = w.heap.size + 1 + 1) wr).setCell (p := ⟨w.heap.size + 1 + 1, 0, none⟩) (.inl rfl) _
      have hm := HW.out.1.out hO (fun g h1 _ => by omega) ((Below.refl B wr).setCell (p := ⟨w.heap.size + 1 + 1, 0, none⟩) (by dsimp only; omega) _)
      rw [hE] at hm
      have HZ := Lib.hid (And.intro (hm.whole (by simp; omega)) (HW.out.2.2.2.2.setCell (p := ⟨w.heap.size + 1 + 1, 0, none⟩) (by dsimp only; omega) (.slice A9 (n + s) c9)))
      have hput := (HW.out.2.2.1.put 0 (.slice A9 (n + s) c9)).cell 0
      clear hE hO hm
      go_wp2_with fail
      refine bodyPost_ret (v := .agg #[.slice A9 (n + s) c9]) (by simp [results, Try.results23, go_sem, hput]) rfl ?_
      exact ⟨⟨A9, c9, rfl, HZ.out.1⟩, HZ.out.2⟩

end Go.Proofs.Ytmciinikfjfegaa
