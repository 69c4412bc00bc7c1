/- Equal of the program -/
import Derived.Test.YtmciinikfjfegaaSgE1
namespace Go.Proofs.Ytmciinikfjfegaa
open Go Go.RowKit
set_option maxHeartbeats 8000000

set_option maxRecDepth 100000 in
theorem equalL_any (A A' : Option Addr) (n c n' c' B : Nat) (la lb : List (List Arc)) (w : World) (h : RdL w B A n la) (h' : RdL w B A' n' lb) (hB : B ≤ w.heap.size) (hn : n ≤ 1000000) (hn' : n' ≤ 1000000) (hs : ∀ l ∈ la, l.length ≤ 100000) (hs' : ∀ l ∈ lb, l.length ≤ 100000) :
    Calls Try.prog 26 #[lts A n c, lts A' n' c'] w fun e w' => (∃ q, e = .returned (.bool q) ∧ EqIs la lb q) ∧ Below w.heap.size w w' := by
  have HS := Lib.hid (And.intro hs hs')
  have HL := Lib.hid h.len
  have HL' := Lib.hid h'.len
  have HX := Lib.hid (show (RdL ((w.alloc (.cells #[.slice A n c] 27)).alloc (.cells #[.slice A' n' c'] 27)) B A n la ∧ RdL ((w.alloc (.cells #[.slice A n c] 27)).alloc (.cells #[.slice A' n' c'] 27)) B A' n' lb) ∧ Blk ((w.alloc (.cells #[.slice A n c] 27)).alloc (.cells #[.slice A' n' c'] 27)) w.heap.size 27 #[.slice A n c] ∧ Blk ((w.alloc (.cells #[.slice A n c] 27)).alloc (.cells #[.slice A' n' c'] 27)) (w.heap.size + 1) 27 #[.slice A' n' c'] ∧ Below w.heap.size w ((w.alloc (.cells #[.slice A n c] 27)).alloc (.cells #[.slice A' n' c'] 27)) ∧ ((w.alloc (.cells #[.slice A n c] 27)).alloc (.cells #[.slice A' n' c'] 27)).heap.size = w.heap.size + 2 by
    exact ⟨⟨(h.alloc hB _).alloc (by simp; omega) _, (h'.alloc hB _).alloc (by simp; omega) _⟩, (Blk.new w _ _).alloc _, heap_alloc_at (by simp), ((Below.refl w.heap.size w).alloc (Nat.le_refl _) _).alloc (by simp) _, by simp⟩)
  obtain ⟨va, hva⟩ : ∃ v, validB la = v := ⟨_, rfl⟩
  obtain ⟨vb, hvb⟩ : ∃ v, validB lb = v := ⟨_, rfl⟩
  have HVA := Lib.hid hva
  have HVB := Lib.hid hvb
  clear h h' hs hs' hva hvb
  go_enter Try.func26, Try.ntmps26
  have hz2 := HX.out.2.2.2.2
  have a2c := HX.out.2.1.cell
  have a2l := HX.out.2.1.lt
  go_wp2_with fail
  refine (validL_any A n c B la _ HX.out.1.1 (by omega) (by omega) (fun l hl => by have := HS.out.1 l hl; omega)).mono ?_
  rw [HVA.out]
  rintro e w3 ⟨rfl, hb3⟩
  have HB3 := Lib.hid hb3
  have HX3 := Lib.hid (And.intro (HX.out.1.2.below (hb3.mono (by omega))) (And.intro (HX.out.2.1.below hb3 a2l) (And.intro (HX.out.2.2.1.below hb3 HX.out.2.2.1.lt) (HX.out.2.2.2.1.trans (hb3.mono (by omega))))))
  have hz3 := hb3.size
  clear hb3 a2c a2l
  cases va
  · go_wp2_with fail
    go_ret
    exact ⟨⟨false, ret_bool rfl, .inl ⟨by rw [HVA.out]; rfl, rfl⟩⟩, HX3.out.2.2.2⟩
  have b3c := HX3.out.2.2.1.cell
  have b3l := HX3.out.2.2.1.lt
  go_wp2_with fail
  refine (validL_any A' n' c' B lb w3 HX3.out.1 (by omega) (by omega) (fun l hl => by have := HS.out.2 l hl; omega)).mono ?_
  rw [HVB.out]
  rintro e w4 ⟨rfl, hb4⟩
  have hz4 := hb4.size
  have HX4 := Lib.hid (And.intro (And.intro (HX.out.1.1.below ((HB3.out.mono (by omega)).trans (hb4.mono (by omega)))) (HX3.out.1.below (hb4.mono (by omega)))) (And.intro (HX3.out.2.1.below hb4 HX3.out.2.1.lt) (And.intro (HX3.out.2.2.1.below hb4 b3l) (HX3.out.2.2.2.trans (hb4.mono (by omega))))))
  clear hb4 b3c b3l
  cases vb
  · go_wp2_with fail
    go_ret
    exact ⟨⟨false, ret_bool rfl, .inl ⟨by rw [HVB.out, Bool.and_false], rfl⟩⟩, HX4.out.2.2.2⟩
  have HV := Lib.hid (show (validB la && validB lb) = true by rw [HVA.out, HVB.out]; rfl)
  obtain ⟨ok1, hn1, hn2, hn1', hn2', hto⟩ := both_ok HV.out HL.out HL'.out HS.out.1 HS.out.2
  have HOK := Lib.hid (And.intro ok1 hto)
  obtain ⟨vs, hv1, hv2, hv3⟩ := HX4.out.1.1.start
  have HV1 := Lib.hid (And.intro hv1 (And.intro hv2 hv3))
  have a4c := HX4.out.2.1.cell
  have a4l := HX4.out.2.1.lt
  clear ok1 hto hv1 hv2 hv3
  go_wp2_with fail
  refine (rowsclone_any A n c B vs w4 HV1.out.1 HV1.out.2.1 (by omega) (by omega)).mono ?_
  rintro e w5 ⟨⟨v5, rfl, hown5, hbase5⟩, hb5⟩
  have hz5 := hb5.size
  obtain ⟨A5, c5, rfl, hnc5, _⟩ := own_form hown5
  have HM5 := Lib.hid ((HV1.out.2.2 w5 (.slice A5 n c5) w4.heap.size hown5 hbase5 (hb5.mono (by omega))).out ((Outside.refl (fun _ => False) w5).alloc (.cells #[.slice A5 n c5] 27)) (fun _ _ _ e => e) ((Below.refl B w5).alloc (by omega) _))
  have HX5 := Lib.hid (And.intro ((HX4.out.1.2.below (hb5.mono (by omega))).alloc (by omega) (.cells #[.slice A5 n c5] 27)) (And.intro ((HX4.out.2.2.1.below hb5 HX4.out.2.2.1.lt).alloc (.cells #[.slice A5 n c5] 27)) (And.intro (Blk.new w5 27 #[.slice A5 n c5]) ((HX4.out.2.2.2.trans (hb5.mono (by omega))).alloc (by omega) (.cells #[.slice A5 n c5] 27)))))
  have b5c := HX5.out.2.1.cell
  have b5l := HX5.out.2.1.lt
  clear hown5 hbase5 hb5 a4c a4l
  go_wp2_with fail
  go_loopw [30] (fun vk wr => ∃ s : Nat, s ≤ n' ∧ vk = .int .i64 s ∧ ∃ (A9 : Option Addr) (c9 : Nat) (xs : List Value), Hid (RowsM wr B w4.heap.size (.slice A9 (n + s : Nat) c9) (n + s) xs (la ++ (lb.take s).map (mvd n)) ∧ Blk wr w5.heap.size 27 #[.slice A9 (n + s : Nat) c9] ∧ RdL wr B A' n' lb ∧ Below w.heap.size w wr)) (fun vk _ => n' - (intOf vk).toNat)
  case atStart => exact ⟨0, Nat.zero_le _, rfl, A5, c5, vs, Lib.hid ⟨by simpa using HM5.out, HX5.out.2.2.1, HX5.out.1, HX5.out.2.2.2⟩⟩
  case round =>
    obtain ⟨s, hs, rfl, A9, c9, xs, HW⟩ := hrel
    have hsz := HW.out.2.2.2.size
    have hxl := HW.out.2.1.lt
    clear b5c b5l
    by_cases hlt : s < n'
    · obtain ⟨b1, o1, l, A1, n1, c1, rfl, hb1, hl, hln, e0, hrow⟩ := HW.out.2.2.1.row hlt
      have hl1 : n1 ≤ 100000 := by have := HS.out.2 l (List.mem_of_getElem? hl); omega
      have HLX := Lib.hid hl
      have HTO := Lib.hid (show ∀ x ∈ l, 0 ≤ x.to ∧ x.to ≤ 16384 from HOK.out.2 l (List.mem_of_getElem? hl))
      have hb1l : b1 < wr.heap.size := by omega
      have HROW := Lib.hid hrow
      clear hl hrow
      go_wp2_with fail
      refine (aclone_any A1 n1 c1 B l wr HROW.out (by omega) (by omega)).mono ?_
      rintro e w6 ⟨⟨v6, rfl, hown6, hbase6⟩, hb6⟩
      have hz6 := hb6.size
      obtain ⟨A6, c6, rfl, hnc6, _⟩ := own_form hown6
      have HO6 := Lib.hid (And.intro hown6 (And.intro hbase6 hb6))
      clear hown6 hbase6 hb6 e0
      go_wp2_with fail
      go_loopw [38] (fun vi wi => ∃ i : Nat, i ≤ n1 ∧ vi = .int .i64 i ∧ Hid (wi.ownsRow 0 23 2 (.slice A6 n1 c6) n1 (cellsOf Arc.cells (mvd n (l.take i) ++ l.drop i)) ∧ Below wr.heap.size wr wi)) (fun vi _ => n1 - (intOf vi).toNat)
      case atStart => exact ⟨0, Nat.zero_le _, rfl, Lib.hid ⟨HO6.out.1, HO6.out.2.2⟩⟩
      case round =>
        rename World => wi
        obtain ⟨i, hi, rfl, HI⟩ := hrel
        have hszi := HI.out.2.size
        by_cases hil : i < n1
        · obtain ⟨g, cap, eg, _, hgl⟩ := HI.out.1.form (by omega)
          obtain ⟨rfl, rfl⟩ : A6 = some ⟨g, 0, none⟩ ∧ c6 = cap := by simpa using eg
          obtain ⟨b5, o5, x, e5, hb5, hx, d0, d1⟩ := (Rd.ofOwn HI.out.1).arc hil
          obtain ⟨rfl, rfl⟩ : g = b5 ∧ 0 = o5 := by simpa using e5
          have hlx : l[i]? = some x := by
            rw [List.getElem?_append_right (by rw [mvd_len, List.length_take]; omega), List.getElem?_drop, mvd_len, List.length_take, show i + (i - min i l.length) = i by omega] at hx
            exact hx
          have hxt := HTO.out x (List.mem_of_getElem? hlx)
          have hset : (cellsOf Arc.cells (mvd n (l.take i) ++ l.drop i)).set (i * 2 + 1) (.int .i64 (x.to + (n : Int))) = cellsOf Arc.cells (mvd n (l.take (i + 1)) ++ l.drop (i + 1)) := by
            obtain ⟨hk, he⟩ := List.getElem?_eq_some_iff.1 hlx
            have h1 := set_to (mvd n (l.take i)) (l.drop (i + 1)) x (x.to + (n : Int))
            rw [mvd_len, List.length_take, show min i l.length = i by omega] at h1
            rw [List.drop_eq_getElem_cons hk, he, h1, mvd_take hlx, List.append_assoc]
            rfl
          have HN := Lib.hid (show (wi.setCell ⟨g, i * 2 + 1, none⟩ (.int .i64 (x.to + (n : Int)))).ownsRow 0 23 2 (.slice (some ⟨g, 0, none⟩) n1 c6) n1 (cellsOf Arc.cells (mvd n (l.take (i + 1)) ++ l.drop (i + 1))) from hset ▸ (HI.out.1.stored (i * 2 + 1) _).1)
          have HBN := Lib.hid (HI.out.2.setCell (p := ⟨g, i * 2 + 1, none⟩) (HO6.out.2.1 g rfl) (.int .i64 (x.to + (n : Int))))
          have gf := HI.out.1.frozenAt (i * 2 + 1)
          rw [Nat.zero_add] at d0 d1
          clear hset hx eg e5
          go_wp2_with fail
          go_roundw
          case rel => exact ⟨i + 1, by omega, by go_num, Lib.hid ⟨HN.out, HBN.out⟩⟩
          case measure => simp [intOf]; omega
        · obtain rfl : i = n1 := by omega
          have HMV := Lib.hid (show wi.ownsRow 0 23 2 (.slice A6 i c6) (mvd n l).length (cellsOf Arc.cells (mvd n l)) by
            have h1 := HI.out.1
            rw [List.take_of_length_le (by omega), List.drop_of_length_le (by omega), List.append_nil] at h1
            rw [mvd_len, hln]
            exact h1)
          have HM := Lib.hid (HW.out.1.out (Below.new HI.out.2) (fun _ _ _ e => e) (HI.out.2.mono (by omega)))
          have HX := Lib.hid (And.intro (HW.out.2.1.below HI.out.2 hxl) (And.intro (HW.out.2.2.1.below (HI.out.2.mono (by omega))) (HW.out.2.2.2.trans (HI.out.2.mono hsz))))
          have q6c := HX.out.1.cell
          have q6l := HX.out.1.lt
          have q6f := HX.out.1.frozen
          go_wp2_with (first | (at_builtin; go_must (refine appList_blk rfl slRow rfl (World.ownsRow.alloc HM.out.own _) rfl (news := [.slice A6 i c6]) ((heap_alloc_at rfl) : Blk _ wi.heap.size _ _) rfl rfl (by simp [Value.oneCell']) (by decide) (by unfold maxLen; omega) (by omega) ?_); intro g8 c8' w9 hown8 hgrow8 hat8; refine Stop7.intro ?_))
          unfold Stop7
          have hO9 : Outside (fun g => (Value.slice A9 (n + s) c9).ownBlock = some g) wi w9 := ((Outside.refl (fun g => (Value.slice A9 (n + s) c9).ownBlock = some g) wi).alloc (.cells #[.slice A6 i c6] 24)).grown hgrow8 (fun z hz => .inl hz)
          have hB9 : Below w4.heap.size wi w9 := hO9.below (by omega) (fun g hg e => by have := HM.out.base g e; omega)
          have HG9 := Lib.hid (show ∀ g, (Value.slice (some ⟨g8, 0, none⟩) (n + s + 1) c8').ownBlock = some g → w4.heap.size ≤ g from fun g hg => by
            have h1 : g8 = g := by simpa [Value.ownBlock] using hg
            rcases hat8 with h | h
            · exact HM.out.base g (by rw [← h1]; exact h)
            · simp at h
              omega)
          have HM9 := Lib.hid (show RowsM w9 B w4.heap.size (.slice (some ⟨g8, 0, none⟩) (n + s + 1) c8') (n + s + 1) (xs ++ [.slice A6 i c6]) (la ++ (lb.take (s + 1)).map (mvd n)) from by
            rw [both_take HLX.out]
            exact HM.out.snoc hown8 HG9.out hO9 (hB9.mono (by omega)) HMV.out (fun g hg => by have := HO6.out.2.1 g hg; omega))
          have HX9 := Lib.hid (And.intro (HX.out.1.out hO9 (fun e => own_apart HM.out.own HX.out.1 (by decide) e)) (And.intro (HX.out.2.1.below (hB9.mono (by omega))) (HX.out.2.2.trans (hB9.mono (by omega)))))
          have hs9 := hB9.size
          clear hown8 hgrow8 hat8 hB9 hO9 q6c q6l q6f
          have hO10 : Outside (fun x => x = w5.heap.size) w9 (w9.setCell ⟨w5.heap.size, 0, none⟩ (.slice (some ⟨g8, 0, none⟩) (n + s + 1) c8')) := (Outside.refl (fun x => x = w5.heap.size) w9).setCell (p := ⟨w5.heap.size, 0, none⟩) (.inl rfl) _
          have hB10 : Below w4.heap.size w9 (w9.setCell ⟨w5.heap.size, 0, none⟩ (.slice (some ⟨g8, 0, none⟩) (n + s + 1) c8')) := (Below.refl w4.heap.size w9).setCell (p := ⟨w5.heap.size, 0, none⟩) (by dsimp only; omega) _
          have HM10 := Lib.hid (HM9.out.outB HX9.out.1 (by decide) (by decide) hO10 (hB10.mono (by omega)))
          have HX10 := Lib.hid (And.intro (HX9.out.1.put 0 (.slice (some ⟨g8, 0, none⟩) (n + s + 1) c8')) (And.intro (HX9.out.2.1.below (hB10.mono (by omega))) (HX9.out.2.2.trans (hB10.mono (by omega)))))
          have r6c := HX9.out.1.cell
          have r6l := HX9.out.1.lt
          have r6f := HX9.out.1.frozen
          clear hO10 hB10
          go_wp2_with fail
          go_roundw
          case rel => exact ⟨s + 1, by omega, by go_num, some ⟨g8, 0, none⟩, c8', _, Lib.hid ⟨HM10.out, HX10.out.1, HX10.out.2.1, HX10.out.2.2⟩⟩
          case measure => simp [intOf]; omega
    · obtain rfl : s = n' := by omega
      have HE := Lib.hid (show la ++ (lb.take s).map (mvd n) = bothL la lb by rw [List.take_of_length_le (by rw [HL'.out]; exact Nat.le_refl _), both_mvd, HL.out])
      have HM := Lib.hid (show RdL wr wr.heap.size A9 (n + s) (bothL la lb) from HE.out ▸ HW.out.1.whole (by omega))
      have q6c := HW.out.2.1.cell
      go_wp2_with fail
      refine (classes_any A9 (n + s) c9 (bothL la lb) wr.heap.size wr HM.out (Nat.le_refl _) HOK.out.1).mono ?_
      rintro e w7 ⟨⟨v7, K, rfl, hd7, hown7, hbase7⟩, hb7⟩
      obtain ⟨A7, c7, rfl, _, _⟩ := own_form hown7
      obtain ⟨b1, o1, x, rfl, hb1, hx, d1⟩ := (Rd.ofOwn hown7).nat (i := 0) (by omega)
      obtain ⟨b2, o2, y, hab, hb2, hy, d2⟩ := (Rd.ofOwn hown7).nat (i := n) (by omega)
      obtain ⟨rfl, rfl⟩ : b1 = b2 ∧ o1 = o2 := by simpa using hab
      have HQ := Lib.hid (show DoneR (bothL la lb) K ∧ (x = y ↔ agr (bothL la lb) K 0 la.length) from ⟨hd7, by
        rw [agr, HL.out, List.getD_eq_getElem?_getD, List.getD_eq_getElem?_getD, hx, hy]
        exact Iff.rfl⟩)
      have HB7 := Lib.hid (HW.out.2.2.2.trans (hb7.mono hsz)).drew
      rw [Nat.add_zero] at d1
      clear hd7 hown7 hbase7 hb7 hx hy hab q6c
      by_cases hxy : x = y
      · have HA := Lib.hid (HQ.out.2.1 hxy)
        subst hxy
        go_wp2_with (first | ((with_reducible show wpPlan _ _ _ _ _ (Act.put _ _ _) _); simp only [List.getElem_toArray, List.getElem_cons_succ, List.getElem_cons_zero, Act.put, List.setIfInBounds_toArray, List.set_cons_zero, List.set_cons_succ]) | ((with_reducible show wpPlan _ _ _ _ _ _ _); first | refine wpPlan_nil ?_ | (refine wpPlan_read0 rfl ?hw rfl (fun _ _ _ => ?_); case hw => ((conv => (lhs; whnf)); first | done | with_reducible rfl)) | (refine wpPlan_read1d rfl ?hw rfl rfl (fun _ _ _ => ?_); case hw => ((conv => (lhs; whnf)); first | done | with_reducible rfl)) | (refine wpPlan_eff rfl ?hw (fun _ _ => ?_); case hw => ((conv => (lhs; whnf)); first | done | with_reducible rfl)) | (refine wpPlan_skip0 rfl ?hw ?_; case hw => ((conv => (lhs; whnf)); first | done | with_reducible rfl)) | (refine wpPlan_skip1d rfl ?hw ?_; case hw => ((conv => (lhs; whnf)); first | done | with_reducible rfl)) | (refine wpPlan_skip2 rfl ?hw ?_; case hw => ((conv => (lhs; whnf)); first | done | with_reducible rfl)) | (refine wpPlan_read1 rfl ?hw rfl (fun _ _ _ => ?_); case hw => ((conv => (lhs; whnf)); first | done | with_reducible rfl)) | refine wpPlan_fork ?_ ?_) | ((with_reducible show Owed _ _ _ _ _ _ _ _ _); first | refine Owed.none_ ?_ | refine Owed.nil_ ?_ | refine Owed.miss rfl ?_ | refine Owed.hit ?_ ?_) | ((with_reducible show Same _ _ _ _ _); intro _; go_simp; done) | (with_reducible exact True.intro) | ((with_reducible show Code.wp _ (Code.region 17 _ true) _ _ _); refine wp_region_plan [(0, 0, []), (1, 1, []), (2, 1, []), (3, 0, []), (4, 0, []), (5, 1, []), (6, 1, []), (7, 1, []), (8, 0, [])] (by kernel_rfl) (by kernel_rfl) (by kernel_rfl) ?_))
        go_ret
        exact ⟨⟨true, ret_bool (by simp), .inr ⟨HV.out, K, HQ.out.1, fun _ => HA.out, fun _ => rfl⟩⟩, HB7.out⟩
      · have HA := Lib.hid (show ¬ agr (bothL la lb) K 0 la.length from fun e => hxy (HQ.out.2.2 e))
        have hxb : ((x : Int) == (y : Int)) = false := by simp; omega
        go_wp2_with (first | ((with_reducible show wpPlan _ _ _ _ _ (Act.put _ _ _) _); simp only [List.getElem_toArray, List.getElem_cons_succ, List.getElem_cons_zero, Act.put, List.setIfInBounds_toArray, List.set_cons_zero, List.set_cons_succ]) | ((with_reducible show wpPlan _ _ _ _ _ _ _); first | refine wpPlan_nil ?_ | (refine wpPlan_read0 rfl ?hw rfl (fun _ _ _ => ?_); case hw => ((conv => (lhs; whnf)); first | done | with_reducible rfl)) | (refine wpPlan_read1d rfl ?hw rfl rfl (fun _ _ _ => ?_); case hw => ((conv => (lhs; whnf)); first | done | with_reducible rfl)) | (refine wpPlan_eff rfl ?hw (fun _ _ => ?_); case hw => ((conv => (lhs; whnf)); first | done | with_reducible rfl)) | (refine wpPlan_skip0 rfl ?hw ?_; case hw => ((conv => (lhs; whnf)); first | done | with_reducible rfl)) | (refine wpPlan_skip1d rfl ?hw ?_; case hw => ((conv => (lhs; whnf)); first | done | with_reducible rfl)) | (refine wpPlan_skip2 rfl ?hw ?_; case hw => ((conv => (lhs; whnf)); first | done | with_reducible rfl)) | (refine wpPlan_read1 rfl ?hw rfl (fun _ _ _ => ?_); case hw => ((conv => (lhs; whnf)); first | done | with_reducible rfl)) | refine wpPlan_fork ?_ ?_) | ((with_reducible show Owed _ _ _ _ _ _ _ _ _); first | refine Owed.none_ ?_ | refine Owed.nil_ ?_ | refine Owed.miss rfl ?_ | refine Owed.hit ?_ ?_) | ((with_reducible show Same _ _ _ _ _); intro _; go_simp; done) | (with_reducible exact True.intro) | ((with_reducible show Code.wp _ (Code.region 17 _ true) _ _ _); refine wp_region_plan [(0, 0, []), (1, 1, []), (2, 1, []), (3, 0, []), (4, 0, []), (5, 1, []), (6, 1, []), (7, 1, []), (8, 0, [])] (by kernel_rfl) (by kernel_rfl) (by kernel_rfl) ?_))
        go_ret
        exact ⟨⟨false, ret_bool (by simp), .inr ⟨HV.out, K, HQ.out.1, fun e => (by cases e), fun e => absurd e HA.out⟩⟩, HB7.out⟩

end Go.Proofs.Ytmciinikfjfegaa
