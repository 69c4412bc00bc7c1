/- a packed system is read back: Unpack's walk -/
import Derived.Test.YtonpdclccgpceaaRwH3
import Derived.Deep.DeepCutAuto
namespace Go.Proofs.Ytonpdclccgpceaa
open Go Go.RowKit
set_option maxHeartbeats 8000000

theorem UnpRel.full {b : List Nat} (h : 1048576 < b.length) : UnpRel b [] 10 :=
  ⟨fun ls' _ _ h3 => (by omega), fun h => (by omega), fun _ => ⟨rfl, by rw [errB, if_pos h]⟩⟩
theorem UnpRel.short {b : List Nat} (h0 : ¬ 1048576 < b.length) (h : b.length < 8) : UnpRel b [] 23 :=
  ⟨fun ls' _ h2 _ => by have := packB_min ls'; rw [h2] at this; omega, fun h => (by omega), fun _ => ⟨rfl, by rw [errB, if_neg h0, if_pos h]⟩⟩
theorem UnpRel.broken {b : List Nat} (h0 : ¬ 1048576 < b.length) (h1 : ¬ b.length < 8) (h : sealedB b = false) : UnpRel b [] 24 :=
  ⟨fun ls' _ h2 _ => by
    have := sealed_pack (bodyB ls')
    rw [show sealB (bodyB ls') = b from h2, h] at this
    exact absurd this (by simp), fun h => (by omega), fun _ => ⟨rfl, by rw [errB, if_neg h0, if_neg h1, if_pos h]⟩⟩
theorem UnpRel.none {b : List Nat} (h0 : ¬ 1048576 < b.length) (h1 : ¬ b.length < 8) (h : sealedB b = true) (hx : ∀ ls', validB ls' = true → packB ls' = b → False) : UnpRel b [] 22 :=
  ⟨fun ls' h2 h3 _ => (hx ls' h2 h3).elim, fun h => (by omega), fun _ => ⟨rfl, by rw [errB, if_neg h0, if_neg h1, if_neg (by rw [h]; simp)]⟩⟩

/-- what Unpack gives -/
def UnpPost (w : World) (b : List Nat) (e : Ending) (w' : World) : Prop :=
  ∃ (A : Option Addr) (n c : Nat) (ls : List (List Arc)) (err : Nat), e = .returned (.tuple #[lts A n c, .int .i64 err]) ∧ RdL w' w'.heap.size A n ls ∧ Below w.heap.size w w' ∧ n ≤ 16384 ∧ (∀ l ∈ ls, l.length ≤ 262144) ∧ UnpRel b ls err
theorem unp_bad {w w' : World} {b : List Nat} {k : Nat} (h : Below w.heap.size w w') (hr : UnpRel b [] k) : UnpPost w b (.returned (.tuple #[.agg #[.slice none 0 0], .int .i64 k])) w' :=
  ⟨none, 0, 0, [], k, rfl, (RowsX.nil w' 0).whole, h, by omega, fun l hl => absurd hl (by simp), hr⟩
/-- what the rows read so far have to do with a packed form -/
def UnpAt (b l : List Nat) (st q : Nat) (bk : Bool) (s : Nat) (ls : List (List Arc)) : Prop :=
  ∀ ls', validB ls' = true → packB ls' = b → bk = false ∧ ls = ls'.take s ∧ l.drop q = ((rowsOf ls').drop s).flatten ++ [] ∧ st = ls'.length
theorem UnpAt.all {b l : List Nat} {st q s : Nat} {bk : Bool} {ls : List (List Arc)} (h : UnpAt b l st q bk s ls) (hs : st ≤ s) (ls' : List (List Arc)) (h1 : validB ls' = true) (h2 : packB ls' = b) : ls = ls' := by
  obtain ⟨_, e2, _, e4⟩ := h ls' h1 h2
  rw [e2, List.take_of_length_le (by omega)]

theorem unp_sealed {A : Option Addr} {n m c B : Nat} {l : List Nat} {w : World} (hm : n = m + 4) (h : Rd w B 1 A n (cellsOf ucell l)) (hb : ∀ b ∈ l, b < 256) (hn : n ≤ 10000000) (hc : n ≤ c) :
    Calls Try.prog 46 #[.slice A n c] w fun e w' => e = .returned (.bool (sealedB l)) ∧ w = w' := by
  subst hm
  exact csealed_any A m c B l w h hb (by omega) hc

set_option maxRecDepth 100000 in
theorem unpack_any (A : Option Addr) (n c B : Nat) (b : List Nat) (w : World) (h : Rd w B 1 A n (cellsOf ucell b)) (hB : B ≤ w.heap.size) (hby : ∀ x ∈ b, x < 256) (hc : n ≤ c) (hn : n ≤ 1000000000000) :
    Calls Try.prog 19 #[.slice A n c] w (UnpPost w b) := by
  have hbl := h.len ucell_len (by decide)
  have HL := Lib.hid hbl
  have HBY := Lib.hid hby
  have H0 := Lib.hid h
  have H := Lib.hid (h.keep (w' := w.alloc (.cells #[.slice none 0 0] 25)) fun p hp => ((Below.refl w.heap.size w).alloc (Nat.le_refl _) (.cells #[.slice none 0 0] 25)).cell (by omega))
  have HT := Lib.hid (Blk.new w 25 #[.slice none 0 0])
  have HB0 := Lib.hid ((Below.refl w.heap.size w).alloc (Nat.le_refl _) (.cells #[.slice none 0 0] 25))
  clear h hby hbl
  go_enter Try.func19, Try.ntmps19
  by_cases h1 : (1048576 : Int) < n
  · have hbl := HL.out
    have tc := HT.out.cell
    have tl := HT.out.lt
    have tf := HT.out.frozen
    have HBB := Lib.hid (HB0.out)
    go_wp2_with fail
    refine bodyPost_ret (v := .tuple #[.agg #[.slice none 0 0], .int .i64 10]) (by simp [results, Try.results19, go_sem]) rfl ?_
    exact unp_bad HBB.out (UnpRel.full (by omega))
  by_cases h2 : (n : Int) < 8
  · have hbl := HL.out
    have tc := HT.out.cell
    have tl := HT.out.lt
    have tf := HT.out.frozen
    have HBB := Lib.hid (HB0.out)
    go_wp2_with fail
    refine bodyPost_ret (v := .tuple #[.agg #[.slice none 0 0], .int .i64 23]) (by simp [results, Try.results19, go_sem]) rfl ?_
    exact unp_bad HBB.out (UnpRel.short (by omega) (by omega))
  obtain ⟨m, hm⟩ : ∃ m, n = m + 4 := ⟨n - 4, by omega⟩
  have HM := Lib.hid hm
  have hV : (n : Int) - 4 = (m : Int) := by omega
  clear hm
  have HLI := Lib.hid (show ¬ 1048576 < b.length ∧ ¬ b.length < 8 by rw [HL.out]; omega)
  obtain ⟨b0, o0, y0, rfl, hb0, hy0, c0⟩ := H.out.ubyte (i := 0) (by omega)
  clear c0 hy0
  go_wp2_with fail
  refine (unp_sealed HM.out H.out HBY.out (by omega) hc).mono ?_
  rintro e w1 ⟨rfl, rfl⟩
  obtain ⟨sb, hsb⟩ : ∃ sb, sealedB b = sb := ⟨_, rfl⟩
  rw [hsb]
  have HSB := Lib.hid hsb
  clear hsb
  cases sb
  · skip
    have tc := HT.out.cell
    have tl := HT.out.lt
    have tf := HT.out.frozen
    have HBB := Lib.hid (HB0.out)
    go_wp2_with fail
    refine bodyPost_ret (v := .tuple #[.agg #[.slice none 0 0], .int .i64 24]) (by simp [results, Try.results19, go_sem]) rfl ?_
    exact unp_bad HBB.out (UnpRel.broken HLI.out.1 HLI.out.2 HSB.out)
  have HRD := Lib.hid ((show RdrAt ((w.alloc (.cells #[.slice none 0 0] 25)).alloc (.cells #[.slice (some ⟨b0, o0, none⟩) m c, .int .i64 0, .bool false] 66)) B (w.heap.size + 1) (some ⟨b0, o0, none⟩) m c (b.take m) 0 false from
    ⟨heap_alloc_at (by simp), (H.out.utake (i := m) (by have := HM.out; omega)).keep (fun p hp => ((Below.refl B (w.alloc (.cells #[.slice none 0 0] 25))).alloc (by simp; omega) _).cell hp), by omega, Nat.zero_le _, fun x hx => HBY.out x (List.mem_of_mem_take hx)⟩))
  have HT2 := Lib.hid (HT.out.alloc (.cells #[.slice (some ⟨b0, o0, none⟩) m c, .int .i64 0, .bool false] 66))
  have HB2 := Lib.hid (HB0.out.alloc (by simp) (.cells #[.slice (some ⟨b0, o0, none⟩) m c, .int .i64 0, .bool false] 66))
  go_wp2_with fail
  refine (readHead_any B (w.heap.size + 1) _ m c 0 (b.take m) false _ HRD.out (by omega)).mono ?_
  rintro e w3 ⟨st, ar, vz, szs, p3, b3, rfl, _, _, hst, _, _, _, hR3, hO3, hex3⟩
  have hs3 : w.heap.size + 2 ≤ w3.heap.size := Nat.le_trans (by simp) hO3.size
  have HN3 := Lib.hid (Blk.new w3 25 #[.slice none 0 0])
  have HT3 := Lib.hid ((HT2.out.out hO3 (by omega)).alloc (.cells #[.slice none 0 0] 25))
  have HB3 := Lib.hid ((HB2.out.trans (hO3.below (by simp; omega) (fun k hk e => by omega))).alloc (by omega) (.cells #[.slice none 0 0] 25))
  have HR3 := Lib.hid (hR3.alloc (.cells #[.slice none 0 0] 25))
  have HE3 := Lib.hid (show UnpAt b (b.take m) st p3 b3 0 [] from fun ls' h1 h2 => by
    have e1 : b.take m = bodyB ls' ++ [] := by
      have := sealB_take (bodyB ls')
      rw [show sealB (bodyB ls') = b from h2, HL.out, HM.out, Nat.add_sub_cancel] at this
      rw [this, List.append_nil]
    obtain ⟨f1, f2, f3, f4, f5⟩ := hex3 ls' _ (headG_of h1 (by rw [h2, HL.out]; omega) e1)
    exact ⟨f5, by simp, by rw [f4]; exact headG_rows e1, f1⟩)
  clear hR3 hO3 hex3
  go_wp2_with fail
  go_loopw [9] (fun vk wr => ∃ (s q : Nat) (bk : Bool) (vq : Value) (xs : List Value) (ls : List (List Arc)), s ≤ st ∧ vk = .int .i64 s ∧ w3.heap.size + 1 ≤ wr.heap.size ∧
    Hid (RowsX wr (w3.heap.size + 1) vq s xs ls ∧ Blk wr w3.heap.size 25 #[vq] ∧ Blk wr w.heap.size 25 #[.slice none 0 0] ∧ RdrAt wr B (w.heap.size + 1) (some ⟨b0, o0, none⟩) m c (b.take m) q bk ∧ Below w.heap.size w wr) ∧
    Hid ((∀ l ∈ ls, l.length ≤ 262144) ∧ UnpAt b (b.take m) st q bk s ls)) (fun vk _ => st - (intOf vk).toNat)
  case atStart => exact ⟨0, p3, b3, _, [], [], Nat.zero_le _, rfl, by simp, Lib.hid ⟨RowsX.nil _ _, HN3.out, HT3.out, HR3.out, HB3.out⟩, Lib.hid ⟨fun l hl => absurd hl (by simp), HE3.out⟩⟩
  case round =>
    obtain ⟨s, q, bk, vq, xs, ls, hs, rfl, hsz, HW, HS⟩ := hrel
    obtain ⟨Aq, cq, rfl, hcq, _⟩ := own_form HW.out.1.own
    have qc := HW.out.2.1.cell
    have ql := HW.out.2.1.lt
    have qf := HW.out.2.1.frozen
    have rc := HW.out.2.2.2.1.blk.cell
    have rl := HW.out.2.2.2.1.blk.lt
    cases bk
    · by_cases hlt : s < st
      · go_wp2_with (first | ((with_reducible show wpPlan _ _ _ [] _ _ _); refine wpPlan_nil ?_) | ((with_reducible show wpPlan _ _ _ ((_, 0, _) :: _) _ _ _); first | (refine wpPlan_read0 rfl ?hw rfl (fun _ _ _ => ?_); case hw => ((conv => (lhs; whnf)); first | done | with_reducible rfl)) | (refine wpPlan_skip0 rfl ?hw ?_; (case hw => ((conv => (lhs; whnf)); first | done | with_reducible rfl)); (try simp only [List.getElem_toArray, List.getElem_cons_succ, List.getElem_cons_zero, Act.put, List.setIfInBounds_toArray, List.set_cons_zero, List.set_cons_succ]))) | ((with_reducible show wpPlan _ _ _ ((_, 1, _) :: _) _ _ _); first | (refine wpPlan_read1d rfl ?hw rfl rfl (fun _ _ _ => ?_); case hw => ((conv => (lhs; whnf)); first | done | with_reducible rfl)) | (refine wpPlan_skip1d rfl ?hw ?_; (case hw => ((conv => (lhs; whnf)); first | done | with_reducible rfl)); (try simp only [List.getElem_toArray, List.getElem_cons_succ, List.getElem_cons_zero, Act.put, List.setIfInBounds_toArray, List.set_cons_zero, List.set_cons_succ])) | (refine wpPlan_read1 rfl ?hw rfl (fun _ _ _ => ?_); case hw => ((conv => (lhs; whnf)); first | done | with_reducible rfl))) | ((with_reducible show wpPlan _ _ _ ((_, 2, _) :: _) _ _ _); first | (refine wpPlan_eff rfl ?hw (fun _ _ => ?_); case hw => ((conv => (lhs; whnf)); first | done | with_reducible rfl)) | (refine wpPlan_skip2 rfl ?hw ?_; (case hw => ((conv => (lhs; whnf)); first | done | with_reducible rfl)); (try simp only [List.getElem_toArray, List.getElem_cons_succ, List.getElem_cons_zero, Act.put, List.setIfInBounds_toArray, List.set_cons_zero, List.set_cons_succ]))) | ((with_reducible show wpPlan _ _ _ _ _ _ _); refine wpPlan_fork ?_ ?_) | ((with_reducible show Owed _ _ _ [] _ _ _ _ _); refine Owed.none_ ?_) | ((with_reducible show Owed _ _ _ _ [] _ _ _ _); refine Owed.nil_ ?_) | ((with_reducible show Owed _ _ _ _ _ _ _ _ _); first | (refine Owed.miss rfl ?_) | (refine Owed.hit ?_ ?_)) | ((with_reducible show Same _ _ _ _ _); intro _; go_simp; done) | (with_reducible exact True.intro) | ((with_reducible show Code.wp _ (Code.region 13 _ true) _ _ _); refine wp_region_plan [(0, 1, []), (1, 1, []), (2, 0, []), (3, 0, []), (4, 0, []), (5, 2, [0, 1]), (6, 2, [0, 1]), (7, 2, []), (8, 1, []), (9, 2, [])] (by kernel_rfl) (by kernel_rfl) (by kernel_rfl) ?_))
        refine (readRow_any B (w.heap.size + 1) _ m c q (b.take m) false s st _ (HW.out.2.2.2.1.out (Outside.refl (fun _ => False) wr).drew (fun h => h) (fun _ _ h => h)) (by omega) (by omega) hst).mono ?_
        rintro e w5 ⟨u, r, q5, b5, rfl, hown5, hbase5, hrl, hR5, hO5, _, hex5⟩
        have hO : Outside (fun k => k = w.heap.size + 1) wr w5 := (Outside.refl _ wr).drew.trans hO5
        have hs5 := hO.size
        have HX5 := Lib.hid (HW.out.1.out hO (fun g h1 _ => by omega))
        have HX := Lib.hid (And.intro (HW.out.2.1.out hO (by omega)) (And.intro (HW.out.2.2.1.out hO (by omega)) (And.intro hR5 (HW.out.2.2.2.2.trans (hO.below (by omega) (fun k h1 h2 => by omega))))))
        have HU := Lib.hid (And.intro hown5 (show ∀ x, u.ownBlock = some x → wr.heap.size ≤ x from hbase5))
        have HS5 := Lib.hid (show (∀ l ∈ ls ++ [r], l.length ≤ 262144) ∧ UnpAt b (b.take m) st q5 b5 (s + 1) (ls ++ [r]) from by
          refine ⟨fun l hl => ?_, fun ls' h1 h2 => ?_⟩
          · rcases List.mem_append.1 hl with h | h
            · exact HS.out.1 l h
            · rw [List.mem_singleton.1 h]; exact hrl
          · obtain ⟨e1, e2, e3, e4⟩ := HS.out.2 ls' h1 h2
            have hk : s < ls'.length := by omega
            have hr0 := List.getElem?_eq_getElem hk
            have hG := rowG_of h1 hr0 e1 e3
            rw [← e4] at hG
            obtain ⟨f1, f2, f3⟩ := hex5 _ _ hG
            rw [e4] at hG
            refine ⟨f3, ?_, by rw [f2]; exact rowG_next hG, e4⟩
            rw [List.take_add_one, hr0, ← e2, f1]
            rfl)
        obtain ⟨A5, c5, rfl, _, _⟩ := own_form hown5
        have q5c := HX.out.1.cell
        have q5l := HX.out.1.lt
        clear hown5 hbase5 hrl hR5 hO5 hex5 hO
        go_wp2_with (first | ((with_reducible show wpPlan _ _ _ ((7, 2, _) :: _) _ _ _); refine wpPlan_eff rfl rfl (fun _ hK => ?_); refine app_blk slRow rfl (World.ownsRow.alloc HX5.out.own _) rfl (news := [.slice A5 r.length c5]) ((heap_alloc_at rfl) : Blk _ w5.heap.size _ _) rfl rfl (by simp [Value.oneCell']) (by decide) (by unfold maxLen; omega) (by omega) ?_; intro g9 c9 w9 hown9 hgrow9 hat9; refine hK _ _ ?_; refine Stop7.intro ?_) | ((with_reducible show wpPlan _ _ _ [] _ _ _); refine wpPlan_nil ?_) | ((with_reducible show wpPlan _ _ _ ((_, 0, _) :: _) _ _ _); first | (refine wpPlan_read0 rfl ?hw rfl (fun _ _ _ => ?_); case hw => ((conv => (lhs; whnf)); first | done | with_reducible rfl)) | (refine wpPlan_skip0 rfl ?hw ?_; (case hw => ((conv => (lhs; whnf)); first | done | with_reducible rfl)); (try simp only [List.getElem_toArray, List.getElem_cons_succ, List.getElem_cons_zero, Act.put, List.setIfInBounds_toArray, List.set_cons_zero, List.set_cons_succ]))) | ((with_reducible show wpPlan _ _ _ ((_, 1, _) :: _) _ _ _); first | (refine wpPlan_read1d rfl ?hw rfl rfl (fun _ _ _ => ?_); case hw => ((conv => (lhs; whnf)); first | done | with_reducible rfl)) | (refine wpPlan_skip1d rfl ?hw ?_; (case hw => ((conv => (lhs; whnf)); first | done | with_reducible rfl)); (try simp only [List.getElem_toArray, List.getElem_cons_succ, List.getElem_cons_zero, Act.put, List.setIfInBounds_toArray, List.set_cons_zero, List.set_cons_succ])) | (refine wpPlan_read1 rfl ?hw rfl (fun _ _ _ => ?_); case hw => ((conv => (lhs; whnf)); first | done | with_reducible rfl))) | ((with_reducible show wpPlan _ _ _ ((_, 2, _) :: _) _ _ _); first | (refine wpPlan_eff rfl ?hw (fun _ _ => ?_); case hw => ((conv => (lhs; whnf)); first | done | with_reducible rfl)) | (refine wpPlan_skip2 rfl ?hw ?_; (case hw => ((conv => (lhs; whnf)); first | done | with_reducible rfl)); (try simp only [List.getElem_toArray, List.getElem_cons_succ, List.getElem_cons_zero, Act.put, List.setIfInBounds_toArray, List.set_cons_zero, List.set_cons_succ]))) | ((with_reducible show wpPlan _ _ _ _ _ _ _); refine wpPlan_fork ?_ ?_) | ((with_reducible show Owed _ _ _ [] _ _ _ _ _); refine Owed.none_ ?_) | ((with_reducible show Owed _ _ _ _ [] _ _ _ _); refine Owed.nil_ ?_) | ((with_reducible show Owed _ _ _ _ _ _ _ _ _); first | (refine Owed.miss rfl ?_) | (refine Owed.hit ?_ ?_)) | ((with_reducible show Same _ _ _ _ _); intro _; go_simp; done) | (with_reducible exact True.intro) | ((with_reducible show Code.wp _ (Code.region 13 _ true) _ _ _); refine wp_region_plan [(0, 1, []), (1, 1, []), (2, 0, []), (3, 0, []), (4, 0, []), (5, 2, [0, 1]), (6, 2, [0, 1]), (7, 2, []), (8, 1, []), (9, 2, [])] (by kernel_rfl) (by kernel_rfl) (by kernel_rfl) ?_))
        unfold Stop7
        have hO9 : Outside (fun g => (Value.slice Aq s cq).ownBlock = some g) w5 w9 := ((Outside.refl (fun g => (Value.slice Aq s cq).ownBlock = some g) w5).alloc (.cells #[.slice A5 r.length c5] 49)).grown hgrow9 (fun z hz => .inl hz)
        have hg9 : ∀ g, (Value.slice (some ⟨g9, 0, none⟩) (s + 1) c9).ownBlock = some g → w3.heap.size + 1 ≤ g := fun g hg => by
          have h1 : g9 = g := by simpa [Value.ownBlock] using hg
          rcases hat9 with h | h
          · have := HX5.out.base g9 h
            omega
          · simp at h
            omega
        have hSn := HX5.out.snoc hown9 hg9 hO9 HU.out.1 (fun g hg => by have := HU.out.2 g hg; omega)
        have hnq : ∀ g, g < w3.heap.size + 1 → ¬ (Value.slice Aq s cq).ownBlock = some g := fun g h1 h2 => by have := HX5.out.base g h2; omega
        have hOq : Outside (fun g => g = w3.heap.size) w9 (w9.setCell ⟨w3.heap.size, 0, none⟩ (.slice (some ⟨g9, 0, none⟩) (s + 1) c9)) := (Outside.refl (fun g => g = w3.heap.size) w9).setCell (p := ⟨w3.heap.size, 0, none⟩) (.inl rfl) _
        have hq9 := HX.out.1.out hO9 (hnq _ (by omega))
        have HZ := Lib.hid (And.intro (hSn.out hOq (fun g h1 _ => by omega)) (And.intro (hq9.put 0 (.slice (some ⟨g9, 0, none⟩) (s + 1) c9)) (And.intro ((HX.out.2.1.out hO9 (hnq _ (by omega))).out hOq (by omega))
          (And.intro ((HX.out.2.2.1.out hO9 (hnq _ (by omega)) (fun k hk => hnq _ (by omega))).out hOq (by omega) (fun k hk => by omega)) ((HX.out.2.2.2.trans (hO9.below (by omega) (fun g h1 => hnq g (by omega)))).setCell (p := ⟨w3.heap.size, 0, none⟩) (by dsimp only; omega) (.slice (some ⟨g9, 0, none⟩) (s + 1) c9))))))
        have q9c := hq9.cell
        have q9l := hq9.lt
        have q9f := hq9.frozen
        have hsz9 : w3.heap.size + 1 ≤ (w9.setCell ⟨w3.heap.size, 0, none⟩ (.slice (some ⟨g9, 0, none⟩) (s + 1) c9)).heap.size := Nat.le_trans hsz (Nat.le_trans hs5 (Nat.le_trans hO9.size hOq.size))
        have HS9 := Lib.hid hsz9
        clear hO9 hg9 hSn hnq hOq hq9 hown9 hgrow9 hat9 hsz9
        go_wp2_with (first | ((with_reducible show wpPlan _ _ _ [] _ _ _); refine wpPlan_nil ?_) | ((with_reducible show wpPlan _ _ _ ((_, 0, _) :: _) _ _ _); first | (refine wpPlan_read0 rfl ?hw rfl (fun _ _ _ => ?_); case hw => ((conv => (lhs; whnf)); first | done | with_reducible rfl)) | (refine wpPlan_skip0 rfl ?hw ?_; (case hw => ((conv => (lhs; whnf)); first | done | with_reducible rfl)); (try simp only [List.getElem_toArray, List.getElem_cons_succ, List.getElem_cons_zero, Act.put, List.setIfInBounds_toArray, List.set_cons_zero, List.set_cons_succ]))) | ((with_reducible show wpPlan _ _ _ ((_, 1, _) :: _) _ _ _); first | (refine wpPlan_read1d rfl ?hw rfl rfl (fun _ _ _ => ?_); case hw => ((conv => (lhs; whnf)); first | done | with_reducible rfl)) | (refine wpPlan_skip1d rfl ?hw ?_; (case hw => ((conv => (lhs; whnf)); first | done | with_reducible rfl)); (try simp only [List.getElem_toArray, List.getElem_cons_succ, List.getElem_cons_zero, Act.put, List.setIfInBounds_toArray, List.set_cons_zero, List.set_cons_succ])) | (refine wpPlan_read1 rfl ?hw rfl (fun _ _ _ => ?_); case hw => ((conv => (lhs; whnf)); first | done | with_reducible rfl))) | ((with_reducible show wpPlan _ _ _ ((_, 2, _) :: _) _ _ _); first | (refine wpPlan_eff rfl ?hw (fun _ _ => ?_); case hw => ((conv => (lhs; whnf)); first | done | with_reducible rfl)) | (refine wpPlan_skip2 rfl ?hw ?_; (case hw => ((conv => (lhs; whnf)); first | done | with_reducible rfl)); (try simp only [List.getElem_toArray, List.getElem_cons_succ, List.getElem_cons_zero, Act.put, List.setIfInBounds_toArray, List.set_cons_zero, List.set_cons_succ]))) | ((with_reducible show wpPlan _ _ _ _ _ _ _); refine wpPlan_fork ?_ ?_) | ((with_reducible show Owed _ _ _ [] _ _ _ _ _); refine Owed.none_ ?_) | ((with_reducible show Owed _ _ _ _ [] _ _ _ _); refine Owed.nil_ ?_) | ((with_reducible show Owed _ _ _ _ _ _ _ _ _); first | (refine Owed.miss rfl ?_) | (refine Owed.hit ?_ ?_)) | ((with_reducible show Same _ _ _ _ _); intro _; go_simp; done) | (with_reducible exact True.intro) | ((with_reducible show Code.wp _ (Code.region 13 _ true) _ _ _); refine wp_region_plan [(0, 1, []), (1, 1, []), (2, 0, []), (3, 0, []), (4, 0, []), (5, 2, [0, 1]), (6, 2, [0, 1]), (7, 2, []), (8, 1, []), (9, 2, [])] (by kernel_rfl) (by kernel_rfl) (by kernel_rfl) ?_))
        go_roundw
        case rel => exact ⟨s + 1, q5, b5, _, _, _, by omega, by go_num, HS9.out, HZ, HS5⟩
        case measure => simp [intOf]; omega
      · have hst2 : st ≤ s := by omega
        have HALL := Lib.hid (HS.out.2.all hst2)
        have HWH := Lib.hid HW.out.1.whole
        go_wp2_with fail
        refine (validL_any Aq s cq _ ls wr HWH.out (Nat.le_refl _) (by omega) (fun l hl => Nat.le_trans (HS.out.1 l hl) (by omega))).mono ?_
        rintro e w5 ⟨rfl, hB5⟩
        have HB5 := Lib.hid (And.intro (HW.out.2.2.1.below hB5 HW.out.2.2.1.lt) (HW.out.2.2.2.2.trans (hB5.mono HW.out.2.2.2.2.size)))
        have HB6 := Lib.hid (And.intro hB5 (HW.out.2.1.below hB5 HW.out.2.1.lt))
        obtain ⟨vb, hvb⟩ : ∃ vb, validB ls = vb := ⟨_, rfl⟩
        rw [hvb]
        have HVB := Lib.hid hvb
        clear hvb hB5
        cases vb
        · skip
          have hput := (HB5.out.1.put 0 (.slice none 0 0)).cell 0
          have tc := HB5.out.1.cell
          have tl := HB5.out.1.lt
          have tf := HB5.out.1.frozen
          have HBB := Lib.hid ((HB5.out.2).setCell (p := ⟨w.heap.size, 0, none⟩) (Nat.le_refl _) (.slice none 0 0))
          go_wp2_with fail
          refine bodyPost_ret (v := .tuple #[.agg #[.slice none 0 0], .int .i64 22]) (by simp [results, Try.results19, go_sem, hput]) rfl ?_
          exact unp_bad HBB.out (UnpRel.none HLI.out.1 HLI.out.2 HSB.out fun ls' h1 h2 => by have := HALL.out ls' h1 h2; subst this; rw [HVB.out] at h1; cases h1)
        have r5c := HB6.out.2.cell
        have r5l := HB6.out.2.lt
        go_wp2_with fail
        refine (pack_any Aq s cq wr.heap.size ls _ (HWH.out.keep (fun p hp => HB6.out.1.cell hp)) HB6.out.1.size (Pk.of HVB.out)).mono ?_
        rintro e w6 ⟨v6, rfl, ho6, hB7, _⟩
        obtain ⟨A6, c6, rfl, _, _⟩ := own_form ho6
        have hrd6 := Rd.ofOwn ho6
        have hpm := packB_min ls
        obtain ⟨b6, o6, rfl, _⟩ := hrd6.2 (by omega)
        have HB8 := Lib.hid (And.intro (HB5.out.1.below (hB7.mono (by have := HB6.out.1.size; have := HB5.out.1.lt; omega)) (by have := HB5.out.1.lt; omega)) (HB5.out.2.trans (hB7.mono HB5.out.2.size)))
        have HB9 := Lib.hid (And.intro (HB6.out.1.trans (hB7.mono HB6.out.1.size)) (HB6.out.2.below hB7 HB6.out.2.lt))
        have HR6 := Lib.hid (And.intro hrd6 (H0.out.keep (w' := w6) fun p hp => HB8.out.2.cell (by omega)))
        have s6c := HB9.out.2.cell
        have s6l := HB9.out.2.lt
        clear ho6 hB7 hrd6
        go_wp2_with fail
        refine (equal_any _ _ _ c6 n c _ B (packB ls) b _ HR6.out.1 HR6.out.2 (by omega) (by omega) (pack_byte ls) HBY.out).mono ?_
        rintro e w7 ⟨⟨qb, rfl, hq⟩, rfl⟩
        have HQ := Lib.hid hq
        clear hq
        cases qb
        · skip
          have hput := (HB8.out.1.put 0 (.slice none 0 0)).cell 0
          have tc := HB8.out.1.cell
          have tl := HB8.out.1.lt
          have tf := HB8.out.1.frozen
          have HBB := Lib.hid ((HB8.out.2).setCell (p := ⟨w.heap.size, 0, none⟩) (Nat.le_refl _) (.slice none 0 0))
          go_wp2_with fail
          refine bodyPost_ret (v := .tuple #[.agg #[.slice none 0 0], .int .i64 22]) (by simp [results, Try.results19, go_sem, hput]) rfl ?_
          exact unp_bad HBB.out (UnpRel.none HLI.out.1 HLI.out.2 HSB.out fun ls' h1 h2 => absurd (HQ.out.2 (by rw [HALL.out ls' h1 h2]; exact h2)) (by simp))
        have u6c := HB8.out.1.cell
        have u6l := HB8.out.1.lt
        have u6f := HB8.out.1.frozen
        have hput := (HB8.out.1.put 0 (.slice Aq s cq)).cell 0
        have hO9 : Outside (fun g => g = w.heap.size ∨ wr.heap.size ≤ g) wr (w6.setCell ⟨w.heap.size, 0, none⟩ (.slice Aq s cq)) := (Outside.ofBelow (R := fun g => g = w.heap.size ∨ wr.heap.size ≤ g) HB9.out.1 (fun _ h => Or.inr h)).setCell (p := ⟨w.heap.size, 0, none⟩) (Or.inl (Or.inl rfl)) _
        have HZ := Lib.hid (And.intro (HW.out.1.out hO9 (fun g h1 h2 => by omega)).whole (HB8.out.2.setCell (p := ⟨w.heap.size, 0, none⟩) (Nat.le_refl _) (.slice Aq s cq)))
        clear hO9
        go_wp2_with fail
        refine bodyPost_ret (v := .tuple #[.agg #[.slice Aq s cq], .int .i64 0]) (by simp [results, Try.results19, go_sem, hput]) rfl ?_
        have hpk := HQ.out.1 (by simp)
        exact ⟨Aq, s, cq, ls, 0, rfl, HZ.out.1, HZ.out.2, by omega, HS.out.1, fun ls' h1 h2 _ => ⟨rfl, HALL.out ls' h1 h2⟩, fun _ => ⟨HVB.out, hpk, Nat.le_of_not_lt HLI.out.1⟩, fun h => absurd rfl h⟩
    · rcases Nat.lt_or_ge s st with hlt | hlt
      · skip
        have hput := (HW.out.2.2.1.put 0 (.slice none 0 0)).cell 0
        have tc := HW.out.2.2.1.cell
        have tl := HW.out.2.2.1.lt
        have tf := HW.out.2.2.1.frozen
        have HBB := Lib.hid ((HW.out.2.2.2.2).setCell (p := ⟨w.heap.size, 0, none⟩) (Nat.le_refl _) (.slice none 0 0))
        go_wp2_with fail
        refine bodyPost_ret (v := .tuple #[.agg #[.slice none 0 0], .int .i64 22]) (by simp [results, Try.results19, go_sem, hput]) rfl ?_
        exact unp_bad HBB.out (UnpRel.none HLI.out.1 HLI.out.2 HSB.out fun ls' h1 h2 => by cases (HS.out.2 ls' h1 h2).1)
      · skip
        have hput := (HW.out.2.2.1.put 0 (.slice none 0 0)).cell 0
        have tc := HW.out.2.2.1.cell
        have tl := HW.out.2.2.1.lt
        have tf := HW.out.2.2.1.frozen
        have HBB := Lib.hid ((HW.out.2.2.2.2).setCell (p := ⟨w.heap.size, 0, none⟩) (Nat.le_refl _) (.slice none 0 0))
        go_wp2_with fail
        refine bodyPost_ret (v := .tuple #[.agg #[.slice none 0 0], .int .i64 22]) (by simp [results, Try.results19, go_sem, hput]) rfl ?_
        exact unp_bad HBB.out (UnpRel.none HLI.out.1 HLI.out.2 HSB.out fun ls' h1 h2 => by cases (HS.out.2 ls' h1 h2).1)
end Go.Proofs.Ytonpdclccgpceaa
