/- the first arc without its like: witness -/
import Derived.Test.YtmciinikfjfegaaSgW8
namespace Go.Proofs.Ytmciinikfjfegaa
open Go Go.RowKit
set_option maxHeartbeats 8000000

theorem numAt_some {cl : List Nat} {q x : Nat} (h : cl[q]? = some x) : numAt (intC cl) (q : Nat) = x := by
  rw [numAt, intC, List.getD_eq_getElem?_getD, List.getElem?_map, Int.toNat_natCast, h]
  rfl

set_option maxRecDepth 100000 in
theorem wit1_any (x a : Arc) (ba bc : Nat) (A' : Option Addr) (n' c' : Nat) (cl : List Nat) (B : Nat) (w : World) (h0 : w.cell? ⟨ba, 0, none⟩ = some (.int .i64 a.ev)) (h1 : w.cell? ⟨ba, 1, none⟩ = some (.int .i64 a.to)) (h2 : w.cell? ⟨bc, 0, none⟩ = some (.slice A' n' c'))
    (h : Rd w B 1 A' n' (cellsOf ncell cl)) (hB : B ≤ w.heap.size) (hx : 0 ≤ x.to ∧ x.to < cl.length) (ha : 0 ≤ a.to ∧ a.to < cl.length) :
    Calls Try.prog 85 #[x.v, .pointer (some ⟨ba, 0, none⟩), .pointer (some ⟨bc, 0, none⟩)] w fun e w' => e = .returned (.bool (decide (x.ev = a.ev) && decide (numAt (intC cl) x.to = numAt (intC cl) a.to))) ∧ Below w.heap.size w w' := by
  obtain ⟨xe, xt⟩ := x
  obtain ⟨ae, at_⟩ := a
  dsimp only at h0 h1 hx ha
  have hl := h.len ncell_len (by decide)
  obtain ⟨p, rfl⟩ : ∃ p : Nat, xt = p := ⟨xt.toNat, by omega⟩
  obtain ⟨q, rfl⟩ : ∃ q : Nat, at_ = q := ⟨at_.toNat, by omega⟩
  have l0 := World.block_lt_of_cell? w _ h0
  have l2 := World.block_lt_of_cell? w _ h2
  dsimp only at l0 l2
  obtain ⟨b5, o5, y, rfl, hb5, hy, c0⟩ := h.nat (i := p) (by omega)
  obtain ⟨b6, o6, z, hab, hb6, hz, d0⟩ := h.nat (i := q) (by omega)
  obtain ⟨rfl, rfl⟩ : b5 = b6 ∧ o5 = o6 := by simpa using hab
  have hb5l : b5 < w.heap.size := by omega
  have hp : p < n' := by omega
  have hq : q < n' := by omega
  have HR := Lib.hid (show (decide (xe = ae) && decide (numAt (intC cl) ((p : Nat) : Int) = numAt (intC cl) ((q : Nat) : Int))) = (decide (xe = ae) && decide ((y : Int) = z)) by rw [numAt_some hy, numAt_some hz])
  dsimp only
  rw [HR.out]
  clear h hab hy hz hx ha hl
  by_cases he : xe = ae
  · subst he
    go_enter Try.func85, Try.ntmps85
    go_wp2_with (first | ((with_reducible show wpPlan _ _ _ _ _ (Act.put _ _ _) _); simp only [List.getElem_toArray, List.getElem_cons_succ, List.getElem_cons_zero, Act.put, List.setIfInBounds_toArray, List.set_cons_zero, List.set_cons_succ]) | ((with_reducible show wpPlan _ _ _ _ _ _ _); first | refine wpPlan_nil ?_ | (refine wpPlan_read0 rfl ?hw rfl (fun _ _ _ => ?_); case hw => ((conv => (lhs; whnf)); first | done | with_reducible rfl)) | (refine wpPlan_read1d rfl ?hw rfl rfl (fun _ _ _ => ?_); case hw => ((conv => (lhs; whnf)); first | done | with_reducible rfl)) | (refine wpPlan_eff rfl ?hw (fun _ _ => ?_); case hw => ((conv => (lhs; whnf)); first | done | with_reducible rfl)) | (refine wpPlan_skip0 rfl ?hw ?_; case hw => ((conv => (lhs; whnf)); first | done | with_reducible rfl)) | (refine wpPlan_skip1d rfl ?hw ?_; case hw => ((conv => (lhs; whnf)); first | done | with_reducible rfl)) | (refine wpPlan_skip2 rfl ?hw ?_; case hw => ((conv => (lhs; whnf)); first | done | with_reducible rfl)) | (refine wpPlan_read1 rfl ?hw rfl (fun _ _ _ => ?_); case hw => ((conv => (lhs; whnf)); first | done | with_reducible rfl)) | refine wpPlan_fork ?_ ?_) | ((with_reducible show Owed _ _ _ _ _ _ _ _ _); first | refine Owed.none_ ?_ | refine Owed.nil_ ?_ | refine Owed.miss rfl ?_ | refine Owed.hit ?_ ?_) | ((with_reducible show Same _ _ _ _ _); intro _; go_simp; done) | (with_reducible exact True.intro) | ((with_reducible show Code.wp _ (Code.region 1 _ true) _ _ _); refine wp_region_plan [(0, 1, []), (1, 1, []), (2, 1, []), (3, 1, []), (4, 1, []), (5, 0, []), (6, 1, []), (7, 1, []), (8, 1, []), (9, 1, []), (10, 1, []), (11, 1, []), (12, 1, []), (13, 1, []), (14, 1, []), (15, 1, []), (16, 1, []), (17, 0, []), (18, 0, [])] (by kernel_rfl) (by kernel_rfl) (by kernel_rfl) ?_))
    go_ret
    refine ⟨ret_bool ?_, ((Below.refl _ _).alloc (Nat.le_refl _) _).drew⟩
    rw [Bool.eq_iff_iff]
    simp
  · have hee : (xe == ae) = false := by simp [he]
    go_enter Try.func85, Try.ntmps85
    go_wp2_with (first | ((with_reducible show wpPlan _ _ _ _ _ (Act.put _ _ _) _); simp only [List.getElem_toArray, List.getElem_cons_succ, List.getElem_cons_zero, Act.put, List.setIfInBounds_toArray, List.set_cons_zero, List.set_cons_succ]) | ((with_reducible show wpPlan _ _ _ _ _ _ _); first | refine wpPlan_nil ?_ | (refine wpPlan_read0 rfl ?hw rfl (fun _ _ _ => ?_); case hw => ((conv => (lhs; whnf)); first | done | with_reducible rfl)) | (refine wpPlan_read1d rfl ?hw rfl rfl (fun _ _ _ => ?_); case hw => ((conv => (lhs; whnf)); first | done | with_reducible rfl)) | (refine wpPlan_eff rfl ?hw (fun _ _ => ?_); case hw => ((conv => (lhs; whnf)); first | done | with_reducible rfl)) | (refine wpPlan_skip0 rfl ?hw ?_; case hw => ((conv => (lhs; whnf)); first | done | with_reducible rfl)) | (refine wpPlan_skip1d rfl ?hw ?_; case hw => ((conv => (lhs; whnf)); first | done | with_reducible rfl)) | (refine wpPlan_skip2 rfl ?hw ?_; case hw => ((conv => (lhs; whnf)); first | done | with_reducible rfl)) | (refine wpPlan_read1 rfl ?hw rfl (fun _ _ _ => ?_); case hw => ((conv => (lhs; whnf)); first | done | with_reducible rfl)) | refine wpPlan_fork ?_ ?_) | ((with_reducible show Owed _ _ _ _ _ _ _ _ _); first | refine Owed.none_ ?_ | refine Owed.nil_ ?_ | refine Owed.miss rfl ?_ | refine Owed.hit ?_ ?_) | ((with_reducible show Same _ _ _ _ _); intro _; go_simp; done) | (with_reducible exact True.intro) | ((with_reducible show Code.wp _ (Code.region 1 _ true) _ _ _); refine wp_region_plan [(0, 1, []), (1, 1, []), (2, 1, []), (3, 1, []), (4, 1, []), (5, 0, []), (6, 1, []), (7, 1, []), (8, 1, []), (9, 1, []), (10, 1, []), (11, 1, []), (12, 1, []), (13, 1, []), (14, 1, []), (15, 1, []), (16, 1, []), (17, 0, []), (18, 0, [])] (by kernel_rfl) (by kernel_rfl) (by kernel_rfl) ?_))
    go_ret
    refine ⟨ret_bool ?_, ((Below.refl _ _).alloc (Nat.le_refl _) _).drew⟩
    rw [Bool.eq_iff_iff]
    simp [he]

set_option maxRecDepth 100000 in
theorem index_any (a : Arc) (ba bc : Nat) (A : Option Addr) (n c : Nat) (l : List Arc) (A' : Option Addr) (n' c' : Nat) (cl : List Nat) (B : Nat) (w : World) (h0 : w.cell? ⟨ba, 0, none⟩ = some (.int .i64 a.ev)) (h1 : w.cell? ⟨ba, 1, none⟩ = some (.int .i64 a.to)) (h2 : w.cell? ⟨bc, 0, none⟩ = some (.slice A' n' c'))
    (h : Rd w B 1 A' n' (cellsOf ncell cl)) (hr : Rd w B 2 A n (cellsOf Arc.cells l)) (hB : B ≤ w.heap.size) (hn : n ≤ 1000000000) (hx : ∀ x ∈ l, 0 ≤ x.to ∧ x.to < cl.length) (ha : 0 ≤ a.to ∧ a.to < cl.length) :
    Calls Try.prog 94 #[.slice A n c, .func (.func 85) #[] #[.pointer (some ⟨ba, 0, none⟩), .pointer (some ⟨bc, 0, none⟩)]] w fun e w' =>
      (∃ r : Int, e = .returned (.int .i64 r) ∧ -1 ≤ r ∧ r ≤ 1000000000 ∧ (0 ≤ r ↔ hasB l cl a.ev (numAt (intC cl) a.to) = true)) ∧ Below w.heap.size w w' := by
  have H := Lib.hid (And.intro h0 (And.intro h1 (And.intro h2 (And.intro h hr))))
  have HX := Lib.hid (And.intro hx ha)
  have HL := Lib.hid (hr.len Arc.cells_len (by decide))
  have l0 := World.block_lt_of_cell? w _ h0
  have l2 := World.block_lt_of_cell? w _ h2
  dsimp only at l0 l2
  clear h0 h1 h2 h hr hx ha
  go_enter Try.func94, Try.ntmps94
  go_wp2_with fail
  go_loopw [8] (fun vk wr => ∃ k : Nat, k ≤ n ∧ vk = .int .i64 k ∧ Hid (hasB (l.take k) cl a.ev (numAt (intC cl) a.to) = false ∧ Below w.heap.size w wr)) (fun vk _ => n - (intOf vk).toNat)
  case atStart => exact ⟨0, Nat.zero_le _, rfl, Lib.hid ⟨rfl, Below.refl _ _⟩⟩
  case round =>
    obtain ⟨k, hk, rfl, HW⟩ := hrel
    have hsz := HW.out.2.size
    by_cases hlt : k < n
    · obtain ⟨b1, o1, x, rfl, hb1, hx, c0, c1⟩ := (H.out.2.2.2.2.keep (w' := wr) (fun p hp => HW.out.2.cell (by omega))).arc hlt
      have HXM := Lib.hid hx
      have HS := Lib.hid (show hasB (l.take (k + 1)) cl a.ev (numAt (intC cl) a.to) = (hasB (l.take k) cl a.ev (numAt (intC cl) a.to) || (decide (x.ev = a.ev) && decide (numAt (intC cl) x.to = numAt (intC cl) a.to))) by
        rw [List.take_add_one, hx]
        unfold hasB
        rw [List.any_append]
        simp)
      obtain ⟨v, hv⟩ : ∃ v, (decide (x.ev = a.ev) && decide (numAt (intC cl) x.to = numAt (intC cl) a.to)) = v := ⟨_, rfl⟩
      have HV := Lib.hid hv
      rw [hv] at HS
      clear hx hv
      go_wp2_with fail
      refine (wit1_any x a ba bc A' n' c' cl B wr ((HW.out.2.cell (by exact l0)).trans H.out.1) ((HW.out.2.cell (by exact l0)).trans H.out.2.1) ((HW.out.2.cell (by exact l2)).trans H.out.2.2.1) (H.out.2.2.2.1.below (HW.out.2.mono hB)) (by omega) (HX.out.1 x (List.mem_of_getElem? HXM.out)) HX.out.2).mono ?_
      rw [HV.out]
      rintro e w3 ⟨rfl, hb3⟩
      have HB3 := Lib.hid (HW.out.2.trans (hb3.mono hsz))
      clear hb3 c0 c1
      cases v
      · have HS2 := Lib.hid (show hasB (l.take (k + 1)) cl a.ev (numAt (intC cl) a.to) = false by rw [HS.out, HW.out.1]; rfl)
        go_wp2_with fail
        go_roundw
        case rel => exact ⟨k + 1, by omega, by go_num, Lib.hid ⟨HS2.out, HB3.out⟩⟩
        case measure => simp [intOf]; omega
      · have HT := Lib.hid (show hasB l cl a.ev (numAt (intC cl) a.to) = true by
          have h1 := HS.out
          rw [HW.out.1] at h1
          unfold hasB at h1 ⊢
          rw [← List.take_append_drop (k + 1) l, List.any_append, h1]
          rfl)
        go_wp2_with fail
        go_ret
        exact ⟨⟨(k : Nat), rfl, by omega, by omega, ⟨fun _ => HT.out, fun _ => by omega⟩⟩, HB3.out⟩
    · have HT := Lib.hid (show hasB l cl a.ev (numAt (intC cl) a.to) = false by
        have h1 := HW.out.1
        rwa [List.take_of_length_le (by rw [HL.out]; omega)] at h1)
      go_wp2_with fail
      go_ret
      exact ⟨⟨-1, rfl, by omega, by omega, ⟨fun h => by omega, fun h => by rw [HT.out] at h; cases h⟩⟩, HW.out.2⟩

set_option maxRecDepth 100000 in
theorem contains_any (a : Arc) (ba bc : Nat) (A : Option Addr) (n c : Nat) (l : List Arc) (A' : Option Addr) (n' c' : Nat) (cl : List Nat) (B : Nat) (w : World) (h0 : w.cell? ⟨ba, 0, none⟩ = some (.int .i64 a.ev)) (h1 : w.cell? ⟨ba, 1, none⟩ = some (.int .i64 a.to)) (h2 : w.cell? ⟨bc, 0, none⟩ = some (.slice A' n' c'))
    (h : Rd w B 1 A' n' (cellsOf ncell cl)) (hr : Rd w B 2 A n (cellsOf Arc.cells l)) (hB : B ≤ w.heap.size) (hn : n ≤ 1000000000) (hx : ∀ x ∈ l, 0 ≤ x.to ∧ x.to < cl.length) (ha : 0 ≤ a.to ∧ a.to < cl.length) :
    Calls Try.prog 84 #[.slice A n c, .func (.func 85) #[] #[.pointer (some ⟨ba, 0, none⟩), .pointer (some ⟨bc, 0, none⟩)]] w fun e w' =>
      e = .returned (.bool (hasB l cl a.ev (numAt (intC cl) a.to))) ∧ Below w.heap.size w w' := by
  obtain ⟨v, hv⟩ : ∃ v, hasB l cl a.ev (numAt (intC cl) a.to) = v := ⟨_, rfl⟩
  have HI := Lib.hid (index_any a ba bc A n c l A' n' c' cl B w h0 h1 h2 h hr hB hn hx ha)
  have HV := Lib.hid hv
  rw [hv]
  clear h0 h1 h2 h hr hx ha hv
  go_enter Try.func84, Try.ntmps84
  go_wp2_with fail
  refine HI.out.mono ?_
  rintro e w2 ⟨⟨r, rfl, hr1, hr2, hr3⟩, hb2⟩
  rw [HV.out] at hr3
  have HB2 := Lib.hid hb2
  clear hb2
  cases v
  · have hr4 : ¬ 0 ≤ r := fun h => by have := hr3.1 h; cases this
    clear hr3
    go_wp2_with fail
    go_ret
    exact ⟨ret_bool (by first | (simp; done) | (simp; omega)), HB2.out⟩
  · have hr4 : 0 ≤ r := hr3.2 rfl
    clear hr3
    go_wp2_with fail
    go_ret
    exact ⟨ret_bool (by first | (simp; done) | (simp; omega)), HB2.out⟩

set_option maxRecDepth 100000 in
theorem witness_any (f s t k n K : Nat) (ls : List (List Arc)) (AL AR : Option Addr) (cL cR : Nat) (vO : Value) (w : World) (h : FinAt w f AL n cL ls AR K cR vO) (ho : OkL ls n) (hs : s < n) (ht : t < n) (hk : k ≤ K) :
    Calls Try.prog 71 #[.pointer (some ⟨f, 0, none⟩), .int .i64 s, .int .i64 t, .int .i64 k] w fun e w' =>
      ((∃ a, wit ls s t k = some a ∧ e = .returned (.tuple #[a.v, .bool true])) ∨ wit ls s t k = none ∧ e = .returned (.tuple #[.agg #[.int .i64 0, .int .i64 0], .bool false])) ∧ Below w.heap.size w w' := by
  have hfl := h.blk.lt
  obtain ⟨b1, o1, r, A1, n1, c1, rfl, hb1, hr, hrl, e1, hrow1⟩ := h.rnd.row (show k < K + 1 by omega)
  rw [rndL_get hk] at hr
  obtain rfl := Option.some.inj hr
  rw [clK_len, ho.len] at hrl
  subst hrl
  obtain ⟨b2, o2, l, A2, n2, c2, rfl, hb2, hl, hln, e2, hrow2⟩ := h.sys.row hs
  obtain ⟨b3, o3, l3, A3, n3, c3, hab, hb3, hl3, hln3, e3, hrow3⟩ := h.sys.row ht
  obtain ⟨rfl, rfl⟩ : b2 = b3 ∧ o2 = o3 := by simpa using hab
  have HH := Lib.hid h
  have HO := Lib.hid ho
  have HL := Lib.hid (show rowAt ls s = l from rowAt_get hl)
  have HL3 := Lib.hid (show rowAt ls t = l3 from rowAt_get hl3)
  have HT2 := Lib.hid (show ∀ x ∈ l, 0 ≤ x.to ∧ x.to < (clK ls k).length from fun x hx => by
    have := ho.tos l (List.mem_of_getElem? hl) x hx
    rw [clK_len]
    exact this)
  have HT3 := Lib.hid (show ∀ x ∈ l3, 0 ≤ x.to ∧ x.to < (clK ls k).length from fun x hx => by
    have := ho.tos l3 (List.mem_of_getElem? hl3) x hx
    rw [clK_len]
    exact this)
  have HE3 := Lib.hid e3
  have hn2 : n2 ≤ 100000 := by have := ho.rows l (List.mem_of_getElem? hl); omega
  have hn3 : n3 ≤ 100000 := by have := ho.rows l3 (List.mem_of_getElem? hl3); omega
  have HR1 := Lib.hid hrow1
  have HR2 := Lib.hid hrow2
  have HR3 := Lib.hid hrow3
  have HLN := Lib.hid hln
  have h0 := h.blk.alloc (.cells #[.int .i64 0, .int .i64 0] 23)
  have h0c := h0.cell 1
  have hb1l : b1 < w.heap.size := by omega
  have hb2l : b2 < w.heap.size := by omega
  have h00 := (h0.alloc (.cells #[.slice A1 n c1] 29)).cell 0
  have HN0 := Lib.hid (And.intro ((Blk.new w 23 #[.int .i64 0, .int .i64 0]).alloc (.cells #[.slice A1 n c1] 29)) (And.intro (show Blk ((w.alloc (.cells #[.int .i64 0, .int .i64 0] 23)).alloc (.cells #[.slice A1 n c1] 29)) (w.heap.size + 1) 29 #[.slice A1 n c1] from heap_alloc_at (by simp)) (((Below.refl w.heap.size w).alloc (Nat.le_refl _) (.cells #[.int .i64 0, .int .i64 0] 23)).alloc (by simp) (.cells #[.slice A1 n c1] 29))))
  clear h ho hr hl hl3 hrow1 hrow2 hrow3 hab hln h0
  go_enter Try.func71, Try.ntmps71
  go_wp2_with fail
  go_loopw [29] (fun vk wr => ∃ j : Nat, j ≤ n2 ∧ vk = .int .i64 j ∧ Hid ((l.take j).find? (fun a => !hasB l3 (clK ls k) a.ev (numAt (intC (clK ls k)) a.to)) = none ∧ Blk wr w.heap.size 23 #[.int .i64 0, .int .i64 0] ∧ Blk wr (w.heap.size + 1) 29 #[.slice A1 n c1] ∧ Below w.heap.size w wr)) (fun vk _ => n2 - (intOf vk).toNat)
  case atStart => exact ⟨0, Nat.zero_le _, rfl, Lib.hid ⟨rfl, HN0.out⟩⟩
  case round =>
    obtain ⟨j, hj, rfl, HW⟩ := hrel
    have hsz := HW.out.2.2.2.size
    clear h0c h00 e1 e2 e3
    by_cases hlt : j < n2
    · obtain ⟨b5, o5, x, rfl, hb5, hx, d0, d1⟩ := (HR2.out.keep (w' := wr) (fun p hp => HW.out.2.2.2.cell (by omega))).arc hlt
      have HXM := Lib.hid hx
      obtain ⟨xe, xt⟩ := x
      dsimp only at d0 d1
      have HBA := Lib.hid (HW.out.2.2.2.alloc hsz (.cells #[.int .i64 xe, .int .i64 xt] 23))
      have HFA := Lib.hid ((HH.out.below HW.out.2.2.2).blk.alloc (.cells #[.int .i64 xe, .int .i64 xt] 23))
      have HXB := Lib.hid (Blk.new wr 23 #[.int .i64 xe, .int .i64 xt])
      have HCB := Lib.hid (HW.out.2.2.1.alloc (.cells #[.int .i64 xe, .int .i64 xt] 23))
      have HZB := Lib.hid (HW.out.2.1.alloc (.cells #[.int .i64 xe, .int .i64 xt] 23))
      have ex3 := (HBA.out.cell (p := ⟨b2, o2 + t, none⟩) (by dsimp only; omega)).trans HE3.out
      have hfa0 := HFA.out.cell 0
      have hfal := HFA.out.lt
      have hb5l : b2 < (wr.alloc (.cells #[.int .i64 xe, .int .i64 xt] 23)).heap.size := by simp; omega
      have hb5m : b5 < wr.heap.size := by omega
      have hrl2 : n = n := rfl
      have HS := Lib.hid (show (l.take (j + 1)).find? (fun a => !hasB l3 (clK ls k) a.ev (numAt (intC (clK ls k)) a.to)) = if hasB l3 (clK ls k) xe (numAt (intC (clK ls k)) xt) = true then none else some ⟨xe, xt⟩ from by
        rw [List.take_add_one, hx, List.find?_append, HW.out.1]
        show Option.or none (List.find? (fun a : Arc => !hasB l3 (clK ls k) a.ev (numAt (intC (clK ls k)) a.to)) [⟨xe, xt⟩]) = _
        rw [Option.none_or, List.find?_cons]
        dsimp only
        cases hasB l3 (clK ls k) xe (numAt (intC (clK ls k)) xt) <;> rfl)
      obtain ⟨v, hv⟩ : ∃ v, hasB l3 (clK ls k) xe (numAt (intC (clK ls k)) xt) = v := ⟨_, rfl⟩
      rw [hv] at HS
      have HV := Lib.hid hv
      clear hv
      clear hx hrl2
      go_wp2_with fail
      refine (contains_any ⟨xe, xt⟩ wr.heap.size (w.heap.size + 1) A3 n3 c3 l3 A1 n c1 (clK ls k) w.heap.size _ (HXB.out.cell 0) (HXB.out.cell 1) (HCB.out.cell 0) ((HR1.out.below (HBA.out.mono (by omega))).more (by omega)) ((HR3.out.below (HBA.out.mono (by omega))).more (by omega)) HBA.out.size (by omega) HT3.out (HT2.out _ (List.mem_of_getElem? HXM.out))).mono ?_
      dsimp only
      rw [HV.out]
      rintro e w3 ⟨rfl, hb3⟩
      have hs3 : wr.heap.size + 1 ≤ w3.heap.size := by have := hb3.size; simpa using this
      have HB3 := Lib.hid (HBA.out.trans (hb3.mono HBA.out.size))
      have HC3 := Lib.hid (HCB.out.below hb3 HCB.out.lt)
      have HZ3 := Lib.hid (HZB.out.below hb3 HZB.out.lt)
      have HX3 := Lib.hid ((HXB.out).below hb3 (by simp))
      clear hb3 ex3 hfa0 hfal hb5l d0 d1
      cases v
      · have HW2 := Lib.hid (show wit ls s t k = some ⟨xe, xt⟩ by
          have h1 := HS.out
          rw [if_neg (by decide)] at h1
          rw [wit, HL.out, HL3.out, ← List.take_append_drop (j + 1) l, List.find?_append, h1]
          rfl)
        have z3c := HZ3.out.cell
        have z3l := HZ3.out.lt
        have z3f := HZ3.out.frozen
        have x3c := HX3.out.cell
        have x3l := HX3.out.lt
        have hp0 := ((HZ3.out.put 0 (.int .i64 xe)).put 1 (.int .i64 xt)).cell 0
        have hp1 := ((HZ3.out.put 0 (.int .i64 xe)).put 1 (.int .i64 xt)).cell 1
        have HBZ := Lib.hid ((HB3.out.setCell (p := ⟨w.heap.size, 0, none⟩) (Nat.le_refl _) (.int .i64 xe)).setCell (p := ⟨w.heap.size, 1, none⟩) (Nat.le_refl _) (.int .i64 xt))
        go_wp2_with fail
        refine bodyPost_ret (v := .tuple #[.agg #[.int .i64 xe, .int .i64 xt], .bool true]) (by simp [results, Try.results71, go_sem, hp0, hp1]) rfl ?_
        exact ⟨.inl ⟨⟨xe, xt⟩, HW2.out, rfl⟩, HBZ.out⟩
      · have HS2 := Lib.hid (show (l.take (j + 1)).find? (fun a => !hasB l3 (clK ls k) a.ev (numAt (intC (clK ls k)) a.to)) = none by rw [HS.out, if_pos rfl])
        go_wp2_with fail
        go_roundw
        case rel => exact ⟨j + 1, by omega, by go_num, Lib.hid ⟨HS2.out, HZ3.out, HC3.out, HB3.out⟩⟩
        case measure => simp [intOf]; omega
    · have HW2 := Lib.hid (show wit ls s t k = none by
        have h1 := HW.out.1
        rw [List.take_of_length_le (by rw [HLN.out]; omega)] at h1
        rw [wit, HL.out, HL3.out]
        exact h1)
      have z3c := HW.out.2.1.cell
      have z3l := HW.out.2.1.lt
      have z3f := HW.out.2.1.frozen
      have hp0 := ((HW.out.2.1.put 0 (.int .i64 0)).put 1 (.int .i64 0)).cell 0
      have hp1 := ((HW.out.2.1.put 0 (.int .i64 0)).put 1 (.int .i64 0)).cell 1
      have HBZ := Lib.hid ((HW.out.2.2.2.setCell (p := ⟨w.heap.size, 0, none⟩) (Nat.le_refl _) (.int .i64 0)).setCell (p := ⟨w.heap.size, 1, none⟩) (Nat.le_refl _) (.int .i64 0))
      go_wp2_with fail
      refine bodyPost_ret (v := .tuple #[.agg #[.int .i64 0, .int .i64 0], .bool false]) (by simp [results, Try.results71, go_sem, hp0, hp1]) rfl ?_
      exact ⟨.inr ⟨HW2.out, rfl⟩, HBZ.out⟩

end Go.Proofs.Ytmciinikfjfegaa
