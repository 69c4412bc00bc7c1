/- systems with one arc changed: Variant's walk -/
import Derived.Test.YtmciinikfjfegaaRwG6
import Derived.Test.YtmciinikfjfegaaRwI2
namespace Go.Proofs.Ytmciinikfjfegaa
open Go Go.RowKit
set_option maxHeartbeats 8000000

/-- one row is a new one now -/
theorem RowsOwn.swap {w w' : World} {W m bd gq cq s n' g8 c8 : Nat} {xs : List Value} {l' : List Arc} (h : RowsOwn w W (.slice (some ⟨gq, 0, none⟩) m cq) m bd xs)
    (hO : Outside (fun k => k = w.heap.size) w w') (hv : w'.ownsRow 0 23 2 (.slice (some ⟨g8, 0, none⟩) n' c8) n' (cellsOf Arc.cells l')) (hn : n' ≤ bd) (hg8 : w.heap.size ≤ g8) (hW : W ≤ w.heap.size) :
    RowsOwn (w'.setCell ⟨gq, s, none⟩ (.slice (some ⟨g8, 0, none⟩) n' c8)) W (.slice (some ⟨gq, 0, none⟩) m cq) m bd (xs.set s (.slice (some ⟨g8, 0, none⟩) n' c8)) := by
  have hql := h.lts.1 gq rfl
  have hq : w'.ownsRow 0 24 1 (.slice (some ⟨gq, 0, none⟩) m cq) m xs := own_out h.own hO fun k hk e => by
    have : gq = k := by simpa [Value.ownBlock] using hk
    omega
  refine ⟨(hq.stored s _).1, h.base, fun j u hj => ?_, fun j j' u u' g hj hj' hne hu hu' => ?_⟩
  · rw [List.getElem?_set] at hj
    split at hj
    · split at hj
      · cases hj
        exact ⟨g8, n', c8, l', rfl, own_setCell hv (p := ⟨gq, s, none⟩) (own_apart_own hq hv (by decide) rfl) _, hn, by omega⟩
      · cases hj
    · obtain ⟨g2, n2, c2, l2, e2, k1, k2, k3⟩ := h.rows j u hj
      have h5 : w'.ownsRow 0 23 2 u n2 (cellsOf Arc.cells l2) := own_out k1 hO fun k hk e => by
        have := own_lt k1 hk
        omega
      exact ⟨g2, n2, c2, l2, e2, own_setCell h5 (p := ⟨gq, s, none⟩) (own_apart_own hq h5 (by decide) rfl) _, k2, k3⟩
  · rw [List.getElem?_set] at hj hj'
    split at hj <;> split at hj'
    · omega
    · split at hj
      · cases hj
        have h1 := h.lts.2 j' u' g hj' hu'
        have h2 : g8 = g := by simpa [Value.ownBlock] using hu
        omega
      · cases hj
    · split at hj'
      · cases hj'
        have h1 := h.lts.2 j u g hj hu
        have h2 : g8 = g := by simpa [Value.ownBlock] using hu'
        omega
      · cases hj'
    · exact h.apart j j' u u' g hj hj' hne hu hu'
section
variable {w wr w' : World} {W t4 q B b n c j j' m c1 bd : Nat} {A A1 : Option Addr} {zs : List Int} {xs : List Value}
theorem SpAt.swap {gq s n' g8 c8 : Nat} {l' : List Arc} (h : SpAt w wr W t4 q B b A n c zs j (some ⟨gq, 0, none⟩) m c1 bd xs) (hO : Outside (fun k => k = wr.heap.size) wr w')
    (hv : w'.ownsRow 0 23 2 (.slice (some ⟨g8, 0, none⟩) n' c8) n' (cellsOf Arc.cells l')) (hn : n' ≤ bd) (hg8 : wr.heap.size ≤ g8) (h4 : t4 < W) (hWw : w.heap.size ≤ W) :
    SpAt w (w'.setCell ⟨gq, s, none⟩ (.slice (some ⟨g8, 0, none⟩) n' c8)) W t4 q B b A n c zs j (some ⟨gq, 0, none⟩) m c1 bd (xs.set s (.slice (some ⟨g8, 0, none⟩) n' c8)) := by
  have hgq := h.rows.base gq rfl
  have hql := h.rows.lts.1 gq rfl
  have hbl := h.tp.blk.lt
  have h4l := h.res.lt
  have hsl := h.sys.lt
  have hltW := h.ltW
  have hlo := h.lo
  have hwl := h.out.size
  have hO2 : Outside (fun k => k = gq) w' (w'.setCell ⟨gq, s, none⟩ (.slice (some ⟨g8, 0, none⟩) n' c8)) := (Outside.refl (fun k => k = gq) _).setCell (p := ⟨gq, s, none⟩) (.inl rfl) _
  have hqg : q ≠ gq := fun e => own_apart h.rows.own h.sys (by decide) (by rw [e]; rfl)
  have hO3 : Outside (fun k => k = b ∨ w.heap.size ≤ k) w (w'.setCell ⟨gq, s, none⟩ (.slice (some ⟨g8, 0, none⟩) n' c8)) :=
    ((h.out.mono fun k _ e => .inl e).trans (hO.mono fun k _ e => .inr (by have e' : k = wr.heap.size := e; omega))).trans (hO2.mono fun k _ e => .inr (by have e' : k = gq := e; omega))
  exact ⟨h.rows.swap hO hv hn hg8 (by omega), (h.res.out hO (by omega)).out hO2 (by omega), (h.sys.out hO (by omega)).out hO2 hqg,
    (h.tp.out hO (by omega) (fun k hk e => by omega)).out hO2 (by omega) (fun k hk e => by omega), hO3.mono fun k hk e => by omega, h.ne4, h.neq, h.ltW, h.lo⟩
/-- a system is given back as it is -/
theorem SpAt.endedN {gq i : Nat} (h : SpAt w wr W t4 q B b A n c zs j (some ⟨gq, 0, none⟩) m c1 bd xs) (hj : j ≤ i) (h4 : t4 < W) (hWw : w.heap.size ≤ t4) (hmc : m ≤ c1) (hbw : b < w.heap.size) :
    GenPost w B b A n c i zs 4 m (2 * bd + 1) (.returned (lts (some ⟨gq, 0, none⟩) m c1)) (wr.setCell ⟨t4, 0, none⟩ (.slice (some ⟨gq, 0, none⟩) m c1)) := by
  have hO2 : Outside (fun k => k = t4) wr (wr.setCell ⟨t4, 0, none⟩ (.slice (some ⟨gq, 0, none⟩) m c1)) := (Outside.refl (fun k => k = t4) _).setCell (p := ⟨t4, 0, none⟩) (.inl rfl) _
  have hne4 := h.ne4
  have hlo := h.lo
  obtain ⟨ls, h1, h2⟩ := (h.rows.out hO2 (fun g hg _ e => by have e' : g = t4 := e; omega)).whole
  exact ⟨⟨_, _, _, ls, rfl, h1, hmc, Nat.le_refl _, fun l hl => by have := h2 l hl; omega⟩, ⟨j, by omega, h.tp.out hO2 (by omega) (fun k hk e => by omega)⟩, h.out.setCell (p := ⟨t4, 0, none⟩) (.inr hWw) _⟩
end
theorem Rd.zero {w : World} {B k n n' : Nat} {A A' : Option Addr} {xs : List Value} (h : Rd w B k A n xs) (hn : n = 0) (hn' : n' = 0) : Rd w B k A' n' xs := by
  subst hn hn'
  exact ⟨h.1, fun h0 => by omega⟩
theorem GenPost.more {w w' : World} {B b : Nat} {A : Option Addr} {n c i i' : Nat} {zs : List Int} {d d' m bd : Nat} {e : Ending} (h : GenPost w B b A n c i' zs d m bd e w') (hi : i' + d ≤ i + d') : GenPost w B b A n c i zs d' m bd e w' := by
  obtain ⟨h1, ⟨j, hj, h2⟩, h3⟩ := h
  exact ⟨h1, ⟨j, by omega, h2⟩, h3⟩

set_option maxRecDepth 100000 in
theorem variant_any (B b : Nat) (A : Option Addr) (n c i : Nat) (zs : List Int) (Al : Option Addr) (m cl bd : Nat) (ls : List (List Arc)) (w : World) (h : TpAt w B b A n c zs i) (hl : RdL w w.heap.size Al m ls) (hm : m ≤ 1000) (hm1 : 1 ≤ m) (hs : ∀ l ∈ ls, l.length ≤ bd) (hbd : bd ≤ 1000) (hn : n ≤ 1000000000000) (hi : i ≤ 100000000) :
    Calls Try.prog 24 #[.pointer (some ⟨b, 0, none⟩), lts Al m cl] w (GenPost w B b A n c i zs 10 m (2 * bd + 1)) := by
  have HT0 := Lib.hid ((h.alloc (.cells #[.slice Al m cl] 27)).alloc (.cells #[.slice none 0 0] 27))
  have HO0 := Lib.hid (((Outside.refl (fun k => k = b) w).alloc (.cells #[.slice Al m cl] 27)).alloc (.cells #[.slice none 0 0] 27))
  have HR0 := Lib.hid (show Blk ((w.alloc (.cells #[.slice Al m cl] 27)).alloc (.cells #[.slice none 0 0] 27)) (w.heap.size + 1) 27 #[.slice none 0 0] from heap_alloc_at (by simp))
  have HL0 := Lib.hid ((hl.alloc (Nat.le_refl _) (.cells #[.slice Al m cl] 27)).alloc (by simp) (.cells #[.slice none 0 0] 27))
  have HSZ := Lib.hid (show ((w.alloc (.cells #[.slice Al m cl] 27)).alloc (.cells #[.slice none 0 0] 27)).heap.size = w.heap.size + 2 by simp)
  have HS := Lib.hid hs
  have hbw : b < w.heap.size := h.blk.lt
  clear h hl hs
  go_enter Try.func24, Try.ntmps24
  go_wp2_with fail
  refine (copy_any Al m cl w.heap.size bd ls _ HL0.out (by rw [HSZ.out]; omega) hm HS.out hbd).mono ?_
  rintro e w1 ⟨⟨v1, xs, rfl, hown1⟩, hb1⟩
  rw [HSZ.out] at hown1 hb1
  obtain ⟨A1, c1, rfl, hmc, _⟩ := own_form hown1.own
  have HX := Lib.hid (show SpAt w (w1.alloc (.cells #[.slice A1 m c1] 27)) (w.heap.size + 2 + 3) (w.heap.size + 1) w1.heap.size B b A n c zs i A1 m c1 bd xs from
    SpAt.alloc' hown1 (HR0.out.below hb1 (by simp)) (HT0.out.below (HSZ.out.symm ▸ hb1)) (HO0.out.trans (Below.new (HSZ.out.symm ▸ hb1) |>.mono fun k _ h => h.elim)) (by omega) (by have := hb1.size; rw [HSZ.out] at this; omega) (by omega) HT0.out.lo)
  have hx4c := HX.out.res.cell
  have hx4l := HX.out.res.lt
  have hx4f := HX.out.res.frozen
  have hxqc := HX.out.sys.cell
  have hxql := HX.out.sys.lt
  clear hown1 hb1
  obtain ⟨gq, cq, _, eA, _, _, _, _⟩ := HX.out.rows.at_ (by omega)
  cases eA
  go_wp2_with fail
  refine (tnext_any B b A n c i zs m _ HX.out.tp hn (by omega) (by omega) (by omega)).mono ?_
  rintro e w2 ⟨⟨r0, rfl, hr0, hr1⟩, hT2, hO2⟩
  obtain ⟨s, rfl⟩ : ∃ q : Nat, r0 = q := ⟨r0.toNat, by omega⟩
  have hs : s < m := by omega
  have HX2 := Lib.hid (HX.out.step hT2 hO2)
  clear hT2 hO2 hr0 hr1 hx4c hx4l hx4f hxqc hxql
  have hxqc := HX2.out.sys.cell
  have hxql := HX2.out.sys.lt
  obtain ⟨g1, n1, k1, l1, hxs, e1, how1, hn1, hW1⟩ := HX2.out.rows.cellAt hs
  have hgql := HX2.out.rows.lts.1 gq rfl
  clear hxs how1
  have HE2 := Lib.hid e1
  have hgqW : w.heap.size + 2 + 3 ≤ gq := HX2.out.rows.base gq rfl
  by_cases hn0 : 0 < n1
  · go_wp2_with (first | ((with_reducible show wpPlan _ _ _ _ _ (Act.put _ _ _) _); simp only [List.getElem_toArray, List.getElem_cons_succ, List.getElem_cons_zero, Act.put, List.setIfInBounds_toArray, List.set_cons_zero, List.set_cons_succ]) | ((with_reducible show wpPlan _ _ _ _ _ _ _); first | refine wpPlan_nil ?_ | (refine wpPlan_read0 rfl ?hw rfl (fun _ _ _ => ?_); case hw => ((conv => (lhs; whnf)); first | done | with_reducible rfl)) | (refine wpPlan_read1d rfl ?hw rfl rfl (fun _ _ _ => ?_); case hw => ((conv => (lhs; whnf)); first | done | with_reducible rfl)) | (refine wpPlan_eff rfl ?hw (fun _ _ => ?_); case hw => ((conv => (lhs; whnf)); first | done | with_reducible rfl)) | (refine wpPlan_skip0 rfl ?hw ?_; case hw => ((conv => (lhs; whnf)); first | done | with_reducible rfl)) | (refine wpPlan_skip1d rfl ?hw ?_; case hw => ((conv => (lhs; whnf)); first | done | with_reducible rfl)) | (refine wpPlan_skip2 rfl ?hw ?_; case hw => ((conv => (lhs; whnf)); first | done | with_reducible rfl)) | (refine wpPlan_read1 rfl ?hw rfl (fun _ _ _ => ?_); case hw => ((conv => (lhs; whnf)); first | done | with_reducible rfl)) | refine wpPlan_fork ?_ ?_) | ((with_reducible show Owed _ _ _ _ _ _ _ _ _); first | refine Owed.none_ ?_ | refine Owed.nil_ ?_ | refine Owed.miss rfl ?_ | refine Owed.hit ?_ ?_) | ((with_reducible show Same _ _ _ _ _); intro _; go_simp; done) | (with_reducible exact True.intro))
    refine (tnext_any B b A n c (i + 1) zs 2 _ HX2.out.tp hn (by omega) (by decide) (by decide)).mono ?_
    rintro e w3 ⟨⟨r3, rfl, hr3a, hr3b⟩, hT3, hO3⟩
    have HX3 := Lib.hid (HX2.out.step hT3 hO3)
    have HE3 := Lib.hid (hO3.cell HE2.out (by dsimp only; omega))
    clear hT3 hO3 hxqc hxql e1
    rcases (by omega : r3 = 0 ∨ r3 = 1) with rfl | rfl
    · clear hr3a hr3b
      go_wp2_with fail
      refine (tnext_any B b A n c (i + 1 + 1) zs n1 _ HX3.out.tp hn (by omega) (by omega) (by omega)).mono ?_
      rintro e w5 ⟨⟨r5, rfl, hr5a, hr5b⟩, hT5, hO5⟩
      obtain ⟨k, rfl⟩ : ∃ q : Nat, r5 = q := ⟨r5.toNat, by omega⟩
      have hk : k < n1 := by omega
      have HX5 := Lib.hid (HX3.out.step hT5 hO5)
      have HE5 := Lib.hid (hO5.cell HE3.out (by dsimp only; omega))
      clear hT5 hO5 hr5a hr5b
      obtain ⟨g2, n2, k2, l1, hxs, e1, how1, _, _⟩ := HX5.out.rows.cellAt hs
      obtain ⟨rfl, rfl, rfl⟩ : g1 = g2 ∧ n1 = n2 ∧ k1 = k2 := by
        have hh := HE5.out.symm.trans e1
        simpa using hh
      obtain ⟨_, _, cur, eq1, hqB, _, hcur, _⟩ := HX5.out.rows.at_ (by omega)
      cases eq1
      have hnk : n1 ≤ k1 := by
        obtain ⟨_, _, e', h', _⟩ := own_form how1
        cases e'
        exact h'
      have HOW := Lib.hid how1
      have HQB := Lib.hid hqB
      have hg1l := own_lt how1 (g := g1) rfl
      have hgql := hqB.lt
      have hx5c := HX5.out.sys.cell
      have hx5l := HX5.out.sys.lt
      have HN0 := Lib.hid (show ((w5.alloc (Obj.cells #[] 23)).drew).ownsRow 0 23 2 (.slice (some ⟨w5.heap.size, 0, none⟩) 0 0) 0 [] from
        ⟨rfl, .inr ⟨w5.heap.size, 0, #[], rfl, Nat.zero_le _, heap_alloc_new w5 _, Nat.le_refl _, by simp [maxLen], rfl, rfl⟩⟩)
      have HRT := Lib.hid (((Rd.ofOwn HOW.out).arcTake (show k ≤ n1 by omega)).alloc (Nat.le_refl _) (Obj.cells #[] 23))
      have HRD := Lib.hid (show Rd w5 w5.heap.size 2 (some ⟨g1, (k + 1) * 2, none⟩) (n1 - (k + 1)) (cellsOf Arc.cells (l1.drop (k + 1))) by
        have := (Rd.ofOwn HOW.out).arcDrop (show k + 1 ≤ n1 by omega)
        rwa [Nat.zero_add] at this)
      clear how1 hqB hxs
      have hkc : k1 - (k + 1) = 0 ∨ ¬ k1 - (k + 1) = 0 := by omega
      rcases hkc with hkc | hkc
      · have hk1 : k1 = k + 1 := by omega
        subst hk1
        obtain rfl : n1 = k + 1 := by omega
        clear hkc
        go_wp2_with (first | ((with_reducible show wpPlan _ _ _ ((11, 2, _) :: _) _ _ _); refine wpPlan_eff rfl rfl (fun _ hK => ?_); refine app_opt slArc rfl HN0.out rfl (HRT.out.drewN 1) (c := k + 1) rfl (arc_ones _) (by unfold maxLen; omega) (by omega) ?_; intro v8 w8 hown8 hgrow8 hat8; refine hK _ _ ?_; refine Stop7.intro ?_) | ((with_reducible show wpPlan _ _ _ _ _ (Act.put _ _ _) _); simp only [List.getElem_toArray, List.getElem_cons_succ, List.getElem_cons_zero, Act.put, List.setIfInBounds_toArray, List.set_cons_zero, List.set_cons_succ]) | ((with_reducible show wpPlan _ _ _ _ _ _ _); first | refine wpPlan_nil ?_ | (refine wpPlan_read0 rfl ?hw rfl (fun _ _ _ => ?_); case hw => ((conv => (lhs; whnf)); first | done | with_reducible rfl)) | (refine wpPlan_read1d rfl ?hw rfl rfl (fun _ _ _ => ?_); case hw => ((conv => (lhs; whnf)); first | done | with_reducible rfl)) | (refine wpPlan_eff rfl ?hw (fun _ _ => ?_); case hw => ((conv => (lhs; whnf)); first | done | with_reducible rfl)) | (refine wpPlan_skip0 rfl ?hw ?_; case hw => ((conv => (lhs; whnf)); first | done | with_reducible rfl)) | (refine wpPlan_skip1d rfl ?hw ?_; case hw => ((conv => (lhs; whnf)); first | done | with_reducible rfl)) | (refine wpPlan_skip2 rfl ?hw ?_; case hw => ((conv => (lhs; whnf)); first | done | with_reducible rfl)) | (refine wpPlan_read1 rfl ?hw rfl (fun _ _ _ => ?_); case hw => ((conv => (lhs; whnf)); first | done | with_reducible rfl)) | refine wpPlan_fork ?_ ?_) | ((with_reducible show Owed _ _ _ _ _ _ _ _ _); first | refine Owed.none_ ?_ | refine Owed.nil_ ?_ | refine Owed.miss rfl ?_ | refine Owed.hit ?_ ?_) | ((with_reducible show Same _ _ _ _ _); intro _; go_simp; done) | (with_reducible exact True.intro) | ((with_reducible show Code.wp _ (Code.region 6 _ true) _ _ _); refine wp_region_plan [(0, 1, []), (1, 1, []), (2, 0, []), (4, 1, []), (5, 1, []), (6, 0, []), (7, 1, []), (8, 1, []), (9, 0, []), (10, 1, []), (12, 1, []), (13, 1, []), (14, 0, []), (15, 1, []), (16, 1, []), (17, 0, []), (18, 1, []), (19, 1, []), (3, 2, [0, 1, 4, 5, 7, 8, 10, 12, 13, 15, 16, 18, 19]), (11, 2, [0, 1, 12, 13, 15, 16, 18, 19]), (20, 2, [0, 1]), (21, 1, []), (22, 2, [])] (by kernel_rfl) (by kernel_rfl) (by kernel_rfl) ?_))
        unfold Stop7
        rw [Nat.zero_add, List.nil_append] at hown8
        have hg8 : ((w5.alloc (Obj.cells #[] 23)).drew).grownBy w8 (some w5.heap.size) := hgrow8
        have hO8 : Outside (fun g => g = w5.heap.size) w5 w8 := ((Outside.refl (fun g => g = w5.heap.size) w5).alloc (Obj.cells #[] 23)).drew.grown hg8 (fun z hz => by cases hz; exact .inl rfl)
        have hb8 : Below w5.heap.size w5 w8 := hO8.below (Nat.le_refl _) (fun k hk e => by omega)
        obtain ⟨g8, c8, rfl, h8g⟩ := own_at hown8 hat8
        have h8w : w5.heap.size ≤ g8 := by
          rcases h8g with h | h
          · have h' : g8 = w5.heap.size := h
            omega
          · simp at h
            omega
        have HO8 := Lib.hid hown8
        have HB8 := Lib.hid hb8
        have HD8 := Lib.hid (HRD.out.below hb8)
        have hy8 := HX5.out.sys.below hb8 hx5l
        have hy8c := hy8.cell
        have hy8l := hy8.lt
        have hs8 := hb8.size
        have ey8 := (hb8.cell (p := ⟨gq, s, none⟩) (by dsimp only; omega)).trans e1
        clear hown8 hgrow8 hat8 hg8 hO8 hb8 hy8 h8g
        go_wp2_with (first | ((with_reducible show wpPlan _ _ _ ((20, 2, _) :: _) _ _ _); refine wpPlan_eff rfl rfl (fun _ hK => ?_); refine app_opt slArc rfl HO8.out rfl (by exact Rd.zero HD8.out (by omega) (by omega)) rfl (arc_ones _) (by unfold maxLen; omega) (by omega) ?_; intro v9 w9 hown9 hgrow9 hat9; refine hK _ _ ?_; refine Stop7.intro ?_) | ((with_reducible show wpPlan _ _ _ _ _ (Act.put _ _ _) _); simp only [List.getElem_toArray, List.getElem_cons_succ, List.getElem_cons_zero, Act.put, List.setIfInBounds_toArray, List.set_cons_zero, List.set_cons_succ]) | ((with_reducible show wpPlan _ _ _ _ _ _ _); first | refine wpPlan_nil ?_ | (refine wpPlan_read0 rfl ?hw rfl (fun _ _ _ => ?_); case hw => ((conv => (lhs; whnf)); first | done | with_reducible rfl)) | (refine wpPlan_read1d rfl ?hw rfl rfl (fun _ _ _ => ?_); case hw => ((conv => (lhs; whnf)); first | done | with_reducible rfl)) | (refine wpPlan_eff rfl ?hw (fun _ _ => ?_); case hw => ((conv => (lhs; whnf)); first | done | with_reducible rfl)) | (refine wpPlan_skip0 rfl ?hw ?_; case hw => ((conv => (lhs; whnf)); first | done | with_reducible rfl)) | (refine wpPlan_skip1d rfl ?hw ?_; case hw => ((conv => (lhs; whnf)); first | done | with_reducible rfl)) | (refine wpPlan_skip2 rfl ?hw ?_; case hw => ((conv => (lhs; whnf)); first | done | with_reducible rfl)) | (refine wpPlan_read1 rfl ?hw rfl (fun _ _ _ => ?_); case hw => ((conv => (lhs; whnf)); first | done | with_reducible rfl)) | refine wpPlan_fork ?_ ?_) | ((with_reducible show Owed _ _ _ _ _ _ _ _ _); first | refine Owed.none_ ?_ | refine Owed.nil_ ?_ | refine Owed.miss rfl ?_ | refine Owed.hit ?_ ?_) | ((with_reducible show Same _ _ _ _ _); intro _; go_simp; done) | (with_reducible exact True.intro))
        unfold Stop7
        rw [← cellsOf_append] at hown9
        have hb9 : Below w5.heap.size w5 w9 := HB8.out.grown hgrow9 HB8.out.size (fun z hz => by
          have h1 : g8 = z := by simpa [Value.ownBlock] using hz
          omega)
        obtain ⟨g9, c9, rfl, h9g⟩ := own_at hown9 hat9
        have h9w : w5.heap.size ≤ g9 := by
          rcases h9g with h | h
          · have h' : g9 = g8 := h
            omega
          · omega
        have HX9 := Lib.hid (HX5.out.swap (s := s) ((Below.new hb9).mono fun k _ h => h.elim) hown9 (by omega) h9w (by omega) (by omega))
        have hy9 := HX5.out.sys.below hb9 hx5l
        have hy9c := hy9.cell
        have hy9l := hy9.lt
        have hq9 := HQB.out.below hb9 hgql
        have q9l := hq9.lt
        have q9f := hq9.frozen s
        have ey9 := (hb9.cell (p := ⟨gq, s, none⟩) (by dsimp only; omega)).trans e1
        clear hown9 hgrow9 hat9 hb9 hy9 hq9 h9g
        go_wp2_with (first | ((with_reducible show wpPlan _ _ _ _ _ (Act.put _ _ _) _); simp only [List.getElem_toArray, List.getElem_cons_succ, List.getElem_cons_zero, Act.put, List.setIfInBounds_toArray, List.set_cons_zero, List.set_cons_succ]) | ((with_reducible show wpPlan _ _ _ _ _ _ _); first | refine wpPlan_nil ?_ | (refine wpPlan_read0 rfl ?hw rfl (fun _ _ _ => ?_); case hw => ((conv => (lhs; whnf)); first | done | with_reducible rfl)) | (refine wpPlan_read1d rfl ?hw rfl rfl (fun _ _ _ => ?_); case hw => ((conv => (lhs; whnf)); first | done | with_reducible rfl)) | (refine wpPlan_eff rfl ?hw (fun _ _ => ?_); case hw => ((conv => (lhs; whnf)); first | done | with_reducible rfl)) | (refine wpPlan_skip0 rfl ?hw ?_; case hw => ((conv => (lhs; whnf)); first | done | with_reducible rfl)) | (refine wpPlan_skip1d rfl ?hw ?_; case hw => ((conv => (lhs; whnf)); first | done | with_reducible rfl)) | (refine wpPlan_skip2 rfl ?hw ?_; case hw => ((conv => (lhs; whnf)); first | done | with_reducible rfl)) | (refine wpPlan_read1 rfl ?hw rfl (fun _ _ _ => ?_); case hw => ((conv => (lhs; whnf)); first | done | with_reducible rfl)) | refine wpPlan_fork ?_ ?_) | ((with_reducible show Owed _ _ _ _ _ _ _ _ _); first | refine Owed.none_ ?_ | refine Owed.nil_ ?_ | refine Owed.miss rfl ?_ | refine Owed.hit ?_ ?_) | ((with_reducible show Same _ _ _ _ _); intro _; go_simp; done) | (with_reducible exact True.intro))
        clear hy8c hy8l ey8 hy9c hy9l q9l q9f ey9 e1 hx5c hx5l
        refine (tnext_any B b A n c (i + 1 + 1 + 1) zs 3 _ HX9.out.tp hn (by omega) (by decide) (by decide)).mono ?_
        rintro e w20 ⟨⟨r20, rfl, hr20a, hr20b⟩, hT20, hO20⟩
        have HX20 := Lib.hid (HX9.out.step hT20 hO20)
        clear hT20 hO20
        have hx4c := HX20.out.res.cell
        have hx4l := HX20.out.res.lt
        have hx4f := HX20.out.res.frozen
        have hxqc := HX20.out.sys.cell
        have hxql := HX20.out.sys.lt
        have hgql := HX20.out.rows.lts.1 gq rfl
        have h4b := HX20.out.ne4
        by_cases h20 : 0 < r20
        · obtain ⟨g1, n1, k1, l1, hxs, e1, how1, hn1, hW1⟩ := HX20.out.rows.cellAt hs
          have hg1l := own_lt how1 (g := g1) rfl
          have HE20 := Lib.hid e1
          clear hxs how1
          go_wp2_with (first | ((with_reducible show wpPlan _ _ _ _ _ (Act.put _ _ _) _); simp only [List.getElem_toArray, List.getElem_cons_succ, List.getElem_cons_zero, Act.put, List.setIfInBounds_toArray, List.set_cons_zero, List.set_cons_succ]) | ((with_reducible show wpPlan _ _ _ _ _ _ _); first | refine wpPlan_nil ?_ | (refine wpPlan_read0 rfl ?hw rfl (fun _ _ _ => ?_); case hw => ((conv => (lhs; whnf)); first | done | with_reducible rfl)) | (refine wpPlan_read1d rfl ?hw rfl rfl (fun _ _ _ => ?_); case hw => ((conv => (lhs; whnf)); first | done | with_reducible rfl)) | (refine wpPlan_eff rfl ?hw (fun _ _ => ?_); case hw => ((conv => (lhs; whnf)); first | done | with_reducible rfl)) | (refine wpPlan_skip0 rfl ?hw ?_; case hw => ((conv => (lhs; whnf)); first | done | with_reducible rfl)) | (refine wpPlan_skip1d rfl ?hw ?_; case hw => ((conv => (lhs; whnf)); first | done | with_reducible rfl)) | (refine wpPlan_skip2 rfl ?hw ?_; case hw => ((conv => (lhs; whnf)); first | done | with_reducible rfl)) | (refine wpPlan_read1 rfl ?hw rfl (fun _ _ _ => ?_); case hw => ((conv => (lhs; whnf)); first | done | with_reducible rfl)) | refine wpPlan_fork ?_ ?_) | ((with_reducible show Owed _ _ _ _ _ _ _ _ _); first | refine Owed.none_ ?_ | refine Owed.nil_ ?_ | refine Owed.miss rfl ?_ | refine Owed.hit ?_ ?_) | ((with_reducible show Same _ _ _ _ _); intro _; go_simp; done) | (with_reducible exact True.intro) | ((with_reducible show Code.wp _ (Code.region 8 _ true) _ _ _); refine wp_region_plan [(0, 1, []), (1, 1, []), (2, 0, []), (3, 1, []), (4, 1, []), (5, 0, []), (6, 1, []), (7, 1, []), (8, 0, []), (10, 0, []), (11, 1, []), (12, 1, []), (13, 1, []), (9, 2, [0, 1, 3, 4, 6, 7, 11, 12, 13]), (14, 2, [0, 1, 3, 4, 6, 7]), (15, 1, []), (16, 2, [0, 1]), (17, 1, []), (18, 2, [])] (by kernel_rfl) (by kernel_rfl) (by kernel_rfl) ?_))
          refine (event_any B b A n c (i + 1 + 1 + 1 + 1) zs _ HX20.out.drew.tp hn (by omega)).mono ?_
          rintro e w21 ⟨⟨ev_, rfl, _, _⟩, hT21, hO21⟩
          have HX21 := Lib.hid (HX20.out.drew.step hT21 hO21)
          have HE21 := Lib.hid (((Outside.refl (fun k => k = b) w20).drew.trans hO21).cell HE20.out (by dsimp only; omega))
          clear hT21 hO21
          have hyqc := HX21.out.sys.cell
          have hyql := HX21.out.sys.lt
          have hgql1 := HX21.out.rows.lts.1 gq rfl
          have ey := HE21.out
          go_wp2_with (first | ((with_reducible show wpPlan _ _ _ _ _ (Act.put _ _ _) _); simp only [List.getElem_toArray, List.getElem_cons_succ, List.getElem_cons_zero, Act.put, List.setIfInBounds_toArray, List.set_cons_zero, List.set_cons_succ]) | ((with_reducible show wpPlan _ _ _ _ _ _ _); first | refine wpPlan_nil ?_ | (refine wpPlan_read0 rfl ?hw rfl (fun _ _ _ => ?_); case hw => ((conv => (lhs; whnf)); first | done | with_reducible rfl)) | (refine wpPlan_read1d rfl ?hw rfl rfl (fun _ _ _ => ?_); case hw => ((conv => (lhs; whnf)); first | done | with_reducible rfl)) | (refine wpPlan_eff rfl ?hw (fun _ _ => ?_); case hw => ((conv => (lhs; whnf)); first | done | with_reducible rfl)) | (refine wpPlan_skip0 rfl ?hw ?_; case hw => ((conv => (lhs; whnf)); first | done | with_reducible rfl)) | (refine wpPlan_skip1d rfl ?hw ?_; case hw => ((conv => (lhs; whnf)); first | done | with_reducible rfl)) | (refine wpPlan_skip2 rfl ?hw ?_; case hw => ((conv => (lhs; whnf)); first | done | with_reducible rfl)) | (refine wpPlan_read1 rfl ?hw rfl (fun _ _ _ => ?_); case hw => ((conv => (lhs; whnf)); first | done | with_reducible rfl)) | refine wpPlan_fork ?_ ?_) | ((with_reducible show Owed _ _ _ _ _ _ _ _ _); first | refine Owed.none_ ?_ | refine Owed.nil_ ?_ | refine Owed.miss rfl ?_ | refine Owed.hit ?_ ?_) | ((with_reducible show Same _ _ _ _ _); intro _; go_simp; done) | (with_reducible exact True.intro))
          refine (tnext_any B b A n c (i + 1 + 1 + 1 + 1 + 1) zs m _ HX21.out.tp hn (by omega) (by omega) (by omega)).mono ?_
          rintro e w22 ⟨⟨to_, rfl, _, _⟩, hT22, hO22⟩
          have HX22 := Lib.hid (HX21.out.step hT22 hO22)
          have HE22 := Lib.hid (hO22.cell HE21.out (by dsimp only; omega))
          clear hT22 hO22
          have hz4c := HX22.out.res.cell
          have hz4l := HX22.out.res.lt
          have hz4f := HX22.out.res.frozen
          have hzqc := HX22.out.sys.cell
          have hzql := HX22.out.sys.lt
          have hgql2 := HX22.out.rows.lts.1 gq rfl
          obtain ⟨g2, n2, k2, l1, hxs, ez, how1, _, _⟩ := HX22.out.rows.cellAt hs
          obtain ⟨rfl, rfl, rfl⟩ : g1 = g2 ∧ n1 = n2 ∧ k1 = k2 := by
            have hh := HE22.out.symm.trans ez
            simpa using hh
          obtain ⟨_, _, cur, eq1, hqB, _, hcur, _⟩ := HX22.out.rows.at_ (by omega)
          cases eq1
          have HOW := Lib.hid how1
          have HQB := Lib.hid hqB
          have HXS := Lib.hid hxs
          have hg1q : gq ≠ g1 := fun e => own_apart how1 hqB (by decide) (by rw [e]; rfl)
          have hg1s : w1.heap.size ≠ g1 := fun e => own_apart how1 HX22.out.sys (by decide) (by rw [e]; rfl)
          have hgqs : gq ≠ w1.heap.size := fun e => Blk.apart hqB HX22.out.sys (by decide) e
          clear how1 hqB hxs
          go_wp2_with (first | ((with_reducible show wpPlan _ _ _ _ _ (Act.put _ _ _) _); simp only [List.getElem_toArray, List.getElem_cons_succ, List.getElem_cons_zero, Act.put, List.setIfInBounds_toArray, List.set_cons_zero, List.set_cons_succ]) | ((with_reducible show wpPlan _ _ _ _ _ _ _); first | refine wpPlan_nil ?_ | (refine wpPlan_read0 rfl ?hw rfl (fun _ _ _ => ?_); case hw => ((conv => (lhs; whnf)); first | done | with_reducible rfl)) | (refine wpPlan_read1d rfl ?hw rfl rfl (fun _ _ _ => ?_); case hw => ((conv => (lhs; whnf)); first | done | with_reducible rfl)) | (refine wpPlan_eff rfl ?hw (fun _ _ => ?_); case hw => ((conv => (lhs; whnf)); first | done | with_reducible rfl)) | (refine wpPlan_skip0 rfl ?hw ?_; case hw => ((conv => (lhs; whnf)); first | done | with_reducible rfl)) | (refine wpPlan_skip1d rfl ?hw ?_; case hw => ((conv => (lhs; whnf)); first | done | with_reducible rfl)) | (refine wpPlan_skip2 rfl ?hw ?_; case hw => ((conv => (lhs; whnf)); first | done | with_reducible rfl)) | (refine wpPlan_read1 rfl ?hw rfl (fun _ _ _ => ?_); case hw => ((conv => (lhs; whnf)); first | done | with_reducible rfl)) | refine wpPlan_fork ?_ ?_) | ((with_reducible show Owed _ _ _ _ _ _ _ _ _); first | refine Owed.none_ ?_ | refine Owed.nil_ ?_ | refine Owed.miss rfl ?_ | refine Owed.hit ?_ ?_) | ((with_reducible show Same _ _ _ _ _); intro _; go_simp; done) | (with_reducible exact True.intro))
          clear ey hyqc hyql hgql1
          refine (insertC_any (some ⟨g1, 0, none⟩) n1 k1 l1 ⟨ev_, to_⟩ _ HOW.out (by omega)).mono ?_
          rintro e w23 ⟨⟨A5, n5, c5, l5, rfl, hown5, hI5, hat5⟩, hb5⟩
          have hn5 : n5 ≤ n1 + 1 := by
            have h1 := hI5.len
            have h2 := (Rd.ofOwn hown5).len Arc.cells_len (by decide)
            have h3 := (Rd.ofOwn HOW.out).len Arc.cells_len (by decide)
            omega
          have hO8 : Outside (fun k => k = g1) w22 w23 := (Below.new hb5).mono fun k _ h => h.elim
          have hO9 : Outside (fun k => k = gq) w23 (w23.setCell ⟨gq, s, none⟩ (.slice A5 n5 c5)) := (Outside.refl (fun k => k = gq) _).setCell (p := ⟨gq, s, none⟩) (.inl rfl) _
          have hq8 := HX22.out.sys.out hO8 hg1s
          have h48 := HX22.out.res.out hO8 (by omega)
          have hqB8 := HQB.out.out hO8 hg1q
          have q8c := hq8.cell
          have q8l := hq8.lt
          have b8l := hqB8.lt
          have b8f := hqB8.frozen s
          have hq9 := hq8.out hO9 (Ne.symm hgqs)
          have h49 := h48.out hO9 (by omega)
          have q9c := hq9.cell
          have q9l := hq9.lt
          have t9c := h49.cell
          have t9l := h49.lt
          have t9f := h49.frozen
          have hput := (h49.put 0 (.slice (some ⟨gq, 0, none⟩) m c1)).cell 0
          have hv4 : (Value.slice A5 n5 c5).ownBlock ≠ some (w.heap.size + 1) := fun e => by
            rcases hat5 _ e with h | h
            · have h' : g1 = w.heap.size + 1 := by simpa [Value.ownBlock] using h
              omega
            · omega
          have HEND := Lib.hid (HX22.out.ended (i := i + 6) (s := s) HXS.out rfl hO8 hown5 (by omega) (by omega) hv4 (by omega) (by omega) hmc hbw).post
          have e8 := hO8.cell ez (by dsimp only; exact hg1q)
          clear hO8 hO9 hq8 h48 hqB8 hq9 h49 hown5 hI5 hat5 hb5 hv4
          go_wp2_with (first | ((with_reducible show wpPlan _ _ _ _ _ (Act.put _ _ _) _); simp only [List.getElem_toArray, List.getElem_cons_succ, List.getElem_cons_zero, Act.put, List.setIfInBounds_toArray, List.set_cons_zero, List.set_cons_succ]) | ((with_reducible show wpPlan _ _ _ _ _ _ _); first | refine wpPlan_nil ?_ | (refine wpPlan_read0 rfl ?hw rfl (fun _ _ _ => ?_); case hw => ((conv => (lhs; whnf)); first | done | with_reducible rfl)) | (refine wpPlan_read1d rfl ?hw rfl rfl (fun _ _ _ => ?_); case hw => ((conv => (lhs; whnf)); first | done | with_reducible rfl)) | (refine wpPlan_eff rfl ?hw (fun _ _ => ?_); case hw => ((conv => (lhs; whnf)); first | done | with_reducible rfl)) | (refine wpPlan_skip0 rfl ?hw ?_; case hw => ((conv => (lhs; whnf)); first | done | with_reducible rfl)) | (refine wpPlan_skip1d rfl ?hw ?_; case hw => ((conv => (lhs; whnf)); first | done | with_reducible rfl)) | (refine wpPlan_skip2 rfl ?hw ?_; case hw => ((conv => (lhs; whnf)); first | done | with_reducible rfl)) | (refine wpPlan_read1 rfl ?hw rfl (fun _ _ _ => ?_); case hw => ((conv => (lhs; whnf)); first | done | with_reducible rfl)) | refine wpPlan_fork ?_ ?_) | ((with_reducible show Owed _ _ _ _ _ _ _ _ _); first | refine Owed.none_ ?_ | refine Owed.nil_ ?_ | refine Owed.miss rfl ?_ | refine Owed.hit ?_ ?_) | ((with_reducible show Same _ _ _ _ _); intro _; go_simp; done) | (with_reducible exact True.intro))
          refine bodyPost_ret (v := lts (some ⟨gq, 0, none⟩) m c1) (by simp [results, Try.results24, go_sem, hput]) rfl ?_
          exact HEND.out.more (by omega)
        · have hr20 : r20 = 0 := by omega
          subst hr20
          have hput := (HX20.out.res.put 0 (.slice (some ⟨gq, 0, none⟩) m c1)).cell 0
          have HEND := Lib.hid (HX20.out.endedN (i := i + 6) (by omega) (by omega) (by omega) hmc hbw)
          go_wp2_with fail
          refine bodyPost_ret (v := lts (some ⟨gq, 0, none⟩) m c1) (by simp [results, Try.results24, go_sem, hput]) rfl ?_
          exact HEND.out.more (by omega)
      · have hkc2 : ¬ k1 = k + 1 := by omega
        go_wp2_with (first | ((with_reducible show wpPlan _ _ _ ((11, 2, _) :: _) _ _ _); refine wpPlan_eff rfl rfl (fun _ hK => ?_); refine app_opt slArc rfl HN0.out rfl (HRT.out.drewN 1) (c := k1) rfl (arc_ones _) (by unfold maxLen; omega) (by omega) ?_; intro v8 w8 hown8 hgrow8 hat8; refine hK _ _ ?_; refine Stop7.intro ?_) | ((with_reducible show wpPlan _ _ _ _ _ (Act.put _ _ _) _); simp only [List.getElem_toArray, List.getElem_cons_succ, List.getElem_cons_zero, Act.put, List.setIfInBounds_toArray, List.set_cons_zero, List.set_cons_succ]) | ((with_reducible show wpPlan _ _ _ _ _ _ _); first | refine wpPlan_nil ?_ | (refine wpPlan_read0 rfl ?hw rfl (fun _ _ _ => ?_); case hw => ((conv => (lhs; whnf)); first | done | with_reducible rfl)) | (refine wpPlan_read1d rfl ?hw rfl rfl (fun _ _ _ => ?_); case hw => ((conv => (lhs; whnf)); first | done | with_reducible rfl)) | (refine wpPlan_eff rfl ?hw (fun _ _ => ?_); case hw => ((conv => (lhs; whnf)); first | done | with_reducible rfl)) | (refine wpPlan_skip0 rfl ?hw ?_; case hw => ((conv => (lhs; whnf)); first | done | with_reducible rfl)) | (refine wpPlan_skip1d rfl ?hw ?_; case hw => ((conv => (lhs; whnf)); first | done | with_reducible rfl)) | (refine wpPlan_skip2 rfl ?hw ?_; case hw => ((conv => (lhs; whnf)); first | done | with_reducible rfl)) | (refine wpPlan_read1 rfl ?hw rfl (fun _ _ _ => ?_); case hw => ((conv => (lhs; whnf)); first | done | with_reducible rfl)) | refine wpPlan_fork ?_ ?_) | ((with_reducible show Owed _ _ _ _ _ _ _ _ _); first | refine Owed.none_ ?_ | refine Owed.nil_ ?_ | refine Owed.miss rfl ?_ | refine Owed.hit ?_ ?_) | ((with_reducible show Same _ _ _ _ _); intro _; go_simp; done) | (with_reducible exact True.intro) | ((with_reducible show Code.wp _ (Code.region 6 _ true) _ _ _); refine wp_region_plan [(0, 1, []), (1, 1, []), (2, 0, []), (4, 1, []), (5, 1, []), (6, 0, []), (7, 1, []), (8, 1, []), (9, 0, []), (10, 1, []), (12, 1, []), (13, 1, []), (14, 0, []), (15, 1, []), (16, 1, []), (17, 0, []), (18, 1, []), (19, 1, []), (3, 2, [0, 1, 4, 5, 7, 8, 10, 12, 13, 15, 16, 18, 19]), (11, 2, [0, 1, 12, 13, 15, 16, 18, 19]), (20, 2, [0, 1]), (21, 1, []), (22, 2, [])] (by kernel_rfl) (by kernel_rfl) (by kernel_rfl) ?_))
        unfold Stop7
        rw [Nat.zero_add, List.nil_append] at hown8
        have hg8 : ((w5.alloc (Obj.cells #[] 23)).drew).grownBy w8 (some w5.heap.size) := hgrow8
        have hO8 : Outside (fun g => g = w5.heap.size) w5 w8 := ((Outside.refl (fun g => g = w5.heap.size) w5).alloc (Obj.cells #[] 23)).drew.grown hg8 (fun z hz => by cases hz; exact .inl rfl)
        have hb8 : Below w5.heap.size w5 w8 := hO8.below (Nat.le_refl _) (fun k hk e => by omega)
        obtain ⟨g8, c8, rfl, h8g⟩ := own_at hown8 hat8
        have h8w : w5.heap.size ≤ g8 := by
          rcases h8g with h | h
          · have h' : g8 = w5.heap.size := h
            omega
          · simp at h
            omega
        have HO8 := Lib.hid hown8
        have HB8 := Lib.hid hb8
        have HD8 := Lib.hid (HRD.out.below hb8)
        have hy8 := HX5.out.sys.below hb8 hx5l
        have hy8c := hy8.cell
        have hy8l := hy8.lt
        have hs8 := hb8.size
        have ey8 := (hb8.cell (p := ⟨gq, s, none⟩) (by dsimp only; omega)).trans e1
        clear hown8 hgrow8 hat8 hg8 hO8 hb8 hy8 h8g
        go_wp2_with (first | ((with_reducible show wpPlan _ _ _ ((20, 2, _) :: _) _ _ _); refine wpPlan_eff rfl rfl (fun _ hK => ?_); refine app_opt slArc rfl HO8.out rfl HD8.out (c := k1 - (k + 1)) rfl (arc_ones _) (by unfold maxLen; omega) (by omega) ?_; intro v9 w9 hown9 hgrow9 hat9; refine hK _ _ ?_; refine Stop7.intro ?_) | ((with_reducible show wpPlan _ _ _ _ _ (Act.put _ _ _) _); simp only [List.getElem_toArray, List.getElem_cons_succ, List.getElem_cons_zero, Act.put, List.setIfInBounds_toArray, List.set_cons_zero, List.set_cons_succ]) | ((with_reducible show wpPlan _ _ _ _ _ _ _); first | refine wpPlan_nil ?_ | (refine wpPlan_read0 rfl ?hw rfl (fun _ _ _ => ?_); case hw => ((conv => (lhs; whnf)); first | done | with_reducible rfl)) | (refine wpPlan_read1d rfl ?hw rfl rfl (fun _ _ _ => ?_); case hw => ((conv => (lhs; whnf)); first | done | with_reducible rfl)) | (refine wpPlan_eff rfl ?hw (fun _ _ => ?_); case hw => ((conv => (lhs; whnf)); first | done | with_reducible rfl)) | (refine wpPlan_skip0 rfl ?hw ?_; case hw => ((conv => (lhs; whnf)); first | done | with_reducible rfl)) | (refine wpPlan_skip1d rfl ?hw ?_; case hw => ((conv => (lhs; whnf)); first | done | with_reducible rfl)) | (refine wpPlan_skip2 rfl ?hw ?_; case hw => ((conv => (lhs; whnf)); first | done | with_reducible rfl)) | (refine wpPlan_read1 rfl ?hw rfl (fun _ _ _ => ?_); case hw => ((conv => (lhs; whnf)); first | done | with_reducible rfl)) | refine wpPlan_fork ?_ ?_) | ((with_reducible show Owed _ _ _ _ _ _ _ _ _); first | refine Owed.none_ ?_ | refine Owed.nil_ ?_ | refine Owed.miss rfl ?_ | refine Owed.hit ?_ ?_) | ((with_reducible show Same _ _ _ _ _); intro _; go_simp; done) | (with_reducible exact True.intro))
        unfold Stop7
        rw [← cellsOf_append] at hown9
        have hb9 : Below w5.heap.size w5 w9 := HB8.out.grown hgrow9 HB8.out.size (fun z hz => by
          have h1 : g8 = z := by simpa [Value.ownBlock] using hz
          omega)
        obtain ⟨g9, c9, rfl, h9g⟩ := own_at hown9 hat9
        have h9w : w5.heap.size ≤ g9 := by
          rcases h9g with h | h
          · have h' : g9 = g8 := h
            omega
          · omega
        have HX9 := Lib.hid (HX5.out.swap (s := s) ((Below.new hb9).mono fun k _ h => h.elim) hown9 (by omega) h9w (by omega) (by omega))
        have hy9 := HX5.out.sys.below hb9 hx5l
        have hy9c := hy9.cell
        have hy9l := hy9.lt
        have hq9 := HQB.out.below hb9 hgql
        have q9l := hq9.lt
        have q9f := hq9.frozen s
        have ey9 := (hb9.cell (p := ⟨gq, s, none⟩) (by dsimp only; omega)).trans e1
        clear hown9 hgrow9 hat9 hb9 hy9 hq9 h9g
        go_wp2_with (first | ((with_reducible show wpPlan _ _ _ _ _ (Act.put _ _ _) _); simp only [List.getElem_toArray, List.getElem_cons_succ, List.getElem_cons_zero, Act.put, List.setIfInBounds_toArray, List.set_cons_zero, List.set_cons_succ]) | ((with_reducible show wpPlan _ _ _ _ _ _ _); first | refine wpPlan_nil ?_ | (refine wpPlan_read0 rfl ?hw rfl (fun _ _ _ => ?_); case hw => ((conv => (lhs; whnf)); first | done | with_reducible rfl)) | (refine wpPlan_read1d rfl ?hw rfl rfl (fun _ _ _ => ?_); case hw => ((conv => (lhs; whnf)); first | done | with_reducible rfl)) | (refine wpPlan_eff rfl ?hw (fun _ _ => ?_); case hw => ((conv => (lhs; whnf)); first | done | with_reducible rfl)) | (refine wpPlan_skip0 rfl ?hw ?_; case hw => ((conv => (lhs; whnf)); first | done | with_reducible rfl)) | (refine wpPlan_skip1d rfl ?hw ?_; case hw => ((conv => (lhs; whnf)); first | done | with_reducible rfl)) | (refine wpPlan_skip2 rfl ?hw ?_; case hw => ((conv => (lhs; whnf)); first | done | with_reducible rfl)) | (refine wpPlan_read1 rfl ?hw rfl (fun _ _ _ => ?_); case hw => ((conv => (lhs; whnf)); first | done | with_reducible rfl)) | refine wpPlan_fork ?_ ?_) | ((with_reducible show Owed _ _ _ _ _ _ _ _ _); first | refine Owed.none_ ?_ | refine Owed.nil_ ?_ | refine Owed.miss rfl ?_ | refine Owed.hit ?_ ?_) | ((with_reducible show Same _ _ _ _ _); intro _; go_simp; done) | (with_reducible exact True.intro))
        clear hy8c hy8l ey8 hy9c hy9l q9l q9f ey9 e1 hx5c hx5l
        refine (tnext_any B b A n c (i + 1 + 1 + 1) zs 3 _ HX9.out.tp hn (by omega) (by decide) (by decide)).mono ?_
        rintro e w20 ⟨⟨r20, rfl, hr20a, hr20b⟩, hT20, hO20⟩
        have HX20 := Lib.hid (HX9.out.step hT20 hO20)
        clear hT20 hO20
        have hx4c := HX20.out.res.cell
        have hx4l := HX20.out.res.lt
        have hx4f := HX20.out.res.frozen
        have hxqc := HX20.out.sys.cell
        have hxql := HX20.out.sys.lt
        have hgql := HX20.out.rows.lts.1 gq rfl
        have h4b := HX20.out.ne4
        by_cases h20 : 0 < r20
        · obtain ⟨g1, n1, k1, l1, hxs, e1, how1, hn1, hW1⟩ := HX20.out.rows.cellAt hs
          have hg1l := own_lt how1 (g := g1) rfl
          have HE20 := Lib.hid e1
          clear hxs how1
          go_wp2_with (first | ((with_reducible show wpPlan _ _ _ _ _ (Act.put _ _ _) _); simp only [List.getElem_toArray, List.getElem_cons_succ, List.getElem_cons_zero, Act.put, List.setIfInBounds_toArray, List.set_cons_zero, List.set_cons_succ]) | ((with_reducible show wpPlan _ _ _ _ _ _ _); first | refine wpPlan_nil ?_ | (refine wpPlan_read0 rfl ?hw rfl (fun _ _ _ => ?_); case hw => ((conv => (lhs; whnf)); first | done | with_reducible rfl)) | (refine wpPlan_read1d rfl ?hw rfl rfl (fun _ _ _ => ?_); case hw => ((conv => (lhs; whnf)); first | done | with_reducible rfl)) | (refine wpPlan_eff rfl ?hw (fun _ _ => ?_); case hw => ((conv => (lhs; whnf)); first | done | with_reducible rfl)) | (refine wpPlan_skip0 rfl ?hw ?_; case hw => ((conv => (lhs; whnf)); first | done | with_reducible rfl)) | (refine wpPlan_skip1d rfl ?hw ?_; case hw => ((conv => (lhs; whnf)); first | done | with_reducible rfl)) | (refine wpPlan_skip2 rfl ?hw ?_; case hw => ((conv => (lhs; whnf)); first | done | with_reducible rfl)) | (refine wpPlan_read1 rfl ?hw rfl (fun _ _ _ => ?_); case hw => ((conv => (lhs; whnf)); first | done | with_reducible rfl)) | refine wpPlan_fork ?_ ?_) | ((with_reducible show Owed _ _ _ _ _ _ _ _ _); first | refine Owed.none_ ?_ | refine Owed.nil_ ?_ | refine Owed.miss rfl ?_ | refine Owed.hit ?_ ?_) | ((with_reducible show Same _ _ _ _ _); intro _; go_simp; done) | (with_reducible exact True.intro) | ((with_reducible show Code.wp _ (Code.region 8 _ true) _ _ _); refine wp_region_plan [(0, 1, []), (1, 1, []), (2, 0, []), (3, 1, []), (4, 1, []), (5, 0, []), (6, 1, []), (7, 1, []), (8, 0, []), (10, 0, []), (11, 1, []), (12, 1, []), (13, 1, []), (9, 2, [0, 1, 3, 4, 6, 7, 11, 12, 13]), (14, 2, [0, 1, 3, 4, 6, 7]), (15, 1, []), (16, 2, [0, 1]), (17, 1, []), (18, 2, [])] (by kernel_rfl) (by kernel_rfl) (by kernel_rfl) ?_))
          refine (event_any B b A n c (i + 1 + 1 + 1 + 1) zs _ HX20.out.drew.tp hn (by omega)).mono ?_
          rintro e w21 ⟨⟨ev_, rfl, _, _⟩, hT21, hO21⟩
          have HX21 := Lib.hid (HX20.out.drew.step hT21 hO21)
          have HE21 := Lib.hid (((Outside.refl (fun k => k = b) w20).drew.trans hO21).cell HE20.out (by dsimp only; omega))
          clear hT21 hO21
          have hyqc := HX21.out.sys.cell
          have hyql := HX21.out.sys.lt
          have hgql1 := HX21.out.rows.lts.1 gq rfl
          have ey := HE21.out
          go_wp2_with (first | ((with_reducible show wpPlan _ _ _ _ _ (Act.put _ _ _) _); simp only [List.getElem_toArray, List.getElem_cons_succ, List.getElem_cons_zero, Act.put, List.setIfInBounds_toArray, List.set_cons_zero, List.set_cons_succ]) | ((with_reducible show wpPlan _ _ _ _ _ _ _); first | refine wpPlan_nil ?_ | (refine wpPlan_read0 rfl ?hw rfl (fun _ _ _ => ?_); case hw => ((conv => (lhs; whnf)); first | done | with_reducible rfl)) | (refine wpPlan_read1d rfl ?hw rfl rfl (fun _ _ _ => ?_); case hw => ((conv => (lhs; whnf)); first | done | with_reducible rfl)) | (refine wpPlan_eff rfl ?hw (fun _ _ => ?_); case hw => ((conv => (lhs; whnf)); first | done | with_reducible rfl)) | (refine wpPlan_skip0 rfl ?hw ?_; case hw => ((conv => (lhs; whnf)); first | done | with_reducible rfl)) | (refine wpPlan_skip1d rfl ?hw ?_; case hw => ((conv => (lhs; whnf)); first | done | with_reducible rfl)) | (refine wpPlan_skip2 rfl ?hw ?_; case hw => ((conv => (lhs; whnf)); first | done | with_reducible rfl)) | (refine wpPlan_read1 rfl ?hw rfl (fun _ _ _ => ?_); case hw => ((conv => (lhs; whnf)); first | done | with_reducible rfl)) | refine wpPlan_fork ?_ ?_) | ((with_reducible show Owed _ _ _ _ _ _ _ _ _); first | refine Owed.none_ ?_ | refine Owed.nil_ ?_ | refine Owed.miss rfl ?_ | refine Owed.hit ?_ ?_) | ((with_reducible show Same _ _ _ _ _); intro _; go_simp; done) | (with_reducible exact True.intro))
          refine (tnext_any B b A n c (i + 1 + 1 + 1 + 1 + 1) zs m _ HX21.out.tp hn (by omega) (by omega) (by omega)).mono ?_
          rintro e w22 ⟨⟨to_, rfl, _, _⟩, hT22, hO22⟩
          have HX22 := Lib.hid (HX21.out.step hT22 hO22)
          have HE22 := Lib.hid (hO22.cell HE21.out (by dsimp only; omega))
          clear hT22 hO22
          have hz4c := HX22.out.res.cell
          have hz4l := HX22.out.res.lt
          have hz4f := HX22.out.res.frozen
          have hzqc := HX22.out.sys.cell
          have hzql := HX22.out.sys.lt
          have hgql2 := HX22.out.rows.lts.1 gq rfl
          obtain ⟨g2, n2, k2, l1, hxs, ez, how1, _, _⟩ := HX22.out.rows.cellAt hs
          obtain ⟨rfl, rfl, rfl⟩ : g1 = g2 ∧ n1 = n2 ∧ k1 = k2 := by
            have hh := HE22.out.symm.trans ez
            simpa using hh
          obtain ⟨_, _, cur, eq1, hqB, _, hcur, _⟩ := HX22.out.rows.at_ (by omega)
          cases eq1
          have HOW := Lib.hid how1
          have HQB := Lib.hid hqB
          have HXS := Lib.hid hxs
          have hg1q : gq ≠ g1 := fun e => own_apart how1 hqB (by decide) (by rw [e]; rfl)
          have hg1s : w1.heap.size ≠ g1 := fun e => own_apart how1 HX22.out.sys (by decide) (by rw [e]; rfl)
          have hgqs : gq ≠ w1.heap.size := fun e => Blk.apart hqB HX22.out.sys (by decide) e
          clear how1 hqB hxs
          go_wp2_with (first | ((with_reducible show wpPlan _ _ _ _ _ (Act.put _ _ _) _); simp only [List.getElem_toArray, List.getElem_cons_succ, List.getElem_cons_zero, Act.put, List.setIfInBounds_toArray, List.set_cons_zero, List.set_cons_succ]) | ((with_reducible show wpPlan _ _ _ _ _ _ _); first | refine wpPlan_nil ?_ | (refine wpPlan_read0 rfl ?hw rfl (fun _ _ _ => ?_); case hw => ((conv => (lhs; whnf)); first | done | with_reducible rfl)) | (refine wpPlan_read1d rfl ?hw rfl rfl (fun _ _ _ => ?_); case hw => ((conv => (lhs; whnf)); first | done | with_reducible rfl)) | (refine wpPlan_eff rfl ?hw (fun _ _ => ?_); case hw => ((conv => (lhs; whnf)); first | done | with_reducible rfl)) | (refine wpPlan_skip0 rfl ?hw ?_; case hw => ((conv => (lhs; whnf)); first | done | with_reducible rfl)) | (refine wpPlan_skip1d rfl ?hw ?_; case hw => ((conv => (lhs; whnf)); first | done | with_reducible rfl)) | (refine wpPlan_skip2 rfl ?hw ?_; case hw => ((conv => (lhs; whnf)); first | done | with_reducible rfl)) | (refine wpPlan_read1 rfl ?hw rfl (fun _ _ _ => ?_); case hw => ((conv => (lhs; whnf)); first | done | with_reducible rfl)) | refine wpPlan_fork ?_ ?_) | ((with_reducible show Owed _ _ _ _ _ _ _ _ _); first | refine Owed.none_ ?_ | refine Owed.nil_ ?_ | refine Owed.miss rfl ?_ | refine Owed.hit ?_ ?_) | ((with_reducible show Same _ _ _ _ _); intro _; go_simp; done) | (with_reducible exact True.intro))
          clear ey hyqc hyql hgql1
          refine (insertC_any (some ⟨g1, 0, none⟩) n1 k1 l1 ⟨ev_, to_⟩ _ HOW.out (by omega)).mono ?_
          rintro e w23 ⟨⟨A5, n5, c5, l5, rfl, hown5, hI5, hat5⟩, hb5⟩
          have hn5 : n5 ≤ n1 + 1 := by
            have h1 := hI5.len
            have h2 := (Rd.ofOwn hown5).len Arc.cells_len (by decide)
            have h3 := (Rd.ofOwn HOW.out).len Arc.cells_len (by decide)
            omega
          have hO8 : Outside (fun k => k = g1) w22 w23 := (Below.new hb5).mono fun k _ h => h.elim
          have hO9 : Outside (fun k => k = gq) w23 (w23.setCell ⟨gq, s, none⟩ (.slice A5 n5 c5)) := (Outside.refl (fun k => k = gq) _).setCell (p := ⟨gq, s, none⟩) (.inl rfl) _
          have hq8 := HX22.out.sys.out hO8 hg1s
          have h48 := HX22.out.res.out hO8 (by omega)
          have hqB8 := HQB.out.out hO8 hg1q
          have q8c := hq8.cell
          have q8l := hq8.lt
          have b8l := hqB8.lt
          have b8f := hqB8.frozen s
          have hq9 := hq8.out hO9 (Ne.symm hgqs)
          have h49 := h48.out hO9 (by omega)
          have q9c := hq9.cell
          have q9l := hq9.lt
          have t9c := h49.cell
          have t9l := h49.lt
          have t9f := h49.frozen
          have hput := (h49.put 0 (.slice (some ⟨gq, 0, none⟩) m c1)).cell 0
          have hv4 : (Value.slice A5 n5 c5).ownBlock ≠ some (w.heap.size + 1) := fun e => by
            rcases hat5 _ e with h | h
            · have h' : g1 = w.heap.size + 1 := by simpa [Value.ownBlock] using h
              omega
            · omega
          have HEND := Lib.hid (HX22.out.ended (i := i + 6) (s := s) HXS.out rfl hO8 hown5 (by omega) (by omega) hv4 (by omega) (by omega) hmc hbw).post
          have e8 := hO8.cell ez (by dsimp only; exact hg1q)
          clear hO8 hO9 hq8 h48 hqB8 hq9 h49 hown5 hI5 hat5 hb5 hv4
          go_wp2_with (first | ((with_reducible show wpPlan _ _ _ _ _ (Act.put _ _ _) _); simp only [List.getElem_toArray, List.getElem_cons_succ, List.getElem_cons_zero, Act.put, List.setIfInBounds_toArray, List.set_cons_zero, List.set_cons_succ]) | ((with_reducible show wpPlan _ _ _ _ _ _ _); first | refine wpPlan_nil ?_ | (refine wpPlan_read0 rfl ?hw rfl (fun _ _ _ => ?_); case hw => ((conv => (lhs; whnf)); first | done | with_reducible rfl)) | (refine wpPlan_read1d rfl ?hw rfl rfl (fun _ _ _ => ?_); case hw => ((conv => (lhs; whnf)); first | done | with_reducible rfl)) | (refine wpPlan_eff rfl ?hw (fun _ _ => ?_); case hw => ((conv => (lhs; whnf)); first | done | with_reducible rfl)) | (refine wpPlan_skip0 rfl ?hw ?_; case hw => ((conv => (lhs; whnf)); first | done | with_reducible rfl)) | (refine wpPlan_skip1d rfl ?hw ?_; case hw => ((conv => (lhs; whnf)); first | done | with_reducible rfl)) | (refine wpPlan_skip2 rfl ?hw ?_; case hw => ((conv => (lhs; whnf)); first | done | with_reducible rfl)) | (refine wpPlan_read1 rfl ?hw rfl (fun _ _ _ => ?_); case hw => ((conv => (lhs; whnf)); first | done | with_reducible rfl)) | refine wpPlan_fork ?_ ?_) | ((with_reducible show Owed _ _ _ _ _ _ _ _ _); first | refine Owed.none_ ?_ | refine Owed.nil_ ?_ | refine Owed.miss rfl ?_ | refine Owed.hit ?_ ?_) | ((with_reducible show Same _ _ _ _ _); intro _; go_simp; done) | (with_reducible exact True.intro))
          refine bodyPost_ret (v := lts (some ⟨gq, 0, none⟩) m c1) (by simp [results, Try.results24, go_sem, hput]) rfl ?_
          exact HEND.out.more (by omega)
        · have hr20 : r20 = 0 := by omega
          subst hr20
          have hput := (HX20.out.res.put 0 (.slice (some ⟨gq, 0, none⟩) m c1)).cell 0
          have HEND := Lib.hid (HX20.out.endedN (i := i + 6) (by omega) (by omega) (by omega) hmc hbw)
          go_wp2_with fail
          refine bodyPost_ret (v := lts (some ⟨gq, 0, none⟩) m c1) (by simp [results, Try.results24, go_sem, hput]) rfl ?_
          exact HEND.out.more (by omega)
    · clear hr3a hr3b
      go_wp2_with fail
      refine (tnext_any B b A n c (i + 1 + 1) zs 3 _ HX3.out.tp hn (by omega) (by decide) (by decide)).mono ?_
      rintro e w20 ⟨⟨r20, rfl, hr20a, hr20b⟩, hT20, hO20⟩
      have HX20 := Lib.hid (HX3.out.step hT20 hO20)
      clear hT20 hO20
      have hx4c := HX20.out.res.cell
      have hx4l := HX20.out.res.lt
      have hx4f := HX20.out.res.frozen
      have hxqc := HX20.out.sys.cell
      have hxql := HX20.out.sys.lt
      have hgql := HX20.out.rows.lts.1 gq rfl
      have h4b := HX20.out.ne4
      by_cases h20 : 0 < r20
      · obtain ⟨g1, n1, k1, l1, hxs, e1, how1, hn1, hW1⟩ := HX20.out.rows.cellAt hs
        have hg1l := own_lt how1 (g := g1) rfl
        have HE20 := Lib.hid e1
        clear hxs how1
        go_wp2_with (first | ((with_reducible show wpPlan _ _ _ _ _ (Act.put _ _ _) _); simp only [List.getElem_toArray, List.getElem_cons_succ, List.getElem_cons_zero, Act.put, List.setIfInBounds_toArray, List.set_cons_zero, List.set_cons_succ]) | ((with_reducible show wpPlan _ _ _ _ _ _ _); first | refine wpPlan_nil ?_ | (refine wpPlan_read0 rfl ?hw rfl (fun _ _ _ => ?_); case hw => ((conv => (lhs; whnf)); first | done | with_reducible rfl)) | (refine wpPlan_read1d rfl ?hw rfl rfl (fun _ _ _ => ?_); case hw => ((conv => (lhs; whnf)); first | done | with_reducible rfl)) | (refine wpPlan_eff rfl ?hw (fun _ _ => ?_); case hw => ((conv => (lhs; whnf)); first | done | with_reducible rfl)) | (refine wpPlan_skip0 rfl ?hw ?_; case hw => ((conv => (lhs; whnf)); first | done | with_reducible rfl)) | (refine wpPlan_skip1d rfl ?hw ?_; case hw => ((conv => (lhs; whnf)); first | done | with_reducible rfl)) | (refine wpPlan_skip2 rfl ?hw ?_; case hw => ((conv => (lhs; whnf)); first | done | with_reducible rfl)) | (refine wpPlan_read1 rfl ?hw rfl (fun _ _ _ => ?_); case hw => ((conv => (lhs; whnf)); first | done | with_reducible rfl)) | refine wpPlan_fork ?_ ?_) | ((with_reducible show Owed _ _ _ _ _ _ _ _ _); first | refine Owed.none_ ?_ | refine Owed.nil_ ?_ | refine Owed.miss rfl ?_ | refine Owed.hit ?_ ?_) | ((with_reducible show Same _ _ _ _ _); intro _; go_simp; done) | (with_reducible exact True.intro) | ((with_reducible show Code.wp _ (Code.region 8 _ true) _ _ _); refine wp_region_plan [(0, 1, []), (1, 1, []), (2, 0, []), (3, 1, []), (4, 1, []), (5, 0, []), (6, 1, []), (7, 1, []), (8, 0, []), (10, 0, []), (11, 1, []), (12, 1, []), (13, 1, []), (9, 2, [0, 1, 3, 4, 6, 7, 11, 12, 13]), (14, 2, [0, 1, 3, 4, 6, 7]), (15, 1, []), (16, 2, [0, 1]), (17, 1, []), (18, 2, [])] (by kernel_rfl) (by kernel_rfl) (by kernel_rfl) ?_))
        refine (event_any B b A n c (i + 1 + 1 + 1) zs _ HX20.out.drew.tp hn (by omega)).mono ?_
        rintro e w21 ⟨⟨ev_, rfl, _, _⟩, hT21, hO21⟩
        have HX21 := Lib.hid (HX20.out.drew.step hT21 hO21)
        have HE21 := Lib.hid (((Outside.refl (fun k => k = b) w20).drew.trans hO21).cell HE20.out (by dsimp only; omega))
        clear hT21 hO21
        have hyqc := HX21.out.sys.cell
        have hyql := HX21.out.sys.lt
        have hgql1 := HX21.out.rows.lts.1 gq rfl
        have ey := HE21.out
        go_wp2_with (first | ((with_reducible show wpPlan _ _ _ _ _ (Act.put _ _ _) _); simp only [List.getElem_toArray, List.getElem_cons_succ, List.getElem_cons_zero, Act.put, List.setIfInBounds_toArray, List.set_cons_zero, List.set_cons_succ]) | ((with_reducible show wpPlan _ _ _ _ _ _ _); first | refine wpPlan_nil ?_ | (refine wpPlan_read0 rfl ?hw rfl (fun _ _ _ => ?_); case hw => ((conv => (lhs; whnf)); first | done | with_reducible rfl)) | (refine wpPlan_read1d rfl ?hw rfl rfl (fun _ _ _ => ?_); case hw => ((conv => (lhs; whnf)); first | done | with_reducible rfl)) | (refine wpPlan_eff rfl ?hw (fun _ _ => ?_); case hw => ((conv => (lhs; whnf)); first | done | with_reducible rfl)) | (refine wpPlan_skip0 rfl ?hw ?_; case hw => ((conv => (lhs; whnf)); first | done | with_reducible rfl)) | (refine wpPlan_skip1d rfl ?hw ?_; case hw => ((conv => (lhs; whnf)); first | done | with_reducible rfl)) | (refine wpPlan_skip2 rfl ?hw ?_; case hw => ((conv => (lhs; whnf)); first | done | with_reducible rfl)) | (refine wpPlan_read1 rfl ?hw rfl (fun _ _ _ => ?_); case hw => ((conv => (lhs; whnf)); first | done | with_reducible rfl)) | refine wpPlan_fork ?_ ?_) | ((with_reducible show Owed _ _ _ _ _ _ _ _ _); first | refine Owed.none_ ?_ | refine Owed.nil_ ?_ | refine Owed.miss rfl ?_ | refine Owed.hit ?_ ?_) | ((with_reducible show Same _ _ _ _ _); intro _; go_simp; done) | (with_reducible exact True.intro))
        refine (tnext_any B b A n c (i + 1 + 1 + 1 + 1) zs m _ HX21.out.tp hn (by omega) (by omega) (by omega)).mono ?_
        rintro e w22 ⟨⟨to_, rfl, _, _⟩, hT22, hO22⟩
        have HX22 := Lib.hid (HX21.out.step hT22 hO22)
        have HE22 := Lib.hid (hO22.cell HE21.out (by dsimp only; omega))
        clear hT22 hO22
        have hz4c := HX22.out.res.cell
        have hz4l := HX22.out.res.lt
        have hz4f := HX22.out.res.frozen
        have hzqc := HX22.out.sys.cell
        have hzql := HX22.out.sys.lt
        have hgql2 := HX22.out.rows.lts.1 gq rfl
        obtain ⟨g2, n2, k2, l1, hxs, ez, how1, _, _⟩ := HX22.out.rows.cellAt hs
        obtain ⟨rfl, rfl, rfl⟩ : g1 = g2 ∧ n1 = n2 ∧ k1 = k2 := by
          have hh := HE22.out.symm.trans ez
          simpa using hh
        obtain ⟨_, _, cur, eq1, hqB, _, hcur, _⟩ := HX22.out.rows.at_ (by omega)
        cases eq1
        have HOW := Lib.hid how1
        have HQB := Lib.hid hqB
        have HXS := Lib.hid hxs
        have hg1q : gq ≠ g1 := fun e => own_apart how1 hqB (by decide) (by rw [e]; rfl)
        have hg1s : w1.heap.size ≠ g1 := fun e => own_apart how1 HX22.out.sys (by decide) (by rw [e]; rfl)
        have hgqs : gq ≠ w1.heap.size := fun e => Blk.apart hqB HX22.out.sys (by decide) e
        clear how1 hqB hxs
        go_wp2_with (first | ((with_reducible show wpPlan _ _ _ _ _ (Act.put _ _ _) _); simp only [List.getElem_toArray, List.getElem_cons_succ, List.getElem_cons_zero, Act.put, List.setIfInBounds_toArray, List.set_cons_zero, List.set_cons_succ]) | ((with_reducible show wpPlan _ _ _ _ _ _ _); first | refine wpPlan_nil ?_ | (refine wpPlan_read0 rfl ?hw rfl (fun _ _ _ => ?_); case hw => ((conv => (lhs; whnf)); first | done | with_reducible rfl)) | (refine wpPlan_read1d rfl ?hw rfl rfl (fun _ _ _ => ?_); case hw => ((conv => (lhs; whnf)); first | done | with_reducible rfl)) | (refine wpPlan_eff rfl ?hw (fun _ _ => ?_); case hw => ((conv => (lhs; whnf)); first | done | with_reducible rfl)) | (refine wpPlan_skip0 rfl ?hw ?_; case hw => ((conv => (lhs; whnf)); first | done | with_reducible rfl)) | (refine wpPlan_skip1d rfl ?hw ?_; case hw => ((conv => (lhs; whnf)); first | done | with_reducible rfl)) | (refine wpPlan_skip2 rfl ?hw ?_; case hw => ((conv => (lhs; whnf)); first | done | with_reducible rfl)) | (refine wpPlan_read1 rfl ?hw rfl (fun _ _ _ => ?_); case hw => ((conv => (lhs; whnf)); first | done | with_reducible rfl)) | refine wpPlan_fork ?_ ?_) | ((with_reducible show Owed _ _ _ _ _ _ _ _ _); first | refine Owed.none_ ?_ | refine Owed.nil_ ?_ | refine Owed.miss rfl ?_ | refine Owed.hit ?_ ?_) | ((with_reducible show Same _ _ _ _ _); intro _; go_simp; done) | (with_reducible exact True.intro))
        clear ey hyqc hyql hgql1
        refine (insertC_any (some ⟨g1, 0, none⟩) n1 k1 l1 ⟨ev_, to_⟩ _ HOW.out (by omega)).mono ?_
        rintro e w23 ⟨⟨A5, n5, c5, l5, rfl, hown5, hI5, hat5⟩, hb5⟩
        have hn5 : n5 ≤ n1 + 1 := by
          have h1 := hI5.len
          have h2 := (Rd.ofOwn hown5).len Arc.cells_len (by decide)
          have h3 := (Rd.ofOwn HOW.out).len Arc.cells_len (by decide)
          omega
        have hO8 : Outside (fun k => k = g1) w22 w23 := (Below.new hb5).mono fun k _ h => h.elim
        have hO9 : Outside (fun k => k = gq) w23 (w23.setCell ⟨gq, s, none⟩ (.slice A5 n5 c5)) := (Outside.refl (fun k => k = gq) _).setCell (p := ⟨gq, s, none⟩) (.inl rfl) _
        have hq8 := HX22.out.sys.out hO8 hg1s
        have h48 := HX22.out.res.out hO8 (by omega)
        have hqB8 := HQB.out.out hO8 hg1q
        have q8c := hq8.cell
        have q8l := hq8.lt
        have b8l := hqB8.lt
        have b8f := hqB8.frozen s
        have hq9 := hq8.out hO9 (Ne.symm hgqs)
        have h49 := h48.out hO9 (by omega)
        have q9c := hq9.cell
        have q9l := hq9.lt
        have t9c := h49.cell
        have t9l := h49.lt
        have t9f := h49.frozen
        have hput := (h49.put 0 (.slice (some ⟨gq, 0, none⟩) m c1)).cell 0
        have hv4 : (Value.slice A5 n5 c5).ownBlock ≠ some (w.heap.size + 1) := fun e => by
          rcases hat5 _ e with h | h
          · have h' : g1 = w.heap.size + 1 := by simpa [Value.ownBlock] using h
            omega
          · omega
        have HEND := Lib.hid (HX22.out.ended (i := i + 6) (s := s) HXS.out rfl hO8 hown5 (by omega) (by omega) hv4 (by omega) (by omega) hmc hbw).post
        have e8 := hO8.cell ez (by dsimp only; exact hg1q)
        clear hO8 hO9 hq8 h48 hqB8 hq9 h49 hown5 hI5 hat5 hb5 hv4
        go_wp2_with (first | ((with_reducible show wpPlan _ _ _ _ _ (Act.put _ _ _) _); simp only [List.getElem_toArray, List.getElem_cons_succ, List.getElem_cons_zero, Act.put, List.setIfInBounds_toArray, List.set_cons_zero, List.set_cons_succ]) | ((with_reducible show wpPlan _ _ _ _ _ _ _); first | refine wpPlan_nil ?_ | (refine wpPlan_read0 rfl ?hw rfl (fun _ _ _ => ?_); case hw => ((conv => (lhs; whnf)); first | done | with_reducible rfl)) | (refine wpPlan_read1d rfl ?hw rfl rfl (fun _ _ _ => ?_); case hw => ((conv => (lhs; whnf)); first | done | with_reducible rfl)) | (refine wpPlan_eff rfl ?hw (fun _ _ => ?_); case hw => ((conv => (lhs; whnf)); first | done | with_reducible rfl)) | (refine wpPlan_skip0 rfl ?hw ?_; case hw => ((conv => (lhs; whnf)); first | done | with_reducible rfl)) | (refine wpPlan_skip1d rfl ?hw ?_; case hw => ((conv => (lhs; whnf)); first | done | with_reducible rfl)) | (refine wpPlan_skip2 rfl ?hw ?_; case hw => ((conv => (lhs; whnf)); first | done | with_reducible rfl)) | (refine wpPlan_read1 rfl ?hw rfl (fun _ _ _ => ?_); case hw => ((conv => (lhs; whnf)); first | done | with_reducible rfl)) | refine wpPlan_fork ?_ ?_) | ((with_reducible show Owed _ _ _ _ _ _ _ _ _); first | refine Owed.none_ ?_ | refine Owed.nil_ ?_ | refine Owed.miss rfl ?_ | refine Owed.hit ?_ ?_) | ((with_reducible show Same _ _ _ _ _); intro _; go_simp; done) | (with_reducible exact True.intro))
        refine bodyPost_ret (v := lts (some ⟨gq, 0, none⟩) m c1) (by simp [results, Try.results24, go_sem, hput]) rfl ?_
        exact HEND.out.more (by omega)
      · have hr20 : r20 = 0 := by omega
        subst hr20
        have hput := (HX20.out.res.put 0 (.slice (some ⟨gq, 0, none⟩) m c1)).cell 0
        have HEND := Lib.hid (HX20.out.endedN (i := i + 6) (by omega) (by omega) (by omega) hmc hbw)
        go_wp2_with fail
        refine bodyPost_ret (v := lts (some ⟨gq, 0, none⟩) m c1) (by simp [results, Try.results24, go_sem, hput]) rfl ?_
        exact HEND.out.more (by omega)
  · have hn1z : n1 = 0 := by omega
    subst hn1z
    go_wp2_with (first | ((with_reducible show wpPlan _ _ _ _ _ (Act.put _ _ _) _); simp only [List.getElem_toArray, List.getElem_cons_succ, List.getElem_cons_zero, Act.put, List.setIfInBounds_toArray, List.set_cons_zero, List.set_cons_succ]) | ((with_reducible show wpPlan _ _ _ _ _ _ _); first | refine wpPlan_nil ?_ | (refine wpPlan_read0 rfl ?hw rfl (fun _ _ _ => ?_); case hw => ((conv => (lhs; whnf)); first | done | with_reducible rfl)) | (refine wpPlan_read1d rfl ?hw rfl rfl (fun _ _ _ => ?_); case hw => ((conv => (lhs; whnf)); first | done | with_reducible rfl)) | (refine wpPlan_eff rfl ?hw (fun _ _ => ?_); case hw => ((conv => (lhs; whnf)); first | done | with_reducible rfl)) | (refine wpPlan_skip0 rfl ?hw ?_; case hw => ((conv => (lhs; whnf)); first | done | with_reducible rfl)) | (refine wpPlan_skip1d rfl ?hw ?_; case hw => ((conv => (lhs; whnf)); first | done | with_reducible rfl)) | (refine wpPlan_skip2 rfl ?hw ?_; case hw => ((conv => (lhs; whnf)); first | done | with_reducible rfl)) | (refine wpPlan_read1 rfl ?hw rfl (fun _ _ _ => ?_); case hw => ((conv => (lhs; whnf)); first | done | with_reducible rfl)) | refine wpPlan_fork ?_ ?_) | ((with_reducible show Owed _ _ _ _ _ _ _ _ _); first | refine Owed.none_ ?_ | refine Owed.nil_ ?_ | refine Owed.miss rfl ?_ | refine Owed.hit ?_ ?_) | ((with_reducible show Same _ _ _ _ _); intro _; go_simp; done) | (with_reducible exact True.intro))
    refine (tnext_any B b A n c (i + 1) zs 3 _ HX2.out.tp hn (by omega) (by decide) (by decide)).mono ?_
    rintro e w20 ⟨⟨r20, rfl, hr20a, hr20b⟩, hT20, hO20⟩
    have HX20 := Lib.hid (HX2.out.step hT20 hO20)
    clear hT20 hO20
    have hx4c := HX20.out.res.cell
    have hx4l := HX20.out.res.lt
    have hx4f := HX20.out.res.frozen
    have hxqc := HX20.out.sys.cell
    have hxql := HX20.out.sys.lt
    have hgql := HX20.out.rows.lts.1 gq rfl
    have h4b := HX20.out.ne4
    by_cases h20 : 0 < r20
    · obtain ⟨g1, n1, k1, l1, hxs, e1, how1, hn1, hW1⟩ := HX20.out.rows.cellAt hs
      have hg1l := own_lt how1 (g := g1) rfl
      have HE20 := Lib.hid e1
      clear hxs how1
      go_wp2_with (first | ((with_reducible show wpPlan _ _ _ _ _ (Act.put _ _ _) _); simp only [List.getElem_toArray, List.getElem_cons_succ, List.getElem_cons_zero, Act.put, List.setIfInBounds_toArray, List.set_cons_zero, List.set_cons_succ]) | ((with_reducible show wpPlan _ _ _ _ _ _ _); first | refine wpPlan_nil ?_ | (refine wpPlan_read0 rfl ?hw rfl (fun _ _ _ => ?_); case hw => ((conv => (lhs; whnf)); first | done | with_reducible rfl)) | (refine wpPlan_read1d rfl ?hw rfl rfl (fun _ _ _ => ?_); case hw => ((conv => (lhs; whnf)); first | done | with_reducible rfl)) | (refine wpPlan_eff rfl ?hw (fun _ _ => ?_); case hw => ((conv => (lhs; whnf)); first | done | with_reducible rfl)) | (refine wpPlan_skip0 rfl ?hw ?_; case hw => ((conv => (lhs; whnf)); first | done | with_reducible rfl)) | (refine wpPlan_skip1d rfl ?hw ?_; case hw => ((conv => (lhs; whnf)); first | done | with_reducible rfl)) | (refine wpPlan_skip2 rfl ?hw ?_; case hw => ((conv => (lhs; whnf)); first | done | with_reducible rfl)) | (refine wpPlan_read1 rfl ?hw rfl (fun _ _ _ => ?_); case hw => ((conv => (lhs; whnf)); first | done | with_reducible rfl)) | refine wpPlan_fork ?_ ?_) | ((with_reducible show Owed _ _ _ _ _ _ _ _ _); first | refine Owed.none_ ?_ | refine Owed.nil_ ?_ | refine Owed.miss rfl ?_ | refine Owed.hit ?_ ?_) | ((with_reducible show Same _ _ _ _ _); intro _; go_simp; done) | (with_reducible exact True.intro) | ((with_reducible show Code.wp _ (Code.region 8 _ true) _ _ _); refine wp_region_plan [(0, 1, []), (1, 1, []), (2, 0, []), (3, 1, []), (4, 1, []), (5, 0, []), (6, 1, []), (7, 1, []), (8, 0, []), (10, 0, []), (11, 1, []), (12, 1, []), (13, 1, []), (9, 2, [0, 1, 3, 4, 6, 7, 11, 12, 13]), (14, 2, [0, 1, 3, 4, 6, 7]), (15, 1, []), (16, 2, [0, 1]), (17, 1, []), (18, 2, [])] (by kernel_rfl) (by kernel_rfl) (by kernel_rfl) ?_))
      refine (event_any B b A n c (i + 1 + 1) zs _ HX20.out.drew.tp hn (by omega)).mono ?_
      rintro e w21 ⟨⟨ev_, rfl, _, _⟩, hT21, hO21⟩
      have HX21 := Lib.hid (HX20.out.drew.step hT21 hO21)
      have HE21 := Lib.hid (((Outside.refl (fun k => k = b) w20).drew.trans hO21).cell HE20.out (by dsimp only; omega))
      clear hT21 hO21
      have hyqc := HX21.out.sys.cell
      have hyql := HX21.out.sys.lt
      have hgql1 := HX21.out.rows.lts.1 gq rfl
      have ey := HE21.out
      go_wp2_with (first | ((with_reducible show wpPlan _ _ _ _ _ (Act.put _ _ _) _); simp only [List.getElem_toArray, List.getElem_cons_succ, List.getElem_cons_zero, Act.put, List.setIfInBounds_toArray, List.set_cons_zero, List.set_cons_succ]) | ((with_reducible show wpPlan _ _ _ _ _ _ _); first | refine wpPlan_nil ?_ | (refine wpPlan_read0 rfl ?hw rfl (fun _ _ _ => ?_); case hw => ((conv => (lhs; whnf)); first | done | with_reducible rfl)) | (refine wpPlan_read1d rfl ?hw rfl rfl (fun _ _ _ => ?_); case hw => ((conv => (lhs; whnf)); first | done | with_reducible rfl)) | (refine wpPlan_eff rfl ?hw (fun _ _ => ?_); case hw => ((conv => (lhs; whnf)); first | done | with_reducible rfl)) | (refine wpPlan_skip0 rfl ?hw ?_; case hw => ((conv => (lhs; whnf)); first | done | with_reducible rfl)) | (refine wpPlan_skip1d rfl ?hw ?_; case hw => ((conv => (lhs; whnf)); first | done | with_reducible rfl)) | (refine wpPlan_skip2 rfl ?hw ?_; case hw => ((conv => (lhs; whnf)); first | done | with_reducible rfl)) | (refine wpPlan_read1 rfl ?hw rfl (fun _ _ _ => ?_); case hw => ((conv => (lhs; whnf)); first | done | with_reducible rfl)) | refine wpPlan_fork ?_ ?_) | ((with_reducible show Owed _ _ _ _ _ _ _ _ _); first | refine Owed.none_ ?_ | refine Owed.nil_ ?_ | refine Owed.miss rfl ?_ | refine Owed.hit ?_ ?_) | ((with_reducible show Same _ _ _ _ _); intro _; go_simp; done) | (with_reducible exact True.intro))
      refine (tnext_any B b A n c (i + 1 + 1 + 1) zs m _ HX21.out.tp hn (by omega) (by omega) (by omega)).mono ?_
      rintro e w22 ⟨⟨to_, rfl, _, _⟩, hT22, hO22⟩
      have HX22 := Lib.hid (HX21.out.step hT22 hO22)
      have HE22 := Lib.hid (hO22.cell HE21.out (by dsimp only; omega))
      clear hT22 hO22
      have hz4c := HX22.out.res.cell
      have hz4l := HX22.out.res.lt
      have hz4f := HX22.out.res.frozen
      have hzqc := HX22.out.sys.cell
      have hzql := HX22.out.sys.lt
      have hgql2 := HX22.out.rows.lts.1 gq rfl
      obtain ⟨g2, n2, k2, l1, hxs, ez, how1, _, _⟩ := HX22.out.rows.cellAt hs
      obtain ⟨rfl, rfl, rfl⟩ : g1 = g2 ∧ n1 = n2 ∧ k1 = k2 := by
        have hh := HE22.out.symm.trans ez
        simpa using hh
      obtain ⟨_, _, cur, eq1, hqB, _, hcur, _⟩ := HX22.out.rows.at_ (by omega)
      cases eq1
      have HOW := Lib.hid how1
      have HQB := Lib.hid hqB
      have HXS := Lib.hid hxs
      have hg1q : gq ≠ g1 := fun e => own_apart how1 hqB (by decide) (by rw [e]; rfl)
      have hg1s : w1.heap.size ≠ g1 := fun e => own_apart how1 HX22.out.sys (by decide) (by rw [e]; rfl)
      have hgqs : gq ≠ w1.heap.size := fun e => Blk.apart hqB HX22.out.sys (by decide) e
      clear how1 hqB hxs
      go_wp2_with (first | ((with_reducible show wpPlan _ _ _ _ _ (Act.put _ _ _) _); simp only [List.getElem_toArray, List.getElem_cons_succ, List.getElem_cons_zero, Act.put, List.setIfInBounds_toArray, List.set_cons_zero, List.set_cons_succ]) | ((with_reducible show wpPlan _ _ _ _ _ _ _); first | refine wpPlan_nil ?_ | (refine wpPlan_read0 rfl ?hw rfl (fun _ _ _ => ?_); case hw => ((conv => (lhs; whnf)); first | done | with_reducible rfl)) | (refine wpPlan_read1d rfl ?hw rfl rfl (fun _ _ _ => ?_); case hw => ((conv => (lhs; whnf)); first | done | with_reducible rfl)) | (refine wpPlan_eff rfl ?hw (fun _ _ => ?_); case hw => ((conv => (lhs; whnf)); first | done | with_reducible rfl)) | (refine wpPlan_skip0 rfl ?hw ?_; case hw => ((conv => (lhs; whnf)); first | done | with_reducible rfl)) | (refine wpPlan_skip1d rfl ?hw ?_; case hw => ((conv => (lhs; whnf)); first | done | with_reducible rfl)) | (refine wpPlan_skip2 rfl ?hw ?_; case hw => ((conv => (lhs; whnf)); first | done | with_reducible rfl)) | (refine wpPlan_read1 rfl ?hw rfl (fun _ _ _ => ?_); case hw => ((conv => (lhs; whnf)); first | done | with_reducible rfl)) | refine wpPlan_fork ?_ ?_) | ((with_reducible show Owed _ _ _ _ _ _ _ _ _); first | refine Owed.none_ ?_ | refine Owed.nil_ ?_ | refine Owed.miss rfl ?_ | refine Owed.hit ?_ ?_) | ((with_reducible show Same _ _ _ _ _); intro _; go_simp; done) | (with_reducible exact True.intro))
      clear ey hyqc hyql hgql1
      refine (insertC_any (some ⟨g1, 0, none⟩) n1 k1 l1 ⟨ev_, to_⟩ _ HOW.out (by omega)).mono ?_
      rintro e w23 ⟨⟨A5, n5, c5, l5, rfl, hown5, hI5, hat5⟩, hb5⟩
      have hn5 : n5 ≤ n1 + 1 := by
        have h1 := hI5.len
        have h2 := (Rd.ofOwn hown5).len Arc.cells_len (by decide)
        have h3 := (Rd.ofOwn HOW.out).len Arc.cells_len (by decide)
        omega
      have hO8 : Outside (fun k => k = g1) w22 w23 := (Below.new hb5).mono fun k _ h => h.elim
      have hO9 : Outside (fun k => k = gq) w23 (w23.setCell ⟨gq, s, none⟩ (.slice A5 n5 c5)) := (Outside.refl (fun k => k = gq) _).setCell (p := ⟨gq, s, none⟩) (.inl rfl) _
      have hq8 := HX22.out.sys.out hO8 hg1s
      have h48 := HX22.out.res.out hO8 (by omega)
      have hqB8 := HQB.out.out hO8 hg1q
      have q8c := hq8.cell
      have q8l := hq8.lt
      have b8l := hqB8.lt
      have b8f := hqB8.frozen s
      have hq9 := hq8.out hO9 (Ne.symm hgqs)
      have h49 := h48.out hO9 (by omega)
      have q9c := hq9.cell
      have q9l := hq9.lt
      have t9c := h49.cell
      have t9l := h49.lt
      have t9f := h49.frozen
      have hput := (h49.put 0 (.slice (some ⟨gq, 0, none⟩) m c1)).cell 0
      have hv4 : (Value.slice A5 n5 c5).ownBlock ≠ some (w.heap.size + 1) := fun e => by
        rcases hat5 _ e with h | h
        · have h' : g1 = w.heap.size + 1 := by simpa [Value.ownBlock] using h
          omega
        · omega
      have HEND := Lib.hid (HX22.out.ended (i := i + 6) (s := s) HXS.out rfl hO8 hown5 (by omega) (by omega) hv4 (by omega) (by omega) hmc hbw).post
      have e8 := hO8.cell ez (by dsimp only; exact hg1q)
      clear hO8 hO9 hq8 h48 hqB8 hq9 h49 hown5 hI5 hat5 hb5 hv4
      go_wp2_with (first | ((with_reducible show wpPlan _ _ _ _ _ (Act.put _ _ _) _); simp only [List.getElem_toArray, List.getElem_cons_succ, List.getElem_cons_zero, Act.put, List.setIfInBounds_toArray, List.set_cons_zero, List.set_cons_succ]) | ((with_reducible show wpPlan _ _ _ _ _ _ _); first | refine wpPlan_nil ?_ | (refine wpPlan_read0 rfl ?hw rfl (fun _ _ _ => ?_); case hw => ((conv => (lhs; whnf)); first | done | with_reducible rfl)) | (refine wpPlan_read1d rfl ?hw rfl rfl (fun _ _ _ => ?_); case hw => ((conv => (lhs; whnf)); first | done | with_reducible rfl)) | (refine wpPlan_eff rfl ?hw (fun _ _ => ?_); case hw => ((conv => (lhs; whnf)); first | done | with_reducible rfl)) | (refine wpPlan_skip0 rfl ?hw ?_; case hw => ((conv => (lhs; whnf)); first | done | with_reducible rfl)) | (refine wpPlan_skip1d rfl ?hw ?_; case hw => ((conv => (lhs; whnf)); first | done | with_reducible rfl)) | (refine wpPlan_skip2 rfl ?hw ?_; case hw => ((conv => (lhs; whnf)); first | done | with_reducible rfl)) | (refine wpPlan_read1 rfl ?hw rfl (fun _ _ _ => ?_); case hw => ((conv => (lhs; whnf)); first | done | with_reducible rfl)) | refine wpPlan_fork ?_ ?_) | ((with_reducible show Owed _ _ _ _ _ _ _ _ _); first | refine Owed.none_ ?_ | refine Owed.nil_ ?_ | refine Owed.miss rfl ?_ | refine Owed.hit ?_ ?_) | ((with_reducible show Same _ _ _ _ _); intro _; go_simp; done) | (with_reducible exact True.intro))
      refine bodyPost_ret (v := lts (some ⟨gq, 0, none⟩) m c1) (by simp [results, Try.results24, go_sem, hput]) rfl ?_
      exact HEND.out.more (by omega)
    · have hr20 : r20 = 0 := by omega
      subst hr20
      have hput := (HX20.out.res.put 0 (.slice (some ⟨gq, 0, none⟩) m c1)).cell 0
      have HEND := Lib.hid (HX20.out.endedN (i := i + 6) (by omega) (by omega) (by omega) hmc hbw)
      go_wp2_with fail
      refine bodyPost_ret (v := lts (some ⟨gq, 0, none⟩) m c1) (by simp [results, Try.results24, go_sem, hput]) rfl ?_
      exact HEND.out.more (by omega)
end Go.Proofs.Ytmciinikfjfegaa

