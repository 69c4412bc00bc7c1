/- systems that are spoiled: Spoil's walk -/
import Derived.Test.YtmciinikfjfegaaRwG3
import Derived.Test.YtmciinikfjfegaaTree
namespace Go.Proofs.Ytmciinikfjfegaa
open Go Go.RowKit
set_option maxHeartbeats 8000000

/-- what a drawn system is; its outer row does not lie in the tape's block -/
def GenPostB (w : World) (B b : Nat) (A : Option Addr) (n c i : Nat) (zs : List Int) (d m bd : Nat) (e : Ending) (w' : World) : Prop :=
  (∃ A' n' c' ls, e = .returned (lts A' n' c') ∧ RdL w' w'.heap.size A' n' ls ∧ n' ≤ c' ∧ n' ≤ m ∧ (∀ l ∈ ls, l.length ≤ bd) ∧ (n' = 0 ∨ ∃ g, A' = some ⟨g, 0, none⟩ ∧ g ≠ b)) ∧ (∃ j, j ≤ i + d ∧ TpAt w' B b A n c zs j) ∧ Outside (fun k => k = b) w w'
theorem GenPostB.post {w w' : World} {B b : Nat} {A : Option Addr} {n c i : Nat} {zs : List Int} {d m bd : Nat} {e : Ending} (h : GenPostB w B b A n c i zs d m bd e w') : GenPost w B b A n c i zs d m bd e w' := by
  obtain ⟨⟨A', n', c', ls, h1, h2, h3, h4, h5, _⟩, h6, h7⟩ := h
  exact ⟨⟨A', n', c', ls, h1, h2, h3, h4, h5⟩, h6, h7⟩
/-- what stands while a system is spoiled -/
structure SpAt (w wr : World) (W t4 q B b : Nat) (A : Option Addr) (n c : Nat) (zs : List Int) (j : Nat) (A1 : Option Addr) (m c1 bd : Nat) (xs : List Value) : Prop where
  rows : RowsOwn wr W (.slice A1 m c1) m bd xs
  res : Blk wr t4 27 #[.slice none 0 0]
  sys : Blk wr q 27 #[.slice A1 m c1]
  tp : TpAt wr B b A n c zs j
  out : Outside (fun k => k = b) w wr
  ne4 : t4 ≠ b
  neq : q ≠ b
  ltW : b < W
  lo : B ≤ b
section
variable {w wr w' : World} {W t4 q B b n c j j' m c1 bd : Nat} {A A1 : Option Addr} {zs : List Int} {xs : List Value}
theorem SpAt.step (h : SpAt w wr W t4 q B b A n c zs j A1 m c1 bd xs) (hT : TpAt w' B b A n c zs j') (hO : Outside (fun k => k = b) wr w') : SpAt w w' W t4 q B b A n c zs j' A1 m c1 bd xs :=
  ⟨h.rows.out hO (fun g h1 _ e => by have := h.ltW; omega), h.res.out hO h.ne4, h.sys.out hO h.neq, hT, h.out.trans hO, h.ne4, h.neq, h.ltW, h.lo⟩
theorem SpAt.drew (h : SpAt w wr W t4 q B b A n c zs j A1 m c1 bd xs) : SpAt w wr.drew W t4 q B b A n c zs j A1 m c1 bd xs := h.step h.tp.drew (Outside.refl _ _).drew
theorem SpAt.alloc (h : SpAt w wr W t4 q B b A n c zs j A1 m c1 bd xs) (o : Obj) : SpAt w (wr.alloc o) W t4 q B b A n c zs j A1 m c1 bd xs := h.step (h.tp.alloc o) ((Outside.refl _ _).alloc o)
theorem SpAt.alloc' (h1 : RowsOwn wr W (.slice A1 m c1) m bd xs) (h2 : Blk wr t4 27 #[.slice none 0 0]) (h3 : TpAt wr B b A n c zs j) (h4 : Outside (fun k => k = b) w wr) (h5 : t4 ≠ b) (h6 : wr.heap.size ≠ b) (h7 : b < W) (h8 : B ≤ b) :
    SpAt w (wr.alloc (.cells #[.slice A1 m c1] 27)) W t4 wr.heap.size B b A n c zs j A1 m c1 bd xs :=
  ⟨h1.out ((Outside.refl (fun _ => False) wr).alloc _) (fun _ _ _ h => h), h2.alloc _, Blk.new wr _ _, h3.alloc _, h4.alloc _, h5, h6, h7, h8⟩
theorem SpAt.put {ga : Nat} (h : SpAt w wr W t4 q B b A n c zs j A1 m c1 bd xs) (hlt : (∀ g, (Value.slice A1 m c1).ownBlock = some g → g < ga) ∧ ∀ (j : Nat) (u : Value) (g : Nat), xs[j]? = some u → u.ownBlock = some g → g < ga) (h3 : t4 ≠ ga) (h4 : q ≠ ga) (h5 : b < ga) (h6 : w.heap.size ≤ ga) (i : Nat) (v : Value) :
    SpAt w (wr.setCell ⟨ga, i, none⟩ v) W t4 q B b A n c zs j A1 m c1 bd xs := by
  have hO : Outside (fun k => k = ga) wr (wr.setCell ⟨ga, i, none⟩ v) := (Outside.refl (fun k => k = ga) _).setCell (p := ⟨ga, i, none⟩) (.inl rfl) _
  have hlo := h.lo
  exact ⟨h.rows.out2 hO (fun g hg e => by have := hlt.1 g hg; omega) (fun j u g hu hg e => by have := hlt.2 j u g hu hg; omega), h.res.out hO h3, h.sys.out hO h4, h.tp.out hO (by omega) (fun k hk e => by omega), h.out.setCell (p := ⟨ga, i, none⟩) (.inr h6) v, h.ne4, h.neq, h.ltW, h.lo⟩
/-- a system with one other row is given back -/
theorem SpAt.ended {g gq n' s i : Nat} {u v' : Value} {l' : List Arc} (h : SpAt w wr W t4 q B b A n c zs j (some ⟨gq, 0, none⟩) m c1 bd xs) (hu : xs[s]? = some u) (hg : u.ownBlock = some g)
    (hO : Outside (fun k => k = g) wr w') (hv : w'.ownsRow 0 23 2 v' n' (cellsOf Arc.cells l')) (hn : n' ≤ 2 * bd + 1) (hj : j ≤ i + 4) (hv4 : v'.ownBlock ≠ some t4) (h4 : t4 < W) (hWw : w.heap.size ≤ t4) (hmc : m ≤ c1) (hbw : b < w.heap.size) :
    GenPostB w B b A n c i zs 4 m (2 * bd + 1) (.returned (lts (some ⟨gq, 0, none⟩) m c1)) ((w'.setCell ⟨gq, s, none⟩ v').setCell ⟨t4, 0, none⟩ (.slice (some ⟨gq, 0, none⟩) m c1)) := by
  have hgq := h.rows.base gq rfl
  have hne4 := h.ne4
  have hlo := h.lo
  have hgW : W ≤ g := by
    obtain ⟨g', n', c', l', rfl, _, _, h3⟩ := h.rows.rows s u hu
    simp [Value.ownBlock] at hg
    omega
  have hO2 : Outside (fun k => k = t4) (w'.setCell ⟨gq, s, none⟩ v') ((w'.setCell ⟨gq, s, none⟩ v').setCell ⟨t4, 0, none⟩ (.slice (some ⟨gq, 0, none⟩) m c1)) := (Outside.refl (fun k => k = t4) _).setCell (p := ⟨t4, 0, none⟩) (.inl rfl) _
  obtain ⟨ls, h1, h2⟩ := h.rows.spoil (bd' := 2 * bd + 1) (w' := w') hu (hO.mono fun k _ e => by rw [hg, e]) hv hn (by omega) hO2 h4 hv4
  have hO3 : Outside (fun k => k = b ∨ w.heap.size ≤ k) w ((w'.setCell ⟨gq, s, none⟩ v').setCell ⟨t4, 0, none⟩ (.slice (some ⟨gq, 0, none⟩) m c1)) :=
    (((h.out.mono fun k _ e => .inl e).trans (hO.mono fun k _ e => .inr (by have e' : k = g := e; omega))).setCell (p := ⟨gq, s, none⟩) (.inl (.inr (by dsimp only; omega))) v').setCell (p := ⟨t4, 0, none⟩) (.inl (.inr hWw)) _
  refine ⟨⟨_, _, _, ls, rfl, h1, hmc, Nat.le_refl _, h2, .inr ⟨gq, rfl, by omega⟩⟩, ⟨j, hj, ?_⟩, hO3.mono fun k hk e => by omega⟩
  have hltW := h.ltW
  exact ((h.tp.out hO (by omega) (fun k hk e => by omega)).out ((Outside.refl (fun k => k = gq) w').setCell (p := ⟨gq, s, none⟩) (.inl rfl) v') (by omega) (fun k hk e => by omega)).out hO2 (by omega) (fun k hk e => by omega)
end

set_option maxRecDepth 100000 in
theorem spoilB_any (B b : Nat) (A : Option Addr) (n c i : Nat) (zs : List Int) (Al : Option Addr) (m cl bd : Nat) (ls : List (List Arc)) (w : World) (h : TpAt w B b A n c zs i) (hl : RdL w w.heap.size Al m ls) (hm : m ≤ 1000) (hs : ∀ l ∈ ls, l.length ≤ bd) (hbd : bd ≤ 1000) (hn : n ≤ 1000000000000) (hi : i ≤ 100000000) :
    Calls Try.prog 18 #[.pointer (some ⟨b, 0, none⟩), lts Al m cl] w (GenPostB w B b A n c i zs 4 m (2 * bd + 1)) := by
  have HT0 := Lib.hid ((h.alloc (.cells #[.slice Al m cl] 27)).alloc (.cells #[.slice none 0 0] 27))
  have HO0 := Lib.hid (((Outside.refl (fun k => k = b) w).alloc (.cells #[.slice Al m cl] 27)).alloc (.cells #[.slice none 0 0] 27))
  have HR0 := Lib.hid (show Blk ((w.alloc (.cells #[.slice Al m cl] 27)).alloc (.cells #[.slice none 0 0] 27)) (w.heap.size + 1) 27 #[.slice none 0 0] from heap_alloc_at (by simp))
  have HL0 := Lib.hid ((hl.alloc (Nat.le_refl _) (.cells #[.slice Al m cl] 27)).alloc (by simp) (.cells #[.slice none 0 0] 27))
  have HSZ := Lib.hid (show ((w.alloc (.cells #[.slice Al m cl] 27)).alloc (.cells #[.slice none 0 0] 27)).heap.size = w.heap.size + 2 by simp)
  have HS := Lib.hid hs
  have hbw : b < w.heap.size := h.blk.lt
  clear h hl hs
  go_enter Try.func18, Try.ntmps18
  go_wp2_with fail
  refine (copy_any Al m cl w.heap.size bd ls _ HL0.out (by rw [HSZ.out]; omega) hm HS.out hbd).mono ?_
  rintro e w1 ⟨⟨v1, xs, rfl, hown1⟩, hb1⟩
  rw [HSZ.out] at hown1 hb1
  obtain ⟨A1, c1, rfl, hmc, _⟩ := own_form hown1.own
  have HX := Lib.hid (show SpAt w (w1.alloc (.cells #[.slice A1 m c1] 27)) (w.heap.size + 2 + 3) (w.heap.size + 1) w1.heap.size B b A n c zs i A1 m c1 bd xs from
    SpAt.alloc' hown1 (HR0.out.below hb1 (by simp)) (HT0.out.below (HSZ.out.symm ▸ hb1)) (HO0.out.trans (Below.new (HSZ.out.symm ▸ hb1) |>.mono fun k _ h => h.elim)) (by omega) (by have := hb1.size; rw [HSZ.out] at this; omega) (by omega) HT0.out.lo)
  have hx4c := HX.out.res.cell
  have hx4l := HX.out.res.lt
  have hx4f := HX.out.res.frozen
  have hxqc := HX.out.sys.cell
  have hxql := HX.out.sys.lt
  clear hown1 hb1
  by_cases hm0 : m = 0
  · subst hm0
    have hput := (HX.out.res.put 0 (.slice A1 0 c1)).cell 0
    have HZ := Lib.hid (And.intro (HX.out.tp.out ((Outside.refl (fun g => g = w.heap.size + 1) _).setCell (p := ⟨w.heap.size + 1, 0, none⟩) (.inl rfl) (.slice A1 0 c1)) (by omega) (fun k hk e => by have := HX.out.lo; omega)) (HX.out.out.setCell (p := ⟨w.heap.size + 1, 0, none⟩) (.inr (by simp)) (.slice A1 0 c1)))
    go_wp2_with fail
    refine bodyPost_ret (v := lts A1 0 c1) (by simp [results, Try.results18, go_sem, hput]) rfl ?_
    exact ⟨⟨_, _, _, [], rfl, RdL.nil, Nat.zero_le _, Nat.zero_le _, fun l hl => (by cases hl), .inl rfl⟩, ⟨i, by omega, HZ.out.1⟩, HZ.out.2⟩
  · obtain ⟨gq, cq, _, eA, _, _, _, _⟩ := HX.out.rows.at_ (by omega)
    cases eA
    go_wp2_with fail
    refine (tnext_any B b A n c i zs m _ HX.out.tp hn (by omega) (by omega) (by omega)).mono ?_
    rintro e w2 ⟨⟨r0, rfl, hr0, hr1⟩, hT2, hO2⟩
    obtain ⟨s, rfl⟩ : ∃ q : Nat, r0 = q := ⟨r0.toNat, by omega⟩
    have hs : s < m := by omega
    have HX2 := Lib.hid (HX.out.step hT2 hO2)
    have hx4c := HX2.out.res.cell
    have hx4l := HX2.out.res.lt
    have hx4f := HX2.out.res.frozen
    have hxqc := HX2.out.sys.cell
    have hxql := HX2.out.sys.lt
    clear hT2 hO2 hr0 hr1
    go_wp2_with (first | ((with_reducible show wpTree _ _ _ _ _ (Act.put _ _ _) _); simp only [List.getElem_toArray, List.getElem_cons_succ, List.getElem_cons_zero, Act.put, List.setIfInBounds_toArray, List.set_cons_zero, List.set_cons_succ]) | ((with_reducible show wpTree _ _ _ _ _ _ _); first | refine wpTree_line ?_ | refine wpTree_alt ?_ ?_ | (refine wpTree_read0 rfl ?hw rfl (fun _ _ _ => ?_); case hw => ((conv => (lhs; whnf)); first | done | with_reducible rfl)) | (refine wpTree_read1 rfl ?hw rfl (fun _ _ _ => ?_); case hw => ((conv => (lhs; whnf)); first | done | with_reducible rfl)) | (refine wpTree_eff rfl ?hw (fun _ _ => ?_); case hw => ((conv => (lhs; whnf)); first | done | with_reducible rfl)) | (refine wpTree_skip0 rfl ?hw ?_; case hw => ((conv => (lhs; whnf)); first | done | with_reducible rfl)) | (refine wpTree_skip1 rfl ?hw ?_; case hw => ((conv => (lhs; whnf)); first | done | with_reducible rfl)) | (refine wpTree_skip2 rfl ?hw ?_; case hw => ((conv => (lhs; whnf)); first | done | with_reducible rfl))) | ((with_reducible show OwedT _ _ _ _ _ _ _ _ _); first | refine OwedT.none_ ?_ | refine OwedT.nil_ ?_ | refine OwedT.miss rfl ?_ | refine OwedT.hit ?_ ?_) | ((with_reducible show wpPlan _ _ _ _ _ (Act.put _ _ _) _); simp only [List.getElem_toArray, List.getElem_cons_succ, List.getElem_cons_zero, Act.put, List.setIfInBounds_toArray, List.set_cons_zero, List.set_cons_succ]) | ((with_reducible show wpPlan _ _ _ _ _ _ _); first | refine wpPlan_nil ?_ | (refine wpPlan_read0 rfl ?hw rfl (fun _ _ _ => ?_); case hw => ((conv => (lhs; whnf)); first | done | with_reducible rfl)) | (refine wpPlan_read1d rfl ?hw rfl rfl (fun _ _ _ => ?_); case hw => ((conv => (lhs; whnf)); first | done | with_reducible rfl)) | (refine wpPlan_eff rfl ?hw (fun _ _ => ?_); case hw => ((conv => (lhs; whnf)); first | done | with_reducible rfl)) | (refine wpPlan_skip0 rfl ?hw ?_; case hw => ((conv => (lhs; whnf)); first | done | with_reducible rfl)) | (refine wpPlan_skip1d rfl ?hw ?_; case hw => ((conv => (lhs; whnf)); first | done | with_reducible rfl)) | (refine wpPlan_skip2 rfl ?hw ?_; case hw => ((conv => (lhs; whnf)); first | done | with_reducible rfl)) | (refine wpPlan_read1 rfl ?hw rfl (fun _ _ _ => ?_); case hw => ((conv => (lhs; whnf)); first | done | with_reducible rfl)) | refine wpPlan_fork ?_ ?_) | ((with_reducible show Owed _ _ _ _ _ _ _ _ _); first | refine Owed.none_ ?_ | refine Owed.nil_ ?_ | refine Owed.miss rfl ?_ | refine Owed.hit ?_ ?_) | ((with_reducible show Same _ _ _ _ _); intro _; go_simp; done) | (with_reducible exact True.intro) | ((with_reducible show Code.wp _ (Code.region 5 _ true) _ _ _); refine wp_region_tree (Tree.read 0 0 (Tree.read 2 0 (Tree.read 3 1 (Tree.read 4 1 (Tree.read 5 1 (Tree.alt (Tree.eff 1 [3, 4, 5] (Tree.alt (Tree.eff 6 [] (Tree.line [(7, 1, []), (8, 2, [3, 4, 5, 7]), (9, 2, [])])) (Tree.eff 8 [3, 4, 5] (Tree.line [(6, 2, []), (7, 1, []), (9, 2, [])])))) (Tree.eff 8 [3, 4, 5] (Tree.line [(1, 2, [3, 4, 5]), (6, 2, []), (7, 1, []), (9, 2, [])])))))))) (by kernel_rfl) (by kernel_rfl) (by kernel_rfl) ?_))
    · refine (event_any B b A n c (i + 1) zs _ HX2.out.drew.tp hn (by omega)).mono ?_
      rintro e w3 ⟨⟨ev_, rfl, _, _⟩, hT3, hO3⟩
      have HX3 := Lib.hid (HX2.out.drew.step hT3 hO3)
      clear hT3 hO3
      have hx4c := HX3.out.res.cell
      have hx4l := HX3.out.res.lt
      have hx4f := HX3.out.res.frozen
      have hxqc := HX3.out.sys.cell
      have hxql := HX3.out.sys.lt
      go_wp2_with (first | ((with_reducible show wpTree _ _ _ _ _ (Act.put _ _ _) _); simp only [List.getElem_toArray, List.getElem_cons_succ, List.getElem_cons_zero, Act.put, List.setIfInBounds_toArray, List.set_cons_zero, List.set_cons_succ]) | ((with_reducible show wpTree _ _ _ _ _ _ _); first | refine wpTree_line ?_ | refine wpTree_alt ?_ ?_ | (refine wpTree_read0 rfl ?hw rfl (fun _ _ _ => ?_); case hw => ((conv => (lhs; whnf)); first | done | with_reducible rfl)) | (refine wpTree_read1 rfl ?hw rfl (fun _ _ _ => ?_); case hw => ((conv => (lhs; whnf)); first | done | with_reducible rfl)) | (refine wpTree_eff rfl ?hw (fun _ _ => ?_); case hw => ((conv => (lhs; whnf)); first | done | with_reducible rfl)) | (refine wpTree_skip0 rfl ?hw ?_; case hw => ((conv => (lhs; whnf)); first | done | with_reducible rfl)) | (refine wpTree_skip1 rfl ?hw ?_; case hw => ((conv => (lhs; whnf)); first | done | with_reducible rfl)) | (refine wpTree_skip2 rfl ?hw ?_; case hw => ((conv => (lhs; whnf)); first | done | with_reducible rfl))) | ((with_reducible show OwedT _ _ _ _ _ _ _ _ _); first | refine OwedT.none_ ?_ | refine OwedT.nil_ ?_ | refine OwedT.miss rfl ?_ | refine OwedT.hit ?_ ?_) | ((with_reducible show wpPlan _ _ _ _ _ (Act.put _ _ _) _); simp only [List.getElem_toArray, List.getElem_cons_succ, List.getElem_cons_zero, Act.put, List.setIfInBounds_toArray, List.set_cons_zero, List.set_cons_succ]) | ((with_reducible show wpPlan _ _ _ _ _ _ _); first | refine wpPlan_nil ?_ | (refine wpPlan_read0 rfl ?hw rfl (fun _ _ _ => ?_); case hw => ((conv => (lhs; whnf)); first | done | with_reducible rfl)) | (refine wpPlan_read1d rfl ?hw rfl rfl (fun _ _ _ => ?_); case hw => ((conv => (lhs; whnf)); first | done | with_reducible rfl)) | (refine wpPlan_eff rfl ?hw (fun _ _ => ?_); case hw => ((conv => (lhs; whnf)); first | done | with_reducible rfl)) | (refine wpPlan_skip0 rfl ?hw ?_; case hw => ((conv => (lhs; whnf)); first | done | with_reducible rfl)) | (refine wpPlan_skip1d rfl ?hw ?_; case hw => ((conv => (lhs; whnf)); first | done | with_reducible rfl)) | (refine wpPlan_skip2 rfl ?hw ?_; case hw => ((conv => (lhs; whnf)); first | done | with_reducible rfl)) | (refine wpPlan_read1 rfl ?hw rfl (fun _ _ _ => ?_); case hw => ((conv => (lhs; whnf)); first | done | with_reducible rfl)) | refine wpPlan_fork ?_ ?_) | ((with_reducible show Owed _ _ _ _ _ _ _ _ _); first | refine Owed.none_ ?_ | refine Owed.nil_ ?_ | refine Owed.miss rfl ?_ | refine Owed.hit ?_ ?_) | ((with_reducible show Same _ _ _ _ _); intro _; go_simp; done) | (with_reducible exact True.intro) | ((with_reducible show Code.wp _ (Code.region 5 _ true) _ _ _); refine wp_region_tree (Tree.read 0 0 (Tree.read 2 0 (Tree.read 3 1 (Tree.read 4 1 (Tree.read 5 1 (Tree.alt (Tree.eff 1 [3, 4, 5] (Tree.alt (Tree.eff 6 [] (Tree.line [(7, 1, []), (8, 2, [3, 4, 5, 7]), (9, 2, [])])) (Tree.eff 8 [3, 4, 5] (Tree.line [(6, 2, []), (7, 1, []), (9, 2, [])])))) (Tree.eff 8 [3, 4, 5] (Tree.line [(1, 2, [3, 4, 5]), (6, 2, []), (7, 1, []), (9, 2, [])])))))))) (by kernel_rfl) (by kernel_rfl) (by kernel_rfl) ?_))
      · refine (tnext_any B b A n c (i + 1 + 1) zs m _ HX3.out.tp hn (by omega) (by omega) (by omega)).mono ?_
        rintro e w4 ⟨⟨to_, rfl, _, _⟩, hT4, hO4⟩
        have HX4 := Lib.hid (HX3.out.step hT4 hO4)
        clear hT4 hO4
        have hx4c := HX4.out.res.cell
        have hx4l := HX4.out.res.lt
        have hx4f := HX4.out.res.frozen
        have hxqc := HX4.out.sys.cell
        have hxql := HX4.out.sys.lt
        go_wp2_with (first | ((with_reducible show wpTree _ _ _ _ _ (Act.put _ _ _) _); simp only [List.getElem_toArray, List.getElem_cons_succ, List.getElem_cons_zero, Act.put, List.setIfInBounds_toArray, List.set_cons_zero, List.set_cons_succ]) | ((with_reducible show wpTree _ _ _ _ _ _ _); first | refine wpTree_line ?_ | refine wpTree_alt ?_ ?_ | (refine wpTree_read0 rfl ?hw rfl (fun _ _ _ => ?_); case hw => ((conv => (lhs; whnf)); first | done | with_reducible rfl)) | (refine wpTree_read1 rfl ?hw rfl (fun _ _ _ => ?_); case hw => ((conv => (lhs; whnf)); first | done | with_reducible rfl)) | (refine wpTree_eff rfl ?hw (fun _ _ => ?_); case hw => ((conv => (lhs; whnf)); first | done | with_reducible rfl)) | (refine wpTree_skip0 rfl ?hw ?_; case hw => ((conv => (lhs; whnf)); first | done | with_reducible rfl)) | (refine wpTree_skip1 rfl ?hw ?_; case hw => ((conv => (lhs; whnf)); first | done | with_reducible rfl)) | (refine wpTree_skip2 rfl ?hw ?_; case hw => ((conv => (lhs; whnf)); first | done | with_reducible rfl))) | ((with_reducible show OwedT _ _ _ _ _ _ _ _ _); first | refine OwedT.none_ ?_ | refine OwedT.nil_ ?_ | refine OwedT.miss rfl ?_ | refine OwedT.hit ?_ ?_) | ((with_reducible show wpPlan _ _ _ _ _ (Act.put _ _ _) _); simp only [List.getElem_toArray, List.getElem_cons_succ, List.getElem_cons_zero, Act.put, List.setIfInBounds_toArray, List.set_cons_zero, List.set_cons_succ]) | ((with_reducible show wpPlan _ _ _ _ _ _ _); first | refine wpPlan_nil ?_ | (refine wpPlan_read0 rfl ?hw rfl (fun _ _ _ => ?_); case hw => ((conv => (lhs; whnf)); first | done | with_reducible rfl)) | (refine wpPlan_read1d rfl ?hw rfl rfl (fun _ _ _ => ?_); case hw => ((conv => (lhs; whnf)); first | done | with_reducible rfl)) | (refine wpPlan_eff rfl ?hw (fun _ _ => ?_); case hw => ((conv => (lhs; whnf)); first | done | with_reducible rfl)) | (refine wpPlan_skip0 rfl ?hw ?_; case hw => ((conv => (lhs; whnf)); first | done | with_reducible rfl)) | (refine wpPlan_skip1d rfl ?hw ?_; case hw => ((conv => (lhs; whnf)); first | done | with_reducible rfl)) | (refine wpPlan_skip2 rfl ?hw ?_; case hw => ((conv => (lhs; whnf)); first | done | with_reducible rfl)) | (refine wpPlan_read1 rfl ?hw rfl (fun _ _ _ => ?_); case hw => ((conv => (lhs; whnf)); first | done | with_reducible rfl)) | refine wpPlan_fork ?_ ?_) | ((with_reducible show Owed _ _ _ _ _ _ _ _ _); first | refine Owed.none_ ?_ | refine Owed.nil_ ?_ | refine Owed.miss rfl ?_ | refine Owed.hit ?_ ?_) | ((with_reducible show Same _ _ _ _ _); intro _; go_simp; done) | (with_reducible exact True.intro) | ((with_reducible show Code.wp _ (Code.region 5 _ true) _ _ _); refine wp_region_tree (Tree.read 0 0 (Tree.read 2 0 (Tree.read 3 1 (Tree.read 4 1 (Tree.read 5 1 (Tree.alt (Tree.eff 1 [3, 4, 5] (Tree.alt (Tree.eff 6 [] (Tree.line [(7, 1, []), (8, 2, [3, 4, 5, 7]), (9, 2, [])])) (Tree.eff 8 [3, 4, 5] (Tree.line [(6, 2, []), (7, 1, []), (9, 2, [])])))) (Tree.eff 8 [3, 4, 5] (Tree.line [(1, 2, [3, 4, 5]), (6, 2, []), (7, 1, []), (9, 2, [])])))))))) (by kernel_rfl) (by kernel_rfl) (by kernel_rfl) ?_))
        have HX6 := Lib.hid (HX4.out.alloc (.cells #[.int .i64 ev_, .int .i64 to_] 23))
        have HA6 := Lib.hid (Blk.new w4 23 #[.int .i64 ev_, .int .i64 to_])
        have HNA := Lib.hid (show w4.heap.size ≠ b by have := HX4.out.tp.blk.lt; omega)
        refine (tnext_any B b A n c (i + 3) zs 7 _ HX6.out.tp hn (by omega) (by decide) (by decide)).mono ?_
        rintro e w7 ⟨⟨r7, rfl, hr7a, hr7b⟩, hT7, hO7⟩
        have HX7 := Lib.hid (HX6.out.step hT7 hO7)
        have hA7 := HA6.out.out hO7 HNA.out
        have hA7c := hA7.cell
        have hA7l := hA7.lt
        have HA7 := Lib.hid hA7
        clear hT7 hO7 hA7
        have hx4c := HX7.out.res.cell
        have hx4l := HX7.out.res.lt
        have hx4f := HX7.out.res.frozen
        have hxqc := HX7.out.sys.cell
        have hxql := HX7.out.sys.lt
        obtain ⟨g1, n1, k1, l1, hxs, e1, how1, hn1, hW1⟩ := HX7.out.rows.cellAt hs
        obtain ⟨_, _, cur, eq1, hqB, _, hcur, hWq⟩ := HX7.out.rows.at_ (by omega)
        cases eq1
        have HOW := Lib.hid how1
        have HQB := Lib.hid hqB
        have HXS := Lib.hid hxs
        have hg1q : gq ≠ g1 := fun e => own_apart how1 hqB (by decide) (by rw [e]; rfl)
        have hg1s : w1.heap.size ≠ g1 := fun e => own_apart how1 HX7.out.sys (by decide) (by rw [e]; rfl)
        have hgqs : gq ≠ w1.heap.size := fun e => Blk.apart hqB HX7.out.sys (by decide) e
        have hgql := hqB.lt
        have hg1l := own_lt how1 (g := g1) rfl
        clear how1 hqB hxs
        rcases (by omega : r7 = 0 ∨ r7 = 1 ∨ r7 = 2 ∨ r7 = 3 ∨ r7 = 4 ∨ r7 = 5 ∨ r7 = 6) with rfl | rfl | rfl | rfl | rfl | rfl | rfl
        · clear hr7a hr7b
          have hput := (HX7.out.res.put 0 (.slice none 0 0)).cell 0
          have HZ := Lib.hid (And.intro (HX7.out.tp.out ((Outside.refl (fun g => g = w.heap.size + 1) _).setCell (p := ⟨w.heap.size + 1, 0, none⟩) (.inl rfl) (.slice none 0 0)) (by omega) (fun k hk e => by have := HX7.out.lo; omega)) (HX7.out.out.setCell (p := ⟨w.heap.size + 1, 0, none⟩) (.inr (by simp)) (.slice none 0 0)))
          go_wp2_with fail
          refine bodyPost_ret (v := lts none 0 0) (by simp [results, Try.results18, go_sem, hput]) rfl ?_
          exact ⟨⟨_, _, _, [], rfl, RdL.nil, Nat.zero_le _, Nat.zero_le _, fun l hl => (by cases hl), .inl rfl⟩, ⟨i + 4, by omega, HZ.out.1⟩, HZ.out.2⟩
        · clear hr7a hr7b
          go_wp2_with (first | ((with_reducible show wpPlan _ _ _ ((12, 2, _) :: _) _ _ _); refine wpPlan_eff rfl rfl (fun _ hK => ?_); refine app_blk slArc rfl (World.ownsRow.alloc HOW.out _) rfl (news := [(.int .i64 (-1)), (.int .i64 (to_))]) ((heap_alloc_at rfl) : Blk _ w7.heap.size _ _) rfl rfl (by simp [Value.oneCell']) (by decide) (by unfold maxLen; omega) (by omega) ?_; intro g8 c8 w8 hown8 hgrow8 hat8; refine hK _ _ ?_; refine Stop7.intro ?_) | ((with_reducible show wpPlan _ _ _ _ _ (Act.put _ _ _) _); simp only [List.getElem_toArray, List.getElem_cons_succ, List.getElem_cons_zero, Act.put, List.setIfInBounds_toArray, List.set_cons_zero, List.set_cons_succ]) | ((with_reducible show wpPlan _ _ _ _ _ _ _); first | refine wpPlan_nil ?_ | (refine wpPlan_read0 rfl ?hw rfl (fun _ _ _ => ?_); case hw => ((conv => (lhs; whnf)); first | done | with_reducible rfl)) | (refine wpPlan_read1d rfl ?hw rfl rfl (fun _ _ _ => ?_); case hw => ((conv => (lhs; whnf)); first | done | with_reducible rfl)) | (refine wpPlan_eff rfl ?hw (fun _ _ => ?_); case hw => ((conv => (lhs; whnf)); first | done | with_reducible rfl)) | (refine wpPlan_skip0 rfl ?hw ?_; case hw => ((conv => (lhs; whnf)); first | done | with_reducible rfl)) | (refine wpPlan_skip1d rfl ?hw ?_; case hw => ((conv => (lhs; whnf)); first | done | with_reducible rfl)) | (refine wpPlan_skip2 rfl ?hw ?_; case hw => ((conv => (lhs; whnf)); first | done | with_reducible rfl)) | (refine wpPlan_read1 rfl ?hw rfl (fun _ _ _ => ?_); case hw => ((conv => (lhs; whnf)); first | done | with_reducible rfl)) | refine wpPlan_fork ?_ ?_) | ((with_reducible show Owed _ _ _ _ _ _ _ _ _); first | refine Owed.none_ ?_ | refine Owed.nil_ ?_ | refine Owed.miss rfl ?_ | refine Owed.hit ?_ ?_) | ((with_reducible show Same _ _ _ _ _); intro _; go_simp; done) | (with_reducible exact True.intro) | ((with_reducible show Code.wp _ (Code.region 11 _ true) _ _ _); refine wp_region_plan [(0, 1, []), (1, 1, []), (2, 0, []), (3, 1, []), (4, 1, []), (5, 0, []), (6, 1, []), (7, 1, []), (8, 1, []), (9, 1, []), (10, 1, []), (11, 2, [0, 1, 3, 4, 6, 7]), (12, 2, [0, 1]), (13, 1, []), (14, 2, [])] (by kernel_rfl) (by kernel_rfl) (by kernel_rfl) ?_))
          have hgrow9 : (World.drew (w7.alloc (.cells #[(.int .i64 (-1)), (.int .i64 (to_))] 23))).grownBy w8 (some g1) := hgrow8
          have hO8 : Outside (fun k => k = g1) w7 w8 := ((Outside.refl (fun k => k = g1) w7).alloc (.cells #[(.int .i64 (-1)), (.int .i64 (to_))] 23)).drew.grown hgrow9 (fun z hz => by cases hz; exact .inl rfl)
          clear hgrow9
          have h8g : g1 = g8 ∨ w7.heap.size ≤ g8 := by
            rcases hat8 with h | h
            · exact .inl (by simpa [Value.ownBlock] using h)
            · simp at h; exact .inr (by omega)
          have hown9 : w8.ownsRow 0 23 2 (.slice (some ⟨g8, 0, none⟩) (n1 + 1) c8) (n1 + 1) (cellsOf Arc.cells (l1 ++ [⟨-1, to_⟩])) := by rw [← arc_snoc]; exact hown8
          unfold Stop7
          have hO9 : Outside (fun k => k = gq) w8 (w8.setCell ⟨gq, s, none⟩ (.slice (some ⟨g8, 0, none⟩) (n1 + 1) c8)) := (Outside.refl (fun k => k = gq) _).setCell (p := ⟨gq, s, none⟩) (.inl rfl) _
          have hq8 := HX7.out.sys.out hO8 hg1s
          have h48 := HX7.out.res.out hO8 (by omega)
          have hqB8 := HQB.out.out hO8 hg1q
          have q8c := hq8.cell
          have q8l := hq8.lt
          have b8l := hqB8.lt
          have b8f := hqB8.frozen s
          have hq9 := hq8.out hO9 (Ne.symm hgqs)
          have h49 := h48.out hO9 (by omega)
          have q9c := hq9.cell
          have q9l := hq9.lt
          have t9c := h49.cell
          have t9l := h49.lt
          have t9f := h49.frozen
          have hput := (h49.put 0 (.slice (some ⟨gq, 0, none⟩) m c1)).cell 0
          have HEND := Lib.hid (HX7.out.ended (i := i) (s := s) HXS.out rfl hO8 hown9 (by omega) (by omega) (by simp [Value.ownBlock]; omega) (by omega) (by omega) hmc hbw)
          have e8 := hO8.cell e1 (by dsimp only; exact hg1q)
          clear hO8 hO9 hq8 h48 hqB8 hq9 h49 hown8 hown9 hgrow8 hat8
          go_wp2_with (first | ((with_reducible show wpPlan _ _ _ _ _ (Act.put _ _ _) _); simp only [List.getElem_toArray, List.getElem_cons_succ, List.getElem_cons_zero, Act.put, List.setIfInBounds_toArray, List.set_cons_zero, List.set_cons_succ]) | ((with_reducible show wpPlan _ _ _ _ _ _ _); first | refine wpPlan_nil ?_ | (refine wpPlan_read0 rfl ?hw rfl (fun _ _ _ => ?_); case hw => ((conv => (lhs; whnf)); first | done | with_reducible rfl)) | (refine wpPlan_read1d rfl ?hw rfl rfl (fun _ _ _ => ?_); case hw => ((conv => (lhs; whnf)); first | done | with_reducible rfl)) | (refine wpPlan_eff rfl ?hw (fun _ _ => ?_); case hw => ((conv => (lhs; whnf)); first | done | with_reducible rfl)) | (refine wpPlan_skip0 rfl ?hw ?_; case hw => ((conv => (lhs; whnf)); first | done | with_reducible rfl)) | (refine wpPlan_skip1d rfl ?hw ?_; case hw => ((conv => (lhs; whnf)); first | done | with_reducible rfl)) | (refine wpPlan_skip2 rfl ?hw ?_; case hw => ((conv => (lhs; whnf)); first | done | with_reducible rfl)) | (refine wpPlan_read1 rfl ?hw rfl (fun _ _ _ => ?_); case hw => ((conv => (lhs; whnf)); first | done | with_reducible rfl)) | refine wpPlan_fork ?_ ?_) | ((with_reducible show Owed _ _ _ _ _ _ _ _ _); first | refine Owed.none_ ?_ | refine Owed.nil_ ?_ | refine Owed.miss rfl ?_ | refine Owed.hit ?_ ?_) | ((with_reducible show Same _ _ _ _ _); intro _; go_simp; done) | (with_reducible exact True.intro))
          refine bodyPost_ret (v := lts (some ⟨gq, 0, none⟩) m c1) (by simp [results, Try.results18, go_sem, hput]) rfl ?_
          exact HEND.out
        · clear hr7a hr7b
          go_wp2_with (first | ((with_reducible show wpPlan _ _ _ ((12, 2, _) :: _) _ _ _); refine wpPlan_eff rfl rfl (fun _ hK => ?_); refine app_blk slArc rfl (World.ownsRow.alloc HOW.out _) rfl (news := [(.int .i64 (1026)), (.int .i64 (to_))]) ((heap_alloc_at rfl) : Blk _ w7.heap.size _ _) rfl rfl (by simp [Value.oneCell']) (by decide) (by unfold maxLen; omega) (by omega) ?_; intro g8 c8 w8 hown8 hgrow8 hat8; refine hK _ _ ?_; refine Stop7.intro ?_) | ((with_reducible show wpPlan _ _ _ _ _ (Act.put _ _ _) _); simp only [List.getElem_toArray, List.getElem_cons_succ, List.getElem_cons_zero, Act.put, List.setIfInBounds_toArray, List.set_cons_zero, List.set_cons_succ]) | ((with_reducible show wpPlan _ _ _ _ _ _ _); first | refine wpPlan_nil ?_ | (refine wpPlan_read0 rfl ?hw rfl (fun _ _ _ => ?_); case hw => ((conv => (lhs; whnf)); first | done | with_reducible rfl)) | (refine wpPlan_read1d rfl ?hw rfl rfl (fun _ _ _ => ?_); case hw => ((conv => (lhs; whnf)); first | done | with_reducible rfl)) | (refine wpPlan_eff rfl ?hw (fun _ _ => ?_); case hw => ((conv => (lhs; whnf)); first | done | with_reducible rfl)) | (refine wpPlan_skip0 rfl ?hw ?_; case hw => ((conv => (lhs; whnf)); first | done | with_reducible rfl)) | (refine wpPlan_skip1d rfl ?hw ?_; case hw => ((conv => (lhs; whnf)); first | done | with_reducible rfl)) | (refine wpPlan_skip2 rfl ?hw ?_; case hw => ((conv => (lhs; whnf)); first | done | with_reducible rfl)) | (refine wpPlan_read1 rfl ?hw rfl (fun _ _ _ => ?_); case hw => ((conv => (lhs; whnf)); first | done | with_reducible rfl)) | refine wpPlan_fork ?_ ?_) | ((with_reducible show Owed _ _ _ _ _ _ _ _ _); first | refine Owed.none_ ?_ | refine Owed.nil_ ?_ | refine Owed.miss rfl ?_ | refine Owed.hit ?_ ?_) | ((with_reducible show Same _ _ _ _ _); intro _; go_simp; done) | (with_reducible exact True.intro) | ((with_reducible show Code.wp _ (Code.region 13 _ true) _ _ _); refine wp_region_plan [(0, 1, []), (1, 1, []), (2, 0, []), (3, 1, []), (4, 1, []), (5, 0, []), (6, 1, []), (7, 1, []), (8, 1, []), (9, 1, []), (10, 1, []), (11, 2, [0, 1, 3, 4, 6, 7]), (12, 2, [0, 1]), (13, 1, []), (14, 2, [])] (by kernel_rfl) (by kernel_rfl) (by kernel_rfl) ?_))
          have hgrow9 : (World.drew (w7.alloc (.cells #[(.int .i64 (1026)), (.int .i64 (to_))] 23))).grownBy w8 (some g1) := hgrow8
          have hO8 : Outside (fun k => k = g1) w7 w8 := ((Outside.refl (fun k => k = g1) w7).alloc (.cells #[(.int .i64 (1026)), (.int .i64 (to_))] 23)).drew.grown hgrow9 (fun z hz => by cases hz; exact .inl rfl)
          clear hgrow9
          have h8g : g1 = g8 ∨ w7.heap.size ≤ g8 := by
            rcases hat8 with h | h
            · exact .inl (by simpa [Value.ownBlock] using h)
            · simp at h; exact .inr (by omega)
          have hown9 : w8.ownsRow 0 23 2 (.slice (some ⟨g8, 0, none⟩) (n1 + 1) c8) (n1 + 1) (cellsOf Arc.cells (l1 ++ [⟨1026, to_⟩])) := by rw [← arc_snoc]; exact hown8
          unfold Stop7
          have hO9 : Outside (fun k => k = gq) w8 (w8.setCell ⟨gq, s, none⟩ (.slice (some ⟨g8, 0, none⟩) (n1 + 1) c8)) := (Outside.refl (fun k => k = gq) _).setCell (p := ⟨gq, s, none⟩) (.inl rfl) _
          have hq8 := HX7.out.sys.out hO8 hg1s
          have h48 := HX7.out.res.out hO8 (by omega)
          have hqB8 := HQB.out.out hO8 hg1q
          have q8c := hq8.cell
          have q8l := hq8.lt
          have b8l := hqB8.lt
          have b8f := hqB8.frozen s
          have hq9 := hq8.out hO9 (Ne.symm hgqs)
          have h49 := h48.out hO9 (by omega)
          have q9c := hq9.cell
          have q9l := hq9.lt
          have t9c := h49.cell
          have t9l := h49.lt
          have t9f := h49.frozen
          have hput := (h49.put 0 (.slice (some ⟨gq, 0, none⟩) m c1)).cell 0
          have HEND := Lib.hid (HX7.out.ended (i := i) (s := s) HXS.out rfl hO8 hown9 (by omega) (by omega) (by simp [Value.ownBlock]; omega) (by omega) (by omega) hmc hbw)
          have e8 := hO8.cell e1 (by dsimp only; exact hg1q)
          clear hO8 hO9 hq8 h48 hqB8 hq9 h49 hown8 hown9 hgrow8 hat8
          go_wp2_with (first | ((with_reducible show wpPlan _ _ _ _ _ (Act.put _ _ _) _); simp only [List.getElem_toArray, List.getElem_cons_succ, List.getElem_cons_zero, Act.put, List.setIfInBounds_toArray, List.set_cons_zero, List.set_cons_succ]) | ((with_reducible show wpPlan _ _ _ _ _ _ _); first | refine wpPlan_nil ?_ | (refine wpPlan_read0 rfl ?hw rfl (fun _ _ _ => ?_); case hw => ((conv => (lhs; whnf)); first | done | with_reducible rfl)) | (refine wpPlan_read1d rfl ?hw rfl rfl (fun _ _ _ => ?_); case hw => ((conv => (lhs; whnf)); first | done | with_reducible rfl)) | (refine wpPlan_eff rfl ?hw (fun _ _ => ?_); case hw => ((conv => (lhs; whnf)); first | done | with_reducible rfl)) | (refine wpPlan_skip0 rfl ?hw ?_; case hw => ((conv => (lhs; whnf)); first | done | with_reducible rfl)) | (refine wpPlan_skip1d rfl ?hw ?_; case hw => ((conv => (lhs; whnf)); first | done | with_reducible rfl)) | (refine wpPlan_skip2 rfl ?hw ?_; case hw => ((conv => (lhs; whnf)); first | done | with_reducible rfl)) | (refine wpPlan_read1 rfl ?hw rfl (fun _ _ _ => ?_); case hw => ((conv => (lhs; whnf)); first | done | with_reducible rfl)) | refine wpPlan_fork ?_ ?_) | ((with_reducible show Owed _ _ _ _ _ _ _ _ _); first | refine Owed.none_ ?_ | refine Owed.nil_ ?_ | refine Owed.miss rfl ?_ | refine Owed.hit ?_ ?_) | ((with_reducible show Same _ _ _ _ _); intro _; go_simp; done) | (with_reducible exact True.intro))
          refine bodyPost_ret (v := lts (some ⟨gq, 0, none⟩) m c1) (by simp [results, Try.results18, go_sem, hput]) rfl ?_
          exact HEND.out
        · clear hr7a hr7b
          go_wp2_with (first | ((with_reducible show wpPlan _ _ _ ((15, 2, _) :: _) _ _ _); refine wpPlan_eff rfl rfl (fun _ hK => ?_); refine app_blk slArc rfl (World.ownsRow.alloc HOW.out _) rfl (news := [(.int .i64 (ev_)), (.int .i64 (m))]) ((heap_alloc_at rfl) : Blk _ w7.heap.size _ _) rfl rfl (by simp [Value.oneCell']) (by decide) (by unfold maxLen; omega) (by omega) ?_; intro g8 c8 w8 hown8 hgrow8 hat8; refine hK _ _ ?_; refine Stop7.intro ?_) | ((with_reducible show wpPlan _ _ _ _ _ (Act.put _ _ _) _); simp only [List.getElem_toArray, List.getElem_cons_succ, List.getElem_cons_zero, Act.put, List.setIfInBounds_toArray, List.set_cons_zero, List.set_cons_succ]) | ((with_reducible show wpPlan _ _ _ _ _ _ _); first | refine wpPlan_nil ?_ | (refine wpPlan_read0 rfl ?hw rfl (fun _ _ _ => ?_); case hw => ((conv => (lhs; whnf)); first | done | with_reducible rfl)) | (refine wpPlan_read1d rfl ?hw rfl rfl (fun _ _ _ => ?_); case hw => ((conv => (lhs; whnf)); first | done | with_reducible rfl)) | (refine wpPlan_eff rfl ?hw (fun _ _ => ?_); case hw => ((conv => (lhs; whnf)); first | done | with_reducible rfl)) | (refine wpPlan_skip0 rfl ?hw ?_; case hw => ((conv => (lhs; whnf)); first | done | with_reducible rfl)) | (refine wpPlan_skip1d rfl ?hw ?_; case hw => ((conv => (lhs; whnf)); first | done | with_reducible rfl)) | (refine wpPlan_skip2 rfl ?hw ?_; case hw => ((conv => (lhs; whnf)); first | done | with_reducible rfl)) | (refine wpPlan_read1 rfl ?hw rfl (fun _ _ _ => ?_); case hw => ((conv => (lhs; whnf)); first | done | with_reducible rfl)) | refine wpPlan_fork ?_ ?_) | ((with_reducible show Owed _ _ _ _ _ _ _ _ _); first | refine Owed.none_ ?_ | refine Owed.nil_ ?_ | refine Owed.miss rfl ?_ | refine Owed.hit ?_ ?_) | ((with_reducible show Same _ _ _ _ _); intro _; go_simp; done) | (with_reducible exact True.intro) | ((with_reducible show Code.wp _ (Code.region 15 _ true) _ _ _); refine wp_region_plan [(0, 1, []), (1, 1, []), (2, 0, []), (3, 1, []), (4, 1, []), (5, 0, []), (6, 1, []), (7, 1, []), (8, 1, []), (9, 1, []), (10, 1, []), (11, 1, []), (12, 1, []), (13, 1, []), (14, 2, [0, 1, 3, 4, 6, 7]), (15, 2, [0, 1]), (16, 1, []), (17, 2, [])] (by kernel_rfl) (by kernel_rfl) (by kernel_rfl) ?_))
          have hgrow9 : (World.drew (w7.alloc (.cells #[(.int .i64 (ev_)), (.int .i64 (m))] 23))).grownBy w8 (some g1) := hgrow8
          have hO8 : Outside (fun k => k = g1) w7 w8 := ((Outside.refl (fun k => k = g1) w7).alloc (.cells #[(.int .i64 (ev_)), (.int .i64 (m))] 23)).drew.grown hgrow9 (fun z hz => by cases hz; exact .inl rfl)
          clear hgrow9
          have h8g : g1 = g8 ∨ w7.heap.size ≤ g8 := by
            rcases hat8 with h | h
            · exact .inl (by simpa [Value.ownBlock] using h)
            · simp at h; exact .inr (by omega)
          have hown9 : w8.ownsRow 0 23 2 (.slice (some ⟨g8, 0, none⟩) (n1 + 1) c8) (n1 + 1) (cellsOf Arc.cells (l1 ++ [⟨ev_, m⟩])) := by rw [← arc_snoc]; exact hown8
          unfold Stop7
          have hO9 : Outside (fun k => k = gq) w8 (w8.setCell ⟨gq, s, none⟩ (.slice (some ⟨g8, 0, none⟩) (n1 + 1) c8)) := (Outside.refl (fun k => k = gq) _).setCell (p := ⟨gq, s, none⟩) (.inl rfl) _
          have hq8 := HX7.out.sys.out hO8 hg1s
          have h48 := HX7.out.res.out hO8 (by omega)
          have hqB8 := HQB.out.out hO8 hg1q
          have q8c := hq8.cell
          have q8l := hq8.lt
          have b8l := hqB8.lt
          have b8f := hqB8.frozen s
          have hq9 := hq8.out hO9 (Ne.symm hgqs)
          have h49 := h48.out hO9 (by omega)
          have q9c := hq9.cell
          have q9l := hq9.lt
          have t9c := h49.cell
          have t9l := h49.lt
          have t9f := h49.frozen
          have hput := (h49.put 0 (.slice (some ⟨gq, 0, none⟩) m c1)).cell 0
          have HEND := Lib.hid (HX7.out.ended (i := i) (s := s) HXS.out rfl hO8 hown9 (by omega) (by omega) (by simp [Value.ownBlock]; omega) (by omega) (by omega) hmc hbw)
          have e8 := hO8.cell e1 (by dsimp only; exact hg1q)
          clear hO8 hO9 hq8 h48 hqB8 hq9 h49 hown8 hown9 hgrow8 hat8
          go_wp2_with (first | ((with_reducible show wpPlan _ _ _ _ _ (Act.put _ _ _) _); simp only [List.getElem_toArray, List.getElem_cons_succ, List.getElem_cons_zero, Act.put, List.setIfInBounds_toArray, List.set_cons_zero, List.set_cons_succ]) | ((with_reducible show wpPlan _ _ _ _ _ _ _); first | refine wpPlan_nil ?_ | (refine wpPlan_read0 rfl ?hw rfl (fun _ _ _ => ?_); case hw => ((conv => (lhs; whnf)); first | done | with_reducible rfl)) | (refine wpPlan_read1d rfl ?hw rfl rfl (fun _ _ _ => ?_); case hw => ((conv => (lhs; whnf)); first | done | with_reducible rfl)) | (refine wpPlan_eff rfl ?hw (fun _ _ => ?_); case hw => ((conv => (lhs; whnf)); first | done | with_reducible rfl)) | (refine wpPlan_skip0 rfl ?hw ?_; case hw => ((conv => (lhs; whnf)); first | done | with_reducible rfl)) | (refine wpPlan_skip1d rfl ?hw ?_; case hw => ((conv => (lhs; whnf)); first | done | with_reducible rfl)) | (refine wpPlan_skip2 rfl ?hw ?_; case hw => ((conv => (lhs; whnf)); first | done | with_reducible rfl)) | (refine wpPlan_read1 rfl ?hw rfl (fun _ _ _ => ?_); case hw => ((conv => (lhs; whnf)); first | done | with_reducible rfl)) | refine wpPlan_fork ?_ ?_) | ((with_reducible show Owed _ _ _ _ _ _ _ _ _); first | refine Owed.none_ ?_ | refine Owed.nil_ ?_ | refine Owed.miss rfl ?_ | refine Owed.hit ?_ ?_) | ((with_reducible show Same _ _ _ _ _); intro _; go_simp; done) | (with_reducible exact True.intro))
          refine bodyPost_ret (v := lts (some ⟨gq, 0, none⟩) m c1) (by simp [results, Try.results18, go_sem, hput]) rfl ?_
          exact HEND.out
        · clear hr7a hr7b
          go_wp2_with (first | ((with_reducible show wpPlan _ _ _ ((12, 2, _) :: _) _ _ _); refine wpPlan_eff rfl rfl (fun _ hK => ?_); refine app_blk slArc rfl (World.ownsRow.alloc HOW.out _) rfl (news := [(.int .i64 (ev_)), (.int .i64 (-1))]) ((heap_alloc_at rfl) : Blk _ w7.heap.size _ _) rfl rfl (by simp [Value.oneCell']) (by decide) (by unfold maxLen; omega) (by omega) ?_; intro g8 c8 w8 hown8 hgrow8 hat8; refine hK _ _ ?_; refine Stop7.intro ?_) | ((with_reducible show wpPlan _ _ _ _ _ (Act.put _ _ _) _); simp only [List.getElem_toArray, List.getElem_cons_succ, List.getElem_cons_zero, Act.put, List.setIfInBounds_toArray, List.set_cons_zero, List.set_cons_succ]) | ((with_reducible show wpPlan _ _ _ _ _ _ _); first | refine wpPlan_nil ?_ | (refine wpPlan_read0 rfl ?hw rfl (fun _ _ _ => ?_); case hw => ((conv => (lhs; whnf)); first | done | with_reducible rfl)) | (refine wpPlan_read1d rfl ?hw rfl rfl (fun _ _ _ => ?_); case hw => ((conv => (lhs; whnf)); first | done | with_reducible rfl)) | (refine wpPlan_eff rfl ?hw (fun _ _ => ?_); case hw => ((conv => (lhs; whnf)); first | done | with_reducible rfl)) | (refine wpPlan_skip0 rfl ?hw ?_; case hw => ((conv => (lhs; whnf)); first | done | with_reducible rfl)) | (refine wpPlan_skip1d rfl ?hw ?_; case hw => ((conv => (lhs; whnf)); first | done | with_reducible rfl)) | (refine wpPlan_skip2 rfl ?hw ?_; case hw => ((conv => (lhs; whnf)); first | done | with_reducible rfl)) | (refine wpPlan_read1 rfl ?hw rfl (fun _ _ _ => ?_); case hw => ((conv => (lhs; whnf)); first | done | with_reducible rfl)) | refine wpPlan_fork ?_ ?_) | ((with_reducible show Owed _ _ _ _ _ _ _ _ _); first | refine Owed.none_ ?_ | refine Owed.nil_ ?_ | refine Owed.miss rfl ?_ | refine Owed.hit ?_ ?_) | ((with_reducible show Same _ _ _ _ _); intro _; go_simp; done) | (with_reducible exact True.intro) | ((with_reducible show Code.wp _ (Code.region 17 _ true) _ _ _); refine wp_region_plan [(0, 1, []), (1, 1, []), (2, 0, []), (3, 1, []), (4, 1, []), (5, 0, []), (6, 1, []), (7, 1, []), (8, 1, []), (9, 1, []), (10, 1, []), (11, 2, [0, 1, 3, 4, 6, 7]), (12, 2, [0, 1]), (13, 1, []), (14, 2, [])] (by kernel_rfl) (by kernel_rfl) (by kernel_rfl) ?_))
          have hgrow9 : (World.drew (w7.alloc (.cells #[(.int .i64 (ev_)), (.int .i64 (-1))] 23))).grownBy w8 (some g1) := hgrow8
          have hO8 : Outside (fun k => k = g1) w7 w8 := ((Outside.refl (fun k => k = g1) w7).alloc (.cells #[(.int .i64 (ev_)), (.int .i64 (-1))] 23)).drew.grown hgrow9 (fun z hz => by cases hz; exact .inl rfl)
          clear hgrow9
          have h8g : g1 = g8 ∨ w7.heap.size ≤ g8 := by
            rcases hat8 with h | h
            · exact .inl (by simpa [Value.ownBlock] using h)
            · simp at h; exact .inr (by omega)
          have hown9 : w8.ownsRow 0 23 2 (.slice (some ⟨g8, 0, none⟩) (n1 + 1) c8) (n1 + 1) (cellsOf Arc.cells (l1 ++ [⟨ev_, -1⟩])) := by rw [← arc_snoc]; exact hown8
          unfold Stop7
          have hO9 : Outside (fun k => k = gq) w8 (w8.setCell ⟨gq, s, none⟩ (.slice (some ⟨g8, 0, none⟩) (n1 + 1) c8)) := (Outside.refl (fun k => k = gq) _).setCell (p := ⟨gq, s, none⟩) (.inl rfl) _
          have hq8 := HX7.out.sys.out hO8 hg1s
          have h48 := HX7.out.res.out hO8 (by omega)
          have hqB8 := HQB.out.out hO8 hg1q
          have q8c := hq8.cell
          have q8l := hq8.lt
          have b8l := hqB8.lt
          have b8f := hqB8.frozen s
          have hq9 := hq8.out hO9 (Ne.symm hgqs)
          have h49 := h48.out hO9 (by omega)
          have q9c := hq9.cell
          have q9l := hq9.lt
          have t9c := h49.cell
          have t9l := h49.lt
          have t9f := h49.frozen
          have hput := (h49.put 0 (.slice (some ⟨gq, 0, none⟩) m c1)).cell 0
          have HEND := Lib.hid (HX7.out.ended (i := i) (s := s) HXS.out rfl hO8 hown9 (by omega) (by omega) (by simp [Value.ownBlock]; omega) (by omega) (by omega) hmc hbw)
          have e8 := hO8.cell e1 (by dsimp only; exact hg1q)
          clear hO8 hO9 hq8 h48 hqB8 hq9 h49 hown8 hown9 hgrow8 hat8
          go_wp2_with (first | ((with_reducible show wpPlan _ _ _ _ _ (Act.put _ _ _) _); simp only [List.getElem_toArray, List.getElem_cons_succ, List.getElem_cons_zero, Act.put, List.setIfInBounds_toArray, List.set_cons_zero, List.set_cons_succ]) | ((with_reducible show wpPlan _ _ _ _ _ _ _); first | refine wpPlan_nil ?_ | (refine wpPlan_read0 rfl ?hw rfl (fun _ _ _ => ?_); case hw => ((conv => (lhs; whnf)); first | done | with_reducible rfl)) | (refine wpPlan_read1d rfl ?hw rfl rfl (fun _ _ _ => ?_); case hw => ((conv => (lhs; whnf)); first | done | with_reducible rfl)) | (refine wpPlan_eff rfl ?hw (fun _ _ => ?_); case hw => ((conv => (lhs; whnf)); first | done | with_reducible rfl)) | (refine wpPlan_skip0 rfl ?hw ?_; case hw => ((conv => (lhs; whnf)); first | done | with_reducible rfl)) | (refine wpPlan_skip1d rfl ?hw ?_; case hw => ((conv => (lhs; whnf)); first | done | with_reducible rfl)) | (refine wpPlan_skip2 rfl ?hw ?_; case hw => ((conv => (lhs; whnf)); first | done | with_reducible rfl)) | (refine wpPlan_read1 rfl ?hw rfl (fun _ _ _ => ?_); case hw => ((conv => (lhs; whnf)); first | done | with_reducible rfl)) | refine wpPlan_fork ?_ ?_) | ((with_reducible show Owed _ _ _ _ _ _ _ _ _); first | refine Owed.none_ ?_ | refine Owed.nil_ ?_ | refine Owed.miss rfl ?_ | refine Owed.hit ?_ ?_) | ((with_reducible show Same _ _ _ _ _); intro _; go_simp; done) | (with_reducible exact True.intro))
          refine bodyPost_ret (v := lts (some ⟨gq, 0, none⟩) m c1) (by simp [results, Try.results18, go_sem, hput]) rfl ?_
          exact HEND.out
        · clear hr7a hr7b
          have hown0 : (w7.alloc (.cells #[.int .i64 ev_, .int .i64 to_] 23)).ownsRow 0 23 2 (.slice (some ⟨w7.heap.size, 0, none⟩) 1 1) 1 (cellsOf Arc.cells [⟨ev_, to_⟩]) :=
            ⟨rfl, .inr ⟨w7.heap.size, 1, #[.int .i64 ev_, .int .i64 to_], rfl, Nat.zero_le _, heap_alloc_new w7 _, Nat.le_refl _, by simp [maxLen], rfl, rfl⟩⟩
          have HN0 := Lib.hid hown0
          have HR1 := Lib.hid ((Rd.ofOwn HOW.out).alloc (Nat.le_refl _) (.cells #[.int .i64 ev_, .int .i64 to_] 23))
          clear hown0
          go_wp2_with (first | ((with_reducible show wpPlan _ _ _ ((10, 2, _) :: _) _ _ _); refine wpPlan_eff rfl rfl (fun _ hK => ?_); refine app_opt slArc rfl HN0.out rfl HR1.out (c := k1) rfl (arc_ones _) (by unfold maxLen; omega) (by omega) ?_; intro v8 w8 hown8 hgrow8 hat8; refine hK _ _ ?_; refine Stop7.intro ?_) | ((with_reducible show wpPlan _ _ _ _ _ (Act.put _ _ _) _); simp only [List.getElem_toArray, List.getElem_cons_succ, List.getElem_cons_zero, Act.put, List.setIfInBounds_toArray, List.set_cons_zero, List.set_cons_succ]) | ((with_reducible show wpPlan _ _ _ _ _ _ _); first | refine wpPlan_nil ?_ | (refine wpPlan_read0 rfl ?hw rfl (fun _ _ _ => ?_); case hw => ((conv => (lhs; whnf)); first | done | with_reducible rfl)) | (refine wpPlan_read1d rfl ?hw rfl rfl (fun _ _ _ => ?_); case hw => ((conv => (lhs; whnf)); first | done | with_reducible rfl)) | (refine wpPlan_eff rfl ?hw (fun _ _ => ?_); case hw => ((conv => (lhs; whnf)); first | done | with_reducible rfl)) | (refine wpPlan_skip0 rfl ?hw ?_; case hw => ((conv => (lhs; whnf)); first | done | with_reducible rfl)) | (refine wpPlan_skip1d rfl ?hw ?_; case hw => ((conv => (lhs; whnf)); first | done | with_reducible rfl)) | (refine wpPlan_skip2 rfl ?hw ?_; case hw => ((conv => (lhs; whnf)); first | done | with_reducible rfl)) | (refine wpPlan_read1 rfl ?hw rfl (fun _ _ _ => ?_); case hw => ((conv => (lhs; whnf)); first | done | with_reducible rfl)) | refine wpPlan_fork ?_ ?_) | ((with_reducible show Owed _ _ _ _ _ _ _ _ _); first | refine Owed.none_ ?_ | refine Owed.nil_ ?_ | refine Owed.miss rfl ?_ | refine Owed.hit ?_ ?_) | ((with_reducible show Same _ _ _ _ _); intro _; go_simp; done) | (with_reducible exact True.intro) | ((with_reducible show Code.wp _ (Code.region 19 _ true) _ _ _); refine wp_region_plan [(0, 1, []), (1, 1, []), (2, 0, []), (3, 1, []), (5, 1, []), (6, 1, []), (7, 0, []), (8, 1, []), (9, 1, []), (4, 2, [0, 1, 5, 6, 8, 9]), (10, 2, [0, 1]), (11, 1, []), (12, 2, [])] (by kernel_rfl) (by kernel_rfl) (by kernel_rfl) ?_))
          have hgrow9 : (World.drew (w7.alloc (.cells #[.int .i64 ev_, .int .i64 to_] 23))).grownBy w8 (some w7.heap.size) := hgrow8
          have hO8 : Outside (fun k => k = g1) w7 w8 := (((Outside.refl (fun k => k = w7.heap.size) w7).alloc (.cells #[.int .i64 ev_, .int .i64 to_] 23)).drew.grown hgrow9 (fun z hz => by cases hz; exact .inl rfl)).mono fun k hk e => by have e' : k = w7.heap.size := e; omega
          obtain ⟨g8, c8, rfl, h8g⟩ := own_at hown8 hat8
          have h8g : g1 = g8 ∨ w7.heap.size ≤ g8 := by
            rcases h8g with h | h
            · exact .inr (by have h' : g8 = w7.heap.size := h; omega)
            · simp at h; exact .inr (by omega)
          have hown9 := hown8
          rw [← cellsOf_append] at hown9
          clear hgrow9
          unfold Stop7
          have hO9 : Outside (fun k => k = gq) w8 (w8.setCell ⟨gq, s, none⟩ (.slice (some ⟨g8, 0, none⟩) (1 + n1) c8)) := (Outside.refl (fun k => k = gq) _).setCell (p := ⟨gq, s, none⟩) (.inl rfl) _
          have hq8 := HX7.out.sys.out hO8 hg1s
          have h48 := HX7.out.res.out hO8 (by omega)
          have hqB8 := HQB.out.out hO8 hg1q
          have q8c := hq8.cell
          have q8l := hq8.lt
          have b8l := hqB8.lt
          have b8f := hqB8.frozen s
          have hq9 := hq8.out hO9 (Ne.symm hgqs)
          have h49 := h48.out hO9 (by omega)
          have q9c := hq9.cell
          have q9l := hq9.lt
          have t9c := h49.cell
          have t9l := h49.lt
          have t9f := h49.frozen
          have hput := (h49.put 0 (.slice (some ⟨gq, 0, none⟩) m c1)).cell 0
          have HEND := Lib.hid (HX7.out.ended (i := i) (s := s) HXS.out rfl hO8 hown9 (by omega) (by omega) (by simp [Value.ownBlock]; omega) (by omega) (by omega) hmc hbw)
          have e8 := hO8.cell e1 (by dsimp only; exact hg1q)
          clear hO8 hO9 hq8 h48 hqB8 hq9 h49 hown8 hown9 hgrow8 hat8
          go_wp2_with (first | ((with_reducible show wpPlan _ _ _ _ _ (Act.put _ _ _) _); simp only [List.getElem_toArray, List.getElem_cons_succ, List.getElem_cons_zero, Act.put, List.setIfInBounds_toArray, List.set_cons_zero, List.set_cons_succ]) | ((with_reducible show wpPlan _ _ _ _ _ _ _); first | refine wpPlan_nil ?_ | (refine wpPlan_read0 rfl ?hw rfl (fun _ _ _ => ?_); case hw => ((conv => (lhs; whnf)); first | done | with_reducible rfl)) | (refine wpPlan_read1d rfl ?hw rfl rfl (fun _ _ _ => ?_); case hw => ((conv => (lhs; whnf)); first | done | with_reducible rfl)) | (refine wpPlan_eff rfl ?hw (fun _ _ => ?_); case hw => ((conv => (lhs; whnf)); first | done | with_reducible rfl)) | (refine wpPlan_skip0 rfl ?hw ?_; case hw => ((conv => (lhs; whnf)); first | done | with_reducible rfl)) | (refine wpPlan_skip1d rfl ?hw ?_; case hw => ((conv => (lhs; whnf)); first | done | with_reducible rfl)) | (refine wpPlan_skip2 rfl ?hw ?_; case hw => ((conv => (lhs; whnf)); first | done | with_reducible rfl)) | (refine wpPlan_read1 rfl ?hw rfl (fun _ _ _ => ?_); case hw => ((conv => (lhs; whnf)); first | done | with_reducible rfl)) | refine wpPlan_fork ?_ ?_) | ((with_reducible show Owed _ _ _ _ _ _ _ _ _); first | refine Owed.none_ ?_ | refine Owed.nil_ ?_ | refine Owed.miss rfl ?_ | refine Owed.hit ?_ ?_) | ((with_reducible show Same _ _ _ _ _); intro _; go_simp; done) | (with_reducible exact True.intro))
          refine bodyPost_ret (v := lts (some ⟨gq, 0, none⟩) m c1) (by simp [results, Try.results18, go_sem, hput]) rfl ?_
          exact HEND.out
        · clear hr7a hr7b
          have HR1 := Lib.hid (Rd.ofOwn HOW.out)
          go_wp2_with (first | ((with_reducible show wpPlan _ _ _ ((13, 2, _) :: _) _ _ _); refine wpPlan_eff rfl rfl (fun _ hK => ?_); refine app_opt slArc rfl HOW.out rfl HR1.out (c := k1) rfl (arc_ones _) (by unfold maxLen; omega) (by omega) ?_; intro v8 w8 hown8 hgrow8 hat8; refine hK _ _ ?_; refine Stop7.intro ?_) | ((with_reducible show wpPlan _ _ _ _ _ (Act.put _ _ _) _); simp only [List.getElem_toArray, List.getElem_cons_succ, List.getElem_cons_zero, Act.put, List.setIfInBounds_toArray, List.set_cons_zero, List.set_cons_succ]) | ((with_reducible show wpPlan _ _ _ _ _ _ _); first | refine wpPlan_nil ?_ | (refine wpPlan_read0 rfl ?hw rfl (fun _ _ _ => ?_); case hw => ((conv => (lhs; whnf)); first | done | with_reducible rfl)) | (refine wpPlan_read1d rfl ?hw rfl rfl (fun _ _ _ => ?_); case hw => ((conv => (lhs; whnf)); first | done | with_reducible rfl)) | (refine wpPlan_eff rfl ?hw (fun _ _ => ?_); case hw => ((conv => (lhs; whnf)); first | done | with_reducible rfl)) | (refine wpPlan_skip0 rfl ?hw ?_; case hw => ((conv => (lhs; whnf)); first | done | with_reducible rfl)) | (refine wpPlan_skip1d rfl ?hw ?_; case hw => ((conv => (lhs; whnf)); first | done | with_reducible rfl)) | (refine wpPlan_skip2 rfl ?hw ?_; case hw => ((conv => (lhs; whnf)); first | done | with_reducible rfl)) | (refine wpPlan_read1 rfl ?hw rfl (fun _ _ _ => ?_); case hw => ((conv => (lhs; whnf)); first | done | with_reducible rfl)) | refine wpPlan_fork ?_ ?_) | ((with_reducible show Owed _ _ _ _ _ _ _ _ _); first | refine Owed.none_ ?_ | refine Owed.nil_ ?_ | refine Owed.miss rfl ?_ | refine Owed.hit ?_ ?_) | ((with_reducible show Same _ _ _ _ _); intro _; go_simp; done) | (with_reducible exact True.intro) | ((with_reducible show Code.wp _ (Code.region 7 _ true) _ _ _); refine wp_region_plan [(0, 1, []), (1, 1, []), (2, 0, []), (3, 1, []), (4, 1, []), (5, 0, []), (6, 1, []), (7, 1, []), (8, 1, []), (9, 1, []), (10, 0, []), (11, 1, []), (12, 1, []), (13, 2, [0, 1]), (14, 1, []), (15, 2, [])] (by kernel_rfl) (by kernel_rfl) (by kernel_rfl) ?_))
          have hgrow9 : (World.drew w7).grownBy w8 (some g1) := hgrow8
          have hO8 : Outside (fun k => k = g1) w7 w8 := (Outside.refl (fun k => k = g1) w7).drew.grown hgrow9 (fun z hz => by cases hz; exact .inl rfl)
          obtain ⟨g8, c8, rfl, h8g⟩ := own_at hown8 hat8
          have h8g : g1 = g8 ∨ w7.heap.size ≤ g8 := by
            rcases h8g with h | h
            · exact .inl h.symm
            · simp at h; exact .inr (by omega)
          have hown9 := hown8
          rw [← cellsOf_append] at hown9
          clear hgrow9
          unfold Stop7
          have hO9 : Outside (fun k => k = gq) w8 (w8.setCell ⟨gq, s, none⟩ (.slice (some ⟨g8, 0, none⟩) (n1 + n1) c8)) := (Outside.refl (fun k => k = gq) _).setCell (p := ⟨gq, s, none⟩) (.inl rfl) _
          have hq8 := HX7.out.sys.out hO8 hg1s
          have h48 := HX7.out.res.out hO8 (by omega)
          have hqB8 := HQB.out.out hO8 hg1q
          have q8c := hq8.cell
          have q8l := hq8.lt
          have b8l := hqB8.lt
          have b8f := hqB8.frozen s
          have hq9 := hq8.out hO9 (Ne.symm hgqs)
          have h49 := h48.out hO9 (by omega)
          have q9c := hq9.cell
          have q9l := hq9.lt
          have t9c := h49.cell
          have t9l := h49.lt
          have t9f := h49.frozen
          have hput := (h49.put 0 (.slice (some ⟨gq, 0, none⟩) m c1)).cell 0
          have HEND := Lib.hid (HX7.out.ended (i := i) (s := s) HXS.out rfl hO8 hown9 (by omega) (by omega) (by simp [Value.ownBlock]; omega) (by omega) (by omega) hmc hbw)
          have e8 := hO8.cell e1 (by dsimp only; exact hg1q)
          clear hO8 hO9 hq8 h48 hqB8 hq9 h49 hown8 hown9 hgrow8 hat8
          go_wp2_with (first | ((with_reducible show wpPlan _ _ _ _ _ (Act.put _ _ _) _); simp only [List.getElem_toArray, List.getElem_cons_succ, List.getElem_cons_zero, Act.put, List.setIfInBounds_toArray, List.set_cons_zero, List.set_cons_succ]) | ((with_reducible show wpPlan _ _ _ _ _ _ _); first | refine wpPlan_nil ?_ | (refine wpPlan_read0 rfl ?hw rfl (fun _ _ _ => ?_); case hw => ((conv => (lhs; whnf)); first | done | with_reducible rfl)) | (refine wpPlan_read1d rfl ?hw rfl rfl (fun _ _ _ => ?_); case hw => ((conv => (lhs; whnf)); first | done | with_reducible rfl)) | (refine wpPlan_eff rfl ?hw (fun _ _ => ?_); case hw => ((conv => (lhs; whnf)); first | done | with_reducible rfl)) | (refine wpPlan_skip0 rfl ?hw ?_; case hw => ((conv => (lhs; whnf)); first | done | with_reducible rfl)) | (refine wpPlan_skip1d rfl ?hw ?_; case hw => ((conv => (lhs; whnf)); first | done | with_reducible rfl)) | (refine wpPlan_skip2 rfl ?hw ?_; case hw => ((conv => (lhs; whnf)); first | done | with_reducible rfl)) | (refine wpPlan_read1 rfl ?hw rfl (fun _ _ _ => ?_); case hw => ((conv => (lhs; whnf)); first | done | with_reducible rfl)) | refine wpPlan_fork ?_ ?_) | ((with_reducible show Owed _ _ _ _ _ _ _ _ _); first | refine Owed.none_ ?_ | refine Owed.nil_ ?_ | refine Owed.miss rfl ?_ | refine Owed.hit ?_ ?_) | ((with_reducible show Same _ _ _ _ _); intro _; go_simp; done) | (with_reducible exact True.intro))
          refine bodyPost_ret (v := lts (some ⟨gq, 0, none⟩) m c1) (by simp [results, Try.results18, go_sem, hput]) rfl ?_
          exact HEND.out
      · have HX2' := Lib.hid (HX3.out.alloc (.cells #[.int .i64 0, .int .i64 0] 23))
        have HA3 := Lib.hid (show Blk (World.alloc w3 (.cells #[.int .i64 0, .int .i64 0] 23)) w3.heap.size 23 #[.int .i64 0, .int .i64 0] from Blk.new w3 23 #[.int .i64 0, .int .i64 0])
        have HNA := Lib.hid (show w3.heap.size ≠ b by have := HX3.out.tp.blk.lt; omega)
        have HLT := Lib.hid HX3.out.rows.lts
        have HL4 := Lib.hid HX3.out.res.lt
        have HLq := Lib.hid HX3.out.sys.lt
        have HLb := Lib.hid HX3.out.tp.blk.lt
        have HLw := Lib.hid HX3.out.out.size
        refine (tnext_any B b A n c (i + 1 + 1) zs m _ HX2'.out.tp hn (by omega) (by omega) (by omega)).mono ?_
        rintro e w4 ⟨⟨to_, rfl, _, _⟩, hT4, hO4⟩
        have HX4 := Lib.hid (HX2'.out.step hT4 hO4)
        have HA4 := Lib.hid (HA3.out.out hO4 HNA.out)
        have hA4c := HA4.out.cell
        have hA4l := HA4.out.lt
        have hA4f := HA4.out.frozen
        clear hT4 hO4
        have hx4c := HX4.out.res.cell
        have hx4l := HX4.out.res.lt
        have hx4f := HX4.out.res.frozen
        have hxqc := HX4.out.sys.cell
        have hxql := HX4.out.sys.lt
        go_wp2_with (first | ((with_reducible show wpTree _ _ _ _ _ (Act.put _ _ _) _); simp only [List.getElem_toArray, List.getElem_cons_succ, List.getElem_cons_zero, Act.put, List.setIfInBounds_toArray, List.set_cons_zero, List.set_cons_succ]) | ((with_reducible show wpTree _ _ _ _ _ _ _); first | refine wpTree_line ?_ | refine wpTree_alt ?_ ?_ | (refine wpTree_read0 rfl ?hw rfl (fun _ _ _ => ?_); case hw => ((conv => (lhs; whnf)); first | done | with_reducible rfl)) | (refine wpTree_read1 rfl ?hw rfl (fun _ _ _ => ?_); case hw => ((conv => (lhs; whnf)); first | done | with_reducible rfl)) | (refine wpTree_eff rfl ?hw (fun _ _ => ?_); case hw => ((conv => (lhs; whnf)); first | done | with_reducible rfl)) | (refine wpTree_skip0 rfl ?hw ?_; case hw => ((conv => (lhs; whnf)); first | done | with_reducible rfl)) | (refine wpTree_skip1 rfl ?hw ?_; case hw => ((conv => (lhs; whnf)); first | done | with_reducible rfl)) | (refine wpTree_skip2 rfl ?hw ?_; case hw => ((conv => (lhs; whnf)); first | done | with_reducible rfl))) | ((with_reducible show OwedT _ _ _ _ _ _ _ _ _); first | refine OwedT.none_ ?_ | refine OwedT.nil_ ?_ | refine OwedT.miss rfl ?_ | refine OwedT.hit ?_ ?_) | ((with_reducible show wpPlan _ _ _ _ _ (Act.put _ _ _) _); simp only [List.getElem_toArray, List.getElem_cons_succ, List.getElem_cons_zero, Act.put, List.setIfInBounds_toArray, List.set_cons_zero, List.set_cons_succ]) | ((with_reducible show wpPlan _ _ _ _ _ _ _); first | refine wpPlan_nil ?_ | (refine wpPlan_read0 rfl ?hw rfl (fun _ _ _ => ?_); case hw => ((conv => (lhs; whnf)); first | done | with_reducible rfl)) | (refine wpPlan_read1d rfl ?hw rfl rfl (fun _ _ _ => ?_); case hw => ((conv => (lhs; whnf)); first | done | with_reducible rfl)) | (refine wpPlan_eff rfl ?hw (fun _ _ => ?_); case hw => ((conv => (lhs; whnf)); first | done | with_reducible rfl)) | (refine wpPlan_skip0 rfl ?hw ?_; case hw => ((conv => (lhs; whnf)); first | done | with_reducible rfl)) | (refine wpPlan_skip1d rfl ?hw ?_; case hw => ((conv => (lhs; whnf)); first | done | with_reducible rfl)) | (refine wpPlan_skip2 rfl ?hw ?_; case hw => ((conv => (lhs; whnf)); first | done | with_reducible rfl)) | (refine wpPlan_read1 rfl ?hw rfl (fun _ _ _ => ?_); case hw => ((conv => (lhs; whnf)); first | done | with_reducible rfl)) | refine wpPlan_fork ?_ ?_) | ((with_reducible show Owed _ _ _ _ _ _ _ _ _); first | refine Owed.none_ ?_ | refine Owed.nil_ ?_ | refine Owed.miss rfl ?_ | refine Owed.hit ?_ ?_) | ((with_reducible show Same _ _ _ _ _); intro _; go_simp; done) | (with_reducible exact True.intro) | ((with_reducible show Code.wp _ (Code.region 5 _ true) _ _ _); refine wp_region_tree (Tree.read 0 0 (Tree.read 2 0 (Tree.read 3 1 (Tree.read 4 1 (Tree.read 5 1 (Tree.alt (Tree.eff 1 [3, 4, 5] (Tree.alt (Tree.eff 6 [] (Tree.line [(7, 1, []), (8, 2, [3, 4, 5, 7]), (9, 2, [])])) (Tree.eff 8 [3, 4, 5] (Tree.line [(6, 2, []), (7, 1, []), (9, 2, [])])))) (Tree.eff 8 [3, 4, 5] (Tree.line [(1, 2, [3, 4, 5]), (6, 2, []), (7, 1, []), (9, 2, [])])))))))) (by kernel_rfl) (by kernel_rfl) (by kernel_rfl) ?_))
        have HX6 := Lib.hid ((HX4.out.put (ga := w3.heap.size) HLT.out (by have := HL4.out; omega) (by have := HLq.out; omega) (by have := HLb.out; omega) HLw.out 0 (.int .i64 ev_)).put (ga := w3.heap.size) HLT.out (by have := HL4.out; omega) (by have := HLq.out; omega) (by have := HLb.out; omega) HLw.out 1 (.int .i64 to_))
        have HA6 := Lib.hid ((HA4.out.put 0 (.int .i64 ev_)).put 1 (.int .i64 to_))
        refine (tnext_any B b A n c (i + 3) zs 7 _ HX6.out.tp hn (by omega) (by decide) (by decide)).mono ?_
        rintro e w7 ⟨⟨r7, rfl, hr7a, hr7b⟩, hT7, hO7⟩
        have HX7 := Lib.hid (HX6.out.step hT7 hO7)
        have hA7 := HA6.out.out hO7 HNA.out
        have hA7c := hA7.cell
        have hA7l := hA7.lt
        have HA7 := Lib.hid hA7
        clear hT7 hO7 hA7
        have hx4c := HX7.out.res.cell
        have hx4l := HX7.out.res.lt
        have hx4f := HX7.out.res.frozen
        have hxqc := HX7.out.sys.cell
        have hxql := HX7.out.sys.lt
        obtain ⟨g1, n1, k1, l1, hxs, e1, how1, hn1, hW1⟩ := HX7.out.rows.cellAt hs
        obtain ⟨_, _, cur, eq1, hqB, _, hcur, hWq⟩ := HX7.out.rows.at_ (by omega)
        cases eq1
        have HOW := Lib.hid how1
        have HQB := Lib.hid hqB
        have HXS := Lib.hid hxs
        have hg1q : gq ≠ g1 := fun e => own_apart how1 hqB (by decide) (by rw [e]; rfl)
        have hg1s : w1.heap.size ≠ g1 := fun e => own_apart how1 HX7.out.sys (by decide) (by rw [e]; rfl)
        have hgqs : gq ≠ w1.heap.size := fun e => Blk.apart hqB HX7.out.sys (by decide) e
        have hgql := hqB.lt
        have hg1l := own_lt how1 (g := g1) rfl
        clear how1 hqB hxs
        rcases (by omega : r7 = 0 ∨ r7 = 1 ∨ r7 = 2 ∨ r7 = 3 ∨ r7 = 4 ∨ r7 = 5 ∨ r7 = 6) with rfl | rfl | rfl | rfl | rfl | rfl | rfl
        · clear hr7a hr7b
          have hput := (HX7.out.res.put 0 (.slice none 0 0)).cell 0
          have HZ := Lib.hid (And.intro (HX7.out.tp.out ((Outside.refl (fun g => g = w.heap.size + 1) _).setCell (p := ⟨w.heap.size + 1, 0, none⟩) (.inl rfl) (.slice none 0 0)) (by omega) (fun k hk e => by have := HX7.out.lo; omega)) (HX7.out.out.setCell (p := ⟨w.heap.size + 1, 0, none⟩) (.inr (by simp)) (.slice none 0 0)))
          go_wp2_with fail
          refine bodyPost_ret (v := lts none 0 0) (by simp [results, Try.results18, go_sem, hput]) rfl ?_
          exact ⟨⟨_, _, _, [], rfl, RdL.nil, Nat.zero_le _, Nat.zero_le _, fun l hl => (by cases hl), .inl rfl⟩, ⟨i + 4, by omega, HZ.out.1⟩, HZ.out.2⟩
        · clear hr7a hr7b
          go_wp2_with (first | ((with_reducible show wpPlan _ _ _ ((12, 2, _) :: _) _ _ _); refine wpPlan_eff rfl rfl (fun _ hK => ?_); refine app_blk slArc rfl (World.ownsRow.alloc HOW.out _) rfl (news := [(.int .i64 (-1)), (.int .i64 (to_))]) ((heap_alloc_at rfl) : Blk _ w7.heap.size _ _) rfl rfl (by simp [Value.oneCell']) (by decide) (by unfold maxLen; omega) (by omega) ?_; intro g8 c8 w8 hown8 hgrow8 hat8; refine hK _ _ ?_; refine Stop7.intro ?_) | ((with_reducible show wpPlan _ _ _ _ _ (Act.put _ _ _) _); simp only [List.getElem_toArray, List.getElem_cons_succ, List.getElem_cons_zero, Act.put, List.setIfInBounds_toArray, List.set_cons_zero, List.set_cons_succ]) | ((with_reducible show wpPlan _ _ _ _ _ _ _); first | refine wpPlan_nil ?_ | (refine wpPlan_read0 rfl ?hw rfl (fun _ _ _ => ?_); case hw => ((conv => (lhs; whnf)); first | done | with_reducible rfl)) | (refine wpPlan_read1d rfl ?hw rfl rfl (fun _ _ _ => ?_); case hw => ((conv => (lhs; whnf)); first | done | with_reducible rfl)) | (refine wpPlan_eff rfl ?hw (fun _ _ => ?_); case hw => ((conv => (lhs; whnf)); first | done | with_reducible rfl)) | (refine wpPlan_skip0 rfl ?hw ?_; case hw => ((conv => (lhs; whnf)); first | done | with_reducible rfl)) | (refine wpPlan_skip1d rfl ?hw ?_; case hw => ((conv => (lhs; whnf)); first | done | with_reducible rfl)) | (refine wpPlan_skip2 rfl ?hw ?_; case hw => ((conv => (lhs; whnf)); first | done | with_reducible rfl)) | (refine wpPlan_read1 rfl ?hw rfl (fun _ _ _ => ?_); case hw => ((conv => (lhs; whnf)); first | done | with_reducible rfl)) | refine wpPlan_fork ?_ ?_) | ((with_reducible show Owed _ _ _ _ _ _ _ _ _); first | refine Owed.none_ ?_ | refine Owed.nil_ ?_ | refine Owed.miss rfl ?_ | refine Owed.hit ?_ ?_) | ((with_reducible show Same _ _ _ _ _); intro _; go_simp; done) | (with_reducible exact True.intro) | ((with_reducible show Code.wp _ (Code.region 11 _ true) _ _ _); refine wp_region_plan [(0, 1, []), (1, 1, []), (2, 0, []), (3, 1, []), (4, 1, []), (5, 0, []), (6, 1, []), (7, 1, []), (8, 1, []), (9, 1, []), (10, 1, []), (11, 2, [0, 1, 3, 4, 6, 7]), (12, 2, [0, 1]), (13, 1, []), (14, 2, [])] (by kernel_rfl) (by kernel_rfl) (by kernel_rfl) ?_))
          have hgrow9 : (World.drew (w7.alloc (.cells #[(.int .i64 (-1)), (.int .i64 (to_))] 23))).grownBy w8 (some g1) := hgrow8
          have hO8 : Outside (fun k => k = g1) w7 w8 := ((Outside.refl (fun k => k = g1) w7).alloc (.cells #[(.int .i64 (-1)), (.int .i64 (to_))] 23)).drew.grown hgrow9 (fun z hz => by cases hz; exact .inl rfl)
          clear hgrow9
          have h8g : g1 = g8 ∨ w7.heap.size ≤ g8 := by
            rcases hat8 with h | h
            · exact .inl (by simpa [Value.ownBlock] using h)
            · simp at h; exact .inr (by omega)
          have hown9 : w8.ownsRow 0 23 2 (.slice (some ⟨g8, 0, none⟩) (n1 + 1) c8) (n1 + 1) (cellsOf Arc.cells (l1 ++ [⟨-1, to_⟩])) := by rw [← arc_snoc]; exact hown8
          unfold Stop7
          have hO9 : Outside (fun k => k = gq) w8 (w8.setCell ⟨gq, s, none⟩ (.slice (some ⟨g8, 0, none⟩) (n1 + 1) c8)) := (Outside.refl (fun k => k = gq) _).setCell (p := ⟨gq, s, none⟩) (.inl rfl) _
          have hq8 := HX7.out.sys.out hO8 hg1s
          have h48 := HX7.out.res.out hO8 (by omega)
          have hqB8 := HQB.out.out hO8 hg1q
          have q8c := hq8.cell
          have q8l := hq8.lt
          have b8l := hqB8.lt
          have b8f := hqB8.frozen s
          have hq9 := hq8.out hO9 (Ne.symm hgqs)
          have h49 := h48.out hO9 (by omega)
          have q9c := hq9.cell
          have q9l := hq9.lt
          have t9c := h49.cell
          have t9l := h49.lt
          have t9f := h49.frozen
          have hput := (h49.put 0 (.slice (some ⟨gq, 0, none⟩) m c1)).cell 0
          have HEND := Lib.hid (HX7.out.ended (i := i) (s := s) HXS.out rfl hO8 hown9 (by omega) (by omega) (by simp [Value.ownBlock]; omega) (by omega) (by omega) hmc hbw)
          have e8 := hO8.cell e1 (by dsimp only; exact hg1q)
          clear hO8 hO9 hq8 h48 hqB8 hq9 h49 hown8 hown9 hgrow8 hat8
          go_wp2_with (first | ((with_reducible show wpPlan _ _ _ _ _ (Act.put _ _ _) _); simp only [List.getElem_toArray, List.getElem_cons_succ, List.getElem_cons_zero, Act.put, List.setIfInBounds_toArray, List.set_cons_zero, List.set_cons_succ]) | ((with_reducible show wpPlan _ _ _ _ _ _ _); first | refine wpPlan_nil ?_ | (refine wpPlan_read0 rfl ?hw rfl (fun _ _ _ => ?_); case hw => ((conv => (lhs; whnf)); first | done | with_reducible rfl)) | (refine wpPlan_read1d rfl ?hw rfl rfl (fun _ _ _ => ?_); case hw => ((conv => (lhs; whnf)); first | done | with_reducible rfl)) | (refine wpPlan_eff rfl ?hw (fun _ _ => ?_); case hw => ((conv => (lhs; whnf)); first | done | with_reducible rfl)) | (refine wpPlan_skip0 rfl ?hw ?_; case hw => ((conv => (lhs; whnf)); first | done | with_reducible rfl)) | (refine wpPlan_skip1d rfl ?hw ?_; case hw => ((conv => (lhs; whnf)); first | done | with_reducible rfl)) | (refine wpPlan_skip2 rfl ?hw ?_; case hw => ((conv => (lhs; whnf)); first | done | with_reducible rfl)) | (refine wpPlan_read1 rfl ?hw rfl (fun _ _ _ => ?_); case hw => ((conv => (lhs; whnf)); first | done | with_reducible rfl)) | refine wpPlan_fork ?_ ?_) | ((with_reducible show Owed _ _ _ _ _ _ _ _ _); first | refine Owed.none_ ?_ | refine Owed.nil_ ?_ | refine Owed.miss rfl ?_ | refine Owed.hit ?_ ?_) | ((with_reducible show Same _ _ _ _ _); intro _; go_simp; done) | (with_reducible exact True.intro))
          refine bodyPost_ret (v := lts (some ⟨gq, 0, none⟩) m c1) (by simp [results, Try.results18, go_sem, hput]) rfl ?_
          exact HEND.out
        · clear hr7a hr7b
          go_wp2_with (first | ((with_reducible show wpPlan _ _ _ ((12, 2, _) :: _) _ _ _); refine wpPlan_eff rfl rfl (fun _ hK => ?_); refine app_blk slArc rfl (World.ownsRow.alloc HOW.out _) rfl (news := [(.int .i64 (1026)), (.int .i64 (to_))]) ((heap_alloc_at rfl) : Blk _ w7.heap.size _ _) rfl rfl (by simp [Value.oneCell']) (by decide) (by unfold maxLen; omega) (by omega) ?_; intro g8 c8 w8 hown8 hgrow8 hat8; refine hK _ _ ?_; refine Stop7.intro ?_) | ((with_reducible show wpPlan _ _ _ _ _ (Act.put _ _ _) _); simp only [List.getElem_toArray, List.getElem_cons_succ, List.getElem_cons_zero, Act.put, List.setIfInBounds_toArray, List.set_cons_zero, List.set_cons_succ]) | ((with_reducible show wpPlan _ _ _ _ _ _ _); first | refine wpPlan_nil ?_ | (refine wpPlan_read0 rfl ?hw rfl (fun _ _ _ => ?_); case hw => ((conv => (lhs; whnf)); first | done | with_reducible rfl)) | (refine wpPlan_read1d rfl ?hw rfl rfl (fun _ _ _ => ?_); case hw => ((conv => (lhs; whnf)); first | done | with_reducible rfl)) | (refine wpPlan_eff rfl ?hw (fun _ _ => ?_); case hw => ((conv => (lhs; whnf)); first | done | with_reducible rfl)) | (refine wpPlan_skip0 rfl ?hw ?_; case hw => ((conv => (lhs; whnf)); first | done | with_reducible rfl)) | (refine wpPlan_skip1d rfl ?hw ?_; case hw => ((conv => (lhs; whnf)); first | done | with_reducible rfl)) | (refine wpPlan_skip2 rfl ?hw ?_; case hw => ((conv => (lhs; whnf)); first | done | with_reducible rfl)) | (refine wpPlan_read1 rfl ?hw rfl (fun _ _ _ => ?_); case hw => ((conv => (lhs; whnf)); first | done | with_reducible rfl)) | refine wpPlan_fork ?_ ?_) | ((with_reducible show Owed _ _ _ _ _ _ _ _ _); first | refine Owed.none_ ?_ | refine Owed.nil_ ?_ | refine Owed.miss rfl ?_ | refine Owed.hit ?_ ?_) | ((with_reducible show Same _ _ _ _ _); intro _; go_simp; done) | (with_reducible exact True.intro) | ((with_reducible show Code.wp _ (Code.region 13 _ true) _ _ _); refine wp_region_plan [(0, 1, []), (1, 1, []), (2, 0, []), (3, 1, []), (4, 1, []), (5, 0, []), (6, 1, []), (7, 1, []), (8, 1, []), (9, 1, []), (10, 1, []), (11, 2, [0, 1, 3, 4, 6, 7]), (12, 2, [0, 1]), (13, 1, []), (14, 2, [])] (by kernel_rfl) (by kernel_rfl) (by kernel_rfl) ?_))
          have hgrow9 : (World.drew (w7.alloc (.cells #[(.int .i64 (1026)), (.int .i64 (to_))] 23))).grownBy w8 (some g1) := hgrow8
          have hO8 : Outside (fun k => k = g1) w7 w8 := ((Outside.refl (fun k => k = g1) w7).alloc (.cells #[(.int .i64 (1026)), (.int .i64 (to_))] 23)).drew.grown hgrow9 (fun z hz => by cases hz; exact .inl rfl)
          clear hgrow9
          have h8g : g1 = g8 ∨ w7.heap.size ≤ g8 := by
            rcases hat8 with h | h
            · exact .inl (by simpa [Value.ownBlock] using h)
            · simp at h; exact .inr (by omega)
          have hown9 : w8.ownsRow 0 23 2 (.slice (some ⟨g8, 0, none⟩) (n1 + 1) c8) (n1 + 1) (cellsOf Arc.cells (l1 ++ [⟨1026, to_⟩])) := by rw [← arc_snoc]; exact hown8
          unfold Stop7
          have hO9 : Outside (fun k => k = gq) w8 (w8.setCell ⟨gq, s, none⟩ (.slice (some ⟨g8, 0, none⟩) (n1 + 1) c8)) := (Outside.refl (fun k => k = gq) _).setCell (p := ⟨gq, s, none⟩) (.inl rfl) _
          have hq8 := HX7.out.sys.out hO8 hg1s
          have h48 := HX7.out.res.out hO8 (by omega)
          have hqB8 := HQB.out.out hO8 hg1q
          have q8c := hq8.cell
          have q8l := hq8.lt
          have b8l := hqB8.lt
          have b8f := hqB8.frozen s
          have hq9 := hq8.out hO9 (Ne.symm hgqs)
          have h49 := h48.out hO9 (by omega)
          have q9c := hq9.cell
          have q9l := hq9.lt
          have t9c := h49.cell
          have t9l := h49.lt
          have t9f := h49.frozen
          have hput := (h49.put 0 (.slice (some ⟨gq, 0, none⟩) m c1)).cell 0
          have HEND := Lib.hid (HX7.out.ended (i := i) (s := s) HXS.out rfl hO8 hown9 (by omega) (by omega) (by simp [Value.ownBlock]; omega) (by omega) (by omega) hmc hbw)
          have e8 := hO8.cell e1 (by dsimp only; exact hg1q)
          clear hO8 hO9 hq8 h48 hqB8 hq9 h49 hown8 hown9 hgrow8 hat8
          go_wp2_with (first | ((with_reducible show wpPlan _ _ _ _ _ (Act.put _ _ _) _); simp only [List.getElem_toArray, List.getElem_cons_succ, List.getElem_cons_zero, Act.put, List.setIfInBounds_toArray, List.set_cons_zero, List.set_cons_succ]) | ((with_reducible show wpPlan _ _ _ _ _ _ _); first | refine wpPlan_nil ?_ | (refine wpPlan_read0 rfl ?hw rfl (fun _ _ _ => ?_); case hw => ((conv => (lhs; whnf)); first | done | with_reducible rfl)) | (refine wpPlan_read1d rfl ?hw rfl rfl (fun _ _ _ => ?_); case hw => ((conv => (lhs; whnf)); first | done | with_reducible rfl)) | (refine wpPlan_eff rfl ?hw (fun _ _ => ?_); case hw => ((conv => (lhs; whnf)); first | done | with_reducible rfl)) | (refine wpPlan_skip0 rfl ?hw ?_; case hw => ((conv => (lhs; whnf)); first | done | with_reducible rfl)) | (refine wpPlan_skip1d rfl ?hw ?_; case hw => ((conv => (lhs; whnf)); first | done | with_reducible rfl)) | (refine wpPlan_skip2 rfl ?hw ?_; case hw => ((conv => (lhs; whnf)); first | done | with_reducible rfl)) | (refine wpPlan_read1 rfl ?hw rfl (fun _ _ _ => ?_); case hw => ((conv => (lhs; whnf)); first | done | with_reducible rfl)) | refine wpPlan_fork ?_ ?_) | ((with_reducible show Owed _ _ _ _ _ _ _ _ _); first | refine Owed.none_ ?_ | refine Owed.nil_ ?_ | refine Owed.miss rfl ?_ | refine Owed.hit ?_ ?_) | ((with_reducible show Same _ _ _ _ _); intro _; go_simp; done) | (with_reducible exact True.intro))
          refine bodyPost_ret (v := lts (some ⟨gq, 0, none⟩) m c1) (by simp [results, Try.results18, go_sem, hput]) rfl ?_
          exact HEND.out
        · clear hr7a hr7b
          go_wp2_with (first | ((with_reducible show wpPlan _ _ _ ((15, 2, _) :: _) _ _ _); refine wpPlan_eff rfl rfl (fun _ hK => ?_); refine app_blk slArc rfl (World.ownsRow.alloc HOW.out _) rfl (news := [(.int .i64 (ev_)), (.int .i64 (m))]) ((heap_alloc_at rfl) : Blk _ w7.heap.size _ _) rfl rfl (by simp [Value.oneCell']) (by decide) (by unfold maxLen; omega) (by omega) ?_; intro g8 c8 w8 hown8 hgrow8 hat8; refine hK _ _ ?_; refine Stop7.intro ?_) | ((with_reducible show wpPlan _ _ _ _ _ (Act.put _ _ _) _); simp only [List.getElem_toArray, List.getElem_cons_succ, List.getElem_cons_zero, Act.put, List.setIfInBounds_toArray, List.set_cons_zero, List.set_cons_succ]) | ((with_reducible show wpPlan _ _ _ _ _ _ _); first | refine wpPlan_nil ?_ | (refine wpPlan_read0 rfl ?hw rfl (fun _ _ _ => ?_); case hw => ((conv => (lhs; whnf)); first | done | with_reducible rfl)) | (refine wpPlan_read1d rfl ?hw rfl rfl (fun _ _ _ => ?_); case hw => ((conv => (lhs; whnf)); first | done | with_reducible rfl)) | (refine wpPlan_eff rfl ?hw (fun _ _ => ?_); case hw => ((conv => (lhs; whnf)); first | done | with_reducible rfl)) | (refine wpPlan_skip0 rfl ?hw ?_; case hw => ((conv => (lhs; whnf)); first | done | with_reducible rfl)) | (refine wpPlan_skip1d rfl ?hw ?_; case hw => ((conv => (lhs; whnf)); first | done | with_reducible rfl)) | (refine wpPlan_skip2 rfl ?hw ?_; case hw => ((conv => (lhs; whnf)); first | done | with_reducible rfl)) | (refine wpPlan_read1 rfl ?hw rfl (fun _ _ _ => ?_); case hw => ((conv => (lhs; whnf)); first | done | with_reducible rfl)) | refine wpPlan_fork ?_ ?_) | ((with_reducible show Owed _ _ _ _ _ _ _ _ _); first | refine Owed.none_ ?_ | refine Owed.nil_ ?_ | refine Owed.miss rfl ?_ | refine Owed.hit ?_ ?_) | ((with_reducible show Same _ _ _ _ _); intro _; go_simp; done) | (with_reducible exact True.intro) | ((with_reducible show Code.wp _ (Code.region 15 _ true) _ _ _); refine wp_region_plan [(0, 1, []), (1, 1, []), (2, 0, []), (3, 1, []), (4, 1, []), (5, 0, []), (6, 1, []), (7, 1, []), (8, 1, []), (9, 1, []), (10, 1, []), (11, 1, []), (12, 1, []), (13, 1, []), (14, 2, [0, 1, 3, 4, 6, 7]), (15, 2, [0, 1]), (16, 1, []), (17, 2, [])] (by kernel_rfl) (by kernel_rfl) (by kernel_rfl) ?_))
          have hgrow9 : (World.drew (w7.alloc (.cells #[(.int .i64 (ev_)), (.int .i64 (m))] 23))).grownBy w8 (some g1) := hgrow8
          have hO8 : Outside (fun k => k = g1) w7 w8 := ((Outside.refl (fun k => k = g1) w7).alloc (.cells #[(.int .i64 (ev_)), (.int .i64 (m))] 23)).drew.grown hgrow9 (fun z hz => by cases hz; exact .inl rfl)
          clear hgrow9
          have h8g : g1 = g8 ∨ w7.heap.size ≤ g8 := by
            rcases hat8 with h | h
            · exact .inl (by simpa [Value.ownBlock] using h)
            · simp at h; exact .inr (by omega)
          have hown9 : w8.ownsRow 0 23 2 (.slice (some ⟨g8, 0, none⟩) (n1 + 1) c8) (n1 + 1) (cellsOf Arc.cells (l1 ++ [⟨ev_, m⟩])) := by rw [← arc_snoc]; exact hown8
          unfold Stop7
          have hO9 : Outside (fun k => k = gq) w8 (w8.setCell ⟨gq, s, none⟩ (.slice (some ⟨g8, 0, none⟩) (n1 + 1) c8)) := (Outside.refl (fun k => k = gq) _).setCell (p := ⟨gq, s, none⟩) (.inl rfl) _
          have hq8 := HX7.out.sys.out hO8 hg1s
          have h48 := HX7.out.res.out hO8 (by omega)
          have hqB8 := HQB.out.out hO8 hg1q
          have q8c := hq8.cell
          have q8l := hq8.lt
          have b8l := hqB8.lt
          have b8f := hqB8.frozen s
          have hq9 := hq8.out hO9 (Ne.symm hgqs)
          have h49 := h48.out hO9 (by omega)
          have q9c := hq9.cell
          have q9l := hq9.lt
          have t9c := h49.cell
          have t9l := h49.lt
          have t9f := h49.frozen
          have hput := (h49.put 0 (.slice (some ⟨gq, 0, none⟩) m c1)).cell 0
          have HEND := Lib.hid (HX7.out.ended (i := i) (s := s) HXS.out rfl hO8 hown9 (by omega) (by omega) (by simp [Value.ownBlock]; omega) (by omega) (by omega) hmc hbw)
          have e8 := hO8.cell e1 (by dsimp only; exact hg1q)
          clear hO8 hO9 hq8 h48 hqB8 hq9 h49 hown8 hown9 hgrow8 hat8
          go_wp2_with (first | ((with_reducible show wpPlan _ _ _ _ _ (Act.put _ _ _) _); simp only [List.getElem_toArray, List.getElem_cons_succ, List.getElem_cons_zero, Act.put, List.setIfInBounds_toArray, List.set_cons_zero, List.set_cons_succ]) | ((with_reducible show wpPlan _ _ _ _ _ _ _); first | refine wpPlan_nil ?_ | (refine wpPlan_read0 rfl ?hw rfl (fun _ _ _ => ?_); case hw => ((conv => (lhs; whnf)); first | done | with_reducible rfl)) | (refine wpPlan_read1d rfl ?hw rfl rfl (fun _ _ _ => ?_); case hw => ((conv => (lhs; whnf)); first | done | with_reducible rfl)) | (refine wpPlan_eff rfl ?hw (fun _ _ => ?_); case hw => ((conv => (lhs; whnf)); first | done | with_reducible rfl)) | (refine wpPlan_skip0 rfl ?hw ?_; case hw => ((conv => (lhs; whnf)); first | done | with_reducible rfl)) | (refine wpPlan_skip1d rfl ?hw ?_; case hw => ((conv => (lhs; whnf)); first | done | with_reducible rfl)) | (refine wpPlan_skip2 rfl ?hw ?_; case hw => ((conv => (lhs; whnf)); first | done | with_reducible rfl)) | (refine wpPlan_read1 rfl ?hw rfl (fun _ _ _ => ?_); case hw => ((conv => (lhs; whnf)); first | done | with_reducible rfl)) | refine wpPlan_fork ?_ ?_) | ((with_reducible show Owed _ _ _ _ _ _ _ _ _); first | refine Owed.none_ ?_ | refine Owed.nil_ ?_ | refine Owed.miss rfl ?_ | refine Owed.hit ?_ ?_) | ((with_reducible show Same _ _ _ _ _); intro _; go_simp; done) | (with_reducible exact True.intro))
          refine bodyPost_ret (v := lts (some ⟨gq, 0, none⟩) m c1) (by simp [results, Try.results18, go_sem, hput]) rfl ?_
          exact HEND.out
        · clear hr7a hr7b
          go_wp2_with (first | ((with_reducible show wpPlan _ _ _ ((12, 2, _) :: _) _ _ _); refine wpPlan_eff rfl rfl (fun _ hK => ?_); refine app_blk slArc rfl (World.ownsRow.alloc HOW.out _) rfl (news := [(.int .i64 (ev_)), (.int .i64 (-1))]) ((heap_alloc_at rfl) : Blk _ w7.heap.size _ _) rfl rfl (by simp [Value.oneCell']) (by decide) (by unfold maxLen; omega) (by omega) ?_; intro g8 c8 w8 hown8 hgrow8 hat8; refine hK _ _ ?_; refine Stop7.intro ?_) | ((with_reducible show wpPlan _ _ _ _ _ (Act.put _ _ _) _); simp only [List.getElem_toArray, List.getElem_cons_succ, List.getElem_cons_zero, Act.put, List.setIfInBounds_toArray, List.set_cons_zero, List.set_cons_succ]) | ((with_reducible show wpPlan _ _ _ _ _ _ _); first | refine wpPlan_nil ?_ | (refine wpPlan_read0 rfl ?hw rfl (fun _ _ _ => ?_); case hw => ((conv => (lhs; whnf)); first | done | with_reducible rfl)) | (refine wpPlan_read1d rfl ?hw rfl rfl (fun _ _ _ => ?_); case hw => ((conv => (lhs; whnf)); first | done | with_reducible rfl)) | (refine wpPlan_eff rfl ?hw (fun _ _ => ?_); case hw => ((conv => (lhs; whnf)); first | done | with_reducible rfl)) | (refine wpPlan_skip0 rfl ?hw ?_; case hw => ((conv => (lhs; whnf)); first | done | with_reducible rfl)) | (refine wpPlan_skip1d rfl ?hw ?_; case hw => ((conv => (lhs; whnf)); first | done | with_reducible rfl)) | (refine wpPlan_skip2 rfl ?hw ?_; case hw => ((conv => (lhs; whnf)); first | done | with_reducible rfl)) | (refine wpPlan_read1 rfl ?hw rfl (fun _ _ _ => ?_); case hw => ((conv => (lhs; whnf)); first | done | with_reducible rfl)) | refine wpPlan_fork ?_ ?_) | ((with_reducible show Owed _ _ _ _ _ _ _ _ _); first | refine Owed.none_ ?_ | refine Owed.nil_ ?_ | refine Owed.miss rfl ?_ | refine Owed.hit ?_ ?_) | ((with_reducible show Same _ _ _ _ _); intro _; go_simp; done) | (with_reducible exact True.intro) | ((with_reducible show Code.wp _ (Code.region 17 _ true) _ _ _); refine wp_region_plan [(0, 1, []), (1, 1, []), (2, 0, []), (3, 1, []), (4, 1, []), (5, 0, []), (6, 1, []), (7, 1, []), (8, 1, []), (9, 1, []), (10, 1, []), (11, 2, [0, 1, 3, 4, 6, 7]), (12, 2, [0, 1]), (13, 1, []), (14, 2, [])] (by kernel_rfl) (by kernel_rfl) (by kernel_rfl) ?_))
          have hgrow9 : (World.drew (w7.alloc (.cells #[(.int .i64 (ev_)), (.int .i64 (-1))] 23))).grownBy w8 (some g1) := hgrow8
          have hO8 : Outside (fun k => k = g1) w7 w8 := ((Outside.refl (fun k => k = g1) w7).alloc (.cells #[(.int .i64 (ev_)), (.int .i64 (-1))] 23)).drew.grown hgrow9 (fun z hz => by cases hz; exact .inl rfl)
          clear hgrow9
          have h8g : g1 = g8 ∨ w7.heap.size ≤ g8 := by
            rcases hat8 with h | h
            · exact .inl (by simpa [Value.ownBlock] using h)
            · simp at h; exact .inr (by omega)
          have hown9 : w8.ownsRow 0 23 2 (.slice (some ⟨g8, 0, none⟩) (n1 + 1) c8) (n1 + 1) (cellsOf Arc.cells (l1 ++ [⟨ev_, -1⟩])) := by rw [← arc_snoc]; exact hown8
          unfold Stop7
          have hO9 : Outside (fun k => k = gq) w8 (w8.setCell ⟨gq, s, none⟩ (.slice (some ⟨g8, 0, none⟩) (n1 + 1) c8)) := (Outside.refl (fun k => k = gq) _).setCell (p := ⟨gq, s, none⟩) (.inl rfl) _
          have hq8 := HX7.out.sys.out hO8 hg1s
          have h48 := HX7.out.res.out hO8 (by omega)
          have hqB8 := HQB.out.out hO8 hg1q
          have q8c := hq8.cell
          have q8l := hq8.lt
          have b8l := hqB8.lt
          have b8f := hqB8.frozen s
          have hq9 := hq8.out hO9 (Ne.symm hgqs)
          have h49 := h48.out hO9 (by omega)
          have q9c := hq9.cell
          have q9l := hq9.lt
          have t9c := h49.cell
          have t9l := h49.lt
          have t9f := h49.frozen
          have hput := (h49.put 0 (.slice (some ⟨gq, 0, none⟩) m c1)).cell 0
          have HEND := Lib.hid (HX7.out.ended (i := i) (s := s) HXS.out rfl hO8 hown9 (by omega) (by omega) (by simp [Value.ownBlock]; omega) (by omega) (by omega) hmc hbw)
          have e8 := hO8.cell e1 (by dsimp only; exact hg1q)
          clear hO8 hO9 hq8 h48 hqB8 hq9 h49 hown8 hown9 hgrow8 hat8
          go_wp2_with (first | ((with_reducible show wpPlan _ _ _ _ _ (Act.put _ _ _) _); simp only [List.getElem_toArray, List.getElem_cons_succ, List.getElem_cons_zero, Act.put, List.setIfInBounds_toArray, List.set_cons_zero, List.set_cons_succ]) | ((with_reducible show wpPlan _ _ _ _ _ _ _); first | refine wpPlan_nil ?_ | (refine wpPlan_read0 rfl ?hw rfl (fun _ _ _ => ?_); case hw => ((conv => (lhs; whnf)); first | done | with_reducible rfl)) | (refine wpPlan_read1d rfl ?hw rfl rfl (fun _ _ _ => ?_); case hw => ((conv => (lhs; whnf)); first | done | with_reducible rfl)) | (refine wpPlan_eff rfl ?hw (fun _ _ => ?_); case hw => ((conv => (lhs; whnf)); first | done | with_reducible rfl)) | (refine wpPlan_skip0 rfl ?hw ?_; case hw => ((conv => (lhs; whnf)); first | done | with_reducible rfl)) | (refine wpPlan_skip1d rfl ?hw ?_; case hw => ((conv => (lhs; whnf)); first | done | with_reducible rfl)) | (refine wpPlan_skip2 rfl ?hw ?_; case hw => ((conv => (lhs; whnf)); first | done | with_reducible rfl)) | (refine wpPlan_read1 rfl ?hw rfl (fun _ _ _ => ?_); case hw => ((conv => (lhs; whnf)); first | done | with_reducible rfl)) | refine wpPlan_fork ?_ ?_) | ((with_reducible show Owed _ _ _ _ _ _ _ _ _); first | refine Owed.none_ ?_ | refine Owed.nil_ ?_ | refine Owed.miss rfl ?_ | refine Owed.hit ?_ ?_) | ((with_reducible show Same _ _ _ _ _); intro _; go_simp; done) | (with_reducible exact True.intro))
          refine bodyPost_ret (v := lts (some ⟨gq, 0, none⟩) m c1) (by simp [results, Try.results18, go_sem, hput]) rfl ?_
          exact HEND.out
        · clear hr7a hr7b
          have hown0 : (w7.alloc (.cells #[.int .i64 ev_, .int .i64 to_] 23)).ownsRow 0 23 2 (.slice (some ⟨w7.heap.size, 0, none⟩) 1 1) 1 (cellsOf Arc.cells [⟨ev_, to_⟩]) :=
            ⟨rfl, .inr ⟨w7.heap.size, 1, #[.int .i64 ev_, .int .i64 to_], rfl, Nat.zero_le _, heap_alloc_new w7 _, Nat.le_refl _, by simp [maxLen], rfl, rfl⟩⟩
          have HN0 := Lib.hid hown0
          have HR1 := Lib.hid ((Rd.ofOwn HOW.out).alloc (Nat.le_refl _) (.cells #[.int .i64 ev_, .int .i64 to_] 23))
          clear hown0
          go_wp2_with (first | ((with_reducible show wpPlan _ _ _ ((10, 2, _) :: _) _ _ _); refine wpPlan_eff rfl rfl (fun _ hK => ?_); refine app_opt slArc rfl HN0.out rfl HR1.out (c := k1) rfl (arc_ones _) (by unfold maxLen; omega) (by omega) ?_; intro v8 w8 hown8 hgrow8 hat8; refine hK _ _ ?_; refine Stop7.intro ?_) | ((with_reducible show wpPlan _ _ _ _ _ (Act.put _ _ _) _); simp only [List.getElem_toArray, List.getElem_cons_succ, List.getElem_cons_zero, Act.put, List.setIfInBounds_toArray, List.set_cons_zero, List.set_cons_succ]) | ((with_reducible show wpPlan _ _ _ _ _ _ _); first | refine wpPlan_nil ?_ | (refine wpPlan_read0 rfl ?hw rfl (fun _ _ _ => ?_); case hw => ((conv => (lhs; whnf)); first | done | with_reducible rfl)) | (refine wpPlan_read1d rfl ?hw rfl rfl (fun _ _ _ => ?_); case hw => ((conv => (lhs; whnf)); first | done | with_reducible rfl)) | (refine wpPlan_eff rfl ?hw (fun _ _ => ?_); case hw => ((conv => (lhs; whnf)); first | done | with_reducible rfl)) | (refine wpPlan_skip0 rfl ?hw ?_; case hw => ((conv => (lhs; whnf)); first | done | with_reducible rfl)) | (refine wpPlan_skip1d rfl ?hw ?_; case hw => ((conv => (lhs; whnf)); first | done | with_reducible rfl)) | (refine wpPlan_skip2 rfl ?hw ?_; case hw => ((conv => (lhs; whnf)); first | done | with_reducible rfl)) | (refine wpPlan_read1 rfl ?hw rfl (fun _ _ _ => ?_); case hw => ((conv => (lhs; whnf)); first | done | with_reducible rfl)) | refine wpPlan_fork ?_ ?_) | ((with_reducible show Owed _ _ _ _ _ _ _ _ _); first | refine Owed.none_ ?_ | refine Owed.nil_ ?_ | refine Owed.miss rfl ?_ | refine Owed.hit ?_ ?_) | ((with_reducible show Same _ _ _ _ _); intro _; go_simp; done) | (with_reducible exact True.intro) | ((with_reducible show Code.wp _ (Code.region 19 _ true) _ _ _); refine wp_region_plan [(0, 1, []), (1, 1, []), (2, 0, []), (3, 1, []), (5, 1, []), (6, 1, []), (7, 0, []), (8, 1, []), (9, 1, []), (4, 2, [0, 1, 5, 6, 8, 9]), (10, 2, [0, 1]), (11, 1, []), (12, 2, [])] (by kernel_rfl) (by kernel_rfl) (by kernel_rfl) ?_))
          have hgrow9 : (World.drew (w7.alloc (.cells #[.int .i64 ev_, .int .i64 to_] 23))).grownBy w8 (some w7.heap.size) := hgrow8
          have hO8 : Outside (fun k => k = g1) w7 w8 := (((Outside.refl (fun k => k = w7.heap.size) w7).alloc (.cells #[.int .i64 ev_, .int .i64 to_] 23)).drew.grown hgrow9 (fun z hz => by cases hz; exact .inl rfl)).mono fun k hk e => by have e' : k = w7.heap.size := e; omega
          obtain ⟨g8, c8, rfl, h8g⟩ := own_at hown8 hat8
          have h8g : g1 = g8 ∨ w7.heap.size ≤ g8 := by
            rcases h8g with h | h
            · exact .inr (by have h' : g8 = w7.heap.size := h; omega)
            · simp at h; exact .inr (by omega)
          have hown9 := hown8
          rw [← cellsOf_append] at hown9
          clear hgrow9
          unfold Stop7
          have hO9 : Outside (fun k => k = gq) w8 (w8.setCell ⟨gq, s, none⟩ (.slice (some ⟨g8, 0, none⟩) (1 + n1) c8)) := (Outside.refl (fun k => k = gq) _).setCell (p := ⟨gq, s, none⟩) (.inl rfl) _
          have hq8 := HX7.out.sys.out hO8 hg1s
          have h48 := HX7.out.res.out hO8 (by omega)
          have hqB8 := HQB.out.out hO8 hg1q
          have q8c := hq8.cell
          have q8l := hq8.lt
          have b8l := hqB8.lt
          have b8f := hqB8.frozen s
          have hq9 := hq8.out hO9 (Ne.symm hgqs)
          have h49 := h48.out hO9 (by omega)
          have q9c := hq9.cell
          have q9l := hq9.lt
          have t9c := h49.cell
          have t9l := h49.lt
          have t9f := h49.frozen
          have hput := (h49.put 0 (.slice (some ⟨gq, 0, none⟩) m c1)).cell 0
          have HEND := Lib.hid (HX7.out.ended (i := i) (s := s) HXS.out rfl hO8 hown9 (by omega) (by omega) (by simp [Value.ownBlock]; omega) (by omega) (by omega) hmc hbw)
          have e8 := hO8.cell e1 (by dsimp only; exact hg1q)
          clear hO8 hO9 hq8 h48 hqB8 hq9 h49 hown8 hown9 hgrow8 hat8
          go_wp2_with (first | ((with_reducible show wpPlan _ _ _ _ _ (Act.put _ _ _) _); simp only [List.getElem_toArray, List.getElem_cons_succ, List.getElem_cons_zero, Act.put, List.setIfInBounds_toArray, List.set_cons_zero, List.set_cons_succ]) | ((with_reducible show wpPlan _ _ _ _ _ _ _); first | refine wpPlan_nil ?_ | (refine wpPlan_read0 rfl ?hw rfl (fun _ _ _ => ?_); case hw => ((conv => (lhs; whnf)); first | done | with_reducible rfl)) | (refine wpPlan_read1d rfl ?hw rfl rfl (fun _ _ _ => ?_); case hw => ((conv => (lhs; whnf)); first | done | with_reducible rfl)) | (refine wpPlan_eff rfl ?hw (fun _ _ => ?_); case hw => ((conv => (lhs; whnf)); first | done | with_reducible rfl)) | (refine wpPlan_skip0 rfl ?hw ?_; case hw => ((conv => (lhs; whnf)); first | done | with_reducible rfl)) | (refine wpPlan_skip1d rfl ?hw ?_; case hw => ((conv => (lhs; whnf)); first | done | with_reducible rfl)) | (refine wpPlan_skip2 rfl ?hw ?_; case hw => ((conv => (lhs; whnf)); first | done | with_reducible rfl)) | (refine wpPlan_read1 rfl ?hw rfl (fun _ _ _ => ?_); case hw => ((conv => (lhs; whnf)); first | done | with_reducible rfl)) | refine wpPlan_fork ?_ ?_) | ((with_reducible show Owed _ _ _ _ _ _ _ _ _); first | refine Owed.none_ ?_ | refine Owed.nil_ ?_ | refine Owed.miss rfl ?_ | refine Owed.hit ?_ ?_) | ((with_reducible show Same _ _ _ _ _); intro _; go_simp; done) | (with_reducible exact True.intro))
          refine bodyPost_ret (v := lts (some ⟨gq, 0, none⟩) m c1) (by simp [results, Try.results18, go_sem, hput]) rfl ?_
          exact HEND.out
        · clear hr7a hr7b
          have HR1 := Lib.hid (Rd.ofOwn HOW.out)
          go_wp2_with (first | ((with_reducible show wpPlan _ _ _ ((13, 2, _) :: _) _ _ _); refine wpPlan_eff rfl rfl (fun _ hK => ?_); refine app_opt slArc rfl HOW.out rfl HR1.out (c := k1) rfl (arc_ones _) (by unfold maxLen; omega) (by omega) ?_; intro v8 w8 hown8 hgrow8 hat8; refine hK _ _ ?_; refine Stop7.intro ?_) | ((with_reducible show wpPlan _ _ _ _ _ (Act.put _ _ _) _); simp only [List.getElem_toArray, List.getElem_cons_succ, List.getElem_cons_zero, Act.put, List.setIfInBounds_toArray, List.set_cons_zero, List.set_cons_succ]) | ((with_reducible show wpPlan _ _ _ _ _ _ _); first | refine wpPlan_nil ?_ | (refine wpPlan_read0 rfl ?hw rfl (fun _ _ _ => ?_); case hw => ((conv => (lhs; whnf)); first | done | with_reducible rfl)) | (refine wpPlan_read1d rfl ?hw rfl rfl (fun _ _ _ => ?_); case hw => ((conv => (lhs; whnf)); first | done | with_reducible rfl)) | (refine wpPlan_eff rfl ?hw (fun _ _ => ?_); case hw => ((conv => (lhs; whnf)); first | done | with_reducible rfl)) | (refine wpPlan_skip0 rfl ?hw ?_; case hw => ((conv => (lhs; whnf)); first | done | with_reducible rfl)) | (refine wpPlan_skip1d rfl ?hw ?_; case hw => ((conv => (lhs; whnf)); first | done | with_reducible rfl)) | (refine wpPlan_skip2 rfl ?hw ?_; case hw => ((conv => (lhs; whnf)); first | done | with_reducible rfl)) | (refine wpPlan_read1 rfl ?hw rfl (fun _ _ _ => ?_); case hw => ((conv => (lhs; whnf)); first | done | with_reducible rfl)) | refine wpPlan_fork ?_ ?_) | ((with_reducible show Owed _ _ _ _ _ _ _ _ _); first | refine Owed.none_ ?_ | refine Owed.nil_ ?_ | refine Owed.miss rfl ?_ | refine Owed.hit ?_ ?_) | ((with_reducible show Same _ _ _ _ _); intro _; go_simp; done) | (with_reducible exact True.intro) | ((with_reducible show Code.wp _ (Code.region 7 _ true) _ _ _); refine wp_region_plan [(0, 1, []), (1, 1, []), (2, 0, []), (3, 1, []), (4, 1, []), (5, 0, []), (6, 1, []), (7, 1, []), (8, 1, []), (9, 1, []), (10, 0, []), (11, 1, []), (12, 1, []), (13, 2, [0, 1]), (14, 1, []), (15, 2, [])] (by kernel_rfl) (by kernel_rfl) (by kernel_rfl) ?_))
          have hgrow9 : (World.drew w7).grownBy w8 (some g1) := hgrow8
          have hO8 : Outside (fun k => k = g1) w7 w8 := (Outside.refl (fun k => k = g1) w7).drew.grown hgrow9 (fun z hz => by cases hz; exact .inl rfl)
          obtain ⟨g8, c8, rfl, h8g⟩ := own_at hown8 hat8
          have h8g : g1 = g8 ∨ w7.heap.size ≤ g8 := by
            rcases h8g with h | h
            · exact .inl h.symm
            · simp at h; exact .inr (by omega)
          have hown9 := hown8
          rw [← cellsOf_append] at hown9
          clear hgrow9
          unfold Stop7
          have hO9 : Outside (fun k => k = gq) w8 (w8.setCell ⟨gq, s, none⟩ (.slice (some ⟨g8, 0, none⟩) (n1 + n1) c8)) := (Outside.refl (fun k => k = gq) _).setCell (p := ⟨gq, s, none⟩) (.inl rfl) _
          have hq8 := HX7.out.sys.out hO8 hg1s
          have h48 := HX7.out.res.out hO8 (by omega)
          have hqB8 := HQB.out.out hO8 hg1q
          have q8c := hq8.cell
          have q8l := hq8.lt
          have b8l := hqB8.lt
          have b8f := hqB8.frozen s
          have hq9 := hq8.out hO9 (Ne.symm hgqs)
          have h49 := h48.out hO9 (by omega)
          have q9c := hq9.cell
          have q9l := hq9.lt
          have t9c := h49.cell
          have t9l := h49.lt
          have t9f := h49.frozen
          have hput := (h49.put 0 (.slice (some ⟨gq, 0, none⟩) m c1)).cell 0
          have HEND := Lib.hid (HX7.out.ended (i := i) (s := s) HXS.out rfl hO8 hown9 (by omega) (by omega) (by simp [Value.ownBlock]; omega) (by omega) (by omega) hmc hbw)
          have e8 := hO8.cell e1 (by dsimp only; exact hg1q)
          clear hO8 hO9 hq8 h48 hqB8 hq9 h49 hown8 hown9 hgrow8 hat8
          go_wp2_with (first | ((with_reducible show wpPlan _ _ _ _ _ (Act.put _ _ _) _); simp only [List.getElem_toArray, List.getElem_cons_succ, List.getElem_cons_zero, Act.put, List.setIfInBounds_toArray, List.set_cons_zero, List.set_cons_succ]) | ((with_reducible show wpPlan _ _ _ _ _ _ _); first | refine wpPlan_nil ?_ | (refine wpPlan_read0 rfl ?hw rfl (fun _ _ _ => ?_); case hw => ((conv => (lhs; whnf)); first | done | with_reducible rfl)) | (refine wpPlan_read1d rfl ?hw rfl rfl (fun _ _ _ => ?_); case hw => ((conv => (lhs; whnf)); first | done | with_reducible rfl)) | (refine wpPlan_eff rfl ?hw (fun _ _ => ?_); case hw => ((conv => (lhs; whnf)); first | done | with_reducible rfl)) | (refine wpPlan_skip0 rfl ?hw ?_; case hw => ((conv => (lhs; whnf)); first | done | with_reducible rfl)) | (refine wpPlan_skip1d rfl ?hw ?_; case hw => ((conv => (lhs; whnf)); first | done | with_reducible rfl)) | (refine wpPlan_skip2 rfl ?hw ?_; case hw => ((conv => (lhs; whnf)); first | done | with_reducible rfl)) | (refine wpPlan_read1 rfl ?hw rfl (fun _ _ _ => ?_); case hw => ((conv => (lhs; whnf)); first | done | with_reducible rfl)) | refine wpPlan_fork ?_ ?_) | ((with_reducible show Owed _ _ _ _ _ _ _ _ _); first | refine Owed.none_ ?_ | refine Owed.nil_ ?_ | refine Owed.miss rfl ?_ | refine Owed.hit ?_ ?_) | ((with_reducible show Same _ _ _ _ _); intro _; go_simp; done) | (with_reducible exact True.intro))
          refine bodyPost_ret (v := lts (some ⟨gq, 0, none⟩) m c1) (by simp [results, Try.results18, go_sem, hput]) rfl ?_
          exact HEND.out
    · have HX2' := Lib.hid (HX2.out.drew.alloc (.cells #[.int .i64 0, .int .i64 0] 23))
      have HA2 := Lib.hid (show Blk (World.alloc w2.drew (.cells #[.int .i64 0, .int .i64 0] 23)) w2.heap.size 23 #[.int .i64 0, .int .i64 0] from Blk.new w2 23 #[.int .i64 0, .int .i64 0])
      have HNA := Lib.hid (show w2.heap.size ≠ b by have := HX2.out.drew.tp.blk.lt; omega)
      have HLT := Lib.hid HX2.out.drew.rows.lts
      have HL4 := Lib.hid HX2.out.drew.res.lt
      have HLq := Lib.hid HX2.out.drew.sys.lt
      have HLb := Lib.hid HX2.out.drew.tp.blk.lt
      have HLw := Lib.hid HX2.out.drew.out.size
      refine (event_any B b A n c (i + 1) zs _ HX2'.out.tp hn (by omega)).mono ?_
      rintro e w3 ⟨⟨ev_, rfl, _, _⟩, hT3, hO3⟩
      have HX3 := Lib.hid (HX2'.out.step hT3 hO3)
      have HA3 := Lib.hid (HA2.out.out hO3 HNA.out)
      have hA3c := HA3.out.cell
      have hA3l := HA3.out.lt
      clear hT3 hO3
      have hx4c := HX3.out.res.cell
      have hx4l := HX3.out.res.lt
      have hx4f := HX3.out.res.frozen
      have hxqc := HX3.out.sys.cell
      have hxql := HX3.out.sys.lt
      go_wp2_with (first | ((with_reducible show wpTree _ _ _ _ _ (Act.put _ _ _) _); simp only [List.getElem_toArray, List.getElem_cons_succ, List.getElem_cons_zero, Act.put, List.setIfInBounds_toArray, List.set_cons_zero, List.set_cons_succ]) | ((with_reducible show wpTree _ _ _ _ _ _ _); first | refine wpTree_line ?_ | refine wpTree_alt ?_ ?_ | (refine wpTree_read0 rfl ?hw rfl (fun _ _ _ => ?_); case hw => ((conv => (lhs; whnf)); first | done | with_reducible rfl)) | (refine wpTree_read1 rfl ?hw rfl (fun _ _ _ => ?_); case hw => ((conv => (lhs; whnf)); first | done | with_reducible rfl)) | (refine wpTree_eff rfl ?hw (fun _ _ => ?_); case hw => ((conv => (lhs; whnf)); first | done | with_reducible rfl)) | (refine wpTree_skip0 rfl ?hw ?_; case hw => ((conv => (lhs; whnf)); first | done | with_reducible rfl)) | (refine wpTree_skip1 rfl ?hw ?_; case hw => ((conv => (lhs; whnf)); first | done | with_reducible rfl)) | (refine wpTree_skip2 rfl ?hw ?_; case hw => ((conv => (lhs; whnf)); first | done | with_reducible rfl))) | ((with_reducible show OwedT _ _ _ _ _ _ _ _ _); first | refine OwedT.none_ ?_ | refine OwedT.nil_ ?_ | refine OwedT.miss rfl ?_ | refine OwedT.hit ?_ ?_) | ((with_reducible show wpPlan _ _ _ _ _ (Act.put _ _ _) _); simp only [List.getElem_toArray, List.getElem_cons_succ, List.getElem_cons_zero, Act.put, List.setIfInBounds_toArray, List.set_cons_zero, List.set_cons_succ]) | ((with_reducible show wpPlan _ _ _ _ _ _ _); first | refine wpPlan_nil ?_ | (refine wpPlan_read0 rfl ?hw rfl (fun _ _ _ => ?_); case hw => ((conv => (lhs; whnf)); first | done | with_reducible rfl)) | (refine wpPlan_read1d rfl ?hw rfl rfl (fun _ _ _ => ?_); case hw => ((conv => (lhs; whnf)); first | done | with_reducible rfl)) | (refine wpPlan_eff rfl ?hw (fun _ _ => ?_); case hw => ((conv => (lhs; whnf)); first | done | with_reducible rfl)) | (refine wpPlan_skip0 rfl ?hw ?_; case hw => ((conv => (lhs; whnf)); first | done | with_reducible rfl)) | (refine wpPlan_skip1d rfl ?hw ?_; case hw => ((conv => (lhs; whnf)); first | done | with_reducible rfl)) | (refine wpPlan_skip2 rfl ?hw ?_; case hw => ((conv => (lhs; whnf)); first | done | with_reducible rfl)) | (refine wpPlan_read1 rfl ?hw rfl (fun _ _ _ => ?_); case hw => ((conv => (lhs; whnf)); first | done | with_reducible rfl)) | refine wpPlan_fork ?_ ?_) | ((with_reducible show Owed _ _ _ _ _ _ _ _ _); first | refine Owed.none_ ?_ | refine Owed.nil_ ?_ | refine Owed.miss rfl ?_ | refine Owed.hit ?_ ?_) | ((with_reducible show Same _ _ _ _ _); intro _; go_simp; done) | (with_reducible exact True.intro) | ((with_reducible show Code.wp _ (Code.region 5 _ true) _ _ _); refine wp_region_tree (Tree.read 0 0 (Tree.read 2 0 (Tree.read 3 1 (Tree.read 4 1 (Tree.read 5 1 (Tree.alt (Tree.eff 1 [3, 4, 5] (Tree.alt (Tree.eff 6 [] (Tree.line [(7, 1, []), (8, 2, [3, 4, 5, 7]), (9, 2, [])])) (Tree.eff 8 [3, 4, 5] (Tree.line [(6, 2, []), (7, 1, []), (9, 2, [])])))) (Tree.eff 8 [3, 4, 5] (Tree.line [(1, 2, [3, 4, 5]), (6, 2, []), (7, 1, []), (9, 2, [])])))))))) (by kernel_rfl) (by kernel_rfl) (by kernel_rfl) ?_))
      refine (tnext_any B b A n c (i + 1 + 1) zs m _ HX3.out.tp hn (by omega) (by omega) (by omega)).mono ?_
      rintro e w4 ⟨⟨to_, rfl, _, _⟩, hT4, hO4⟩
      have HX4 := Lib.hid (HX3.out.step hT4 hO4)
      have HA4 := Lib.hid (HA3.out.out hO4 HNA.out)
      have hA4c := HA4.out.cell
      have hA4l := HA4.out.lt
      have hA4f := HA4.out.frozen
      clear hT4 hO4
      have hx4c := HX4.out.res.cell
      have hx4l := HX4.out.res.lt
      have hx4f := HX4.out.res.frozen
      have hxqc := HX4.out.sys.cell
      have hxql := HX4.out.sys.lt
      go_wp2_with (first | ((with_reducible show wpTree _ _ _ _ _ (Act.put _ _ _) _); simp only [List.getElem_toArray, List.getElem_cons_succ, List.getElem_cons_zero, Act.put, List.setIfInBounds_toArray, List.set_cons_zero, List.set_cons_succ]) | ((with_reducible show wpTree _ _ _ _ _ _ _); first | refine wpTree_line ?_ | refine wpTree_alt ?_ ?_ | (refine wpTree_read0 rfl ?hw rfl (fun _ _ _ => ?_); case hw => ((conv => (lhs; whnf)); first | done | with_reducible rfl)) | (refine wpTree_read1 rfl ?hw rfl (fun _ _ _ => ?_); case hw => ((conv => (lhs; whnf)); first | done | with_reducible rfl)) | (refine wpTree_eff rfl ?hw (fun _ _ => ?_); case hw => ((conv => (lhs; whnf)); first | done | with_reducible rfl)) | (refine wpTree_skip0 rfl ?hw ?_; case hw => ((conv => (lhs; whnf)); first | done | with_reducible rfl)) | (refine wpTree_skip1 rfl ?hw ?_; case hw => ((conv => (lhs; whnf)); first | done | with_reducible rfl)) | (refine wpTree_skip2 rfl ?hw ?_; case hw => ((conv => (lhs; whnf)); first | done | with_reducible rfl))) | ((with_reducible show OwedT _ _ _ _ _ _ _ _ _); first | refine OwedT.none_ ?_ | refine OwedT.nil_ ?_ | refine OwedT.miss rfl ?_ | refine OwedT.hit ?_ ?_) | ((with_reducible show wpPlan _ _ _ _ _ (Act.put _ _ _) _); simp only [List.getElem_toArray, List.getElem_cons_succ, List.getElem_cons_zero, Act.put, List.setIfInBounds_toArray, List.set_cons_zero, List.set_cons_succ]) | ((with_reducible show wpPlan _ _ _ _ _ _ _); first | refine wpPlan_nil ?_ | (refine wpPlan_read0 rfl ?hw rfl (fun _ _ _ => ?_); case hw => ((conv => (lhs; whnf)); first | done | with_reducible rfl)) | (refine wpPlan_read1d rfl ?hw rfl rfl (fun _ _ _ => ?_); case hw => ((conv => (lhs; whnf)); first | done | with_reducible rfl)) | (refine wpPlan_eff rfl ?hw (fun _ _ => ?_); case hw => ((conv => (lhs; whnf)); first | done | with_reducible rfl)) | (refine wpPlan_skip0 rfl ?hw ?_; case hw => ((conv => (lhs; whnf)); first | done | with_reducible rfl)) | (refine wpPlan_skip1d rfl ?hw ?_; case hw => ((conv => (lhs; whnf)); first | done | with_reducible rfl)) | (refine wpPlan_skip2 rfl ?hw ?_; case hw => ((conv => (lhs; whnf)); first | done | with_reducible rfl)) | (refine wpPlan_read1 rfl ?hw rfl (fun _ _ _ => ?_); case hw => ((conv => (lhs; whnf)); first | done | with_reducible rfl)) | refine wpPlan_fork ?_ ?_) | ((with_reducible show Owed _ _ _ _ _ _ _ _ _); first | refine Owed.none_ ?_ | refine Owed.nil_ ?_ | refine Owed.miss rfl ?_ | refine Owed.hit ?_ ?_) | ((with_reducible show Same _ _ _ _ _); intro _; go_simp; done) | (with_reducible exact True.intro) | ((with_reducible show Code.wp _ (Code.region 5 _ true) _ _ _); refine wp_region_tree (Tree.read 0 0 (Tree.read 2 0 (Tree.read 3 1 (Tree.read 4 1 (Tree.read 5 1 (Tree.alt (Tree.eff 1 [3, 4, 5] (Tree.alt (Tree.eff 6 [] (Tree.line [(7, 1, []), (8, 2, [3, 4, 5, 7]), (9, 2, [])])) (Tree.eff 8 [3, 4, 5] (Tree.line [(6, 2, []), (7, 1, []), (9, 2, [])])))) (Tree.eff 8 [3, 4, 5] (Tree.line [(1, 2, [3, 4, 5]), (6, 2, []), (7, 1, []), (9, 2, [])])))))))) (by kernel_rfl) (by kernel_rfl) (by kernel_rfl) ?_))
      have HX6 := Lib.hid ((HX4.out.put (ga := w2.heap.size) HLT.out (by have := HL4.out; omega) (by have := HLq.out; omega) (by have := HLb.out; omega) HLw.out 0 (.int .i64 ev_)).put (ga := w2.heap.size) HLT.out (by have := HL4.out; omega) (by have := HLq.out; omega) (by have := HLb.out; omega) HLw.out 1 (.int .i64 to_))
      have HA6 := Lib.hid ((HA4.out.put 0 (.int .i64 ev_)).put 1 (.int .i64 to_))
      refine (tnext_any B b A n c (i + 3) zs 7 _ HX6.out.tp hn (by omega) (by decide) (by decide)).mono ?_
      rintro e w7 ⟨⟨r7, rfl, hr7a, hr7b⟩, hT7, hO7⟩
      have HX7 := Lib.hid (HX6.out.step hT7 hO7)
      have hA7 := HA6.out.out hO7 HNA.out
      have hA7c := hA7.cell
      have hA7l := hA7.lt
      have HA7 := Lib.hid hA7
      clear hT7 hO7 hA7
      have hx4c := HX7.out.res.cell
      have hx4l := HX7.out.res.lt
      have hx4f := HX7.out.res.frozen
      have hxqc := HX7.out.sys.cell
      have hxql := HX7.out.sys.lt
      obtain ⟨g1, n1, k1, l1, hxs, e1, how1, hn1, hW1⟩ := HX7.out.rows.cellAt hs
      obtain ⟨_, _, cur, eq1, hqB, _, hcur, hWq⟩ := HX7.out.rows.at_ (by omega)
      cases eq1
      have HOW := Lib.hid how1
      have HQB := Lib.hid hqB
      have HXS := Lib.hid hxs
      have hg1q : gq ≠ g1 := fun e => own_apart how1 hqB (by decide) (by rw [e]; rfl)
      have hg1s : w1.heap.size ≠ g1 := fun e => own_apart how1 HX7.out.sys (by decide) (by rw [e]; rfl)
      have hgqs : gq ≠ w1.heap.size := fun e => Blk.apart hqB HX7.out.sys (by decide) e
      have hgql := hqB.lt
      have hg1l := own_lt how1 (g := g1) rfl
      clear how1 hqB hxs
      rcases (by omega : r7 = 0 ∨ r7 = 1 ∨ r7 = 2 ∨ r7 = 3 ∨ r7 = 4 ∨ r7 = 5 ∨ r7 = 6) with rfl | rfl | rfl | rfl | rfl | rfl | rfl
      · clear hr7a hr7b
        have hput := (HX7.out.res.put 0 (.slice none 0 0)).cell 0
        have HZ := Lib.hid (And.intro (HX7.out.tp.out ((Outside.refl (fun g => g = w.heap.size + 1) _).setCell (p := ⟨w.heap.size + 1, 0, none⟩) (.inl rfl) (.slice none 0 0)) (by omega) (fun k hk e => by have := HX7.out.lo; omega)) (HX7.out.out.setCell (p := ⟨w.heap.size + 1, 0, none⟩) (.inr (by simp)) (.slice none 0 0)))
        go_wp2_with fail
        refine bodyPost_ret (v := lts none 0 0) (by simp [results, Try.results18, go_sem, hput]) rfl ?_
        exact ⟨⟨_, _, _, [], rfl, RdL.nil, Nat.zero_le _, Nat.zero_le _, fun l hl => (by cases hl), .inl rfl⟩, ⟨i + 4, by omega, HZ.out.1⟩, HZ.out.2⟩
      · clear hr7a hr7b
        go_wp2_with (first | ((with_reducible show wpPlan _ _ _ ((12, 2, _) :: _) _ _ _); refine wpPlan_eff rfl rfl (fun _ hK => ?_); refine app_blk slArc rfl (World.ownsRow.alloc HOW.out _) rfl (news := [(.int .i64 (-1)), (.int .i64 (to_))]) ((heap_alloc_at rfl) : Blk _ w7.heap.size _ _) rfl rfl (by simp [Value.oneCell']) (by decide) (by unfold maxLen; omega) (by omega) ?_; intro g8 c8 w8 hown8 hgrow8 hat8; refine hK _ _ ?_; refine Stop7.intro ?_) | ((with_reducible show wpPlan _ _ _ _ _ (Act.put _ _ _) _); simp only [List.getElem_toArray, List.getElem_cons_succ, List.getElem_cons_zero, Act.put, List.setIfInBounds_toArray, List.set_cons_zero, List.set_cons_succ]) | ((with_reducible show wpPlan _ _ _ _ _ _ _); first | refine wpPlan_nil ?_ | (refine wpPlan_read0 rfl ?hw rfl (fun _ _ _ => ?_); case hw => ((conv => (lhs; whnf)); first | done | with_reducible rfl)) | (refine wpPlan_read1d rfl ?hw rfl rfl (fun _ _ _ => ?_); case hw => ((conv => (lhs; whnf)); first | done | with_reducible rfl)) | (refine wpPlan_eff rfl ?hw (fun _ _ => ?_); case hw => ((conv => (lhs; whnf)); first | done | with_reducible rfl)) | (refine wpPlan_skip0 rfl ?hw ?_; case hw => ((conv => (lhs; whnf)); first | done | with_reducible rfl)) | (refine wpPlan_skip1d rfl ?hw ?_; case hw => ((conv => (lhs; whnf)); first | done | with_reducible rfl)) | (refine wpPlan_skip2 rfl ?hw ?_; case hw => ((conv => (lhs; whnf)); first | done | with_reducible rfl)) | (refine wpPlan_read1 rfl ?hw rfl (fun _ _ _ => ?_); case hw => ((conv => (lhs; whnf)); first | done | with_reducible rfl)) | refine wpPlan_fork ?_ ?_) | ((with_reducible show Owed _ _ _ _ _ _ _ _ _); first | refine Owed.none_ ?_ | refine Owed.nil_ ?_ | refine Owed.miss rfl ?_ | refine Owed.hit ?_ ?_) | ((with_reducible show Same _ _ _ _ _); intro _; go_simp; done) | (with_reducible exact True.intro) | ((with_reducible show Code.wp _ (Code.region 11 _ true) _ _ _); refine wp_region_plan [(0, 1, []), (1, 1, []), (2, 0, []), (3, 1, []), (4, 1, []), (5, 0, []), (6, 1, []), (7, 1, []), (8, 1, []), (9, 1, []), (10, 1, []), (11, 2, [0, 1, 3, 4, 6, 7]), (12, 2, [0, 1]), (13, 1, []), (14, 2, [])] (by kernel_rfl) (by kernel_rfl) (by kernel_rfl) ?_))
        have hgrow9 : (World.drew (w7.alloc (.cells #[(.int .i64 (-1)), (.int .i64 (to_))] 23))).grownBy w8 (some g1) := hgrow8
        have hO8 : Outside (fun k => k = g1) w7 w8 := ((Outside.refl (fun k => k = g1) w7).alloc (.cells #[(.int .i64 (-1)), (.int .i64 (to_))] 23)).drew.grown hgrow9 (fun z hz => by cases hz; exact .inl rfl)
        clear hgrow9
        have h8g : g1 = g8 ∨ w7.heap.size ≤ g8 := by
          rcases hat8 with h | h
          · exact .inl (by simpa [Value.ownBlock] using h)
          · simp at h; exact .inr (by omega)
        have hown9 : w8.ownsRow 0 23 2 (.slice (some ⟨g8, 0, none⟩) (n1 + 1) c8) (n1 + 1) (cellsOf Arc.cells (l1 ++ [⟨-1, to_⟩])) := by rw [← arc_snoc]; exact hown8
        unfold Stop7
        have hO9 : Outside (fun k => k = gq) w8 (w8.setCell ⟨gq, s, none⟩ (.slice (some ⟨g8, 0, none⟩) (n1 + 1) c8)) := (Outside.refl (fun k => k = gq) _).setCell (p := ⟨gq, s, none⟩) (.inl rfl) _
        have hq8 := HX7.out.sys.out hO8 hg1s
        have h48 := HX7.out.res.out hO8 (by omega)
        have hqB8 := HQB.out.out hO8 hg1q
        have q8c := hq8.cell
        have q8l := hq8.lt
        have b8l := hqB8.lt
        have b8f := hqB8.frozen s
        have hq9 := hq8.out hO9 (Ne.symm hgqs)
        have h49 := h48.out hO9 (by omega)
        have q9c := hq9.cell
        have q9l := hq9.lt
        have t9c := h49.cell
        have t9l := h49.lt
        have t9f := h49.frozen
        have hput := (h49.put 0 (.slice (some ⟨gq, 0, none⟩) m c1)).cell 0
        have HEND := Lib.hid (HX7.out.ended (i := i) (s := s) HXS.out rfl hO8 hown9 (by omega) (by omega) (by simp [Value.ownBlock]; omega) (by omega) (by omega) hmc hbw)
        have e8 := hO8.cell e1 (by dsimp only; exact hg1q)
        clear hO8 hO9 hq8 h48 hqB8 hq9 h49 hown8 hown9 hgrow8 hat8
        go_wp2_with (first | ((with_reducible show wpPlan _ _ _ _ _ (Act.put _ _ _) _); simp only [List.getElem_toArray, List.getElem_cons_succ, List.getElem_cons_zero, Act.put, List.setIfInBounds_toArray, List.set_cons_zero, List.set_cons_succ]) | ((with_reducible show wpPlan _ _ _ _ _ _ _); first | refine wpPlan_nil ?_ | (refine wpPlan_read0 rfl ?hw rfl (fun _ _ _ => ?_); case hw => ((conv => (lhs; whnf)); first | done | with_reducible rfl)) | (refine wpPlan_read1d rfl ?hw rfl rfl (fun _ _ _ => ?_); case hw => ((conv => (lhs; whnf)); first | done | with_reducible rfl)) | (refine wpPlan_eff rfl ?hw (fun _ _ => ?_); case hw => ((conv => (lhs; whnf)); first | done | with_reducible rfl)) | (refine wpPlan_skip0 rfl ?hw ?_; case hw => ((conv => (lhs; whnf)); first | done | with_reducible rfl)) | (refine wpPlan_skip1d rfl ?hw ?_; case hw => ((conv => (lhs; whnf)); first | done | with_reducible rfl)) | (refine wpPlan_skip2 rfl ?hw ?_; case hw => ((conv => (lhs; whnf)); first | done | with_reducible rfl)) | (refine wpPlan_read1 rfl ?hw rfl (fun _ _ _ => ?_); case hw => ((conv => (lhs; whnf)); first | done | with_reducible rfl)) | refine wpPlan_fork ?_ ?_) | ((with_reducible show Owed _ _ _ _ _ _ _ _ _); first | refine Owed.none_ ?_ | refine Owed.nil_ ?_ | refine Owed.miss rfl ?_ | refine Owed.hit ?_ ?_) | ((with_reducible show Same _ _ _ _ _); intro _; go_simp; done) | (with_reducible exact True.intro))
        refine bodyPost_ret (v := lts (some ⟨gq, 0, none⟩) m c1) (by simp [results, Try.results18, go_sem, hput]) rfl ?_
        exact HEND.out
      · clear hr7a hr7b
        go_wp2_with (first | ((with_reducible show wpPlan _ _ _ ((12, 2, _) :: _) _ _ _); refine wpPlan_eff rfl rfl (fun _ hK => ?_); refine app_blk slArc rfl (World.ownsRow.alloc HOW.out _) rfl (news := [(.int .i64 (1026)), (.int .i64 (to_))]) ((heap_alloc_at rfl) : Blk _ w7.heap.size _ _) rfl rfl (by simp [Value.oneCell']) (by decide) (by unfold maxLen; omega) (by omega) ?_; intro g8 c8 w8 hown8 hgrow8 hat8; refine hK _ _ ?_; refine Stop7.intro ?_) | ((with_reducible show wpPlan _ _ _ _ _ (Act.put _ _ _) _); simp only [List.getElem_toArray, List.getElem_cons_succ, List.getElem_cons_zero, Act.put, List.setIfInBounds_toArray, List.set_cons_zero, List.set_cons_succ]) | ((with_reducible show wpPlan _ _ _ _ _ _ _); first | refine wpPlan_nil ?_ | (refine wpPlan_read0 rfl ?hw rfl (fun _ _ _ => ?_); case hw => ((conv => (lhs; whnf)); first | done | with_reducible rfl)) | (refine wpPlan_read1d rfl ?hw rfl rfl (fun _ _ _ => ?_); case hw => ((conv => (lhs; whnf)); first | done | with_reducible rfl)) | (refine wpPlan_eff rfl ?hw (fun _ _ => ?_); case hw => ((conv => (lhs; whnf)); first | done | with_reducible rfl)) | (refine wpPlan_skip0 rfl ?hw ?_; case hw => ((conv => (lhs; whnf)); first | done | with_reducible rfl)) | (refine wpPlan_skip1d rfl ?hw ?_; case hw => ((conv => (lhs; whnf)); first | done | with_reducible rfl)) | (refine wpPlan_skip2 rfl ?hw ?_; case hw => ((conv => (lhs; whnf)); first | done | with_reducible rfl)) | (refine wpPlan_read1 rfl ?hw rfl (fun _ _ _ => ?_); case hw => ((conv => (lhs; whnf)); first | done | with_reducible rfl)) | refine wpPlan_fork ?_ ?_) | ((with_reducible show Owed _ _ _ _ _ _ _ _ _); first | refine Owed.none_ ?_ | refine Owed.nil_ ?_ | refine Owed.miss rfl ?_ | refine Owed.hit ?_ ?_) | ((with_reducible show Same _ _ _ _ _); intro _; go_simp; done) | (with_reducible exact True.intro) | ((with_reducible show Code.wp _ (Code.region 13 _ true) _ _ _); refine wp_region_plan [(0, 1, []), (1, 1, []), (2, 0, []), (3, 1, []), (4, 1, []), (5, 0, []), (6, 1, []), (7, 1, []), (8, 1, []), (9, 1, []), (10, 1, []), (11, 2, [0, 1, 3, 4, 6, 7]), (12, 2, [0, 1]), (13, 1, []), (14, 2, [])] (by kernel_rfl) (by kernel_rfl) (by kernel_rfl) ?_))
        have hgrow9 : (World.drew (w7.alloc (.cells #[(.int .i64 (1026)), (.int .i64 (to_))] 23))).grownBy w8 (some g1) := hgrow8
        have hO8 : Outside (fun k => k = g1) w7 w8 := ((Outside.refl (fun k => k = g1) w7).alloc (.cells #[(.int .i64 (1026)), (.int .i64 (to_))] 23)).drew.grown hgrow9 (fun z hz => by cases hz; exact .inl rfl)
        clear hgrow9
        have h8g : g1 = g8 ∨ w7.heap.size ≤ g8 := by
          rcases hat8 with h | h
          · exact .inl (by simpa [Value.ownBlock] using h)
          · simp at h; exact .inr (by omega)
        have hown9 : w8.ownsRow 0 23 2 (.slice (some ⟨g8, 0, none⟩) (n1 + 1) c8) (n1 + 1) (cellsOf Arc.cells (l1 ++ [⟨1026, to_⟩])) := by rw [← arc_snoc]; exact hown8
        unfold Stop7
        have hO9 : Outside (fun k => k = gq) w8 (w8.setCell ⟨gq, s, none⟩ (.slice (some ⟨g8, 0, none⟩) (n1 + 1) c8)) := (Outside.refl (fun k => k = gq) _).setCell (p := ⟨gq, s, none⟩) (.inl rfl) _
        have hq8 := HX7.out.sys.out hO8 hg1s
        have h48 := HX7.out.res.out hO8 (by omega)
        have hqB8 := HQB.out.out hO8 hg1q
        have q8c := hq8.cell
        have q8l := hq8.lt
        have b8l := hqB8.lt
        have b8f := hqB8.frozen s
        have hq9 := hq8.out hO9 (Ne.symm hgqs)
        have h49 := h48.out hO9 (by omega)
        have q9c := hq9.cell
        have q9l := hq9.lt
        have t9c := h49.cell
        have t9l := h49.lt
        have t9f := h49.frozen
        have hput := (h49.put 0 (.slice (some ⟨gq, 0, none⟩) m c1)).cell 0
        have HEND := Lib.hid (HX7.out.ended (i := i) (s := s) HXS.out rfl hO8 hown9 (by omega) (by omega) (by simp [Value.ownBlock]; omega) (by omega) (by omega) hmc hbw)
        have e8 := hO8.cell e1 (by dsimp only; exact hg1q)
        clear hO8 hO9 hq8 h48 hqB8 hq9 h49 hown8 hown9 hgrow8 hat8
        go_wp2_with (first | ((with_reducible show wpPlan _ _ _ _ _ (Act.put _ _ _) _); simp only [List.getElem_toArray, List.getElem_cons_succ, List.getElem_cons_zero, Act.put, List.setIfInBounds_toArray, List.set_cons_zero, List.set_cons_succ]) | ((with_reducible show wpPlan _ _ _ _ _ _ _); first | refine wpPlan_nil ?_ | (refine wpPlan_read0 rfl ?hw rfl (fun _ _ _ => ?_); case hw => ((conv => (lhs; whnf)); first | done | with_reducible rfl)) | (refine wpPlan_read1d rfl ?hw rfl rfl (fun _ _ _ => ?_); case hw => ((conv => (lhs; whnf)); first | done | with_reducible rfl)) | (refine wpPlan_eff rfl ?hw (fun _ _ => ?_); case hw => ((conv => (lhs; whnf)); first | done | with_reducible rfl)) | (refine wpPlan_skip0 rfl ?hw ?_; case hw => ((conv => (lhs; whnf)); first | done | with_reducible rfl)) | (refine wpPlan_skip1d rfl ?hw ?_; case hw => ((conv => (lhs; whnf)); first | done | with_reducible rfl)) | (refine wpPlan_skip2 rfl ?hw ?_; case hw => ((conv => (lhs; whnf)); first | done | with_reducible rfl)) | (refine wpPlan_read1 rfl ?hw rfl (fun _ _ _ => ?_); case hw => ((conv => (lhs; whnf)); first | done | with_reducible rfl)) | refine wpPlan_fork ?_ ?_) | ((with_reducible show Owed _ _ _ _ _ _ _ _ _); first | refine Owed.none_ ?_ | refine Owed.nil_ ?_ | refine Owed.miss rfl ?_ | refine Owed.hit ?_ ?_) | ((with_reducible show Same _ _ _ _ _); intro _; go_simp; done) | (with_reducible exact True.intro))
        refine bodyPost_ret (v := lts (some ⟨gq, 0, none⟩) m c1) (by simp [results, Try.results18, go_sem, hput]) rfl ?_
        exact HEND.out
      · clear hr7a hr7b
        go_wp2_with (first | ((with_reducible show wpPlan _ _ _ ((15, 2, _) :: _) _ _ _); refine wpPlan_eff rfl rfl (fun _ hK => ?_); refine app_blk slArc rfl (World.ownsRow.alloc HOW.out _) rfl (news := [(.int .i64 (ev_)), (.int .i64 (m))]) ((heap_alloc_at rfl) : Blk _ w7.heap.size _ _) rfl rfl (by simp [Value.oneCell']) (by decide) (by unfold maxLen; omega) (by omega) ?_; intro g8 c8 w8 hown8 hgrow8 hat8; refine hK _ _ ?_; refine Stop7.intro ?_) | ((with_reducible show wpPlan _ _ _ _ _ (Act.put _ _ _) _); simp only [List.getElem_toArray, List.getElem_cons_succ, List.getElem_cons_zero, Act.put, List.setIfInBounds_toArray, List.set_cons_zero, List.set_cons_succ]) | ((with_reducible show wpPlan _ _ _ _ _ _ _); first | refine wpPlan_nil ?_ | (refine wpPlan_read0 rfl ?hw rfl (fun _ _ _ => ?_); case hw => ((conv => (lhs; whnf)); first | done | with_reducible rfl)) | (refine wpPlan_read1d rfl ?hw rfl rfl (fun _ _ _ => ?_); case hw => ((conv => (lhs; whnf)); first | done | with_reducible rfl)) | (refine wpPlan_eff rfl ?hw (fun _ _ => ?_); case hw => ((conv => (lhs; whnf)); first | done | with_reducible rfl)) | (refine wpPlan_skip0 rfl ?hw ?_; case hw => ((conv => (lhs; whnf)); first | done | with_reducible rfl)) | (refine wpPlan_skip1d rfl ?hw ?_; case hw => ((conv => (lhs; whnf)); first | done | with_reducible rfl)) | (refine wpPlan_skip2 rfl ?hw ?_; case hw => ((conv => (lhs; whnf)); first | done | with_reducible rfl)) | (refine wpPlan_read1 rfl ?hw rfl (fun _ _ _ => ?_); case hw => ((conv => (lhs; whnf)); first | done | with_reducible rfl)) | refine wpPlan_fork ?_ ?_) | ((with_reducible show Owed _ _ _ _ _ _ _ _ _); first | refine Owed.none_ ?_ | refine Owed.nil_ ?_ | refine Owed.miss rfl ?_ | refine Owed.hit ?_ ?_) | ((with_reducible show Same _ _ _ _ _); intro _; go_simp; done) | (with_reducible exact True.intro) | ((with_reducible show Code.wp _ (Code.region 15 _ true) _ _ _); refine wp_region_plan [(0, 1, []), (1, 1, []), (2, 0, []), (3, 1, []), (4, 1, []), (5, 0, []), (6, 1, []), (7, 1, []), (8, 1, []), (9, 1, []), (10, 1, []), (11, 1, []), (12, 1, []), (13, 1, []), (14, 2, [0, 1, 3, 4, 6, 7]), (15, 2, [0, 1]), (16, 1, []), (17, 2, [])] (by kernel_rfl) (by kernel_rfl) (by kernel_rfl) ?_))
        have hgrow9 : (World.drew (w7.alloc (.cells #[(.int .i64 (ev_)), (.int .i64 (m))] 23))).grownBy w8 (some g1) := hgrow8
        have hO8 : Outside (fun k => k = g1) w7 w8 := ((Outside.refl (fun k => k = g1) w7).alloc (.cells #[(.int .i64 (ev_)), (.int .i64 (m))] 23)).drew.grown hgrow9 (fun z hz => by cases hz; exact .inl rfl)
        clear hgrow9
        have h8g : g1 = g8 ∨ w7.heap.size ≤ g8 := by
          rcases hat8 with h | h
          · exact .inl (by simpa [Value.ownBlock] using h)
          · simp at h; exact .inr (by omega)
        have hown9 : w8.ownsRow 0 23 2 (.slice (some ⟨g8, 0, none⟩) (n1 + 1) c8) (n1 + 1) (cellsOf Arc.cells (l1 ++ [⟨ev_, m⟩])) := by rw [← arc_snoc]; exact hown8
        unfold Stop7
        have hO9 : Outside (fun k => k = gq) w8 (w8.setCell ⟨gq, s, none⟩ (.slice (some ⟨g8, 0, none⟩) (n1 + 1) c8)) := (Outside.refl (fun k => k = gq) _).setCell (p := ⟨gq, s, none⟩) (.inl rfl) _
        have hq8 := HX7.out.sys.out hO8 hg1s
        have h48 := HX7.out.res.out hO8 (by omega)
        have hqB8 := HQB.out.out hO8 hg1q
        have q8c := hq8.cell
        have q8l := hq8.lt
        have b8l := hqB8.lt
        have b8f := hqB8.frozen s
        have hq9 := hq8.out hO9 (Ne.symm hgqs)
        have h49 := h48.out hO9 (by omega)
        have q9c := hq9.cell
        have q9l := hq9.lt
        have t9c := h49.cell
        have t9l := h49.lt
        have t9f := h49.frozen
        have hput := (h49.put 0 (.slice (some ⟨gq, 0, none⟩) m c1)).cell 0
        have HEND := Lib.hid (HX7.out.ended (i := i) (s := s) HXS.out rfl hO8 hown9 (by omega) (by omega) (by simp [Value.ownBlock]; omega) (by omega) (by omega) hmc hbw)
        have e8 := hO8.cell e1 (by dsimp only; exact hg1q)
        clear hO8 hO9 hq8 h48 hqB8 hq9 h49 hown8 hown9 hgrow8 hat8
        go_wp2_with (first | ((with_reducible show wpPlan _ _ _ _ _ (Act.put _ _ _) _); simp only [List.getElem_toArray, List.getElem_cons_succ, List.getElem_cons_zero, Act.put, List.setIfInBounds_toArray, List.set_cons_zero, List.set_cons_succ]) | ((with_reducible show wpPlan _ _ _ _ _ _ _); first | refine wpPlan_nil ?_ | (refine wpPlan_read0 rfl ?hw rfl (fun _ _ _ => ?_); case hw => ((conv => (lhs; whnf)); first | done | with_reducible rfl)) | (refine wpPlan_read1d rfl ?hw rfl rfl (fun _ _ _ => ?_); case hw => ((conv => (lhs; whnf)); first | done | with_reducible rfl)) | (refine wpPlan_eff rfl ?hw (fun _ _ => ?_); case hw => ((conv => (lhs; whnf)); first | done | with_reducible rfl)) | (refine wpPlan_skip0 rfl ?hw ?_; case hw => ((conv => (lhs; whnf)); first | done | with_reducible rfl)) | (refine wpPlan_skip1d rfl ?hw ?_; case hw => ((conv => (lhs; whnf)); first | done | with_reducible rfl)) | (refine wpPlan_skip2 rfl ?hw ?_; case hw => ((conv => (lhs; whnf)); first | done | with_reducible rfl)) | (refine wpPlan_read1 rfl ?hw rfl (fun _ _ _ => ?_); case hw => ((conv => (lhs; whnf)); first | done | with_reducible rfl)) | refine wpPlan_fork ?_ ?_) | ((with_reducible show Owed _ _ _ _ _ _ _ _ _); first | refine Owed.none_ ?_ | refine Owed.nil_ ?_ | refine Owed.miss rfl ?_ | refine Owed.hit ?_ ?_) | ((with_reducible show Same _ _ _ _ _); intro _; go_simp; done) | (with_reducible exact True.intro))
        refine bodyPost_ret (v := lts (some ⟨gq, 0, none⟩) m c1) (by simp [results, Try.results18, go_sem, hput]) rfl ?_
        exact HEND.out
      · clear hr7a hr7b
        go_wp2_with (first | ((with_reducible show wpPlan _ _ _ ((12, 2, _) :: _) _ _ _); refine wpPlan_eff rfl rfl (fun _ hK => ?_); refine app_blk slArc rfl (World.ownsRow.alloc HOW.out _) rfl (news := [(.int .i64 (ev_)), (.int .i64 (-1))]) ((heap_alloc_at rfl) : Blk _ w7.heap.size _ _) rfl rfl (by simp [Value.oneCell']) (by decide) (by unfold maxLen; omega) (by omega) ?_; intro g8 c8 w8 hown8 hgrow8 hat8; refine hK _ _ ?_; refine Stop7.intro ?_) | ((with_reducible show wpPlan _ _ _ _ _ (Act.put _ _ _) _); simp only [List.getElem_toArray, List.getElem_cons_succ, List.getElem_cons_zero, Act.put, List.setIfInBounds_toArray, List.set_cons_zero, List.set_cons_succ]) | ((with_reducible show wpPlan _ _ _ _ _ _ _); first | refine wpPlan_nil ?_ | (refine wpPlan_read0 rfl ?hw rfl (fun _ _ _ => ?_); case hw => ((conv => (lhs; whnf)); first | done | with_reducible rfl)) | (refine wpPlan_read1d rfl ?hw rfl rfl (fun _ _ _ => ?_); case hw => ((conv => (lhs; whnf)); first | done | with_reducible rfl)) | (refine wpPlan_eff rfl ?hw (fun _ _ => ?_); case hw => ((conv => (lhs; whnf)); first | done | with_reducible rfl)) | (refine wpPlan_skip0 rfl ?hw ?_; case hw => ((conv => (lhs; whnf)); first | done | with_reducible rfl)) | (refine wpPlan_skip1d rfl ?hw ?_; case hw => ((conv => (lhs; whnf)); first | done | with_reducible rfl)) | (refine wpPlan_skip2 rfl ?hw ?_; case hw => ((conv => (lhs; whnf)); first | done | with_reducible rfl)) | (refine wpPlan_read1 rfl ?hw rfl (fun _ _ _ => ?_); case hw => ((conv => (lhs; whnf)); first | done | with_reducible rfl)) | refine wpPlan_fork ?_ ?_) | ((with_reducible show Owed _ _ _ _ _ _ _ _ _); first | refine Owed.none_ ?_ | refine Owed.nil_ ?_ | refine Owed.miss rfl ?_ | refine Owed.hit ?_ ?_) | ((with_reducible show Same _ _ _ _ _); intro _; go_simp; done) | (with_reducible exact True.intro) | ((with_reducible show Code.wp _ (Code.region 17 _ true) _ _ _); refine wp_region_plan [(0, 1, []), (1, 1, []), (2, 0, []), (3, 1, []), (4, 1, []), (5, 0, []), (6, 1, []), (7, 1, []), (8, 1, []), (9, 1, []), (10, 1, []), (11, 2, [0, 1, 3, 4, 6, 7]), (12, 2, [0, 1]), (13, 1, []), (14, 2, [])] (by kernel_rfl) (by kernel_rfl) (by kernel_rfl) ?_))
        have hgrow9 : (World.drew (w7.alloc (.cells #[(.int .i64 (ev_)), (.int .i64 (-1))] 23))).grownBy w8 (some g1) := hgrow8
        have hO8 : Outside (fun k => k = g1) w7 w8 := ((Outside.refl (fun k => k = g1) w7).alloc (.cells #[(.int .i64 (ev_)), (.int .i64 (-1))] 23)).drew.grown hgrow9 (fun z hz => by cases hz; exact .inl rfl)
        clear hgrow9
        have h8g : g1 = g8 ∨ w7.heap.size ≤ g8 := by
          rcases hat8 with h | h
          · exact .inl (by simpa [Value.ownBlock] using h)
          · simp at h; exact .inr (by omega)
        have hown9 : w8.ownsRow 0 23 2 (.slice (some ⟨g8, 0, none⟩) (n1 + 1) c8) (n1 + 1) (cellsOf Arc.cells (l1 ++ [⟨ev_, -1⟩])) := by rw [← arc_snoc]; exact hown8
        unfold Stop7
        have hO9 : Outside (fun k => k = gq) w8 (w8.setCell ⟨gq, s, none⟩ (.slice (some ⟨g8, 0, none⟩) (n1 + 1) c8)) := (Outside.refl (fun k => k = gq) _).setCell (p := ⟨gq, s, none⟩) (.inl rfl) _
        have hq8 := HX7.out.sys.out hO8 hg1s
        have h48 := HX7.out.res.out hO8 (by omega)
        have hqB8 := HQB.out.out hO8 hg1q
        have q8c := hq8.cell
        have q8l := hq8.lt
        have b8l := hqB8.lt
        have b8f := hqB8.frozen s
        have hq9 := hq8.out hO9 (Ne.symm hgqs)
        have h49 := h48.out hO9 (by omega)
        have q9c := hq9.cell
        have q9l := hq9.lt
        have t9c := h49.cell
        have t9l := h49.lt
        have t9f := h49.frozen
        have hput := (h49.put 0 (.slice (some ⟨gq, 0, none⟩) m c1)).cell 0
        have HEND := Lib.hid (HX7.out.ended (i := i) (s := s) HXS.out rfl hO8 hown9 (by omega) (by omega) (by simp [Value.ownBlock]; omega) (by omega) (by omega) hmc hbw)
        have e8 := hO8.cell e1 (by dsimp only; exact hg1q)
        clear hO8 hO9 hq8 h48 hqB8 hq9 h49 hown8 hown9 hgrow8 hat8
        go_wp2_with (first | ((with_reducible show wpPlan _ _ _ _ _ (Act.put _ _ _) _); simp only [List.getElem_toArray, List.getElem_cons_succ, List.getElem_cons_zero, Act.put, List.setIfInBounds_toArray, List.set_cons_zero, List.set_cons_succ]) | ((with_reducible show wpPlan _ _ _ _ _ _ _); first | refine wpPlan_nil ?_ | (refine wpPlan_read0 rfl ?hw rfl (fun _ _ _ => ?_); case hw => ((conv => (lhs; whnf)); first | done | with_reducible rfl)) | (refine wpPlan_read1d rfl ?hw rfl rfl (fun _ _ _ => ?_); case hw => ((conv => (lhs; whnf)); first | done | with_reducible rfl)) | (refine wpPlan_eff rfl ?hw (fun _ _ => ?_); case hw => ((conv => (lhs; whnf)); first | done | with_reducible rfl)) | (refine wpPlan_skip0 rfl ?hw ?_; case hw => ((conv => (lhs; whnf)); first | done | with_reducible rfl)) | (refine wpPlan_skip1d rfl ?hw ?_; case hw => ((conv => (lhs; whnf)); first | done | with_reducible rfl)) | (refine wpPlan_skip2 rfl ?hw ?_; case hw => ((conv => (lhs; whnf)); first | done | with_reducible rfl)) | (refine wpPlan_read1 rfl ?hw rfl (fun _ _ _ => ?_); case hw => ((conv => (lhs; whnf)); first | done | with_reducible rfl)) | refine wpPlan_fork ?_ ?_) | ((with_reducible show Owed _ _ _ _ _ _ _ _ _); first | refine Owed.none_ ?_ | refine Owed.nil_ ?_ | refine Owed.miss rfl ?_ | refine Owed.hit ?_ ?_) | ((with_reducible show Same _ _ _ _ _); intro _; go_simp; done) | (with_reducible exact True.intro))
        refine bodyPost_ret (v := lts (some ⟨gq, 0, none⟩) m c1) (by simp [results, Try.results18, go_sem, hput]) rfl ?_
        exact HEND.out
      · clear hr7a hr7b
        have hown0 : (w7.alloc (.cells #[.int .i64 ev_, .int .i64 to_] 23)).ownsRow 0 23 2 (.slice (some ⟨w7.heap.size, 0, none⟩) 1 1) 1 (cellsOf Arc.cells [⟨ev_, to_⟩]) :=
          ⟨rfl, .inr ⟨w7.heap.size, 1, #[.int .i64 ev_, .int .i64 to_], rfl, Nat.zero_le _, heap_alloc_new w7 _, Nat.le_refl _, by simp [maxLen], rfl, rfl⟩⟩
        have HN0 := Lib.hid hown0
        have HR1 := Lib.hid ((Rd.ofOwn HOW.out).alloc (Nat.le_refl _) (.cells #[.int .i64 ev_, .int .i64 to_] 23))
        clear hown0
        go_wp2_with (first | ((with_reducible show wpPlan _ _ _ ((10, 2, _) :: _) _ _ _); refine wpPlan_eff rfl rfl (fun _ hK => ?_); refine app_opt slArc rfl HN0.out rfl HR1.out (c := k1) rfl (arc_ones _) (by unfold maxLen; omega) (by omega) ?_; intro v8 w8 hown8 hgrow8 hat8; refine hK _ _ ?_; refine Stop7.intro ?_) | ((with_reducible show wpPlan _ _ _ _ _ (Act.put _ _ _) _); simp only [List.getElem_toArray, List.getElem_cons_succ, List.getElem_cons_zero, Act.put, List.setIfInBounds_toArray, List.set_cons_zero, List.set_cons_succ]) | ((with_reducible show wpPlan _ _ _ _ _ _ _); first | refine wpPlan_nil ?_ | (refine wpPlan_read0 rfl ?hw rfl (fun _ _ _ => ?_); case hw => ((conv => (lhs; whnf)); first | done | with_reducible rfl)) | (refine wpPlan_read1d rfl ?hw rfl rfl (fun _ _ _ => ?_); case hw => ((conv => (lhs; whnf)); first | done | with_reducible rfl)) | (refine wpPlan_eff rfl ?hw (fun _ _ => ?_); case hw => ((conv => (lhs; whnf)); first | done | with_reducible rfl)) | (refine wpPlan_skip0 rfl ?hw ?_; case hw => ((conv => (lhs; whnf)); first | done | with_reducible rfl)) | (refine wpPlan_skip1d rfl ?hw ?_; case hw => ((conv => (lhs; whnf)); first | done | with_reducible rfl)) | (refine wpPlan_skip2 rfl ?hw ?_; case hw => ((conv => (lhs; whnf)); first | done | with_reducible rfl)) | (refine wpPlan_read1 rfl ?hw rfl (fun _ _ _ => ?_); case hw => ((conv => (lhs; whnf)); first | done | with_reducible rfl)) | refine wpPlan_fork ?_ ?_) | ((with_reducible show Owed _ _ _ _ _ _ _ _ _); first | refine Owed.none_ ?_ | refine Owed.nil_ ?_ | refine Owed.miss rfl ?_ | refine Owed.hit ?_ ?_) | ((with_reducible show Same _ _ _ _ _); intro _; go_simp; done) | (with_reducible exact True.intro) | ((with_reducible show Code.wp _ (Code.region 19 _ true) _ _ _); refine wp_region_plan [(0, 1, []), (1, 1, []), (2, 0, []), (3, 1, []), (5, 1, []), (6, 1, []), (7, 0, []), (8, 1, []), (9, 1, []), (4, 2, [0, 1, 5, 6, 8, 9]), (10, 2, [0, 1]), (11, 1, []), (12, 2, [])] (by kernel_rfl) (by kernel_rfl) (by kernel_rfl) ?_))
        have hgrow9 : (World.drew (w7.alloc (.cells #[.int .i64 ev_, .int .i64 to_] 23))).grownBy w8 (some w7.heap.size) := hgrow8
        have hO8 : Outside (fun k => k = g1) w7 w8 := (((Outside.refl (fun k => k = w7.heap.size) w7).alloc (.cells #[.int .i64 ev_, .int .i64 to_] 23)).drew.grown hgrow9 (fun z hz => by cases hz; exact .inl rfl)).mono fun k hk e => by have e' : k = w7.heap.size := e; omega
        obtain ⟨g8, c8, rfl, h8g⟩ := own_at hown8 hat8
        have h8g : g1 = g8 ∨ w7.heap.size ≤ g8 := by
          rcases h8g with h | h
          · exact .inr (by have h' : g8 = w7.heap.size := h; omega)
          · simp at h; exact .inr (by omega)
        have hown9 := hown8
        rw [← cellsOf_append] at hown9
        clear hgrow9
        unfold Stop7
        have hO9 : Outside (fun k => k = gq) w8 (w8.setCell ⟨gq, s, none⟩ (.slice (some ⟨g8, 0, none⟩) (1 + n1) c8)) := (Outside.refl (fun k => k = gq) _).setCell (p := ⟨gq, s, none⟩) (.inl rfl) _
        have hq8 := HX7.out.sys.out hO8 hg1s
        have h48 := HX7.out.res.out hO8 (by omega)
        have hqB8 := HQB.out.out hO8 hg1q
        have q8c := hq8.cell
        have q8l := hq8.lt
        have b8l := hqB8.lt
        have b8f := hqB8.frozen s
        have hq9 := hq8.out hO9 (Ne.symm hgqs)
        have h49 := h48.out hO9 (by omega)
        have q9c := hq9.cell
        have q9l := hq9.lt
        have t9c := h49.cell
        have t9l := h49.lt
        have t9f := h49.frozen
        have hput := (h49.put 0 (.slice (some ⟨gq, 0, none⟩) m c1)).cell 0
        have HEND := Lib.hid (HX7.out.ended (i := i) (s := s) HXS.out rfl hO8 hown9 (by omega) (by omega) (by simp [Value.ownBlock]; omega) (by omega) (by omega) hmc hbw)
        have e8 := hO8.cell e1 (by dsimp only; exact hg1q)
        clear hO8 hO9 hq8 h48 hqB8 hq9 h49 hown8 hown9 hgrow8 hat8
        go_wp2_with (first | ((with_reducible show wpPlan _ _ _ _ _ (Act.put _ _ _) _); simp only [List.getElem_toArray, List.getElem_cons_succ, List.getElem_cons_zero, Act.put, List.setIfInBounds_toArray, List.set_cons_zero, List.set_cons_succ]) | ((with_reducible show wpPlan _ _ _ _ _ _ _); first | refine wpPlan_nil ?_ | (refine wpPlan_read0 rfl ?hw rfl (fun _ _ _ => ?_); case hw => ((conv => (lhs; whnf)); first | done | with_reducible rfl)) | (refine wpPlan_read1d rfl ?hw rfl rfl (fun _ _ _ => ?_); case hw => ((conv => (lhs; whnf)); first | done | with_reducible rfl)) | (refine wpPlan_eff rfl ?hw (fun _ _ => ?_); case hw => ((conv => (lhs; whnf)); first | done | with_reducible rfl)) | (refine wpPlan_skip0 rfl ?hw ?_; case hw => ((conv => (lhs; whnf)); first | done | with_reducible rfl)) | (refine wpPlan_skip1d rfl ?hw ?_; case hw => ((conv => (lhs; whnf)); first | done | with_reducible rfl)) | (refine wpPlan_skip2 rfl ?hw ?_; case hw => ((conv => (lhs; whnf)); first | done | with_reducible rfl)) | (refine wpPlan_read1 rfl ?hw rfl (fun _ _ _ => ?_); case hw => ((conv => (lhs; whnf)); first | done | with_reducible rfl)) | refine wpPlan_fork ?_ ?_) | ((with_reducible show Owed _ _ _ _ _ _ _ _ _); first | refine Owed.none_ ?_ | refine Owed.nil_ ?_ | refine Owed.miss rfl ?_ | refine Owed.hit ?_ ?_) | ((with_reducible show Same _ _ _ _ _); intro _; go_simp; done) | (with_reducible exact True.intro))
        refine bodyPost_ret (v := lts (some ⟨gq, 0, none⟩) m c1) (by simp [results, Try.results18, go_sem, hput]) rfl ?_
        exact HEND.out
      · clear hr7a hr7b
        have HR1 := Lib.hid (Rd.ofOwn HOW.out)
        go_wp2_with (first | ((with_reducible show wpPlan _ _ _ ((13, 2, _) :: _) _ _ _); refine wpPlan_eff rfl rfl (fun _ hK => ?_); refine app_opt slArc rfl HOW.out rfl HR1.out (c := k1) rfl (arc_ones _) (by unfold maxLen; omega) (by omega) ?_; intro v8 w8 hown8 hgrow8 hat8; refine hK _ _ ?_; refine Stop7.intro ?_) | ((with_reducible show wpPlan _ _ _ _ _ (Act.put _ _ _) _); simp only [List.getElem_toArray, List.getElem_cons_succ, List.getElem_cons_zero, Act.put, List.setIfInBounds_toArray, List.set_cons_zero, List.set_cons_succ]) | ((with_reducible show wpPlan _ _ _ _ _ _ _); first | refine wpPlan_nil ?_ | (refine wpPlan_read0 rfl ?hw rfl (fun _ _ _ => ?_); case hw => ((conv => (lhs; whnf)); first | done | with_reducible rfl)) | (refine wpPlan_read1d rfl ?hw rfl rfl (fun _ _ _ => ?_); case hw => ((conv => (lhs; whnf)); first | done | with_reducible rfl)) | (refine wpPlan_eff rfl ?hw (fun _ _ => ?_); case hw => ((conv => (lhs; whnf)); first | done | with_reducible rfl)) | (refine wpPlan_skip0 rfl ?hw ?_; case hw => ((conv => (lhs; whnf)); first | done | with_reducible rfl)) | (refine wpPlan_skip1d rfl ?hw ?_; case hw => ((conv => (lhs; whnf)); first | done | with_reducible rfl)) | (refine wpPlan_skip2 rfl ?hw ?_; case hw => ((conv => (lhs; whnf)); first | done | with_reducible rfl)) | (refine wpPlan_read1 rfl ?hw rfl (fun _ _ _ => ?_); case hw => ((conv => (lhs; whnf)); first | done | with_reducible rfl)) | refine wpPlan_fork ?_ ?_) | ((with_reducible show Owed _ _ _ _ _ _ _ _ _); first | refine Owed.none_ ?_ | refine Owed.nil_ ?_ | refine Owed.miss rfl ?_ | refine Owed.hit ?_ ?_) | ((with_reducible show Same _ _ _ _ _); intro _; go_simp; done) | (with_reducible exact True.intro) | ((with_reducible show Code.wp _ (Code.region 7 _ true) _ _ _); refine wp_region_plan [(0, 1, []), (1, 1, []), (2, 0, []), (3, 1, []), (4, 1, []), (5, 0, []), (6, 1, []), (7, 1, []), (8, 1, []), (9, 1, []), (10, 0, []), (11, 1, []), (12, 1, []), (13, 2, [0, 1]), (14, 1, []), (15, 2, [])] (by kernel_rfl) (by kernel_rfl) (by kernel_rfl) ?_))
        have hgrow9 : (World.drew w7).grownBy w8 (some g1) := hgrow8
        have hO8 : Outside (fun k => k = g1) w7 w8 := (Outside.refl (fun k => k = g1) w7).drew.grown hgrow9 (fun z hz => by cases hz; exact .inl rfl)
        obtain ⟨g8, c8, rfl, h8g⟩ := own_at hown8 hat8
        have h8g : g1 = g8 ∨ w7.heap.size ≤ g8 := by
          rcases h8g with h | h
          · exact .inl h.symm
          · simp at h; exact .inr (by omega)
        have hown9 := hown8
        rw [← cellsOf_append] at hown9
        clear hgrow9
        unfold Stop7
        have hO9 : Outside (fun k => k = gq) w8 (w8.setCell ⟨gq, s, none⟩ (.slice (some ⟨g8, 0, none⟩) (n1 + n1) c8)) := (Outside.refl (fun k => k = gq) _).setCell (p := ⟨gq, s, none⟩) (.inl rfl) _
        have hq8 := HX7.out.sys.out hO8 hg1s
        have h48 := HX7.out.res.out hO8 (by omega)
        have hqB8 := HQB.out.out hO8 hg1q
        have q8c := hq8.cell
        have q8l := hq8.lt
        have b8l := hqB8.lt
        have b8f := hqB8.frozen s
        have hq9 := hq8.out hO9 (Ne.symm hgqs)
        have h49 := h48.out hO9 (by omega)
        have q9c := hq9.cell
        have q9l := hq9.lt
        have t9c := h49.cell
        have t9l := h49.lt
        have t9f := h49.frozen
        have hput := (h49.put 0 (.slice (some ⟨gq, 0, none⟩) m c1)).cell 0
        have HEND := Lib.hid (HX7.out.ended (i := i) (s := s) HXS.out rfl hO8 hown9 (by omega) (by omega) (by simp [Value.ownBlock]; omega) (by omega) (by omega) hmc hbw)
        have e8 := hO8.cell e1 (by dsimp only; exact hg1q)
        clear hO8 hO9 hq8 h48 hqB8 hq9 h49 hown8 hown9 hgrow8 hat8
        go_wp2_with (first | ((with_reducible show wpPlan _ _ _ _ _ (Act.put _ _ _) _); simp only [List.getElem_toArray, List.getElem_cons_succ, List.getElem_cons_zero, Act.put, List.setIfInBounds_toArray, List.set_cons_zero, List.set_cons_succ]) | ((with_reducible show wpPlan _ _ _ _ _ _ _); first | refine wpPlan_nil ?_ | (refine wpPlan_read0 rfl ?hw rfl (fun _ _ _ => ?_); case hw => ((conv => (lhs; whnf)); first | done | with_reducible rfl)) | (refine wpPlan_read1d rfl ?hw rfl rfl (fun _ _ _ => ?_); case hw => ((conv => (lhs; whnf)); first | done | with_reducible rfl)) | (refine wpPlan_eff rfl ?hw (fun _ _ => ?_); case hw => ((conv => (lhs; whnf)); first | done | with_reducible rfl)) | (refine wpPlan_skip0 rfl ?hw ?_; case hw => ((conv => (lhs; whnf)); first | done | with_reducible rfl)) | (refine wpPlan_skip1d rfl ?hw ?_; case hw => ((conv => (lhs; whnf)); first | done | with_reducible rfl)) | (refine wpPlan_skip2 rfl ?hw ?_; case hw => ((conv => (lhs; whnf)); first | done | with_reducible rfl)) | (refine wpPlan_read1 rfl ?hw rfl (fun _ _ _ => ?_); case hw => ((conv => (lhs; whnf)); first | done | with_reducible rfl)) | refine wpPlan_fork ?_ ?_) | ((with_reducible show Owed _ _ _ _ _ _ _ _ _); first | refine Owed.none_ ?_ | refine Owed.nil_ ?_ | refine Owed.miss rfl ?_ | refine Owed.hit ?_ ?_) | ((with_reducible show Same _ _ _ _ _); intro _; go_simp; done) | (with_reducible exact True.intro))
        refine bodyPost_ret (v := lts (some ⟨gq, 0, none⟩) m c1) (by simp [results, Try.results18, go_sem, hput]) rfl ?_
        exact HEND.out
theorem spoil_any (B b : Nat) (A : Option Addr) (n c i : Nat) (zs : List Int) (Al : Option Addr) (m cl bd : Nat) (ls : List (List Arc)) (w : World) (h : TpAt w B b A n c zs i) (hl : RdL w w.heap.size Al m ls) (hm : m ≤ 1000) (hs : ∀ l ∈ ls, l.length ≤ bd) (hbd : bd ≤ 1000) (hn : n ≤ 1000000000000) (hi : i ≤ 100000000) :
    Calls Try.prog 18 #[.pointer (some ⟨b, 0, none⟩), lts Al m cl] w (GenPost w B b A n c i zs 4 m (2 * bd + 1)) :=
  (spoilB_any B b A n c i zs Al m cl bd ls w h hl hm hs hbd hn hi).mono fun _ _ h => h.post

end Go.Proofs.Ytmciinikfjfegaa
