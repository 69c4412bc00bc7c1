/- systems that are copied: Copy; systems that are copied: Copy's walk; systems that are spoiled: plain laws -/
import Derived.Test.YtmciinikfjfegaaRwG2
namespace Go.Proofs.Ytmciinikfjfegaa
open Go Go.RowKit
set_option maxHeartbeats 8000000

/-- append of what reads, be it nothing, to a row of one's own, at the operation -/
theorem app_opt {P : Program} {w : World} {o : Oper} {a : Act} {K : Act → World → Prop} {Q : Exit → Act → World → Prop} {s x : Operand} {t e : TypeId} {size bytes : Nat}
    (hT : SlT P t e size bytes) (ho : o.op = .call { callee := .builtin .append, args := #[s, x], argTypes := #[t, t] })
    {v : Value} {n : Nat} {xs : List Value} (hown : w.ownsRow 0 e size v n xs) (hs : a.eval s = v)
    {A : Option Addr} {B m c : Nat} {news : List Value} (hB : Rd w B size A m news) (hx : a.eval x = .slice A m c) (h1 : ∀ u ∈ news, u.oneCell' = true)
    (h63 : n + m ≤ maxLen) (hbytes : (n + m) * bytes ≤ 140737488355328)
    (h : ∀ v' w', w'.ownsRow 0 e size v' (n + m) (xs ++ news) → w.grownBy w' v.ownBlock → (v'.ownBlock = v.ownBlock ∨ v'.ownBlock = some w.heap.size) → K (a.put o.dst v') w') : o.wp P a w K Q := by
  cases A with
  | some ad => exact app_rdS hT ho hown hs hB hx h1 h63 hbytes h
  | none =>
    have hm : m = 0 := by
      rcases Nat.eq_zero_or_pos m with e | e
      · exact e
      · obtain ⟨_, _, e, _⟩ := hB.2 e
        cases e
    subst hm
    have hn : news = [] := List.eq_nil_of_length_eq_zero (by simpa using hB.1)
    subst hn
    obtain ⟨i, z, h2, h3, h4, h5, h6, h7, h8⟩ := hT
    obtain ⟨A', cap, rfl, hc, _⟩ := own_form hown
    have hr : (Builtin.append_ #[t, t] o.type #[.slice A' n cap, .slice none 0 c]).run P w = .ok (.slice A' n cap) w := by
      cases A' <;> simp [Builtin.append_, run_underlying h2, sizeOf, typeInfo, h3, Builtin.lenOf, Builtin.firstCells, hc, storeCells]
    unfold Oper.wp execOp
    simp only [ho, resolve, invoke, builtin, Sem.run_bind, Sem.run_pure, Result.andThen_ok, List.map_toArray, List.map_cons, List.map_nil, hs, hx, hr]
    exact h _ _ (by simpa using hown) ⟨rfl, rfl, rfl, Nat.le_refl _, fun _ _ _ => rfl⟩ (.inl rfl)
theorem slRow : SlT Try.prog 25 24 1 24 := SlT.of Try.underlying25 infoRow rfl (by decide)

/-- a row of arcs that is the caller's own, in a block from W on -/
def ArcOwn (w : World) (W bd : Nat) (u : Value) : Prop := ∃ (g n c : Nat) (l : List Arc), u = .slice (some ⟨g, 0, none⟩) n c ∧ w.ownsRow 0 23 2 u n (cellsOf Arc.cells l) ∧ n ≤ bd ∧ W ≤ g
theorem ArcOwn.out {w w' : World} {W bd : Nat} {u : Value} {R : Nat → Prop} (h : ArcOwn w W bd u) (hO : Outside R w w') (hR : ∀ g, u.ownBlock = some g → ¬ R g) : ArcOwn w' W bd u := by
  obtain ⟨g, n, c, l, e, h1, h2, h3⟩ := h
  exact ⟨g, n, c, l, e, own_out h1 hO hR, h2, h3⟩
theorem ArcOwn.lt {w : World} {W bd g : Nat} {u : Value} (h : ArcOwn w W bd u) (hg : u.ownBlock = some g) : g < w.heap.size := by
  obtain ⟨_, n, c, l, e, h1, h2, h3⟩ := h
  exact own_lt h1 hg
/-- rows of one's own in an outer row of one's own, each in a block of its own -/
structure RowsOwn (w : World) (W : Nat) (v : Value) (k bd : Nat) (xs : List Value) : Prop where
  own : w.ownsRow 0 24 1 v k xs
  base : ∀ g, v.ownBlock = some g → W ≤ g
  rows : ∀ (j : Nat) (u : Value), xs[j]? = some u → ArcOwn w W bd u
  apart : ∀ (j j' : Nat) (u u' : Value) (g : Nat), xs[j]? = some u → xs[j']? = some u' → j ≠ j' → u.ownBlock = some g → ¬ u'.ownBlock = some g
theorem RowsOwn.nil (w : World) (W bd : Nat) : RowsOwn w W (.slice none 0 0) 0 bd [] :=
  ⟨World.ownsRow_nil _ _ _ _, fun g hg => by simp [Value.ownBlock] at hg, fun j u h => by simp at h, fun j j' u u' g h => by simp at h⟩
theorem RowsOwn.out {w w' : World} {W k bd : Nat} {v : Value} {xs : List Value} {R : Nat → Prop} (h : RowsOwn w W v k bd xs) (hO : Outside R w w') (hR : ∀ g, W ≤ g → g < w.heap.size → ¬ R g) : RowsOwn w' W v k bd xs :=
  ⟨own_out h.own hO fun g hg => hR g (h.base g hg) (own_lt h.own hg), h.base, fun j u hu => by
    have h1 := h.rows j u hu
    obtain ⟨g, n, c, l, e, _, _, hW⟩ := h1
    exact (h.rows j u hu).out hO fun g' hg' => hR g' (by subst e; simp [Value.ownBlock] at hg'; omega) ((h.rows j u hu).lt hg'), h.apart⟩
/-- one row more -/
theorem RowsOwn.snoc {w w' : World} {W k bd : Nat} {v v' u : Value} {xs : List Value} (h : RowsOwn w W v k bd xs) (hown : w'.ownsRow 0 24 1 v' (k + 1) (xs ++ [u])) (hb : ∀ g, v'.ownBlock = some g → W ≤ g)
    (hO : Outside (fun k => v.ownBlock = some k) w w') (hu : ArcOwn w W bd u) (hne : ∀ (j : Nat) (u' : Value) (g : Nat), xs[j]? = some u' → u'.ownBlock = some g → ¬ u.ownBlock = some g) : RowsOwn w' W v' (k + 1) bd (xs ++ [u]) := by
  have hk : ∀ u', ArcOwn w W bd u' → ArcOwn w' W bd u' := fun u' h1 => h1.out hO fun g hg e => by
    obtain ⟨g', n, c, l, e', h2, _, _⟩ := h1
    exact own_apart_own h2 h.own (by decide) hg e
  refine ⟨hown, hb, fun j u' hu' => ?_, fun j j' u1 u2 g h1 h2 hjj hg => ?_⟩
  · by_cases hj : j < xs.length
    · rw [List.getElem?_append_left hj] at hu'
      exact hk _ (h.rows j u' hu')
    · rw [List.getElem?_append_right (by omega)] at hu'
      have : u' = u := by
        cases hjx : j - xs.length with
        | zero => rw [hjx] at hu'; simpa using hu'.symm
        | succ m => rw [hjx] at hu'; simp at hu'
      rw [this]
      exact hk _ hu
  · have key : ∀ j u', (xs ++ [u])[j]? = some u' → (j < xs.length ∧ xs[j]? = some u') ∨ (j = xs.length ∧ u' = u) := fun j u' hu' => by
      by_cases hj : j < xs.length
      · rw [List.getElem?_append_left hj] at hu'
        exact .inl ⟨hj, hu'⟩
      · rw [List.getElem?_append_right (by omega)] at hu'
        cases hjx : j - xs.length with
        | zero => rw [hjx] at hu'; exact .inr ⟨by omega, by simpa using hu'.symm⟩
        | succ m => rw [hjx] at hu'; simp at hu'
    rcases key j u1 h1 with ⟨a1, a2⟩ | ⟨a1, rfl⟩
    · rcases key j' u2 h2 with ⟨b1, b2⟩ | ⟨b1, rfl⟩
      · exact h.apart j j' u1 u2 g a2 b2 hjj hg
      · exact hne j u1 g a2 hg
    · rcases key j' u2 h2 with ⟨b1, b2⟩ | ⟨b1, rfl⟩
      · exact fun h3 => hne j' u2 g b2 h3 hg
      · omega

end Go.Proofs.Ytmciinikfjfegaa
namespace Go.Proofs.Ytmciinikfjfegaa
open Go Go.RowKit
set_option maxHeartbeats 8000000

theorem below3 {w : World} (a b c : Obj) : Below w.heap.size w (((w.alloc a).alloc b).alloc c) := (((Below.refl w.heap.size w).alloc (Nat.le_refl _) a).alloc (by simp) b).alloc (by simp; omega) c

set_option maxRecDepth 100000 in
theorem copy_any (A : Option Addr) (n c B bd : Nat) (ls : List (List Arc)) (w : World) (h : RdL w B A n ls) (hB : B ≤ w.heap.size) (hn : n ≤ 1000) (hs : ∀ l ∈ ls, l.length ≤ bd) (hbd : bd ≤ 1000) :
    Calls Try.prog 39 #[lts A n c] w fun e w' => (∃ v' xs, e = .returned (.agg #[v']) ∧ RowsOwn w' (w.heap.size + 3) v' n bd xs) ∧ Below w.heap.size w w' := by
  have H := Lib.hid h
  have HS := Lib.hid hs
  have HL := Lib.hid h.len
  have HBl := Lib.hid (((Blk.new w 27 #[.slice A n c]).alloc (.cells #[.slice none 0 0] 27)).alloc (.cells #[.slice none 0 0] 27))
  have HBr := Lib.hid (show Blk (((w.alloc (.cells #[.slice A n c] 27)).alloc (.cells #[.slice none 0 0] 27)).alloc (.cells #[.slice none 0 0] 27)) (w.heap.size + 1) 27 #[.slice none 0 0] by
    have := (Blk.new (w.alloc (.cells #[.slice A n c] 27)) 27 #[.slice none 0 0]).alloc (.cells #[.slice none 0 0] 27)
    simpa using this)
  have HBq := Lib.hid (show Blk (((w.alloc (.cells #[.slice A n c] 27)).alloc (.cells #[.slice none 0 0] 27)).alloc (.cells #[.slice none 0 0] 27)) (w.heap.size + 1 + 1) 27 #[.slice none 0 0] from heap_alloc_at (by simp))
  have HB0 := Lib.hid (below3 (w := w) (.cells #[.slice A n c] 27) (.cells #[.slice none 0 0] 27) (.cells #[.slice none 0 0] 27))
  have HSZ := Lib.hid (show (((w.alloc (.cells #[.slice A n c] 27)).alloc (.cells #[.slice none 0 0] 27)).alloc (.cells #[.slice none 0 0] 27)).heap.size = w.heap.size + 3 by simp)
  clear h hs
  go_enter Try.func39, Try.ntmps39
  go_wp2
  go_loopw [4] (fun vk wr => ∃ (k : Nat) (vq : Value) (xs : List Value), k ≤ n ∧ vk = .int .i64 k ∧ w.heap.size + 3 ≤ wr.heap.size ∧
    Hid (RowsOwn wr (w.heap.size + 3) vq k bd xs ∧ Blk wr w.heap.size 27 #[.slice A n c] ∧ Blk wr (w.heap.size + 1) 27 #[.slice none 0 0] ∧ Blk wr (w.heap.size + 1 + 1) 27 #[vq] ∧ Below w.heap.size w wr)) (fun vk _ => n - (intOf vk).toNat)
  case atStart => exact ⟨0, _, [], Nat.zero_le _, rfl, by rw [HSZ.out]; exact Nat.le_refl _, Lib.hid ⟨RowsOwn.nil _ _ _, HBl.out, HBr.out, HBq.out, HB0.out⟩⟩
  case round =>
    obtain ⟨k, vq, xs, hk, rfl, hsz, HW⟩ := hrel
    obtain ⟨Aq, cq, rfl, _, _⟩ := own_form HW.out.1.own
    have hbc := HW.out.2.1.cell
    have hbl := HW.out.2.1.lt
    have hqc := HW.out.2.2.2.1.cell
    have hql := HW.out.2.2.2.1.lt
    have hqf := HW.out.2.2.2.1.frozen
    by_cases hlt : k < n
    · obtain ⟨b1, o1, l, A', n', c', rfl, hb1, hl, hln, e0, hrow⟩ := (H.out.keep (w' := wr) (fun p hp => HW.out.2.2.2.2.cell (by omega))).row hlt
      have hll := HS.out l (List.mem_of_getElem? hl)
      have HROW := Lib.hid ((hrow.more (show B ≤ wr.heap.size by omega)).alloc (Nat.le_refl _) (Obj.cells #[] 23))
      have hb1l : b1 < wr.heap.size := by omega
      have hown : ((wr.alloc (Obj.cells #[] 23)).drew).ownsRow 0 23 2 (.slice (some ⟨wr.heap.size, 0, none⟩) 0 0) 0 [] :=
        ⟨rfl, .inr ⟨wr.heap.size, 0, #[], rfl, Nat.zero_le _, heap_alloc_new wr _, Nat.le_refl _, by simp [maxLen], rfl, rfl⟩⟩
      have HOW := Lib.hid hown
      clear hrow hl hown
      go_wp2_with (first | ((with_reducible show wpPlan _ _ _ ((8, 2, _) :: _) _ _ _); refine wpPlan_eff rfl rfl (fun _ hK => ?_); refine app_opt slArc rfl HOW.out rfl (HROW.out.drewN 1) (c := c') rfl (arc_ones _) (by unfold maxLen; omega) (by omega) ?_; intro v8 w8 hown8 hgrow8 hat8; refine hK _ _ ?_; refine Stop7.intro ?_) | ((with_reducible show wpPlan _ _ _ _ _ (Act.put _ _ _) _); simp only [List.getElem_toArray, List.getElem_cons_succ, List.getElem_cons_zero, Act.put, List.setIfInBounds_toArray, List.set_cons_zero, List.set_cons_succ]) | ((with_reducible show wpPlan _ _ _ _ _ _ _); first | refine wpPlan_nil ?_ | (refine wpPlan_read0 rfl ?hw rfl (fun _ _ _ => ?_); case hw => ((conv => (lhs; whnf)); first | done | with_reducible rfl)) | (refine wpPlan_read1d rfl ?hw rfl rfl (fun _ _ _ => ?_); case hw => ((conv => (lhs; whnf)); first | done | with_reducible rfl)) | (refine wpPlan_eff rfl ?hw (fun _ _ => ?_); case hw => ((conv => (lhs; whnf)); first | done | with_reducible rfl)) | (refine wpPlan_skip0 rfl ?hw ?_; case hw => ((conv => (lhs; whnf)); first | done | with_reducible rfl)) | (refine wpPlan_skip1d rfl ?hw ?_; case hw => ((conv => (lhs; whnf)); first | done | with_reducible rfl)) | (refine wpPlan_skip2 rfl ?hw ?_; case hw => ((conv => (lhs; whnf)); first | done | with_reducible rfl)) | (refine wpPlan_read1 rfl ?hw rfl (fun _ _ _ => ?_); case hw => ((conv => (lhs; whnf)); first | done | with_reducible rfl)) | refine wpPlan_fork ?_ ?_) | ((with_reducible show Owed _ _ _ _ _ _ _ _ _); first | refine Owed.none_ ?_ | refine Owed.nil_ ?_ | refine Owed.miss rfl ?_ | refine Owed.hit ?_ ?_) | ((with_reducible show Same _ _ _ _ _); intro _; go_simp; done) | (with_reducible exact True.intro) | ((with_reducible show Code.wp _ (Code.region 5 _ true) _ _ _); refine wp_region_plan [(0, 1, []), (1, 1, []), (3, 1, []), (4, 1, []), (5, 0, []), (6, 1, []), (7, 1, []), (2, 2, [0, 1, 3, 4, 6, 7]), (8, 2, [0, 1]), (9, 2, [0, 1]), (10, 2, []), (11, 1, []), (12, 2, [])] (by kernel_rfl) (by kernel_rfl) (by kernel_rfl) ?_))
      unfold Stop7
      rw [Nat.zero_add, List.nil_append] at hown8
      have hg8 : ((wr.alloc (Obj.cells #[] 23)).drew).grownBy w8 (some wr.heap.size) := hgrow8
      have hO8 : Outside (fun g => g = wr.heap.size) wr w8 := ((Outside.refl (fun g => g = wr.heap.size) wr).alloc (Obj.cells #[] 23)).drew.grown hg8 (fun z hz => by cases hz; exact .inl rfl)
      have hb8 : Below wr.heap.size wr w8 := hO8.below (Nat.le_refl _) (fun k hk e => by omega)
      have hv8 : ∀ g, v8.ownBlock = some g → wr.heap.size ≤ g := fun g hg => by
        rcases hat8 with h | h
        · have h1 : some wr.heap.size = some g := h.symm.trans hg
          simp at h1; omega
        · have h1 := h.symm.trans hg
          simp at h1; omega
      obtain ⟨A8, c8, rfl, hnc8, _⟩ := own_form hown8
      have hA8 : ∃ g8, A8 = some ⟨g8, 0, none⟩ := by
        rcases hown8.2 with ⟨e, _⟩ | ⟨g', cap, cur, e, _⟩
        · cases e
          rcases hat8 with h | h
          · simp [Value.ownBlock] at h
          · simp [Value.ownBlock] at h
        · cases e
          exact ⟨g', rfl⟩
      obtain ⟨g8, rfl⟩ := hA8
      have hAO : ArcOwn w8 (w.heap.size + 3) bd (.slice (some ⟨g8, 0, none⟩) n' c8) := ⟨g8, n', c8, l, rfl, hown8, by omega, Nat.le_trans hsz (hv8 g8 rfl)⟩
      have HAO := Lib.hid hAO
      have HV8 := Lib.hid (hv8 g8 rfl)
      have HRW := Lib.hid (HW.out.1.out (R := fun g => wr.heap.size ≤ g) (Outside.ofBelow hb8 (fun _ h => h)) (fun g _ h1 h2 => by omega))
      have HX := Lib.hid (And.intro (HW.out.2.1.below hb8 hbl) (And.intro (HW.out.2.2.1.below hb8 HW.out.2.2.1.lt) (And.intro (HW.out.2.2.2.1.below hb8 hql) (HW.out.2.2.2.2.trans (hb8.mono HW.out.2.2.2.2.size)))))
      have hs8 := hb8.size
      have q8c := HX.out.2.2.1.cell
      have q8l := HX.out.2.2.1.lt
      clear hown8 hgrow8 hat8 hg8 hO8 hb8 hv8 hAO
      go_wp2_with (first | ((with_reducible show wpPlan _ _ _ ((10, 2, _) :: _) _ _ _); refine wpPlan_eff rfl rfl (fun _ hK => ?_); refine app_blk slRow rfl (World.ownsRow.alloc HRW.out.own _) rfl (news := [.slice (some ⟨g8, 0, none⟩) n' c8]) ((heap_alloc_at rfl) : Blk _ w8.heap.size _ _) rfl rfl (by simp [Value.oneCell']) (by decide) (by unfold maxLen; omega) (by omega) ?_; intro g9 c9 w9 hown9 hgrow9 hat9; refine hK _ _ ?_; refine Stop7.intro ?_) | ((with_reducible show wpPlan _ _ _ _ _ (Act.put _ _ _) _); simp only [List.getElem_toArray, List.getElem_cons_succ, List.getElem_cons_zero, Act.put, List.setIfInBounds_toArray, List.set_cons_zero, List.set_cons_succ]) | ((with_reducible show wpPlan _ _ _ _ _ _ _); first | refine wpPlan_nil ?_ | (refine wpPlan_read0 rfl ?hw rfl (fun _ _ _ => ?_); case hw => ((conv => (lhs; whnf)); first | done | with_reducible rfl)) | (refine wpPlan_read1d rfl ?hw rfl rfl (fun _ _ _ => ?_); case hw => ((conv => (lhs; whnf)); first | done | with_reducible rfl)) | (refine wpPlan_eff rfl ?hw (fun _ _ => ?_); case hw => ((conv => (lhs; whnf)); first | done | with_reducible rfl)) | (refine wpPlan_skip0 rfl ?hw ?_; case hw => ((conv => (lhs; whnf)); first | done | with_reducible rfl)) | (refine wpPlan_skip1d rfl ?hw ?_; case hw => ((conv => (lhs; whnf)); first | done | with_reducible rfl)) | (refine wpPlan_skip2 rfl ?hw ?_; case hw => ((conv => (lhs; whnf)); first | done | with_reducible rfl)) | (refine wpPlan_read1 rfl ?hw rfl (fun _ _ _ => ?_); case hw => ((conv => (lhs; whnf)); first | done | with_reducible rfl)) | refine wpPlan_fork ?_ ?_) | ((with_reducible show Owed _ _ _ _ _ _ _ _ _); first | refine Owed.none_ ?_ | refine Owed.nil_ ?_ | refine Owed.miss rfl ?_ | refine Owed.hit ?_ ?_) | ((with_reducible show Same _ _ _ _ _); intro _; go_simp; done) | (with_reducible exact True.intro) | ((with_reducible show Code.wp _ (Code.region 5 _ true) _ _ _); refine wp_region_plan [(0, 1, []), (1, 1, []), (3, 1, []), (4, 1, []), (5, 0, []), (6, 1, []), (7, 1, []), (2, 2, [0, 1, 3, 4, 6, 7]), (8, 2, [0, 1]), (9, 2, [0, 1]), (10, 2, []), (11, 1, []), (12, 2, [])] (by kernel_rfl) (by kernel_rfl) (by kernel_rfl) ?_))
      unfold Stop7
      have hO9 : Outside (fun g => (Value.slice Aq k cq).ownBlock = some g) w8 w9 := ((Outside.refl (fun g => (Value.slice Aq k cq).ownBlock = some g) w8).alloc (.cells #[.slice (some ⟨g8, 0, none⟩) n' c8] 24)).grown hgrow9 (fun z hz => .inl hz)
      have hg9 : ∀ g, (Value.slice (some ⟨g9, 0, none⟩) (k + 1) c9).ownBlock = some g → w.heap.size + 3 ≤ g := fun g hg => by
        have h1 : g9 = g := by simpa [Value.ownBlock] using hg
        rcases hat9 with h | h
        · have := HRW.out.base g9 h
          omega
        · simp at h
          omega
      have hS := HRW.out.snoc hown9 hg9 hO9 HAO.out (fun j u' g h1 h2 h3 => by
        have h4 := (HW.out.1.rows j u' h1).lt h2
        have h5 : g8 = g := by simpa [Value.ownBlock] using h3
        have := HV8.out
        omega)
      have hnq : ∀ g, g < w.heap.size + 3 → ¬ (Value.slice Aq k cq).ownBlock = some g := fun g h1 h2 => by have := HRW.out.base g h2; omega
      have hOq : Outside (fun g => g = w.heap.size + 1 + 1) w9 (w9.setCell ⟨w.heap.size + 1 + 1, 0, none⟩ (.slice (some ⟨g9, 0, none⟩) (k + 1) c9)) := (Outside.refl (fun g => g = w.heap.size + 1 + 1) w9).setCell (p := ⟨w.heap.size + 1 + 1, 0, none⟩) (.inl rfl) _
      have hq9 := HX.out.2.2.1.out hO9 (hnq _ (by omega))
      have HZ := Lib.hid (And.intro (hS.out hOq (fun g h1 _ => by omega)) (And.intro ((HX.out.1.out hO9 (hnq _ (by omega))).out hOq (by omega)) (And.intro ((HX.out.2.1.out hO9 (hnq _ (by omega))).out hOq (by omega)) (And.intro (hq9.put 0 (.slice (some ⟨g9, 0, none⟩) (k + 1) c9)) ((HX.out.2.2.2.trans (hO9.below (by omega) (fun g h1 h2 => by have := HRW.out.base g h2; omega))).setCell (p := ⟨w.heap.size + 1 + 1, 0, none⟩) (by dsimp only; omega) (.slice (some ⟨g9, 0, none⟩) (k + 1) c9))))))
      have q9c := hq9.cell
      have q9l := hq9.lt
      have q9f := hq9.frozen
      have hsz9 : w.heap.size + 3 ≤ (w9.setCell ⟨w.heap.size + 1 + 1, 0, none⟩ (.slice (some ⟨g9, 0, none⟩) (k + 1) c9)).heap.size := Nat.le_trans hsz (Nat.le_trans hs8 (Nat.le_trans hO9.size hOq.size))
      have HS9 := Lib.hid hsz9
      clear hO9 hg9 hS hnq hOq hq9 hown9 hgrow9 hat9 hsz9
      go_wp2_with (first | ((with_reducible show wpPlan _ _ _ _ _ (Act.put _ _ _) _); simp only [List.getElem_toArray, List.getElem_cons_succ, List.getElem_cons_zero, Act.put, List.setIfInBounds_toArray, List.set_cons_zero, List.set_cons_succ]) | ((with_reducible show wpPlan _ _ _ _ _ _ _); first | refine wpPlan_nil ?_ | (refine wpPlan_read0 rfl ?hw rfl (fun _ _ _ => ?_); case hw => ((conv => (lhs; whnf)); first | done | with_reducible rfl)) | (refine wpPlan_read1d rfl ?hw rfl rfl (fun _ _ _ => ?_); case hw => ((conv => (lhs; whnf)); first | done | with_reducible rfl)) | (refine wpPlan_eff rfl ?hw (fun _ _ => ?_); case hw => ((conv => (lhs; whnf)); first | done | with_reducible rfl)) | (refine wpPlan_skip0 rfl ?hw ?_; case hw => ((conv => (lhs; whnf)); first | done | with_reducible rfl)) | (refine wpPlan_skip1d rfl ?hw ?_; case hw => ((conv => (lhs; whnf)); first | done | with_reducible rfl)) | (refine wpPlan_skip2 rfl ?hw ?_; case hw => ((conv => (lhs; whnf)); first | done | with_reducible rfl)) | (refine wpPlan_read1 rfl ?hw rfl (fun _ _ _ => ?_); case hw => ((conv => (lhs; whnf)); first | done | with_reducible rfl)) | refine wpPlan_fork ?_ ?_) | ((with_reducible show Owed _ _ _ _ _ _ _ _ _); first | refine Owed.none_ ?_ | refine Owed.nil_ ?_ | refine Owed.miss rfl ?_ | refine Owed.hit ?_ ?_) | ((with_reducible show Same _ _ _ _ _); intro _; go_simp; done) | (with_reducible exact True.intro) | ((with_reducible show Code.wp _ (Code.region 5 _ true) _ _ _); refine wp_region_plan [(0, 1, []), (1, 1, []), (3, 1, []), (4, 1, []), (5, 0, []), (6, 1, []), (7, 1, []), (2, 2, [0, 1, 3, 4, 6, 7]), (8, 2, [0, 1]), (9, 2, [0, 1]), (10, 2, []), (11, 1, []), (12, 2, [])] (by kernel_rfl) (by kernel_rfl) (by kernel_rfl) ?_))
      go_roundw
      case rel => exact ⟨k + 1, _, _, by omega, by go_num, HS9.out, HZ⟩
      case measure => simp [intOf]; omega
    · have hkn : k = n := by omega
      subst hkn
      have hrf := HW.out.2.2.1.frozen
      have hrc := HW.out.2.2.1.cell
      have hrl := HW.out.2.2.1.lt
      have hput := (HW.out.2.2.1.put 0 (.slice Aq k cq)).cell 0
      have HZ := Lib.hid (And.intro (HW.out.1.out (R := fun g => g = w.heap.size + 1) ((Outside.refl (fun g => g = w.heap.size + 1) wr).setCell (p := ⟨w.heap.size + 1, 0, none⟩) (.inl rfl) (.slice Aq k cq)) (fun g h1 _ => by omega)) (HW.out.2.2.2.2.setCell (p := ⟨w.heap.size + 1, 0, none⟩) (by simp) (.slice Aq k cq)))
      go_wp2_with fail
      refine bodyPost_ret (v := .agg #[.slice Aq k cq]) (by simp [results, Try.results39, go_sem, hput]) rfl ?_
      exact ⟨⟨_, xs, rfl, HZ.out.1⟩, HZ.out.2⟩

end Go.Proofs.Ytmciinikfjfegaa
namespace Go.Proofs.Ytmciinikfjfegaa
open Go Go.RowKit
set_option maxHeartbeats 4000000

theorem rows_of {w : World} {B bd : Nat} (vs : List Value) (hr : ∀ (j : Nat) (v : Value), vs[j]? = some v → ∃ (A' : Option Addr) (n' c' : Nat) (l : List Arc), v = .slice A' n' c' ∧ n' ≤ bd ∧ Rd w B 2 A' n' (cellsOf Arc.cells l)) :
    ∃ ls : List (List Arc), ls.length = vs.length ∧ (∀ (i : Nat) (l : List Arc), ls[i]? = some l → ∃ (A' : Option Addr) (n' c' : Nat), vs[i]? = some (Value.slice A' n' c') ∧ Rd w B 2 A' n' (cellsOf Arc.cells l)) ∧ ∀ l ∈ ls, l.length ≤ bd := by
  induction vs with
  | nil => exact ⟨[], rfl, fun i l hl => by simp at hl, fun l hl => by cases hl⟩
  | cons v vs ih =>
    obtain ⟨ls, h1, h2, h3⟩ := ih fun j v hv => hr (j + 1) v (by simpa using hv)
    obtain ⟨A', n', c', l, rfl, hn, hR⟩ := hr 0 v rfl
    refine ⟨l :: ls, by simp [h1], fun i l' hl => ?_, fun l' hl => ?_⟩
    · cases i with
      | zero =>
        have : l = l' := by simpa using hl
        subst this
        exact ⟨A', n', c', rfl, hR⟩
      | succ i => exact h2 i l' (by simpa using hl)
    · rcases List.mem_cons.1 hl with rfl | hl
      · rw [hR.len Arc.cells_len (by decide)]; exact hn
      · exact h3 l' hl
theorem rdL_of {w : World} {B n bd : Nat} {A : Option Addr} {vs : List Value} (h : Rd w B 1 A n vs) (hr : ∀ (j : Nat) (v : Value), vs[j]? = some v → ∃ (A' : Option Addr) (n' c' : Nat) (l : List Arc), v = .slice A' n' c' ∧ n' ≤ bd ∧ Rd w B 2 A' n' (cellsOf Arc.cells l)) :
    ∃ ls, RdL w B A n ls ∧ ∀ l ∈ ls, l.length ≤ bd := by
  obtain ⟨ls, h1, h2, h3⟩ := rows_of vs hr
  have := h.1
  exact ⟨ls, ⟨vs, h, by omega, h2⟩, h3⟩

theorem RowsOwn.whole {w : World} {W m bd c : Nat} {A : Option Addr} {xs : List Value} (h : RowsOwn w W (.slice A m c) m bd xs) : ∃ ls, RdL w w.heap.size A m ls ∧ ∀ l ∈ ls, l.length ≤ bd :=
  rdL_of (Rd.ofOwn h.own) fun j v hv => by
    obtain ⟨g, n, c, l, rfl, h1, h2, _⟩ := h.rows j v hv
    exact ⟨_, n, c, l, rfl, h2, Rd.ofOwn h1⟩
theorem RowsOwn.at_ {w : World} {W m bd : Nat} {v : Value} {xs : List Value} (h : RowsOwn w W v m bd xs) (hm : 0 < m) :
    ∃ (gq cq : Nat) (cur : Array Value), v = .slice (some ⟨gq, 0, none⟩) m cq ∧ Blk w gq 24 cur ∧ m ≤ cq ∧ m ≤ cur.size ∧ W ≤ gq := by
  have hb := h.base
  rcases h.own.2 with ⟨rfl, e⟩ | ⟨g', cap, cur, rfl, _, hh, hn, hm, hsz, _⟩
  · omega
  · exact ⟨g', cap, cur, rfl, hh, hn, by omega, hb g' rfl⟩
theorem RowsOwn.cellAt {w : World} {W m bd gq cq s : Nat} {xs : List Value} (h : RowsOwn w W (.slice (some ⟨gq, 0, none⟩) m cq) m bd xs) (hs : s < m) :
    ∃ (g n c : Nat) (l : List Arc), xs[s]? = some (.slice (some ⟨g, 0, none⟩) n c) ∧ w.cell? ⟨gq, s, none⟩ = some (.slice (some ⟨g, 0, none⟩) n c) ∧ w.ownsRow 0 23 2 (.slice (some ⟨g, 0, none⟩) n c) n (cellsOf Arc.cells l) ∧ n ≤ bd ∧ W ≤ g := by
  have hl : s < xs.length := by have := h.own.1; omega
  obtain ⟨g, n, c, l, e, h1, h2, h3⟩ := h.rows s _ (List.getElem?_eq_getElem hl)
  obtain ⟨b, o, e2, _, hc⟩ := (Rd.ofOwn h.own).2 (by omega)
  cases e2
  have hx : xs[s]? = some (.slice (some ⟨g, 0, none⟩) n c) := by rw [List.getElem?_eq_getElem hl, e]
  have h4 := hc s _ hx
  rw [Nat.zero_add] at h4
  rw [e] at h1
  exact ⟨g, n, c, l, hx, h4, h1, h2, h3⟩
/-- one row is another one now -/
theorem RowsOwn.spoil {w w' w'' : World} {W m bd bd' gq cq s n' t4 : Nat} {xs : List Value} {u v' : Value} {l' : List Arc} (h : RowsOwn w W (.slice (some ⟨gq, 0, none⟩) m cq) m bd xs) (hu : xs[s]? = some u)
    (hO : Outside (fun k => u.ownBlock = some k) w w') (hv : w'.ownsRow 0 23 2 v' n' (cellsOf Arc.cells l')) (hn : n' ≤ bd') (hbd : bd ≤ bd') (hO2 : Outside (fun k => k = t4) (w'.setCell ⟨gq, s, none⟩ v') w'') (h4 : t4 < W) (hv4 : v'.ownBlock ≠ some t4) :
    ∃ ls, RdL w'' w''.heap.size (some ⟨gq, 0, none⟩) m ls ∧ ∀ l ∈ ls, l.length ≤ bd' := by
  obtain ⟨g, n, c, l, e, h1, h2, h3⟩ := h.rows s u hu
  have hq : w'.ownsRow 0 24 1 (.slice (some ⟨gq, 0, none⟩) m cq) m xs := own_out h.own hO fun k hk => own_apart_own h.own h1 (by decide) hk
  have hs := own_out (hq.stored s v').1 hO2 (fun k hk e => by have := h.base k hk; omega)
  refine rdL_of (Rd.ofOwn hs) fun j v hj => ?_
  rw [List.getElem?_set] at hj
  split at hj
  · split at hj
    · cases hj
      obtain ⟨A', cap, rfl, _, _⟩ := own_form hv
      have := own_setCell hv (p := ⟨gq, s, none⟩) (own_apart_own hq hv (by decide) rfl) (.slice A' n' cap)
      exact ⟨A', n', cap, l', rfl, hn, Rd.ofOwn (own_out this hO2 (fun k hk e => hv4 (e ▸ hk)))⟩
    · cases hj
  · rename_i hne
    obtain ⟨g2, n2, c2, l2, e2, k1, k2, k3⟩ := h.rows j v hj
    have h5 : w'.ownsRow 0 23 2 v n2 (cellsOf Arc.cells l2) := own_out k1 hO fun k hk hk2 => h.apart j s v u k hj hu (fun e => hne e.symm) hk hk2
    have h6 := own_out (own_setCell h5 (p := ⟨gq, s, none⟩) (own_apart_own hq h5 (by decide) rfl) v') hO2 (fun k hk e => by subst e2; simp [Value.ownBlock] at hk; omega)
    subst e2
    exact ⟨_, n2, c2, l2, rfl, by omega, Rd.ofOwn h6⟩

theorem RowsOwn.out2 {w w' : World} {W k bd : Nat} {v : Value} {xs : List Value} {R : Nat → Prop} (h : RowsOwn w W v k bd xs) (hO : Outside R w w') (hq : ∀ g, v.ownBlock = some g → ¬ R g) (hr : ∀ (j : Nat) (u : Value) (g : Nat), xs[j]? = some u → u.ownBlock = some g → ¬ R g) : RowsOwn w' W v k bd xs :=
  ⟨own_out h.own hO hq, h.base, fun j u hu => (h.rows j u hu).out hO fun g hg => hr j u g hu hg, h.apart⟩
theorem RowsOwn.lts {w : World} {W k bd : Nat} {v : Value} {xs : List Value} (h : RowsOwn w W v k bd xs) : (∀ g, v.ownBlock = some g → g < w.heap.size) ∧ ∀ (j : Nat) (u : Value) (g : Nat), xs[j]? = some u → u.ownBlock = some g → g < w.heap.size :=
  ⟨fun _ hg => own_lt h.own hg, fun j u _ hu hg => (h.rows j u hu).lt hg⟩
theorem own_at {w : World} {e : TypeId} {size n g1 S : Nat} {v : Value} {xs : List Value} (h : w.ownsRow 0 e size v n xs) (hat : v.ownBlock = some g1 ∨ v.ownBlock = some S) : ∃ g c, v = .slice (some ⟨g, 0, none⟩) n c ∧ (g = g1 ∨ g = S) := by
  rcases h.2 with ⟨rfl, _⟩ | ⟨g', cap, cr, rfl, _⟩
  · rcases hat with h | h <;> simp [Value.ownBlock] at h
  · exact ⟨g', cap, rfl, by simpa [Value.ownBlock] using hat⟩
theorem arc_snoc (l : List Arc) (a : Arc) : cellsOf Arc.cells l ++ a.cells = cellsOf Arc.cells (l ++ [a]) := by
  rw [cellsOf_append]
  simp [cellsOf]

end Go.Proofs.Ytmciinikfjfegaa
