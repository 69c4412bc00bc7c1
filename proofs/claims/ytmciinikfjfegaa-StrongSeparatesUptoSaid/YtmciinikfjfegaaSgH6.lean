/- test.holds: whether a subformula holds in a state -/
import Derived.Test.YtmciinikfjfegaaSgH5
namespace Go.Proofs.Ytmciinikfjfegaa
open Go Go.RowKit Go.Maps
set_option maxHeartbeats 8000000

mutual
theorem Occ.get : ∀ {G H : Form} {k : Nat}, Occ G k H → ∀ j, j < H.enc.length → G.enc[k + j]? = H.enc[j]?
  | _, _, _, .self, j, _ => by rw [Nat.zero_add]
  | _, _, _, .may (k := k) h, j, hj => by
    rw [Form.enc, show k + 1 + j = (k + j) + 1 by omega, List.getElem?_cons_succ]
    exact h.get j hj
  | _, _, _, .neg (k := k) h, j, hj => by
    rw [Form.enc, show k + 1 + j = (k + j) + 1 by omega, List.getElem?_cons_succ]
    exact h.get j hj
  | _, _, _, .con (k := k) h, j, hj => by
    rw [Form.enc, show k + 1 + j = (k + j) + 1 by omega, List.getElem?_cons_succ]
    exact h.get j hj
theorem OccS.get : ∀ {gs : Forms} {H : Form} {k : Nat}, OccS gs k H → ∀ j, j < H.enc.length → gs.enc[k + j]? = H.enc[j]?
  | _, _, _, .head h, j, hj => by
    have h1 := h.lt
    rw [Forms.enc, List.getElem?_append_left (by omega)]
    exact h.get j hj
  | _, _, _, .tail (g := g) (k := k) h, j, hj => by
    rw [Forms.enc, List.getElem?_append_right (by omega), show g.enc.length + k + j - g.enc.length = k + j by omega]
    exact h.get j hj
end
mutual
theorem Occ.trans : ∀ {F G H : Form} {i k : Nat}, Occ F i G → Occ G k H → Occ F (i + k) H
  | _, _, _, _, _, .self, h' => by rw [Nat.zero_add]; exact h'
  | _, _, _, _, k, .may (k := i) h, h' => by
    rw [show i + 1 + k = (i + k) + 1 by omega]
    exact .may (h.trans h')
  | _, _, _, _, k, .neg (k := i) h, h' => by
    rw [show i + 1 + k = (i + k) + 1 by omega]
    exact .neg (h.trans h')
  | _, _, _, _, k, .con (k := i) h, h' => by
    rw [show i + 1 + k = (i + k) + 1 by omega]
    exact .con (h.trans h')
theorem OccS.trans : ∀ {gs : Forms} {G H : Form} {i k : Nat}, OccS gs i G → Occ G k H → OccS gs (i + k) H
  | _, _, _, _, _, .head h, h' => .head (h.trans h')
  | _, _, _, _, k, .tail (g := g) (k := i) h, h' => by
    rw [Nat.add_assoc]
    exact .tail (h.trans h')
end

theorem turn_cell {H : Type} {P : Program} {k : TypeId} {R : Value → Option (DataW H × List MemPlace)} {w w' : World} {mb B m m' : Nat} {D D' : DataW H} (hO : Outside (fun k => k = mb) w w') (h : w.ownsMap P k R mb m D) (h' : w'.ownsMap P k R mb m' D') (hB : B ≤ w.heap.size) :
    ∀ p : Addr, p.block < B → w'.cell? p = w.cell? p := fun p hp => by
  by_cases e : p.block = mb
  · obtain ⟨es, c, h1, _⟩ := h
    obtain ⟨es', c', h2, _⟩ := h'
    unfold World.cell?
    simp [e, h1, h2]
  · exact World.cell?_of_block (w := w) (hO.block p.block (by omega) e)

/-- a test's block -/
structure TsAt (w : World) (tb : Nat) (AL : Option Addr) (n cL : Nat) (ls : List (List Arc)) (AF : Option Addr) (N cF : Nat) (F : Form) (g : Nat) (E : List Nat) (mb : Nat) (D : DU) : Prop where
  blk : Blk w tb 85 #[.slice AL n cL, .slice AF N cF, .slice (some ⟨g, 0, none⟩) N N, .map (some mb)]
  sys : RdL w tb AL n ls
  frm : Rd w tb 3 AF N (cellsOf FNode.cells F.enc)
  ens : Rd w tb 1 (some ⟨g, 0, none⟩) N (cellsOf ncell E)
  map : w.ownsMap Try.prog 103 (plainElem (H := Unit) Try.prog 4) mb (cntM N n D) D
  memo : Memo ls F N n D
  lt : mb < tb
section
variable {w w' : World} {tb n cL N cF g mb : Nat} {AL AF : Option Addr} {ls : List (List Arc)} {F : Form} {E : List Nat} {D D' : DU}
theorem TsAt.below (h : TsAt w tb AL n cL ls AF N cF F g E mb D) (hb : Below w.heap.size w w') : TsAt w' tb AL n cL ls AF N cF F g E mb D := by
  have hl := h.blk.lt
  have hbt := hb.mono (Nat.le_of_lt hl)
  exact ⟨h.blk.below hb hl, h.sys.below hbt, h.frm.below hbt, h.ens.below hbt, ownsMap_below h.map hb h.map.lt, h.memo, h.lt⟩
theorem TsAt.turn (h : TsAt w tb AL n cL ls AF N cF F g E mb D) (hO : Outside (fun k => k = mb) w w') (hm : w'.ownsMap Try.prog 103 (plainElem (H := Unit) Try.prog 4) mb (cntM N n D') D') (hM : Memo ls F N n D') : TsAt w' tb AL n cL ls AF N cF F g E mb D' := by
  have hl := h.blk.lt
  have hk := turn_cell hO h.map hm (Nat.le_of_lt hl)
  exact ⟨h.blk.out hO (by have := h.lt; omega), h.sys.keep hk, h.frm.keep hk, h.ens.keep hk, hm, hM, h.lt⟩
end
/-- what does not change -/
structure TsOk (ls : List (List Arc)) (F : Form) (n N : Nat) (E : List Nat) : Prop where
  len : ls.length = n
  flen : F.enc.length = N
  few : n ≤ 16384
  small : N ≤ 4096
  rows : ∀ l ∈ ls, l.length ≤ 100000
  tos : TosIn ls
  good : Good F 0 E
/-- what holds answers -/
def HoPost (w : World) (tb : Nat) (AL : Option Addr) (n cL : Nat) (ls : List (List Arc)) (AF : Option Addr) (N cF : Nat) (F : Form) (g : Nat) (E : List Nat) (mb : Nat) (D : DU) (i : Nat) (r : Bool) (e : Ending) (w' : World) : Prop :=
  e = .returned (.bool r) ∧ (∃ D', TsAt w' tb AL n cL ls AF N cF F g E mb D' ∧ ∀ j t, j < i → t < n → Maps.has D' (pairL j t) = Maps.has D (pairL j t)) ∧ Outside (fun k => k = mb) w w'
def HoOk (ls : List (List Arc)) (F G : Form) : Prop :=
  ∀ (tb n cL N cF g mb i s : Nat) (AL AF : Option Addr) (E : List Nat) (D : DU) (w : World), Occ F i G → s < n → TsAt w tb AL n cL ls AF N cF F g E mb D → TsOk ls F n N E →
    Calls Try.prog 57 #[.pointer (some ⟨tb, 0, none⟩), .int .i64 i, .int .i64 s] w (HoPost w tb AL n cL ls AF N cF F g E mb D i (sat ls G s))

/-- the answer is written down -/
theorem ho_fin {w wc w9 : World} {tb n cL N cF g mb i s : Nat} {AL AF : Option Addr} {ls : List (List Arc)} {F G : Form} {E : List Nat} {D D' : DU} {r : Bool} (hT : TsAt wc tb AL n cL ls AF N cF F g E mb D') (hlow : ∀ j t, j ≤ i → t < n → Maps.has D' (pairL j t) = Maps.has D (pairL j t)) (hno : Maps.has D (pairL i s) = false)
    (hG : Occ F i G) (hi : i < N) (hs : s < n) (hK : TsOk ls F n N E) (hO : Outside (fun k => k = mb) w wc) (hr : sat ls G s = r) (hown : w9.ownsMap Try.prog 103 (plainElem (H := Unit) Try.prog 4) mb (cntM N n D' + 1) (D'.put (pairL i s) (.lit (.bool r)))) (hg : wc.grownBy w9 (some mb)) :
    HoPost w tb AL n cL ls AF N cF F g E mb D i (sat ls G s) (.returned (.bool r)) w9 := by
  subst hr
  have hN := hK.small
  have hn := hK.few
  obtain ⟨hM, hc⟩ := hT.memo.put (by omega) (by omega) hi hs hG (by rw [hlow i s (Nat.le_refl _) hs]; exact hno)
  have hO9 : Outside (fun k => k = mb) wc w9 := (Outside.refl _ wc).grown hg (fun z hz => .inl (by injection hz with hz; exact hz.symm))
  rw [← hc] at hown
  refine ⟨rfl, ⟨_, hT.turn hO9 hown hM, fun j t hj ht => ?_⟩, hO.trans hO9⟩
  rw [Maps.has_put_other (fun e => by
    have := pairL_inj (show j ≤ 1000000 by omega) (show t ≤ 1000000 by omega) (show i ≤ 1000000 by omega) (show s ≤ 1000000 by omega) e
    omega)]
  exact hlow j t (by omega) ht
theorem TsAt.drewT {w : World} {tb n cL N cF g mb : Nat} {AL AF : Option Addr} {ls : List (List Arc)} {F : Form} {E : List Nat} {D : DU} (h : TsAt w tb AL n cL ls AF N cF F g E mb D) : TsAt w.drew tb AL n cL ls AF N cF F g E mb D := h.below ((Below.refl _ _).drew)
theorem Blk.alloc0 {w : World} {b : Nat} {t : TypeId} {cs : Array Value} (h : Blk w b t cs) : Blk w.drew b t cs := h.drew

set_option maxRecDepth 100000 in
theorem ho_step {ls : List (List Arc)} {F G : Form} (ih : ∀ k H, Occ G k H → k ≠ 0 → HoOk ls F H) : HoOk ls F G := by
  intro tb n cL N cF g mb i s AL AF E D w hG hs hT hK
  have HI := Lib.hid ih
  have HG := Lib.hid hG
  have HK := Lib.hid hK
  have HT := Lib.hid hT
  have hgl := hG.lt
  have hgp := encP G
  have hN := hK.small
  have hfl := hK.flen
  have hn := hK.few
  have hi : i < N := by omega
  have HT0 := Lib.hid (hT.below ((Below.refl w.heap.size w).alloc (Nat.le_refl _) (.cells #[.int .i64 i, .int .i64 s] 103)))
  have HTd := Lib.hid (HT0.out.below ((Below.refl _ _).drew))
  have HKB := Lib.hid (Blk.new w 103 #[.int .i64 i, .int .i64 s])
  have HKEY := Lib.hid (show keyOf Try.prog 103 (.agg #[.int .i64 i, .int .i64 s]) = some (pairL i s) from pairL_key (by omega) (by omega))
  have tc := HT0.out.blk.cell
  have tl := HT0.out.blk.lt
  have kc := HKB.out.cell
  have kl := HKB.out.lt
  clear ih hG hK hT hgl hfl
  go_enter Try.func57, Try.ntmps57
  go_wp2_with (first | ((with_reducible show wpPlan _ _ _ ((5, 2, _) :: _) _ _ _); refine wpPlan_eff rfl rfl (fun _ hK => ?_); refine wp_lookup_bool _ _ 83 rfl 103 4 lawP Try.underlying83 Try.underlying4 (zeroBool _) mb _ D rfl HTd.out.map _ (pairL i s) rfl HKEY.out ?_; intro cx hat; refine hK _ _ ?_; refine Stop7.intro ?_) | ((with_reducible show wpPlan _ _ _ _ _ (Act.put _ _ _) _); simp only [List.getElem_toArray, List.getElem_cons_succ, List.getElem_cons_zero, Act.put, List.setIfInBounds_toArray, List.set_cons_zero, List.set_cons_succ]) | ((with_reducible show wpPlan _ _ _ _ _ _ _); first | refine wpPlan_nil ?_ | (refine wpPlan_read0 rfl ?hw rfl (fun _ _ _ => ?_); case hw => ((conv => (lhs; whnf)); first | done | with_reducible rfl)) | (refine wpPlan_read1d rfl ?hw rfl rfl (fun _ _ _ => ?_); case hw => ((conv => (lhs; whnf)); first | done | with_reducible rfl)) | (refine wpPlan_eff rfl ?hw (fun _ _ => ?_); case hw => ((conv => (lhs; whnf)); first | done | with_reducible rfl)) | (refine wpPlan_skip0 rfl ?hw ?_; case hw => ((conv => (lhs; whnf)); first | done | with_reducible rfl)) | (refine wpPlan_skip1d rfl ?hw ?_; case hw => ((conv => (lhs; whnf)); first | done | with_reducible rfl)) | (refine wpPlan_skip2 rfl ?hw ?_; case hw => ((conv => (lhs; whnf)); first | done | with_reducible rfl)) | (refine wpPlan_read1 rfl ?hw rfl (fun _ _ _ => ?_); case hw => ((conv => (lhs; whnf)); first | done | with_reducible rfl)) | refine wpPlan_fork ?_ ?_) | ((with_reducible show Owed _ _ _ _ _ _ _ _ _); first | refine Owed.none_ ?_ | refine Owed.nil_ ?_ | refine Owed.miss rfl ?_ | refine Owed.hit ?_ ?_) | ((with_reducible show Same _ _ _ _ _); intro _; go_simp; done) | (with_reducible exact True.intro) | ((with_reducible show Code.wp _ (Code.region 2 _ true) _ _ _); refine wp_region_plan [(0, 0, []), (1, 1, []), (2, 1, []), (3, 1, []), (4, 1, []), (5, 2, []), (6, 0, []), (7, 1, []), (8, 1, []), (9, 0, []), (10, 0, [])] (by kernel_rfl) (by kernel_rfl) (by kernel_rfl) ?_) | ((with_reducible show Code.wp _ (Code.region 12 _ true) _ _ _); refine wp_region_plan [(0, 0, []), (1, 0, []), (2, 1, []), (3, 1, []), (4, 0, []), (5, 1, []), (6, 1, []), (7, 1, []), (8, 0, []), (9, 1, []), (10, 1, []), (11, 1, []), (12, 1, []), (13, 0, []), (14, 0, []), (15, 0, []), (16, 1, []), (17, 1, []), (18, 1, []), (19, 2, []), (20, 0, []), (21, 0, []), (22, 0, [])] (by kernel_rfl) (by kernel_rfl) (by kernel_rfl) ?_) | ((with_reducible show Code.wp _ (Code.region 21 _ true) _ _ _); refine wp_region_plan [(0, 0, []), (1, 1, []), (2, 1, []), (3, 1, []), (4, 1, []), (5, 0, []), (6, 2, [])] (by kernel_rfl) (by kernel_rfl) (by kernel_rfl) ?_))
  unfold Stop7
  obtain ⟨hv, hhv⟩ : ∃ hv, Maps.has D (pairL i s) = hv := ⟨_, rfl⟩
  have HHV := Lib.hid hhv
  rw [hhv]
  clear hhv hK
  cases hv
  · have HNN := Lib.hid (show N * n < maxLen from by
      have h1 : N * n ≤ 4096 * 16384 := Nat.mul_le_mul hN hn
      unfold maxLen
      omega)
    obtain ⟨b1, o1, x, rfl, hb1, hx, c0, c1, c2⟩ := HTd.out.frm.node hi
    have hxG : G.enc[0]? = some x := by
      have h1 := HG.out.get 0 hgp
      rw [Nat.add_zero, hx] at h1
      exact h1.symm
    have hb1l : b1 < w.heap.size + 1 := by have := HTd.out.blk.lt; simp at this; omega
    clear hat hx
    cases G with
    | tru =>
      obtain rfl : (⟨1, 0, 0⟩ : FNode) = x := by
        rw [Form.enc] at hxG
        simpa using hxG
      dsimp only at c0 c1 c2
      have HTF := Lib.hid (HTd.out.below ((Below.refl _ _).drew))
      have HLW := Lib.hid (show ∀ j t, j ≤ i → t < n → Maps.has D (pairL j t) = Maps.has D (pairL j t) from fun _ _ _ _ => rfl)
      have HOF := Lib.hid ((((Outside.refl (fun k => k = mb) w).alloc (.cells #[.int .i64 i, .int .i64 s] 103)).drew).drew)
      go_wp2_with (first | ((with_reducible show wpPlan _ _ _ ((6, 2, _) :: _) _ _ _); refine wpPlan_eff rfl rfl (fun _ hK => ?_); refine wp_mapUpdate_bool _ _ _ 83 rfl 103 4 lawP Try.underlying83 Try.underlying4 mb _ D rfl HTF.out.map (Nat.lt_of_le_of_lt (cntM_le N n D) HNN.out) _ (pairL i s) true rfl rfl HKEY.out ?_; intro w9 hown9 hgrow9; refine hK _ _ ?_; refine Stop7.intro ?_) | ((with_reducible show wpPlan _ _ _ _ _ (Act.put _ _ _) _); simp only [List.getElem_toArray, List.getElem_cons_succ, List.getElem_cons_zero, Act.put, List.setIfInBounds_toArray, List.set_cons_zero, List.set_cons_succ]) | ((with_reducible show wpPlan _ _ _ _ _ _ _); first | refine wpPlan_nil ?_ | (refine wpPlan_read0 rfl ?hw rfl (fun _ _ _ => ?_); case hw => ((conv => (lhs; whnf)); first | done | with_reducible rfl)) | (refine wpPlan_read1d rfl ?hw rfl rfl (fun _ _ _ => ?_); case hw => ((conv => (lhs; whnf)); first | done | with_reducible rfl)) | (refine wpPlan_eff rfl ?hw (fun _ _ => ?_); case hw => ((conv => (lhs; whnf)); first | done | with_reducible rfl)) | (refine wpPlan_skip0 rfl ?hw ?_; case hw => ((conv => (lhs; whnf)); first | done | with_reducible rfl)) | (refine wpPlan_skip1d rfl ?hw ?_; case hw => ((conv => (lhs; whnf)); first | done | with_reducible rfl)) | (refine wpPlan_skip2 rfl ?hw ?_; case hw => ((conv => (lhs; whnf)); first | done | with_reducible rfl)) | (refine wpPlan_read1 rfl ?hw rfl (fun _ _ _ => ?_); case hw => ((conv => (lhs; whnf)); first | done | with_reducible rfl)) | refine wpPlan_fork ?_ ?_) | ((with_reducible show Owed _ _ _ _ _ _ _ _ _); first | refine Owed.none_ ?_ | refine Owed.nil_ ?_ | refine Owed.miss rfl ?_ | refine Owed.hit ?_ ?_) | ((with_reducible show Same _ _ _ _ _); intro _; go_simp; done) | (with_reducible exact True.intro) | ((with_reducible show Code.wp _ (Code.region 2 _ true) _ _ _); refine wp_region_plan [(0, 0, []), (1, 1, []), (2, 1, []), (3, 1, []), (4, 1, []), (5, 2, []), (6, 0, []), (7, 1, []), (8, 1, []), (9, 0, []), (10, 0, [])] (by kernel_rfl) (by kernel_rfl) (by kernel_rfl) ?_) | ((with_reducible show Code.wp _ (Code.region 12 _ true) _ _ _); refine wp_region_plan [(0, 0, []), (1, 0, []), (2, 1, []), (3, 1, []), (4, 0, []), (5, 1, []), (6, 1, []), (7, 1, []), (8, 0, []), (9, 1, []), (10, 1, []), (11, 1, []), (12, 1, []), (13, 0, []), (14, 0, []), (15, 0, []), (16, 1, []), (17, 1, []), (18, 1, []), (19, 2, []), (20, 0, []), (21, 0, []), (22, 0, [])] (by kernel_rfl) (by kernel_rfl) (by kernel_rfl) ?_) | ((with_reducible show Code.wp _ (Code.region 21 _ true) _ _ _); refine wp_region_plan [(0, 0, []), (1, 1, []), (2, 1, []), (3, 1, []), (4, 1, []), (5, 0, []), (6, 2, [])] (by kernel_rfl) (by kernel_rfl) (by kernel_rfl) ?_))
      unfold Stop7
      have HZ := Lib.hid (ho_fin HTF.out (fun _ _ _ _ => rfl) HHV.out HG.out hi hs HK.out HOF.out (by rw [sat]) hown9 hgrow9)
      clear hown9 hgrow9 hK
      go_wp2_with (first | ((with_reducible show wpPlan _ _ _ _ _ (Act.put _ _ _) _); simp only [List.getElem_toArray, List.getElem_cons_succ, List.getElem_cons_zero, Act.put, List.setIfInBounds_toArray, List.set_cons_zero, List.set_cons_succ]) | ((with_reducible show wpPlan _ _ _ _ _ _ _); first | refine wpPlan_nil ?_ | (refine wpPlan_read0 rfl ?hw rfl (fun _ _ _ => ?_); case hw => ((conv => (lhs; whnf)); first | done | with_reducible rfl)) | (refine wpPlan_read1d rfl ?hw rfl rfl (fun _ _ _ => ?_); case hw => ((conv => (lhs; whnf)); first | done | with_reducible rfl)) | (refine wpPlan_eff rfl ?hw (fun _ _ => ?_); case hw => ((conv => (lhs; whnf)); first | done | with_reducible rfl)) | (refine wpPlan_skip0 rfl ?hw ?_; case hw => ((conv => (lhs; whnf)); first | done | with_reducible rfl)) | (refine wpPlan_skip1d rfl ?hw ?_; case hw => ((conv => (lhs; whnf)); first | done | with_reducible rfl)) | (refine wpPlan_skip2 rfl ?hw ?_; case hw => ((conv => (lhs; whnf)); first | done | with_reducible rfl)) | (refine wpPlan_read1 rfl ?hw rfl (fun _ _ _ => ?_); case hw => ((conv => (lhs; whnf)); first | done | with_reducible rfl)) | refine wpPlan_fork ?_ ?_) | ((with_reducible show Owed _ _ _ _ _ _ _ _ _); first | refine Owed.none_ ?_ | refine Owed.nil_ ?_ | refine Owed.miss rfl ?_ | refine Owed.hit ?_ ?_) | ((with_reducible show Same _ _ _ _ _); intro _; go_simp; done) | (with_reducible exact True.intro) | ((with_reducible show Code.wp _ (Code.region 2 _ true) _ _ _); refine wp_region_plan [(0, 0, []), (1, 1, []), (2, 1, []), (3, 1, []), (4, 1, []), (5, 2, []), (6, 0, []), (7, 1, []), (8, 1, []), (9, 0, []), (10, 0, [])] (by kernel_rfl) (by kernel_rfl) (by kernel_rfl) ?_) | ((with_reducible show Code.wp _ (Code.region 12 _ true) _ _ _); refine wp_region_plan [(0, 0, []), (1, 0, []), (2, 1, []), (3, 1, []), (4, 0, []), (5, 1, []), (6, 1, []), (7, 1, []), (8, 0, []), (9, 1, []), (10, 1, []), (11, 1, []), (12, 1, []), (13, 0, []), (14, 0, []), (15, 0, []), (16, 1, []), (17, 1, []), (18, 1, []), (19, 2, []), (20, 0, []), (21, 0, []), (22, 0, [])] (by kernel_rfl) (by kernel_rfl) (by kernel_rfl) ?_) | ((with_reducible show Code.wp _ (Code.region 21 _ true) _ _ _); refine wp_region_plan [(0, 0, []), (1, 1, []), (2, 1, []), (3, 1, []), (4, 1, []), (5, 0, []), (6, 2, [])] (by kernel_rfl) (by kernel_rfl) (by kernel_rfl) ?_))
      go_ret
      exact HZ.out
    | may e f =>
      obtain rfl : (⟨2, e, 1⟩ : FNode) = x := by
        rw [Form.enc] at hxG
        simpa using hxG
      dsimp only at c0 c1 c2
      obtain ⟨b4, o4, l, A4, n4, c4, rfl, hb4, hl, hln, e4, hrow⟩ := HTd.out.sys.row hs
      have HROW := Lib.hid hrow
      have hl4 : n4 ≤ 100000 := by have := HK.out.rows l (List.mem_of_getElem? hl); omega
      have HLL := Lib.hid (show rowAt ls s = l from rowAt_get hl)
      have HLN := Lib.hid hln
      have HTO := Lib.hid (show ∀ a ∈ l, 0 ≤ a.to ∧ a.to < (n : Int) from fun a ha => by have := HK.out.tos l (List.mem_of_getElem? hl) a ha; have := HK.out.len; omega)
      have hb4l : b4 < w.heap.size + 1 := by have := HTd.out.blk.lt; simp at this; omega
      have htl := HTd.out.blk.lt
      have HOF0 := Lib.hid (((Outside.refl (fun k => k = mb) w).alloc (.cells #[.int .i64 i, .int .i64 s] 103)).drew)
      clear hl hrow
      go_wp2_with (first | ((with_reducible show wpPlan _ _ _ _ _ (Act.put _ _ _) _); simp only [List.getElem_toArray, List.getElem_cons_succ, List.getElem_cons_zero, Act.put, List.setIfInBounds_toArray, List.set_cons_zero, List.set_cons_succ]) | ((with_reducible show wpPlan _ _ _ _ _ _ _); first | refine wpPlan_nil ?_ | (refine wpPlan_read0 rfl ?hw rfl (fun _ _ _ => ?_); case hw => ((conv => (lhs; whnf)); first | done | with_reducible rfl)) | (refine wpPlan_read1d rfl ?hw rfl rfl (fun _ _ _ => ?_); case hw => ((conv => (lhs; whnf)); first | done | with_reducible rfl)) | (refine wpPlan_eff rfl ?hw (fun _ _ => ?_); case hw => ((conv => (lhs; whnf)); first | done | with_reducible rfl)) | (refine wpPlan_skip0 rfl ?hw ?_; case hw => ((conv => (lhs; whnf)); first | done | with_reducible rfl)) | (refine wpPlan_skip1d rfl ?hw ?_; case hw => ((conv => (lhs; whnf)); first | done | with_reducible rfl)) | (refine wpPlan_skip2 rfl ?hw ?_; case hw => ((conv => (lhs; whnf)); first | done | with_reducible rfl)) | (refine wpPlan_read1 rfl ?hw rfl (fun _ _ _ => ?_); case hw => ((conv => (lhs; whnf)); first | done | with_reducible rfl)) | refine wpPlan_fork ?_ ?_) | ((with_reducible show Owed _ _ _ _ _ _ _ _ _); first | refine Owed.none_ ?_ | refine Owed.nil_ ?_ | refine Owed.miss rfl ?_ | refine Owed.hit ?_ ?_) | ((with_reducible show Same _ _ _ _ _); intro _; go_simp; done) | (with_reducible exact True.intro) | ((with_reducible show Code.wp _ (Code.region 2 _ true) _ _ _); refine wp_region_plan [(0, 0, []), (1, 1, []), (2, 1, []), (3, 1, []), (4, 1, []), (5, 2, []), (6, 0, []), (7, 1, []), (8, 1, []), (9, 0, []), (10, 0, [])] (by kernel_rfl) (by kernel_rfl) (by kernel_rfl) ?_) | ((with_reducible show Code.wp _ (Code.region 12 _ true) _ _ _); refine wp_region_plan [(0, 0, []), (1, 0, []), (2, 1, []), (3, 1, []), (4, 0, []), (5, 1, []), (6, 1, []), (7, 1, []), (8, 0, []), (9, 1, []), (10, 1, []), (11, 1, []), (12, 1, []), (13, 0, []), (14, 0, []), (15, 0, []), (16, 1, []), (17, 1, []), (18, 1, []), (19, 2, []), (20, 0, []), (21, 0, []), (22, 0, [])] (by kernel_rfl) (by kernel_rfl) (by kernel_rfl) ?_) | ((with_reducible show Code.wp _ (Code.region 21 _ true) _ _ _); refine wp_region_plan [(0, 0, []), (1, 1, []), (2, 1, []), (3, 1, []), (4, 1, []), (5, 0, []), (6, 2, [])] (by kernel_rfl) (by kernel_rfl) (by kernel_rfl) ?_))
      go_loopw [10, 47] (fun vr vk wr => ∃ (k : Nat) (q : Bool) (D3 : DU), k ≤ n4 ∧ vk = .int .i64 k ∧ vr = .bool q ∧ Hid (q = (l.take k).any (fun a => decide (a.ev = e) && sat ls f a.to.toNat) ∧ TsAt wr tb (some ⟨b4, o4, none⟩) n cL ls (some ⟨b1, o1, none⟩) N cF F g E mb D3 ∧ (∀ j t, j ≤ i → t < n → Maps.has D3 (pairL j t) = Maps.has D (pairL j t)) ∧ Outside (fun k => k = mb) w wr ∧ Blk wr w.heap.size 103 #[.int .i64 i, .int .i64 s] ∧ Rd wr tb 2 A4 n4 (cellsOf Arc.cells l) ∧ Rd wr tb 3 (some ⟨b1, o1, none⟩) N (cellsOf FNode.cells F.enc))) (fun _ vk _ => n4 - (intOf vk).toNat)
      case atStart => exact ⟨0, false, D, Nat.zero_le _, rfl, rfl, Lib.hid ⟨rfl, HTd.out, (fun _ _ _ _ => rfl), HOF0.out, HKB.out.alloc0, HROW.out, HTd.out.frm⟩⟩
      case round =>
        obtain ⟨k, q, D3, hk, rfl, rfl, HW⟩ := hrel
        obtain ⟨y1, y2, y3, y4, y5, y6, y7⟩ := HW.out
        have Y1 := Lib.hid y1
        have Y2 := Lib.hid y2
        have Y3 := Lib.hid y3
        have Y4 := Lib.hid y4
        have Y5 := Lib.hid y5
        have Y6 := Lib.hid y6
        have hwl := y4.size
        have hml := y2.map.lt
        have htbl := y2.blk.lt
        have hmlt := y2.lt
        by_cases hlt : k < n4
        · obtain ⟨b5, o5, x5, rfl, hb5, hx5, d0, d1⟩ := y6.arc hlt
          have hxt := HTO.out x5 (List.mem_of_getElem? hx5)
          have HTK := Lib.hid (show (l.take (k + 1)).any (fun a => decide (a.ev = e) && sat ls f a.to.toNat) = (q || (decide (x5.ev = e) && sat ls f x5.to.toNat)) by
            rw [List.take_add_one, hx5, List.any_append, Y1.out]
            simp)
          obtain ⟨xe, xt⟩ := x5
          dsimp only at d0 d1 hxt HTK
          obtain ⟨p, rfl⟩ : ∃ p : Nat, xt = p := ⟨xt.toNat, by omega⟩
          rw [Int.toNat_natCast] at HTK
          obtain ⟨b6, o6, x6, e6, hb6, hx6, f0, f1, f2⟩ := y7.node hi
          obtain ⟨rfl, rfl⟩ : b1 = b6 ∧ o1 = o6 := by simpa using e6
          obtain rfl : (⟨2, e, 1⟩ : FNode) = x6 := by
            have h1 := HG.out.get 0 hgp
            rw [Nat.add_zero, hx6, hxG] at h1
            exact (Option.some.inj h1).symm
          dsimp only at f1
          have hb5w : b5 < wr.heap.size := by omega
          have hb1w : b1 < wr.heap.size := by omega
          have HA := Lib.hid (Blk.new wr 23 #[.int .i64 xe, .int .i64 p])
          have hbA := ((Below.refl wr.heap.size wr).alloc (Nat.le_refl _) (.cells #[.int .i64 xe, .int .i64 p] 23)).drew
          have HTA := Lib.hid (Y2.out.below hbA)
          have HKA := Lib.hid (Y5.out.below hbA Y5.out.lt)
          have HRA := Lib.hid (Y6.out.below (hbA.mono (Nat.le_of_lt htbl)))
          have HOA := Lib.hid (((Y4.out.alloc (.cells #[.int .i64 xe, .int .i64 p] 23))).drew)
          have tac := HTA.out.blk.cell
          have tal := HTA.out.blk.lt
          clear y1 y2 y3 y4 y5 y6 y7 hx5 hx6 e6 hbA f0 f2
          cases q
          · by_cases hxe : xe = e
            · subst hxe
              go_wp2_with (first | ((with_reducible show wpPlan _ _ _ _ _ (Act.put _ _ _) _); simp only [List.getElem_toArray, List.getElem_cons_succ, List.getElem_cons_zero, Act.put, List.setIfInBounds_toArray, List.set_cons_zero, List.set_cons_succ]) | ((with_reducible show wpPlan _ _ _ _ _ _ _); first | refine wpPlan_nil ?_ | (refine wpPlan_read0 rfl ?hw rfl (fun _ _ _ => ?_); case hw => ((conv => (lhs; whnf)); first | done | with_reducible rfl)) | (refine wpPlan_read1d rfl ?hw rfl rfl (fun _ _ _ => ?_); case hw => ((conv => (lhs; whnf)); first | done | with_reducible rfl)) | (refine wpPlan_eff rfl ?hw (fun _ _ => ?_); case hw => ((conv => (lhs; whnf)); first | done | with_reducible rfl)) | (refine wpPlan_skip0 rfl ?hw ?_; case hw => ((conv => (lhs; whnf)); first | done | with_reducible rfl)) | (refine wpPlan_skip1d rfl ?hw ?_; case hw => ((conv => (lhs; whnf)); first | done | with_reducible rfl)) | (refine wpPlan_skip2 rfl ?hw ?_; case hw => ((conv => (lhs; whnf)); first | done | with_reducible rfl)) | (refine wpPlan_read1 rfl ?hw rfl (fun _ _ _ => ?_); case hw => ((conv => (lhs; whnf)); first | done | with_reducible rfl)) | refine wpPlan_fork ?_ ?_) | ((with_reducible show Owed _ _ _ _ _ _ _ _ _); first | refine Owed.none_ ?_ | refine Owed.nil_ ?_ | refine Owed.miss rfl ?_ | refine Owed.hit ?_ ?_) | ((with_reducible show Same _ _ _ _ _); intro _; go_simp; done) | (with_reducible exact True.intro) | ((with_reducible show Code.wp _ (Code.region 2 _ true) _ _ _); refine wp_region_plan [(0, 0, []), (1, 1, []), (2, 1, []), (3, 1, []), (4, 1, []), (5, 2, []), (6, 0, []), (7, 1, []), (8, 1, []), (9, 0, []), (10, 0, [])] (by kernel_rfl) (by kernel_rfl) (by kernel_rfl) ?_) | ((with_reducible show Code.wp _ (Code.region 12 _ true) _ _ _); refine wp_region_plan [(0, 0, []), (1, 0, []), (2, 1, []), (3, 1, []), (4, 0, []), (5, 1, []), (6, 1, []), (7, 1, []), (8, 0, []), (9, 1, []), (10, 1, []), (11, 1, []), (12, 1, []), (13, 0, []), (14, 0, []), (15, 0, []), (16, 1, []), (17, 1, []), (18, 1, []), (19, 2, []), (20, 0, []), (21, 0, []), (22, 0, [])] (by kernel_rfl) (by kernel_rfl) (by kernel_rfl) ?_) | ((with_reducible show Code.wp _ (Code.region 21 _ true) _ _ _); refine wp_region_plan [(0, 0, []), (1, 1, []), (2, 1, []), (3, 1, []), (4, 1, []), (5, 0, []), (6, 2, [])] (by kernel_rfl) (by kernel_rfl) (by kernel_rfl) ?_))
              refine (HI.out 1 f (.may .self) (by decide) tb n cL N cF g mb (i + 1) p (some ⟨b4, o4, none⟩) (some ⟨b1, o1, none⟩) E D3 _ (HG.out.trans (.may .self)) (by omega) HTA.out HK.out).mono ?_
              rintro e9 w3 ⟨rfl, ⟨D4, hT4, hL4⟩, hO4⟩
              have HT4 := Lib.hid hT4
              have HL4 := Lib.hid (show ∀ j t, j ≤ i → t < n → Maps.has D4 (pairL j t) = Maps.has D (pairL j t) from fun j t hj ht => (hL4 j t (by omega) ht).trans (Y3.out j t hj ht))
              have HO4 := Lib.hid (HOA.out.trans hO4)
              have HK4 := Lib.hid (HKA.out.out hO4 (by have := HT.out.map.lt; omega))
              have hkp := turn_cell hO4 HTA.out.map hT4.map (Nat.le_of_lt tal)
              have HR4 := Lib.hid (HRA.out.keep hkp)
              have HQ4 := Lib.hid (show sat ls f p = (l.take (k + 1)).any (fun a => decide (a.ev = xe) && sat ls f a.to.toNat) by rw [HTK.out]; simp)
              clear hT4 hL4 hO4 hkp
              go_wp2_with (first | ((with_reducible show wpPlan _ _ _ _ _ (Act.put _ _ _) _); simp only [List.getElem_toArray, List.getElem_cons_succ, List.getElem_cons_zero, Act.put, List.setIfInBounds_toArray, List.set_cons_zero, List.set_cons_succ]) | ((with_reducible show wpPlan _ _ _ _ _ _ _); first | refine wpPlan_nil ?_ | (refine wpPlan_read0 rfl ?hw rfl (fun _ _ _ => ?_); case hw => ((conv => (lhs; whnf)); first | done | with_reducible rfl)) | (refine wpPlan_read1d rfl ?hw rfl rfl (fun _ _ _ => ?_); case hw => ((conv => (lhs; whnf)); first | done | with_reducible rfl)) | (refine wpPlan_eff rfl ?hw (fun _ _ => ?_); case hw => ((conv => (lhs; whnf)); first | done | with_reducible rfl)) | (refine wpPlan_skip0 rfl ?hw ?_; case hw => ((conv => (lhs; whnf)); first | done | with_reducible rfl)) | (refine wpPlan_skip1d rfl ?hw ?_; case hw => ((conv => (lhs; whnf)); first | done | with_reducible rfl)) | (refine wpPlan_skip2 rfl ?hw ?_; case hw => ((conv => (lhs; whnf)); first | done | with_reducible rfl)) | (refine wpPlan_read1 rfl ?hw rfl (fun _ _ _ => ?_); case hw => ((conv => (lhs; whnf)); first | done | with_reducible rfl)) | refine wpPlan_fork ?_ ?_) | ((with_reducible show Owed _ _ _ _ _ _ _ _ _); first | refine Owed.none_ ?_ | refine Owed.nil_ ?_ | refine Owed.miss rfl ?_ | refine Owed.hit ?_ ?_) | ((with_reducible show Same _ _ _ _ _); intro _; go_simp; done) | (with_reducible exact True.intro) | ((with_reducible show Code.wp _ (Code.region 2 _ true) _ _ _); refine wp_region_plan [(0, 0, []), (1, 1, []), (2, 1, []), (3, 1, []), (4, 1, []), (5, 2, []), (6, 0, []), (7, 1, []), (8, 1, []), (9, 0, []), (10, 0, [])] (by kernel_rfl) (by kernel_rfl) (by kernel_rfl) ?_) | ((with_reducible show Code.wp _ (Code.region 12 _ true) _ _ _); refine wp_region_plan [(0, 0, []), (1, 0, []), (2, 1, []), (3, 1, []), (4, 0, []), (5, 1, []), (6, 1, []), (7, 1, []), (8, 0, []), (9, 1, []), (10, 1, []), (11, 1, []), (12, 1, []), (13, 0, []), (14, 0, []), (15, 0, []), (16, 1, []), (17, 1, []), (18, 1, []), (19, 2, []), (20, 0, []), (21, 0, []), (22, 0, [])] (by kernel_rfl) (by kernel_rfl) (by kernel_rfl) ?_) | ((with_reducible show Code.wp _ (Code.region 21 _ true) _ _ _); refine wp_region_plan [(0, 0, []), (1, 1, []), (2, 1, []), (3, 1, []), (4, 1, []), (5, 0, []), (6, 2, [])] (by kernel_rfl) (by kernel_rfl) (by kernel_rfl) ?_))
              go_roundw
              case rel => exact ⟨k + 1, sat ls f p, D4, by omega, by go_num, rfl, Lib.hid ⟨HQ4.out, HT4.out, HL4.out, HO4.out, HK4.out, HR4.out, HT4.out.frm⟩⟩
              case measure => simp [intOf]; omega
            · have hxb : (xe == e) = false := beq_eq_false_iff_ne.2 hxe
              have HQ4 := Lib.hid (show false = (l.take (k + 1)).any (fun a => decide (a.ev = e) && sat ls f a.to.toNat) by rw [HTK.out]; simp [hxe])
              go_wp2_with (first | ((with_reducible show wpPlan _ _ _ _ _ (Act.put _ _ _) _); simp only [List.getElem_toArray, List.getElem_cons_succ, List.getElem_cons_zero, Act.put, List.setIfInBounds_toArray, List.set_cons_zero, List.set_cons_succ]) | ((with_reducible show wpPlan _ _ _ _ _ _ _); first | refine wpPlan_nil ?_ | (refine wpPlan_read0 rfl ?hw rfl (fun _ _ _ => ?_); case hw => ((conv => (lhs; whnf)); first | done | with_reducible rfl)) | (refine wpPlan_read1d rfl ?hw rfl rfl (fun _ _ _ => ?_); case hw => ((conv => (lhs; whnf)); first | done | with_reducible rfl)) | (refine wpPlan_eff rfl ?hw (fun _ _ => ?_); case hw => ((conv => (lhs; whnf)); first | done | with_reducible rfl)) | (refine wpPlan_skip0 rfl ?hw ?_; case hw => ((conv => (lhs; whnf)); first | done | with_reducible rfl)) | (refine wpPlan_skip1d rfl ?hw ?_; case hw => ((conv => (lhs; whnf)); first | done | with_reducible rfl)) | (refine wpPlan_skip2 rfl ?hw ?_; case hw => ((conv => (lhs; whnf)); first | done | with_reducible rfl)) | (refine wpPlan_read1 rfl ?hw rfl (fun _ _ _ => ?_); case hw => ((conv => (lhs; whnf)); first | done | with_reducible rfl)) | refine wpPlan_fork ?_ ?_) | ((with_reducible show Owed _ _ _ _ _ _ _ _ _); first | refine Owed.none_ ?_ | refine Owed.nil_ ?_ | refine Owed.miss rfl ?_ | refine Owed.hit ?_ ?_) | ((with_reducible show Same _ _ _ _ _); intro _; go_simp; done) | (with_reducible exact True.intro) | ((with_reducible show Code.wp _ (Code.region 2 _ true) _ _ _); refine wp_region_plan [(0, 0, []), (1, 1, []), (2, 1, []), (3, 1, []), (4, 1, []), (5, 2, []), (6, 0, []), (7, 1, []), (8, 1, []), (9, 0, []), (10, 0, [])] (by kernel_rfl) (by kernel_rfl) (by kernel_rfl) ?_) | ((with_reducible show Code.wp _ (Code.region 12 _ true) _ _ _); refine wp_region_plan [(0, 0, []), (1, 0, []), (2, 1, []), (3, 1, []), (4, 0, []), (5, 1, []), (6, 1, []), (7, 1, []), (8, 0, []), (9, 1, []), (10, 1, []), (11, 1, []), (12, 1, []), (13, 0, []), (14, 0, []), (15, 0, []), (16, 1, []), (17, 1, []), (18, 1, []), (19, 2, []), (20, 0, []), (21, 0, []), (22, 0, [])] (by kernel_rfl) (by kernel_rfl) (by kernel_rfl) ?_) | ((with_reducible show Code.wp _ (Code.region 21 _ true) _ _ _); refine wp_region_plan [(0, 0, []), (1, 1, []), (2, 1, []), (3, 1, []), (4, 1, []), (5, 0, []), (6, 2, [])] (by kernel_rfl) (by kernel_rfl) (by kernel_rfl) ?_))
              go_roundw
              case rel => exact ⟨k + 1, false, D3, by omega, by go_num, rfl, Lib.hid ⟨HQ4.out, HTA.out, Y3.out, HOA.out, HKA.out, HRA.out, HTA.out.frm⟩⟩
              case measure => simp [intOf]; omega
          · have HQ4 := Lib.hid (show true = (l.take (k + 1)).any (fun a => decide (a.ev = e) && sat ls f a.to.toNat) by rw [HTK.out]; rfl)
            go_wp2_with (first | ((with_reducible show wpPlan _ _ _ _ _ (Act.put _ _ _) _); simp only [List.getElem_toArray, List.getElem_cons_succ, List.getElem_cons_zero, Act.put, List.setIfInBounds_toArray, List.set_cons_zero, List.set_cons_succ]) | ((with_reducible show wpPlan _ _ _ _ _ _ _); first | refine wpPlan_nil ?_ | (refine wpPlan_read0 rfl ?hw rfl (fun _ _ _ => ?_); case hw => ((conv => (lhs; whnf)); first | done | with_reducible rfl)) | (refine wpPlan_read1d rfl ?hw rfl rfl (fun _ _ _ => ?_); case hw => ((conv => (lhs; whnf)); first | done | with_reducible rfl)) | (refine wpPlan_eff rfl ?hw (fun _ _ => ?_); case hw => ((conv => (lhs; whnf)); first | done | with_reducible rfl)) | (refine wpPlan_skip0 rfl ?hw ?_; case hw => ((conv => (lhs; whnf)); first | done | with_reducible rfl)) | (refine wpPlan_skip1d rfl ?hw ?_; case hw => ((conv => (lhs; whnf)); first | done | with_reducible rfl)) | (refine wpPlan_skip2 rfl ?hw ?_; case hw => ((conv => (lhs; whnf)); first | done | with_reducible rfl)) | (refine wpPlan_read1 rfl ?hw rfl (fun _ _ _ => ?_); case hw => ((conv => (lhs; whnf)); first | done | with_reducible rfl)) | refine wpPlan_fork ?_ ?_) | ((with_reducible show Owed _ _ _ _ _ _ _ _ _); first | refine Owed.none_ ?_ | refine Owed.nil_ ?_ | refine Owed.miss rfl ?_ | refine Owed.hit ?_ ?_) | ((with_reducible show Same _ _ _ _ _); intro _; go_simp; done) | (with_reducible exact True.intro) | ((with_reducible show Code.wp _ (Code.region 2 _ true) _ _ _); refine wp_region_plan [(0, 0, []), (1, 1, []), (2, 1, []), (3, 1, []), (4, 1, []), (5, 2, []), (6, 0, []), (7, 1, []), (8, 1, []), (9, 0, []), (10, 0, [])] (by kernel_rfl) (by kernel_rfl) (by kernel_rfl) ?_) | ((with_reducible show Code.wp _ (Code.region 12 _ true) _ _ _); refine wp_region_plan [(0, 0, []), (1, 0, []), (2, 1, []), (3, 1, []), (4, 0, []), (5, 1, []), (6, 1, []), (7, 1, []), (8, 0, []), (9, 1, []), (10, 1, []), (11, 1, []), (12, 1, []), (13, 0, []), (14, 0, []), (15, 0, []), (16, 1, []), (17, 1, []), (18, 1, []), (19, 2, []), (20, 0, []), (21, 0, []), (22, 0, [])] (by kernel_rfl) (by kernel_rfl) (by kernel_rfl) ?_) | ((with_reducible show Code.wp _ (Code.region 21 _ true) _ _ _); refine wp_region_plan [(0, 0, []), (1, 1, []), (2, 1, []), (3, 1, []), (4, 1, []), (5, 0, []), (6, 2, [])] (by kernel_rfl) (by kernel_rfl) (by kernel_rfl) ?_))
            go_roundw
            case rel => exact ⟨k + 1, true, D3, by omega, by go_num, rfl, Lib.hid ⟨HQ4.out, HTA.out, Y3.out, HOA.out, HKA.out, HRA.out, HTA.out.frm⟩⟩
            case measure => simp [intOf]; omega
        · have hkn : k = n4 := by omega
          subst hkn
          have HTF := Lib.hid y2.drewT
          have HLW := Lib.hid y3
          have HOF := Lib.hid y4.drew
          have HEQ := Lib.hid (show sat ls (.may e f) s = q by
            rw [sat, HLL.out, Y1.out, List.take_of_length_le (by rw [HLN.out]; exact Nat.le_refl _)])
          have k3c := y5.cell
          have k3l := y5.lt
          have t3c := y2.blk.cell
          have t3l := y2.blk.lt
          clear y1 y2 y3 y4 y5 y6 y7 tc tl kc kl
          go_wp2_with (first | ((with_reducible show wpPlan _ _ _ ((6, 2, _) :: _) _ _ _); refine wpPlan_eff rfl rfl (fun _ hK => ?_); refine wp_mapUpdate_bool _ _ _ 83 rfl 103 4 lawP Try.underlying83 Try.underlying4 mb _ D3 rfl HTF.out.map (Nat.lt_of_le_of_lt (cntM_le N n D3) HNN.out) _ (pairL i s) q rfl rfl HKEY.out ?_; intro w9 hown9 hgrow9; refine hK _ _ ?_; refine Stop7.intro ?_) | ((with_reducible show wpPlan _ _ _ _ _ (Act.put _ _ _) _); simp only [List.getElem_toArray, List.getElem_cons_succ, List.getElem_cons_zero, Act.put, List.setIfInBounds_toArray, List.set_cons_zero, List.set_cons_succ]) | ((with_reducible show wpPlan _ _ _ _ _ _ _); first | refine wpPlan_nil ?_ | (refine wpPlan_read0 rfl ?hw rfl (fun _ _ _ => ?_); case hw => ((conv => (lhs; whnf)); first | done | with_reducible rfl)) | (refine wpPlan_read1d rfl ?hw rfl rfl (fun _ _ _ => ?_); case hw => ((conv => (lhs; whnf)); first | done | with_reducible rfl)) | (refine wpPlan_eff rfl ?hw (fun _ _ => ?_); case hw => ((conv => (lhs; whnf)); first | done | with_reducible rfl)) | (refine wpPlan_skip0 rfl ?hw ?_; case hw => ((conv => (lhs; whnf)); first | done | with_reducible rfl)) | (refine wpPlan_skip1d rfl ?hw ?_; case hw => ((conv => (lhs; whnf)); first | done | with_reducible rfl)) | (refine wpPlan_skip2 rfl ?hw ?_; case hw => ((conv => (lhs; whnf)); first | done | with_reducible rfl)) | (refine wpPlan_read1 rfl ?hw rfl (fun _ _ _ => ?_); case hw => ((conv => (lhs; whnf)); first | done | with_reducible rfl)) | refine wpPlan_fork ?_ ?_) | ((with_reducible show Owed _ _ _ _ _ _ _ _ _); first | refine Owed.none_ ?_ | refine Owed.nil_ ?_ | refine Owed.miss rfl ?_ | refine Owed.hit ?_ ?_) | ((with_reducible show Same _ _ _ _ _); intro _; go_simp; done) | (with_reducible exact True.intro) | ((with_reducible show Code.wp _ (Code.region 2 _ true) _ _ _); refine wp_region_plan [(0, 0, []), (1, 1, []), (2, 1, []), (3, 1, []), (4, 1, []), (5, 2, []), (6, 0, []), (7, 1, []), (8, 1, []), (9, 0, []), (10, 0, [])] (by kernel_rfl) (by kernel_rfl) (by kernel_rfl) ?_) | ((with_reducible show Code.wp _ (Code.region 12 _ true) _ _ _); refine wp_region_plan [(0, 0, []), (1, 0, []), (2, 1, []), (3, 1, []), (4, 0, []), (5, 1, []), (6, 1, []), (7, 1, []), (8, 0, []), (9, 1, []), (10, 1, []), (11, 1, []), (12, 1, []), (13, 0, []), (14, 0, []), (15, 0, []), (16, 1, []), (17, 1, []), (18, 1, []), (19, 2, []), (20, 0, []), (21, 0, []), (22, 0, [])] (by kernel_rfl) (by kernel_rfl) (by kernel_rfl) ?_) | ((with_reducible show Code.wp _ (Code.region 21 _ true) _ _ _); refine wp_region_plan [(0, 0, []), (1, 1, []), (2, 1, []), (3, 1, []), (4, 1, []), (5, 0, []), (6, 2, [])] (by kernel_rfl) (by kernel_rfl) (by kernel_rfl) ?_))
          unfold Stop7
          have HZ := Lib.hid (ho_fin HTF.out HLW.out HHV.out HG.out hi hs HK.out HOF.out HEQ.out hown9 hgrow9)
          clear hown9 hgrow9 hK
          go_wp2_with (first | ((with_reducible show wpPlan _ _ _ _ _ (Act.put _ _ _) _); simp only [List.getElem_toArray, List.getElem_cons_succ, List.getElem_cons_zero, Act.put]) | ((with_reducible show wpPlan _ _ _ _ _ _ _); first | refine wpPlan_nil ?_ | (refine wpPlan_read0 rfl ?hw rfl (fun _ _ _ => ?_); case hw => ((conv => (lhs; whnf)); first | done | with_reducible rfl)) | (refine wpPlan_read1d rfl ?hw rfl rfl (fun _ _ _ => ?_); case hw => ((conv => (lhs; whnf)); first | done | with_reducible rfl)) | (refine wpPlan_eff rfl ?hw (fun _ _ => ?_); case hw => ((conv => (lhs; whnf)); first | done | with_reducible rfl)) | (refine wpPlan_skip0 rfl ?hw ?_; case hw => ((conv => (lhs; whnf)); first | done | with_reducible rfl)) | (refine wpPlan_skip1d rfl ?hw ?_; case hw => ((conv => (lhs; whnf)); first | done | with_reducible rfl)) | (refine wpPlan_skip2 rfl ?hw ?_; case hw => ((conv => (lhs; whnf)); first | done | with_reducible rfl)) | (refine wpPlan_read1 rfl ?hw rfl (fun _ _ _ => ?_); case hw => ((conv => (lhs; whnf)); first | done | with_reducible rfl)) | refine wpPlan_fork ?_ ?_) | ((with_reducible show Owed _ _ _ _ _ _ _ _ _); first | refine Owed.none_ ?_ | refine Owed.nil_ ?_ | refine Owed.miss rfl ?_ | refine Owed.hit ?_ ?_) | ((with_reducible show Same _ _ _ _ _); intro _; go_simp; done) | (with_reducible exact True.intro) | ((with_reducible show Code.wp _ (Code.region 2 _ true) _ _ _); refine wp_region_plan [(0, 0, []), (1, 1, []), (2, 1, []), (3, 1, []), (4, 1, []), (5, 2, []), (6, 0, []), (7, 1, []), (8, 1, []), (9, 0, []), (10, 0, [])] (by kernel_rfl) (by kernel_rfl) (by kernel_rfl) ?_) | ((with_reducible show Code.wp _ (Code.region 12 _ true) _ _ _); refine wp_region_plan [(0, 0, []), (1, 0, []), (2, 1, []), (3, 1, []), (4, 0, []), (5, 1, []), (6, 1, []), (7, 1, []), (8, 0, []), (9, 1, []), (10, 1, []), (11, 1, []), (12, 1, []), (13, 0, []), (14, 0, []), (15, 0, []), (16, 1, []), (17, 1, []), (18, 1, []), (19, 2, []), (20, 0, []), (21, 0, []), (22, 0, [])] (by kernel_rfl) (by kernel_rfl) (by kernel_rfl) ?_) | ((with_reducible show Code.wp _ (Code.region 21 _ true) _ _ _); refine wp_region_plan [(0, 0, []), (1, 1, []), (2, 1, []), (3, 1, []), (4, 1, []), (5, 0, []), (6, 2, [])] (by kernel_rfl) (by kernel_rfl) (by kernel_rfl) ?_))
          go_ret
          exact HZ.out
    | neg f =>
      obtain rfl : (⟨3, 0, 1⟩ : FNode) = x := by
        rw [Form.enc] at hxG
        simpa using hxG
      dsimp only at c0 c1 c2
      go_wp2_with (first | ((with_reducible show wpPlan _ _ _ _ _ (Act.put _ _ _) _); simp only [List.getElem_toArray, List.getElem_cons_succ, List.getElem_cons_zero, Act.put, List.setIfInBounds_toArray, List.set_cons_zero, List.set_cons_succ]) | ((with_reducible show wpPlan _ _ _ _ _ _ _); first | refine wpPlan_nil ?_ | (refine wpPlan_read0 rfl ?hw rfl (fun _ _ _ => ?_); case hw => ((conv => (lhs; whnf)); first | done | with_reducible rfl)) | (refine wpPlan_read1d rfl ?hw rfl rfl (fun _ _ _ => ?_); case hw => ((conv => (lhs; whnf)); first | done | with_reducible rfl)) | (refine wpPlan_eff rfl ?hw (fun _ _ => ?_); case hw => ((conv => (lhs; whnf)); first | done | with_reducible rfl)) | (refine wpPlan_skip0 rfl ?hw ?_; case hw => ((conv => (lhs; whnf)); first | done | with_reducible rfl)) | (refine wpPlan_skip1d rfl ?hw ?_; case hw => ((conv => (lhs; whnf)); first | done | with_reducible rfl)) | (refine wpPlan_skip2 rfl ?hw ?_; case hw => ((conv => (lhs; whnf)); first | done | with_reducible rfl)) | (refine wpPlan_read1 rfl ?hw rfl (fun _ _ _ => ?_); case hw => ((conv => (lhs; whnf)); first | done | with_reducible rfl)) | refine wpPlan_fork ?_ ?_) | ((with_reducible show Owed _ _ _ _ _ _ _ _ _); first | refine Owed.none_ ?_ | refine Owed.nil_ ?_ | refine Owed.miss rfl ?_ | refine Owed.hit ?_ ?_) | ((with_reducible show Same _ _ _ _ _); intro _; go_simp; done) | (with_reducible exact True.intro) | ((with_reducible show Code.wp _ (Code.region 2 _ true) _ _ _); refine wp_region_plan [(0, 0, []), (1, 1, []), (2, 1, []), (3, 1, []), (4, 1, []), (5, 2, []), (6, 0, []), (7, 1, []), (8, 1, []), (9, 0, []), (10, 0, [])] (by kernel_rfl) (by kernel_rfl) (by kernel_rfl) ?_) | ((with_reducible show Code.wp _ (Code.region 12 _ true) _ _ _); refine wp_region_plan [(0, 0, []), (1, 0, []), (2, 1, []), (3, 1, []), (4, 0, []), (5, 1, []), (6, 1, []), (7, 1, []), (8, 0, []), (9, 1, []), (10, 1, []), (11, 1, []), (12, 1, []), (13, 0, []), (14, 0, []), (15, 0, []), (16, 1, []), (17, 1, []), (18, 1, []), (19, 2, []), (20, 0, []), (21, 0, []), (22, 0, [])] (by kernel_rfl) (by kernel_rfl) (by kernel_rfl) ?_) | ((with_reducible show Code.wp _ (Code.region 21 _ true) _ _ _); refine wp_region_plan [(0, 0, []), (1, 1, []), (2, 1, []), (3, 1, []), (4, 1, []), (5, 0, []), (6, 2, [])] (by kernel_rfl) (by kernel_rfl) (by kernel_rfl) ?_))
      refine (HI.out 1 f (.neg .self) (by decide) tb n cL N cF g mb (i + 1) s AL _ E D _ (HG.out.trans (.neg .self)) hs HTd.out HK.out).mono ?_
      rintro e w3 ⟨rfl, ⟨D3, hT3, hL3⟩, hO3⟩
      have HTF := Lib.hid hT3.drewT
      have HLW := Lib.hid (show ∀ j t, j ≤ i → t < n → Maps.has D3 (pairL j t) = Maps.has D (pairL j t) from fun j t hj ht => hL3 j t (by omega) ht)
      have HOF := Lib.hid (((((Outside.refl (fun k => k = mb) w).alloc (.cells #[.int .i64 i, .int .i64 s] 103)).drew).trans hO3).drew)
      have HK3 := Lib.hid (((HKB.out.alloc0).out hO3 (by have := HT.out.map.lt; omega)))
      have k3c := HK3.out.cell
      have k3l := HK3.out.lt
      have t3c := hT3.blk.cell
      have t3l := hT3.blk.lt
      clear hT3 hL3 hO3 tc tl kc kl
      go_wp2_with (first | ((with_reducible show wpPlan _ _ _ ((6, 2, _) :: _) _ _ _); refine wpPlan_eff rfl rfl (fun _ hK => ?_); refine wp_mapUpdate_bool _ _ _ 83 rfl 103 4 lawP Try.underlying83 Try.underlying4 mb _ D3 rfl HTF.out.map (Nat.lt_of_le_of_lt (cntM_le N n D3) HNN.out) _ (pairL i s) (!sat ls f s) rfl rfl HKEY.out ?_; intro w9 hown9 hgrow9; refine hK _ _ ?_; refine Stop7.intro ?_) | ((with_reducible show wpPlan _ _ _ _ _ (Act.put _ _ _) _); simp only [List.getElem_toArray, List.getElem_cons_succ, List.getElem_cons_zero, Act.put, List.setIfInBounds_toArray, List.set_cons_zero, List.set_cons_succ]) | ((with_reducible show wpPlan _ _ _ _ _ _ _); first | refine wpPlan_nil ?_ | (refine wpPlan_read0 rfl ?hw rfl (fun _ _ _ => ?_); case hw => ((conv => (lhs; whnf)); first | done | with_reducible rfl)) | (refine wpPlan_read1d rfl ?hw rfl rfl (fun _ _ _ => ?_); case hw => ((conv => (lhs; whnf)); first | done | with_reducible rfl)) | (refine wpPlan_eff rfl ?hw (fun _ _ => ?_); case hw => ((conv => (lhs; whnf)); first | done | with_reducible rfl)) | (refine wpPlan_skip0 rfl ?hw ?_; case hw => ((conv => (lhs; whnf)); first | done | with_reducible rfl)) | (refine wpPlan_skip1d rfl ?hw ?_; case hw => ((conv => (lhs; whnf)); first | done | with_reducible rfl)) | (refine wpPlan_skip2 rfl ?hw ?_; case hw => ((conv => (lhs; whnf)); first | done | with_reducible rfl)) | (refine wpPlan_read1 rfl ?hw rfl (fun _ _ _ => ?_); case hw => ((conv => (lhs; whnf)); first | done | with_reducible rfl)) | refine wpPlan_fork ?_ ?_) | ((with_reducible show Owed _ _ _ _ _ _ _ _ _); first | refine Owed.none_ ?_ | refine Owed.nil_ ?_ | refine Owed.miss rfl ?_ | refine Owed.hit ?_ ?_) | ((with_reducible show Same _ _ _ _ _); intro _; go_simp; done) | (with_reducible exact True.intro) | ((with_reducible show Code.wp _ (Code.region 2 _ true) _ _ _); refine wp_region_plan [(0, 0, []), (1, 1, []), (2, 1, []), (3, 1, []), (4, 1, []), (5, 2, []), (6, 0, []), (7, 1, []), (8, 1, []), (9, 0, []), (10, 0, [])] (by kernel_rfl) (by kernel_rfl) (by kernel_rfl) ?_) | ((with_reducible show Code.wp _ (Code.region 12 _ true) _ _ _); refine wp_region_plan [(0, 0, []), (1, 0, []), (2, 1, []), (3, 1, []), (4, 0, []), (5, 1, []), (6, 1, []), (7, 1, []), (8, 0, []), (9, 1, []), (10, 1, []), (11, 1, []), (12, 1, []), (13, 0, []), (14, 0, []), (15, 0, []), (16, 1, []), (17, 1, []), (18, 1, []), (19, 2, []), (20, 0, []), (21, 0, []), (22, 0, [])] (by kernel_rfl) (by kernel_rfl) (by kernel_rfl) ?_) | ((with_reducible show Code.wp _ (Code.region 21 _ true) _ _ _); refine wp_region_plan [(0, 0, []), (1, 1, []), (2, 1, []), (3, 1, []), (4, 1, []), (5, 0, []), (6, 2, [])] (by kernel_rfl) (by kernel_rfl) (by kernel_rfl) ?_))
      unfold Stop7
      have HZ := Lib.hid (ho_fin HTF.out HLW.out HHV.out HG.out hi hs HK.out HOF.out (by rw [sat]) hown9 hgrow9)
      clear hown9 hgrow9 hK
      go_wp2_with (first | ((with_reducible show wpPlan _ _ _ _ _ (Act.put _ _ _) _); simp only [List.getElem_toArray, List.getElem_cons_succ, List.getElem_cons_zero, Act.put]) | ((with_reducible show wpPlan _ _ _ _ _ _ _); first | refine wpPlan_nil ?_ | (refine wpPlan_read0 rfl ?hw rfl (fun _ _ _ => ?_); case hw => ((conv => (lhs; whnf)); first | done | with_reducible rfl)) | (refine wpPlan_read1d rfl ?hw rfl rfl (fun _ _ _ => ?_); case hw => ((conv => (lhs; whnf)); first | done | with_reducible rfl)) | (refine wpPlan_eff rfl ?hw (fun _ _ => ?_); case hw => ((conv => (lhs; whnf)); first | done | with_reducible rfl)) | (refine wpPlan_skip0 rfl ?hw ?_; case hw => ((conv => (lhs; whnf)); first | done | with_reducible rfl)) | (refine wpPlan_skip1d rfl ?hw ?_; case hw => ((conv => (lhs; whnf)); first | done | with_reducible rfl)) | (refine wpPlan_skip2 rfl ?hw ?_; case hw => ((conv => (lhs; whnf)); first | done | with_reducible rfl)) | (refine wpPlan_read1 rfl ?hw rfl (fun _ _ _ => ?_); case hw => ((conv => (lhs; whnf)); first | done | with_reducible rfl)) | refine wpPlan_fork ?_ ?_) | ((with_reducible show Owed _ _ _ _ _ _ _ _ _); first | refine Owed.none_ ?_ | refine Owed.nil_ ?_ | refine Owed.miss rfl ?_ | refine Owed.hit ?_ ?_) | ((with_reducible show Same _ _ _ _ _); intro _; go_simp; done) | (with_reducible exact True.intro) | ((with_reducible show Code.wp _ (Code.region 2 _ true) _ _ _); refine wp_region_plan [(0, 0, []), (1, 1, []), (2, 1, []), (3, 1, []), (4, 1, []), (5, 2, []), (6, 0, []), (7, 1, []), (8, 1, []), (9, 0, []), (10, 0, [])] (by kernel_rfl) (by kernel_rfl) (by kernel_rfl) ?_) | ((with_reducible show Code.wp _ (Code.region 12 _ true) _ _ _); refine wp_region_plan [(0, 0, []), (1, 0, []), (2, 1, []), (3, 1, []), (4, 0, []), (5, 1, []), (6, 1, []), (7, 1, []), (8, 0, []), (9, 1, []), (10, 1, []), (11, 1, []), (12, 1, []), (13, 0, []), (14, 0, []), (15, 0, []), (16, 1, []), (17, 1, []), (18, 1, []), (19, 2, []), (20, 0, []), (21, 0, []), (22, 0, [])] (by kernel_rfl) (by kernel_rfl) (by kernel_rfl) ?_) | ((with_reducible show Code.wp _ (Code.region 21 _ true) _ _ _); refine wp_region_plan [(0, 0, []), (1, 1, []), (2, 1, []), (3, 1, []), (4, 1, []), (5, 0, []), (6, 2, [])] (by kernel_rfl) (by kernel_rfl) (by kernel_rfl) ?_))
      go_ret
      exact HZ.out
    | con gs =>
      obtain rfl : (⟨4, 0, gs.len⟩ : FNode) = x := by
        rw [Form.enc] at hxG
        simpa using hxG
      dsimp only at c0 c1 c2
      have hGl : (Form.con gs).enc.length = gs.enc.length + 1 := by rw [Form.enc, List.length_cons]
      have hEnd : i + (Form.con gs).enc.length ≤ N := by have := HG.out.lt; have := HK.out.flen; omega
      have HOF0 := Lib.hid (((Outside.refl (fun k => k = mb) w).alloc (.cells #[.int .i64 i, .int .i64 s] 103)).drew)
      obtain ⟨GL, hGL⟩ : ∃ GL, (Form.con gs).enc.length = GL := ⟨_, rfl⟩
      have HGL := Lib.hid hGL
      rw [hGL] at hGl hEnd
      clear hGL
      go_wp2_with (first | ((with_reducible show wpPlan _ _ _ _ _ (Act.put _ _ _) _); simp only [List.getElem_toArray, List.getElem_cons_succ, List.getElem_cons_zero, Act.put, List.setIfInBounds_toArray, List.set_cons_zero, List.set_cons_succ]) | ((with_reducible show wpPlan _ _ _ _ _ _ _); first | refine wpPlan_nil ?_ | (refine wpPlan_read0 rfl ?hw rfl (fun _ _ _ => ?_); case hw => ((conv => (lhs; whnf)); first | done | with_reducible rfl)) | (refine wpPlan_read1d rfl ?hw rfl rfl (fun _ _ _ => ?_); case hw => ((conv => (lhs; whnf)); first | done | with_reducible rfl)) | (refine wpPlan_eff rfl ?hw (fun _ _ => ?_); case hw => ((conv => (lhs; whnf)); first | done | with_reducible rfl)) | (refine wpPlan_skip0 rfl ?hw ?_; case hw => ((conv => (lhs; whnf)); first | done | with_reducible rfl)) | (refine wpPlan_skip1d rfl ?hw ?_; case hw => ((conv => (lhs; whnf)); first | done | with_reducible rfl)) | (refine wpPlan_skip2 rfl ?hw ?_; case hw => ((conv => (lhs; whnf)); first | done | with_reducible rfl)) | (refine wpPlan_read1 rfl ?hw rfl (fun _ _ _ => ?_); case hw => ((conv => (lhs; whnf)); first | done | with_reducible rfl)) | refine wpPlan_fork ?_ ?_) | ((with_reducible show Owed _ _ _ _ _ _ _ _ _); first | refine Owed.none_ ?_ | refine Owed.nil_ ?_ | refine Owed.miss rfl ?_ | refine Owed.hit ?_ ?_) | ((with_reducible show Same _ _ _ _ _); intro _; go_simp; done) | (with_reducible exact True.intro) | ((with_reducible show Code.wp _ (Code.region 2 _ true) _ _ _); refine wp_region_plan [(0, 0, []), (1, 1, []), (2, 1, []), (3, 1, []), (4, 1, []), (5, 2, []), (6, 0, []), (7, 1, []), (8, 1, []), (9, 0, []), (10, 0, [])] (by kernel_rfl) (by kernel_rfl) (by kernel_rfl) ?_) | ((with_reducible show Code.wp _ (Code.region 12 _ true) _ _ _); refine wp_region_plan [(0, 0, []), (1, 0, []), (2, 1, []), (3, 1, []), (4, 0, []), (5, 1, []), (6, 1, []), (7, 1, []), (8, 0, []), (9, 1, []), (10, 1, []), (11, 1, []), (12, 1, []), (13, 0, []), (14, 0, []), (15, 0, []), (16, 1, []), (17, 1, []), (18, 1, []), (19, 2, []), (20, 0, []), (21, 0, []), (22, 0, [])] (by kernel_rfl) (by kernel_rfl) (by kernel_rfl) ?_) | ((with_reducible show Code.wp _ (Code.region 21 _ true) _ _ _); refine wp_region_plan [(0, 0, []), (1, 1, []), (2, 1, []), (3, 1, []), (4, 1, []), (5, 0, []), (6, 2, [])] (by kernel_rfl) (by kernel_rfl) (by kernel_rfl) ?_))
      go_loopw [10, 13] (fun vr vk wr => ∃ (d : Nat) (q : Bool) (rest : Forms) (D3 : DU), 1 ≤ d ∧ d + rest.enc.length = GL ∧ vk = .int .i64 (i + d : Nat) ∧ vr = .bool q ∧ Hid ((q && satAll ls rest s) = satAll ls gs s ∧ (∀ kk H, OccS rest kk H → Occ (.con gs) (d + kk) H) ∧ TsAt wr tb AL n cL ls (some ⟨b1, o1, none⟩) N cF F g E mb D3 ∧ (∀ j t, j ≤ i → t < n → Maps.has D3 (pairL j t) = Maps.has D (pairL j t)) ∧ Outside (fun k => k = mb) w wr ∧ Blk wr w.heap.size 103 #[.int .i64 i, .int .i64 s])) (fun _ vk _ => i + GL - (intOf vk).toNat)
      case atStart => exact ⟨1, true, gs, D, Nat.le_refl _, by omega, by go_num, rfl, Lib.hid ⟨rfl, (fun kk H h => by rw [Nat.add_comm]; exact .con h), HTd.out, (fun _ _ _ _ => rfl), HOF0.out, HKB.out.alloc0⟩⟩
      case round =>
        obtain ⟨d, q, rest, D3, hd, hdr, rfl, rfl, HW⟩ := hrel
        obtain ⟨y1, y2, y3, y4, y5, y6⟩ := HW.out
        have Y1 := Lib.hid y1
        have Y2 := Lib.hid y2
        have Y3 := Lib.hid y3
        have Y4 := Lib.hid y4
        have Y5 := Lib.hid y5
        have Y6 := Lib.hid y6
        have hwl := y5.size
        have hml := y3.map.lt
        have htbl := y3.blk.lt
        have hmlt := y3.lt
        have HTF := Lib.hid y3.drewT
        have HLW := Lib.hid y4
        have HOF := Lib.hid y5.drew
        obtain ⟨b5, o5, x5, e5, hb5, hx5, d0⟩ := y3.ens.nat hi
        obtain ⟨rfl, rfl⟩ : g = b5 ∧ 0 = o5 := by simpa using e5
        have hEi := HK.out.good i (.con gs) HG.out
        rw [Nat.zero_add, hx5, HGL.out] at hEi
        obtain rfl := Option.some.inj hEi
        rw [Nat.zero_add] at d0
        have hgl : g < wr.heap.size := by omega
        have k3c := y6.cell
        have k3l := y6.lt
        have t3c := y3.blk.cell
        clear y1 y2 y3 y4 y5 y6 tc tl kc kl hx5 e5 hEi
        cases q
        · have HEQ := Lib.hid (show sat ls (.con gs) s = false by rw [sat, ← Y1.out]; rfl)
          go_wp2_with (first | ((with_reducible show wpPlan _ _ _ ((6, 2, _) :: _) _ _ _); refine wpPlan_eff rfl rfl (fun _ hK => ?_); refine wp_mapUpdate_bool _ _ _ 83 rfl 103 4 lawP Try.underlying83 Try.underlying4 mb _ D3 rfl HTF.out.map (Nat.lt_of_le_of_lt (cntM_le N n D3) HNN.out) _ (pairL i s) false rfl rfl HKEY.out ?_; intro w9 hown9 hgrow9; refine hK _ _ ?_; refine Stop7.intro ?_) | ((with_reducible show wpPlan _ _ _ _ _ (Act.put _ _ _) _); simp only [List.getElem_toArray, List.getElem_cons_succ, List.getElem_cons_zero, Act.put, List.setIfInBounds_toArray, List.set_cons_zero, List.set_cons_succ]) | ((with_reducible show wpPlan _ _ _ _ _ _ _); first | refine wpPlan_nil ?_ | (refine wpPlan_read0 rfl ?hw rfl (fun _ _ _ => ?_); case hw => ((conv => (lhs; whnf)); first | done | with_reducible rfl)) | (refine wpPlan_read1d rfl ?hw rfl rfl (fun _ _ _ => ?_); case hw => ((conv => (lhs; whnf)); first | done | with_reducible rfl)) | (refine wpPlan_eff rfl ?hw (fun _ _ => ?_); case hw => ((conv => (lhs; whnf)); first | done | with_reducible rfl)) | (refine wpPlan_skip0 rfl ?hw ?_; case hw => ((conv => (lhs; whnf)); first | done | with_reducible rfl)) | (refine wpPlan_skip1d rfl ?hw ?_; case hw => ((conv => (lhs; whnf)); first | done | with_reducible rfl)) | (refine wpPlan_skip2 rfl ?hw ?_; case hw => ((conv => (lhs; whnf)); first | done | with_reducible rfl)) | (refine wpPlan_read1 rfl ?hw rfl (fun _ _ _ => ?_); case hw => ((conv => (lhs; whnf)); first | done | with_reducible rfl)) | refine wpPlan_fork ?_ ?_) | ((with_reducible show Owed _ _ _ _ _ _ _ _ _); first | refine Owed.none_ ?_ | refine Owed.nil_ ?_ | refine Owed.miss rfl ?_ | refine Owed.hit ?_ ?_) | ((with_reducible show Same _ _ _ _ _); intro _; go_simp; done) | (with_reducible exact True.intro) | ((with_reducible show Code.wp _ (Code.region 2 _ true) _ _ _); refine wp_region_plan [(0, 0, []), (1, 1, []), (2, 1, []), (3, 1, []), (4, 1, []), (5, 2, []), (6, 0, []), (7, 1, []), (8, 1, []), (9, 0, []), (10, 0, [])] (by kernel_rfl) (by kernel_rfl) (by kernel_rfl) ?_) | ((with_reducible show Code.wp _ (Code.region 12 _ true) _ _ _); refine wp_region_plan [(0, 0, []), (1, 0, []), (2, 1, []), (3, 1, []), (4, 0, []), (5, 1, []), (6, 1, []), (7, 1, []), (8, 0, []), (9, 1, []), (10, 1, []), (11, 1, []), (12, 1, []), (13, 0, []), (14, 0, []), (15, 0, []), (16, 1, []), (17, 1, []), (18, 1, []), (19, 2, []), (20, 0, []), (21, 0, []), (22, 0, [])] (by kernel_rfl) (by kernel_rfl) (by kernel_rfl) ?_) | ((with_reducible show Code.wp _ (Code.region 21 _ true) _ _ _); refine wp_region_plan [(0, 0, []), (1, 1, []), (2, 1, []), (3, 1, []), (4, 1, []), (5, 0, []), (6, 2, [])] (by kernel_rfl) (by kernel_rfl) (by kernel_rfl) ?_))
          unfold Stop7
          have HZ := Lib.hid (ho_fin HTF.out HLW.out HHV.out HG.out hi hs HK.out HOF.out HEQ.out hown9 hgrow9)
          clear hown9 hgrow9 hK
          go_wp2_with (first | ((with_reducible show wpPlan _ _ _ _ _ (Act.put _ _ _) _); simp only [List.getElem_toArray, List.getElem_cons_succ, List.getElem_cons_zero, Act.put]) | ((with_reducible show wpPlan _ _ _ _ _ _ _); first | refine wpPlan_nil ?_ | (refine wpPlan_read0 rfl ?hw rfl (fun _ _ _ => ?_); case hw => ((conv => (lhs; whnf)); first | done | with_reducible rfl)) | (refine wpPlan_read1d rfl ?hw rfl rfl (fun _ _ _ => ?_); case hw => ((conv => (lhs; whnf)); first | done | with_reducible rfl)) | (refine wpPlan_eff rfl ?hw (fun _ _ => ?_); case hw => ((conv => (lhs; whnf)); first | done | with_reducible rfl)) | (refine wpPlan_skip0 rfl ?hw ?_; case hw => ((conv => (lhs; whnf)); first | done | with_reducible rfl)) | (refine wpPlan_skip1d rfl ?hw ?_; case hw => ((conv => (lhs; whnf)); first | done | with_reducible rfl)) | (refine wpPlan_skip2 rfl ?hw ?_; case hw => ((conv => (lhs; whnf)); first | done | with_reducible rfl)) | (refine wpPlan_read1 rfl ?hw rfl (fun _ _ _ => ?_); case hw => ((conv => (lhs; whnf)); first | done | with_reducible rfl)) | refine wpPlan_fork ?_ ?_) | ((with_reducible show Owed _ _ _ _ _ _ _ _ _); first | refine Owed.none_ ?_ | refine Owed.nil_ ?_ | refine Owed.miss rfl ?_ | refine Owed.hit ?_ ?_) | ((with_reducible show Same _ _ _ _ _); intro _; go_simp; done) | (with_reducible exact True.intro) | ((with_reducible show Code.wp _ (Code.region 2 _ true) _ _ _); refine wp_region_plan [(0, 0, []), (1, 1, []), (2, 1, []), (3, 1, []), (4, 1, []), (5, 2, []), (6, 0, []), (7, 1, []), (8, 1, []), (9, 0, []), (10, 0, [])] (by kernel_rfl) (by kernel_rfl) (by kernel_rfl) ?_) | ((with_reducible show Code.wp _ (Code.region 12 _ true) _ _ _); refine wp_region_plan [(0, 0, []), (1, 0, []), (2, 1, []), (3, 1, []), (4, 0, []), (5, 1, []), (6, 1, []), (7, 1, []), (8, 0, []), (9, 1, []), (10, 1, []), (11, 1, []), (12, 1, []), (13, 0, []), (14, 0, []), (15, 0, []), (16, 1, []), (17, 1, []), (18, 1, []), (19, 2, []), (20, 0, []), (21, 0, []), (22, 0, [])] (by kernel_rfl) (by kernel_rfl) (by kernel_rfl) ?_) | ((with_reducible show Code.wp _ (Code.region 21 _ true) _ _ _); refine wp_region_plan [(0, 0, []), (1, 1, []), (2, 1, []), (3, 1, []), (4, 1, []), (5, 0, []), (6, 2, [])] (by kernel_rfl) (by kernel_rfl) (by kernel_rfl) ?_))
          go_ret
          exact HZ.out
        · cases rest with
          | nil =>
            have hnl : Forms.nil.enc.length = 0 := rfl
            have hdd : d = GL := by omega
            have HEQ := Lib.hid (show sat ls (.con gs) s = true by rw [sat, ← Y1.out]; rfl)
            subst hdd
            go_wp2_with (first | ((with_reducible show wpPlan _ _ _ ((6, 2, _) :: _) _ _ _); refine wpPlan_eff rfl rfl (fun _ hK => ?_); refine wp_mapUpdate_bool _ _ _ 83 rfl 103 4 lawP Try.underlying83 Try.underlying4 mb _ D3 rfl HTF.out.map (Nat.lt_of_le_of_lt (cntM_le N n D3) HNN.out) _ (pairL i s) true rfl rfl HKEY.out ?_; intro w9 hown9 hgrow9; refine hK _ _ ?_; refine Stop7.intro ?_) | ((with_reducible show wpPlan _ _ _ _ _ (Act.put _ _ _) _); simp only [List.getElem_toArray, List.getElem_cons_succ, List.getElem_cons_zero, Act.put, List.setIfInBounds_toArray, List.set_cons_zero, List.set_cons_succ]) | ((with_reducible show wpPlan _ _ _ _ _ _ _); first | refine wpPlan_nil ?_ | (refine wpPlan_read0 rfl ?hw rfl (fun _ _ _ => ?_); case hw => ((conv => (lhs; whnf)); first | done | with_reducible rfl)) | (refine wpPlan_read1d rfl ?hw rfl rfl (fun _ _ _ => ?_); case hw => ((conv => (lhs; whnf)); first | done | with_reducible rfl)) | (refine wpPlan_eff rfl ?hw (fun _ _ => ?_); case hw => ((conv => (lhs; whnf)); first | done | with_reducible rfl)) | (refine wpPlan_skip0 rfl ?hw ?_; case hw => ((conv => (lhs; whnf)); first | done | with_reducible rfl)) | (refine wpPlan_skip1d rfl ?hw ?_; case hw => ((conv => (lhs; whnf)); first | done | with_reducible rfl)) | (refine wpPlan_skip2 rfl ?hw ?_; case hw => ((conv => (lhs; whnf)); first | done | with_reducible rfl)) | (refine wpPlan_read1 rfl ?hw rfl (fun _ _ _ => ?_); case hw => ((conv => (lhs; whnf)); first | done | with_reducible rfl)) | refine wpPlan_fork ?_ ?_) | ((with_reducible show Owed _ _ _ _ _ _ _ _ _); first | refine Owed.none_ ?_ | refine Owed.nil_ ?_ | refine Owed.miss rfl ?_ | refine Owed.hit ?_ ?_) | ((with_reducible show Same _ _ _ _ _); intro _; go_simp; done) | (with_reducible exact True.intro) | ((with_reducible show Code.wp _ (Code.region 2 _ true) _ _ _); refine wp_region_plan [(0, 0, []), (1, 1, []), (2, 1, []), (3, 1, []), (4, 1, []), (5, 2, []), (6, 0, []), (7, 1, []), (8, 1, []), (9, 0, []), (10, 0, [])] (by kernel_rfl) (by kernel_rfl) (by kernel_rfl) ?_) | ((with_reducible show Code.wp _ (Code.region 12 _ true) _ _ _); refine wp_region_plan [(0, 0, []), (1, 0, []), (2, 1, []), (3, 1, []), (4, 0, []), (5, 1, []), (6, 1, []), (7, 1, []), (8, 0, []), (9, 1, []), (10, 1, []), (11, 1, []), (12, 1, []), (13, 0, []), (14, 0, []), (15, 0, []), (16, 1, []), (17, 1, []), (18, 1, []), (19, 2, []), (20, 0, []), (21, 0, []), (22, 0, [])] (by kernel_rfl) (by kernel_rfl) (by kernel_rfl) ?_) | ((with_reducible show Code.wp _ (Code.region 21 _ true) _ _ _); refine wp_region_plan [(0, 0, []), (1, 1, []), (2, 1, []), (3, 1, []), (4, 1, []), (5, 0, []), (6, 2, [])] (by kernel_rfl) (by kernel_rfl) (by kernel_rfl) ?_))
            unfold Stop7
            have HZ := Lib.hid (ho_fin HTF.out HLW.out HHV.out HG.out hi hs HK.out HOF.out HEQ.out hown9 hgrow9)
            clear hown9 hgrow9 hK
            go_wp2_with (first | ((with_reducible show wpPlan _ _ _ _ _ (Act.put _ _ _) _); simp only [List.getElem_toArray, List.getElem_cons_succ, List.getElem_cons_zero, Act.put]) | ((with_reducible show wpPlan _ _ _ _ _ _ _); first | refine wpPlan_nil ?_ | (refine wpPlan_read0 rfl ?hw rfl (fun _ _ _ => ?_); case hw => ((conv => (lhs; whnf)); first | done | with_reducible rfl)) | (refine wpPlan_read1d rfl ?hw rfl rfl (fun _ _ _ => ?_); case hw => ((conv => (lhs; whnf)); first | done | with_reducible rfl)) | (refine wpPlan_eff rfl ?hw (fun _ _ => ?_); case hw => ((conv => (lhs; whnf)); first | done | with_reducible rfl)) | (refine wpPlan_skip0 rfl ?hw ?_; case hw => ((conv => (lhs; whnf)); first | done | with_reducible rfl)) | (refine wpPlan_skip1d rfl ?hw ?_; case hw => ((conv => (lhs; whnf)); first | done | with_reducible rfl)) | (refine wpPlan_skip2 rfl ?hw ?_; case hw => ((conv => (lhs; whnf)); first | done | with_reducible rfl)) | (refine wpPlan_read1 rfl ?hw rfl (fun _ _ _ => ?_); case hw => ((conv => (lhs; whnf)); first | done | with_reducible rfl)) | refine wpPlan_fork ?_ ?_) | ((with_reducible show Owed _ _ _ _ _ _ _ _ _); first | refine Owed.none_ ?_ | refine Owed.nil_ ?_ | refine Owed.miss rfl ?_ | refine Owed.hit ?_ ?_) | ((with_reducible show Same _ _ _ _ _); intro _; go_simp; done) | (with_reducible exact True.intro) | ((with_reducible show Code.wp _ (Code.region 2 _ true) _ _ _); refine wp_region_plan [(0, 0, []), (1, 1, []), (2, 1, []), (3, 1, []), (4, 1, []), (5, 2, []), (6, 0, []), (7, 1, []), (8, 1, []), (9, 0, []), (10, 0, [])] (by kernel_rfl) (by kernel_rfl) (by kernel_rfl) ?_) | ((with_reducible show Code.wp _ (Code.region 12 _ true) _ _ _); refine wp_region_plan [(0, 0, []), (1, 0, []), (2, 1, []), (3, 1, []), (4, 0, []), (5, 1, []), (6, 1, []), (7, 1, []), (8, 0, []), (9, 1, []), (10, 1, []), (11, 1, []), (12, 1, []), (13, 0, []), (14, 0, []), (15, 0, []), (16, 1, []), (17, 1, []), (18, 1, []), (19, 2, []), (20, 0, []), (21, 0, []), (22, 0, [])] (by kernel_rfl) (by kernel_rfl) (by kernel_rfl) ?_) | ((with_reducible show Code.wp _ (Code.region 21 _ true) _ _ _); refine wp_region_plan [(0, 0, []), (1, 1, []), (2, 1, []), (3, 1, []), (4, 1, []), (5, 0, []), (6, 2, [])] (by kernel_rfl) (by kernel_rfl) (by kernel_rfl) ?_))
            go_ret
            exact HZ.out
          | cons h rest =>
            have hcl : (Forms.cons h rest).enc.length = h.enc.length + rest.enc.length := by rw [Forms.enc, List.length_append]
            have hhp := encP h
            have hdlt : (i : Int) + d < (i : Int) + GL := by omega
            have hOcc := Y2.out 0 h (.head .self)
            rw [Nat.add_zero] at hOcc
            have HOC := Lib.hid hOcc
            have HSA := Lib.hid (show (sat ls h s && satAll ls rest s) = satAll ls gs s by rw [← Y1.out, satAll]; rfl)
            clear hOcc
            go_wp2_with (first | ((with_reducible show wpPlan _ _ _ _ _ (Act.put _ _ _) _); simp only [List.getElem_toArray, List.getElem_cons_succ, List.getElem_cons_zero, Act.put, List.setIfInBounds_toArray, List.set_cons_zero, List.set_cons_succ]) | ((with_reducible show wpPlan _ _ _ _ _ _ _); first | refine wpPlan_nil ?_ | (refine wpPlan_read0 rfl ?hw rfl (fun _ _ _ => ?_); case hw => ((conv => (lhs; whnf)); first | done | with_reducible rfl)) | (refine wpPlan_read1d rfl ?hw rfl rfl (fun _ _ _ => ?_); case hw => ((conv => (lhs; whnf)); first | done | with_reducible rfl)) | (refine wpPlan_eff rfl ?hw (fun _ _ => ?_); case hw => ((conv => (lhs; whnf)); first | done | with_reducible rfl)) | (refine wpPlan_skip0 rfl ?hw ?_; case hw => ((conv => (lhs; whnf)); first | done | with_reducible rfl)) | (refine wpPlan_skip1d rfl ?hw ?_; case hw => ((conv => (lhs; whnf)); first | done | with_reducible rfl)) | (refine wpPlan_skip2 rfl ?hw ?_; case hw => ((conv => (lhs; whnf)); first | done | with_reducible rfl)) | (refine wpPlan_read1 rfl ?hw rfl (fun _ _ _ => ?_); case hw => ((conv => (lhs; whnf)); first | done | with_reducible rfl)) | refine wpPlan_fork ?_ ?_) | ((with_reducible show Owed _ _ _ _ _ _ _ _ _); first | refine Owed.none_ ?_ | refine Owed.nil_ ?_ | refine Owed.miss rfl ?_ | refine Owed.hit ?_ ?_) | ((with_reducible show Same _ _ _ _ _); intro _; go_simp; done) | (with_reducible exact True.intro) | ((with_reducible show Code.wp _ (Code.region 2 _ true) _ _ _); refine wp_region_plan [(0, 0, []), (1, 1, []), (2, 1, []), (3, 1, []), (4, 1, []), (5, 2, []), (6, 0, []), (7, 1, []), (8, 1, []), (9, 0, []), (10, 0, [])] (by kernel_rfl) (by kernel_rfl) (by kernel_rfl) ?_) | ((with_reducible show Code.wp _ (Code.region 12 _ true) _ _ _); refine wp_region_plan [(0, 0, []), (1, 0, []), (2, 1, []), (3, 1, []), (4, 0, []), (5, 1, []), (6, 1, []), (7, 1, []), (8, 0, []), (9, 1, []), (10, 1, []), (11, 1, []), (12, 1, []), (13, 0, []), (14, 0, []), (15, 0, []), (16, 1, []), (17, 1, []), (18, 1, []), (19, 2, []), (20, 0, []), (21, 0, []), (22, 0, [])] (by kernel_rfl) (by kernel_rfl) (by kernel_rfl) ?_) | ((with_reducible show Code.wp _ (Code.region 21 _ true) _ _ _); refine wp_region_plan [(0, 0, []), (1, 1, []), (2, 1, []), (3, 1, []), (4, 1, []), (5, 0, []), (6, 2, [])] (by kernel_rfl) (by kernel_rfl) (by kernel_rfl) ?_))
            refine (HI.out d h HOC.out (by omega) tb n cL N cF g mb (i + d) s AL (some ⟨b1, o1, none⟩) E D3 wr (HG.out.trans HOC.out) hs Y3.out HK.out).mono ?_
            rintro e9 w3 ⟨rfl, ⟨D4, hT4, hL4⟩, hO4⟩
            have HT4 := Lib.hid hT4
            have HL4 := Lib.hid (show ∀ j t, j ≤ i → t < n → Maps.has D4 (pairL j t) = Maps.has D (pairL j t) from fun j t hj ht => (hL4 j t (by omega) ht).trans (Y4.out j t hj ht))
            have HO4 := Lib.hid (Y5.out.trans hO4)
            have HK4 := Lib.hid (Y6.out.out hO4 (by have := HT.out.map.lt; omega))
            obtain ⟨b6, o6, x6, e6, hb6, hx6, f0⟩ := hT4.ens.nat (show i + d < N by omega)
            obtain ⟨rfl, rfl⟩ : g = b6 ∧ 0 = o6 := by simpa using e6
            have hEd := HK.out.good (i + d) h (HG.out.trans HOC.out)
            rw [Nat.zero_add, hx6] at hEd
            obtain rfl := Option.some.inj hEd
            rw [Nat.zero_add] at f0
            have t4c := hT4.blk.cell
            have t4l := hT4.blk.lt
            have hg4 : g < w3.heap.size := by have := hO4.size; omega
            have HRS := Lib.hid (show ∀ kk H, OccS rest kk H → Occ (.con gs) (d + h.enc.length + kk) H from fun kk H ho => by
              rw [Nat.add_assoc]
              exact Y2.out _ H (.tail ho))
            clear hT4 hL4 hO4 hx6 e6 hEd
            go_wp2_with (first | ((with_reducible show wpPlan _ _ _ _ _ (Act.put _ _ _) _); simp only [List.getElem_toArray, List.getElem_cons_succ, List.getElem_cons_zero, Act.put, List.setIfInBounds_toArray, List.set_cons_zero, List.set_cons_succ]) | ((with_reducible show wpPlan _ _ _ _ _ _ _); first | refine wpPlan_nil ?_ | (refine wpPlan_read0 rfl ?hw rfl (fun _ _ _ => ?_); case hw => ((conv => (lhs; whnf)); first | done | with_reducible rfl)) | (refine wpPlan_read1d rfl ?hw rfl rfl (fun _ _ _ => ?_); case hw => ((conv => (lhs; whnf)); first | done | with_reducible rfl)) | (refine wpPlan_eff rfl ?hw (fun _ _ => ?_); case hw => ((conv => (lhs; whnf)); first | done | with_reducible rfl)) | (refine wpPlan_skip0 rfl ?hw ?_; case hw => ((conv => (lhs; whnf)); first | done | with_reducible rfl)) | (refine wpPlan_skip1d rfl ?hw ?_; case hw => ((conv => (lhs; whnf)); first | done | with_reducible rfl)) | (refine wpPlan_skip2 rfl ?hw ?_; case hw => ((conv => (lhs; whnf)); first | done | with_reducible rfl)) | (refine wpPlan_read1 rfl ?hw rfl (fun _ _ _ => ?_); case hw => ((conv => (lhs; whnf)); first | done | with_reducible rfl)) | refine wpPlan_fork ?_ ?_) | ((with_reducible show Owed _ _ _ _ _ _ _ _ _); first | refine Owed.none_ ?_ | refine Owed.nil_ ?_ | refine Owed.miss rfl ?_ | refine Owed.hit ?_ ?_) | ((with_reducible show Same _ _ _ _ _); intro _; go_simp; done) | (with_reducible exact True.intro) | ((with_reducible show Code.wp _ (Code.region 2 _ true) _ _ _); refine wp_region_plan [(0, 0, []), (1, 1, []), (2, 1, []), (3, 1, []), (4, 1, []), (5, 2, []), (6, 0, []), (7, 1, []), (8, 1, []), (9, 0, []), (10, 0, [])] (by kernel_rfl) (by kernel_rfl) (by kernel_rfl) ?_) | ((with_reducible show Code.wp _ (Code.region 12 _ true) _ _ _); refine wp_region_plan [(0, 0, []), (1, 0, []), (2, 1, []), (3, 1, []), (4, 0, []), (5, 1, []), (6, 1, []), (7, 1, []), (8, 0, []), (9, 1, []), (10, 1, []), (11, 1, []), (12, 1, []), (13, 0, []), (14, 0, []), (15, 0, []), (16, 1, []), (17, 1, []), (18, 1, []), (19, 2, []), (20, 0, []), (21, 0, []), (22, 0, [])] (by kernel_rfl) (by kernel_rfl) (by kernel_rfl) ?_) | ((with_reducible show Code.wp _ (Code.region 21 _ true) _ _ _); refine wp_region_plan [(0, 0, []), (1, 1, []), (2, 1, []), (3, 1, []), (4, 1, []), (5, 0, []), (6, 2, [])] (by kernel_rfl) (by kernel_rfl) (by kernel_rfl) ?_))
            go_roundw
            case rel => exact ⟨d + h.enc.length, sat ls h s, rest, D4, by omega, by omega, by go_num, rfl, Lib.hid ⟨HSA.out, HRS.out, HT4.out, HL4.out, HO4.out, HK4.out⟩⟩
            case measure => simp [intOf]; omega
  · have hcx : cx = sat ls G s := by
      have h1 := HT.out.memo.val i s G hi hs HG.out HHV.out
      rw [hat] at h1
      injection h1 with h1
      injection h1
    subst hcx
    have HZ := Lib.hid (show HoPost w tb AL n cL ls AF N cF F g E mb D i (sat ls G s) (.returned (.bool (sat ls G s))) ((w.alloc (.cells #[.int .i64 i, .int .i64 s] 103)).drew) from
      ⟨rfl, ⟨D, HTd.out, fun _ _ _ _ => rfl⟩, ((Outside.refl (fun k => k = mb) w).alloc _).drew⟩)
    clear hat
    go_wp2_with (first | ((with_reducible show wpPlan _ _ _ _ _ (Act.put _ _ _) _); simp only [List.getElem_toArray, List.getElem_cons_succ, List.getElem_cons_zero, Act.put, List.setIfInBounds_toArray, List.set_cons_zero, List.set_cons_succ]) | ((with_reducible show wpPlan _ _ _ _ _ _ _); first | refine wpPlan_nil ?_ | (refine wpPlan_read0 rfl ?hw rfl (fun _ _ _ => ?_); case hw => ((conv => (lhs; whnf)); first | done | with_reducible rfl)) | (refine wpPlan_read1d rfl ?hw rfl rfl (fun _ _ _ => ?_); case hw => ((conv => (lhs; whnf)); first | done | with_reducible rfl)) | (refine wpPlan_eff rfl ?hw (fun _ _ => ?_); case hw => ((conv => (lhs; whnf)); first | done | with_reducible rfl)) | (refine wpPlan_skip0 rfl ?hw ?_; case hw => ((conv => (lhs; whnf)); first | done | with_reducible rfl)) | (refine wpPlan_skip1d rfl ?hw ?_; case hw => ((conv => (lhs; whnf)); first | done | with_reducible rfl)) | (refine wpPlan_skip2 rfl ?hw ?_; case hw => ((conv => (lhs; whnf)); first | done | with_reducible rfl)) | (refine wpPlan_read1 rfl ?hw rfl (fun _ _ _ => ?_); case hw => ((conv => (lhs; whnf)); first | done | with_reducible rfl)) | refine wpPlan_fork ?_ ?_) | ((with_reducible show Owed _ _ _ _ _ _ _ _ _); first | refine Owed.none_ ?_ | refine Owed.nil_ ?_ | refine Owed.miss rfl ?_ | refine Owed.hit ?_ ?_) | ((with_reducible show Same _ _ _ _ _); intro _; go_simp; done) | (with_reducible exact True.intro) | ((with_reducible show Code.wp _ (Code.region 2 _ true) _ _ _); refine wp_region_plan [(0, 0, []), (1, 1, []), (2, 1, []), (3, 1, []), (4, 1, []), (5, 2, []), (6, 0, []), (7, 1, []), (8, 1, []), (9, 0, []), (10, 0, [])] (by kernel_rfl) (by kernel_rfl) (by kernel_rfl) ?_) | ((with_reducible show Code.wp _ (Code.region 12 _ true) _ _ _); refine wp_region_plan [(0, 0, []), (1, 0, []), (2, 1, []), (3, 1, []), (4, 0, []), (5, 1, []), (6, 1, []), (7, 1, []), (8, 0, []), (9, 1, []), (10, 1, []), (11, 1, []), (12, 1, []), (13, 0, []), (14, 0, []), (15, 0, []), (16, 1, []), (17, 1, []), (18, 1, []), (19, 2, []), (20, 0, []), (21, 0, []), (22, 0, [])] (by kernel_rfl) (by kernel_rfl) (by kernel_rfl) ?_) | ((with_reducible show Code.wp _ (Code.region 21 _ true) _ _ _); refine wp_region_plan [(0, 0, []), (1, 1, []), (2, 1, []), (3, 1, []), (4, 1, []), (5, 0, []), (6, 2, [])] (by kernel_rfl) (by kernel_rfl) (by kernel_rfl) ?_))
    go_ret
    exact HZ.out

theorem ho_any {ls : List (List Arc)} {F : Form} : ∀ (m : Nat) (G : Form), G.enc.length ≤ m → HoOk ls F G
  | 0, G, h => by
    have := encP G
    omega
  | m + 1, G, h => ho_step fun k H hk h0 => ho_any m H (by
    have := hk.lt
    omega)

end Go.Proofs.Ytmciinikfjfegaa
