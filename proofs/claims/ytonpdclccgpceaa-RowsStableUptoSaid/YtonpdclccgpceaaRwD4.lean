/- rows are read: the walk of readRow -/
import Derived.Test.YtonpdclccgpceaaRwD
import Derived.Test.YtonpdclccgpceaaRwI
namespace Go.Proofs.Ytonpdclccgpceaa
open Go Go.RowKit
set_option maxHeartbeats 8000000

/-- what stands while a row is read -/
structure RrAt (w wr : World) (B g : Nat) (A : Option Addr) (n c : Nat) (l : List Nat) (q : Nat) (bk : Bool) (va : Value) (k : Nat) (acc : List Arc) (le lt : Int) : Prop where
  own : wr.ownsRow 0 55 2 va k (cellsOf Arc.cells acc)
  base : ∀ x, va.ownBlock = some x → w.heap.size + 1 ≤ x
  last : Blk wr w.heap.size 55 #[.int .i64 le, .int .i64 lt]
  rd : RdrAt wr B g A n c l q bk
  out : Outside (fun k => k = g) w wr
  ltg : g < w.heap.size
section
variable {w wr w' : World} {B g n c q q' k : Nat} {A : Option Addr} {l : List Nat} {bk bk' : Bool} {va : Value} {acc : List Arc} {le lt : Int}
theorem RrAt.step (h : RrAt w wr B g A n c l q bk va k acc le lt) (hR : RdrAt w' B g A n c l q' bk') (hO : Outside (fun k => k = g) wr w') : RrAt w w' B g A n c l q' bk' va k acc le lt :=
  ⟨own_out h.own hO (fun x hx e => by have := h.base x hx; have := h.ltg; omega), h.base, h.last.out hO (by have := h.ltg; omega), hR, h.out.trans hO, h.ltg⟩
theorem RrAt.alloc (h : RrAt w wr B g A n c l q bk va k acc le lt) (o : Obj) : RrAt w (wr.alloc o) B g A n c l q bk va k acc le lt := h.step (h.rd.alloc o) ((Outside.refl _ _).alloc o)
theorem RrAt.drew (h : RrAt w wr B g A n c l q bk va k acc le lt) : RrAt w wr.drew B g A n c l q bk va k acc le lt := h.step h.rd.drew (Outside.refl _ _).drew
theorem RrAt.put {ta : Nat} (h : RrAt w wr B g A n c l q bk va k acc le lt) (hx : ∀ x, va.ownBlock = some x → x < ta) (ht : w.heap.size < ta) (i : Nat) (v : Value) : RrAt w (wr.setCell ⟨ta, i, none⟩ v) B g A n c l q bk va k acc le lt := by
  have hO : Outside (fun k => k = ta) wr (wr.setCell ⟨ta, i, none⟩ v) := (Outside.refl (fun k => k = ta) _).setCell (p := ⟨ta, i, none⟩) (.inl rfl) v
  have hg := h.ltg
  have hlo := h.rd.lo
  exact ⟨own_out h.own hO (fun x h1 e => by have := hx x h1; omega), h.base, h.last.out hO (by omega), h.rd.out hO (by omega) (fun k hk e => by omega), h.out.setCell (p := ⟨ta, i, none⟩) (.inr (by dsimp only; omega)) v, h.ltg⟩
theorem RrAt.last' (h : RrAt w wr B g A n c l q bk va k acc le lt) (le' lt' : Int) : RrAt w ((wr.setCell ⟨w.heap.size, 0, none⟩ (.int .i64 le')).setCell ⟨w.heap.size, 1, none⟩ (.int .i64 lt')) B g A n c l q bk va k acc le' lt' := by
  have hO : Outside (fun k => k = w.heap.size) wr ((wr.setCell ⟨w.heap.size, 0, none⟩ (.int .i64 le')).setCell ⟨w.heap.size, 1, none⟩ (.int .i64 lt')) := ((Outside.refl (fun k => k = w.heap.size) _).setCell (p := ⟨w.heap.size, 0, none⟩) (.inl rfl) _).setCell (p := ⟨w.heap.size, 1, none⟩) (.inl rfl) _
  have hg := h.ltg
  have hlo := h.rd.lo
  exact ⟨own_out h.own hO (fun x h1 e => by have := h.base x h1; omega), h.base, by simpa using (h.last.put 0 (.int .i64 le')).put 1 (.int .i64 lt'), h.rd.out hO (by omega) (fun k hk e => by omega), (h.out.setCell (p := ⟨w.heap.size, 0, none⟩) (.inr (Nat.le_refl _)) _).setCell (p := ⟨w.heap.size, 1, none⟩) (.inr (Nat.le_refl _)) _, h.ltg⟩
theorem RrAt.app {va' : Value} {k' : Nat} {acc' : List Arc} (h : RrAt w wr B g A n c l q bk va k acc le lt) (hO : Outside (fun x => va.ownBlock = some x) wr w') (hown : w'.ownsRow 0 55 2 va' k' (cellsOf Arc.cells acc')) (hb : ∀ x, va'.ownBlock = some x → va.ownBlock = some x ∨ wr.heap.size ≤ x) :
    RrAt w w' B g A n c l q bk va' k' acc' le lt := by
  have hg := h.ltg
  have hlo := h.rd.lo
  refine ⟨hown, fun x hx => ?_, h.last.out hO (fun e => by have := h.base _ e; omega), h.rd.out hO (fun e => by have := h.base _ e; omega) (fun k hk e => by have := h.base _ e; omega), ?_, h.ltg⟩
  · rcases hb x hx with h1 | h1
    · exact h.base x h1
    · have := h.last.lt; omega
  · exact ((h.out.mono (R' := fun k => k = g ∨ w.heap.size ≤ k) fun k _ e => Or.inl e).trans (hO.mono fun k _ e => Or.inr (by have := h.base _ e; omega))).mono fun k hk e => by
      rcases e with e | e
      · exact e
      · omega
end

/-- what readRow gives -/
def RowPost (w : World) (B g : Nat) (A : Option Addr) (n c : Nat) (l : List Nat) (p : Nat) (bad : Bool) (s ns : Nat) (e : Ending) (w' : World) : Prop :=
  ∃ (v' : Value) (ar : List Arc) (p' : Nat) (bad' : Bool), e = .returned v' ∧ w'.ownsRow 0 55 2 v' ar.length (cellsOf Arc.cells ar) ∧ (∀ x, v'.ownBlock = some x → w.heap.size ≤ x) ∧ ar.length ≤ 262144 ∧
    RdrAt w' B g A n c l p' bad' ∧ Outside (fun k => k = g) w w' ∧ (bad = true → bad' = true) ∧ (∀ r rest, RowG bad l p s ns r rest → ar = r ∧ p' = p + (rowF s r).length ∧ bad' = false)

set_option maxRecDepth 100000 in
theorem readRow_any (B g : Nat) (A : Option Addr) (n c p : Nat) (l : List Nat) (bad : Bool) (s ns : Nat) (w : World) (h : RdrAt w B g A n c l p bad) (hn : n ≤ 1000000000) (hs : s ≤ ns) (hns : ns ≤ 16384) :
    Calls Try.prog 48 #[.pointer (some ⟨g, 0, none⟩), .int .i64 s, .int .i64 ns] w (RowPost w B g A n c l p bad s ns) := by
  have H := Lib.hid (h.alloc (.cells #[.int .i64 0, .int .i64 0] 55))
  have HT := Lib.hid (Blk.new w 55 #[.int .i64 0, .int .i64 0])
  have HO := Lib.hid ((Outside.refl (fun k => k = g) w).alloc (.cells #[.int .i64 0, .int .i64 0] 55))
  have hgl : g < w.heap.size := h.blk.lt
  clear h
  go_enter Try.func48, Try.ntmps48
  go_wp2_with fail
  refine (ruv_any B g A n c p l bad 262144 _ H.out hn (by decide)).mono ?_
  rintro e w1 ⟨m, p1, b1, rfl, hm, hR1, hO1, hp1, hb1, hb0, hex⟩
  have HA := Lib.hid (show RrAt w w1 B g A n c l p1 b1 (.slice none 0 0) 0 [] 0 0 from
    ⟨World.ownsRow_nil _ _ _ _, fun x hx => (by cases hx), HT.out.out hO1 (by omega), hR1, HO.out.trans hO1, hgl⟩)
  have HEX := Lib.hid (show ∀ r rest, RowG bad l p s ns r rest → m = r.length ∧ b1 = false ∧ [] = r.take 0 ∧ l.drop p1 = rowB s (prevA r 0) (r.drop 0) ++ rest ∧ p1 + (rowB s (prevA r 0) (r.drop 0)).length = p + (rowF s r).length from fun r rest hG => by
    have h1 := row_first hG
    obtain ⟨e1, e2, e3⟩ := hex _ _ hG.good h1 hG.few
    refine ⟨e1, e3, rfl, by rw [e2]; exact drop_app h1, ?_⟩
    rw [e2, rowF, List.length_append]
    simp [prevA]
    omega)
  have HB1 := Lib.hid hb1
  have hmb : 0 < m → b1 = false := fun h => by
    cases b1
    · rfl
    · have := hb0 rfl; omega
  have HMB := Lib.hid hmb
  clear hR1 hO1 hb1 hb0 hex hmb hp1
  go_wp2_with fail
  go_loopw [7, 15] (fun va vk wr => ∃ (k q : Nat) (bk : Bool) (acc : List Arc) (le lt : Int), k ≤ m ∧ vk = .int .i64 k ∧ 0 ≤ le ∧ le ≤ 1025 * k ∧ -16384 ≤ lt ∧ lt ≤ 32768 + 16385 * k ∧
    Hid ((0 < m → bk = false) ∧ (bad = true → bk = true) ∧ acc.length = k ∧ (k = 0 → le = 0) ∧ (0 < k → acc[k - 1]? = some ⟨le, lt⟩) ∧
      ∀ r rest, RowG bad l p s ns r rest → m = r.length ∧ bk = false ∧ acc = r.take k ∧ l.drop q = rowB s (prevA r k) (r.drop k) ++ rest ∧ q + (rowB s (prevA r k) (r.drop k)).length = p + (rowF s r).length) ∧
    Hid (RrAt w wr B g A n c l q bk va k acc le lt)) (fun _ vk _ => m - (intOf vk).toNat)
  case atStart => exact ⟨0, p1, b1, [], 0, 0, Nat.zero_le _, rfl, by decide, by decide, by decide, by decide, Lib.hid ⟨HMB.out, HB1.out, rfl, fun _ => rfl, fun h => absurd h (by decide), HEX.out⟩, HA⟩
  case round =>
    obtain ⟨k, q, bk, acc, le, lt, hk, rfl, hle0, hle1, hlt0, hlt1, HG, HW⟩ := hrel
    obtain ⟨A7, c7, rfl, hkc, _⟩ := own_form HW.out.own
    by_cases hlt : k < m
    · have hbk : bk = false := HG.out.1 (by omega)
      subst hbk
      have HX := Lib.hid (HW.out.alloc (.cells #[.int .i64 0, .int .i64 0] 55))
      have HTa := Lib.hid (Blk.new wr 55 #[.int .i64 0, .int .i64 0])
      have HLT := Lib.hid (show ∀ x, (Value.slice A7 k c7).ownBlock = some x → x < wr.heap.size from fun x hx => own_lt HW.out.own hx)
      have hgr : w.heap.size < wr.heap.size := HW.out.last.lt
      go_wp2_with fail
      refine (ruv_any B g A n c q l false 1025 _ HX.out.rd hn (by decide)).mono ?_
      rintro e w3 ⟨st, p3, b3, rfl, hst, hR3, hO3, hp3, _, hb30, hex3⟩
      have HX3 := Lib.hid (HX.out.step hR3 hO3)
      have hTa3 := HTa.out.out hO3 (by omega)
      have h3ac := hTa3.cell
      have h3al := hTa3.lt
      have h3af := hTa3.frozen
      have h3lc := HX3.out.last.cell
      have h3ll := HX3.out.last.lt
      have HX4 := Lib.hid (HX3.out.put HLT.out hgr 0 (.int .i64 (le + st)))
      have HTa4 := Lib.hid (hTa3.put 0 (.int .i64 (le + st)))
      have HC1 := Lib.hid (show ∀ r rest, RowG bad l p s ns r rest → ∃ (a : Arc) (body tail : List Nat), r[k]? = some a ∧ (st : Int) = a.ev - le ∧ b3 = false ∧ l.drop p3 = body ++ (rowB s (prevA r (k + 1)) (r.drop (k + 1)) ++ rest) ∧
          p3 + body.length + (rowB s (prevA r (k + 1)) (r.drop (k + 1))).length = p + (rowF s r).length ∧ (0 < k → st = 0 → ∃ d : Nat, body = uv d ∧ a.to = lt + 1 + d ∧ d ≤ ns) ∧ (k = 0 ∨ 0 < st → body = zz (a.to - s) ∧ -(ns : Int) ≤ a.to - s ∧ a.to - s ≤ ns) from fun r rest hG => by
        obtain ⟨e1, _, e3, e4, e5⟩ := HG.out.2.2.2.2.2 r rest hG
        have hkr : k < r.length := by omega
        obtain ⟨a, st', body, f1, f2, f3, f4, f5, f6, f7⟩ := row_step (s := s) (n := ns) (le := le) (lt := lt) hkr hG.ok hG.asc ⟨by omega, by omega⟩ e4 HG.out.2.2.2.1 (fun h => by
          have h1 := HG.out.2.2.2.2.1 h
          rw [e3] at h1
          rw [List.getElem?_take] at h1
          split at h1
          · exact h1
          · cases h1)
        obtain ⟨g1, g2, g3⟩ := hex3 _ _ rfl f2 f4
        subst g1
        refine ⟨a, body, [], f1, f3, g3, by rw [g2]; exact drop_app f2, by omega, f6, f7⟩)
      have HB30 := Lib.hid hb30
      clear hR3 hO3 hTa3 hex3 hb30
      rcases (by omega : (0 < k ∧ st < 1) ∨ (k < 1) ∨ (0 < k ∧ 0 < st)) with ⟨hk0, hst0⟩ | hk0 | ⟨hk0, hst0⟩
      · have h4lc := HX4.out.last.cell
        have h4ll := HX4.out.last.lt
        have HBB := Lib.hid (show bad = true → false = true from fun h => by have := HG.out.2.1 h; exact this)
        go_wp2_with (first | ((with_reducible show wpPlan _ _ _ [] _ _ _); refine wpPlan_nil ?_) | ((with_reducible show wpPlan _ _ _ ((_, 0, _) :: _) _ _ _); first | (refine wpPlan_read0 rfl ?hw rfl (fun _ _ _ => ?_); case hw => ((conv => (lhs; whnf)); first | done | with_reducible rfl)) | (refine wpPlan_skip0 rfl ?hw ?_; (case hw => ((conv => (lhs; whnf)); first | done | with_reducible rfl)); (try simp only [List.getElem_toArray, List.getElem_cons_succ, List.getElem_cons_zero, Act.put, List.setIfInBounds_toArray, List.set_cons_zero, List.set_cons_succ]))) | ((with_reducible show wpPlan _ _ _ ((_, 1, _) :: _) _ _ _); first | (refine wpPlan_read1d rfl ?hw rfl rfl (fun _ _ _ => ?_); case hw => ((conv => (lhs; whnf)); first | done | with_reducible rfl)) | (refine wpPlan_skip1d rfl ?hw ?_; (case hw => ((conv => (lhs; whnf)); first | done | with_reducible rfl)); (try simp only [List.getElem_toArray, List.getElem_cons_succ, List.getElem_cons_zero, Act.put, List.setIfInBounds_toArray, List.set_cons_zero, List.set_cons_succ])) | (refine wpPlan_read1 rfl ?hw rfl (fun _ _ _ => ?_); case hw => ((conv => (lhs; whnf)); first | done | with_reducible rfl))) | ((with_reducible show wpPlan _ _ _ ((_, 2, _) :: _) _ _ _); first | (refine wpPlan_eff rfl ?hw (fun _ _ => ?_); case hw => ((conv => (lhs; whnf)); first | done | with_reducible rfl)) | (refine wpPlan_skip2 rfl ?hw ?_; (case hw => ((conv => (lhs; whnf)); first | done | with_reducible rfl)); (try simp only [List.getElem_toArray, List.getElem_cons_succ, List.getElem_cons_zero, Act.put, List.setIfInBounds_toArray, List.set_cons_zero, List.set_cons_succ]))) | ((with_reducible show wpPlan _ _ _ _ _ _ _); refine wpPlan_fork ?_ ?_) | ((with_reducible show Owed _ _ _ [] _ _ _ _ _); refine Owed.none_ ?_) | ((with_reducible show Owed _ _ _ _ [] _ _ _ _); refine Owed.nil_ ?_) | ((with_reducible show Owed _ _ _ _ _ _ _ _ _); first | (refine Owed.miss rfl ?_) | (refine Owed.hit ?_ ?_)) | ((with_reducible show Same _ _ _ _ _); intro _; go_simp; done) | (with_reducible exact True.intro) | ((with_reducible show Code.wp _ (Code.region 10 _ true) _ _ _); refine wp_region_plan [(0, 1, []), (1, 1, []), (2, 1, []), (3, 0, []), (4, 0, []), (5, 2, [0, 1, 2]), (6, 1, []), (7, 1, []), (8, 2, [])] (by kernel_rfl) (by kernel_rfl) (by kernel_rfl) ?_))
        refine (ruv_any B g A n c p3 l b3 ns _ HX4.out.rd.drew hn (by omega)).mono ?_
        rintro e w4 ⟨d4, p4, b4, rfl, hd4, hR4, hO4, hp4, hbb4, hz4, hex4⟩
        have HX5 := Lib.hid (HX4.out.drew.step hR4 hO4)
        have HTa5 := Lib.hid (Blk.out (R := fun k => k = g) HTa4.out.drew hO4 (by omega))
        have HC2 := Lib.hid (show ∀ r rest, RowG bad l p s ns r rest → b4 = false ∧ r[k]? = some ⟨le + st, lt + 1 + (d4 : Int)⟩ ∧ l.drop p4 = rowB s (prevA r (k + 1)) (r.drop (k + 1)) ++ rest ∧ p4 + (rowB s (prevA r (k + 1)) (r.drop (k + 1))).length = p + (rowF s r).length from fun r rest hG => by
          obtain ⟨a, body, _, f1, f2, f3, f4, f5, f6, f7⟩ := HC1.out r rest hG
          obtain ⟨ae, at_⟩ := a
          dsimp only at f2 f6 f7
          obtain ⟨d, rfl, f8, f9⟩ := f6 hk0 (by omega)
          obtain ⟨g1, g2, g3⟩ := hex4 _ _ f3 f4 f9
          refine ⟨g3, ?_, by rw [g2]; exact drop_app f4, by omega⟩
          rw [f1]
          congr 2 <;> omega)
        clear hR4 hO4 hex4 hbb4 hz4
        have HX6 := Lib.hid (HX5.out.put HLT.out hgr 1 (.int .i64 (lt + 1 + (d4 : Int))))
        have hTa6 := HTa5.out.put 1 (.int .i64 (lt + 1 + (d4 : Int)))
        have HTa6 := Lib.hid hTa6
        have h5ac := HTa5.out.cell
        have h5al := HTa5.out.lt
        have h5af := HTa5.out.frozen
        have h5lc := HX5.out.last.cell
        have h5ll := HX5.out.last.lt
        have h6gc := HX6.out.rd.blk.cell
        have h6gl := HX6.out.rd.blk.lt
        have hto0 : -16384 ≤ lt + 1 + (d4 : Int) := by omega
        have hto1 : lt + 1 + (d4 : Int) ≤ 32768 + 16385 * ((k + 1 : Nat) : Int) := by omega
        clear hTa6
        cases b4
        · have h6ac := HTa6.out.cell
          have h6al := HTa6.out.lt
          go_wp2_with (first | ((with_reducible show wpPlan _ _ _ [] _ _ _); refine wpPlan_nil ?_) | ((with_reducible show wpPlan _ _ _ ((_, 0, _) :: _) _ _ _); first | (refine wpPlan_read0 rfl ?hw rfl (fun _ _ _ => ?_); case hw => ((conv => (lhs; whnf)); first | done | with_reducible rfl)) | (refine wpPlan_skip0 rfl ?hw ?_; (case hw => ((conv => (lhs; whnf)); first | done | with_reducible rfl)); (try simp only [List.getElem_toArray, List.getElem_cons_succ, List.getElem_cons_zero, Act.put, List.setIfInBounds_toArray, List.set_cons_zero, List.set_cons_succ]))) | ((with_reducible show wpPlan _ _ _ ((_, 1, _) :: _) _ _ _); first | (refine wpPlan_read1d rfl ?hw rfl rfl (fun _ _ _ => ?_); case hw => ((conv => (lhs; whnf)); first | done | with_reducible rfl)) | (refine wpPlan_skip1d rfl ?hw ?_; (case hw => ((conv => (lhs; whnf)); first | done | with_reducible rfl)); (try simp only [List.getElem_toArray, List.getElem_cons_succ, List.getElem_cons_zero, Act.put, List.setIfInBounds_toArray, List.set_cons_zero, List.set_cons_succ])) | (refine wpPlan_read1 rfl ?hw rfl (fun _ _ _ => ?_); case hw => ((conv => (lhs; whnf)); first | done | with_reducible rfl))) | ((with_reducible show wpPlan _ _ _ ((_, 2, _) :: _) _ _ _); first | (refine wpPlan_eff rfl ?hw (fun _ _ => ?_); case hw => ((conv => (lhs; whnf)); first | done | with_reducible rfl)) | (refine wpPlan_skip2 rfl ?hw ?_; (case hw => ((conv => (lhs; whnf)); first | done | with_reducible rfl)); (try simp only [List.getElem_toArray, List.getElem_cons_succ, List.getElem_cons_zero, Act.put, List.setIfInBounds_toArray, List.set_cons_zero, List.set_cons_succ]))) | ((with_reducible show wpPlan _ _ _ _ _ _ _); refine wpPlan_fork ?_ ?_) | ((with_reducible show Owed _ _ _ [] _ _ _ _ _); refine Owed.none_ ?_) | ((with_reducible show Owed _ _ _ _ [] _ _ _ _); refine Owed.nil_ ?_) | ((with_reducible show Owed _ _ _ _ _ _ _ _ _); first | (refine Owed.miss rfl ?_) | (refine Owed.hit ?_ ?_)) | ((with_reducible show Same _ _ _ _ _); intro _; go_simp; done) | (with_reducible exact True.intro) | ((with_reducible show Code.wp _ (Code.region 10 _ true) _ _ _); refine wp_region_plan [(0, 1, []), (1, 1, []), (2, 1, []), (3, 0, []), (4, 0, []), (5, 2, [0, 1, 2]), (6, 1, []), (7, 1, []), (8, 2, [])] (by kernel_rfl) (by kernel_rfl) (by kernel_rfl) ?_) | (at_builtin; refine appList_blk rfl slArc rfl (World.ownsRow.alloc HX6.out.own _) rfl (news := [.int .i64 (le + st), .int .i64 (lt + 1 + (d4 : Int))]) ((heap_alloc_at (by simp)) : Blk _ w4.heap.size _ _) rfl rfl (by simp [Value.oneCell']) (by decide) (by unfold maxLen; omega) (by omega) ?_; intro g8 c8 w8 hown8 hgrow8 hat8; refine Stop7.intro ?_))
          unfold Stop7
          have hO8 : Outside (fun x => (Value.slice A7 k c7).ownBlock = some x) (w4.setCell ⟨wr.heap.size, 1, none⟩ (.int .i64 (lt + 1 + (d4 : Int)))) w8 := ((Outside.refl (fun x => (Value.slice A7 k c7).ownBlock = some x) _).alloc (.cells #[.int .i64 (le + st), .int .i64 (lt + 1 + (d4 : Int))] 55)).grown hgrow8 (fun z hz => .inl hz)
          have hown9 : w8.ownsRow 0 55 2 (.slice (some ⟨g8, 0, none⟩) (k + 1) c8) (k + 1) (cellsOf Arc.cells (acc ++ [⟨le + st, lt + 1 + (d4 : Int)⟩])) := by
            rw [cellsOf_append]
            exact hown8
          have HX8 := Lib.hid (HX6.out.app hO8 hown9 (fun x hx => by
            have h1 : g8 = x := by simpa [Value.ownBlock] using hx
            subst h1
            rcases hat8 with h | h
            · exact .inl h
            · refine .inr (Nat.le_trans ?_ h)
              simp))
          have hTa8 := HTa6.out.out hO8 (fun e => by have := HLT.out _ e; omega)
          have h8ac := hTa8.cell
          have h8al := hTa8.lt
          have h8lc := HX8.out.last.cell
          have h8ll := HX8.out.last.lt
          have h8lf := HX8.out.last.frozen
          have HX9 := Lib.hid (HX8.out.last' (le + st) (lt + 1 + (d4 : Int)))
          clear hO8 hown8 hown9 hgrow8 hat8 hTa8
          go_wp2_with (first | ((with_reducible show wpPlan _ _ _ [] _ _ _); refine wpPlan_nil ?_) | ((with_reducible show wpPlan _ _ _ ((_, 0, _) :: _) _ _ _); first | (refine wpPlan_read0 rfl ?hw rfl (fun _ _ _ => ?_); case hw => ((conv => (lhs; whnf)); first | done | with_reducible rfl)) | (refine wpPlan_skip0 rfl ?hw ?_; (case hw => ((conv => (lhs; whnf)); first | done | with_reducible rfl)); (try simp only [List.getElem_toArray, List.getElem_cons_succ, List.getElem_cons_zero, Act.put, List.setIfInBounds_toArray, List.set_cons_zero, List.set_cons_succ]))) | ((with_reducible show wpPlan _ _ _ ((_, 1, _) :: _) _ _ _); first | (refine wpPlan_read1d rfl ?hw rfl rfl (fun _ _ _ => ?_); case hw => ((conv => (lhs; whnf)); first | done | with_reducible rfl)) | (refine wpPlan_skip1d rfl ?hw ?_; (case hw => ((conv => (lhs; whnf)); first | done | with_reducible rfl)); (try simp only [List.getElem_toArray, List.getElem_cons_succ, List.getElem_cons_zero, Act.put, List.setIfInBounds_toArray, List.set_cons_zero, List.set_cons_succ])) | (refine wpPlan_read1 rfl ?hw rfl (fun _ _ _ => ?_); case hw => ((conv => (lhs; whnf)); first | done | with_reducible rfl))) | ((with_reducible show wpPlan _ _ _ ((_, 2, _) :: _) _ _ _); first | (refine wpPlan_eff rfl ?hw (fun _ _ => ?_); case hw => ((conv => (lhs; whnf)); first | done | with_reducible rfl)) | (refine wpPlan_skip2 rfl ?hw ?_; (case hw => ((conv => (lhs; whnf)); first | done | with_reducible rfl)); (try simp only [List.getElem_toArray, List.getElem_cons_succ, List.getElem_cons_zero, Act.put, List.setIfInBounds_toArray, List.set_cons_zero, List.set_cons_succ]))) | ((with_reducible show wpPlan _ _ _ _ _ _ _); refine wpPlan_fork ?_ ?_) | ((with_reducible show Owed _ _ _ [] _ _ _ _ _); refine Owed.none_ ?_) | ((with_reducible show Owed _ _ _ _ [] _ _ _ _); refine Owed.nil_ ?_) | ((with_reducible show Owed _ _ _ _ _ _ _ _ _); first | (refine Owed.miss rfl ?_) | (refine Owed.hit ?_ ?_)) | ((with_reducible show Same _ _ _ _ _); intro _; go_simp; done) | (with_reducible exact True.intro) | ((with_reducible show Code.wp _ (Code.region 10 _ true) _ _ _); refine wp_region_plan [(0, 1, []), (1, 1, []), (2, 1, []), (3, 0, []), (4, 0, []), (5, 2, [0, 1, 2]), (6, 1, []), (7, 1, []), (8, 2, [])] (by kernel_rfl) (by kernel_rfl) (by kernel_rfl) ?_))
          go_roundw
          case rel => exact ⟨k + 1, p4, false, acc ++ [⟨le + st, lt + 1 + (d4 : Int)⟩], le + st, lt + 1 + (d4 : Int), by omega, by go_num, by omega, by omega, hto0, hto1, Lib.hid ⟨fun _ => rfl, HBB.out, by rw [List.length_append, HG.out.2.2.1]; rfl, fun h => by omega, fun _ => by
              rw [Nat.add_sub_cancel, List.getElem?_append_right (by rw [HG.out.2.2.1]; exact Nat.le_refl _), HG.out.2.2.1, Nat.sub_self]; rfl, fun r rest hG => by
              obtain ⟨e1, _, e3, _⟩ := HG.out.2.2.2.2.2 r rest hG
              obtain ⟨f1, f2, f3, f4⟩ := HC2.out r rest hG
              obtain ⟨hk2, f5⟩ := List.getElem?_eq_some_iff.1 f2
              refine ⟨e1, rfl, ?_, f3, f4⟩
              rw [List.take_succ_eq_append_getElem hk2, f5, e3]⟩, HX9⟩
          case measure => simp [intOf]; omega
        · go_wp2_with (first | ((with_reducible show wpPlan _ _ _ [] _ _ _); refine wpPlan_nil ?_) | ((with_reducible show wpPlan _ _ _ ((_, 0, _) :: _) _ _ _); first | (refine wpPlan_read0 rfl ?hw rfl (fun _ _ _ => ?_); case hw => ((conv => (lhs; whnf)); first | done | with_reducible rfl)) | (refine wpPlan_skip0 rfl ?hw ?_; (case hw => ((conv => (lhs; whnf)); first | done | with_reducible rfl)); (try simp only [List.getElem_toArray, List.getElem_cons_succ, List.getElem_cons_zero, Act.put, List.setIfInBounds_toArray, List.set_cons_zero, List.set_cons_succ]))) | ((with_reducible show wpPlan _ _ _ ((_, 1, _) :: _) _ _ _); first | (refine wpPlan_read1d rfl ?hw rfl rfl (fun _ _ _ => ?_); case hw => ((conv => (lhs; whnf)); first | done | with_reducible rfl)) | (refine wpPlan_skip1d rfl ?hw ?_; (case hw => ((conv => (lhs; whnf)); first | done | with_reducible rfl)); (try simp only [List.getElem_toArray, List.getElem_cons_succ, List.getElem_cons_zero, Act.put, List.setIfInBounds_toArray, List.set_cons_zero, List.set_cons_succ])) | (refine wpPlan_read1 rfl ?hw rfl (fun _ _ _ => ?_); case hw => ((conv => (lhs; whnf)); first | done | with_reducible rfl))) | ((with_reducible show wpPlan _ _ _ ((_, 2, _) :: _) _ _ _); first | (refine wpPlan_eff rfl ?hw (fun _ _ => ?_); case hw => ((conv => (lhs; whnf)); first | done | with_reducible rfl)) | (refine wpPlan_skip2 rfl ?hw ?_; (case hw => ((conv => (lhs; whnf)); first | done | with_reducible rfl)); (try simp only [List.getElem_toArray, List.getElem_cons_succ, List.getElem_cons_zero, Act.put, List.setIfInBounds_toArray, List.set_cons_zero, List.set_cons_succ]))) | ((with_reducible show wpPlan _ _ _ _ _ _ _); refine wpPlan_fork ?_ ?_) | ((with_reducible show Owed _ _ _ [] _ _ _ _ _); refine Owed.none_ ?_) | ((with_reducible show Owed _ _ _ _ [] _ _ _ _); refine Owed.nil_ ?_) | ((with_reducible show Owed _ _ _ _ _ _ _ _ _); first | (refine Owed.miss rfl ?_) | (refine Owed.hit ?_ ?_)) | ((with_reducible show Same _ _ _ _ _); intro _; go_simp; done) | (with_reducible exact True.intro) | ((with_reducible show Code.wp _ (Code.region 10 _ true) _ _ _); refine wp_region_plan [(0, 1, []), (1, 1, []), (2, 1, []), (3, 0, []), (4, 0, []), (5, 2, [0, 1, 2]), (6, 1, []), (7, 1, []), (8, 2, [])] (by kernel_rfl) (by kernel_rfl) (by kernel_rfl) ?_))
          go_ret
          exact ⟨.slice none 0 0, [], p4, true, rfl, World.ownsRow_nil _ _ _ _, fun x hx => absurd hx (by simp [Value.ownBlock]), Nat.zero_le _, HX6.out.rd, HX6.out.out, fun _ => rfl, fun r rest hG => by have := (HC2.out r rest hG).1; cases this⟩
      · have HBB := Lib.hid (show bad = true → false = true from fun h => by have := HG.out.2.1 h; exact this)
        go_wp2_with (first | ((with_reducible show wpPlan _ _ _ [] _ _ _); refine wpPlan_nil ?_) | ((with_reducible show wpPlan _ _ _ ((_, 0, _) :: _) _ _ _); first | (refine wpPlan_read0 rfl ?hw rfl (fun _ _ _ => ?_); case hw => ((conv => (lhs; whnf)); first | done | with_reducible rfl)) | (refine wpPlan_skip0 rfl ?hw ?_; (case hw => ((conv => (lhs; whnf)); first | done | with_reducible rfl)); (try simp only [List.getElem_toArray, List.getElem_cons_succ, List.getElem_cons_zero, Act.put, List.setIfInBounds_toArray, List.set_cons_zero, List.set_cons_succ]))) | ((with_reducible show wpPlan _ _ _ ((_, 1, _) :: _) _ _ _); first | (refine wpPlan_read1d rfl ?hw rfl rfl (fun _ _ _ => ?_); case hw => ((conv => (lhs; whnf)); first | done | with_reducible rfl)) | (refine wpPlan_skip1d rfl ?hw ?_; (case hw => ((conv => (lhs; whnf)); first | done | with_reducible rfl)); (try simp only [List.getElem_toArray, List.getElem_cons_succ, List.getElem_cons_zero, Act.put, List.setIfInBounds_toArray, List.set_cons_zero, List.set_cons_succ])) | (refine wpPlan_read1 rfl ?hw rfl (fun _ _ _ => ?_); case hw => ((conv => (lhs; whnf)); first | done | with_reducible rfl))) | ((with_reducible show wpPlan _ _ _ ((_, 2, _) :: _) _ _ _); first | (refine wpPlan_eff rfl ?hw (fun _ _ => ?_); case hw => ((conv => (lhs; whnf)); first | done | with_reducible rfl)) | (refine wpPlan_skip2 rfl ?hw ?_; (case hw => ((conv => (lhs; whnf)); first | done | with_reducible rfl)); (try simp only [List.getElem_toArray, List.getElem_cons_succ, List.getElem_cons_zero, Act.put, List.setIfInBounds_toArray, List.set_cons_zero, List.set_cons_succ]))) | ((with_reducible show wpPlan _ _ _ _ _ _ _); refine wpPlan_fork ?_ ?_) | ((with_reducible show Owed _ _ _ [] _ _ _ _ _); refine Owed.none_ ?_) | ((with_reducible show Owed _ _ _ _ [] _ _ _ _); refine Owed.nil_ ?_) | ((with_reducible show Owed _ _ _ _ _ _ _ _ _); first | (refine Owed.miss rfl ?_) | (refine Owed.hit ?_ ?_)) | ((with_reducible show Same _ _ _ _ _); intro _; go_simp; done) | (with_reducible exact True.intro) | ((with_reducible show Code.wp _ (Code.region 10 _ true) _ _ _); refine wp_region_plan [(0, 1, []), (1, 1, []), (2, 1, []), (3, 0, []), (4, 0, []), (5, 2, [0, 1, 2]), (6, 1, []), (7, 1, []), (8, 2, [])] (by kernel_rfl) (by kernel_rfl) (by kernel_rfl) ?_))
        refine (rzz_any B g A n c p3 l b3 ns _ HX4.out.rd hn (by omega)).mono ?_
        rintro e w4 ⟨d4, p4, b4, rfl, hd4, hd4', hR4, hO4, hp4, hbb4, hex4⟩
        have HX5 := Lib.hid (HX4.out.step hR4 hO4)
        have HTa5 := Lib.hid (Blk.out (R := fun k => k = g) HTa4.out hO4 (by omega))
        have HC2 := Lib.hid (show ∀ r rest, RowG bad l p s ns r rest → b4 = false ∧ r[k]? = some ⟨le + st, (s : Int) + d4⟩ ∧ l.drop p4 = rowB s (prevA r (k + 1)) (r.drop (k + 1)) ++ rest ∧ p4 + (rowB s (prevA r (k + 1)) (r.drop (k + 1))).length = p + (rowF s r).length from fun r rest hG => by
          obtain ⟨a, body, _, f1, f2, f3, f4, f5, f6, f7⟩ := HC1.out r rest hG
          obtain ⟨ae, at_⟩ := a
          dsimp only at f2 f6 f7
          obtain ⟨rfl, f8, f9⟩ := f7 (by omega)
          obtain ⟨g1, g2, g3⟩ := hex4 _ _ f3 f4 f8 f9
          refine ⟨g3, ?_, by rw [g2]; exact drop_app f4, by omega⟩
          rw [f1]
          congr 2 <;> omega)
        clear hR4 hO4 hex4 hbb4
        have HX6 := Lib.hid (HX5.out.put HLT.out hgr 1 (.int .i64 ((s : Int) + d4)))
        have hTa6 := HTa5.out.put 1 (.int .i64 ((s : Int) + d4))
        have HTa6 := Lib.hid hTa6
        have h5ac := HTa5.out.cell
        have h5al := HTa5.out.lt
        have h5af := HTa5.out.frozen
        have h5lc := HX5.out.last.cell
        have h5ll := HX5.out.last.lt
        have h6gc := HX6.out.rd.blk.cell
        have h6gl := HX6.out.rd.blk.lt
        have hto0 : -16384 ≤ (s : Int) + d4 := by omega
        have hto1 : (s : Int) + d4 ≤ 32768 + 16385 * ((k + 1 : Nat) : Int) := by omega
        clear hTa6
        cases b4
        · have h6ac := HTa6.out.cell
          have h6al := HTa6.out.lt
          go_wp2_with (first | ((with_reducible show wpPlan _ _ _ [] _ _ _); refine wpPlan_nil ?_) | ((with_reducible show wpPlan _ _ _ ((_, 0, _) :: _) _ _ _); first | (refine wpPlan_read0 rfl ?hw rfl (fun _ _ _ => ?_); case hw => ((conv => (lhs; whnf)); first | done | with_reducible rfl)) | (refine wpPlan_skip0 rfl ?hw ?_; (case hw => ((conv => (lhs; whnf)); first | done | with_reducible rfl)); (try simp only [List.getElem_toArray, List.getElem_cons_succ, List.getElem_cons_zero, Act.put, List.setIfInBounds_toArray, List.set_cons_zero, List.set_cons_succ]))) | ((with_reducible show wpPlan _ _ _ ((_, 1, _) :: _) _ _ _); first | (refine wpPlan_read1d rfl ?hw rfl rfl (fun _ _ _ => ?_); case hw => ((conv => (lhs; whnf)); first | done | with_reducible rfl)) | (refine wpPlan_skip1d rfl ?hw ?_; (case hw => ((conv => (lhs; whnf)); first | done | with_reducible rfl)); (try simp only [List.getElem_toArray, List.getElem_cons_succ, List.getElem_cons_zero, Act.put, List.setIfInBounds_toArray, List.set_cons_zero, List.set_cons_succ])) | (refine wpPlan_read1 rfl ?hw rfl (fun _ _ _ => ?_); case hw => ((conv => (lhs; whnf)); first | done | with_reducible rfl))) | ((with_reducible show wpPlan _ _ _ ((_, 2, _) :: _) _ _ _); first | (refine wpPlan_eff rfl ?hw (fun _ _ => ?_); case hw => ((conv => (lhs; whnf)); first | done | with_reducible rfl)) | (refine wpPlan_skip2 rfl ?hw ?_; (case hw => ((conv => (lhs; whnf)); first | done | with_reducible rfl)); (try simp only [List.getElem_toArray, List.getElem_cons_succ, List.getElem_cons_zero, Act.put, List.setIfInBounds_toArray, List.set_cons_zero, List.set_cons_succ]))) | ((with_reducible show wpPlan _ _ _ _ _ _ _); refine wpPlan_fork ?_ ?_) | ((with_reducible show Owed _ _ _ [] _ _ _ _ _); refine Owed.none_ ?_) | ((with_reducible show Owed _ _ _ _ [] _ _ _ _); refine Owed.nil_ ?_) | ((with_reducible show Owed _ _ _ _ _ _ _ _ _); first | (refine Owed.miss rfl ?_) | (refine Owed.hit ?_ ?_)) | ((with_reducible show Same _ _ _ _ _); intro _; go_simp; done) | (with_reducible exact True.intro) | ((with_reducible show Code.wp _ (Code.region 10 _ true) _ _ _); refine wp_region_plan [(0, 1, []), (1, 1, []), (2, 1, []), (3, 0, []), (4, 0, []), (5, 2, [0, 1, 2]), (6, 1, []), (7, 1, []), (8, 2, [])] (by kernel_rfl) (by kernel_rfl) (by kernel_rfl) ?_) | (at_builtin; refine appList_blk rfl slArc rfl (World.ownsRow.alloc HX6.out.own _) rfl (news := [.int .i64 (le + st), .int .i64 ((s : Int) + d4)]) ((heap_alloc_at (by simp)) : Blk _ w4.heap.size _ _) rfl rfl (by simp [Value.oneCell']) (by decide) (by unfold maxLen; omega) (by omega) ?_; intro g8 c8 w8 hown8 hgrow8 hat8; refine Stop7.intro ?_))
          unfold Stop7
          have hO8 : Outside (fun x => (Value.slice A7 k c7).ownBlock = some x) (w4.setCell ⟨wr.heap.size, 1, none⟩ (.int .i64 ((s : Int) + d4))) w8 := ((Outside.refl (fun x => (Value.slice A7 k c7).ownBlock = some x) _).alloc (.cells #[.int .i64 (le + st), .int .i64 ((s : Int) + d4)] 55)).grown hgrow8 (fun z hz => .inl hz)
          have hown9 : w8.ownsRow 0 55 2 (.slice (some ⟨g8, 0, none⟩) (k + 1) c8) (k + 1) (cellsOf Arc.cells (acc ++ [⟨le + st, (s : Int) + d4⟩])) := by
            rw [cellsOf_append]
            exact hown8
          have HX8 := Lib.hid (HX6.out.app hO8 hown9 (fun x hx => by
            have h1 : g8 = x := by simpa [Value.ownBlock] using hx
            subst h1
            rcases hat8 with h | h
            · exact .inl h
            · refine .inr (Nat.le_trans ?_ h)
              simp))
          have hTa8 := HTa6.out.out hO8 (fun e => by have := HLT.out _ e; omega)
          have h8ac := hTa8.cell
          have h8al := hTa8.lt
          have h8lc := HX8.out.last.cell
          have h8ll := HX8.out.last.lt
          have h8lf := HX8.out.last.frozen
          have HX9 := Lib.hid (HX8.out.last' (le + st) ((s : Int) + d4))
          clear hO8 hown8 hown9 hgrow8 hat8 hTa8
          go_wp2_with (first | ((with_reducible show wpPlan _ _ _ [] _ _ _); refine wpPlan_nil ?_) | ((with_reducible show wpPlan _ _ _ ((_, 0, _) :: _) _ _ _); first | (refine wpPlan_read0 rfl ?hw rfl (fun _ _ _ => ?_); case hw => ((conv => (lhs; whnf)); first | done | with_reducible rfl)) | (refine wpPlan_skip0 rfl ?hw ?_; (case hw => ((conv => (lhs; whnf)); first | done | with_reducible rfl)); (try simp only [List.getElem_toArray, List.getElem_cons_succ, List.getElem_cons_zero, Act.put, List.setIfInBounds_toArray, List.set_cons_zero, List.set_cons_succ]))) | ((with_reducible show wpPlan _ _ _ ((_, 1, _) :: _) _ _ _); first | (refine wpPlan_read1d rfl ?hw rfl rfl (fun _ _ _ => ?_); case hw => ((conv => (lhs; whnf)); first | done | with_reducible rfl)) | (refine wpPlan_skip1d rfl ?hw ?_; (case hw => ((conv => (lhs; whnf)); first | done | with_reducible rfl)); (try simp only [List.getElem_toArray, List.getElem_cons_succ, List.getElem_cons_zero, Act.put, List.setIfInBounds_toArray, List.set_cons_zero, List.set_cons_succ])) | (refine wpPlan_read1 rfl ?hw rfl (fun _ _ _ => ?_); case hw => ((conv => (lhs; whnf)); first | done | with_reducible rfl))) | ((with_reducible show wpPlan _ _ _ ((_, 2, _) :: _) _ _ _); first | (refine wpPlan_eff rfl ?hw (fun _ _ => ?_); case hw => ((conv => (lhs; whnf)); first | done | with_reducible rfl)) | (refine wpPlan_skip2 rfl ?hw ?_; (case hw => ((conv => (lhs; whnf)); first | done | with_reducible rfl)); (try simp only [List.getElem_toArray, List.getElem_cons_succ, List.getElem_cons_zero, Act.put, List.setIfInBounds_toArray, List.set_cons_zero, List.set_cons_succ]))) | ((with_reducible show wpPlan _ _ _ _ _ _ _); refine wpPlan_fork ?_ ?_) | ((with_reducible show Owed _ _ _ [] _ _ _ _ _); refine Owed.none_ ?_) | ((with_reducible show Owed _ _ _ _ [] _ _ _ _); refine Owed.nil_ ?_) | ((with_reducible show Owed _ _ _ _ _ _ _ _ _); first | (refine Owed.miss rfl ?_) | (refine Owed.hit ?_ ?_)) | ((with_reducible show Same _ _ _ _ _); intro _; go_simp; done) | (with_reducible exact True.intro) | ((with_reducible show Code.wp _ (Code.region 10 _ true) _ _ _); refine wp_region_plan [(0, 1, []), (1, 1, []), (2, 1, []), (3, 0, []), (4, 0, []), (5, 2, [0, 1, 2]), (6, 1, []), (7, 1, []), (8, 2, [])] (by kernel_rfl) (by kernel_rfl) (by kernel_rfl) ?_))
          go_roundw
          case rel => exact ⟨k + 1, p4, false, acc ++ [⟨le + st, (s : Int) + d4⟩], le + st, (s : Int) + d4, by omega, by go_num, by omega, by omega, hto0, hto1, Lib.hid ⟨fun _ => rfl, HBB.out, by rw [List.length_append, HG.out.2.2.1]; rfl, fun h => by omega, fun _ => by
              rw [Nat.add_sub_cancel, List.getElem?_append_right (by rw [HG.out.2.2.1]; exact Nat.le_refl _), HG.out.2.2.1, Nat.sub_self]; rfl, fun r rest hG => by
              obtain ⟨e1, _, e3, _⟩ := HG.out.2.2.2.2.2 r rest hG
              obtain ⟨f1, f2, f3, f4⟩ := HC2.out r rest hG
              obtain ⟨hk2, f5⟩ := List.getElem?_eq_some_iff.1 f2
              refine ⟨e1, rfl, ?_, f3, f4⟩
              rw [List.take_succ_eq_append_getElem hk2, f5, e3]⟩, HX9⟩
          case measure => simp [intOf]; omega
        · go_wp2_with fail
          go_ret
          exact ⟨.slice none 0 0, [], p4, true, rfl, World.ownsRow_nil _ _ _ _, fun x hx => absurd hx (by simp [Value.ownBlock]), Nat.zero_le _, HX6.out.rd, HX6.out.out, fun _ => rfl, fun r rest hG => by have := (HC2.out r rest hG).1; cases this⟩
      · have HBB := Lib.hid (show bad = true → false = true from fun h => by have := HG.out.2.1 h; exact this)
        go_wp2_with (first | ((with_reducible show wpPlan _ _ _ [] _ _ _); refine wpPlan_nil ?_) | ((with_reducible show wpPlan _ _ _ ((_, 0, _) :: _) _ _ _); first | (refine wpPlan_read0 rfl ?hw rfl (fun _ _ _ => ?_); case hw => ((conv => (lhs; whnf)); first | done | with_reducible rfl)) | (refine wpPlan_skip0 rfl ?hw ?_; (case hw => ((conv => (lhs; whnf)); first | done | with_reducible rfl)); (try simp only [List.getElem_toArray, List.getElem_cons_succ, List.getElem_cons_zero, Act.put, List.setIfInBounds_toArray, List.set_cons_zero, List.set_cons_succ]))) | ((with_reducible show wpPlan _ _ _ ((_, 1, _) :: _) _ _ _); first | (refine wpPlan_read1d rfl ?hw rfl rfl (fun _ _ _ => ?_); case hw => ((conv => (lhs; whnf)); first | done | with_reducible rfl)) | (refine wpPlan_skip1d rfl ?hw ?_; (case hw => ((conv => (lhs; whnf)); first | done | with_reducible rfl)); (try simp only [List.getElem_toArray, List.getElem_cons_succ, List.getElem_cons_zero, Act.put, List.setIfInBounds_toArray, List.set_cons_zero, List.set_cons_succ])) | (refine wpPlan_read1 rfl ?hw rfl (fun _ _ _ => ?_); case hw => ((conv => (lhs; whnf)); first | done | with_reducible rfl))) | ((with_reducible show wpPlan _ _ _ ((_, 2, _) :: _) _ _ _); first | (refine wpPlan_eff rfl ?hw (fun _ _ => ?_); case hw => ((conv => (lhs; whnf)); first | done | with_reducible rfl)) | (refine wpPlan_skip2 rfl ?hw ?_; (case hw => ((conv => (lhs; whnf)); first | done | with_reducible rfl)); (try simp only [List.getElem_toArray, List.getElem_cons_succ, List.getElem_cons_zero, Act.put, List.setIfInBounds_toArray, List.set_cons_zero, List.set_cons_succ]))) | ((with_reducible show wpPlan _ _ _ _ _ _ _); refine wpPlan_fork ?_ ?_) | ((with_reducible show Owed _ _ _ [] _ _ _ _ _); refine Owed.none_ ?_) | ((with_reducible show Owed _ _ _ _ [] _ _ _ _); refine Owed.nil_ ?_) | ((with_reducible show Owed _ _ _ _ _ _ _ _ _); first | (refine Owed.miss rfl ?_) | (refine Owed.hit ?_ ?_)) | ((with_reducible show Same _ _ _ _ _); intro _; go_simp; done) | (with_reducible exact True.intro) | ((with_reducible show Code.wp _ (Code.region 10 _ true) _ _ _); refine wp_region_plan [(0, 1, []), (1, 1, []), (2, 1, []), (3, 0, []), (4, 0, []), (5, 2, [0, 1, 2]), (6, 1, []), (7, 1, []), (8, 2, [])] (by kernel_rfl) (by kernel_rfl) (by kernel_rfl) ?_))
        refine (rzz_any B g A n c p3 l b3 ns _ HX4.out.rd hn (by omega)).mono ?_
        rintro e w4 ⟨d4, p4, b4, rfl, hd4, hd4', hR4, hO4, hp4, hbb4, hex4⟩
        have HX5 := Lib.hid (HX4.out.step hR4 hO4)
        have HTa5 := Lib.hid (Blk.out (R := fun k => k = g) HTa4.out hO4 (by omega))
        have HC2 := Lib.hid (show ∀ r rest, RowG bad l p s ns r rest → b4 = false ∧ r[k]? = some ⟨le + st, (s : Int) + d4⟩ ∧ l.drop p4 = rowB s (prevA r (k + 1)) (r.drop (k + 1)) ++ rest ∧ p4 + (rowB s (prevA r (k + 1)) (r.drop (k + 1))).length = p + (rowF s r).length from fun r rest hG => by
          obtain ⟨a, body, _, f1, f2, f3, f4, f5, f6, f7⟩ := HC1.out r rest hG
          obtain ⟨ae, at_⟩ := a
          dsimp only at f2 f6 f7
          obtain ⟨rfl, f8, f9⟩ := f7 (by omega)
          obtain ⟨g1, g2, g3⟩ := hex4 _ _ f3 f4 f8 f9
          refine ⟨g3, ?_, by rw [g2]; exact drop_app f4, by omega⟩
          rw [f1]
          congr 2 <;> omega)
        clear hR4 hO4 hex4 hbb4
        have HX6 := Lib.hid (HX5.out.put HLT.out hgr 1 (.int .i64 ((s : Int) + d4)))
        have hTa6 := HTa5.out.put 1 (.int .i64 ((s : Int) + d4))
        have HTa6 := Lib.hid hTa6
        have h5ac := HTa5.out.cell
        have h5al := HTa5.out.lt
        have h5af := HTa5.out.frozen
        have h5lc := HX5.out.last.cell
        have h5ll := HX5.out.last.lt
        have h6gc := HX6.out.rd.blk.cell
        have h6gl := HX6.out.rd.blk.lt
        have hto0 : -16384 ≤ (s : Int) + d4 := by omega
        have hto1 : (s : Int) + d4 ≤ 32768 + 16385 * ((k + 1 : Nat) : Int) := by omega
        clear hTa6
        cases b4
        · have h6ac := HTa6.out.cell
          have h6al := HTa6.out.lt
          go_wp2_with (first | ((with_reducible show wpPlan _ _ _ [] _ _ _); refine wpPlan_nil ?_) | ((with_reducible show wpPlan _ _ _ ((_, 0, _) :: _) _ _ _); first | (refine wpPlan_read0 rfl ?hw rfl (fun _ _ _ => ?_); case hw => ((conv => (lhs; whnf)); first | done | with_reducible rfl)) | (refine wpPlan_skip0 rfl ?hw ?_; (case hw => ((conv => (lhs; whnf)); first | done | with_reducible rfl)); (try simp only [List.getElem_toArray, List.getElem_cons_succ, List.getElem_cons_zero, Act.put, List.setIfInBounds_toArray, List.set_cons_zero, List.set_cons_succ]))) | ((with_reducible show wpPlan _ _ _ ((_, 1, _) :: _) _ _ _); first | (refine wpPlan_read1d rfl ?hw rfl rfl (fun _ _ _ => ?_); case hw => ((conv => (lhs; whnf)); first | done | with_reducible rfl)) | (refine wpPlan_skip1d rfl ?hw ?_; (case hw => ((conv => (lhs; whnf)); first | done | with_reducible rfl)); (try simp only [List.getElem_toArray, List.getElem_cons_succ, List.getElem_cons_zero, Act.put, List.setIfInBounds_toArray, List.set_cons_zero, List.set_cons_succ])) | (refine wpPlan_read1 rfl ?hw rfl (fun _ _ _ => ?_); case hw => ((conv => (lhs; whnf)); first | done | with_reducible rfl))) | ((with_reducible show wpPlan _ _ _ ((_, 2, _) :: _) _ _ _); first | (refine wpPlan_eff rfl ?hw (fun _ _ => ?_); case hw => ((conv => (lhs; whnf)); first | done | with_reducible rfl)) | (refine wpPlan_skip2 rfl ?hw ?_; (case hw => ((conv => (lhs; whnf)); first | done | with_reducible rfl)); (try simp only [List.getElem_toArray, List.getElem_cons_succ, List.getElem_cons_zero, Act.put, List.setIfInBounds_toArray, List.set_cons_zero, List.set_cons_succ]))) | ((with_reducible show wpPlan _ _ _ _ _ _ _); refine wpPlan_fork ?_ ?_) | ((with_reducible show Owed _ _ _ [] _ _ _ _ _); refine Owed.none_ ?_) | ((with_reducible show Owed _ _ _ _ [] _ _ _ _); refine Owed.nil_ ?_) | ((with_reducible show Owed _ _ _ _ _ _ _ _ _); first | (refine Owed.miss rfl ?_) | (refine Owed.hit ?_ ?_)) | ((with_reducible show Same _ _ _ _ _); intro _; go_simp; done) | (with_reducible exact True.intro) | ((with_reducible show Code.wp _ (Code.region 10 _ true) _ _ _); refine wp_region_plan [(0, 1, []), (1, 1, []), (2, 1, []), (3, 0, []), (4, 0, []), (5, 2, [0, 1, 2]), (6, 1, []), (7, 1, []), (8, 2, [])] (by kernel_rfl) (by kernel_rfl) (by kernel_rfl) ?_) | (at_builtin; refine appList_blk rfl slArc rfl (World.ownsRow.alloc HX6.out.own _) rfl (news := [.int .i64 (le + st), .int .i64 ((s : Int) + d4)]) ((heap_alloc_at (by simp)) : Blk _ w4.heap.size _ _) rfl rfl (by simp [Value.oneCell']) (by decide) (by unfold maxLen; omega) (by omega) ?_; intro g8 c8 w8 hown8 hgrow8 hat8; refine Stop7.intro ?_))
          unfold Stop7
          have hO8 : Outside (fun x => (Value.slice A7 k c7).ownBlock = some x) (w4.setCell ⟨wr.heap.size, 1, none⟩ (.int .i64 ((s : Int) + d4))) w8 := ((Outside.refl (fun x => (Value.slice A7 k c7).ownBlock = some x) _).alloc (.cells #[.int .i64 (le + st), .int .i64 ((s : Int) + d4)] 55)).grown hgrow8 (fun z hz => .inl hz)
          have hown9 : w8.ownsRow 0 55 2 (.slice (some ⟨g8, 0, none⟩) (k + 1) c8) (k + 1) (cellsOf Arc.cells (acc ++ [⟨le + st, (s : Int) + d4⟩])) := by
            rw [cellsOf_append]
            exact hown8
          have HX8 := Lib.hid (HX6.out.app hO8 hown9 (fun x hx => by
            have h1 : g8 = x := by simpa [Value.ownBlock] using hx
            subst h1
            rcases hat8 with h | h
            · exact .inl h
            · refine .inr (Nat.le_trans ?_ h)
              simp))
          have hTa8 := HTa6.out.out hO8 (fun e => by have := HLT.out _ e; omega)
          have h8ac := hTa8.cell
          have h8al := hTa8.lt
          have h8lc := HX8.out.last.cell
          have h8ll := HX8.out.last.lt
          have h8lf := HX8.out.last.frozen
          have HX9 := Lib.hid (HX8.out.last' (le + st) ((s : Int) + d4))
          clear hO8 hown8 hown9 hgrow8 hat8 hTa8
          go_wp2_with (first | ((with_reducible show wpPlan _ _ _ [] _ _ _); refine wpPlan_nil ?_) | ((with_reducible show wpPlan _ _ _ ((_, 0, _) :: _) _ _ _); first | (refine wpPlan_read0 rfl ?hw rfl (fun _ _ _ => ?_); case hw => ((conv => (lhs; whnf)); first | done | with_reducible rfl)) | (refine wpPlan_skip0 rfl ?hw ?_; (case hw => ((conv => (lhs; whnf)); first | done | with_reducible rfl)); (try simp only [List.getElem_toArray, List.getElem_cons_succ, List.getElem_cons_zero, Act.put, List.setIfInBounds_toArray, List.set_cons_zero, List.set_cons_succ]))) | ((with_reducible show wpPlan _ _ _ ((_, 1, _) :: _) _ _ _); first | (refine wpPlan_read1d rfl ?hw rfl rfl (fun _ _ _ => ?_); case hw => ((conv => (lhs; whnf)); first | done | with_reducible rfl)) | (refine wpPlan_skip1d rfl ?hw ?_; (case hw => ((conv => (lhs; whnf)); first | done | with_reducible rfl)); (try simp only [List.getElem_toArray, List.getElem_cons_succ, List.getElem_cons_zero, Act.put, List.setIfInBounds_toArray, List.set_cons_zero, List.set_cons_succ])) | (refine wpPlan_read1 rfl ?hw rfl (fun _ _ _ => ?_); case hw => ((conv => (lhs; whnf)); first | done | with_reducible rfl))) | ((with_reducible show wpPlan _ _ _ ((_, 2, _) :: _) _ _ _); first | (refine wpPlan_eff rfl ?hw (fun _ _ => ?_); case hw => ((conv => (lhs; whnf)); first | done | with_reducible rfl)) | (refine wpPlan_skip2 rfl ?hw ?_; (case hw => ((conv => (lhs; whnf)); first | done | with_reducible rfl)); (try simp only [List.getElem_toArray, List.getElem_cons_succ, List.getElem_cons_zero, Act.put, List.setIfInBounds_toArray, List.set_cons_zero, List.set_cons_succ]))) | ((with_reducible show wpPlan _ _ _ _ _ _ _); refine wpPlan_fork ?_ ?_) | ((with_reducible show Owed _ _ _ [] _ _ _ _ _); refine Owed.none_ ?_) | ((with_reducible show Owed _ _ _ _ [] _ _ _ _); refine Owed.nil_ ?_) | ((with_reducible show Owed _ _ _ _ _ _ _ _ _); first | (refine Owed.miss rfl ?_) | (refine Owed.hit ?_ ?_)) | ((with_reducible show Same _ _ _ _ _); intro _; go_simp; done) | (with_reducible exact True.intro) | ((with_reducible show Code.wp _ (Code.region 10 _ true) _ _ _); refine wp_region_plan [(0, 1, []), (1, 1, []), (2, 1, []), (3, 0, []), (4, 0, []), (5, 2, [0, 1, 2]), (6, 1, []), (7, 1, []), (8, 2, [])] (by kernel_rfl) (by kernel_rfl) (by kernel_rfl) ?_))
          go_roundw
          case rel => exact ⟨k + 1, p4, false, acc ++ [⟨le + st, (s : Int) + d4⟩], le + st, (s : Int) + d4, by omega, by go_num, by omega, by omega, hto0, hto1, Lib.hid ⟨fun _ => rfl, HBB.out, by rw [List.length_append, HG.out.2.2.1]; rfl, fun h => by omega, fun _ => by
              rw [Nat.add_sub_cancel, List.getElem?_append_right (by rw [HG.out.2.2.1]; exact Nat.le_refl _), HG.out.2.2.1, Nat.sub_self]; rfl, fun r rest hG => by
              obtain ⟨e1, _, e3, _⟩ := HG.out.2.2.2.2.2 r rest hG
              obtain ⟨f1, f2, f3, f4⟩ := HC2.out r rest hG
              obtain ⟨hk2, f5⟩ := List.getElem?_eq_some_iff.1 f2
              refine ⟨e1, rfl, ?_, f3, f4⟩
              rw [List.take_succ_eq_append_getElem hk2, f5, e3]⟩, HX9⟩
          case measure => simp [intOf]; omega
        · go_wp2_with fail
          go_ret
          exact ⟨.slice none 0 0, [], p4, true, rfl, World.ownsRow_nil _ _ _ _, fun x hx => absurd hx (by simp [Value.ownBlock]), Nat.zero_le _, HX6.out.rd, HX6.out.out, fun _ => rfl, fun r rest hG => by have := (HC2.out r rest hG).1; cases this⟩
    · have hkm : k = m := by omega
      have HCE := Lib.hid (show ∀ r rest, RowG bad l p s ns r rest → acc = r ∧ q = p + (rowF s r).length ∧ bk = false from fun r rest hG => by
        obtain ⟨e1, e2, e3, _, e5⟩ := HG.out.2.2.2.2.2 r rest hG
        have h1 : r.drop k = [] := List.drop_eq_nil_of_le (by omega)
        rw [h1] at e5
        have h2 : rowB s (prevA r k) [] = [] := by cases prevA r k <;> rfl
        rw [h2] at e5
        rw [List.take_of_length_le (by omega)] at e3
        exact ⟨e3, by simpa using e5, e2⟩)
      have HOW := Lib.hid (show wr.ownsRow 0 55 2 (.slice A7 k c7) acc.length (cellsOf Arc.cells acc) by rw [HG.out.2.2.1]; exact HW.out.own)
      go_wp2_with fail
      go_ret
      exact ⟨_, acc, q, bk, rfl, HOW.out, fun x hx => by have := HW.out.base x hx; omega, by rw [HG.out.2.2.1]; omega, HW.out.rd, HW.out.out, HG.out.2.1, HCE.out⟩

end Go.Proofs.Ytonpdclccgpceaa
