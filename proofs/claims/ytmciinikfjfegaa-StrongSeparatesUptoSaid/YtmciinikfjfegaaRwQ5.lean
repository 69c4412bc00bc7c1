/- the canonical system: Canonical's walk -/
import Derived.Test.YtmciinikfjfegaaRwQ3
import Derived.Test.YtmciinikfjfegaaRwQ4
import Derived.Test.YtmciinikfjfegaaRwN
namespace Go.Proofs.Ytmciinikfjfegaa
open Go Go.RowKit
set_option maxHeartbeats 16000000

theorem RowsX.outT {R : Nat → Prop} {w w' : World} {W k : Nat} {v : Value} {xs : List Value} {ls : List (List Arc)} (h : RowsX w W v k xs ls) (hO : Outside R w w') (hv : ∀ g, v.ownBlock = some g → ¬ R g)
    (hu : ∀ (u : Value) (l : List Arc), w.ownsRow 0 23 2 u l.length (cellsOf Arc.cells l) → ∀ g, u.ownBlock = some g → ¬ R g) : RowsX w' W v k xs ls :=
  ⟨own_out h.own hO hv, h.base, h.len, fun j l hl => by
    obtain ⟨u, h1, h2, h3⟩ := h.rows j l hl
    exact ⟨u, h1, own_out h2 hO (hu u l h2), h3⟩⟩
theorem icells_set (l : List Int) (i : Nat) (z : Int) : (cellsOf icell l).toArray.setIfInBounds i (.int .i64 z) = (cellsOf icell (l.set i z)).toArray := by
  have h : ∀ (l : List Int) (i : Nat), (cellsOf icell l).set i (.int .i64 z) = cellsOf icell (l.set i z) := by
    intro l
    induction l with
    | nil => intro i; rfl
    | cons a l ih =>
      intro i
      cases i with
      | zero => rfl
      | succ i =>
        have := ih i
        simp only [cellsOf, List.flatMap_cons, icell, List.cons_append, List.nil_append, List.set_cons_succ] at this ⊢
        rw [this]
  rw [← h]
  simp
theorem icells_get (l : List Int) (i : Nat) : (cellsOf icell l)[i]? = (l[i]?).map fun z => Value.int .i64 z := by
  have := cellsOf_get icell_len l i 0 (by decide)
  simp only [Nat.mul_one, Nat.add_zero] at this
  rw [this]
  cases l[i]? <;> rfl

/-- what stands while the arcs of a row are followed, since world wr (X: its size) -/
structure InAt (wr wk : World) (gN X : Nat) (vo0 vo v9 : Value) (num : List Int) (old : List Nat) (m : Nat) (M : List Arc) : Prop where
  num_ : Blk wk gN 3 (cellsOf icell num).toArray
  old_ : wk.ownsRow 0 3 1 vo old.length (cellsOf ncell old)
  obase : ∀ x, vo.ownBlock = some x → vo0.ownBlock = some x ∨ X ≤ x
  row : wk.ownsRow 0 23 2 v9 m (cellsOf Arc.cells M)
  rbase : ∀ x, v9.ownBlock = some x → X ≤ x
  fr : Outside (fun k => k = gN ∨ vo0.ownBlock = some k ∨ X ≤ k) wr wk
  lo : gN < X ∧ X ≤ wr.heap.size ∧ ∀ x, vo0.ownBlock = some x → gN < x
section
variable {wr wk w' : World} {gN X m : Nat} {vo0 vo v9 : Value} {num : List Int} {old : List Nat} {M : List Arc}
theorem InAt.one (h : InAt wr wk gN X vo0 vo v9 num old m M) : ∀ x, vo.ownBlock = some x → gN < x := fun x hx => by
  rcases h.obase x hx with h1 | h1
  · exact h.lo.2.2 x h1
  · have := h.lo.1; omega
theorem InAt.below (h : InAt wr wk gN X vo0 vo v9 num old m M) (hb : Below wk.heap.size wk w') : InAt wr w' gN X vo0 vo v9 num old m M :=
  ⟨h.num_.below hb h.num_.lt, own_out h.old_ (Below.new hb) (fun _ _ e => e), h.obase, own_out h.row (Below.new hb) (fun _ _ e => e), h.rbase, h.fr.trans ((Below.new hb).mono (fun _ _ e => e.elim)), h.lo⟩
theorem InAt.putNum (h : InAt wr wk gN X vo0 vo v9 num old m M) (i : Nat) (z : Int) : InAt wr (wk.setCell ⟨gN, i, none⟩ (.int .i64 z)) gN X vo0 vo v9 (num.set i z) old m M := by
  have hO : Outside (fun k => k = gN) wk (wk.setCell ⟨gN, i, none⟩ (.int .i64 z)) := (Outside.refl (fun k => k = gN) wk).setCell (p := ⟨gN, i, none⟩) (.inl rfl) _
  refine ⟨?_, own_out h.old_ hO (fun x hx e => by have := h.one x hx; omega), h.obase, own_out h.row hO (fun x hx e => own_apart h.row h.num_ (by decide) (by rw [← e]; exact hx)), h.rbase, h.fr.trans (hO.mono (fun k _ e => .inl e)), h.lo⟩
  rw [← icells_set]
  exact h.num_.put i _
theorem InAt.app {vo' : Value} {old' : List Nat} (h : InAt wr wk gN X vo0 vo v9 num old m M) (hO : Outside (fun x => vo.ownBlock = some x) wk w') (hown : w'.ownsRow 0 3 1 vo' old'.length (cellsOf ncell old'))
    (hb : ∀ x, vo'.ownBlock = some x → vo.ownBlock = some x ∨ wk.heap.size ≤ x) : InAt wr w' gN X vo0 vo' v9 num old' m M := by
  refine ⟨h.num_.out hO (fun e => by have := h.one _ e; omega), hown, fun x hx => ?_, own_out h.row hO (fun x hx e => own_apart_own h.row h.old_ (by decide) hx e), h.rbase, ?_, h.lo⟩
  · rcases hb x hx with h1 | h1
    · exact h.obase x h1
    · have := h.fr.size
      have := h.lo.2.1
      exact .inr (by omega)
  · refine (h.fr.trans (hO.mono (R' := fun k => k = gN ∨ vo0.ownBlock = some k ∨ X ≤ k) fun k _ e => ?_))
    rcases h.obase k e with h1 | h1
    · exact .inr (.inl h1)
    · exact .inr (.inr h1)
theorem InAt.putTo {g9 c9 : Nat} {M : List Arc} (h : InAt wr wk gN X vo0 vo (.slice (some ⟨g9, 0, none⟩) m c9) num old m M) (i : Nat) (a : Arc) (ha : M[i]? = some a) (z : Int) :
    InAt wr (wk.setCell ⟨g9, i * 2 + 1, none⟩ (.int .i64 z)) gN X vo0 vo (.slice (some ⟨g9, 0, none⟩) m c9) num old m (M.set i ⟨a.ev, z⟩) := by
  have hX := h.rbase g9 rfl
  have hlo := h.lo.1
  have hO : Outside (fun k => k = g9) wk (wk.setCell ⟨g9, i * 2 + 1, none⟩ (.int .i64 z)) := (Outside.refl (fun k => k = g9) wk).setCell (p := ⟨g9, i * 2 + 1, none⟩) (.inl rfl) _
  refine ⟨h.num_.out hO (by omega), own_out h.old_ hO (fun x hx e => by subst e; exact own_apart_own h.old_ h.row (by decide) hx rfl), h.obase, ?_, h.rbase, h.fr.trans (hO.mono (fun k _ e => .inr (.inr (by omega)))), h.lo⟩
  rw [← set2_arc]
  have e : (cellsOf Arc.cells M).set (i * 2) (.int .i64 a.ev) = cellsOf Arc.cells M := by
    apply List.ext_getElem?
    intro j
    by_cases hj : j = i * 2
    · subst hj
      have hl : M.length = m := by
        have := h.row.1
        rw [cellsOf_length Arc.cells_len] at this
        omega
      have hi := (List.getElem?_eq_some_iff.1 ha).1
      rw [List.getElem?_set_self (by rw [cellsOf_length Arc.cells_len]; omega)]
      have := cellsOf_get Arc.cells_len M i 0 (by decide)
      rw [Nat.add_zero] at this
      rw [this, ha]
      rfl
    · rw [List.getElem?_set_ne (fun e => hj e.symm)]
  rw [e]
  exact (h.row.stored (i * 2 + 1) _).1
end

def vis (ls : List (List Arc)) (i : Nat) (r : List Arc) (k : Nat) : List Int × List Nat := visit ((canonK ls i).num, (canonK ls i).old) (r.take k)
theorem vis_zero (ls : List (List Arc)) (i : Nat) (r : List Arc) : vis ls i r 0 = ((canonK ls i).num, (canonK ls i).old) := rfl
theorem vis_next {ls : List (List Arc)} {i k : Nat} {r : List Arc} {a : Arc} (h : r[k]? = some a) : vis ls i r (k + 1) = stepC (vis ls i r k) a := by
  rw [vis, List.take_add_one, h]
  exact visit_snoc _ _ _
theorem vis_all (ls : List (List Arc)) (i : Nat) (r : List Arc) : vis ls i r r.length = visit ((canonK ls i).num, (canonK ls i).old) r := by rw [vis, List.take_length]
theorem canon_next {ls : List (List Arc)} {i : Nat} {r : List Arc} (h : sd (rowAt ls ((canonK ls i).old.getD i 0)) = r) : canonK ls (i + 1) = ⟨(vis ls i r r.length).1, (vis ls i r r.length).2, (canonK ls i).out ++ [sd (r.map (ren (vis ls i r r.length).1))]⟩ := by
  rw [vis_all, canonK, roundC, h]
theorem ren_next {n : Nat} {s : List Int × List Nat} {r : List Arc} {k : Nat} {a : Arc} (h : CInv n s.1 s.2) (hr : ∀ b ∈ r, 0 ≤ b.to ∧ b.to < n) (ha : r[k]? = some a) (hp : ∀ b ∈ r.take k, 0 ≤ numAt s.1 b.to) :
    ((r.take k).map (ren s.1) ++ r.drop k).set k ⟨a.ev, numAt (stepC s a).1 a.to⟩ = (r.take (k + 1)).map (ren (stepC s a).1) ++ r.drop (k + 1) := by
  have hk := (List.getElem?_eq_some_iff.1 ha).1
  have ha2 := (List.getElem?_eq_some_iff.1 ha).2
  have hl : ((r.take k).map (ren s.1)).length = k := by rw [List.length_map, List.length_take]; omega
  have hra := hr a (List.mem_of_getElem? ha)
  have e1 : (r.take k).map (ren s.1) = (r.take k).map (ren (stepC s a).1) := by
    apply List.map_congr_left
    intro b hb
    have h1 := hr b (List.mem_of_mem_take hb)
    rw [ren, ren, step_keep h hra.1 hra.2 h1.1 (hp b hb)]
  rw [List.set_append_right _ _ (by omega), hl, Nat.sub_self, List.drop_eq_getElem_cons hk, List.set_cons_zero, List.take_add_one, ha, List.map_append, e1]
  simp [ren]
/-- what Canonical gives -/
def CanPost (w : World) (ls : List (List Arc)) (e : Ending) (w' : World) : Prop :=
  ∃ (A : Option Addr) (n c : Nat) (out : List (List Arc)) (A2 : Option Addr) (n2 c2 : Nat) (old : List Nat) (err : Nat), e = .returned (.tuple #[lts A n c, .slice A2 n2 c2, .int .i64 err]) ∧ RdL w' w'.heap.size A n out ∧ Rd w' w'.heap.size 1 A2 n2 (cellsOf ncell old) ∧ Below w.heap.size w w' ∧
    (looseB ls = false ∧ err = 1 ∧ out = [] ∧ old = [] ∨ looseB ls = true ∧ err = 0 ∧ ∃ i, DoneC ls i ∧ out = (canonK ls i).out ∧ old = (canonK ls i).old)
/-- the same, and where the rows lie -/
def CanPostX (w : World) (ls : List (List Arc)) (e : Ending) (w' : World) : Prop :=
  ∃ (A : Option Addr) (n c : Nat) (out : List (List Arc)) (A2 : Option Addr) (n2 c2 : Nat) (old : List Nat) (err : Nat), e = .returned (.tuple #[lts A n c, .slice A2 n2 c2, .int .i64 err]) ∧ (∃ W xs, w.heap.size ≤ W ∧ RowsX w' W (.slice A n c) n xs out) ∧ Rd w' w'.heap.size 1 A2 n2 (cellsOf ncell old) ∧ Below w.heap.size w w' ∧
    (looseB ls = false ∧ err = 1 ∧ out = [] ∧ old = [] ∨ looseB ls = true ∧ err = 0 ∧ ∃ i, DoneC ls i ∧ out = (canonK ls i).out ∧ old = (canonK ls i).old)
theorem loose_tos {ls : List (List Arc)} (h : looseB ls = true) : TosIn ls ∧ 1 ≤ ls.length ∧ ls.length ≤ 16384 ∧ ∀ l ∈ ls, l.length ≤ 262144 := by
  unfold looseB at h
  simp only [Bool.and_eq_true, decide_eq_true_eq] at h
  refine ⟨fun l hl a ha => ?_, h.1.1.1, h.1.1.2, fun l hl => ?_⟩
  · have h6 := List.all_eq_true.1 (List.all_eq_true.1 h.2 l hl) a ha
    unfold okA at h6
    simp only [Bool.and_eq_true, decide_eq_true_eq] at h6
    exact ⟨h6.2.1, h6.2.2⟩
  · have h2 : ∀ (L : List (List Arc)), l ∈ L → l.length ≤ total L := by
      intro L
      induction L with
      | nil => intro h; cases h
      | cons x L ih =>
        intro h
        rw [total_cons]
        rcases List.mem_cons.1 h with rfl | h
        · omega
        · have := ih h; omega
    have := h2 ls hl
    omega

set_option maxRecDepth 100000 in
theorem canonicalX_any (A : Option Addr) (n c B : Nat) (ls : List (List Arc)) (w : World) (h : RdL w B A n ls) (hB : B ≤ w.heap.size) (hn : n ≤ 1000000000000) :
    Calls Try.prog 65 #[lts A n c] w (CanPostX w ls) := by
  have HL := Lib.hid h.len
  have H := Lib.hid h
  have HR0 := Lib.hid ((h.alloc hB (.cells #[.slice A n c] 27)).alloc (by simp; omega) (.cells #[.slice none 0 0] 27))
  have HT1 := Lib.hid ((Blk.new w 27 #[.slice A n c]).alloc (.cells #[.slice none 0 0] 27))
  have HT2 := Lib.hid (show Blk ((w.alloc (.cells #[.slice A n c] 27)).alloc (.cells #[.slice none 0 0] 27)) (w.heap.size + 1) 27 #[.slice none 0 0] from heap_alloc_at (by simp))
  have HB0 := Lib.hid (((Below.refl w.heap.size w).alloc (Nat.le_refl _) (.cells #[.slice A n c] 27)).alloc (by simp) (.cells #[.slice none 0 0] 27))
  clear h
  go_enter Try.func65, Try.ntmps65
  go_wp2_with (first | ((with_reducible show wpPlan _ _ _ _ _ (Act.put _ _ _) _); simp only [List.getElem_toArray, List.getElem_cons_succ, List.getElem_cons_zero, Act.put, List.setIfInBounds_toArray, List.set_cons_zero, List.set_cons_succ]) | ((with_reducible show wpPlan _ _ _ _ _ _ _); first | refine wpPlan_nil ?_ | (refine wpPlan_read0 rfl ?hw rfl (fun _ _ _ => ?_); case hw => ((conv => (lhs; whnf)); first | done | with_reducible rfl)) | (refine wpPlan_read1d rfl ?hw rfl rfl (fun _ _ _ => ?_); case hw => ((conv => (lhs; whnf)); first | done | with_reducible rfl)) | (refine wpPlan_eff rfl ?hw (fun _ _ => ?_); case hw => ((conv => (lhs; whnf)); first | done | with_reducible rfl)) | (refine wpPlan_skip0 rfl ?hw ?_; case hw => ((conv => (lhs; whnf)); first | done | with_reducible rfl)) | (refine wpPlan_skip1d rfl ?hw ?_; case hw => ((conv => (lhs; whnf)); first | done | with_reducible rfl)) | (refine wpPlan_skip2 rfl ?hw ?_; case hw => ((conv => (lhs; whnf)); first | done | with_reducible rfl)) | (refine wpPlan_read1 rfl ?hw rfl (fun _ _ _ => ?_); case hw => ((conv => (lhs; whnf)); first | done | with_reducible rfl)) | refine wpPlan_fork ?_ ?_) | ((with_reducible show Owed _ _ _ _ _ _ _ _ _); first | refine Owed.none_ ?_ | refine Owed.nil_ ?_ | refine Owed.miss rfl ?_ | refine Owed.hit ?_ ?_) | ((with_reducible show Same _ _ _ _ _); intro _; go_simp; done) | (with_reducible exact True.intro) | ((with_reducible show Code.wp _ (Code.region 10 _ true) _ _ _); refine wp_region_plan [(0, 1, []), (1, 1, []), (2, 0, []), (3, 0, []), (4, 1, []), (5, 1, []), (6, 1, []), (7, 1, []), (8, 2, []), (9, 0, [])] (by kernel_rfl) (by kernel_rfl) (by kernel_rfl) ?_))
  refine (loose_any A n c B ls _ HR0.out (by simp; omega) (by omega)).mono ?_
  rintro e w1 ⟨rfl, hb1⟩
  have hs1 : w.heap.size + 2 ≤ w1.heap.size := Nat.le_trans (by simp) hb1.size
  have HX1 := Lib.hid (And.intro (HT1.out.below hb1 HT1.out.lt) (And.intro (HT2.out.below hb1 HT2.out.lt) (HB0.out.trans (hb1.mono HB0.out.size))))
  have a1c := HX1.out.1.cell
  have a1l := HX1.out.1.lt
  have b1c := HX1.out.2.1.cell
  have b1l := HX1.out.2.1.lt
  have b1f := HX1.out.2.1.frozen
  obtain ⟨q, hq⟩ : ∃ q, looseB ls = q := ⟨_, rfl⟩
  rw [hq]
  have HQ := Lib.hid hq
  clear hb1 hq
  cases q
  · have hput := (HX1.out.2.1.put 0 (.slice none 0 0)).cell 0
    have HBB := Lib.hid (HX1.out.2.2.setCell (p := ⟨w.heap.size + 1, 0, none⟩) (by simp) (.slice none 0 0))
    go_wp2_with (first | ((with_reducible show wpPlan _ _ _ _ _ (Act.put _ _ _) _); simp only [List.getElem_toArray, List.getElem_cons_succ, List.getElem_cons_zero, Act.put, List.setIfInBounds_toArray, List.set_cons_zero, List.set_cons_succ]) | ((with_reducible show wpPlan _ _ _ _ _ _ _); first | refine wpPlan_nil ?_ | (refine wpPlan_read0 rfl ?hw rfl (fun _ _ _ => ?_); case hw => ((conv => (lhs; whnf)); first | done | with_reducible rfl)) | (refine wpPlan_read1d rfl ?hw rfl rfl (fun _ _ _ => ?_); case hw => ((conv => (lhs; whnf)); first | done | with_reducible rfl)) | (refine wpPlan_eff rfl ?hw (fun _ _ => ?_); case hw => ((conv => (lhs; whnf)); first | done | with_reducible rfl)) | (refine wpPlan_skip0 rfl ?hw ?_; case hw => ((conv => (lhs; whnf)); first | done | with_reducible rfl)) | (refine wpPlan_skip1d rfl ?hw ?_; case hw => ((conv => (lhs; whnf)); first | done | with_reducible rfl)) | (refine wpPlan_skip2 rfl ?hw ?_; case hw => ((conv => (lhs; whnf)); first | done | with_reducible rfl)) | (refine wpPlan_read1 rfl ?hw rfl (fun _ _ _ => ?_); case hw => ((conv => (lhs; whnf)); first | done | with_reducible rfl)) | refine wpPlan_fork ?_ ?_) | ((with_reducible show Owed _ _ _ _ _ _ _ _ _); first | refine Owed.none_ ?_ | refine Owed.nil_ ?_ | refine Owed.miss rfl ?_ | refine Owed.hit ?_ ?_) | ((with_reducible show Same _ _ _ _ _); intro _; go_simp; done) | (with_reducible exact True.intro) | ((with_reducible show Code.wp _ (Code.region 10 _ true) _ _ _); refine wp_region_plan [(0, 1, []), (1, 1, []), (2, 0, []), (3, 0, []), (4, 1, []), (5, 1, []), (6, 1, []), (7, 1, []), (8, 2, []), (9, 0, [])] (by kernel_rfl) (by kernel_rfl) (by kernel_rfl) ?_))
    refine bodyPost_ret (v := .tuple #[.agg #[.slice none 0 0], .slice none 0 0, .int .i64 1]) (by simp [results, Try.results65, go_sem, hput]) rfl ?_
    exact ⟨none, 0, 0, [], none, 0, 0, [], 1, rfl, ⟨w.heap.size, [], Nat.le_refl _, RowsX.nil _ _⟩, Rd.nil, HBB.out, .inl ⟨HQ.out, rfl, rfl, rfl⟩⟩
  · obtain ⟨htos, hl1, hl2, hl3⟩ := loose_tos HQ.out
    have HTOS := Lib.hid (And.intro htos hl3)
    have hn1 : 1 ≤ n := by have := HL.out; omega
    have hn2 : n ≤ 16384 := by have := HL.out; omega
    clear htos hl1 hl2 hl3
    go_wp2_with (first | ((with_reducible show wpPlan _ _ _ _ _ (Act.put _ _ _) _); simp only [List.getElem_toArray, List.getElem_cons_succ, List.getElem_cons_zero, Act.put, List.setIfInBounds_toArray, List.set_cons_zero, List.set_cons_succ]) | ((with_reducible show wpPlan _ _ _ _ _ _ _); first | refine wpPlan_nil ?_ | (refine wpPlan_read0 rfl ?hw rfl (fun _ _ _ => ?_); case hw => ((conv => (lhs; whnf)); first | done | with_reducible rfl)) | (refine wpPlan_read1d rfl ?hw rfl rfl (fun _ _ _ => ?_); case hw => ((conv => (lhs; whnf)); first | done | with_reducible rfl)) | (refine wpPlan_eff rfl ?hw (fun _ _ => ?_); case hw => ((conv => (lhs; whnf)); first | done | with_reducible rfl)) | (refine wpPlan_skip0 rfl ?hw ?_; case hw => ((conv => (lhs; whnf)); first | done | with_reducible rfl)) | (refine wpPlan_skip1d rfl ?hw ?_; case hw => ((conv => (lhs; whnf)); first | done | with_reducible rfl)) | (refine wpPlan_skip2 rfl ?hw ?_; case hw => ((conv => (lhs; whnf)); first | done | with_reducible rfl)) | (refine wpPlan_read1 rfl ?hw rfl (fun _ _ _ => ?_); case hw => ((conv => (lhs; whnf)); first | done | with_reducible rfl)) | refine wpPlan_fork ?_ ?_) | ((with_reducible show Owed _ _ _ _ _ _ _ _ _); first | refine Owed.none_ ?_ | refine Owed.nil_ ?_ | refine Owed.miss rfl ?_ | refine Owed.hit ?_ ?_) | ((with_reducible show Same _ _ _ _ _); intro _; go_simp; done) | (with_reducible exact True.intro) | ((with_reducible show Code.wp _ (Code.region 10 _ true) _ _ _); refine wp_region_plan [(0, 1, []), (1, 1, []), (2, 0, []), (3, 0, []), (4, 1, []), (5, 1, []), (6, 1, []), (7, 1, []), (8, 2, []), (9, 0, [])] (by kernel_rfl) (by kernel_rfl) (by kernel_rfl) ?_))
    refine (repeat_any w1.heap.size 1 (-1) n _ (Blk.new w1 _ _) hn1 (by omega)).mono ?_
    rintro e w2 ⟨⟨gN, rfl, hN2, hg2⟩, hb2⟩
    have hgN : w1.heap.size + 1 ≤ gN := by simpa using hg2
    have hB2 := Lib.hid (((Below.refl w1.heap.size w1).alloc (Nat.le_refl _) (.cells #[.int .i64 (-1)] 3)).trans (hb2.mono (by simp)))
    have n2c : w2.cell? ⟨gN, 0, none⟩ = some (.int .i64 (-1)) := by
      rw [hN2.cell 0, List.getElem?_toArray, icells_get, List.getElem?_replicate, if_pos (by omega)]
      rfl
    have n2l := hN2.lt
    have n2f := hN2.frozen
    have HN3 := Lib.hid (show Blk (w2.setCell ⟨gN, 0, none⟩ (.int .i64 0)) gN 3 (cellsOf icell (canonK ls 0).num).toArray from by
      have h1 := hN2.put 0 (.int .i64 0)
      rw [icells_set, ← HL.out] at h1
      exact h1)
    have hB3 := Lib.hid (hB2.out.setCell (p := ⟨gN, 0, none⟩) (by dsimp only; omega) (.int .i64 0))
    obtain ⟨w3, hw3⟩ : ∃ w3, w2.setCell ⟨gN, 0, none⟩ (.int .i64 0) = w3 := ⟨_, rfl⟩
    have HW3 := Lib.hid hw3
    clear hN2 hb2 hg2 hw3
    go_wp2_with (first | ((with_reducible show wpPlan _ _ _ _ _ (Act.put _ _ _) _); simp only [List.getElem_toArray, List.getElem_cons_succ, List.getElem_cons_zero, Act.put, List.setIfInBounds_toArray, List.set_cons_zero, List.set_cons_succ]) | ((with_reducible show wpPlan _ _ _ _ _ _ _); first | refine wpPlan_nil ?_ | (refine wpPlan_read0 rfl ?hw rfl (fun _ _ _ => ?_); case hw => ((conv => (lhs; whnf)); first | done | with_reducible rfl)) | (refine wpPlan_read1d rfl ?hw rfl rfl (fun _ _ _ => ?_); case hw => ((conv => (lhs; whnf)); first | done | with_reducible rfl)) | (refine wpPlan_eff rfl ?hw (fun _ _ => ?_); case hw => ((conv => (lhs; whnf)); first | done | with_reducible rfl)) | (refine wpPlan_skip0 rfl ?hw ?_; case hw => ((conv => (lhs; whnf)); first | done | with_reducible rfl)) | (refine wpPlan_skip1d rfl ?hw ?_; case hw => ((conv => (lhs; whnf)); first | done | with_reducible rfl)) | (refine wpPlan_skip2 rfl ?hw ?_; case hw => ((conv => (lhs; whnf)); first | done | with_reducible rfl)) | (refine wpPlan_read1 rfl ?hw rfl (fun _ _ _ => ?_); case hw => ((conv => (lhs; whnf)); first | done | with_reducible rfl)) | refine wpPlan_fork ?_ ?_) | ((with_reducible show Owed _ _ _ _ _ _ _ _ _); first | refine Owed.none_ ?_ | refine Owed.nil_ ?_ | refine Owed.miss rfl ?_ | refine Owed.hit ?_ ?_) | ((with_reducible show Same _ _ _ _ _); intro _; go_simp; done) | (with_reducible exact True.intro) | ((with_reducible show Code.wp _ (Code.region 10 _ true) _ _ _); refine wp_region_plan [(0, 1, []), (1, 1, []), (2, 0, []), (3, 0, []), (4, 1, []), (5, 1, []), (6, 1, []), (7, 1, []), (8, 2, []), (9, 0, [])] (by kernel_rfl) (by kernel_rfl) (by kernel_rfl) ?_))
    rw [HW3.out] at HN3 hB3 ⊢
    have hz3 : w3.heap.size = w2.heap.size := by rw [← HW3.out]; simp
    have HS := Lib.hid (show Blk (w3.alloc (.cells #[.int .i64 0] 3)) gN 3 (cellsOf icell (canonK ls 0).num).toArray ∧ (w3.alloc (.cells #[.int .i64 0] 3)).ownsRow 0 3 1 (.slice (some ⟨w2.heap.size, 0, none⟩) 1 1) (canonK ls 0).old.length (cellsOf ncell (canonK ls 0).old) ∧
        (∀ x, (Value.slice (some ⟨w2.heap.size, 0, none⟩) 1 1).ownBlock = some x → gN < x) ∧ (∃ xs, RowsX (w3.alloc (.cells #[.int .i64 0] 3)) (w.heap.size + 2) (.slice none 0 0) 0 xs (canonK ls 0).out) ∧
        Blk (w3.alloc (.cells #[.int .i64 0] 3)) w.heap.size 27 #[.slice A n c] ∧ Blk (w3.alloc (.cells #[.int .i64 0] 3)) (w.heap.size + 1) 27 #[.slice none 0 0] ∧ Below w.heap.size w (w3.alloc (.cells #[.int .i64 0] 3)) from
      ⟨HN3.out.alloc _, (by rw [← hz3]; exact World.ownsRow_lit w3 #[.int .i64 0] 1 (Nat.zero_le _) (by decide) rfl), fun x hx => by
        have h1 : w2.heap.size = x := by simpa [Value.ownBlock] using hx
        omega, ⟨[], RowsX.nil _ _⟩, (HX1.out.1.below hB3.out a1l).alloc _, (HX1.out.2.1.below hB3.out b1l).alloc _, (HX1.out.2.2.trans (hB3.out.mono (by omega))).alloc (by omega) _⟩)
    have hzz : gN < (w3.alloc (.cells #[.int .i64 0] 3)).heap.size := by simp; omega
    clear n2c n2l n2f a1c a1l b1c b1l b1f
    go_loopw [6, 7, 8] (fun vo vq vi wr => ∃ (i lo : Nat), i ≤ lo ∧ lo ≤ n ∧ vi = .int .i64 i ∧ gN < wr.heap.size ∧ Hid (lo = (canonK ls i).old.length) ∧ Hid (Blk wr gN 3 (cellsOf icell (canonK ls i).num).toArray ∧ wr.ownsRow 0 3 1 vo (canonK ls i).old.length (cellsOf ncell (canonK ls i).old) ∧
        (∀ x, vo.ownBlock = some x → gN < x) ∧ (∃ xs, RowsX wr (w.heap.size + 2) vq i xs (canonK ls i).out) ∧ Blk wr w.heap.size 27 #[.slice A n c] ∧ Blk wr (w.heap.size + 1) 27 #[.slice none 0 0] ∧ Below w.heap.size w wr) ∧ Hid (∀ j, j < i → j < (canonK ls j).old.length)) (fun _ _ vi _ => n - (intOf vi).toNat)
    case atStart => exact ⟨0, 1, by decide, hn1, rfl, hzz, Lib.hid rfl, HS, Lib.hid fun j hj => absurd hj (by omega)⟩
    case round =>
      clear HS hzz
      obtain ⟨i, lo, hi, hlo, rfl, hgw, HLO, HW, HJ⟩ := hrel
      have hold := HW.out.2.1
      rw [← HLO.out] at hold
      have HOLD := Lib.hid hold
      obtain ⟨xs, hXs⟩ := HW.out.2.2.2.1
      have HXS := Lib.hid hXs
      obtain ⟨Aq, cq, rfl, hcq, _⟩ := own_form hXs.own
      clear hold hXs
      have HINV := Lib.hid (canon_inv HTOS.out.1 (by rw [HL.out]; omega) i)
      have a1c := HW.out.2.2.2.2.1.cell
      have a1l := HW.out.2.2.2.2.1.lt
      by_cases hlt : i < lo
      · obtain ⟨go, co, rfl, _, hgo⟩ := HOLD.out.form (by omega)
        obtain ⟨s, hs⟩ : ∃ s, (canonK ls i).old[i]? = some s := ⟨_, List.getElem?_eq_getElem (by rw [← HLO.out]; exact hlt)⟩
        have hsn : s < n := by have := (HINV.out.fwd i s hs).1; rw [HL.out] at this; exact this
        have HSS := Lib.hid hs
        obtain ⟨b2, o2, t2, e2, _, ht2, c2⟩ := (Rd.ofOwn HOLD.out).nat hlt
        obtain ⟨rfl, rfl⟩ : go = b2 ∧ 0 = o2 := by simpa using e2
        obtain rfl : t2 = s := by
          rw [hs] at ht2
          exact (Option.some.inj ht2).symm
        rw [Nat.zero_add] at c2
        obtain ⟨b1, o1, x, A1, n1, c1, rfl, hb1, hx, hxn, e0, hr1⟩ := (H.out.below (HW.out.2.2.2.2.2.2.mono hB)).row hsn
        have HX := Lib.hid (show rowAt ls t2 = x from by rw [rowAt, List.getD_eq_getElem?_getD, hx]; rfl)
        have HRX := Lib.hid hr1
        have hxl := HTOS.out.2 x (List.mem_of_getElem? hx)
        have hb1w : b1 < wr.heap.size := by have := HW.out.2.2.2.2.2.2.size; omega
        have hBw : B ≤ wr.heap.size := by have := HW.out.2.2.2.2.2.2.size; omega
        clear hs e2 ht2 hx hr1
        go_wp2_with (first | ((with_reducible show wpPlan _ _ _ _ _ (Act.put _ _ _) _); simp only [List.getElem_toArray, List.getElem_cons_succ, List.getElem_cons_zero, Act.put, List.setIfInBounds_toArray, List.set_cons_zero, List.set_cons_succ]) | ((with_reducible show wpPlan _ _ _ _ _ _ _); first | refine wpPlan_nil ?_ | (refine wpPlan_read0 rfl ?hw rfl (fun _ _ _ => ?_); case hw => ((conv => (lhs; whnf)); first | done | with_reducible rfl)) | (refine wpPlan_read1d rfl ?hw rfl rfl (fun _ _ _ => ?_); case hw => ((conv => (lhs; whnf)); first | done | with_reducible rfl)) | (refine wpPlan_eff rfl ?hw (fun _ _ => ?_); case hw => ((conv => (lhs; whnf)); first | done | with_reducible rfl)) | (refine wpPlan_skip0 rfl ?hw ?_; case hw => ((conv => (lhs; whnf)); first | done | with_reducible rfl)) | (refine wpPlan_skip1d rfl ?hw ?_; case hw => ((conv => (lhs; whnf)); first | done | with_reducible rfl)) | (refine wpPlan_skip2 rfl ?hw ?_; case hw => ((conv => (lhs; whnf)); first | done | with_reducible rfl)) | (refine wpPlan_read1 rfl ?hw rfl (fun _ _ _ => ?_); case hw => ((conv => (lhs; whnf)); first | done | with_reducible rfl)) | refine wpPlan_fork ?_ ?_) | ((with_reducible show Owed _ _ _ _ _ _ _ _ _); first | refine Owed.none_ ?_ | refine Owed.nil_ ?_ | refine Owed.miss rfl ?_ | refine Owed.hit ?_ ?_) | ((with_reducible show Same _ _ _ _ _); intro _; go_simp; done) | (with_reducible exact True.intro) | ((with_reducible show Code.wp _ (Code.region 10 _ true) _ _ _); refine wp_region_plan [(0, 1, []), (1, 1, []), (2, 0, []), (3, 0, []), (4, 1, []), (5, 1, []), (6, 1, []), (7, 1, []), (8, 2, []), (9, 0, [])] (by kernel_rfl) (by kernel_rfl) (by kernel_rfl) ?_))
        refine (aclone_any A1 n1 c1 B x _ (HRX.out.drewN 1) hBw (by omega)).mono ?_
        rintro e w4 ⟨⟨v4, rfl, ho4, hb4⟩, hB4⟩
        have HO4 := Lib.hid (And.intro ho4 (And.intro (show ∀ g, v4.ownBlock = some g → wr.heap.size ≤ g from hb4) (show Below wr.heap.size wr w4 from (Below.refl _ _).drew.trans hB4)))
        clear ho4 hb4 hB4
        go_wp2_with (first | ((with_reducible show wpPlan _ _ _ _ _ (Act.put _ _ _) _); simp only [List.getElem_toArray, List.getElem_cons_succ, List.getElem_cons_zero, Act.put, List.setIfInBounds_toArray, List.set_cons_zero, List.set_cons_succ]) | ((with_reducible show wpPlan _ _ _ _ _ _ _); first | refine wpPlan_nil ?_ | (refine wpPlan_read0 rfl ?hw rfl (fun _ _ _ => ?_); case hw => ((conv => (lhs; whnf)); first | done | with_reducible rfl)) | (refine wpPlan_read1d rfl ?hw rfl rfl (fun _ _ _ => ?_); case hw => ((conv => (lhs; whnf)); first | done | with_reducible rfl)) | (refine wpPlan_eff rfl ?hw (fun _ _ => ?_); case hw => ((conv => (lhs; whnf)); first | done | with_reducible rfl)) | (refine wpPlan_skip0 rfl ?hw ?_; case hw => ((conv => (lhs; whnf)); first | done | with_reducible rfl)) | (refine wpPlan_skip1d rfl ?hw ?_; case hw => ((conv => (lhs; whnf)); first | done | with_reducible rfl)) | (refine wpPlan_skip2 rfl ?hw ?_; case hw => ((conv => (lhs; whnf)); first | done | with_reducible rfl)) | (refine wpPlan_read1 rfl ?hw rfl (fun _ _ _ => ?_); case hw => ((conv => (lhs; whnf)); first | done | with_reducible rfl)) | refine wpPlan_fork ?_ ?_) | ((with_reducible show Owed _ _ _ _ _ _ _ _ _); first | refine Owed.none_ ?_ | refine Owed.nil_ ?_ | refine Owed.miss rfl ?_ | refine Owed.hit ?_ ?_) | ((with_reducible show Same _ _ _ _ _); intro _; go_simp; done) | (with_reducible exact True.intro) | ((with_reducible show Code.wp _ (Code.region 10 _ true) _ _ _); refine wp_region_plan [(0, 1, []), (1, 1, []), (2, 0, []), (3, 0, []), (4, 1, []), (5, 1, []), (6, 1, []), (7, 1, []), (8, 2, []), (9, 0, [])] (by kernel_rfl) (by kernel_rfl) (by kernel_rfl) ?_))
        refine (asort_any v4 n1 x _ HO4.out.1 (by omega)).mono ?_
        rintro e w5 ⟨rfl, ho5, hO5⟩
        have HO5 := Lib.hid (And.intro ho5 (HO4.out.2.2.trans (hO5.below HO4.out.2.2.size (fun k hk e => by have := HO4.out.2.1 k e; omega))))
        clear ho5 hO5
        go_wp2_with (first | ((with_reducible show wpPlan _ _ _ _ _ (Act.put _ _ _) _); simp only [List.getElem_toArray, List.getElem_cons_succ, List.getElem_cons_zero, Act.put, List.setIfInBounds_toArray, List.set_cons_zero, List.set_cons_succ]) | ((with_reducible show wpPlan _ _ _ _ _ _ _); first | refine wpPlan_nil ?_ | (refine wpPlan_read0 rfl ?hw rfl (fun _ _ _ => ?_); case hw => ((conv => (lhs; whnf)); first | done | with_reducible rfl)) | (refine wpPlan_read1d rfl ?hw rfl rfl (fun _ _ _ => ?_); case hw => ((conv => (lhs; whnf)); first | done | with_reducible rfl)) | (refine wpPlan_eff rfl ?hw (fun _ _ => ?_); case hw => ((conv => (lhs; whnf)); first | done | with_reducible rfl)) | (refine wpPlan_skip0 rfl ?hw ?_; case hw => ((conv => (lhs; whnf)); first | done | with_reducible rfl)) | (refine wpPlan_skip1d rfl ?hw ?_; case hw => ((conv => (lhs; whnf)); first | done | with_reducible rfl)) | (refine wpPlan_skip2 rfl ?hw ?_; case hw => ((conv => (lhs; whnf)); first | done | with_reducible rfl)) | (refine wpPlan_read1 rfl ?hw rfl (fun _ _ _ => ?_); case hw => ((conv => (lhs; whnf)); first | done | with_reducible rfl)) | refine wpPlan_fork ?_ ?_) | ((with_reducible show Owed _ _ _ _ _ _ _ _ _); first | refine Owed.none_ ?_ | refine Owed.nil_ ?_ | refine Owed.miss rfl ?_ | refine Owed.hit ?_ ?_) | ((with_reducible show Same _ _ _ _ _); intro _; go_simp; done) | (with_reducible exact True.intro) | ((with_reducible show Code.wp _ (Code.region 10 _ true) _ _ _); refine wp_region_plan [(0, 1, []), (1, 1, []), (2, 0, []), (3, 0, []), (4, 1, []), (5, 1, []), (6, 1, []), (7, 1, []), (8, 2, []), (9, 0, [])] (by kernel_rfl) (by kernel_rfl) (by kernel_rfl) ?_))
        refine (compact_any v4 n1 (srt x) _ HO5.out.1 (by omega)).mono ?_
        rw [cpt_srt]
        rintro e w6 ⟨⟨v6, rfl, ho6, hv6⟩, hO6⟩
        obtain ⟨r, hr⟩ : ∃ r, sd x = r := ⟨_, rfl⟩
        obtain ⟨nr, hnr⟩ : ∃ nr, r.length = nr := ⟨_, rfl⟩
        rw [hr, hnr] at ho6
        obtain ⟨A6, c6, rfl, hc6, _⟩ := own_form ho6
        have HRR := Lib.hid (show sd (rowAt ls ((canonK ls i).old.getD i 0)) = r from by
          rw [List.getD_eq_getElem?_getD, HSS.out]
          show sd (rowAt ls t2) = r
          rw [HX.out, hr])
        have HIN := Lib.hid (show InAt wr w6 gN wr.heap.size (.slice (some ⟨go, 0, none⟩) lo co) (.slice (some ⟨go, 0, none⟩) lo co) (.slice A6 nr c6) (canonK ls i).num (canonK ls i).old nr r from
          have hb6 : Below wr.heap.size wr w6 := HO5.out.2.trans (hO6.below HO5.out.2.size (fun k hk e => by have := HO4.out.2.1 k e; omega))
          ⟨HW.out.1.below hb6 hgw, own_out HW.out.2.1 (Below.new hb6) (fun _ _ e => e), fun x hx => .inl hx, ho6, fun x hx => HO4.out.2.1 x (by rw [← hv6]; exact hx), (Below.new hb6).mono (fun _ _ e => e.elim), hgw, Nat.le_refl _, HW.out.2.2.1⟩)
        have HRT := Lib.hid (show ∀ a ∈ r, 0 ≤ a.to ∧ a.to < ls.length from fun a ha => by
          rw [← hr] at ha
          have := (sd_mem a x).1 ha
          rw [← HX.out] at this
          exact HTOS.out.1.row t2 a this)
        have HNR := Lib.hid hnr
        have hnrl : nr ≤ 262144 := by
          have := sd_len x
          rw [hr, hnr] at this
          omega
        clear ho6 hv6 hO6 hr hnr c2 e0 a1c
        go_wp2_with (first | ((with_reducible show wpPlan _ _ _ _ _ (Act.put _ _ _) _); simp only [List.getElem_toArray, List.getElem_cons_succ, List.getElem_cons_zero, Act.put, List.setIfInBounds_toArray, List.set_cons_zero, List.set_cons_succ]) | ((with_reducible show wpPlan _ _ _ _ _ _ _); first | refine wpPlan_nil ?_ | (refine wpPlan_read0 rfl ?hw rfl (fun _ _ _ => ?_); case hw => ((conv => (lhs; whnf)); first | done | with_reducible rfl)) | (refine wpPlan_read1d rfl ?hw rfl rfl (fun _ _ _ => ?_); case hw => ((conv => (lhs; whnf)); first | done | with_reducible rfl)) | (refine wpPlan_eff rfl ?hw (fun _ _ => ?_); case hw => ((conv => (lhs; whnf)); first | done | with_reducible rfl)) | (refine wpPlan_skip0 rfl ?hw ?_; case hw => ((conv => (lhs; whnf)); first | done | with_reducible rfl)) | (refine wpPlan_skip1d rfl ?hw ?_; case hw => ((conv => (lhs; whnf)); first | done | with_reducible rfl)) | (refine wpPlan_skip2 rfl ?hw ?_; case hw => ((conv => (lhs; whnf)); first | done | with_reducible rfl)) | (refine wpPlan_read1 rfl ?hw rfl (fun _ _ _ => ?_); case hw => ((conv => (lhs; whnf)); first | done | with_reducible rfl)) | refine wpPlan_fork ?_ ?_) | ((with_reducible show Owed _ _ _ _ _ _ _ _ _); first | refine Owed.none_ ?_ | refine Owed.nil_ ?_ | refine Owed.miss rfl ?_ | refine Owed.hit ?_ ?_) | ((with_reducible show Same _ _ _ _ _); intro _; go_simp; done) | (with_reducible exact True.intro) | ((with_reducible show Code.wp _ (Code.region 10 _ true) _ _ _); refine wp_region_plan [(0, 1, []), (1, 1, []), (2, 0, []), (3, 0, []), (4, 1, []), (5, 1, []), (6, 1, []), (7, 1, []), (8, 2, []), (9, 0, [])] (by kernel_rfl) (by kernel_rfl) (by kernel_rfl) ?_))
        have HPOS := Lib.hid (show ∀ k, CInv ls.length (vis ls i r k).1 (vis ls i r k).2 ∧ ∀ b ∈ r.take k, 0 ≤ numAt (vis ls i r k).1 b.to from fun k =>
          have hrk : ∀ a ∈ r.take k, 0 ≤ a.to ∧ a.to < ls.length := fun a ha => HRT.out a (List.mem_of_mem_take ha)
          ⟨CInv.visit (r.take k) (s := ((canonK ls i).num, (canonK ls i).old)) HINV.out hrk, visit_new (r.take k) (s := ((canonK ls i).num, (canonK ls i).old)) HINV.out hrk⟩)
        go_loopw [6, 45] (fun vo vk wk => ∃ (k lk : Nat), k ≤ nr ∧ lk ≤ n ∧ vk = .int .i64 k ∧ Hid (lk = (vis ls i r k).2.length) ∧
          Hid (InAt wr wk gN wr.heap.size (.slice (some ⟨go, 0, none⟩) lo co) vo (.slice A6 nr c6) (vis ls i r k).1 (vis ls i r k).2 nr ((r.take k).map (ren (vis ls i r k).1) ++ r.drop k))) (fun _ vk _ => nr - (intOf vk).toNat)
        case atStart => exact ⟨0, lo, Nat.zero_le _, hlo, rfl, Lib.hid HLO.out, HIN⟩
        case round =>
          clear HIN
          rename World => wk
          obtain ⟨k, lk, hk, hlk, rfl, HLK, HI⟩ := hrel
          have holdk := HI.out.old_
          rw [← HLK.out] at holdk
          have HOLK := Lib.hid holdk
          obtain ⟨Ak, ck, rfl, hck, _⟩ := own_form holdk
          clear holdk
          by_cases hlt2 : k < nr
          · obtain ⟨g9, c9, e9, _, hg9⟩ := HI.out.row.form (by omega)
            simp only [Value.slice.injEq, true_and] at e9
            obtain ⟨rfl, rfl⟩ := e9
            obtain ⟨a, ha⟩ : ∃ a, r[k]? = some a := ⟨_, List.getElem?_eq_getElem (by rw [HNR.out]; exact hlt2)⟩
            have hM : ((r.take k).map (ren (vis ls i r k).1) ++ r.drop k)[k]? = some a := by
              have hl : ((r.take k).map (ren (vis ls i r k).1)).length = k := by rw [List.length_map, List.length_take, HNR.out]; omega
              rw [List.getElem?_append_right (by omega), hl, Nat.sub_self, List.getElem?_drop]
              exact ha
            have hat := HRT.out a (List.mem_of_getElem? ha)
            obtain ⟨c0, c1⟩ := own_at2 HI.out.row hM
            obtain ⟨hnz, hnv⟩ := (HPOS.out k).1.at_ hat.1 hat.2
            have HNX := Lib.hid (vis_next (ls := ls) (i := i) ha)
            have HRN := Lib.hid (ren_next (HPOS.out k).1 HRT.out ha (HPOS.out k).2)
            have HM := Lib.hid hM
            obtain ⟨ae, at_⟩ := a
            dsimp only at hat hnz hnv c0 c1
            obtain ⟨t, rfl⟩ : ∃ t : Nat, at_ = t := ⟨at_.toNat, by omega⟩
            rw [Int.toNat_natCast] at hnz hnv
            have htn : t < n := by have := hat.2; rw [HL.out] at this; omega
            have nc := HI.out.num_.cell t
            rw [List.getElem?_toArray, icells_get, hnz] at nc
            dsimp only [Option.map] at nc
            obtain ⟨z, hz⟩ : ∃ z, numAt (vis ls i r k).1 (t : Int) = z := ⟨_, rfl⟩
            rw [hz] at nc hnv
            have HZ := Lib.hid hz
            have gNl := HI.out.num_.lt
            have gNf := HI.out.num_.frozen
            have hrg := HI.out.rbase g9 rfl
            have hlo9 := HI.out.lo.1
            clear ha hM hat hnz hz
            by_cases hzn : z < 0
            · have HST := Lib.hid (show stepC (vis ls i r k) ⟨ae, t⟩ = ((vis ls i r k).1.set t lk, (vis ls i r k).2 ++ [t]) from by
                rw [stepC, if_pos (by rw [HZ.out]; exact hzn), ← HLK.out]
                rfl)
              have HBn := Lib.hid ((HI.out.putNum t lk).below ((Below.refl _ _).alloc (Nat.le_refl _) (.cells #[.int .i64 ae, .int .i64 t] 23)))
              have hsum : lk + 1 ≤ n := by
                have h1 := (HPOS.out (k + 1)).1.le
                rw [HNX.out, HST.out, List.length_append, ← HLK.out, HL.out] at h1
                simpa using h1
              have HOB := Lib.hid (show ((wk.setCell ⟨gN, t, none⟩ (.int .i64 lk)).alloc (.cells #[.int .i64 ae, .int .i64 t] 23)).ownsRow 0 3 1 (.slice Ak lk ck) lk (cellsOf ncell (vis ls i r k).2) from by
                have h1 := HBn.out.old_
                rw [← HLK.out] at h1
                exact h1)
              have hT12 : Blk ((wk.setCell ⟨gN, t, none⟩ (.int .i64 lk)).alloc (.cells #[.int .i64 ae, .int .i64 t] 23)) wk.heap.size 23 #[.int .i64 ae, .int .i64 t] := heap_alloc_at (by simp)
              have HT12 := Lib.hid hT12
              have t12c := hT12.cell
              have t12l := hT12.lt
              clear hT12 hnv
              go_wp2_with (first | ((with_reducible show wpPlan _ _ _ _ _ (Act.put _ _ _) _); simp only [List.getElem_toArray, List.getElem_cons_succ, List.getElem_cons_zero, Act.put, List.setIfInBounds_toArray, List.set_cons_zero, List.set_cons_succ]) | ((with_reducible show wpPlan _ _ _ _ _ _ _); first | refine wpPlan_nil ?_ | (refine wpPlan_read0 rfl ?hw rfl (fun _ _ _ => ?_); case hw => ((conv => (lhs; whnf)); first | done | with_reducible rfl)) | (refine wpPlan_read1d rfl ?hw rfl rfl (fun _ _ _ => ?_); case hw => ((conv => (lhs; whnf)); first | done | with_reducible rfl)) | (refine wpPlan_eff rfl ?hw (fun _ _ => ?_); case hw => ((conv => (lhs; whnf)); first | done | with_reducible rfl)) | (refine wpPlan_skip0 rfl ?hw ?_; case hw => ((conv => (lhs; whnf)); first | done | with_reducible rfl)) | (refine wpPlan_skip1d rfl ?hw ?_; case hw => ((conv => (lhs; whnf)); first | done | with_reducible rfl)) | (refine wpPlan_skip2 rfl ?hw ?_; case hw => ((conv => (lhs; whnf)); first | done | with_reducible rfl)) | (refine wpPlan_read1 rfl ?hw rfl (fun _ _ _ => ?_); case hw => ((conv => (lhs; whnf)); first | done | with_reducible rfl)) | refine wpPlan_fork ?_ ?_) | ((with_reducible show Owed _ _ _ _ _ _ _ _ _); first | refine Owed.none_ ?_ | refine Owed.nil_ ?_ | refine Owed.miss rfl ?_ | refine Owed.hit ?_ ?_) | ((with_reducible show Same _ _ _ _ _); intro _; go_simp; done) | (with_reducible exact True.intro) | ((with_reducible show Code.wp _ (Code.region 10 _ true) _ _ _); refine wp_region_plan [(0, 1, []), (1, 1, []), (2, 0, []), (3, 0, []), (4, 1, []), (5, 1, []), (6, 1, []), (7, 1, []), (8, 2, []), (9, 0, [])] (by kernel_rfl) (by kernel_rfl) (by kernel_rfl) ?_) | (at_builtin; refine appList_blk rfl slInt rfl (World.ownsRow.alloc HOB.out _) rfl (news := [.int .i64 t]) ((heap_alloc_at (by simp)) : Blk _ (wk.heap.size + 1) _ _) rfl rfl (by simp [Value.oneCell']) (by decide) (by unfold maxLen; omega) (by omega) ?_; intro g8 c8 w8 hown8 hgrow8 hat8; refine Stop7.intro ?_))
              unfold Stop7
              have hO8 : Outside (fun x => (Value.slice Ak lk ck).ownBlock = some x) ((wk.setCell ⟨gN, t, none⟩ (.int .i64 lk)).alloc (.cells #[.int .i64 ae, .int .i64 t] 23)) w8 := ((Outside.refl (fun x => (Value.slice Ak lk ck).ownBlock = some x) _).alloc (.cells #[.int .i64 t] 3)).grown hgrow8 (fun z hz => .inl hz)
              have hown9 : w8.ownsRow 0 3 1 (.slice (some ⟨g8, 0, none⟩) (lk + 1) c8) ((vis ls i r k).2 ++ [t]).length (cellsOf ncell ((vis ls i r k).2 ++ [t])) := by
                rw [cellsOf_append, List.length_append, ← HLK.out]
                exact hown8
              have HC := Lib.hid (HBn.out.app hO8 hown9 (fun x hx => by
                have h1 : g8 = x := by simpa [Value.ownBlock] using hx
                subst h1
                rcases hat8 with h | h
                · exact .inl h
                · refine .inr (Nat.le_trans ?_ h)
                  simp))
              have hT13 := HT12.out.out hO8 (fun e => by
                have := own_apart HOB.out HT12.out (by decide) e
                exact this)
              have t13c := hT13.cell
              have t13l := hT13.lt
              have n8c := HC.out.num_.cell t
              rw [List.getElem?_toArray, icells_get, List.getElem?_set_self (by rw [(HPOS.out k).1.len, HL.out]; exact htn)] at n8c
              dsimp only [Option.map] at n8c
              have n8l := HC.out.num_.lt
              obtain ⟨m0, m1⟩ := own_at2 HC.out.row HM.out
              have g9l := own_lt HC.out.row rfl
              have g9f := HC.out.row.frozenAt (k * 2 + 1)
              have HD := Lib.hid (HC.out.putTo k _ HM.out lk)
              have hne : numAt (stepC (vis ls i r k) ⟨ae, t⟩).1 (t : Int) = lk := by
                rw [HST.out]
                exact numAt_get (List.getElem?_set_self (by rw [(HPOS.out k).1.len, HL.out]; exact htn)) _ rfl
              have HE := Lib.hid (show lk + 1 = (vis ls i r (k + 1)).2.length ∧ InAt wr (w8.setCell ⟨g9, k * 2 + 1, none⟩ (.int .i64 lk)) gN wr.heap.size (.slice (some ⟨go, 0, none⟩) lo co) (.slice (some ⟨g8, 0, none⟩) (lk + 1) c8) (.slice (some ⟨g9, 0, none⟩) nr c6) (vis ls i r (k + 1)).1 (vis ls i r (k + 1)).2 nr ((r.take (k + 1)).map (ren (vis ls i r (k + 1)).1) ++ r.drop (k + 1)) from by
                have h2 := HRN.out
                rw [hne] at h2
                rw [HNX.out, ← h2, HST.out]
                exact ⟨by rw [List.length_append, ← HLK.out]; rfl, HD.out⟩)
              clear hO8 hown8 hown9 hgrow8 hat8 hT13 hne nc c0 c1 t12c t12l
              go_wp2_with (first | ((with_reducible show wpPlan _ _ _ _ _ (Act.put _ _ _) _); simp only [List.getElem_toArray, List.getElem_cons_succ, List.getElem_cons_zero, Act.put, List.setIfInBounds_toArray, List.set_cons_zero, List.set_cons_succ]) | ((with_reducible show wpPlan _ _ _ _ _ _ _); first | refine wpPlan_nil ?_ | (refine wpPlan_read0 rfl ?hw rfl (fun _ _ _ => ?_); case hw => ((conv => (lhs; whnf)); first | done | with_reducible rfl)) | (refine wpPlan_read1d rfl ?hw rfl rfl (fun _ _ _ => ?_); case hw => ((conv => (lhs; whnf)); first | done | with_reducible rfl)) | (refine wpPlan_eff rfl ?hw (fun _ _ => ?_); case hw => ((conv => (lhs; whnf)); first | done | with_reducible rfl)) | (refine wpPlan_skip0 rfl ?hw ?_; case hw => ((conv => (lhs; whnf)); first | done | with_reducible rfl)) | (refine wpPlan_skip1d rfl ?hw ?_; case hw => ((conv => (lhs; whnf)); first | done | with_reducible rfl)) | (refine wpPlan_skip2 rfl ?hw ?_; case hw => ((conv => (lhs; whnf)); first | done | with_reducible rfl)) | (refine wpPlan_read1 rfl ?hw rfl (fun _ _ _ => ?_); case hw => ((conv => (lhs; whnf)); first | done | with_reducible rfl)) | refine wpPlan_fork ?_ ?_) | ((with_reducible show Owed _ _ _ _ _ _ _ _ _); first | refine Owed.none_ ?_ | refine Owed.nil_ ?_ | refine Owed.miss rfl ?_ | refine Owed.hit ?_ ?_) | ((with_reducible show Same _ _ _ _ _); intro _; go_simp; done) | (with_reducible exact True.intro) | ((with_reducible show Code.wp _ (Code.region 10 _ true) _ _ _); refine wp_region_plan [(0, 1, []), (1, 1, []), (2, 0, []), (3, 0, []), (4, 1, []), (5, 1, []), (6, 1, []), (7, 1, []), (8, 2, []), (9, 0, [])] (by kernel_rfl) (by kernel_rfl) (by kernel_rfl) ?_))
              go_roundw
              case rel => exact ⟨k + 1, lk + 1, by omega, hsum, by go_num, Lib.hid HE.out.1, Lib.hid HE.out.2⟩
              case measure => simp [intOf]; omega
            · have hzk : ∃ q : Nat, z = q := by
                rcases hnv with h | ⟨q, h, _⟩
                · omega
                · exact ⟨q, h⟩
              obtain ⟨q, rfl⟩ := hzk
              have HST := Lib.hid (show stepC (vis ls i r k) ⟨ae, t⟩ = vis ls i r k from by
                rw [stepC, if_neg (by rw [HZ.out]; exact hzn)])
              have HD := Lib.hid ((HI.out.putTo k _ HM.out q).below ((Below.refl _ _).alloc (Nat.le_refl _) (.cells #[.int .i64 ae, .int .i64 t] 23)))
              have HE := Lib.hid (show lk = (vis ls i r (k + 1)).2.length ∧ InAt wr ((wk.setCell ⟨g9, k * 2 + 1, none⟩ (.int .i64 q)).alloc (.cells #[.int .i64 ae, .int .i64 t] 23)) gN wr.heap.size (.slice (some ⟨go, 0, none⟩) lo co) (.slice Ak lk ck) (.slice (some ⟨g9, 0, none⟩) nr c6) (vis ls i r (k + 1)).1 (vis ls i r (k + 1)).2 nr ((r.take (k + 1)).map (ren (vis ls i r (k + 1)).1) ++ r.drop (k + 1)) from by
                have h2 := HRN.out
                rw [HST.out, HZ.out] at h2
                rw [HNX.out, HST.out, ← h2]
                exact ⟨HLK.out, HD.out⟩)
              have g9f := HI.out.row.frozenAt (k * 2 + 1)
              clear hnv
              go_wp2_with (first | ((with_reducible show wpPlan _ _ _ _ _ (Act.put _ _ _) _); simp only [List.getElem_toArray, List.getElem_cons_succ, List.getElem_cons_zero, Act.put, List.setIfInBounds_toArray, List.set_cons_zero, List.set_cons_succ]) | ((with_reducible show wpPlan _ _ _ _ _ _ _); first | refine wpPlan_nil ?_ | (refine wpPlan_read0 rfl ?hw rfl (fun _ _ _ => ?_); case hw => ((conv => (lhs; whnf)); first | done | with_reducible rfl)) | (refine wpPlan_read1d rfl ?hw rfl rfl (fun _ _ _ => ?_); case hw => ((conv => (lhs; whnf)); first | done | with_reducible rfl)) | (refine wpPlan_eff rfl ?hw (fun _ _ => ?_); case hw => ((conv => (lhs; whnf)); first | done | with_reducible rfl)) | (refine wpPlan_skip0 rfl ?hw ?_; case hw => ((conv => (lhs; whnf)); first | done | with_reducible rfl)) | (refine wpPlan_skip1d rfl ?hw ?_; case hw => ((conv => (lhs; whnf)); first | done | with_reducible rfl)) | (refine wpPlan_skip2 rfl ?hw ?_; case hw => ((conv => (lhs; whnf)); first | done | with_reducible rfl)) | (refine wpPlan_read1 rfl ?hw rfl (fun _ _ _ => ?_); case hw => ((conv => (lhs; whnf)); first | done | with_reducible rfl)) | refine wpPlan_fork ?_ ?_) | ((with_reducible show Owed _ _ _ _ _ _ _ _ _); first | refine Owed.none_ ?_ | refine Owed.nil_ ?_ | refine Owed.miss rfl ?_ | refine Owed.hit ?_ ?_) | ((with_reducible show Same _ _ _ _ _); intro _; go_simp; done) | (with_reducible exact True.intro) | ((with_reducible show Code.wp _ (Code.region 10 _ true) _ _ _); refine wp_region_plan [(0, 1, []), (1, 1, []), (2, 0, []), (3, 0, []), (4, 1, []), (5, 1, []), (6, 1, []), (7, 1, []), (8, 2, []), (9, 0, [])] (by kernel_rfl) (by kernel_rfl) (by kernel_rfl) ?_))
              go_roundw
              case rel => exact ⟨k + 1, lk, by omega, hlk, by go_num, Lib.hid HE.out.1, Lib.hid HE.out.2⟩
              case measure => simp [intOf]; omega
          · have hkn : k = nr := by omega
            subst hkn
            have HCI := Lib.hid ((HPOS.out k).1)
            have HND := Lib.hid (show (r.map (ren (vis ls i r k).1)).Nodup from by
              have h1 := ren_nodup (s := ((canonK ls i).num, (canonK ls i).old)) HINV.out HRT.out (asc_nodup (by rw [← HRR.out]; exact sd_asc _))
              rw [← HNR.out, vis_all]
              exact h1)
            have hrow := HI.out.row
            rw [← HNR.out, List.take_length, List.drop_length, List.append_nil, HNR.out] at hrow
            have HROW := Lib.hid hrow
            have hlol : lo ≤ lk := by
              have h1 := visit_len (r.take k) ((canonK ls i).num, (canonK ls i).old)
              rw [HLO.out, HLK.out]
              exact h1
            clear hrow
            go_wp2_with (first | ((with_reducible show wpPlan _ _ _ _ _ (Act.put _ _ _) _); simp only [List.getElem_toArray, List.getElem_cons_succ, List.getElem_cons_zero, Act.put, List.setIfInBounds_toArray, List.set_cons_zero, List.set_cons_succ]) | ((with_reducible show wpPlan _ _ _ _ _ _ _); first | refine wpPlan_nil ?_ | (refine wpPlan_read0 rfl ?hw rfl (fun _ _ _ => ?_); case hw => ((conv => (lhs; whnf)); first | done | with_reducible rfl)) | (refine wpPlan_read1d rfl ?hw rfl rfl (fun _ _ _ => ?_); case hw => ((conv => (lhs; whnf)); first | done | with_reducible rfl)) | (refine wpPlan_eff rfl ?hw (fun _ _ => ?_); case hw => ((conv => (lhs; whnf)); first | done | with_reducible rfl)) | (refine wpPlan_skip0 rfl ?hw ?_; case hw => ((conv => (lhs; whnf)); first | done | with_reducible rfl)) | (refine wpPlan_skip1d rfl ?hw ?_; case hw => ((conv => (lhs; whnf)); first | done | with_reducible rfl)) | (refine wpPlan_skip2 rfl ?hw ?_; case hw => ((conv => (lhs; whnf)); first | done | with_reducible rfl)) | (refine wpPlan_read1 rfl ?hw rfl (fun _ _ _ => ?_); case hw => ((conv => (lhs; whnf)); first | done | with_reducible rfl)) | refine wpPlan_fork ?_ ?_) | ((with_reducible show Owed _ _ _ _ _ _ _ _ _); first | refine Owed.none_ ?_ | refine Owed.nil_ ?_ | refine Owed.miss rfl ?_ | refine Owed.hit ?_ ?_) | ((with_reducible show Same _ _ _ _ _); intro _; go_simp; done) | (with_reducible exact True.intro) | ((with_reducible show Code.wp _ (Code.region 10 _ true) _ _ _); refine wp_region_plan [(0, 1, []), (1, 1, []), (2, 0, []), (3, 0, []), (4, 1, []), (5, 1, []), (6, 1, []), (7, 1, []), (8, 2, []), (9, 0, [])] (by kernel_rfl) (by kernel_rfl) (by kernel_rfl) ?_))
            refine (asort_any (.slice A6 k c6) k (r.map (ren (vis ls i r k).1)) _ HROW.out (by omega)).mono ?_
            rw [srt_nodup HND.out]
            rintro e w7 ⟨rfl, ho7, hO7⟩
            have hsl : (sd (r.map (ren (vis ls i r k).1))).length = k := by rw [← srt_nodup HND.out, srt_len, List.length_map, HNR.out]
            have hfr : Outside (fun x => x = gN ∨ (Value.slice (some ⟨go, 0, none⟩) lo co).ownBlock = some x ∨ wr.heap.size ≤ x) wr w7 := HI.out.fr.trans (hO7.mono (fun x _ e => .inr (.inr (HI.out.rbase x e))))
            have HN7 := Lib.hid (HI.out.num_.out hO7 (fun e => own_apart HROW.out HI.out.num_ (by decide) e))
            have HO7 := Lib.hid (own_out HOLK.out hO7 (fun x hx e => own_apart_own HROW.out HOLK.out (by decide) e hx))
            have HRX7 := Lib.hid (HXS.out.outT hfr (fun x hx e => by
              rcases e with e | e | e
              · exact own_apart HXS.out.own HW.out.1 (by decide) (by rw [← e]; exact hx)
              · exact own_apart_own HXS.out.own HOLD.out (by decide) hx e
              · have := own_lt HXS.out.own hx; omega) (fun u l hu x hx e => by
              rcases e with e | e | e
              · exact own_apart hu HW.out.1 (by decide) (by rw [← e]; exact hx)
              · exact own_apart_own hu HOLD.out (by decide) hx e
              · have := own_lt hu hx; omega))
            have hgo2 := HW.out.2.2.1 go rfl
            have hgl : gN < w7.heap.size := HN7.out.lt
            have hws := HW.out.2.2.2.2.2.2.size
            have hvo : ∀ x, (Value.slice (some ⟨go, 0, none⟩) lo co).ownBlock = some x → go = x := fun x hx => by simpa [Value.ownBlock] using hx
            have HT7 := Lib.hid (show Blk w7 w.heap.size 27 #[.slice (some ⟨b1, o1, none⟩) n c] ∧ Blk w7 (w.heap.size + 1) 27 #[.slice none 0 0] ∧ Below w.heap.size w w7 from by
              have hd : ∀ x, x ≤ w.heap.size + 1 → ¬ (x = gN ∨ (Value.slice (some ⟨go, 0, none⟩) lo co).ownBlock = some x ∨ wr.heap.size ≤ x) := fun x hx e => by
                rcases e with e | e | e
                · omega
                · have := hvo x e; omega
                · have := HW.out.2.2.2.2.2.1.lt; omega
              exact ⟨HW.out.2.2.2.2.1.out hfr (hd _ (by omega)), HW.out.2.2.2.2.2.1.out hfr (hd _ (by omega)), HW.out.2.2.2.2.2.2.trans (hfr.below hws (fun x hx => hd x (by omega)))⟩)
            have HU7 := Lib.hid (show w7.ownsRow 0 23 2 (.slice A6 k c6) (sd (r.map (ren (vis ls i r k).1))).length (cellsOf Arc.cells (sd (r.map (ren (vis ls i r k).1)))) ∧ ∀ x, (Value.slice A6 k c6).ownBlock = some x → w.heap.size + 2 ≤ x from
              ⟨by rw [hsl]; exact ho7, fun x hx => by have := HI.out.rbase x hx; have := HW.out.2.2.2.2.2.1.lt; omega⟩)
            have HOB := Lib.hid (show ∀ x, (Value.slice Ak lk ck).ownBlock = some x → gN < x from HI.out.one)
            have HK := Lib.hid (show canonK ls (i + 1) = ⟨(vis ls i r k).1, (vis ls i r k).2, (canonK ls i).out ++ [sd (r.map (ren (vis ls i r k).1))]⟩ from by rw [canon_next HRR.out, HNR.out])
            clear ho7 hO7 hfr hvo a1l
            go_wp2_with (first | ((with_reducible show wpPlan _ _ _ _ _ (Act.put _ _ _) _); simp only [List.getElem_toArray, List.getElem_cons_succ, List.getElem_cons_zero, Act.put, List.setIfInBounds_toArray, List.set_cons_zero, List.set_cons_succ]) | ((with_reducible show wpPlan _ _ _ _ _ _ _); first | refine wpPlan_nil ?_ | (refine wpPlan_read0 rfl ?hw rfl (fun _ _ _ => ?_); case hw => ((conv => (lhs; whnf)); first | done | with_reducible rfl)) | (refine wpPlan_read1d rfl ?hw rfl rfl (fun _ _ _ => ?_); case hw => ((conv => (lhs; whnf)); first | done | with_reducible rfl)) | (refine wpPlan_eff rfl ?hw (fun _ _ => ?_); case hw => ((conv => (lhs; whnf)); first | done | with_reducible rfl)) | (refine wpPlan_skip0 rfl ?hw ?_; case hw => ((conv => (lhs; whnf)); first | done | with_reducible rfl)) | (refine wpPlan_skip1d rfl ?hw ?_; case hw => ((conv => (lhs; whnf)); first | done | with_reducible rfl)) | (refine wpPlan_skip2 rfl ?hw ?_; case hw => ((conv => (lhs; whnf)); first | done | with_reducible rfl)) | (refine wpPlan_read1 rfl ?hw rfl (fun _ _ _ => ?_); case hw => ((conv => (lhs; whnf)); first | done | with_reducible rfl)) | refine wpPlan_fork ?_ ?_) | ((with_reducible show Owed _ _ _ _ _ _ _ _ _); first | refine Owed.none_ ?_ | refine Owed.nil_ ?_ | refine Owed.miss rfl ?_ | refine Owed.hit ?_ ?_) | ((with_reducible show Same _ _ _ _ _); intro _; go_simp; done) | (with_reducible exact True.intro) | ((with_reducible show Code.wp _ (Code.region 10 _ true) _ _ _); refine wp_region_plan [(0, 1, []), (1, 1, []), (2, 0, []), (3, 0, []), (4, 1, []), (5, 1, []), (6, 1, []), (7, 1, []), (8, 2, []), (9, 0, [])] (by kernel_rfl) (by kernel_rfl) (by kernel_rfl) ?_) | (at_builtin; refine appList_blk rfl slRow rfl (World.ownsRow.alloc HRX7.out.own _) rfl (news := [.slice A6 k c6]) ((heap_alloc_at rfl) : Blk _ w7.heap.size _ _) rfl rfl (by simp [Value.oneCell']) (by decide) (by unfold maxLen; omega) (by omega) ?_; intro g8 c8 w8 hown8 hgrow8 hat8; refine Stop7.intro ?_))
            unfold Stop7
            have hO8 : Outside (fun x => (Value.slice Aq i cq).ownBlock = some x) w7 w8 := ((Outside.refl (fun x => (Value.slice Aq i cq).ownBlock = some x) w7).alloc (.cells #[.slice A6 k c6] 24)).grown hgrow8 (fun z hz => .inl hz)
            have hg8 : ∀ x, (Value.slice (some ⟨g8, 0, none⟩) (i + 1) c8).ownBlock = some x → w.heap.size + 2 ≤ x := fun x hx => by
              have h1 : g8 = x := by simpa [Value.ownBlock] using hx
              rcases hat8 with h | h
              · have := HRX7.out.base g8 h; omega
              · simp at h
                have := HT7.out.2.1.lt
                omega
            have hSn := HRX7.out.snoc hown8 hg8 hO8 HU7.out.1 HU7.out.2
            have hs8 := hO8.size
            have hqb : ∀ x, (Value.slice Aq i cq).ownBlock = some x → w.heap.size + 2 ≤ x := HRX7.out.base
            have HE := Lib.hid (show Blk w8 gN 3 (cellsOf icell (canonK ls (i + 1)).num).toArray ∧ w8.ownsRow 0 3 1 (.slice Ak lk ck) (canonK ls (i + 1)).old.length (cellsOf ncell (canonK ls (i + 1)).old) ∧
                (∀ x, (Value.slice Ak lk ck).ownBlock = some x → gN < x) ∧ (∃ xs, RowsX w8 (w.heap.size + 2) (.slice (some ⟨g8, 0, none⟩) (i + 1) c8) (i + 1) xs (canonK ls (i + 1)).out) ∧ Blk w8 w.heap.size 27 #[.slice (some ⟨b1, o1, none⟩) n c] ∧ Blk w8 (w.heap.size + 1) 27 #[.slice none 0 0] ∧ Below w.heap.size w w8 from by
              rw [HK.out]
              refine ⟨HN7.out.out hO8 (fun e => own_apart HRX7.out.own HN7.out (by decide) e), ?_, HOB.out, ⟨_, hSn⟩, HT7.out.1.out hO8 (fun e => by have := hqb _ e; omega), HT7.out.2.1.out hO8 (fun e => by have := hqb _ e; omega), HT7.out.2.2.trans (hO8.below HT7.out.2.2.size (fun x hx e => by have := hqb _ e; omega))⟩
              have h1 := own_out HO7.out hO8 (fun x hx e => own_apart_own HRX7.out.own HO7.out (by decide) e hx)
              show w8.ownsRow 0 3 1 (.slice Ak lk ck) (vis ls i r k).2.length (cellsOf ncell (vis ls i r k).2)
              rw [← HLK.out]
              exact h1)
            have HLK2 := Lib.hid (show lk = (canonK ls (i + 1)).old.length by rw [HK.out]; exact HLK.out)
            have HJ2 := Lib.hid (show ∀ j, j < i + 1 → j < (canonK ls j).old.length from fun j hj => by
              by_cases h : j < i
              · exact HJ.out j h
              · have : j = i := by omega
                subst this
                rw [← HLO.out]
                exact hlt)
            clear hO8 hg8 hSn hqb hown8 hgrow8 hat8
            go_wp2_with (first | ((with_reducible show wpPlan _ _ _ _ _ (Act.put _ _ _) _); simp only [List.getElem_toArray, List.getElem_cons_succ, List.getElem_cons_zero, Act.put, List.setIfInBounds_toArray, List.set_cons_zero, List.set_cons_succ]) | ((with_reducible show wpPlan _ _ _ _ _ _ _); first | refine wpPlan_nil ?_ | (refine wpPlan_read0 rfl ?hw rfl (fun _ _ _ => ?_); case hw => ((conv => (lhs; whnf)); first | done | with_reducible rfl)) | (refine wpPlan_read1d rfl ?hw rfl rfl (fun _ _ _ => ?_); case hw => ((conv => (lhs; whnf)); first | done | with_reducible rfl)) | (refine wpPlan_eff rfl ?hw (fun _ _ => ?_); case hw => ((conv => (lhs; whnf)); first | done | with_reducible rfl)) | (refine wpPlan_skip0 rfl ?hw ?_; case hw => ((conv => (lhs; whnf)); first | done | with_reducible rfl)) | (refine wpPlan_skip1d rfl ?hw ?_; case hw => ((conv => (lhs; whnf)); first | done | with_reducible rfl)) | (refine wpPlan_skip2 rfl ?hw ?_; case hw => ((conv => (lhs; whnf)); first | done | with_reducible rfl)) | (refine wpPlan_read1 rfl ?hw rfl (fun _ _ _ => ?_); case hw => ((conv => (lhs; whnf)); first | done | with_reducible rfl)) | refine wpPlan_fork ?_ ?_) | ((with_reducible show Owed _ _ _ _ _ _ _ _ _); first | refine Owed.none_ ?_ | refine Owed.nil_ ?_ | refine Owed.miss rfl ?_ | refine Owed.hit ?_ ?_) | ((with_reducible show Same _ _ _ _ _); intro _; go_simp; done) | (with_reducible exact True.intro) | ((with_reducible show Code.wp _ (Code.region 10 _ true) _ _ _); refine wp_region_plan [(0, 1, []), (1, 1, []), (2, 0, []), (3, 0, []), (4, 1, []), (5, 1, []), (6, 1, []), (7, 1, []), (8, 2, []), (9, 0, [])] (by kernel_rfl) (by kernel_rfl) (by kernel_rfl) ?_))
            go_roundw
            case rel => exact ⟨i + 1, lk, by omega, hlk, by go_num, by omega, HLK2, HE, HJ2⟩
            case measure => simp [intOf]; omega

      · have hil : i = lo := by omega
        subst hil
        have b1c := HW.out.2.2.2.2.2.1.cell
        have b1l := HW.out.2.2.2.2.2.1.lt
        have b1f := HW.out.2.2.2.2.2.1.frozen
        obtain ⟨Ao, co, rfl, _, _⟩ := own_form HOLD.out
        have hput := (HW.out.2.2.2.2.2.1.put 0 (.slice Aq i cq)).cell 0
        have hO9 : Outside (fun x => x = w.heap.size + 1) wr (wr.setCell ⟨w.heap.size + 1, 0, none⟩ (.slice Aq i cq)) := (Outside.refl (fun x => x = w.heap.size + 1) wr).setCell (p := ⟨w.heap.size + 1, 0, none⟩) (Or.inl rfl) _
        have HZ := Lib.hid (And.intro (HXS.out.out hO9 (fun x h1 h2 => by omega)) (And.intro (Rd.ofOwn (own_out HOLD.out hO9 (fun x hx e => by have := HW.out.2.2.1 x hx; omega))) (HW.out.2.2.2.2.2.2.setCell (p := ⟨w.heap.size + 1, 0, none⟩) (by simp) (.slice Aq i cq))))
        clear hO9
        go_wp2_with (first | ((with_reducible show wpPlan _ _ _ _ _ (Act.put _ _ _) _); simp only [List.getElem_toArray, List.getElem_cons_succ, List.getElem_cons_zero, Act.put, List.setIfInBounds_toArray, List.set_cons_zero, List.set_cons_succ]) | ((with_reducible show wpPlan _ _ _ _ _ _ _); first | refine wpPlan_nil ?_ | (refine wpPlan_read0 rfl ?hw rfl (fun _ _ _ => ?_); case hw => ((conv => (lhs; whnf)); first | done | with_reducible rfl)) | (refine wpPlan_read1d rfl ?hw rfl rfl (fun _ _ _ => ?_); case hw => ((conv => (lhs; whnf)); first | done | with_reducible rfl)) | (refine wpPlan_eff rfl ?hw (fun _ _ => ?_); case hw => ((conv => (lhs; whnf)); first | done | with_reducible rfl)) | (refine wpPlan_skip0 rfl ?hw ?_; case hw => ((conv => (lhs; whnf)); first | done | with_reducible rfl)) | (refine wpPlan_skip1d rfl ?hw ?_; case hw => ((conv => (lhs; whnf)); first | done | with_reducible rfl)) | (refine wpPlan_skip2 rfl ?hw ?_; case hw => ((conv => (lhs; whnf)); first | done | with_reducible rfl)) | (refine wpPlan_read1 rfl ?hw rfl (fun _ _ _ => ?_); case hw => ((conv => (lhs; whnf)); first | done | with_reducible rfl)) | refine wpPlan_fork ?_ ?_) | ((with_reducible show Owed _ _ _ _ _ _ _ _ _); first | refine Owed.none_ ?_ | refine Owed.nil_ ?_ | refine Owed.miss rfl ?_ | refine Owed.hit ?_ ?_) | ((with_reducible show Same _ _ _ _ _); intro _; go_simp; done) | (with_reducible exact True.intro) | ((with_reducible show Code.wp _ (Code.region 10 _ true) _ _ _); refine wp_region_plan [(0, 1, []), (1, 1, []), (2, 0, []), (3, 0, []), (4, 1, []), (5, 1, []), (6, 1, []), (7, 1, []), (8, 2, []), (9, 0, [])] (by kernel_rfl) (by kernel_rfl) (by kernel_rfl) ?_))
        refine bodyPost_ret (v := .tuple #[.agg #[.slice Aq i cq], .slice Ao i co, .int .i64 0]) (by simp [results, Try.results65, go_sem, hput]) rfl ?_
        exact ⟨Aq, i, cq, _, Ao, i, co, _, 0, rfl, ⟨_, _, by omega, HZ.out.1⟩, HZ.out.2.1, HZ.out.2.2, .inr ⟨HQ.out, rfl, i, ⟨HJ.out, by rw [← HLO.out]; omega⟩, rfl, rfl⟩⟩

theorem canonical_any (A : Option Addr) (n c B : Nat) (ls : List (List Arc)) (w : World) (h : RdL w B A n ls) (hB : B ≤ w.heap.size) (hn : n ≤ 1000000000000) :
    Calls Try.prog 65 #[lts A n c] w (CanPost w ls) := by
  refine (canonicalX_any A n c B ls w h hB hn).mono ?_
  rintro e w' ⟨A1, n1, c1, out, A2, n2, c2, old, err, h1, ⟨_, _, _, h2⟩, h3⟩
  exact ⟨A1, n1, c1, out, A2, n2, c2, old, err, h1, h2.whole, h3⟩
theorem rowAt_len {ls : List (List Arc)} {N : Nat} (h : ∀ l ∈ ls, l.length ≤ N) (s : Nat) : (rowAt ls s).length ≤ N := by
  rw [rowAt, List.getD_eq_getElem?_getD]
  cases hx : ls[s]? with
  | none => exact Nat.zero_le _
  | some x => exact h x (List.mem_of_getElem? hx)
theorem canon_rows {ls : List (List Arc)} {N : Nat} (h : ∀ l ∈ ls, l.length ≤ N) : ∀ i, ∀ l ∈ (canonK ls i).out, l.length ≤ N
  | 0, l, hl => by cases hl
  | i + 1, l, hl => by
    rw [canon_next rfl] at hl
    rcases List.mem_append.1 hl with h1 | h1
    · exact canon_rows h i l h1
    · obtain rfl := List.mem_singleton.1 h1
      have h2 := sd_len (rowAt ls ((canonK ls i).old.getD i 0))
      have h3 := sd_len ((sd (rowAt ls ((canonK ls i).old.getD i 0))).map (ren (vis ls i (sd (rowAt ls ((canonK ls i).old.getD i 0))) (sd (rowAt ls ((canonK ls i).old.getD i 0))).length).1))
      rw [List.length_map] at h3
      have h4 := rowAt_len h ((canonK ls i).old.getD i 0)
      omega
theorem done_le {ls : List (List Arc)} {i : Nat} (h : TosIn ls) (h0 : 0 < ls.length) (hd : DoneC ls i) : i ≤ ls.length := by
  cases i with
  | zero => exact Nat.zero_le _
  | succ i =>
    have h1 := hd.1 i (by omega)
    have h2 := (canon_inv h h0 i).le
    omega

end Go.Proofs.Ytmciinikfjfegaa
