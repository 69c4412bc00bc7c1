/- arcs put into a row: the reference's Insert -/
import Derived.Test.YtmciinikfjfegaaRwA
import Derived.Test.YtmciinikfjfegaaRwV
import Derived.Test.YtmciinikfjfegaaTp
import Derived.Deep.Upon
namespace Go.Proofs.Ytmciinikfjfegaa
open Go Go.RowKit
set_option maxHeartbeats 4000000

theorem infoArc : (Try.prog.info? 23).map (fun i => (i.zero, i.size, i.bytes)) = some (some (.agg #[.int .i64 0, .int .i64 0]), 2, 16) := by kernel_rfl
theorem slArc : SlT Try.prog 24 23 2 16 := SlT.of Try.underlying24 infoArc rfl (by decide)
theorem arc_ones (l : List Arc) : ∀ u ∈ cellsOf Arc.cells l, u.oneCell' = true := cellsOf_one_cell (fun x u hu => by
  simp [Arc.cells] at hu
  rcases hu with rfl | rfl <;> rfl) l
/-- append of what reads, be it nothing, to a row of one's own -/
theorem appList_opt {P : Program} {ops : Array Oper} {rest : List Oper} {w : World} {o : Oper} {a : Act} {Q : Exit → Act → World → Prop} {s x : Operand} {t e : TypeId} {size bytes : Nat} (hgd : o.guard = none)
    (hT : SlT P t e size bytes) (ho : o.op = .call { callee := .builtin .append, args := #[s, x], argTypes := #[t, t] })
    {v : Value} {n : Nat} {xs : List Value} (hown : w.ownsRow 0 e size v n xs) (hs : a.eval s = v)
    {A : Option Addr} {B m c : Nat} {news : List Value} (hB : Rd w B size A m news) (hx : a.eval x = .slice A m c) (h1 : ∀ u ∈ news, u.oneCell' = true)
    (h63 : n + m ≤ maxLen) (hbytes : (n + m) * bytes ≤ 140737488355328)
    (h : ∀ v' w', w'.ownsRow 0 e size v' (n + m) (xs ++ news) → w.grownBy w' v.ownBlock → (v'.ownBlock = v.ownBlock ∨ v'.ownBlock = some w.heap.size) → wpList P ops Q rest (a.put o.dst v') w') : wpList P ops Q (o :: rest) a w := by
  cases A with
  | some ad => exact appList_rd hgd hT ho hown hs hB hx h1 h63 hbytes h
  | none =>
    have hm : m = 0 := by
      rcases Nat.eq_zero_or_pos m with e | e
      · exact e
      · obtain ⟨_, _, e, _⟩ := hB.2 e
        cases e
    subst hm
    have hn : news = [] := List.eq_nil_of_length_eq_zero (by simpa using hB.1)
    subst hn
    refine wpList_plain hgd fun K hK => ?_
    obtain ⟨i, z, h2, h3, h4, h5, h6, h7, h8⟩ := hT
    obtain ⟨A', cap, rfl, hc, _⟩ := own_form hown
    have hr : (Builtin.append_ #[t, t] o.type #[.slice A' n cap, .slice none 0 c]).run P w = .ok (.slice A' n cap) w := by
      cases A' <;> simp [Builtin.append_, run_underlying h2, sizeOf, typeInfo, h3, Builtin.lenOf, Builtin.firstCells, hc, storeCells]
    unfold Oper.wp execOp
    simp only [ho, resolve, invoke, builtin, Sem.run_bind, Sem.run_pure, Result.andThen_ok, List.map_toArray, List.map_cons, List.map_nil, hs, hx, hr]
    exact hK _ _ (h _ _ (by simpa using hown) ⟨rfl, rfl, rfl, Nat.le_refl _, fun _ _ _ => rfl⟩ (.inl rfl))

section
variable {w : World} {B n : Nat} {b o : Nat} {l : List Arc}
theorem Rd.arcTake (h : Rd w B 2 (some ⟨b, o, none⟩) n (cellsOf Arc.cells l)) {i : Nat} (hi : i ≤ n) : Rd w B 2 (some ⟨b, o, none⟩) i (cellsOf Arc.cells (l.take i)) := by
  have hl := h.len Arc.cells_len (by decide)
  refine ⟨by rw [cellsOf_length Arc.cells_len, List.length_take, hl]; omega, fun hi0 => ?_⟩
  obtain ⟨b', o', e, hb, hc⟩ := h.2 (by omega)
  refine ⟨b', o', e, hb, fun j u hu => hc j u ?_⟩
  rw [cellsOf_take Arc.cells_len] at hu
  rw [List.getElem?_take] at hu
  split at hu
  · exact hu
  · cases hu
theorem Rd.arcDrop (h : Rd w B 2 (some ⟨b, o, none⟩) n (cellsOf Arc.cells l)) {i : Nat} (hi : i ≤ n) : Rd w B 2 (some ⟨b, o + i * 2, none⟩) (n - i) (cellsOf Arc.cells (l.drop i)) := by
  have hl := h.len Arc.cells_len (by decide)
  refine ⟨by rw [cellsOf_length Arc.cells_len, List.length_drop, hl], fun hi0 => ?_⟩
  obtain ⟨b', o', e, hb, hc⟩ := h.2 (by omega)
  obtain ⟨rfl, rfl⟩ : b = b' ∧ o = o' := by simpa using e
  refine ⟨b, o + i * 2, rfl, hb, fun j u hu => ?_⟩
  rw [Nat.add_assoc]
  refine hc (i * 2 + j) u ?_
  have e1 : cellsOf Arc.cells l = cellsOf Arc.cells (l.take i) ++ cellsOf Arc.cells (l.drop i) := by rw [← cellsOf_append, List.take_append_drop]
  rw [e1, List.getElem?_append_right (by rw [cellsOf_length Arc.cells_len, List.length_take, hl]; omega), cellsOf_length Arc.cells_len, List.length_take, hl, Nat.min_eq_left hi, show i * 2 + j - i * 2 = j by omega]
  exact hu
end

def Stop7 (p : Prop) : Prop := p
theorem Stop7.intro {p : Prop} (h : Stop7 p) : p := h
attribute [irreducible] Stop7
/-- what putting an arc into a row gives -/
def InsR (l : List Arc) (a : Arc) (l' : List Arc) : Prop :=
  ∃ i, i ≤ l.length ∧ (∀ j x, j < i → l[j]? = some x → lessB x a = true) ∧ (∀ x, l[i]? = some x → lessB x a = false) ∧ (l' = l ∧ l[i]? = some a ∨ l' = l.take i ++ a :: l.drop i ∧ l[i]? ≠ some a)
theorem InsR.len {l l' : List Arc} {a : Arc} (h : InsR l a l') : l'.length ≤ l.length + 1 := by
  obtain ⟨i, h1, _, _, h | h⟩ := h
  · rw [h.1]; omega
  · rw [h.1, List.length_append, List.length_cons, List.length_take, List.length_drop]; omega

set_option maxRecDepth 100000 in
theorem insertA_any (A : Option Addr) (n c B : Nat) (l : List Arc) (a : Arc) (w : World) (h : Rd w B 2 A n (cellsOf Arc.cells l)) (hB : B ≤ w.heap.size) (hc : n ≤ c) (hn : n ≤ 1000000) :
    Calls Try.prog 35 #[.slice A n c, a.v] w fun e w' => (∃ A' n' c' l', e = .returned (.slice A' n' c') ∧ n' ≤ c' ∧ Rd w' w'.heap.size 2 A' n' (cellsOf Arc.cells l') ∧ InsR l a l') ∧ Below w.heap.size w w' := by
  obtain ⟨ae, at_⟩ := a
  have H := Lib.hid h
  have HL := Lib.hid (h.len Arc.cells_len (by decide))
  have HN0 := Lib.hid (Blk.new w 23 #[.int .i64 ae, .int .i64 at_])
  have HB0 := Lib.hid ((Below.refl w.heap.size w).alloc (Nat.le_refl _) (.cells #[.int .i64 ae, .int .i64 at_] 23))
  clear h
  go_enter Try.func35, Try.ntmps35
  go_wp2
  go_loopw [5] (fun vi wr => ∃ (i : Nat), i ≤ n ∧ vi = .int .i64 i ∧ Hid ((∀ j x, j < i → l[j]? = some x → lessB x ⟨ae, at_⟩ = true) ∧ Blk wr w.heap.size 23 #[.int .i64 ae, .int .i64 at_] ∧ Below w.heap.size w wr)) (fun vi _ => n - (intOf vi).toNat)
  case atStart => exact ⟨0, Nat.zero_le _, rfl, Lib.hid ⟨fun j x hj => by omega, HN0.out, HB0.out⟩⟩
  case round =>
    obtain ⟨i, hi, rfl, HW⟩ := hrel
    have hNc := HW.out.2.1.cell
    have hNl := HW.out.2.1.lt
    have HRW := Lib.hid (H.out.keep (w' := wr) (fun p hp => HW.out.2.2.cell (by omega)))
    by_cases hlt : i < n
    · obtain ⟨b2, o2, x, rfl, hb2, hx, c0, d0⟩ := HRW.out.arc hlt
      obtain ⟨xe, xt⟩ := x
      dsimp only at c0 d0
      have HX := Lib.hid hx
      have hb2l : b2 < wr.heap.size := by have := HW.out.2.2.size; omega
      obtain ⟨q, hq⟩ : ∃ q, lessB ⟨xe, xt⟩ ⟨ae, at_⟩ = q := ⟨_, rfl⟩
      have HQ := Lib.hid hq
      clear hq hx
      go_wp2_with (first | ((with_reducible show wpPlan _ _ _ _ _ (Act.put _ _ _) _); simp only [List.getElem_toArray, List.getElem_cons_succ, List.getElem_cons_zero, Act.put, List.setIfInBounds_toArray, List.set_cons_zero, List.set_cons_succ]) | ((with_reducible show wpPlan _ _ _ _ _ _ _); first | refine wpPlan_nil ?_ | (refine wpPlan_read0 rfl ?hw rfl (fun _ _ _ => ?_); case hw => ((conv => (lhs; whnf)); first | done | with_reducible rfl)) | (refine wpPlan_read1d rfl ?hw rfl rfl (fun _ _ _ => ?_); case hw => ((conv => (lhs; whnf)); first | done | with_reducible rfl)) | (refine wpPlan_eff rfl ?hw (fun _ _ => ?_); case hw => ((conv => (lhs; whnf)); first | done | with_reducible rfl)) | (refine wpPlan_skip0 rfl ?hw ?_; case hw => ((conv => (lhs; whnf)); first | done | with_reducible rfl)) | (refine wpPlan_skip1d rfl ?hw ?_; case hw => ((conv => (lhs; whnf)); first | done | with_reducible rfl)) | (refine wpPlan_skip2 rfl ?hw ?_; case hw => ((conv => (lhs; whnf)); first | done | with_reducible rfl)) | (refine wpPlan_read1 rfl ?hw rfl (fun _ _ _ => ?_); case hw => ((conv => (lhs; whnf)); first | done | with_reducible rfl)) | refine wpPlan_fork ?_ ?_) | ((with_reducible show Owed _ _ _ _ _ _ _ _ _); first | refine Owed.none_ ?_ | refine Owed.nil_ ?_ | refine Owed.miss rfl ?_ | refine Owed.hit ?_ ?_) | ((with_reducible show Same _ _ _ _ _); intro _; go_simp; done) | (with_reducible exact True.intro) | ((with_reducible show Code.wp _ (Code.region 2 _ true) _ _ _); refine wp_region_plan [(0, 0, []), (1, 0, []), (2, 1, []), (3, 1, []), (4, 0, []), (5, 0, []), (6, 0, []), (7, 1, []), (8, 1, []), (9, 1, []), (10, 2, []), (11, 0, [])] (by kernel_rfl) (by kernel_rfl) (by kernel_rfl) ?_) | ((with_reducible show Code.wp _ (Code.region 4 _ true) _ _ _); refine wp_region_plan [(0, 0, []), (1, 0, []), (2, 1, []), (3, 1, []), (4, 0, []), (5, 0, []), (6, 0, []), (7, 1, []), (8, 1, []), (9, 1, []), (10, 1, []), (11, 0, [])] (by kernel_rfl) (by kernel_rfl) (by kernel_rfl) ?_))
      refine (less_any ⟨xe, xt⟩ ⟨ae, at_⟩ _).mono ?_
      rw [HQ.out]
      rintro e w3 ⟨rfl, hb3⟩
      have hbb3 : Below wr.heap.size wr w3 := ((Below.refl wr.heap.size wr).drew).trans hb3
      have HB3 := Lib.hid (HW.out.2.2.trans (hbb3.mono HW.out.2.2.size))
      have HN3 := Lib.hid (HW.out.2.1.below hbb3 HW.out.2.1.lt)
      cases q
      · clear hb3 hbb3 c0 d0 hNc hNl
        have hNc := HN3.out.cell
        have hNl := HN3.out.lt
        have HR3 := Lib.hid (H.out.keep (w' := w3) (fun p hp => HB3.out.cell (by omega)))
        obtain ⟨b4, o4, x4, hab, hb4, hx4, c4, d4⟩ := HR3.out.arc hlt
        obtain ⟨rfl, rfl⟩ : b2 = b4 ∧ o2 = o4 := by simpa using hab
        obtain rfl : (⟨xe, xt⟩ : Arc) = x4 := by
          rw [HX.out] at hx4
          injection hx4
        dsimp only at c4 d4
        have hb4l : b2 < w3.heap.size := by have := HB3.out.size; omega
        clear hab hx4
        by_cases heq : xe = ae ∧ xt = at_
        · obtain ⟨rfl, rfl⟩ := heq
          go_wp2_with (first | ((with_reducible show wpPlan _ _ _ _ _ (Act.put _ _ _) _); simp only [List.getElem_toArray, List.getElem_cons_succ, List.getElem_cons_zero, Act.put, List.setIfInBounds_toArray, List.set_cons_zero, List.set_cons_succ]) | ((with_reducible show wpPlan _ _ _ _ _ _ _); first | refine wpPlan_nil ?_ | (refine wpPlan_read0 rfl ?hw rfl (fun _ _ _ => ?_); case hw => ((conv => (lhs; whnf)); first | done | with_reducible rfl)) | (refine wpPlan_read1d rfl ?hw rfl rfl (fun _ _ _ => ?_); case hw => ((conv => (lhs; whnf)); first | done | with_reducible rfl)) | (refine wpPlan_eff rfl ?hw (fun _ _ => ?_); case hw => ((conv => (lhs; whnf)); first | done | with_reducible rfl)) | (refine wpPlan_skip0 rfl ?hw ?_; case hw => ((conv => (lhs; whnf)); first | done | with_reducible rfl)) | (refine wpPlan_skip1d rfl ?hw ?_; case hw => ((conv => (lhs; whnf)); first | done | with_reducible rfl)) | (refine wpPlan_skip2 rfl ?hw ?_; case hw => ((conv => (lhs; whnf)); first | done | with_reducible rfl)) | (refine wpPlan_read1 rfl ?hw rfl (fun _ _ _ => ?_); case hw => ((conv => (lhs; whnf)); first | done | with_reducible rfl)) | refine wpPlan_fork ?_ ?_) | ((with_reducible show Owed _ _ _ _ _ _ _ _ _); first | refine Owed.none_ ?_ | refine Owed.nil_ ?_ | refine Owed.miss rfl ?_ | refine Owed.hit ?_ ?_) | ((with_reducible show Same _ _ _ _ _); intro _; go_simp; done) | (with_reducible exact True.intro) | ((with_reducible show Code.wp _ (Code.region 2 _ true) _ _ _); refine wp_region_plan [(0, 0, []), (1, 0, []), (2, 1, []), (3, 1, []), (4, 0, []), (5, 0, []), (6, 0, []), (7, 1, []), (8, 1, []), (9, 1, []), (10, 2, []), (11, 0, [])] (by kernel_rfl) (by kernel_rfl) (by kernel_rfl) ?_) | ((with_reducible show Code.wp _ (Code.region 4 _ true) _ _ _); refine wp_region_plan [(0, 0, []), (1, 0, []), (2, 1, []), (3, 1, []), (4, 0, []), (5, 0, []), (6, 0, []), (7, 1, []), (8, 1, []), (9, 1, []), (10, 1, []), (11, 0, [])] (by kernel_rfl) (by kernel_rfl) (by kernel_rfl) ?_))
          go_ret
          refine ⟨⟨_, _, _, l, rfl, hc, HR3.out.more (Nat.le_trans hB HB3.out.size), i, by rw [HL.out]; exact hi, HW.out.1, fun y hy => ?_, .inl ⟨rfl, HX.out⟩⟩, HB3.out.drew⟩
          rw [HX.out] at hy
          cases hy
          exact HQ.out
        · have hne : l[i]? ≠ some ⟨ae, at_⟩ := fun h => by
            rw [HX.out] at h
            injection h with h
            injection h with h1 h2
            exact heq ⟨h1, h2⟩
          have hcase : (xe == ae) = false ∨ (xe = ae ∧ (xt == at_) = false) := by
            by_cases h1 : xe = ae
            · exact .inr ⟨h1, beq_eq_false_iff_ne.2 fun h2 => heq ⟨h1, h2⟩⟩
            · exact .inl (beq_eq_false_iff_ne.2 h1)
          have HNE := Lib.hid (show InsR l ⟨ae, at_⟩ (l.take i ++ ⟨ae, at_⟩ :: l.drop i) from ⟨i, by rw [HL.out]; exact hi, HW.out.1, fun y hy => by rw [HX.out] at hy; cases hy; exact HQ.out, .inr ⟨rfl, hne⟩⟩)
          have hown : ((w3.alloc (Obj.cells #[] 23)).drew).ownsRow 0 23 2 (.slice (some ⟨w3.heap.size, 0, none⟩) 0 0) 0 [] :=
            ⟨rfl, .inr ⟨w3.heap.size, 0, #[], rfl, Nat.zero_le _, heap_alloc_new w3 _, Nat.le_refl _, by simp [maxLen], rfl, rfl⟩⟩
          have HOW := Lib.hid hown
          have HRT := Lib.hid (HR3.out.arcTake hi)
          clear hown heq hne
          have HW3 := Lib.hid (Nat.le_trans hB HB3.out.size)
          have hB3 : B ≤ w3.heap.size := HW3.out
          rcases hcase with hx1 | ⟨rfl, hx1⟩
          · skip
            go_wp2_with (first | ((with_reducible show wpPlan _ _ _ _ _ (Act.put _ _ _) _); simp only [List.getElem_toArray, List.getElem_cons_succ, List.getElem_cons_zero, Act.put, List.setIfInBounds_toArray, List.set_cons_zero, List.set_cons_succ]) | ((with_reducible show wpPlan _ _ _ _ _ _ _); first | refine wpPlan_nil ?_ | (refine wpPlan_read0 rfl ?hw rfl (fun _ _ _ => ?_); case hw => ((conv => (lhs; whnf)); first | done | with_reducible rfl)) | (refine wpPlan_read1d rfl ?hw rfl rfl (fun _ _ _ => ?_); case hw => ((conv => (lhs; whnf)); first | done | with_reducible rfl)) | (refine wpPlan_eff rfl ?hw (fun _ _ => ?_); case hw => ((conv => (lhs; whnf)); first | done | with_reducible rfl)) | (refine wpPlan_skip0 rfl ?hw ?_; case hw => ((conv => (lhs; whnf)); first | done | with_reducible rfl)) | (refine wpPlan_skip1d rfl ?hw ?_; case hw => ((conv => (lhs; whnf)); first | done | with_reducible rfl)) | (refine wpPlan_skip2 rfl ?hw ?_; case hw => ((conv => (lhs; whnf)); first | done | with_reducible rfl)) | (refine wpPlan_read1 rfl ?hw rfl (fun _ _ _ => ?_); case hw => ((conv => (lhs; whnf)); first | done | with_reducible rfl)) | refine wpPlan_fork ?_ ?_) | ((with_reducible show Owed _ _ _ _ _ _ _ _ _); first | refine Owed.none_ ?_ | refine Owed.nil_ ?_ | refine Owed.miss rfl ?_ | refine Owed.hit ?_ ?_) | ((with_reducible show Same _ _ _ _ _); intro _; go_simp; done) | (with_reducible exact True.intro) | ((with_reducible show Code.wp _ (Code.region 2 _ true) _ _ _); refine wp_region_plan [(0, 0, []), (1, 0, []), (2, 1, []), (3, 1, []), (4, 0, []), (5, 0, []), (6, 0, []), (7, 1, []), (8, 1, []), (9, 1, []), (10, 2, []), (11, 0, [])] (by kernel_rfl) (by kernel_rfl) (by kernel_rfl) ?_) | ((with_reducible show Code.wp _ (Code.region 4 _ true) _ _ _); refine wp_region_plan [(0, 0, []), (1, 0, []), (2, 1, []), (3, 1, []), (4, 0, []), (5, 0, []), (6, 0, []), (7, 1, []), (8, 1, []), (9, 1, []), (10, 1, []), (11, 0, [])] (by kernel_rfl) (by kernel_rfl) (by kernel_rfl) ?_) | (at_builtin; refine appList_opt rfl slArc rfl HOW.out rfl ((HRT.out.alloc HW3.out (Obj.cells #[] 23)).drewN 1) (c := c) rfl (arc_ones _) (by unfold maxLen; omega) (by omega) ?_; intro v7 w7 hown7 hgrow7 hat7; refine Stop7.intro ?_))
            unfold Stop7
            rw [Nat.zero_add, List.nil_append] at hown7
            have hg3 : ((w3.alloc (Obj.cells #[] 23)).drew).grownBy w7 (some w3.heap.size) := hgrow7
            have hb7 : Below w.heap.size w w7 := ((HB3.out.alloc HB3.out.size (Obj.cells #[] 23)).drew).grown hg3 (Nat.le_trans HB3.out.size (by simp)) (fun z hz => by have := HB3.out.size; simp at hz; omega)
            have hN7 : Blk w7 w.heap.size 23 #[.int .i64 ae, .int .i64 at_] := ((HN3.out.alloc (Obj.cells #[] 23)).drew).grown hg3 (fun e => by have := HN3.out.lt; simp at e; omega)
            have hv7 : ∀ z, v7.ownBlock = some z → w3.heap.size ≤ z := fun z hz => by
              rcases hat7 with h | h
              · have h1 : some w3.heap.size = some z := h.symm.trans hz
                simp at h1; omega
              · have h1 := h.symm.trans hz
                simp at h1; omega
            have HO7 := Lib.hid hown7
            have HB7 := Lib.hid hb7
            have HV7 := Lib.hid hv7
            have h7c := hN7.cell
            have h7l := hN7.lt
            have hsz3 := HB3.out.size
            have HS3 := Lib.hid hsz3
            obtain ⟨A7, c7, rfl, _, _⟩ := own_form hown7
            clear hown7 hgrow7 hat7 hg3 hb7 hv7 hNc hNl c4 d4 hb4l hx1 hsz3
            go_wp2_with (first | ((with_reducible show wpPlan _ _ _ _ _ (Act.put _ _ _) _); simp only [List.getElem_toArray, List.getElem_cons_succ, List.getElem_cons_zero, Act.put, List.setIfInBounds_toArray, List.set_cons_zero, List.set_cons_succ]) | ((with_reducible show wpPlan _ _ _ _ _ _ _); first | refine wpPlan_nil ?_ | (refine wpPlan_read0 rfl ?hw rfl (fun _ _ _ => ?_); case hw => ((conv => (lhs; whnf)); first | done | with_reducible rfl)) | (refine wpPlan_read1d rfl ?hw rfl rfl (fun _ _ _ => ?_); case hw => ((conv => (lhs; whnf)); first | done | with_reducible rfl)) | (refine wpPlan_eff rfl ?hw (fun _ _ => ?_); case hw => ((conv => (lhs; whnf)); first | done | with_reducible rfl)) | (refine wpPlan_skip0 rfl ?hw ?_; case hw => ((conv => (lhs; whnf)); first | done | with_reducible rfl)) | (refine wpPlan_skip1d rfl ?hw ?_; case hw => ((conv => (lhs; whnf)); first | done | with_reducible rfl)) | (refine wpPlan_skip2 rfl ?hw ?_; case hw => ((conv => (lhs; whnf)); first | done | with_reducible rfl)) | (refine wpPlan_read1 rfl ?hw rfl (fun _ _ _ => ?_); case hw => ((conv => (lhs; whnf)); first | done | with_reducible rfl)) | refine wpPlan_fork ?_ ?_) | ((with_reducible show Owed _ _ _ _ _ _ _ _ _); first | refine Owed.none_ ?_ | refine Owed.nil_ ?_ | refine Owed.miss rfl ?_ | refine Owed.hit ?_ ?_) | ((with_reducible show Same _ _ _ _ _); intro _; go_simp; done) | (with_reducible exact True.intro) | ((with_reducible show Code.wp _ (Code.region 2 _ true) _ _ _); refine wp_region_plan [(0, 0, []), (1, 0, []), (2, 1, []), (3, 1, []), (4, 0, []), (5, 0, []), (6, 0, []), (7, 1, []), (8, 1, []), (9, 1, []), (10, 2, []), (11, 0, [])] (by kernel_rfl) (by kernel_rfl) (by kernel_rfl) ?_) | ((with_reducible show Code.wp _ (Code.region 4 _ true) _ _ _); refine wp_region_plan [(0, 0, []), (1, 0, []), (2, 1, []), (3, 1, []), (4, 0, []), (5, 0, []), (6, 0, []), (7, 1, []), (8, 1, []), (9, 1, []), (10, 1, []), (11, 0, [])] (by kernel_rfl) (by kernel_rfl) (by kernel_rfl) ?_) | (at_builtin; refine appList_blk rfl slArc rfl (World.ownsRow.alloc HO7.out _) rfl (news := [.int .i64 ae, .int .i64 at_]) ((heap_alloc_at rfl) : Blk _ w7.heap.size _ _) rfl rfl (by simp [Value.oneCell']) (by decide) (by unfold maxLen; omega) (by omega) ?_; intro g8 cap8 w8 hown8 hgrow8 hat8; refine Stop7.intro ?_))
            unfold Stop7
            have hb8 : Below w.heap.size w w8 := (HB7.out.alloc HB7.out.size _).grown hgrow8 (Nat.le_trans HB7.out.size (by simp)) (fun z hz => by have := HV7.out z hz; have := HS3.out; omega)
            have HO8 := Lib.hid hown8
            have HB8 := Lib.hid hb8
            have hg8 : w.heap.size ≤ g8 := by
              rcases hat8 with h | h
              · have := HV7.out g8 h
                have := HS3.out
                omega
              · have := HB7.out.size
                simp at h
                omega
            have HG8 := Lib.hid hg8
            clear hown8 hgrow8 hat8 hb8 hg8 h7c h7l hN7
            have hci : ¬ c - i = 0 := by omega
            have hci2 : ¬ c = i := by omega
            have HRD := Lib.hid ((H.out.arcDrop hi).keep (w' := w8) (fun p hp => HB8.out.cell (by omega)))
            go_wp2_with (first | ((with_reducible show wpPlan _ _ _ _ _ (Act.put _ _ _) _); simp only [List.getElem_toArray, List.getElem_cons_succ, List.getElem_cons_zero, Act.put, List.setIfInBounds_toArray, List.set_cons_zero, List.set_cons_succ]) | ((with_reducible show wpPlan _ _ _ _ _ _ _); first | refine wpPlan_nil ?_ | (refine wpPlan_read0 rfl ?hw rfl (fun _ _ _ => ?_); case hw => ((conv => (lhs; whnf)); first | done | with_reducible rfl)) | (refine wpPlan_read1d rfl ?hw rfl rfl (fun _ _ _ => ?_); case hw => ((conv => (lhs; whnf)); first | done | with_reducible rfl)) | (refine wpPlan_eff rfl ?hw (fun _ _ => ?_); case hw => ((conv => (lhs; whnf)); first | done | with_reducible rfl)) | (refine wpPlan_skip0 rfl ?hw ?_; case hw => ((conv => (lhs; whnf)); first | done | with_reducible rfl)) | (refine wpPlan_skip1d rfl ?hw ?_; case hw => ((conv => (lhs; whnf)); first | done | with_reducible rfl)) | (refine wpPlan_skip2 rfl ?hw ?_; case hw => ((conv => (lhs; whnf)); first | done | with_reducible rfl)) | (refine wpPlan_read1 rfl ?hw rfl (fun _ _ _ => ?_); case hw => ((conv => (lhs; whnf)); first | done | with_reducible rfl)) | refine wpPlan_fork ?_ ?_) | ((with_reducible show Owed _ _ _ _ _ _ _ _ _); first | refine Owed.none_ ?_ | refine Owed.nil_ ?_ | refine Owed.miss rfl ?_ | refine Owed.hit ?_ ?_) | ((with_reducible show Same _ _ _ _ _); intro _; go_simp; done) | (with_reducible exact True.intro) | ((with_reducible show Code.wp _ (Code.region 2 _ true) _ _ _); refine wp_region_plan [(0, 0, []), (1, 0, []), (2, 1, []), (3, 1, []), (4, 0, []), (5, 0, []), (6, 0, []), (7, 1, []), (8, 1, []), (9, 1, []), (10, 2, []), (11, 0, [])] (by kernel_rfl) (by kernel_rfl) (by kernel_rfl) ?_) | ((with_reducible show Code.wp _ (Code.region 4 _ true) _ _ _); refine wp_region_plan [(0, 0, []), (1, 0, []), (2, 1, []), (3, 1, []), (4, 0, []), (5, 0, []), (6, 0, []), (7, 1, []), (8, 1, []), (9, 1, []), (10, 1, []), (11, 0, [])] (by kernel_rfl) (by kernel_rfl) (by kernel_rfl) ?_) | (at_builtin; refine appList_opt rfl slArc rfl HO8.out rfl HRD.out (c := c - i) rfl (arc_ones _) (by unfold maxLen; omega) (by omega) ?_; intro v9 w9 hown9 hgrow9 hat9; refine Stop7.intro ?_))
            unfold Stop7
            have hb9 : Below w.heap.size w w9 := HB8.out.grown hgrow9 HB8.out.size (fun z hz => by
              have h1 : g8 = z := by simpa [Value.ownBlock] using hz
              have := HG8.out
              omega)
            obtain ⟨A9, c9, rfl, hc9, _⟩ := own_form hown9
            have hR9 := Rd.ofOwn hown9
            rw [show (cellsOf Arc.cells (l.take i) ++ [Value.int .i64 ae, Value.int .i64 at_]) ++ cellsOf Arc.cells (l.drop i) = cellsOf Arc.cells (l.take i ++ ⟨ae, at_⟩ :: l.drop i) by
              rw [cellsOf_append, List.append_assoc]
              rfl] at hR9
            have HF := Lib.hid (And.intro hc9 (And.intro hR9 hb9))
            clear hown9 hgrow9 hat9 hb9 hR9
            go_wp2_with fail
            go_ret
            exact ⟨⟨_, _, _, _, rfl, HF.out.1, HF.out.2.1, HNE.out⟩, HF.out.2.2⟩
          · skip
            go_wp2_with (first | ((with_reducible show wpPlan _ _ _ _ _ (Act.put _ _ _) _); simp only [List.getElem_toArray, List.getElem_cons_succ, List.getElem_cons_zero, Act.put, List.setIfInBounds_toArray, List.set_cons_zero, List.set_cons_succ]) | ((with_reducible show wpPlan _ _ _ _ _ _ _); first | refine wpPlan_nil ?_ | (refine wpPlan_read0 rfl ?hw rfl (fun _ _ _ => ?_); case hw => ((conv => (lhs; whnf)); first | done | with_reducible rfl)) | (refine wpPlan_read1d rfl ?hw rfl rfl (fun _ _ _ => ?_); case hw => ((conv => (lhs; whnf)); first | done | with_reducible rfl)) | (refine wpPlan_eff rfl ?hw (fun _ _ => ?_); case hw => ((conv => (lhs; whnf)); first | done | with_reducible rfl)) | (refine wpPlan_skip0 rfl ?hw ?_; case hw => ((conv => (lhs; whnf)); first | done | with_reducible rfl)) | (refine wpPlan_skip1d rfl ?hw ?_; case hw => ((conv => (lhs; whnf)); first | done | with_reducible rfl)) | (refine wpPlan_skip2 rfl ?hw ?_; case hw => ((conv => (lhs; whnf)); first | done | with_reducible rfl)) | (refine wpPlan_read1 rfl ?hw rfl (fun _ _ _ => ?_); case hw => ((conv => (lhs; whnf)); first | done | with_reducible rfl)) | refine wpPlan_fork ?_ ?_) | ((with_reducible show Owed _ _ _ _ _ _ _ _ _); first | refine Owed.none_ ?_ | refine Owed.nil_ ?_ | refine Owed.miss rfl ?_ | refine Owed.hit ?_ ?_) | ((with_reducible show Same _ _ _ _ _); intro _; go_simp; done) | (with_reducible exact True.intro) | ((with_reducible show Code.wp _ (Code.region 2 _ true) _ _ _); refine wp_region_plan [(0, 0, []), (1, 0, []), (2, 1, []), (3, 1, []), (4, 0, []), (5, 0, []), (6, 0, []), (7, 1, []), (8, 1, []), (9, 1, []), (10, 2, []), (11, 0, [])] (by kernel_rfl) (by kernel_rfl) (by kernel_rfl) ?_) | ((with_reducible show Code.wp _ (Code.region 4 _ true) _ _ _); refine wp_region_plan [(0, 0, []), (1, 0, []), (2, 1, []), (3, 1, []), (4, 0, []), (5, 0, []), (6, 0, []), (7, 1, []), (8, 1, []), (9, 1, []), (10, 1, []), (11, 0, [])] (by kernel_rfl) (by kernel_rfl) (by kernel_rfl) ?_) | (at_builtin; refine appList_opt rfl slArc rfl HOW.out rfl ((HRT.out.alloc HW3.out (Obj.cells #[] 23)).drewN 1) (c := c) rfl (arc_ones _) (by unfold maxLen; omega) (by omega) ?_; intro v7 w7 hown7 hgrow7 hat7; refine Stop7.intro ?_))
            unfold Stop7
            rw [Nat.zero_add, List.nil_append] at hown7
            have hg3 : ((w3.alloc (Obj.cells #[] 23)).drew).grownBy w7 (some w3.heap.size) := hgrow7
            have hb7 : Below w.heap.size w w7 := ((HB3.out.alloc HB3.out.size (Obj.cells #[] 23)).drew).grown hg3 (Nat.le_trans HB3.out.size (by simp)) (fun z hz => by have := HB3.out.size; simp at hz; omega)
            have hN7 : Blk w7 w.heap.size 23 #[.int .i64 xe, .int .i64 at_] := ((HN3.out.alloc (Obj.cells #[] 23)).drew).grown hg3 (fun e => by have := HN3.out.lt; simp at e; omega)
            have hv7 : ∀ z, v7.ownBlock = some z → w3.heap.size ≤ z := fun z hz => by
              rcases hat7 with h | h
              · have h1 : some w3.heap.size = some z := h.symm.trans hz
                simp at h1; omega
              · have h1 := h.symm.trans hz
                simp at h1; omega
            have HO7 := Lib.hid hown7
            have HB7 := Lib.hid hb7
            have HV7 := Lib.hid hv7
            have h7c := hN7.cell
            have h7l := hN7.lt
            have hsz3 := HB3.out.size
            have HS3 := Lib.hid hsz3
            obtain ⟨A7, c7, rfl, _, _⟩ := own_form hown7
            clear hown7 hgrow7 hat7 hg3 hb7 hv7 hNc hNl c4 d4 hb4l hx1 hsz3
            go_wp2_with (first | ((with_reducible show wpPlan _ _ _ _ _ (Act.put _ _ _) _); simp only [List.getElem_toArray, List.getElem_cons_succ, List.getElem_cons_zero, Act.put, List.setIfInBounds_toArray, List.set_cons_zero, List.set_cons_succ]) | ((with_reducible show wpPlan _ _ _ _ _ _ _); first | refine wpPlan_nil ?_ | (refine wpPlan_read0 rfl ?hw rfl (fun _ _ _ => ?_); case hw => ((conv => (lhs; whnf)); first | done | with_reducible rfl)) | (refine wpPlan_read1d rfl ?hw rfl rfl (fun _ _ _ => ?_); case hw => ((conv => (lhs; whnf)); first | done | with_reducible rfl)) | (refine wpPlan_eff rfl ?hw (fun _ _ => ?_); case hw => ((conv => (lhs; whnf)); first | done | with_reducible rfl)) | (refine wpPlan_skip0 rfl ?hw ?_; case hw => ((conv => (lhs; whnf)); first | done | with_reducible rfl)) | (refine wpPlan_skip1d rfl ?hw ?_; case hw => ((conv => (lhs; whnf)); first | done | with_reducible rfl)) | (refine wpPlan_skip2 rfl ?hw ?_; case hw => ((conv => (lhs; whnf)); first | done | with_reducible rfl)) | (refine wpPlan_read1 rfl ?hw rfl (fun _ _ _ => ?_); case hw => ((conv => (lhs; whnf)); first | done | with_reducible rfl)) | refine wpPlan_fork ?_ ?_) | ((with_reducible show Owed _ _ _ _ _ _ _ _ _); first | refine Owed.none_ ?_ | refine Owed.nil_ ?_ | refine Owed.miss rfl ?_ | refine Owed.hit ?_ ?_) | ((with_reducible show Same _ _ _ _ _); intro _; go_simp; done) | (with_reducible exact True.intro) | ((with_reducible show Code.wp _ (Code.region 2 _ true) _ _ _); refine wp_region_plan [(0, 0, []), (1, 0, []), (2, 1, []), (3, 1, []), (4, 0, []), (5, 0, []), (6, 0, []), (7, 1, []), (8, 1, []), (9, 1, []), (10, 2, []), (11, 0, [])] (by kernel_rfl) (by kernel_rfl) (by kernel_rfl) ?_) | ((with_reducible show Code.wp _ (Code.region 4 _ true) _ _ _); refine wp_region_plan [(0, 0, []), (1, 0, []), (2, 1, []), (3, 1, []), (4, 0, []), (5, 0, []), (6, 0, []), (7, 1, []), (8, 1, []), (9, 1, []), (10, 1, []), (11, 0, [])] (by kernel_rfl) (by kernel_rfl) (by kernel_rfl) ?_) | (at_builtin; refine appList_blk rfl slArc rfl (World.ownsRow.alloc HO7.out _) rfl (news := [.int .i64 xe, .int .i64 at_]) ((heap_alloc_at rfl) : Blk _ w7.heap.size _ _) rfl rfl (by simp [Value.oneCell']) (by decide) (by unfold maxLen; omega) (by omega) ?_; intro g8 cap8 w8 hown8 hgrow8 hat8; refine Stop7.intro ?_))
            unfold Stop7
            have hb8 : Below w.heap.size w w8 := (HB7.out.alloc HB7.out.size _).grown hgrow8 (Nat.le_trans HB7.out.size (by simp)) (fun z hz => by have := HV7.out z hz; have := HS3.out; omega)
            have HO8 := Lib.hid hown8
            have HB8 := Lib.hid hb8
            have hg8 : w.heap.size ≤ g8 := by
              rcases hat8 with h | h
              · have := HV7.out g8 h
                have := HS3.out
                omega
              · have := HB7.out.size
                simp at h
                omega
            have HG8 := Lib.hid hg8
            clear hown8 hgrow8 hat8 hb8 hg8 h7c h7l hN7
            have hci : ¬ c - i = 0 := by omega
            have hci2 : ¬ c = i := by omega
            have HRD := Lib.hid ((H.out.arcDrop hi).keep (w' := w8) (fun p hp => HB8.out.cell (by omega)))
            go_wp2_with (first | ((with_reducible show wpPlan _ _ _ _ _ (Act.put _ _ _) _); simp only [List.getElem_toArray, List.getElem_cons_succ, List.getElem_cons_zero, Act.put, List.setIfInBounds_toArray, List.set_cons_zero, List.set_cons_succ]) | ((with_reducible show wpPlan _ _ _ _ _ _ _); first | refine wpPlan_nil ?_ | (refine wpPlan_read0 rfl ?hw rfl (fun _ _ _ => ?_); case hw => ((conv => (lhs; whnf)); first | done | with_reducible rfl)) | (refine wpPlan_read1d rfl ?hw rfl rfl (fun _ _ _ => ?_); case hw => ((conv => (lhs; whnf)); first | done | with_reducible rfl)) | (refine wpPlan_eff rfl ?hw (fun _ _ => ?_); case hw => ((conv => (lhs; whnf)); first | done | with_reducible rfl)) | (refine wpPlan_skip0 rfl ?hw ?_; case hw => ((conv => (lhs; whnf)); first | done | with_reducible rfl)) | (refine wpPlan_skip1d rfl ?hw ?_; case hw => ((conv => (lhs; whnf)); first | done | with_reducible rfl)) | (refine wpPlan_skip2 rfl ?hw ?_; case hw => ((conv => (lhs; whnf)); first | done | with_reducible rfl)) | (refine wpPlan_read1 rfl ?hw rfl (fun _ _ _ => ?_); case hw => ((conv => (lhs; whnf)); first | done | with_reducible rfl)) | refine wpPlan_fork ?_ ?_) | ((with_reducible show Owed _ _ _ _ _ _ _ _ _); first | refine Owed.none_ ?_ | refine Owed.nil_ ?_ | refine Owed.miss rfl ?_ | refine Owed.hit ?_ ?_) | ((with_reducible show Same _ _ _ _ _); intro _; go_simp; done) | (with_reducible exact True.intro) | ((with_reducible show Code.wp _ (Code.region 2 _ true) _ _ _); refine wp_region_plan [(0, 0, []), (1, 0, []), (2, 1, []), (3, 1, []), (4, 0, []), (5, 0, []), (6, 0, []), (7, 1, []), (8, 1, []), (9, 1, []), (10, 2, []), (11, 0, [])] (by kernel_rfl) (by kernel_rfl) (by kernel_rfl) ?_) | ((with_reducible show Code.wp _ (Code.region 4 _ true) _ _ _); refine wp_region_plan [(0, 0, []), (1, 0, []), (2, 1, []), (3, 1, []), (4, 0, []), (5, 0, []), (6, 0, []), (7, 1, []), (8, 1, []), (9, 1, []), (10, 1, []), (11, 0, [])] (by kernel_rfl) (by kernel_rfl) (by kernel_rfl) ?_) | (at_builtin; refine appList_opt rfl slArc rfl HO8.out rfl HRD.out (c := c - i) rfl (arc_ones _) (by unfold maxLen; omega) (by omega) ?_; intro v9 w9 hown9 hgrow9 hat9; refine Stop7.intro ?_))
            unfold Stop7
            have hb9 : Below w.heap.size w w9 := HB8.out.grown hgrow9 HB8.out.size (fun z hz => by
              have h1 : g8 = z := by simpa [Value.ownBlock] using hz
              have := HG8.out
              omega)
            obtain ⟨A9, c9, rfl, hc9, _⟩ := own_form hown9
            have hR9 := Rd.ofOwn hown9
            rw [show (cellsOf Arc.cells (l.take i) ++ [Value.int .i64 xe, Value.int .i64 at_]) ++ cellsOf Arc.cells (l.drop i) = cellsOf Arc.cells (l.take i ++ ⟨xe, at_⟩ :: l.drop i) by
              rw [cellsOf_append, List.append_assoc]
              rfl] at hR9
            have HF := Lib.hid (And.intro hc9 (And.intro hR9 hb9))
            clear hown9 hgrow9 hat9 hb9 hR9
            go_wp2_with fail
            go_ret
            exact ⟨⟨_, _, _, _, rfl, HF.out.1, HF.out.2.1, HNE.out⟩, HF.out.2.2⟩
      · have HF := Lib.hid (show ∀ j x, j < i + 1 → l[j]? = some x → lessB x ⟨ae, at_⟩ = true from fun j y hj hy => by
          by_cases h1 : j < i
          · exact HW.out.1 j y h1 hy
          · obtain rfl : j = i := by omega
            rw [HX.out] at hy
            cases hy
            exact HQ.out)
        clear hb3 hbb3 c0 d0 hNc hNl
        go_wp2_with (first | ((with_reducible show wpPlan _ _ _ _ _ (Act.put _ _ _) _); simp only [List.getElem_toArray, List.getElem_cons_succ, List.getElem_cons_zero, Act.put, List.setIfInBounds_toArray, List.set_cons_zero, List.set_cons_succ]) | ((with_reducible show wpPlan _ _ _ _ _ _ _); first | refine wpPlan_nil ?_ | (refine wpPlan_read0 rfl ?hw rfl (fun _ _ _ => ?_); case hw => ((conv => (lhs; whnf)); first | done | with_reducible rfl)) | (refine wpPlan_read1d rfl ?hw rfl rfl (fun _ _ _ => ?_); case hw => ((conv => (lhs; whnf)); first | done | with_reducible rfl)) | (refine wpPlan_eff rfl ?hw (fun _ _ => ?_); case hw => ((conv => (lhs; whnf)); first | done | with_reducible rfl)) | (refine wpPlan_skip0 rfl ?hw ?_; case hw => ((conv => (lhs; whnf)); first | done | with_reducible rfl)) | (refine wpPlan_skip1d rfl ?hw ?_; case hw => ((conv => (lhs; whnf)); first | done | with_reducible rfl)) | (refine wpPlan_skip2 rfl ?hw ?_; case hw => ((conv => (lhs; whnf)); first | done | with_reducible rfl)) | (refine wpPlan_read1 rfl ?hw rfl (fun _ _ _ => ?_); case hw => ((conv => (lhs; whnf)); first | done | with_reducible rfl)) | refine wpPlan_fork ?_ ?_) | ((with_reducible show Owed _ _ _ _ _ _ _ _ _); first | refine Owed.none_ ?_ | refine Owed.nil_ ?_ | refine Owed.miss rfl ?_ | refine Owed.hit ?_ ?_) | ((with_reducible show Same _ _ _ _ _); intro _; go_simp; done) | (with_reducible exact True.intro) | ((with_reducible show Code.wp _ (Code.region 2 _ true) _ _ _); refine wp_region_plan [(0, 0, []), (1, 0, []), (2, 1, []), (3, 1, []), (4, 0, []), (5, 0, []), (6, 0, []), (7, 1, []), (8, 1, []), (9, 1, []), (10, 2, []), (11, 0, [])] (by kernel_rfl) (by kernel_rfl) (by kernel_rfl) ?_) | ((with_reducible show Code.wp _ (Code.region 4 _ true) _ _ _); refine wp_region_plan [(0, 0, []), (1, 0, []), (2, 1, []), (3, 1, []), (4, 0, []), (5, 0, []), (6, 0, []), (7, 1, []), (8, 1, []), (9, 1, []), (10, 1, []), (11, 0, [])] (by kernel_rfl) (by kernel_rfl) (by kernel_rfl) ?_))
        go_roundw
        case rel => exact ⟨i + 1, by omega, by go_num, Lib.hid ⟨HF.out, HN3.out, HB3.out⟩⟩
        case measure => simp [intOf]; omega
    · have hin : i = n := by omega
      subst hin
      have HLD := Lib.hid (show l.drop i = [] from List.drop_eq_nil_of_le (by rw [HL.out]; exact Nat.le_refl _))
      have HLT := Lib.hid (show l.take i = l from List.take_of_length_le (by rw [HL.out]; exact Nat.le_refl _))
      have HNE := Lib.hid (show InsR l ⟨ae, at_⟩ (l.take i ++ ⟨ae, at_⟩ :: l.drop i) from ⟨i, by rw [HL.out]; exact Nat.le_refl _, HW.out.1, (fun y hy => by rw [List.getElem?_eq_none (by rw [HL.out]; exact Nat.le_refl _)] at hy; cases hy), .inr ⟨rfl, by rw [List.getElem?_eq_none (by rw [HL.out]; exact Nat.le_refl _)]; simp⟩⟩)
      have hown : ((wr.alloc (Obj.cells #[] 23)).drew.drew).ownsRow 0 23 2 (.slice (some ⟨wr.heap.size, 0, none⟩) 0 0) 0 [] :=
        ⟨rfl, .inr ⟨wr.heap.size, 0, #[], rfl, Nat.zero_le _, heap_alloc_new wr _, Nat.le_refl _, by simp [maxLen], rfl, rfl⟩⟩
      have HOW := Lib.hid hown
      have HRT := Lib.hid (show Rd wr B 2 A i (cellsOf Arc.cells (l.take i)) by rw [HLT.out]; exact HRW.out)
      have HB3r := Lib.hid HW.out.2.2
      have HN3r := Lib.hid HW.out.2.1
      have HW3r := Lib.hid (Nat.le_trans hB HB3r.out.size)
      clear hown
      have hcase : (A = none ∧ i = 0) ∨ (∃ ad, A = some ad) := by
        cases A with
        | some ad => exact .inr ⟨ad, rfl⟩
        | none =>
          refine .inl ⟨rfl, ?_⟩
          rcases Nat.eq_zero_or_pos i with h | h
          · exact h
          · obtain ⟨_, _, e, _⟩ := H.out.2 h
            cases e
      rcases hcase with ⟨rfl, hi0⟩ | ⟨ad, rfl⟩
      · subst hi0
        go_wp2_with (first | ((with_reducible show wpPlan _ _ _ _ _ (Act.put _ _ _) _); simp only [List.getElem_toArray, List.getElem_cons_succ, List.getElem_cons_zero, Act.put, List.setIfInBounds_toArray, List.set_cons_zero, List.set_cons_succ]) | ((with_reducible show wpPlan _ _ _ _ _ _ _); first | refine wpPlan_nil ?_ | (refine wpPlan_read0 rfl ?hw rfl (fun _ _ _ => ?_); case hw => ((conv => (lhs; whnf)); first | done | with_reducible rfl)) | (refine wpPlan_read1d rfl ?hw rfl rfl (fun _ _ _ => ?_); case hw => ((conv => (lhs; whnf)); first | done | with_reducible rfl)) | (refine wpPlan_eff rfl ?hw (fun _ _ => ?_); case hw => ((conv => (lhs; whnf)); first | done | with_reducible rfl)) | (refine wpPlan_skip0 rfl ?hw ?_; case hw => ((conv => (lhs; whnf)); first | done | with_reducible rfl)) | (refine wpPlan_skip1d rfl ?hw ?_; case hw => ((conv => (lhs; whnf)); first | done | with_reducible rfl)) | (refine wpPlan_skip2 rfl ?hw ?_; case hw => ((conv => (lhs; whnf)); first | done | with_reducible rfl)) | (refine wpPlan_read1 rfl ?hw rfl (fun _ _ _ => ?_); case hw => ((conv => (lhs; whnf)); first | done | with_reducible rfl)) | refine wpPlan_fork ?_ ?_) | ((with_reducible show Owed _ _ _ _ _ _ _ _ _); first | refine Owed.none_ ?_ | refine Owed.nil_ ?_ | refine Owed.miss rfl ?_ | refine Owed.hit ?_ ?_) | ((with_reducible show Same _ _ _ _ _); intro _; go_simp; done) | (with_reducible exact True.intro) | ((with_reducible show Code.wp _ (Code.region 2 _ true) _ _ _); refine wp_region_plan [(0, 0, []), (1, 0, []), (2, 1, []), (3, 1, []), (4, 0, []), (5, 0, []), (6, 0, []), (7, 1, []), (8, 1, []), (9, 1, []), (10, 2, []), (11, 0, [])] (by kernel_rfl) (by kernel_rfl) (by kernel_rfl) ?_) | ((with_reducible show Code.wp _ (Code.region 4 _ true) _ _ _); refine wp_region_plan [(0, 0, []), (1, 0, []), (2, 1, []), (3, 1, []), (4, 0, []), (5, 0, []), (6, 0, []), (7, 1, []), (8, 1, []), (9, 1, []), (10, 1, []), (11, 0, [])] (by kernel_rfl) (by kernel_rfl) (by kernel_rfl) ?_) | (at_builtin; refine appList_opt rfl slArc rfl HOW.out rfl ((HRT.out.alloc HW3r.out (Obj.cells #[] 23)).drewN 2) (c := c) rfl (arc_ones _) (by unfold maxLen; omega) (by omega) ?_; intro v7 w7 hown7 hgrow7 hat7; refine Stop7.intro ?_))
        unfold Stop7
        rw [Nat.zero_add, List.nil_append] at hown7
        have hg3r : ((wr.alloc (Obj.cells #[] 23)).drew.drew).grownBy w7 (some wr.heap.size) := hgrow7
        have hb7 : Below w.heap.size w w7 := ((HB3r.out.alloc HB3r.out.size (Obj.cells #[] 23)).drew.drew).grown hg3r (Nat.le_trans HB3r.out.size (by simp)) (fun z hz => by have := HB3r.out.size; simp at hz; omega)
        have hN7 : Blk w7 w.heap.size 23 #[.int .i64 ae, .int .i64 at_] := ((HN3r.out.alloc (Obj.cells #[] 23)).drew.drew).grown hg3r (fun e => by have := HN3r.out.lt; simp at e; omega)
        have hv7 : ∀ z, v7.ownBlock = some z → wr.heap.size ≤ z := fun z hz => by
          rcases hat7 with h | h
          · have h1 : some wr.heap.size = some z := h.symm.trans hz
            simp at h1; omega
          · have h1 := h.symm.trans hz
            simp at h1; omega
        have HO7 := Lib.hid hown7
        have HB7 := Lib.hid hb7
        have HV7 := Lib.hid hv7
        have h7c := hN7.cell
        have h7l := hN7.lt
        have hsz3r := HB3r.out.size
        have HS3r := Lib.hid hsz3r
        obtain ⟨A7, c7, rfl, _, _⟩ := own_form hown7
        clear hown7 hgrow7 hat7 hg3r hb7 hv7 hNc hNl hsz3r
        go_wp2_with (first | ((with_reducible show wpPlan _ _ _ _ _ (Act.put _ _ _) _); simp only [List.getElem_toArray, List.getElem_cons_succ, List.getElem_cons_zero, Act.put, List.setIfInBounds_toArray, List.set_cons_zero, List.set_cons_succ]) | ((with_reducible show wpPlan _ _ _ _ _ _ _); first | refine wpPlan_nil ?_ | (refine wpPlan_read0 rfl ?hw rfl (fun _ _ _ => ?_); case hw => ((conv => (lhs; whnf)); first | done | with_reducible rfl)) | (refine wpPlan_read1d rfl ?hw rfl rfl (fun _ _ _ => ?_); case hw => ((conv => (lhs; whnf)); first | done | with_reducible rfl)) | (refine wpPlan_eff rfl ?hw (fun _ _ => ?_); case hw => ((conv => (lhs; whnf)); first | done | with_reducible rfl)) | (refine wpPlan_skip0 rfl ?hw ?_; case hw => ((conv => (lhs; whnf)); first | done | with_reducible rfl)) | (refine wpPlan_skip1d rfl ?hw ?_; case hw => ((conv => (lhs; whnf)); first | done | with_reducible rfl)) | (refine wpPlan_skip2 rfl ?hw ?_; case hw => ((conv => (lhs; whnf)); first | done | with_reducible rfl)) | (refine wpPlan_read1 rfl ?hw rfl (fun _ _ _ => ?_); case hw => ((conv => (lhs; whnf)); first | done | with_reducible rfl)) | refine wpPlan_fork ?_ ?_) | ((with_reducible show Owed _ _ _ _ _ _ _ _ _); first | refine Owed.none_ ?_ | refine Owed.nil_ ?_ | refine Owed.miss rfl ?_ | refine Owed.hit ?_ ?_) | ((with_reducible show Same _ _ _ _ _); intro _; go_simp; done) | (with_reducible exact True.intro) | ((with_reducible show Code.wp _ (Code.region 2 _ true) _ _ _); refine wp_region_plan [(0, 0, []), (1, 0, []), (2, 1, []), (3, 1, []), (4, 0, []), (5, 0, []), (6, 0, []), (7, 1, []), (8, 1, []), (9, 1, []), (10, 2, []), (11, 0, [])] (by kernel_rfl) (by kernel_rfl) (by kernel_rfl) ?_) | ((with_reducible show Code.wp _ (Code.region 4 _ true) _ _ _); refine wp_region_plan [(0, 0, []), (1, 0, []), (2, 1, []), (3, 1, []), (4, 0, []), (5, 0, []), (6, 0, []), (7, 1, []), (8, 1, []), (9, 1, []), (10, 1, []), (11, 0, [])] (by kernel_rfl) (by kernel_rfl) (by kernel_rfl) ?_) | (at_builtin; refine appList_blk rfl slArc rfl (World.ownsRow.alloc HO7.out _) rfl (news := [.int .i64 ae, .int .i64 at_]) ((heap_alloc_at rfl) : Blk _ w7.heap.size _ _) rfl rfl (by simp [Value.oneCell']) (by decide) (by unfold maxLen; omega) (by omega) ?_; intro g8 cap8 w8 hown8 hgrow8 hat8; refine Stop7.intro ?_))
        unfold Stop7
        have hb8 : Below w.heap.size w w8 := (HB7.out.alloc HB7.out.size _).grown hgrow8 (Nat.le_trans HB7.out.size (by simp)) (fun z hz => by have := HV7.out z hz; have := HS3r.out; omega)
        have HO8 := Lib.hid hown8
        have HB8 := Lib.hid hb8
        have hg8 : w.heap.size ≤ g8 := by
          rcases hat8 with h | h
          · have := HV7.out g8 h
            have := HS3r.out
            omega
          · have := HB7.out.size
            simp at h
            omega
        have HG8 := Lib.hid hg8
        clear hown8 hgrow8 hat8 hb8 hg8 h7c h7l hN7
        go_wp2_with (first | ((with_reducible show wpPlan _ _ _ _ _ (Act.put _ _ _) _); simp only [List.getElem_toArray, List.getElem_cons_succ, List.getElem_cons_zero, Act.put, List.setIfInBounds_toArray, List.set_cons_zero, List.set_cons_succ]) | ((with_reducible show wpPlan _ _ _ _ _ _ _); first | refine wpPlan_nil ?_ | (refine wpPlan_read0 rfl ?hw rfl (fun _ _ _ => ?_); case hw => ((conv => (lhs; whnf)); first | done | with_reducible rfl)) | (refine wpPlan_read1d rfl ?hw rfl rfl (fun _ _ _ => ?_); case hw => ((conv => (lhs; whnf)); first | done | with_reducible rfl)) | (refine wpPlan_eff rfl ?hw (fun _ _ => ?_); case hw => ((conv => (lhs; whnf)); first | done | with_reducible rfl)) | (refine wpPlan_skip0 rfl ?hw ?_; case hw => ((conv => (lhs; whnf)); first | done | with_reducible rfl)) | (refine wpPlan_skip1d rfl ?hw ?_; case hw => ((conv => (lhs; whnf)); first | done | with_reducible rfl)) | (refine wpPlan_skip2 rfl ?hw ?_; case hw => ((conv => (lhs; whnf)); first | done | with_reducible rfl)) | (refine wpPlan_read1 rfl ?hw rfl (fun _ _ _ => ?_); case hw => ((conv => (lhs; whnf)); first | done | with_reducible rfl)) | refine wpPlan_fork ?_ ?_) | ((with_reducible show Owed _ _ _ _ _ _ _ _ _); first | refine Owed.none_ ?_ | refine Owed.nil_ ?_ | refine Owed.miss rfl ?_ | refine Owed.hit ?_ ?_) | ((with_reducible show Same _ _ _ _ _); intro _; go_simp; done) | (with_reducible exact True.intro) | ((with_reducible show Code.wp _ (Code.region 2 _ true) _ _ _); refine wp_region_plan [(0, 0, []), (1, 0, []), (2, 1, []), (3, 1, []), (4, 0, []), (5, 0, []), (6, 0, []), (7, 1, []), (8, 1, []), (9, 1, []), (10, 2, []), (11, 0, [])] (by kernel_rfl) (by kernel_rfl) (by kernel_rfl) ?_) | ((with_reducible show Code.wp _ (Code.region 4 _ true) _ _ _); refine wp_region_plan [(0, 0, []), (1, 0, []), (2, 1, []), (3, 1, []), (4, 0, []), (5, 0, []), (6, 0, []), (7, 1, []), (8, 1, []), (9, 1, []), (10, 1, []), (11, 0, [])] (by kernel_rfl) (by kernel_rfl) (by kernel_rfl) ?_) | (at_builtin; refine appList_opt rfl slArc rfl HO8.out rfl (Rd.nil : Rd _ w8.heap.size 2 _ 0 []) rfl (fun u hu => by cases hu) (by unfold maxLen; omega) (by omega) ?_; intro v9 w9 hown9 hgrow9 hat9; refine Stop7.intro ?_))
        unfold Stop7
        have hb9 : Below w.heap.size w w9 := HB8.out.grown hgrow9 HB8.out.size (fun z hz => by
          have h1 : g8 = z := by simpa [Value.ownBlock] using hz
          have := HG8.out
          omega)
        obtain ⟨A9, c9, rfl, hc9, _⟩ := own_form hown9
        have hR9 := Rd.ofOwn hown9
        rw [show (cellsOf Arc.cells (l.take 0) ++ [Value.int .i64 ae, Value.int .i64 at_]) ++ [] = cellsOf Arc.cells (l.take 0 ++ ⟨ae, at_⟩ :: l.drop 0) by
          rw [cellsOf_append, List.append_nil, HLD.out]
          rfl] at hR9
        have HF := Lib.hid (And.intro hc9 (And.intro hR9 hb9))
        clear hown9 hgrow9 hat9 hb9 hR9
        go_wp2_with fail
        go_ret
        exact ⟨⟨_, _, _, _, rfl, HF.out.1, HF.out.2.1, HNE.out⟩, HF.out.2.2⟩
      by_cases hcn : c - i = 0
      · skip
        go_wp2_with (first | ((with_reducible show wpPlan _ _ _ _ _ (Act.put _ _ _) _); simp only [List.getElem_toArray, List.getElem_cons_succ, List.getElem_cons_zero, Act.put, List.setIfInBounds_toArray, List.set_cons_zero, List.set_cons_succ]) | ((with_reducible show wpPlan _ _ _ _ _ _ _); first | refine wpPlan_nil ?_ | (refine wpPlan_read0 rfl ?hw rfl (fun _ _ _ => ?_); case hw => ((conv => (lhs; whnf)); first | done | with_reducible rfl)) | (refine wpPlan_read1d rfl ?hw rfl rfl (fun _ _ _ => ?_); case hw => ((conv => (lhs; whnf)); first | done | with_reducible rfl)) | (refine wpPlan_eff rfl ?hw (fun _ _ => ?_); case hw => ((conv => (lhs; whnf)); first | done | with_reducible rfl)) | (refine wpPlan_skip0 rfl ?hw ?_; case hw => ((conv => (lhs; whnf)); first | done | with_reducible rfl)) | (refine wpPlan_skip1d rfl ?hw ?_; case hw => ((conv => (lhs; whnf)); first | done | with_reducible rfl)) | (refine wpPlan_skip2 rfl ?hw ?_; case hw => ((conv => (lhs; whnf)); first | done | with_reducible rfl)) | (refine wpPlan_read1 rfl ?hw rfl (fun _ _ _ => ?_); case hw => ((conv => (lhs; whnf)); first | done | with_reducible rfl)) | refine wpPlan_fork ?_ ?_) | ((with_reducible show Owed _ _ _ _ _ _ _ _ _); first | refine Owed.none_ ?_ | refine Owed.nil_ ?_ | refine Owed.miss rfl ?_ | refine Owed.hit ?_ ?_) | ((with_reducible show Same _ _ _ _ _); intro _; go_simp; done) | (with_reducible exact True.intro) | ((with_reducible show Code.wp _ (Code.region 2 _ true) _ _ _); refine wp_region_plan [(0, 0, []), (1, 0, []), (2, 1, []), (3, 1, []), (4, 0, []), (5, 0, []), (6, 0, []), (7, 1, []), (8, 1, []), (9, 1, []), (10, 2, []), (11, 0, [])] (by kernel_rfl) (by kernel_rfl) (by kernel_rfl) ?_) | ((with_reducible show Code.wp _ (Code.region 4 _ true) _ _ _); refine wp_region_plan [(0, 0, []), (1, 0, []), (2, 1, []), (3, 1, []), (4, 0, []), (5, 0, []), (6, 0, []), (7, 1, []), (8, 1, []), (9, 1, []), (10, 1, []), (11, 0, [])] (by kernel_rfl) (by kernel_rfl) (by kernel_rfl) ?_) | (at_builtin; refine appList_opt rfl slArc rfl HOW.out rfl ((HRT.out.alloc HW3r.out (Obj.cells #[] 23)).drewN 2) (c := c) rfl (arc_ones _) (by unfold maxLen; omega) (by omega) ?_; intro v7 w7 hown7 hgrow7 hat7; refine Stop7.intro ?_))
        unfold Stop7
        rw [Nat.zero_add, List.nil_append] at hown7
        have hg3r : ((wr.alloc (Obj.cells #[] 23)).drew.drew).grownBy w7 (some wr.heap.size) := hgrow7
        have hb7 : Below w.heap.size w w7 := ((HB3r.out.alloc HB3r.out.size (Obj.cells #[] 23)).drew.drew).grown hg3r (Nat.le_trans HB3r.out.size (by simp)) (fun z hz => by have := HB3r.out.size; simp at hz; omega)
        have hN7 : Blk w7 w.heap.size 23 #[.int .i64 ae, .int .i64 at_] := ((HN3r.out.alloc (Obj.cells #[] 23)).drew.drew).grown hg3r (fun e => by have := HN3r.out.lt; simp at e; omega)
        have hv7 : ∀ z, v7.ownBlock = some z → wr.heap.size ≤ z := fun z hz => by
          rcases hat7 with h | h
          · have h1 : some wr.heap.size = some z := h.symm.trans hz
            simp at h1; omega
          · have h1 := h.symm.trans hz
            simp at h1; omega
        have HO7 := Lib.hid hown7
        have HB7 := Lib.hid hb7
        have HV7 := Lib.hid hv7
        have h7c := hN7.cell
        have h7l := hN7.lt
        have hsz3r := HB3r.out.size
        have HS3r := Lib.hid hsz3r
        obtain ⟨A7, c7, rfl, _, _⟩ := own_form hown7
        clear hown7 hgrow7 hat7 hg3r hb7 hv7 hNc hNl hsz3r
        go_wp2_with (first | ((with_reducible show wpPlan _ _ _ _ _ (Act.put _ _ _) _); simp only [List.getElem_toArray, List.getElem_cons_succ, List.getElem_cons_zero, Act.put, List.setIfInBounds_toArray, List.set_cons_zero, List.set_cons_succ]) | ((with_reducible show wpPlan _ _ _ _ _ _ _); first | refine wpPlan_nil ?_ | (refine wpPlan_read0 rfl ?hw rfl (fun _ _ _ => ?_); case hw => ((conv => (lhs; whnf)); first | done | with_reducible rfl)) | (refine wpPlan_read1d rfl ?hw rfl rfl (fun _ _ _ => ?_); case hw => ((conv => (lhs; whnf)); first | done | with_reducible rfl)) | (refine wpPlan_eff rfl ?hw (fun _ _ => ?_); case hw => ((conv => (lhs; whnf)); first | done | with_reducible rfl)) | (refine wpPlan_skip0 rfl ?hw ?_; case hw => ((conv => (lhs; whnf)); first | done | with_reducible rfl)) | (refine wpPlan_skip1d rfl ?hw ?_; case hw => ((conv => (lhs; whnf)); first | done | with_reducible rfl)) | (refine wpPlan_skip2 rfl ?hw ?_; case hw => ((conv => (lhs; whnf)); first | done | with_reducible rfl)) | (refine wpPlan_read1 rfl ?hw rfl (fun _ _ _ => ?_); case hw => ((conv => (lhs; whnf)); first | done | with_reducible rfl)) | refine wpPlan_fork ?_ ?_) | ((with_reducible show Owed _ _ _ _ _ _ _ _ _); first | refine Owed.none_ ?_ | refine Owed.nil_ ?_ | refine Owed.miss rfl ?_ | refine Owed.hit ?_ ?_) | ((with_reducible show Same _ _ _ _ _); intro _; go_simp; done) | (with_reducible exact True.intro) | ((with_reducible show Code.wp _ (Code.region 2 _ true) _ _ _); refine wp_region_plan [(0, 0, []), (1, 0, []), (2, 1, []), (3, 1, []), (4, 0, []), (5, 0, []), (6, 0, []), (7, 1, []), (8, 1, []), (9, 1, []), (10, 2, []), (11, 0, [])] (by kernel_rfl) (by kernel_rfl) (by kernel_rfl) ?_) | ((with_reducible show Code.wp _ (Code.region 4 _ true) _ _ _); refine wp_region_plan [(0, 0, []), (1, 0, []), (2, 1, []), (3, 1, []), (4, 0, []), (5, 0, []), (6, 0, []), (7, 1, []), (8, 1, []), (9, 1, []), (10, 1, []), (11, 0, [])] (by kernel_rfl) (by kernel_rfl) (by kernel_rfl) ?_) | (at_builtin; refine appList_blk rfl slArc rfl (World.ownsRow.alloc HO7.out _) rfl (news := [.int .i64 ae, .int .i64 at_]) ((heap_alloc_at rfl) : Blk _ w7.heap.size _ _) rfl rfl (by simp [Value.oneCell']) (by decide) (by unfold maxLen; omega) (by omega) ?_; intro g8 cap8 w8 hown8 hgrow8 hat8; refine Stop7.intro ?_))
        unfold Stop7
        have hb8 : Below w.heap.size w w8 := (HB7.out.alloc HB7.out.size _).grown hgrow8 (Nat.le_trans HB7.out.size (by simp)) (fun z hz => by have := HV7.out z hz; have := HS3r.out; omega)
        have HO8 := Lib.hid hown8
        have HB8 := Lib.hid hb8
        have hg8 : w.heap.size ≤ g8 := by
          rcases hat8 with h | h
          · have := HV7.out g8 h
            have := HS3r.out
            omega
          · have := HB7.out.size
            simp at h
            omega
        have HG8 := Lib.hid hg8
        clear hown8 hgrow8 hat8 hb8 hg8 h7c h7l hN7
        go_wp2_with (first | ((with_reducible show wpPlan _ _ _ _ _ (Act.put _ _ _) _); simp only [List.getElem_toArray, List.getElem_cons_succ, List.getElem_cons_zero, Act.put, List.setIfInBounds_toArray, List.set_cons_zero, List.set_cons_succ]) | ((with_reducible show wpPlan _ _ _ _ _ _ _); first | refine wpPlan_nil ?_ | (refine wpPlan_read0 rfl ?hw rfl (fun _ _ _ => ?_); case hw => ((conv => (lhs; whnf)); first | done | with_reducible rfl)) | (refine wpPlan_read1d rfl ?hw rfl rfl (fun _ _ _ => ?_); case hw => ((conv => (lhs; whnf)); first | done | with_reducible rfl)) | (refine wpPlan_eff rfl ?hw (fun _ _ => ?_); case hw => ((conv => (lhs; whnf)); first | done | with_reducible rfl)) | (refine wpPlan_skip0 rfl ?hw ?_; case hw => ((conv => (lhs; whnf)); first | done | with_reducible rfl)) | (refine wpPlan_skip1d rfl ?hw ?_; case hw => ((conv => (lhs; whnf)); first | done | with_reducible rfl)) | (refine wpPlan_skip2 rfl ?hw ?_; case hw => ((conv => (lhs; whnf)); first | done | with_reducible rfl)) | (refine wpPlan_read1 rfl ?hw rfl (fun _ _ _ => ?_); case hw => ((conv => (lhs; whnf)); first | done | with_reducible rfl)) | refine wpPlan_fork ?_ ?_) | ((with_reducible show Owed _ _ _ _ _ _ _ _ _); first | refine Owed.none_ ?_ | refine Owed.nil_ ?_ | refine Owed.miss rfl ?_ | refine Owed.hit ?_ ?_) | ((with_reducible show Same _ _ _ _ _); intro _; go_simp; done) | (with_reducible exact True.intro) | ((with_reducible show Code.wp _ (Code.region 2 _ true) _ _ _); refine wp_region_plan [(0, 0, []), (1, 0, []), (2, 1, []), (3, 1, []), (4, 0, []), (5, 0, []), (6, 0, []), (7, 1, []), (8, 1, []), (9, 1, []), (10, 2, []), (11, 0, [])] (by kernel_rfl) (by kernel_rfl) (by kernel_rfl) ?_) | ((with_reducible show Code.wp _ (Code.region 4 _ true) _ _ _); refine wp_region_plan [(0, 0, []), (1, 0, []), (2, 1, []), (3, 1, []), (4, 0, []), (5, 0, []), (6, 0, []), (7, 1, []), (8, 1, []), (9, 1, []), (10, 1, []), (11, 0, [])] (by kernel_rfl) (by kernel_rfl) (by kernel_rfl) ?_) | (at_builtin; refine appList_opt rfl slArc rfl HO8.out rfl (Rd.nil : Rd _ w8.heap.size 2 _ 0 []) rfl (fun u hu => by cases hu) (by unfold maxLen; omega) (by omega) ?_; intro v9 w9 hown9 hgrow9 hat9; refine Stop7.intro ?_))
        unfold Stop7
        have hb9 : Below w.heap.size w w9 := HB8.out.grown hgrow9 HB8.out.size (fun z hz => by
          have h1 : g8 = z := by simpa [Value.ownBlock] using hz
          have := HG8.out
          omega)
        obtain ⟨A9, c9, rfl, hc9, _⟩ := own_form hown9
        have hR9 := Rd.ofOwn hown9
        rw [show (cellsOf Arc.cells (l.take i) ++ [Value.int .i64 ae, Value.int .i64 at_]) ++ [] = cellsOf Arc.cells (l.take i ++ ⟨ae, at_⟩ :: l.drop i) by
          rw [cellsOf_append, List.append_nil, HLD.out]
          rfl] at hR9
        have HF := Lib.hid (And.intro hc9 (And.intro hR9 hb9))
        clear hown9 hgrow9 hat9 hb9 hR9
        go_wp2_with fail
        go_ret
        exact ⟨⟨_, _, _, _, rfl, HF.out.1, HF.out.2.1, HNE.out⟩, HF.out.2.2⟩
      · skip
        go_wp2_with (first | ((with_reducible show wpPlan _ _ _ _ _ (Act.put _ _ _) _); simp only [List.getElem_toArray, List.getElem_cons_succ, List.getElem_cons_zero, Act.put, List.setIfInBounds_toArray, List.set_cons_zero, List.set_cons_succ]) | ((with_reducible show wpPlan _ _ _ _ _ _ _); first | refine wpPlan_nil ?_ | (refine wpPlan_read0 rfl ?hw rfl (fun _ _ _ => ?_); case hw => ((conv => (lhs; whnf)); first | done | with_reducible rfl)) | (refine wpPlan_read1d rfl ?hw rfl rfl (fun _ _ _ => ?_); case hw => ((conv => (lhs; whnf)); first | done | with_reducible rfl)) | (refine wpPlan_eff rfl ?hw (fun _ _ => ?_); case hw => ((conv => (lhs; whnf)); first | done | with_reducible rfl)) | (refine wpPlan_skip0 rfl ?hw ?_; case hw => ((conv => (lhs; whnf)); first | done | with_reducible rfl)) | (refine wpPlan_skip1d rfl ?hw ?_; case hw => ((conv => (lhs; whnf)); first | done | with_reducible rfl)) | (refine wpPlan_skip2 rfl ?hw ?_; case hw => ((conv => (lhs; whnf)); first | done | with_reducible rfl)) | (refine wpPlan_read1 rfl ?hw rfl (fun _ _ _ => ?_); case hw => ((conv => (lhs; whnf)); first | done | with_reducible rfl)) | refine wpPlan_fork ?_ ?_) | ((with_reducible show Owed _ _ _ _ _ _ _ _ _); first | refine Owed.none_ ?_ | refine Owed.nil_ ?_ | refine Owed.miss rfl ?_ | refine Owed.hit ?_ ?_) | ((with_reducible show Same _ _ _ _ _); intro _; go_simp; done) | (with_reducible exact True.intro) | ((with_reducible show Code.wp _ (Code.region 2 _ true) _ _ _); refine wp_region_plan [(0, 0, []), (1, 0, []), (2, 1, []), (3, 1, []), (4, 0, []), (5, 0, []), (6, 0, []), (7, 1, []), (8, 1, []), (9, 1, []), (10, 2, []), (11, 0, [])] (by kernel_rfl) (by kernel_rfl) (by kernel_rfl) ?_) | ((with_reducible show Code.wp _ (Code.region 4 _ true) _ _ _); refine wp_region_plan [(0, 0, []), (1, 0, []), (2, 1, []), (3, 1, []), (4, 0, []), (5, 0, []), (6, 0, []), (7, 1, []), (8, 1, []), (9, 1, []), (10, 1, []), (11, 0, [])] (by kernel_rfl) (by kernel_rfl) (by kernel_rfl) ?_) | (at_builtin; refine appList_opt rfl slArc rfl HOW.out rfl ((HRT.out.alloc HW3r.out (Obj.cells #[] 23)).drewN 2) (c := c) rfl (arc_ones _) (by unfold maxLen; omega) (by omega) ?_; intro v7 w7 hown7 hgrow7 hat7; refine Stop7.intro ?_))
        unfold Stop7
        rw [Nat.zero_add, List.nil_append] at hown7
        have hg3r : ((wr.alloc (Obj.cells #[] 23)).drew.drew).grownBy w7 (some wr.heap.size) := hgrow7
        have hb7 : Below w.heap.size w w7 := ((HB3r.out.alloc HB3r.out.size (Obj.cells #[] 23)).drew.drew).grown hg3r (Nat.le_trans HB3r.out.size (by simp)) (fun z hz => by have := HB3r.out.size; simp at hz; omega)
        have hN7 : Blk w7 w.heap.size 23 #[.int .i64 ae, .int .i64 at_] := ((HN3r.out.alloc (Obj.cells #[] 23)).drew.drew).grown hg3r (fun e => by have := HN3r.out.lt; simp at e; omega)
        have hv7 : ∀ z, v7.ownBlock = some z → wr.heap.size ≤ z := fun z hz => by
          rcases hat7 with h | h
          · have h1 : some wr.heap.size = some z := h.symm.trans hz
            simp at h1; omega
          · have h1 := h.symm.trans hz
            simp at h1; omega
        have HO7 := Lib.hid hown7
        have HB7 := Lib.hid hb7
        have HV7 := Lib.hid hv7
        have h7c := hN7.cell
        have h7l := hN7.lt
        have hsz3r := HB3r.out.size
        have HS3r := Lib.hid hsz3r
        obtain ⟨A7, c7, rfl, _, _⟩ := own_form hown7
        clear hown7 hgrow7 hat7 hg3r hb7 hv7 hNc hNl hsz3r
        go_wp2_with (first | ((with_reducible show wpPlan _ _ _ _ _ (Act.put _ _ _) _); simp only [List.getElem_toArray, List.getElem_cons_succ, List.getElem_cons_zero, Act.put, List.setIfInBounds_toArray, List.set_cons_zero, List.set_cons_succ]) | ((with_reducible show wpPlan _ _ _ _ _ _ _); first | refine wpPlan_nil ?_ | (refine wpPlan_read0 rfl ?hw rfl (fun _ _ _ => ?_); case hw => ((conv => (lhs; whnf)); first | done | with_reducible rfl)) | (refine wpPlan_read1d rfl ?hw rfl rfl (fun _ _ _ => ?_); case hw => ((conv => (lhs; whnf)); first | done | with_reducible rfl)) | (refine wpPlan_eff rfl ?hw (fun _ _ => ?_); case hw => ((conv => (lhs; whnf)); first | done | with_reducible rfl)) | (refine wpPlan_skip0 rfl ?hw ?_; case hw => ((conv => (lhs; whnf)); first | done | with_reducible rfl)) | (refine wpPlan_skip1d rfl ?hw ?_; case hw => ((conv => (lhs; whnf)); first | done | with_reducible rfl)) | (refine wpPlan_skip2 rfl ?hw ?_; case hw => ((conv => (lhs; whnf)); first | done | with_reducible rfl)) | (refine wpPlan_read1 rfl ?hw rfl (fun _ _ _ => ?_); case hw => ((conv => (lhs; whnf)); first | done | with_reducible rfl)) | refine wpPlan_fork ?_ ?_) | ((with_reducible show Owed _ _ _ _ _ _ _ _ _); first | refine Owed.none_ ?_ | refine Owed.nil_ ?_ | refine Owed.miss rfl ?_ | refine Owed.hit ?_ ?_) | ((with_reducible show Same _ _ _ _ _); intro _; go_simp; done) | (with_reducible exact True.intro) | ((with_reducible show Code.wp _ (Code.region 2 _ true) _ _ _); refine wp_region_plan [(0, 0, []), (1, 0, []), (2, 1, []), (3, 1, []), (4, 0, []), (5, 0, []), (6, 0, []), (7, 1, []), (8, 1, []), (9, 1, []), (10, 2, []), (11, 0, [])] (by kernel_rfl) (by kernel_rfl) (by kernel_rfl) ?_) | ((with_reducible show Code.wp _ (Code.region 4 _ true) _ _ _); refine wp_region_plan [(0, 0, []), (1, 0, []), (2, 1, []), (3, 1, []), (4, 0, []), (5, 0, []), (6, 0, []), (7, 1, []), (8, 1, []), (9, 1, []), (10, 1, []), (11, 0, [])] (by kernel_rfl) (by kernel_rfl) (by kernel_rfl) ?_) | (at_builtin; refine appList_blk rfl slArc rfl (World.ownsRow.alloc HO7.out _) rfl (news := [.int .i64 ae, .int .i64 at_]) ((heap_alloc_at rfl) : Blk _ w7.heap.size _ _) rfl rfl (by simp [Value.oneCell']) (by decide) (by unfold maxLen; omega) (by omega) ?_; intro g8 cap8 w8 hown8 hgrow8 hat8; refine Stop7.intro ?_))
        unfold Stop7
        have hb8 : Below w.heap.size w w8 := (HB7.out.alloc HB7.out.size _).grown hgrow8 (Nat.le_trans HB7.out.size (by simp)) (fun z hz => by have := HV7.out z hz; have := HS3r.out; omega)
        have HO8 := Lib.hid hown8
        have HB8 := Lib.hid hb8
        have hg8 : w.heap.size ≤ g8 := by
          rcases hat8 with h | h
          · have := HV7.out g8 h
            have := HS3r.out
            omega
          · have := HB7.out.size
            simp at h
            omega
        have HG8 := Lib.hid hg8
        clear hown8 hgrow8 hat8 hb8 hg8 h7c h7l hN7
        go_wp2_with (first | ((with_reducible show wpPlan _ _ _ _ _ (Act.put _ _ _) _); simp only [List.getElem_toArray, List.getElem_cons_succ, List.getElem_cons_zero, Act.put, List.setIfInBounds_toArray, List.set_cons_zero, List.set_cons_succ]) | ((with_reducible show wpPlan _ _ _ _ _ _ _); first | refine wpPlan_nil ?_ | (refine wpPlan_read0 rfl ?hw rfl (fun _ _ _ => ?_); case hw => ((conv => (lhs; whnf)); first | done | with_reducible rfl)) | (refine wpPlan_read1d rfl ?hw rfl rfl (fun _ _ _ => ?_); case hw => ((conv => (lhs; whnf)); first | done | with_reducible rfl)) | (refine wpPlan_eff rfl ?hw (fun _ _ => ?_); case hw => ((conv => (lhs; whnf)); first | done | with_reducible rfl)) | (refine wpPlan_skip0 rfl ?hw ?_; case hw => ((conv => (lhs; whnf)); first | done | with_reducible rfl)) | (refine wpPlan_skip1d rfl ?hw ?_; case hw => ((conv => (lhs; whnf)); first | done | with_reducible rfl)) | (refine wpPlan_skip2 rfl ?hw ?_; case hw => ((conv => (lhs; whnf)); first | done | with_reducible rfl)) | (refine wpPlan_read1 rfl ?hw rfl (fun _ _ _ => ?_); case hw => ((conv => (lhs; whnf)); first | done | with_reducible rfl)) | refine wpPlan_fork ?_ ?_) | ((with_reducible show Owed _ _ _ _ _ _ _ _ _); first | refine Owed.none_ ?_ | refine Owed.nil_ ?_ | refine Owed.miss rfl ?_ | refine Owed.hit ?_ ?_) | ((with_reducible show Same _ _ _ _ _); intro _; go_simp; done) | (with_reducible exact True.intro) | ((with_reducible show Code.wp _ (Code.region 2 _ true) _ _ _); refine wp_region_plan [(0, 0, []), (1, 0, []), (2, 1, []), (3, 1, []), (4, 0, []), (5, 0, []), (6, 0, []), (7, 1, []), (8, 1, []), (9, 1, []), (10, 2, []), (11, 0, [])] (by kernel_rfl) (by kernel_rfl) (by kernel_rfl) ?_) | ((with_reducible show Code.wp _ (Code.region 4 _ true) _ _ _); refine wp_region_plan [(0, 0, []), (1, 0, []), (2, 1, []), (3, 1, []), (4, 0, []), (5, 0, []), (6, 0, []), (7, 1, []), (8, 1, []), (9, 1, []), (10, 1, []), (11, 0, [])] (by kernel_rfl) (by kernel_rfl) (by kernel_rfl) ?_) | (at_builtin; refine appList_opt rfl slArc rfl HO8.out rfl (Rd.nil : Rd _ w8.heap.size 2 _ 0 []) rfl (fun u hu => by cases hu) (by unfold maxLen; omega) (by omega) ?_; intro v9 w9 hown9 hgrow9 hat9; refine Stop7.intro ?_))
        unfold Stop7
        have hb9 : Below w.heap.size w w9 := HB8.out.grown hgrow9 HB8.out.size (fun z hz => by
          have h1 : g8 = z := by simpa [Value.ownBlock] using hz
          have := HG8.out
          omega)
        obtain ⟨A9, c9, rfl, hc9, _⟩ := own_form hown9
        have hR9 := Rd.ofOwn hown9
        rw [show (cellsOf Arc.cells (l.take i) ++ [Value.int .i64 ae, Value.int .i64 at_]) ++ [] = cellsOf Arc.cells (l.take i ++ ⟨ae, at_⟩ :: l.drop i) by
          rw [cellsOf_append, List.append_nil, HLD.out]
          rfl] at hR9
        have HF := Lib.hid (And.intro hc9 (And.intro hR9 hb9))
        clear hown9 hgrow9 hat9 hb9 hR9
        go_wp2_with fail
        go_ret
        exact ⟨⟨_, _, _, _, rfl, HF.out.1, HF.out.2.1, HNE.out⟩, HF.out.2.2⟩

end Go.Proofs.Ytmciinikfjfegaa
