/- LayoutShifts: the law's walk -/
import Derived.Test.YtgfhkaamkodpjaaDoorLw3
import Derived.Test.YtgfhkaamkodpjaaDoorTks
import Derived.Test.YtgfhkaamkodpjaaDoorShift
import Derived.Test.YtgfhkaamkodpjaaDoorDelT
import Derived.Test.YtgfhkaamkodpjaaDoorCardK
namespace Go.Proofs.YtgfhkaamkodpjaaDoor
open Go Go.RowKit
set_option maxHeartbeats 4000000
attribute [local irreducible] kwB syB clB

/-- append of a list to nil -/
theorem app_from {P : Program} {w : World} {o : Oper} {a : Act} {K : Act → World → Prop} {Q : Exit → Act → World → Prop} {s x : Operand} {t e : TypeId} {size bytes : Nat}
    (hT : SlT P t e size bytes) (ho : o.op = .call { callee := .builtin .append, args := #[s, x], argTypes := #[t, t] }) (hs : a.eval s = .slice none 0 0)
    {A : Option Addr} {B m c : Nat} {news : List Value} (hB : Rd w B size A m news) (hx : a.eval x = .slice A m c) (h1 : ∀ u ∈ news, u.oneCell' = true)
    (h63 : m ≤ maxLen) (hbytes : m * bytes ≤ 140737488355328)
    (h : ∀ v' w', w'.ownsRow 0 e size v' m news → w.grownBy w' none → (v'.ownBlock = none ∨ v'.ownBlock = some w.heap.size) → K (a.put o.dst v') w') : o.wp P a w K Q := by
  cases A with
  | some ad =>
    refine app_rd hT ho (World.ownsRow_nil w 0 e size) hs hB hx h1 (by omega) (by rw [Nat.zero_add]; exact hbytes) fun v' w' h2 h3 h4 => ?_
    exact h v' w' (by simpa using h2) h3 h4
  | none =>
    have hm : m = 0 := by
      rcases Nat.eq_zero_or_pos m with e | e
      · exact e
      · obtain ⟨_, _, e, _⟩ := hB.2 e
        cases e
    subst hm
    have hn : news = [] := List.eq_nil_of_length_eq_zero (by simpa using hB.1)
    subst hn
    obtain ⟨i, z, h2, h3, h4, h5, h6, h7, h8⟩ := hT
    have hr : (Builtin.append_ #[t, t] o.type #[.slice none 0 0, .slice none 0 c]).run P w = .ok (.slice none 0 0) w := by
      simp [Builtin.append_, run_underlying h2, sizeOf, typeInfo, h3, Builtin.lenOf, Builtin.firstCells]
    unfold Oper.wp execOp
    simp only [ho, resolve, invoke, builtin, Sem.run_bind, Sem.run_pure, Result.andThen_ok, List.map_toArray, List.map_cons, List.map_nil, hs, hx, hr]
    exact h _ _ (World.ownsRow_nil _ _ _ _) ⟨rfl, rfl, rfl, Nat.le_refl _, fun _ _ _ => rfl⟩ (.inl rfl)

/-- the first j lines are moved -/
def shMid (k : Int) (l : List Tok) (j : Nat) : List Tok := (l.take j).map (shT k) ++ l.drop j
theorem shMid_get (k : Int) (l : List Tok) (j : Nat) : (shMid k l j)[j]? = l[j]? := by
  unfold shMid
  by_cases h : j ≤ l.length
  · rw [List.getElem?_append_right (by simp; omega)]
    simp
    congr 1
    omega
  · rw [List.getElem?_eq_none (by simp; omega), List.getElem?_eq_none (by omega)]
theorem shMid_set (k : Int) (l : List Tok) (j : Nat) (t : Tok) (h : l[j]? = some t) : (cellsOf Tok.cells (shMid k l j)).set (j * 5 + 3) (.int .i64 (t.pos.line + k)) = cellsOf Tok.cells (shMid k l (j + 1)) := by
  obtain ⟨hj, he⟩ := List.getElem?_eq_some_iff.1 h
  have hd : l.drop j = t :: l.drop (j + 1) := by rw [List.drop_eq_getElem_cons hj, he]
  have ht : l.take (j + 1) = l.take j ++ [t] := by rw [List.take_succ_eq_append_getElem hj, he]
  have hl : (cellsOf Tok.cells ((l.take j).map (shT k))).length = j * 5 := by rw [cellsOf_length Tok.cells_len]; simp; omega
  unfold shMid
  rw [hd, ht, List.map_append, cellsOf_append, cellsOf_append, cellsOf_append, List.set_append_right _ _ (by omega), hl, show j * 5 + 3 - j * 5 = 3 by omega, List.append_assoc]
  rfl
theorem shMid_zero (k : Int) (l : List Tok) : shMid k l 0 = l := by simp [shMid]
theorem shMid_all (k : Int) (l : List Tok) : shMid k l l.length = l.map (shT k) := by simp [shMid]

set_option maxRecDepth 100000 in
theorem layoutShifts_law (w : World) (hG : Glob w.heap.size w) (a0 : Option Addr) (n0 c0 : Nat) (l0 : List Int) (hR0 : Rd w w.heap.size 1 a0 n0 (cellsOf icell l0)) (hn0 : n0 ≤ 1048576) (b : Nat) (hb : b < 256) :
    Calls Tryd.prog 7 #[.slice a0 n0 c0, .int .u8 b] w fun e w' => e = .returned (.bool true) ∧ Below w.heap.size w w' := by
  have H0 := Lib.hid hR0
  have HG := Lib.hid hG
  clear hR0 hG
  obtain ⟨k, hk⟩ : ∃ k : Nat, k = b % 50 := ⟨_, rfl⟩
  have hk50 : k < 50 := by omega
  have hki : (b : Int) % 50 = (k : Int) := by omega
  clear hk
  go_enter Tryd.func7, Tryd.ntmps7
  go_wp2_with fail
  refine (tokens_any w.heap.size a0 n0 c0 l0 _ H0.out (Nat.le_refl _) (by omega)).mono ?_
  rintro e w1 ⟨A1, n1, c1, l1, rfl, _, _, hn1, hR1, ht1, _, hb1⟩
  have HB1 := Lib.hid hb1
  have HR1 := Lib.hid hR1
  have HT1 := Lib.hid ht1
  have hs1 := hb1.size
  have HL1 := Lib.hid (hR1.len Tok.cells_len (by decide))
  clear hb1 hR1 ht1
  go_wp2_with (first | (at_builtin; refine Stop.intro ?_))
  unfold Stop
  refine wpList_plain rfl fun K hK => ?_
  refine app_from slTok rfl rfl HR1.out rfl (tok_ones l1) (by unfold maxLen; omega) (by omega) ?_
  intro v7 w7 hown7 hgrow7 hat7
  refine hK _ _ ?_
  clear hK
  obtain ⟨A7, c7, rfl, _, _⟩ := own_form hown7
  have HO7 := Lib.hid hown7
  have HB7 := Lib.hid (HB1.out.trans (((Outside.refl (fun _ => False) w1).grown hgrow7 (fun z hz => by cases hz)).below hs1 (fun _ _ e => e)))
  have HR7 := Lib.hid (HR1.out.below (((Outside.refl (fun _ => False) w1).grown hgrow7 (fun z hz => by cases hz)).below (Nat.le_refl _) (fun _ _ e => e)))
  have hs7 : w1.heap.size ≤ w7.heap.size := ((Outside.refl (fun _ => False) w1).grown hgrow7 (fun z hz => by cases hz)).size
  have hlo7 : ∀ g, (Value.slice A7 n1 c7).ownBlock = some g → w1.heap.size ≤ g := fun g hg => by
    rcases hat7 with h1 | h1 <;> rw [h1] at hg <;> cases hg
    exact Nat.le_refl _
  have HLO := Lib.hid hlo7
  clear hown7 hgrow7 hat7 hlo7
  go_wp2_with fail
  go_loopw [8] (fun vi wr => ∃ i : Nat, i ≤ n1 ∧ vi = .int .i64 i ∧ Hid (wr.ownsRow 0 40 5 (.slice A7 n1 c7) n1 (cellsOf Tok.cells (shMid k l1 i))) ∧ Hid (Below w1.heap.size w7 wr)) (fun vi _ => n1 - (intOf vi).toNat)
  case atStart => exact ⟨0, Nat.zero_le _, rfl, (by show World.ownsRow _ _ _ _ _ _ _; rw [shMid_zero]; exact HO7.out), Below.refl _ _⟩
  case round =>
    obtain ⟨i, hi, rfl, HO, HW⟩ := hrel
    by_cases hlt : i < n1
    · obtain ⟨g, cap', he, _, hglt⟩ := HO.out.form (by omega)
      obtain ⟨rfl, rfl⟩ : A7 = some ⟨g, 0, none⟩ ∧ cap' = c7 := by injection he with h1 _ h3; exact ⟨h1, h3.symm⟩
      obtain ⟨t, ht⟩ : ∃ t, l1[i]? = some t := ⟨_, List.getElem?_eq_getElem (by have := HL1.out; omega)⟩
      have hc3 : wr.cell? ⟨g, i * 5 + 3, none⟩ = some (.int .i64 t.pos.line) := (HO.out.cellAt (i * 5 + 3) (by omega)).trans (by rw [cellsOf_get Tok.cells_len _ i 3 (by decide), shMid_get, ht]; rfl)
      have hfz := HO.out.frozenAt
      have htk := HT1.out t (List.mem_of_getElem? ht)
      have hl1 := htk.2.1
      have hl2 := htk.2.2.1
      have HTT := Lib.hid ht
      clear he ht htk
      go_wp2_with fail
      go_roundw
      case rel =>
        refine ⟨i + 1, by omega, by go_num, ?_, ?_⟩
        · show World.ownsRow _ _ _ _ _ _ _
          rw [← shMid_set k l1 i t HTT.out]
          exact (HO.out.stored (i * 5 + 3) _).1
        · exact HW.out.setCell (p := ⟨g, i * 5 + 3, none⟩) (HLO.out g rfl) _
      case measure => simp [intOf]; omega
    · obtain rfl : i = n1 := by omega
      have HRm : Hid (Rd wr wr.heap.size 5 A7 i (cellsOf Tok.cells (l1.map (shT k)))) := Lib.hid (by have := Rd.ofOwn HO.out; rw [← HL1.out, shMid_all] at this; rw [← HL1.out]; exact this)
      have hsr : w1.heap.size ≤ wr.heap.size := Nat.le_trans hs7 (by have := HW.out.size; omega)
      have HRl := Lib.hid ((HR7.out.below HW.out).more hsr)
      have HBr := Lib.hid (HB7.out.trans (HW.out.mono hs1))
      clear HO HW
      go_wp2_with fail
      refine (linsert_any w.heap.size _ A1 i c1 l1 _ HRl.out (Nat.le_refl _) (HG.out.below (HBr.out.mono HG.out.size)) (by omega) (fun t ht => by have := (HT1.out t ht).1; omega)).mono ?_
      obtain ⟨hsh1, hsh2, hsh3, hsh4⟩ := insS_shift k (by omega) l1 (fun t ht => ⟨(HT1.out t ht).2.1, (HT1.out t ht).2.2.1⟩)
      have hkl := insS_len l1
      generalize insS l1 = X at hsh1 hsh2 hsh3 hsh4 hkl
      obtain ⟨al, ap, ae⟩ := X
      rintro e w8 ⟨⟨A8, n8, rfl, hR8, _⟩, hb8⟩
      have HB8 := Lib.hid (HBr.out.trans (hb8.mono HBr.out.size))
      have hs8 := hb8.size
      have HRm8 := Lib.hid (HRm.out.below hb8)
      have HR8 := Lib.hid hR8
      have HL8 := Lib.hid (hR8.len Tok.cells_len (by decide))
      clear hb8 hR8
      dsimp only [Pos.v]
      go_wp2_with fail
      have HBa := Lib.hid (HB8.out.alloc HB8.out.size (Obj.cells #[.int .i64 ap.line, .int .i64 ap.col] 29))
      have HRma := Lib.hid (HRm8.out.alloc hs8 (Obj.cells #[.int .i64 ap.line, .int .i64 ap.col] 29))
      have HRa := Lib.hid (HR8.out.alloc (Nat.le_refl _) (Obj.cells #[.int .i64 ap.line, .int .i64 ap.col] 29))
      have hsa : w8.heap.size ≤ (w8.alloc (Obj.cells #[.int .i64 ap.line, .int .i64 ap.col] 29)).heap.size := by simp
      refine (linsert_any w.heap.size _ A7 i c7 (l1.map (shT k)) _ HRma.out (Nat.le_trans hs8 hsa) (HG.out.below (HBa.out.mono HG.out.size)) (by omega) (fun t ht => by
        obtain ⟨u, hu, rfl⟩ := List.mem_map.1 ht
        have := (HT1.out u hu).1
        show u.str.size ≤ _
        omega)).mono ?_
      generalize insS (l1.map (shT k)) = Y at hsh1 hsh2 hsh3
      obtain ⟨bl, bp, be⟩ := Y
      (try dsimp only at hsh1 hsh2 hsh3 hsh4 hkl)
      subst hsh1
      have HS2 := Lib.hid hsh2
      have HS3 := Lib.hid hsh3
      have HS4 := Lib.hid hsh4
      rintro e w9 ⟨⟨A9, n9, rfl, hR9, _⟩, hb9⟩
      have HB9 := Lib.hid (HBa.out.trans (hb9.mono HBa.out.size))
      have HR9 := Lib.hid hR9
      have HRa9 := Lib.hid (HRa.out.below (hb9.mono hsa))
      have hs9 : w8.heap.size ≤ w9.heap.size := Nat.le_trans hsa hb9.size
      have hn9 : n9 = n8 := by
        have h1 : bl.length = n9 := hR9.len Tok.cells_len (by decide)
        have h2 : al.length = n8 := HL8.out
        have h3 : bl.length = al.length := HS2.out
        omega
      subst hn9
      have hn8 : n9 ≤ 1000000000 := by
        have h5 : al.length = n9 := HL8.out
        have h6 := HL1.out
        have h7 : al.length ≤ 65 + 67 * l1.length := hkl
        omega
      clear hb9 hR9 hsh2 hsh3 hsh4 hkl
      dsimp only [Pos.v]
      go_wp2_with fail
      have HBb := Lib.hid (HB9.out.alloc HB9.out.size (Obj.cells #[.int .i64 bp.line, .int .i64 bp.col] 29))
      have HRx := Lib.hid (HRa9.out.alloc hs9 (Obj.cells #[.int .i64 bp.line, .int .i64 bp.col] 29))
      have HRy := Lib.hid (HR9.out.alloc (Nat.le_refl _) (Obj.cells #[.int .i64 bp.line, .int .i64 bp.col] 29))
      have hsb : w9.heap.size ≤ (w9.alloc (Obj.cells #[.int .i64 bp.line, .int .i64 bp.col] 29)).heap.size := by simp
      refine (awake_any w.heap.size _ (HG.out.below (HBb.out.mono HG.out.size))).mono ?_
      rintro e wa ⟨rfl, hba⟩
      have HBc := Lib.hid (HBb.out.trans (hba.mono HBb.out.size))
      have HX := Lib.hid (HRx.out.below (hba.mono (Nat.le_trans hs9 hsb)))
      have HY := Lib.hid (HRy.out.below (hba.mono hsb))
      have hsc : w9.heap.size ≤ wa.heap.size := Nat.le_trans hsb hba.size
      clear hba
      go_wp2_with fail
      go_loopw [15] (fun vi wr => ∃ j : Nat, 1 ≤ j ∧ (j ≤ n9 ∨ j = 1) ∧ vi = .int .i64 j ∧ Hid (Below wa.heap.size wa wr)) (fun vi _ => n9 - (intOf vi).toNat)
      case atStart => exact ⟨1, by decide, .inr rfl, rfl, Below.refl _ _⟩
      case round =>
        obtain ⟨j, hj1, hj2, rfl, HW⟩ := hrel
        by_cases hlt : j < n9
        · have HXr := Lib.hid (HX.out.below (HW.out.mono (Nat.le_trans hs9 hsc)))
          have HYr := Lib.hid (HY.out.below (HW.out.mono hsc))
          obtain ⟨bx, ox, t, rfl, hbx, ht, c0, c1, c2, c3, c4⟩ := HXr.out.tok hlt
          obtain ⟨by_, oy, u, rfl, hby, hu, d0, d1, d2, d3, d4⟩ := HYr.out.tok hlt
          have hut : u = shZ k t := by
            have := HS3.out j t hj1 ht
            rw [hu] at this
            exact Option.some.inj this
          subst hut
          have htl := HS4.out t (List.mem_of_getElem? ht)
          have HWsz := HW.out.size
          have hWa : wa.heap.size ≤ wr.heap.size := HWsz
          have hbxr : bx < wr.heap.size := by omega
          have hbyr : by_ < wr.heap.size := by omega
          obtain ⟨tk, ti, ts, tl, tc⟩ := t
          by_cases hz : tl = 0 ∧ tc = 0
          · obtain ⟨rfl, rfl⟩ := hz
            rw [show shZ k ⟨tk, ti, ts, ⟨0, 0⟩⟩ = ⟨tk, ti, ts, ⟨0, 0⟩⟩ from by simp [shZ]] at d0 d1 d2 d3 d4
            dsimp only at c0 c1 c2 c3 c4 d0 d1 d2 d3 d4 htl
            clear ht hu
            go_wp2_with (first | ((with_reducible show wpPlan _ _ _ [] _ _ _); refine wpPlan_nil ?_) | ((with_reducible show wpPlan _ _ _ ((_, 0, _) :: _) _ _ _); first | (refine wpPlan_read0 rfl ?hw rfl (fun _ _ _ => ?_); case hw => ((conv => (lhs; whnf)); first | done | with_reducible rfl)) | (refine wpPlan_skip0 rfl ?hw ?_; (case hw => ((conv => (lhs; whnf)); first | done | with_reducible rfl)); (try simp only [List.getElem_toArray, List.getElem_cons_succ, List.getElem_cons_zero, Act.put, List.setIfInBounds_toArray, List.set_cons_zero, List.set_cons_succ]))) | ((with_reducible show wpPlan _ _ _ ((_, 1, _) :: _) _ _ _); first | (refine wpPlan_read1d rfl ?hw rfl rfl (fun _ _ _ => ?_); case hw => ((conv => (lhs; whnf)); first | done | with_reducible rfl)) | (refine wpPlan_skip1d rfl ?hw ?_; (case hw => ((conv => (lhs; whnf)); first | done | with_reducible rfl)); (try simp only [List.getElem_toArray, List.getElem_cons_succ, List.getElem_cons_zero, Act.put, List.setIfInBounds_toArray, List.set_cons_zero, List.set_cons_succ])) | (refine wpPlan_read1 rfl ?hw rfl (fun _ _ _ => ?_); case hw => ((conv => (lhs; whnf)); first | done | with_reducible rfl))) | ((with_reducible show wpPlan _ _ _ ((_, 2, _) :: _) _ _ _); first | (refine wpPlan_eff rfl ?hw (fun _ _ => ?_); case hw => ((conv => (lhs; whnf)); first | done | with_reducible rfl)) | (refine wpPlan_skip2 rfl ?hw ?_; (case hw => ((conv => (lhs; whnf)); first | done | with_reducible rfl)); (try simp only [List.getElem_toArray, List.getElem_cons_succ, List.getElem_cons_zero, Act.put, List.setIfInBounds_toArray, List.set_cons_zero, List.set_cons_succ]))) | ((with_reducible show wpPlan _ _ _ _ _ _ _); refine wpPlan_fork ?_ ?_) | ((with_reducible show Owed _ _ _ [] _ _ _ _ _); refine Owed.none_ ?_) | ((with_reducible show Owed _ _ _ _ [] _ _ _ _); refine Owed.nil_ ?_) | ((with_reducible show Owed _ _ _ _ _ _ _ _ _); first | (refine Owed.miss rfl ?_) | (refine Owed.hit ?_ ?_)) | ((with_reducible show Same _ _ _ _ _); intro _; go_simp; done) | (with_reducible exact True.intro) | ((with_reducible show Code.wp _ (Code.region 18 _ true) _ _ _); refine wp_region_plan [(0, 1, []), (1, 0, []), (2, 0, []), (3, 1, []), (4, 1, []), (5, 1, [])] (by kernel_rfl) (by kernel_rfl) (by kernel_rfl) ?_))
            all_goals exact ⟨⟨j + 1, by omega, by omega, by go_num, (HW.out.alloc hWa _).drew⟩, by simp [intOf]; omega⟩
          · rw [show shZ k ⟨tk, ti, ts, ⟨tl, tc⟩⟩ = ⟨tk, ti, ts, ⟨tl + k, tc⟩⟩ from by simp [shZ, hz, shT, shP]] at d0 d1 d2 d3 d4
            dsimp only at c0 c1 c2 c3 c4 d0 d1 d2 d3 d4 htl
            clear ht hu
            go_wp2_with (first | ((with_reducible show wpPlan _ _ _ [] _ _ _); refine wpPlan_nil ?_) | ((with_reducible show wpPlan _ _ _ ((_, 0, _) :: _) _ _ _); first | (refine wpPlan_read0 rfl ?hw rfl (fun _ _ _ => ?_); case hw => ((conv => (lhs; whnf)); first | done | with_reducible rfl)) | (refine wpPlan_skip0 rfl ?hw ?_; (case hw => ((conv => (lhs; whnf)); first | done | with_reducible rfl)); (try simp only [List.getElem_toArray, List.getElem_cons_succ, List.getElem_cons_zero, Act.put, List.setIfInBounds_toArray, List.set_cons_zero, List.set_cons_succ]))) | ((with_reducible show wpPlan _ _ _ ((_, 1, _) :: _) _ _ _); first | (refine wpPlan_read1d rfl ?hw rfl rfl (fun _ _ _ => ?_); case hw => ((conv => (lhs; whnf)); first | done | with_reducible rfl)) | (refine wpPlan_skip1d rfl ?hw ?_; (case hw => ((conv => (lhs; whnf)); first | done | with_reducible rfl)); (try simp only [List.getElem_toArray, List.getElem_cons_succ, List.getElem_cons_zero, Act.put, List.setIfInBounds_toArray, List.set_cons_zero, List.set_cons_succ])) | (refine wpPlan_read1 rfl ?hw rfl (fun _ _ _ => ?_); case hw => ((conv => (lhs; whnf)); first | done | with_reducible rfl))) | ((with_reducible show wpPlan _ _ _ ((_, 2, _) :: _) _ _ _); first | (refine wpPlan_eff rfl ?hw (fun _ _ => ?_); case hw => ((conv => (lhs; whnf)); first | done | with_reducible rfl)) | (refine wpPlan_skip2 rfl ?hw ?_; (case hw => ((conv => (lhs; whnf)); first | done | with_reducible rfl)); (try simp only [List.getElem_toArray, List.getElem_cons_succ, List.getElem_cons_zero, Act.put, List.setIfInBounds_toArray, List.set_cons_zero, List.set_cons_succ]))) | ((with_reducible show wpPlan _ _ _ _ _ _ _); refine wpPlan_fork ?_ ?_) | ((with_reducible show Owed _ _ _ [] _ _ _ _ _); refine Owed.none_ ?_) | ((with_reducible show Owed _ _ _ _ [] _ _ _ _); refine Owed.nil_ ?_) | ((with_reducible show Owed _ _ _ _ _ _ _ _ _); first | (refine Owed.miss rfl ?_) | (refine Owed.hit ?_ ?_)) | ((with_reducible show Same _ _ _ _ _); intro _; go_simp; done) | (with_reducible exact True.intro) | ((with_reducible show Code.wp _ (Code.region 18 _ true) _ _ _); refine wp_region_plan [(0, 1, []), (1, 0, []), (2, 0, []), (3, 1, []), (4, 1, []), (5, 1, [])] (by kernel_rfl) (by kernel_rfl) (by kernel_rfl) ?_))
            all_goals exact ⟨⟨j + 1, by omega, by omega, by go_num, (HW.out.alloc hWa _).drew⟩, by simp [intOf]; omega⟩
        · go_wp2_with fail
          go_ret
          exact ⟨rfl, HBc.out.trans (HW.out.mono HBc.out.size)⟩

end Go.Proofs.YtgfhkaamkodpjaaDoor
