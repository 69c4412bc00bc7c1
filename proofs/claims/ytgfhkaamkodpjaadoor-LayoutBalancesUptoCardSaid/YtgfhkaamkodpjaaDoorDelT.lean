/- slices.IndexFunc, Clone and DeleteFunc over tokens; layout.Remove -/
import Derived.Test.YtgfhkaamkodpjaaDoorRem
import Derived.Test.YtgfhkaamkodpjaaDoorRef
import Derived.Test.YtgfhkaamkodpjaaDoorLaws
import Derived.Test.YtgfhkaamkodpjaaDoorIns
import Derived.Test.YtgfhkaamkodpjaaDoorLay7
import Derived.Lib.SliceRun
namespace Go.Proofs.YtgfhkaamkodpjaaDoor
open Go Go.RowKit
set_option maxHeartbeats 4000000
attribute [local irreducible] kwB syB clB

theorem onesTok : ∀ i z, Tryd.prog.info? 40 = some i → i.zero = some z → ∀ v ∈ z.cells.toList, v.oneCell' = true := ones_of infoTok (by decide)

theorem ins_any (t : Tok) (w : World) : Calls Tryd.prog 45 #[t.v] w fun e w' => e = .returned (.bool (insT t)) ∧ Below w.heap.size w w' := inserted_any t w

/-- where the first inserted token stands -/
def tidx (l : List Tok) : Int := if ∃ t ∈ l, insT t = true then ((l.takeWhile fun t => !insT t).length : Int) else -1
theorem tidx_hit {l : List Tok} {t : Tok} {k : Nat} (h1 : ∀ j x, j < k → l[j]? = some x → insT x = false) (h2 : l[k]? = some t) (ht : insT t = true) : tidx l = k := by
  unfold tidx
  have hk : k < l.length := (List.getElem?_eq_some_iff.1 h2).1
  rw [if_pos ⟨t, List.mem_of_getElem? h2, ht⟩, takeWhile_len _ l k (by omega) (fun j x hj hx => by simp [h1 j x hj hx]) (fun x hx => by rw [h2] at hx; cases hx; simp [ht])]
theorem tidx_miss {l : List Tok} (h : ∀ j x, j < l.length → l[j]? = some x → insT x = false) : tidx l = -1 := by
  unfold tidx
  rw [if_neg]
  rintro ⟨t, hm, ht⟩
  obtain ⟨j, hj, he⟩ := List.getElem_of_mem hm
  have := h j t hj (by rw [List.getElem?_eq_getElem hj, he])
  rw [ht] at this
  cases this

theorem indexTok_any (A : Option Addr) (n c B : Nat) (l : List Tok) (w : World) (h : Rd w B 5 A n (cellsOf Tok.cells l)) (hB : B ≤ w.heap.size) (hn : n ≤ 1000000000) :
    Calls Tryd.prog 78 #[.slice A n c, .func (.func 45) #[] #[]] w fun e w' =>
      e = .returned (.int .i64 (tidx l)) ∧ Below w.heap.size w w' := by
  have hl := h.len Tok.cells_len (by decide)
  go_enter Tryd.func78, Tryd.ntmps78
  have H := Lib.hid h
  have HL := Lib.hid hl
  clear h hl
  go_wp2
  go_loopw [5, 8] (fun _ i wr => ∃ k : Nat, k ≤ n ∧ i = .int .i64 k ∧ Hid (∀ j x, j < k → l[j]? = some x → insT x = false) ∧ Below w.heap.size w wr) (fun _ i _ => n - (intOf i).toNat)
  case atStart => exact ⟨0, by omega, rfl, (fun j x h1 => by omega), Below.refl _ _⟩
  case round =>
    obtain ⟨k, hk, rfl, HN, hbw⟩ := hrel
    have HR := H.out.below (hbw.mono hB)
    have HBW := Lib.hid hbw
    by_cases hlt : k < n
    · obtain ⟨bb, off, x, rfl, hbb, hx, hc0, hc1, hc2, hc3, hc4⟩ := HR.tok hlt
      have HX := Lib.hid hx
      obtain ⟨q, hq⟩ : ∃ q, insT x = q := ⟨_, rfl⟩
      have HQ := Lib.hid hq
      clear hx HR hbw hq
      go_wp2_with fail
      refine (ins_any x _).mono ?_
      rw [HQ.out]
      rintro e w' ⟨rfl, hb2⟩
      have HB2 := Lib.hid hb2
      clear hb2
      cases q
      · go_wp2_with fail
        go_roundw
        case rel =>
          refine ⟨k + 1, by omega, by go_num, fun j y h1 hy => ?_, HBW.out.trans (HB2.out.mono HBW.out.size)⟩
          by_cases hj : j = k
          · subst hj
            rw [HX.out] at hy
            cases hy
            exact HQ.out
          · exact HN.out j y (by omega) hy
        case measure => simp [intOf]; omega
      · go_wp2_with fail
        go_ret
        exact ⟨ret_int (tidx_hit HN.out HX.out HQ.out).symm, HBW.out.trans (HB2.out.mono HBW.out.size)⟩
    · clear HR hbw
      go_wp2
      go_ret
      exact ⟨ret_int (tidx_miss (fun j x hj hx => HN.out j x (by have := HL.out; omega) hx)).symm, HBW.out⟩

/-- the row while it is done, j elements having been looked at -/
def midT (l : List Tok) (j : Nat) : List Tok := remS (l.take j) ++ l.drop (remS (l.take j)).length

theorem rem_len (l : List Tok) (j : Nat) : (remS (l.take j)).length ≤ j ∧ (remS (l.take j)).length ≤ l.length := by
  have h1 : (remS (l.take j)).length ≤ (l.take j).length := List.length_filter_le _ _
  rw [List.length_take] at h1
  omega
theorem midT_len (l : List Tok) (j : Nat) : (midT l j).length = l.length := by
  have := rem_len l j
  simp [midT]; omega
theorem midT_get (l : List Tok) (j : Nat) : (midT l j)[j]? = l[j]? := by
  have := rem_len l j
  rw [midT, List.getElem?_append_right this.1, List.getElem?_drop]
  congr 1
  omega
theorem midT_hit {l : List Tok} {t : Tok} {j : Nat} (h : l[j]? = some t) (ht : insT t = true) : midT l (j + 1) = midT l j := by
  rw [midT, remS_hit h ht]; rfl
theorem midT_miss {l : List Tok} {x : Tok} {j : Nat} (h : l[j]? = some x) (hx : insT x = false) : midT l (j + 1) = (midT l j).set (remS (l.take j)).length x := by
  have hk := rem_len l j
  have hj : j < l.length := (List.getElem?_eq_some_iff.1 h).1
  rw [midT, remS_miss h hx, midT, List.set_append_right _ _ (Nat.le_refl _), Nat.sub_self,
    show l.drop (remS (l.take j)).length = l[(remS (l.take j)).length]'(by omega) :: l.drop ((remS (l.take j)).length + 1) from List.drop_eq_getElem_cons (by omega), List.set_cons_zero, List.length_append, List.append_assoc]
  rfl
theorem remS_start {l : List Tok} {k : Nat} (h1 : ∀ j x, j < k → l[j]? = some x → insT x = false) : remS (l.take k) = l.take k := by
  rw [remS, List.filter_eq_self]
  intro x hx
  obtain ⟨j, hj, he⟩ := List.getElem_of_mem hx
  rw [List.length_take] at hj
  rw [List.getElem_take] at he
  simpa using h1 j x (by omega) (by rw [List.getElem?_eq_getElem (by omega), he])
theorem midT_start {l : List Tok} {t : Tok} {k : Nat} (h1 : ∀ j x, j < k → l[j]? = some x → insT x = false) (h2 : l[k]? = some t) (ht : insT t = true) : midT l (k + 1) = l ∧ (remS (l.take (k + 1))).length = k := by
  have hk : k < l.length := (List.getElem?_eq_some_iff.1 h2).1
  rw [midT_hit h2 ht, midT, remS_hit h2 ht, remS_start h1, List.length_take, Nat.min_eq_left (by omega)]
  exact ⟨List.take_append_drop _ _, rfl⟩
theorem midT_end (l : List Tok) : (midT l l.length).take (remS (l.take l.length)).length = remS l := by
  rw [midT, List.take_left, List.take_length]
theorem set5_tok (M : List Tok) (i : Nat) (x : Tok) : ((((((cellsOf Tok.cells M).set (i * 5) (.int .i64 x.kind)).set (i * 5 + 1) (.int .i64 x.int)).set (i * 5 + 2) (.string x.str)).set (i * 5 + 3) (.int .i64 x.pos.line)).set (i * 5 + 4) (.int .i64 x.pos.col)) = cellsOf Tok.cells (M.set i x) := by
  induction M generalizing i with
  | nil => simp [cellsOf]
  | cons y M ih =>
    have e : ∀ M' : List Tok, ∀ z : Tok, cellsOf Tok.cells (z :: M') = .int .i64 z.kind :: .int .i64 z.int :: .string z.str :: .int .i64 z.pos.line :: .int .i64 z.pos.col :: cellsOf Tok.cells M' := fun _ _ => rfl
    cases i with
    | zero => rw [e]; rfl
    | succ i =>
      rw [List.set_cons_succ, e, e, ← ih i, Nat.succ_mul]
      rfl
theorem own_set5 {w : World} {base : Nat} {e : TypeId} {g cap n : Nat} {xs : List Value} (h : w.ownsRow base e 5 (.slice (some ⟨g, 0, none⟩) n cap) n xs) (i : Nat) (u0 u1 u2 u3 u4 : Value) :
    (((((w.setCell ⟨g, i * 5, none⟩ u0).setCell ⟨g, i * 5 + 1, none⟩ u1).setCell ⟨g, i * 5 + 2, none⟩ u2).setCell ⟨g, i * 5 + 3, none⟩ u3).setCell ⟨g, i * 5 + 4, none⟩ u4).ownsRow base e 5 (.slice (some ⟨g, 0, none⟩) n cap) n (((((xs.set (i * 5) u0).set (i * 5 + 1) u1).set (i * 5 + 2) u2).set (i * 5 + 3) u3).set (i * 5 + 4) u4) :=
  (((((((((h.stored (i * 5) u0).1).stored (i * 5 + 1) u1).1).stored (i * 5 + 2) u2).1).stored (i * 5 + 3) u3).1).stored (i * 5 + 4) u4).1
theorem firstT_at {l : List Tok} (h : ∃ t ∈ l, insT t = true) : ∃ (k : Nat) (t : Tok), l[k]? = some t ∧ insT t = true ∧ ∀ j x, j < k → l[j]? = some x → insT x = false := by
  induction l with
  | nil => obtain ⟨_, h, _⟩ := h; cases h
  | cons y l ih =>
    by_cases hy : insT y = true
    · exact ⟨0, y, rfl, hy, fun j x hj => by omega⟩
    · have hy : insT y = false := by simpa using hy
      obtain ⟨t, hm, ht⟩ := h
      obtain ⟨k, t', h1, h2, h3⟩ := ih ⟨t, (List.mem_cons.1 hm).resolve_left (fun e => by subst e; rw [hy] at ht; cases ht), ht⟩
      refine ⟨k + 1, t', by simpa using h1, h2, fun j x hj hx => ?_⟩
      cases j with
      | zero => simp at hx; exact hx ▸ hy
      | succ j => exact h3 j x (by omega) (by simpa using hx)
theorem tidx_cases (l : List Tok) : (tidx l = -1 ∧ remS l = l) ∨ ∃ (k : Nat) (t : Tok), tidx l = k ∧ k < l.length ∧ l[k]? = some t ∧ insT t = true ∧ ∀ j x, j < k → l[j]? = some x → insT x = false := by
  by_cases h : ∃ t ∈ l, insT t = true
  · obtain ⟨k, t, h1, h2, h3⟩ := firstT_at h
    exact .inr ⟨k, t, tidx_hit h3 h1 h2, (List.getElem?_eq_some_iff.1 h1).1, h1, h2, h3⟩
  · left
    refine ⟨by unfold tidx; rw [if_neg h], ?_⟩
    rw [remS, List.filter_eq_self]
    intro x hx
    cases hq : insT x
    · rfl
    · exact absurd ⟨x, hx, hq⟩ h

theorem delTok_any (v : Value) (n : Nat) (l : List Tok) (w : World) (h : w.ownsRow 0 40 5 v n (cellsOf Tok.cells l)) (hn : n ≤ 1000000000) :
    Calls Tryd.prog 43 #[v, .func (.func 45) #[] #[]] w fun e w' =>
      ∃ v', e = .returned v' ∧ w'.ownsRow 0 40 5 v' (remS l).length (cellsOf Tok.cells (remS l)) ∧ Outside (fun k => v.ownBlock = some k) w w' ∧ v'.ownBlock = v.ownBlock := by
  obtain ⟨A, cap, rfl, hcap, hmax⟩ := own_form h
  have hR := Rd.ofOwn h
  have hl : l.length = n := hR.len Tok.cells_len (by decide)
  have Hh := Lib.hid h
  have HR := Lib.hid hR
  have HL := Lib.hid hl
  have Hmax := Lib.hid hmax
  clear h hR hmax
  rcases tidx_cases l with ⟨hp, hk⟩ | ⟨k0, t0, hp, hk0, hk1, hkt, hk2⟩
  · have HK := Lib.hid hk
    have HP := Lib.hid hp
    clear hl hk hp
    go_enter Tryd.func43, Tryd.ntmps43
    go_wp2_with fail
    refine (indexTok_any _ _ _ _ l _ HR.out (Nat.le_refl _) hn).mono ?_
    rw [HP.out]
    rintro e w' ⟨rfl, hb2⟩
    have HB2 := Lib.hid hb2
    clear hb2
    go_wp2_with fail
    go_ret
    refine ⟨_, rfl, ?_, (Below.new HB2.out).mono (fun _ _ h => h.elim), rfl⟩
    rw [HK.out, HL.out]
    exact own_out Hh.out (Below.new HB2.out) (fun _ _ h => h)
  · have hn0 : k0 < n := by omega
    have HP := Lib.hid hp
    have HK1 := Lib.hid hk1
    have HK2 := Lib.hid hk2
    have hne : ((k0 : Int) == -1) = false := by rw [beq_eq_false_iff_ne]; omega
    obtain ⟨g, cap', he, _, hglt⟩ := Hh.out.form (by omega)
    obtain ⟨rfl, rfl⟩ : A = some ⟨g, 0, none⟩ ∧ cap' = cap := by injection he with h1 _ h3; exact ⟨h1, h3.symm⟩
    have HM := Lib.hid (midT_start hk2 hk1 hkt)
    clear hl hp hk1 hk2 hk0 he hkt
    go_enter Tryd.func43, Tryd.ntmps43
    go_wp2_with fail
    refine (indexTok_any _ _ _ _ l _ HR.out (Nat.le_refl _) hn).mono ?_
    rw [HP.out]
    rintro e w' ⟨rfl, hb2⟩
    have HB2 := Lib.hid hb2
    clear hb2
    go_wp2_with fail
    go_loopw [5, 6] (fun i j wr => ∃ m k : Nat, i = .int .i64 m ∧ j = .int .i64 k ∧ m < k ∧ k ≤ n ∧ Hid (m = (remS (l.take k)).length) ∧
        Hid (wr.ownsRow 0 40 5 (.slice (some ⟨g, 0, none⟩) n cap') n (cellsOf Tok.cells (midT l k))) ∧ Hid (Outside (fun x => x = g) w wr)) (fun _ j _ => n - (intOf j).toNat)
    case atStart =>
      refine ⟨k0, k0 + 1, rfl, by first | rfl | go_num, by omega, by omega, HM.out.2.symm, ?_, (Below.new HB2.out).mono (fun _ _ h => h.elim)⟩
      show World.ownsRow _ _ _ _ _ _ _
      rw [HM.out.1]
      exact own_out Hh.out (Below.new HB2.out) (fun _ _ h => h)
    case round =>
      obtain ⟨m, k, rfl, rfl, hmk, hkn, HMK, HO, HW⟩ := hrel
      by_cases hlt : k < n
      · obtain ⟨x, hx⟩ : ∃ x, l[k]? = some x := ⟨_, List.getElem?_eq_getElem (by have := HL.out; omega)⟩
        have hmx := midT_get l k
        rw [hx] at hmx
        have HX := Lib.hid hx
        have hcell : ∀ j (hj : j < 5), wr.cell? ⟨g, k * 5 + j, none⟩ = x.cells[j]? := fun j hj => (HO.out.cellAt (k * 5 + j) (by omega)).trans (by rw [cellsOf_get Tok.cells_len _ k j hj, hmx]; rfl)
        have hc0 : wr.cell? ⟨g, k * 5, none⟩ = some (.int .i64 x.kind) := hcell 0 (by decide)
        have hc1 : wr.cell? ⟨g, k * 5 + 1, none⟩ = some (.int .i64 x.int) := hcell 1 (by decide)
        have hc2 : wr.cell? ⟨g, k * 5 + 2, none⟩ = some (.string x.str) := hcell 2 (by decide)
        have hc3 : wr.cell? ⟨g, k * 5 + 3, none⟩ = some (.int .i64 x.pos.line) := hcell 3 (by decide)
        have hc4 : wr.cell? ⟨g, k * 5 + 4, none⟩ = some (.int .i64 x.pos.col) := hcell 4 (by decide)
        obtain ⟨y, hy⟩ : ∃ y, (midT l k)[m]? = some y := ⟨_, List.getElem?_eq_getElem (by rw [midT_len, HL.out]; omega)⟩
        have HY := Lib.hid hy
        have hgw : g < wr.heap.size := own_lt HO.out rfl
        obtain ⟨q, hq⟩ : ∃ q, insT x = q := ⟨_, rfl⟩
        have HQ := Lib.hid hq
        clear hx hmx hcell hy hq
        go_wp2_with fail
        refine (ins_any x _).mono ?_
        rw [HQ.out]
        rintro e w2 ⟨rfl, hb3⟩
        have HB4 := Lib.hid hb3
        have hO2 := own_out (HO.out.alloc (.cells x.cells.toArray 40)) (Below.new hb3) (fun _ _ h => h)
        have HN := (Blk.new wr 40 x.cells.toArray).below hb3 (by simp)
        have HO2 := Lib.hid hO2
        cases q
        · have hn0 : w2.cell? ⟨wr.heap.size, 0, none⟩ = some (.int .i64 x.kind) := HN.cell 0
          have hn1 : w2.cell? ⟨wr.heap.size, 1, none⟩ = some (.int .i64 x.int) := HN.cell 1
          have hn2 : w2.cell? ⟨wr.heap.size, 2, none⟩ = some (.string x.str) := HN.cell 2
          have hn3 : w2.cell? ⟨wr.heap.size, 3, none⟩ = some (.int .i64 x.pos.line) := HN.cell 3
          have hn4 : w2.cell? ⟨wr.heap.size, 4, none⟩ = some (.int .i64 x.pos.col) := HN.cell 4
          have hfz := hO2.frozenAt
          have hmc : ∀ j (hj : j < 5), w2.cell? ⟨g, m * 5 + j, none⟩ = y.cells[j]? := fun j hj => (hO2.cellAt (m * 5 + j) (by omega)).trans (by rw [cellsOf_get Tok.cells_len _ m j hj, HY.out]; rfl)
          have hm0 : w2.cell? ⟨g, m * 5, none⟩ = some (.int .i64 y.kind) := hmc 0 (by decide)
          have hm1 : w2.cell? ⟨g, m * 5 + 1, none⟩ = some (.int .i64 y.int) := hmc 1 (by decide)
          have hm2 : w2.cell? ⟨g, m * 5 + 2, none⟩ = some (.string y.str) := hmc 2 (by decide)
          have hm3 : w2.cell? ⟨g, m * 5 + 3, none⟩ = some (.int .i64 y.pos.line) := hmc 3 (by decide)
          have hm4 : w2.cell? ⟨g, m * 5 + 4, none⟩ = some (.int .i64 y.pos.col) := hmc 4 (by decide)
          clear hb3 hO2 HN hmc
          go_wp2_with fail
          go_roundw
          case rel =>
            refine ⟨m + 1, k + 1, by go_num, by go_num, by omega, by omega, ?_, ?_, ?_⟩
            · show m + 1 = _
              rw [remS_miss HX.out HQ.out, List.length_append, ← HMK.out]
              rfl
            · show World.ownsRow _ _ _ _ _ _ _
              rw [midT_miss HX.out HQ.out, ← HMK.out, ← set5_tok]
              exact own_set5 HO2.out m _ _ _ _ _
            · exact ((((((((HW.out.alloc _).trans ((Below.new HB4.out).mono (fun _ _ h => h.elim)))).setCell (p := ⟨g, m * 5, none⟩) (Or.inl rfl) _).setCell (p := ⟨g, m * 5 + 1, none⟩) (Or.inl rfl) _).setCell (p := ⟨g, m * 5 + 2, none⟩) (Or.inl rfl) _).setCell (p := ⟨g, m * 5 + 3, none⟩) (Or.inl rfl) _).setCell (p := ⟨g, m * 5 + 4, none⟩) (Or.inl rfl) _)
          case measure => simp [intOf]; omega
        · clear hb3 hO2 HN
          go_wp2_with fail
          go_roundw
          case rel =>
            refine ⟨m, k + 1, rfl, by go_num, by omega, by omega, ?_, ?_, ?_⟩
            · show m = _
              rw [remS_hit HX.out HQ.out, ← HMK.out]
            · show World.ownsRow _ _ _ _ _ _ _
              rw [midT_hit HX.out HQ.out]
              exact HO2.out
            · exact (HW.out.alloc _).trans ((Below.new HB4.out).mono (fun _ _ h => h.elim))
          case measure => simp [intOf]; omega
      · have hkn' : k = n := by omega
        subst hkn'
        have hcm : ¬ cap' = m := by omega
        go_wp2_with (first | ((with_reducible show wpList _ _ _ ({ dst := none, op := Op.call { callee := Callee.builtin Builtin.clear, args := _, argTypes := _ }, type := _, pos := _, after := _, guard := _ } :: _) _ _); refine wpList_plain rfl fun K hK => ?_; refine clear_own (i := m) slTok rfl rfl onesTok HO.out (by rfl) (by omega) (by omega) ?_; intro w3 ho3 hg3; refine hK _ _ ?_; clear hK; have HO3 := Lib.hid ho3; have HG3 := Lib.hid hg3; clear ho3 hg3))
        go_ret
        refine ⟨_, rfl, ?_, ?_, rfl⟩
        case refine_2 =>
          have h1 : Outside (fun x => x = g) w w3 := HW.out.grown HG3.out (fun k h => Or.inl (by cases h; rfl))
          exact h1.mono (fun k _ h => by subst h; rfl)
        have e1 : (remS l).length = m := by
          have := HMK.out
          rw [← HL.out, List.take_length] at this
          exact this.symm
        rw [e1, ← midT_end, HL.out, ← HMK.out, cellsOf_take Tok.cells_len]
        exact HO3.out

/-- append of what reads at a place, at the operation. -/
theorem app_rd {P : Program} {w : World} {o : Oper} {a : Act} {K : Act → World → Prop} {Q : Exit → Act → World → Prop} {s x : Operand} {t e : TypeId} {size bytes : Nat}
    (hT : SlT P t e size bytes) (ho : o.op = .call { callee := .builtin .append, args := #[s, x], argTypes := #[t, t] })
    {v : Value} {n : Nat} {xs : List Value} (hown : w.ownsRow 0 e size v n xs) (hs : a.eval s = v)
    {ad : Addr} {B m c : Nat} {news : List Value} (hB : Rd w B size (some ad) m news) (hx : a.eval x = .slice (some ad) m c) (h1 : ∀ u ∈ news, u.oneCell' = true)
    (h63 : n + m ≤ maxLen) (hbytes : (n + m) * bytes ≤ 140737488355328)
    (h : ∀ v' w', w'.ownsRow 0 e size v' (n + m) (xs ++ news) → w.grownBy w' v.ownBlock → (v'.ownBlock = v.ownBlock ∨ v'.ownBlock = some w.heap.size) → K (a.put o.dst v') w') : o.wp P a w K Q := by
  obtain ⟨i, z, h2, h3, h4, h5, h6, h7, h8⟩ := hT
  have hnews : ∀ j u, news[j]? = some u → w.cell? (ad.add j) = some u := fun j u hu => by
    have hm : 0 < m := by
      have h0 := hB.1
      have := (List.getElem?_eq_some_iff.1 hu).1
      rcases Nat.eq_zero_or_pos m with e | e
      · rw [e] at h0; simp at h0; rw [h0] at this; simp at this
      · exact e
    obtain ⟨b, off, e, _, hc⟩ := hB.2 hm
    cases e
    rw [show (⟨b, off, none⟩ : Addr).add j = ⟨b, off + j, none⟩ from by simp [Addr.add]; try (intro h0; subst h0; rfl)]
    exact hc j u hu
  obtain ⟨v', w', hr, a1, a2, _, a3⟩ := run_append_own_at (P := P) w 0 t o.type e i z size bytes h2 h3 h4 h5 h6 h7 h8 v n xs hown ad m c news hB.1 hnews h1 h63 hbytes (Nat.zero_le _)
  unfold Oper.wp execOp
  simp only [ho, resolve, invoke, builtin, Sem.run_bind, Sem.run_pure, Result.andThen_ok, List.map_toArray, List.map_cons, List.map_nil, hs, hx, hr]
  exact h v' w' a1 a2 a3

theorem tok_ones (l : List Tok) : ∀ u ∈ cellsOf Tok.cells l, u.oneCell' = true := cellsOf_one_cell (fun x u hu => by
  simp [Tok.cells] at hu
  rcases hu with rfl | rfl | rfl | rfl | rfl <;> rfl) l

set_option maxRecDepth 100000 in
theorem clone_any (A : Option Addr) (n c B : Nat) (l : List Tok) (w : World) (h : Rd w B 5 A n (cellsOf Tok.cells l)) (hB : B ≤ w.heap.size) (hA : A = none → c = 0 ∧ n = 0) (hn : n ≤ 1000000000) :
    Calls Tryd.prog 44 #[.slice A n c] w fun e w' =>
      ∃ v', e = .returned v' ∧ w'.ownsRow 0 40 5 v' n (cellsOf Tok.cells l) ∧ Below w.heap.size w w' ∧ ∀ g, v'.ownBlock = some g → w.heap.size ≤ g := by
  have H := Lib.hid h
  have qT : ∀ (w : World) (a : Option Addr) (n c n' c' : Nat), (binOp .eql 22 (.slice a n c) (.slice none n' c')).run Tryd.prog w = .ok (.bool a.isNone) w := fun w a n c n' c' => Lib.run_eql_slice_nil w _ _ a n c n' c' Tryd.underlying22
  cases A with
  | none =>
    obtain ⟨rfl, rfl⟩ := hA rfl
    have HL := Lib.hid (h.len Tok.cells_len (by decide))
    clear h
    go_enter Tryd.func44, Tryd.ntmps44
    go_wp2
    go_ret
    have hl : l = [] := List.length_eq_zero_iff.1 HL.out
    subst hl
    exact ⟨_, rfl, World.ownsRow_nil _ _ _ _, Below.refl _ _, fun g hg => by cases hg⟩
  | some ad =>
    clear h hA
    go_enter Tryd.func44, Tryd.ntmps44
    go_wp2_with (first | (at_builtin; refine Stop.intro ?_))
    unfold Stop
    have hown : (w.alloc (Obj.cells #[] 40)).ownsRow 0 40 5 (.slice (some ⟨w.heap.size, 0, none⟩) 0 0) 0 [] :=
      ⟨rfl, .inr ⟨w.heap.size, 0, #[], rfl, Nat.zero_le _, heap_alloc_new w _, Nat.le_refl _, by simp [maxLen], rfl, rfl⟩⟩
    refine wpList_plain rfl fun K hK => ?_
    refine app_rd slTok rfl hown rfl (H.out.alloc hB (Obj.cells #[] 40)) (c := c) rfl (tok_ones l) (by unfold maxLen; omega) (by omega) ?_
    intro v7 w7 hown7 hgrow7 hat7
    refine hK _ _ ?_
    clear hK
    go_wp2_with fail
    go_ret
    refine ⟨v7, rfl, by simpa using hown7, ?_, fun g hg => ?_⟩
    · have hb := (Below.refl w.heap.size w).alloc (Nat.le_refl _) (Obj.cells #[] 40)
      have hO : Outside (fun z => z = w.heap.size) (w.alloc (Obj.cells #[] 40)) w7 := (Outside.refl _ _).grown hgrow7 (fun z hz => .inl (by cases hz; rfl))
      exact hb.trans (hO.below hb.size (fun z hz e => by omega))
    · rcases hat7 with h1 | h1 <;> rw [h1] at hg <;> cases hg
      · exact Nat.le_refl _
      · simp

set_option maxRecDepth 100000 in
theorem lremove_any (A : Option Addr) (n c B : Nat) (l : List Tok) (w : World) (h : Rd w B 5 A n (cellsOf Tok.cells l)) (hB : B ≤ w.heap.size) (hA : A = none → c = 0 ∧ n = 0) (hn : n ≤ 1000000000) :
    Calls Tryd.prog 22 #[.slice A n c] w fun e w' =>
      ∃ A' n', e = .returned (.slice A' n' n') ∧ Rd w' w'.heap.size 5 A' n' (cellsOf Tok.cells (remS l)) ∧ Below w.heap.size w w' := by
  have H := Lib.hid h
  have HL := Lib.hid (h.len Tok.cells_len (by decide))
  clear h
  go_enter Tryd.func22, Tryd.ntmps22
  go_wp2_with fail
  refine (clone_any A n c B l _ H.out hB hA hn).mono ?_
  rintro e w1 ⟨v1, rfl, hO1, hb1, hlo1⟩
  have HO1 := Lib.hid hO1
  have HB1 := Lib.hid hb1
  have HL1 := Lib.hid hlo1
  clear hO1 hb1 hlo1
  go_wp2_with fail
  refine (delTok_any v1 n l _ HO1.out hn).mono ?_
  rintro e w2 ⟨v2, rfl, hO2, hb2, _⟩
  obtain ⟨A2, c2, rfl, hc2, hm2⟩ := own_form hO2
  have HO2 := Lib.hid hO2
  have HB2 := Lib.hid (HB1.out.trans (hb2.below HB1.out.size (fun z hz e => by have := HL1.out z e; omega)))
  clear hO2 hb2
  go_wp2_with fail
  refine (clip_any A2 _ c2 _ hc2 hm2).mono ?_
  rintro e w3 ⟨rfl, rfl⟩
  go_wp2_with fail
  go_ret
  exact ⟨_, _, rfl, Rd.ofOwn HO2.out, HB2.out⟩

end Go.Proofs.YtgfhkaamkodpjaaDoor
