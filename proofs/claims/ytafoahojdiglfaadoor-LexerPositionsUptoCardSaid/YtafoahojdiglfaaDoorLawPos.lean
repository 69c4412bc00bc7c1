/- LexerPositions: the law -/
import Derived.Test.YtafoahojdiglfaaDoorSt2
import Derived.Test.YtafoahojdiglfaaDoorPcs
namespace Go.Proofs.YtafoahojdiglfaaDoor
open Go Go.RowKit
set_option maxHeartbeats 4000000
attribute [local irreducible] kwB syB clB

theorem pos_step (L : List UInt8) (k : Nat) (hk : k < L.length) (p : Pos) : posAfter (L.take (k + 1)) p = stepP L[k] (posAfter (L.take k) p) := by
  rw [List.take_succ_eq_append_getElem hk, posAfter_append]
  rfl

set_option maxRecDepth 100000 in
theorem offset_any (s : ByteArray) (i : Nat) (p : Pos) (w : World) (hi : i ≤ s.size) (hs : s.size ≤ 1000000000000) (hp : p = posAfter (s.data.toList.take i) ⟨1, 1⟩) :
    Calls Tryd.prog 21 #[.string s, p.v] w fun e w' => e = .returned (.int .i64 i) ∧ Below w.heap.size w w' := by
  obtain ⟨pl, pc⟩ := p
  have HP := Lib.hid hp
  have HN0 := Lib.hid ((Blk.new w 32 #[.int .i64 pl, .int .i64 pc]).alloc (.cells #[.int .i64 1, .int .i64 1] 32))
  have HN1 := Lib.hid (Blk.new (w.alloc (.cells #[.int .i64 pl, .int .i64 pc] 32)) 32 #[.int .i64 1, .int .i64 1])
  have HB0 := Lib.hid (below2 (w := w) (.cells #[.int .i64 pl, .int .i64 pc] 32) (.cells #[.int .i64 1, .int .i64 1] 32))
  have hL : s.data.toList.length = s.size := blen s
  clear hp
  go_enter Tryd.func21, Tryd.ntmps21
  go_wp2
  go_loopw [6] (fun vk wr => ∃ (k : Nat) (ql qc : Int), k ≤ i ∧ vk = .int .i64 k ∧ (⟨ql, qc⟩ : Pos) = posAfter (s.data.toList.take k) ⟨1, 1⟩ ∧ Blk wr w.heap.size 32 #[.int .i64 pl, .int .i64 pc] ∧ Blk wr (w.heap.size + 1) 32 #[.int .i64 ql, .int .i64 qc] ∧ Below w.heap.size w wr) (fun vk _ => i + 1 - (intOf vk).toNat)
  case atStart => exact ⟨0, 1, 1, Nat.zero_le _, rfl, by simp [posAfter], HN0.out, by simpa using HN1.out, HB0.out⟩
  case round =>
    obtain ⟨k, ql, qc, hk, rfl, hq, hA, hB, hb⟩ := hrel
    have HA := Lib.hid hA
    have HB := Lib.hid hB
    have HBB := Lib.hid hb
    have HQ := Lib.hid hq
    have hAc := hA.cell
    have hBc := hB.cell
    have hAl := hA.lt
    have hBl := hB.lt
    have hBf := hB.frozen
    by_cases hlt : k < i
    · have hne : (⟨ql, qc⟩ : Pos) ≠ ⟨pl, pc⟩ := by
        rw [hq, HP.out]
        exact posAfter_ne _ hlt (by omega) _
      have hin := posAfter_in s.data.toList k (by omega)
      rw [← hq] at hin
      obtain ⟨hi1, hi2, hi3, hi4⟩ := hin
      dsimp only at hi1 hi2 hi3 hi4
      have hst := pos_step s.data.toList k (by omega) ⟨1, 1⟩
      rw [← hq] at hst
      have hb0 : s.data.toList[k] = s[k] := rfl
      rw [hb0] at hst
      have HST := Lib.hid hst
      clear hst hb0 hq hA hB hb
      have hks : k < s.size := by omega
      have hcase : (ql == pl) = false ∨ (ql = pl ∧ (qc == pc) = false) := by
        by_cases h : ql = pl
        · refine .inr ⟨h, beq_eq_false_iff_ne.2 fun h2 => hne (by rw [h, h2])⟩
        · exact .inl (beq_eq_false_iff_ne.2 h)
      clear hne
      by_cases hc : s[k] = 10
      · have hcb : (((s[k]).toNat : Int) == 10) = true := by rw [hc]; rfl
        have HCC := Lib.hid hc
        clear hc
        rcases hcase with he | ⟨rfl, he⟩
        all_goals go_wp2_with fail
        all_goals go_roundw
        all_goals first
          | (case rel =>
              refine ⟨k + 1, ql + 1, 1, by omega, by go_num, ?_, (HA.out.far (p := ⟨w.heap.size + 1, 0, none⟩) (by simp) _).far (p := ⟨w.heap.size + 1, 1, none⟩) (by simp) _, (HB.out.put 0 _).put 1 _, (HBB.out.setCell (p := ⟨w.heap.size + 1, 0, none⟩) (by simp) _).setCell (p := ⟨w.heap.size + 1, 1, none⟩) (by simp) _⟩
              rw [HST.out]
              unfold stepP
              rw [if_pos HCC.out])
          | (case measure => simp [intOf]; omega)
      · have hcb : (((s[k]).toNat : Int) == 10) = false := by
          rw [beq_eq_false_iff_ne]
          intro e
          exact hc (UInt8.toNat_inj.1 (by show s[k].toNat = 10; omega))
        have HCC := Lib.hid hc
        clear hc
        rcases hcase with he | ⟨rfl, he⟩
        all_goals go_wp2_with fail
        all_goals go_roundw
        all_goals first
          | (case rel =>
              refine ⟨k + 1, ql, qc + 1, by omega, by go_num, ?_, HA.out.far (p := ⟨w.heap.size + 1, 1, none⟩) (by simp) _, HB.out.put 1 _, HBB.out.setCell (p := ⟨w.heap.size + 1, 1, none⟩) (by simp) _⟩
              rw [HST.out]
              unfold stepP
              rw [if_neg HCC.out])
          | (case measure => simp [intOf]; omega)
    · have hki : k = i := by omega
      subst hki
      rw [← HP.out] at hq
      simp only [Pos.mk.injEq] at hq
      obtain ⟨rfl, rfl⟩ := hq
      clear hA hB hb
      go_wp2_with fail
      go_ret
      exact ⟨rfl, HBB.out⟩

set_option maxRecDepth 100000 in
theorem lexerPositions_law (w : World) (hG : GlobE w.heap.size w)
    (a0 : Option Addr) (n0 c0 : Nat) (l0 : List Nat) (hR0 : Rd w w.heap.size 1 a0 n0 (cellsOf bcell l0)) (hn0 : n0 ≤ 1048576) (hs0 : ∀ y ∈ l0, y < 256)
    (a1 : Option Addr) (n1 c1 : Nat) (l1 : List Int) (hR1 : Rd w w.heap.size 1 a1 n1 (cellsOf icell l1)) (hn1 : n1 ≤ 1048576) :
    Calls Tryd.prog 5 #[.slice a0 n0 c0, .slice a1 n1 c1] w fun e w' => e = .returned (.bool true) ∧ Below w.heap.size w w' := by
  have HG := Lib.hid hG
  have HR1 := Lib.hid hR1
  clear hG hR1
  go_enter Tryd.func5, Tryd.ntmps5
  go_wp2_with fail
  refine (pieces_any w.heap.size a0 n0 c0 l0 _ hR0 (Nat.le_refl _) hn0 hs0).mono ?_
  rintro e w1 ⟨⟨sp, rfl, hsp⟩, hb1⟩
  have HB1 := Lib.hid hb1
  clear hb1 hR0 hs0
  go_wp2_with fail
  refine (layouted_any w.heap.size a1 n1 c1 l1 _ (HR1.out.below HB1.out) HB1.out.size (by omega)).mono ?_
  rintro e w2 ⟨⟨sl, rfl, hsl⟩, hb2⟩
  have HB2 := Lib.hid (HB1.out.trans (hb2.mono HB1.out.size))
  clear hb2 HR1
  go_wp2_with fail
  have hz : ((sp ++ ⟨#[10]⟩) ++ sl : ByteArray).size ≤ 4001 := by
    rw [ByteArray.size_append, ByteArray.size_append]
    show sp.size + 1 + sl.size ≤ _
    omega
  obtain ⟨s, hse⟩ : ∃ s : ByteArray, ((sp ++ ⟨#[10]⟩) ++ sl) = s := ⟨_, rfl⟩
  rw [hse] at hz ⊢
  clear hse hsp hsl
  have hsm := scanS_small s.data.toList
  refine (lscan_any _ s _ (HG.out.below HB2.out) (by omega)).mono ?_
  unfold ScPost
  have hasc := scanS_asc s.data.toList
  obtain ⟨⟨ol, op, oe⟩, hol⟩ : ∃ x, scanS s.data.toList = x := ⟨_, rfl⟩
  rw [hol] at hasc hsm ⊢
  have HOL := Lib.hid hol
  have HASC := Lib.hid hasc
  clear hol hasc
  rintro e w3 ⟨⟨A3, n3, c3, rfl, _, _, hR3⟩, hb3⟩
  have HL3 := Lib.hid (hR3.len Tok.cells_len (by decide))
  have hn3 : n3 ≤ 16384 := by
    have h1 := hsm.2
    have h2 := HL3.out
    (try dsimp only at h1 h2)
    omega
  have HB3 := Lib.hid (HB2.out.trans ((hb3.mono HB2.out.size).alloc (Nat.le_trans HB2.out.size hb3.size) (.cells #[.int .i64 op.line, .int .i64 op.col] 32)))
  have HR3 := Lib.hid (hR3.alloc (Nat.le_refl _) (.cells #[.int .i64 op.line, .int .i64 op.col] 32))
  clear hR3 hb3 hsm
  dsimp only [Pos.v]
  go_wp2_with fail
  refine (lawake_any _ _ (HG.out.below HB3.out)).mono ?_
  rintro e w4 ⟨rfl, hb4⟩
  have HB4 := Lib.hid (HB3.out.trans (hb4.mono HB3.out.size))
  have HR4 := Lib.hid (HR3.out.below (hb4.mono (by simp)))
  have HS4 := Lib.hid (show w3.heap.size ≤ w4.heap.size from Nat.le_trans (by simp) hb4.size)
  clear hb4 HR3
  by_cases h0 : oe = 0
  · subst h0
    have HA0 := Lib.hid (HASC.out rfl)
    go_wp2_with fail
    go_loopw [12, 13] (fun vl vk wr => ∃ (k j : Nat), k ≤ n3 ∧ vk = .int .i64 k ∧ vl = .int .i64 ((j : Int) - 1) ∧ j ≤ 5000 ∧ Hid (Asc s.data.toList j (ol.drop k) ∧ Below w4.heap.size w4 wr)) (fun _ vk _ => n3 - (intOf vk).toNat)
    case atStart => exact ⟨0, 0, Nat.zero_le _, rfl, rfl, by decide, Lib.hid ⟨HA0.out, Below.refl _ _⟩⟩
    case round =>
      obtain ⟨k, j, hk, rfl, rfl, hj, HW⟩ := hrel
      have HBW := Lib.hid HW.out.2
      by_cases hlt : k < n3
      · obtain ⟨b1, o1, t, rfl, hb1, ht, d0, d1, d2, d3, d4⟩ := ((HR4.out.more HS4.out).below HW.out.2).tok hlt
        have hA := HW.out.1
        obtain ⟨hk3, hke⟩ := List.getElem?_eq_some_iff.1 ht
        rw [List.drop_eq_getElem_cons hk3, hke] at hA
        obtain ⟨i, hji, ⟨hp1, hp2, hp3, hp4⟩, hA2⟩ := hA
        rw [blen] at hp3
        obtain ⟨x, hx⟩ : ∃ x : ByteArray, bstr (textS t) = x := ⟨_, rfl⟩
        have hxs : x.size = (textS t).length := by rw [← hx]; rfl
        have hxd : x.data.toList = textS t := by rw [← hx, bstr_list]
        have hext : (s.extract i (i + x.size)).toList = x.toList := eq_of_beq ((ext_eq s x i (by omega)).trans (by rw [hxd]; exact hp2))
        rw [← hxs] at hp3
        have HX := Lib.hid hx
        have HP1 := Lib.hid hp1
        have HAN := Lib.hid hA2
        have HEX := Lib.hid hext
        clear hA2 hp2 hp1 hx hxd hxs hext hke ht
        have d3' : ∀ wq, Below w4.heap.size wr wq → wq.cell? ⟨b1, o1 + k * 5 + 3, none⟩ = some (.int .i64 t.pos.line) := fun wq hbq => (hbq.cell (p := ⟨b1, o1 + k * 5 + 3, none⟩) (by dsimp only; omega)).trans d3
        have d4' : ∀ wq, Below w4.heap.size wr wq → wq.cell? ⟨b1, o1 + k * 5 + 4, none⟩ = some (.int .i64 t.pos.col) := fun wq hbq => (hbq.cell (p := ⟨b1, o1 + k * 5 + 4, none⟩) (by dsimp only; omega)).trans d4
        have HD3 := Lib.hid d3'
        have HD4 := Lib.hid d4'
        clear d3' d4'
        go_wp2_with fail
        refine (text_any t hp4 _).mono ?_
        rw [HX.out]
        rintro e w5 ⟨rfl, hb5⟩
        have HB5 := Lib.hid (HBW.out.trans (hb5.mono HBW.out.size))
        have e3 := HD3.out _ (hb5.mono HBW.out.size)
        have e4 := HD4.out _ (hb5.mono HBW.out.size)
        clear hb5 d0 d1 d2 d3 d4 hp4 HD3 HD4
        have hb1s : b1 < w5.heap.size := by have := HB5.out.size; omega
        go_wp2_with fail
        refine (offset_any s i t.pos _ (by omega) (by omega) HP1.out).mono ?_
        rintro e w6 ⟨rfl, hb6⟩
        have HB6 := Lib.hid (HB5.out.trans (hb6.mono HB5.out.size))
        clear hb6 e3 e4
        have hcmp : ((s.extract i (i + x.size)).toList == x.toList) = true := by rw [HEX.out]; exact beq_self_eq_true _
        have hlt1 : ¬ ((i : Int) ≤ (j : Int) - 1) := by omega
        have hlt2 : ¬ ((s.size : Int) < (i : Int) + (x.size : Int)) := by omega
        go_wp2_with fail
        go_roundw
        case rel => exact ⟨k + 1, i + 1, by omega, by go_num, by go_num, by omega, Lib.hid ⟨HAN.out, HB6.out⟩⟩
        case measure => simp [intOf]; omega
      · go_wp2_with fail
        go_ret
        exact ⟨rfl, HB4.out.trans (HBW.out.mono HB4.out.size)⟩
  · have h0b : (oe == 0) = false := beq_eq_false_iff_ne.2 h0
    go_wp2_with fail
    refine (scan_any s _ (by omega)).mono ?_
    unfold ScPost
    rw [HOL.out]
    rintro e w5 ⟨⟨A5, n5, c5, rfl, _, _, _⟩, hb5⟩
    have HB5 := Lib.hid (HB4.out.trans ((hb5.mono HB4.out.size).alloc (Nat.le_trans HB4.out.size hb5.size) (.cells #[.int .i64 op.line, .int .i64 op.col] 32)))
    clear hb5
    dsimp only [Pos.v]
    go_wp2_with fail
    refine (lawake_any _ _ (HG.out.below HB5.out)).mono ?_
    rintro e w6 ⟨rfl, hb6⟩
    have HB6 := Lib.hid (HB5.out.trans (hb6.mono HB5.out.size))
    clear hb6
    go_wp2_with fail
    go_ret
    exact ⟨ret_bool (by simp), HB6.out⟩

end Go.Proofs.YtafoahojdiglfaaDoor
