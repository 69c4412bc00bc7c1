/- LexerSeparators: the law -/
import Derived.Test.YtafoahojdiglfaaDoorSt2
namespace Go.Proofs.YtafoahojdiglfaaDoor
open Go Go.RowKit
set_option maxHeartbeats 4000000
attribute [local irreducible] kwB syB clB

theorem txt_snoc : ∀ (l : List Tok) (ws : List (List UInt8)) (t : Tok), txt (sepJ (l ++ [t]) ws) = txt (sepJ l ws) ++ (textS t ++ ((ws[l.length]?).getD [] ++ [32]))
  | [], [], t => by simp [sepJ, txt]
  | [], w :: ws, t => by cases ws <;> simp [sepJ, txt]
  | x :: r, [], t => by
    have h := txt_snoc r [] t
    rw [List.cons_append, sepJ, txt, h, sepJ, txt]
    simp
  | x :: r, w :: ws, t => by
    have h := txt_snoc r ws t
    rw [List.cons_append, sepJ, txt, h, sepJ, txt]
    simp
theorem sepJ_len : ∀ (l : List Tok) (ws : List (List UInt8)), (sepJ l ws).length = l.length
  | [], _ => rfl
  | t :: r, [] => by rw [sepJ, List.length_cons, sepJ_len, List.length_cons]
  | t :: r, w :: ws => by rw [sepJ, List.length_cons, sepJ_len, List.length_cons]
theorem sepJ_map (f : Tok → Int × Int × ByteArray) : ∀ (l : List Tok) (ws : List (List UInt8)), ((sepJ l ws).map fun x => f x.1) = l.map f
  | [], _ => rfl
  | t :: r, [] => by rw [sepJ, List.map_cons, sepJ_map, List.map_cons]
  | t :: r, w :: ws => by rw [sepJ, List.map_cons, sepJ_map, List.map_cons]
/-- the separators as they stand in the program -/
def sepB : List ByteArray := [⟨#[32]⟩, ⟨#[10]⟩, ⟨#[9, 13, 10]⟩, ⟨#[32, 123, 45, 32, 120, 32, 123, 45, 32, 121, 32, 45, 125, 32, 45, 45, 32, 45, 125, 32]⟩, ⟨#[32, 45, 45, 32, 122, 10]⟩, ⟨#[32, 123, 45, 45, 125]⟩]
theorem sepB_len : sepB.length = 6 := rfl
theorem sepB_mem : ∀ x ∈ sepB, x.data.toList ∈ sepL ∧ x.size ≤ 20 := by decide
def wsOf (l : List Nat) : List (List UInt8) := l.map fun y => ((sepB[y % 6]?).getD ⟨#[]⟩).data.toList
theorem wsOf_mem (l : List Nat) : ∀ w ∈ wsOf l, w ∈ sepL := by
  intro w hw
  obtain ⟨y, _, rfl⟩ := List.mem_map.1 hw
  have h6 : y % 6 < sepB.length := by rw [sepB_len]; omega
  rw [List.getElem?_eq_getElem h6]
  exact (sepB_mem _ (List.getElem_mem h6)).1
theorem pick_get {w : World} {N : Nat} {t : TypeId} {l : List ByteArray} (h : Blk w N t (cellsOf scell l).toArray) (k : Nat) (hk : k < l.length) : ∃ x, w.cell? ⟨N, k, none⟩ = some (.string x) ∧ l[k]? = some x := by
  refine ⟨l[k], (h.cell k).trans ?_, List.getElem?_eq_getElem hk⟩
  have := cellsOf_get scell_len l k 0 (by decide)
  simp only [Nat.mul_one, Nat.add_zero] at this
  simp only [List.getElem?_toArray, this, List.getElem?_eq_getElem hk]
  rfl
theorem valid_int {t : Tok} (h : validTok t = true) (hk : t.kind = 2) : 0 ≤ t.int := by
  unfold validTok at h
  rw [if_neg (by rw [hk]; decide), if_pos hk] at h
  simp only [Bool.and_eq_true, decide_eq_true_eq] at h
  exact h.1
theorem app_list (a b : ByteArray) : (a ++ b).data.toList = a.data.toList ++ b.data.toList := by simp [ByteArray.data_append]
theorem sep_next {l : List Tok} {k : Nat} {t : Tok} {z : List Nat} {s x : ByteArray} (ht : l[k]? = some t) (hs : s.data.toList = txt (sepJ (l.take k) (wsOf z))) (hx : ((wsOf z)[k]?).getD [] = x.data.toList) :
    (((s ++ bstr (textS t)) ++ x) ++ ⟨#[32]⟩ : ByteArray).data.toList = txt (sepJ (l.take (k + 1)) (wsOf z)) := by
  obtain ⟨hk, he⟩ := List.getElem?_eq_some_iff.1 ht
  rw [List.take_succ_eq_append_getElem hk, he, txt_snoc, List.length_take, Nat.min_eq_left (by omega), hx, ← hs, app_list, app_list, app_list, bstr_list]
  simp
theorem out_len {l m : List Tok} (h : l.map bareT = m.map bareT) : l.length = m.length := by
  have := congrArg List.length h
  rwa [List.length_map, List.length_map] at this

set_option maxRecDepth 100000 in
theorem lexerSeparators_law (w : World) (hG : GlobE w.heap.size w)
    (a0 : Option Addr) (n0 c0 : Nat) (l0 : List Tok) (hR0 : Rd w w.heap.size 5 a0 n0 (cellsOf Tok.cells l0)) (_hnil0 : a0 = none → c0 = 0 ∧ n0 = 0) (hn0 : n0 ≤ 1048576) (hs0 : ∀ t ∈ l0, TokIn t)
    (a1 : Option Addr) (n1 c1 : Nat) (l1 : List Nat) (hR1 : Rd w w.heap.size 1 a1 n1 (cellsOf bcell l1)) (hn1 : n1 ≤ 1048576) (hs1 : ∀ y ∈ l1, y < 256) :
    Calls Tryd.prog 6 #[.slice a0 n0 c0, .slice a1 n1 c1] w fun e w' => e = .returned (.bool true) ∧ Below w.heap.size w w' := by
  have HG := Lib.hid hG
  have HR1 := Lib.hid hR1
  have HS1 := Lib.hid hs1
  have HL1 := Lib.hid (hR1.len bcell_len (by decide))
  have HR0 := Lib.hid (hR0.alloc (Nat.le_refl _) (.cells (cellsOf scell sepB).toArray 9))
  have HN := Lib.hid (Blk.new w 9 (cellsOf scell sepB).toArray)
  have HB := Lib.hid ((Below.refl w.heap.size w).alloc (Nat.le_refl _) (.cells (cellsOf scell sepB).toArray 9))
  have HS0 := Lib.hid hs0
  clear hG hR1 hs1 hR0 hs0
  go_enter Tryd.func6, Tryd.ntmps6
  go_wp2_with fail
  refine (someTokens_any a0 n0 c0 w.heap.size l0 _ HR0.out (by simp) (by omega) HS0.out).mono ?_
  rintro e w1 ⟨⟨A1, m1, d1, ls, rfl, hRs, hls, hm1⟩, hb1⟩
  have HB1 := Lib.hid (HB.out.trans (hb1.mono (by simp)))
  have HN1 := Lib.hid (HN.out.below hb1 HN.out.lt)
  have HRs := Lib.hid hRs
  have HLs := Lib.hid hls
  clear hRs hls hb1 HR0 HS0 HB HN
  go_wp2_with fail
  refine (lvalid_any A1 m1 d1 w1.heap.size ls _ HRs.out (Nat.le_refl _) (by omega) HLs.out).mono ?_
  rintro e w2 ⟨⟨A2, m2, d2, lv, rfl, hRv, hlv, hm2⟩, hb2⟩
  have HB2 := Lib.hid (HB1.out.trans (hb2.mono HB1.out.size))
  have HN2 := Lib.hid (HN1.out.below hb2 HN1.out.lt)
  have HRv := Lib.hid hRv
  have HLv := Lib.hid hlv
  have HLn := Lib.hid (hRv.len Tok.cells_len (by decide))
  clear hRv hlv hb2 HRs HLs HB1 HN1
  go_wp2
  go_loopw [7, 8] (fun vs vk wr => ∃ (k : Nat) (s : ByteArray), k ≤ m2 ∧ vk = .int .i64 k ∧ vs = .string s ∧ s.size ≤ 100 * k ∧ Hid (s.data.toList = txt (sepJ (lv.take k) (wsOf l1)) ∧ Below w2.heap.size w2 wr)) (fun _ vk _ => m2 - (intOf vk).toNat)
  case atStart => exact ⟨0, _, Nat.zero_le _, rfl, rfl, by decide, Lib.hid ⟨by simp [sepJ, txt], Below.refl _ _⟩⟩
  case round =>
    obtain ⟨k, s, hk, rfl, rfl, hsz, HW⟩ := hrel
    have HBw := Lib.hid (HB2.out.trans (HW.out.2.mono HB2.out.size))
    have HNw := Lib.hid (HN2.out.below HW.out.2 HN2.out.lt)
    by_cases hlt : k < m2
    · obtain ⟨b1, o1, t, rfl, hb1, ht, c0, c1, c2, c3, c4⟩ := ((HRv.out.below HW.out.2)).tok hlt
      obtain ⟨htin, htv⟩ := HLv.out t (List.mem_of_getElem? ht)
      have htok : TextOk t := text_ok htv htin.1.2
      have HTL := Lib.hid htok.len
      have hti : t.kind = 2 → 0 ≤ t.int ∧ t.int ≤ maxI := fun h2 => ⟨valid_int htv h2, htin.1.2⟩
      have HTK := Lib.hid ht
      clear ht htin htv htok
      go_wp2_with fail
      refine (text_any t hti _).mono ?_
      rintro e w3 ⟨rfl, hb3⟩
      have HB3 := Lib.hid (HW.out.2.trans (hb3.mono HW.out.2.size))
      have HN3 := Lib.hid (HNw.out.below hb3 HNw.out.lt)
      clear hb3 c0 c1 c2 c3 c4 hti
      have hts : (bstr (textS t)).size ≤ 64 := HTL.out
      by_cases hl1 : k < n1
      · obtain ⟨b2, o2, y, rfl, hb2, hy, e0⟩ := (HR1.out.below (HB2.out.trans (HB3.out.mono HB2.out.size))).byte hl1
        obtain ⟨x, hx, hxl⟩ := pick_get HN3.out (y % 6) (by rw [sepB_len]; omega)
        have hxs : x.size ≤ 20 := (sepB_mem x (List.mem_of_getElem? hxl)).2
        have hD : (((s ++ bstr (textS t)) ++ x) ++ ⟨#[32]⟩ : ByteArray).data.toList = txt (sepJ (lv.take (k + 1)) (wsOf l1)) := sep_next HTK.out HW.out.1 (by rw [wsOf, List.getElem?_map, hy, Option.map_some, hxl]; rfl)
        have hZ : (((s ++ bstr (textS t)) ++ x) ++ ⟨#[32]⟩ : ByteArray).size ≤ 100 * (k + 1) := by
          rw [ByteArray.size_append, ByteArray.size_append, ByteArray.size_append]
          show s.size + _ + x.size + 1 ≤ _
          omega
        have hy256 := HS1.out y (List.mem_of_getElem? hy)
        have HD := Lib.hid (And.intro hD hZ)
        clear hD hZ hxl hy
        go_wp2_with fail
        go_round
        case rel => exact ⟨k + 1, _, by omega, by go_num, rfl, HD.out.2, Lib.hid ⟨HD.out.1, HB3.out⟩⟩
        case measure => simp [intOf]; omega
      · have hD : (((s ++ bstr (textS t)) ++ ⟨#[]⟩) ++ ⟨#[32]⟩ : ByteArray).data.toList = txt (sepJ (lv.take (k + 1)) (wsOf l1)) := sep_next HTK.out HW.out.1 (by rw [List.getElem?_eq_none (by rw [wsOf, List.length_map, HL1.out]; omega)]; rfl)
        rw [show (s ++ bstr (textS t)) ++ (⟨#[]⟩ : ByteArray) = s ++ bstr (textS t) from ByteArray.append_empty] at hD
        have hZ : ((s ++ bstr (textS t)) ++ ⟨#[32]⟩ : ByteArray).size ≤ 100 * (k + 1) := by
          rw [ByteArray.size_append, ByteArray.size_append]
          show s.size + _ + 1 ≤ _
          omega
        have HD := Lib.hid (And.intro hD hZ)
        clear hD hZ
        go_wp2_with fail
        go_round
        case rel => exact ⟨k + 1, _, by omega, by go_num, rfl, HD.out.2, Lib.hid ⟨HD.out.1, HB3.out⟩⟩
        case measure => simp [intOf]; omega
    · have hk2 : lv.take k = lv := List.take_of_length_le (by rw [HLn.out]; omega)
      have hT := HW.out.1
      rw [hk2] at hT
      obtain ⟨out, ho1, ho2⟩ := gscanS (sepJ lv (wsOf l1)) (sepJ_good lv _ (fun t ht => text_ok (HLv.out t ht).2 (HLv.out t ht).1.1.2) (wsOf_mem l1)) (by rw [sepJ_len, HLn.out]; omega) (by rw [← hT, blen]; omega)
      rw [sepJ_map] at ho2
      have HO2 := Lib.hid ho2
      have HO1 := Lib.hid (show scanS s.data.toList = (out, ⟨0, 0⟩, 0) by rw [hT, ho1])
      have HWB := Lib.hid HW.out.2
      clear hT ho1 ho2 hk2 HW HN2 HNw
      go_wp2_with fail
      refine (lscan_any _ s _ (HG.out.below HBw.out) (by omega)).mono ?_
      unfold ScPost
      rw [HO1.out]
      rintro e w4 ⟨⟨A4, n4, c4, rfl, _, _, hR4⟩, hb4⟩
      have hn4 : n4 = m2 := by
        have h1 := hR4.len Tok.cells_len (by decide)
        have h2 := out_len HO2.out
        have h3 := HLn.out
        dsimp only at h1
        omega
      subst hn4
      have HB4 := Lib.hid (HBw.out.trans ((hb4.mono HBw.out.size).alloc (Nat.le_trans HBw.out.size hb4.size) (.cells #[.int .i64 0, .int .i64 0] 32)))
      have HV4 := Lib.hid ((HRv.out.below (HWB.out.trans ((hb4.mono HWB.out.size).alloc (Nat.le_trans HWB.out.size hb4.size) (.cells #[.int .i64 0, .int .i64 0] 32)))))
      have HR4 := Lib.hid (hR4.alloc (Nat.le_refl _) (.cells #[.int .i64 0, .int .i64 0] 32))
      have HS4 := Lib.hid (Nat.le_trans HWB.out.size hb4.size)
      clear hR4 hb4
      dsimp only [Pos.v]
      go_wp2_with fail
      refine (lawake_any _ _ (HG.out.below HB4.out)).mono ?_
      rintro e w5 ⟨rfl, hb5⟩
      have HB5 := Lib.hid (HB4.out.trans (hb5.mono HB4.out.size))
      have HR5 := Lib.hid (HR4.out.below (hb5.mono (by simp)))
      have HV5 := Lib.hid ((HV4.out.below (hb5.mono (by have := HS4.out; simp; omega))).more HS4.out)
      have HS5 := Lib.hid (show w4.heap.size ≤ w5.heap.size from Nat.le_trans (by simp) hb5.size)
      clear hb5
      go_wp2_with fail
      refine (same_any A4 A2 n4 c4 d2 w4.heap.size out lv _ HR5.out HV5.out HS5.out (by omega) HO2.out).mono ?_
      rintro e w6 ⟨rfl, hb6⟩
      have HB6 := Lib.hid (HB5.out.trans (hb6.mono HB5.out.size))
      clear hb6
      go_wp2_with fail
      go_ret
      exact ⟨ret_bool (by simp), HB6.out⟩

end Go.Proofs.YtafoahojdiglfaaDoor
