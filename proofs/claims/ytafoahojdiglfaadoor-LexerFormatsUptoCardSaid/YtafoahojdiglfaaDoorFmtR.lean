/- the reference's FormatTokens -/
import Derived.Test.YtafoahojdiglfaaDoorFmt
namespace Go.Proofs.YtafoahojdiglfaaDoor
open Go Go.RowKit
set_option maxHeartbeats 4000000
attribute [local irreducible] kwB syB clB

theorem join_none {l : List Tok} {t : Tok} (h : l[0]? = some t) : textS t = joinW ((l.take 1).map textS) := by
  cases l with
  | nil => cases h
  | cons u r => simp at h; rw [h]; rfl
theorem join_more {l : List Tok} {k : Nat} {t : Tok} (h : l[k]? = some t) (hk : 0 < k) : joinW ((l.take k).map textS) ++ (32 :: textS t) = joinW ((l.take (k + 1)).map textS) := by
  obtain ⟨hk2, he⟩ := List.getElem?_eq_some_iff.1 h
  rw [List.take_succ_eq_append_getElem hk2, he, List.map_append]
  refine (joinW_snoc (textS t) _ ?_).symm
  intro h0
  have := congrArg List.length h0
  rw [List.length_map, List.length_take, List.length_nil] at this
  omega

set_option maxRecDepth 100000 in
theorem rformat_any (A : Option Addr) (n c B1 : Nat) (l : List Tok) (w : World) (h : Rd w B1 5 A n (cellsOf Tok.cells l)) (hB : B1 ≤ w.heap.size) (hn : n ≤ 1000) (hl : ∀ t ∈ l, TokIn t) :
    Calls Tryd.prog 30 #[.slice A n c] w fun e w' => e = .returned (.string (fmtB l)) ∧ Below w.heap.size w w' := by
  have H := Lib.hid h
  have HL := Lib.hid hl
  have HN := Lib.hid (h.len Tok.cells_len (by decide))
  clear h hl
  go_enter Tryd.func30, Tryd.ntmps30
  go_wp2
  go_loopw [3, 4] (fun vs vk wr => ∃ (k : Nat) (s : ByteArray), k ≤ n ∧ vk = .int .i64 k ∧ vs = .string s ∧ s.size ≤ 100 * k ∧ Hid (s.data.toList = joinW ((l.take k).map textS) ∧ (l.take k).all validTok = true ∧ Below w.heap.size w wr)) (fun _ vk _ => n - (intOf vk).toNat)
  case atStart => exact ⟨0, _, Nat.zero_le _, rfl, rfl, by decide, Lib.hid ⟨by simp [joinW], rfl, Below.refl _ _⟩⟩
  case round =>
    obtain ⟨k, s, hk, rfl, rfl, hsz, HW⟩ := hrel
    by_cases hlt : k < n
    · obtain ⟨b1, o1, t, rfl, hb1, ht, c0, c1, c2, c3, c4⟩ := (H.out.keep (w' := wr) (fun p hp => HW.out.2.2.cell (by omega))).tok hlt
      have htin := HL.out _ (List.mem_of_getElem? ht)
      have HTI := Lib.hid htin
      have HTT := Lib.hid ht
      have hts : t.str.size ≤ 1000000000000 := Nat.le_trans htin.2 (by decide)
      obtain ⟨q, hq⟩ : ∃ q, validTok t = q := ⟨_, rfl⟩
      have HQ := Lib.hid hq
      clear hq ht htin
      go_wp2_with fail
      refine (rvalid_any t _ hts).mono ?_
      rw [HQ.out]
      rintro e w2 ⟨rfl, hb2⟩
      have HB2 := Lib.hid (HW.out.2.2.trans (hb2.mono HW.out.2.2.size))
      cases q
      · have HF := Lib.hid (fmtB_no HTT.out HQ.out)
        clear hb2 c0 c1 c2 c3 c4
        go_wp2_with fail
        go_ret
        exact ⟨ret_str HF.out.symm, HB2.out⟩
      · have hlen := tok_text HQ.out HTI.out
        have d0 : w2.cell? ⟨b1, o1 + k * 5, none⟩ = some (.int .i64 t.kind) := (hb2.cell (p := ⟨b1, o1 + k * 5, none⟩) (by have := HW.out.2.2.size; dsimp only; omega)).trans c0
        have d1 : w2.cell? ⟨b1, o1 + k * 5 + 1, none⟩ = some (.int .i64 t.int) := (hb2.cell (p := ⟨b1, o1 + k * 5 + 1, none⟩) (by have := HW.out.2.2.size; dsimp only; omega)).trans c1
        have d2 : w2.cell? ⟨b1, o1 + k * 5 + 2, none⟩ = some (.string t.str) := (hb2.cell (p := ⟨b1, o1 + k * 5 + 2, none⟩) (by have := HW.out.2.2.size; dsimp only; omega)).trans c2
        have d3 : w2.cell? ⟨b1, o1 + k * 5 + 3, none⟩ = some (.int .i64 t.pos.line) := (hb2.cell (p := ⟨b1, o1 + k * 5 + 3, none⟩) (by have := HW.out.2.2.size; dsimp only; omega)).trans c3
        have d4 : w2.cell? ⟨b1, o1 + k * 5 + 4, none⟩ = some (.int .i64 t.pos.col) := (hb2.cell (p := ⟨b1, o1 + k * 5 + 4, none⟩) (by have := HW.out.2.2.size; dsimp only; omega)).trans c4
        have hlt2 : b1 < w2.heap.size := by have := HB2.out.size; omega
        have hti : t.kind = 2 → 0 ≤ t.int ∧ t.int ≤ maxI := fun h2 => ⟨valid_int HQ.out h2, HTI.out.1.2⟩
        clear hb2 c0 c1 c2 c3 c4
        by_cases hk0 : 0 < k
        · have hD : ((s ++ ⟨#[32]⟩) ++ bstr (textS t) : ByteArray).data.toList = joinW ((l.take (k + 1)).map textS) := by
            rw [← join_more HTT.out hk0, ← HW.out.1, app_list, app_list, bstr_list]
            simp
          have hZ : ((s ++ ⟨#[32]⟩) ++ bstr (textS t) : ByteArray).size ≤ 100 * (k + 1) := by
            rw [ByteArray.size_append, ByteArray.size_append]
            show s.size + 1 + (tB t).size ≤ _
            omega
          have HD := Lib.hid (And.intro hD hZ)
          have hlen' : (bstr (textS t)).size ≤ 64 := hlen
          clear hD hZ hlen
          go_wp2_with fail
          refine (text_any t hti _).mono ?_
          rintro e w3 ⟨rfl, hb3⟩
          have HB3 := Lib.hid (HB2.out.trans (hb3.mono HB2.out.size))
          clear hb3 d0 d1 d2 d3 d4 hti
          go_wp2_with fail
          go_roundw
          case rel => exact ⟨k + 1, _, by omega, by go_num, rfl, HD.out.2, Lib.hid ⟨HD.out.1, all_next HTT.out HQ.out HW.out.2.1, HB3.out⟩⟩
          case measure => simp [intOf]; omega
        · have hk1 : k = 0 := by omega
          subst hk1
          have hs0 : s.size = 0 := by omega
          have hD : (s ++ bstr (textS t) : ByteArray).data.toList = joinW ((l.take (0 + 1)).map textS) := by
            rw [← join_none HTT.out, size_zero hs0, app_list, bstr_list]
            simp
          have hZ : (s ++ bstr (textS t) : ByteArray).size ≤ 100 * (0 + 1) := by
            rw [ByteArray.size_append]
            show s.size + (tB t).size ≤ _
            omega
          have HD := Lib.hid (And.intro hD hZ)
          have hlen' : (bstr (textS t)).size ≤ 64 := hlen
          (try simp only [Nat.zero_mul, Nat.add_zero] at d0 d1 d2 d3 d4)
          clear hD hZ hlen
          go_wp2_with fail
          refine (text_any t hti _).mono ?_
          rintro e w3 ⟨rfl, hb3⟩
          have HB3 := Lib.hid (HB2.out.trans (hb3.mono HB2.out.size))
          clear hb3 d0 d1 d2 d3 d4 hti
          go_wp2_with fail
          go_roundw
          case rel => exact ⟨1, _, by omega, by go_num, rfl, HD.out.2, Lib.hid ⟨HD.out.1, all_next HTT.out HQ.out HW.out.2.1, HB3.out⟩⟩
          case measure => simp [intOf]; omega
    · have hk3 : l.take k = l := List.take_of_length_le (by rw [HN.out]; omega)
      have hA := HW.out.2.1
      have hO := HW.out.1
      rw [hk3] at hA hO
      have HF := Lib.hid (show s = fmtB l by rw [fmtB_ok hA, txt_joinW, ← hO, bstr_of])
      have HB2 := Lib.hid HW.out.2.2
      clear hA hO hk3
      go_wp2_with fail
      go_ret
      exact ⟨ret_str HF.out, HB2.out⟩

end Go.Proofs.YtafoahojdiglfaaDoor
