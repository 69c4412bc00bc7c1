/- Balanced: the layout's and the reference's -/
import Derived.Test.YtgfhkaamkodpjaaDoorRows
import Derived.Test.YtgfhkaamkodpjaaDoorMem
import Derived.Test.YtgfhkaamkodpjaaDoorPlan2
namespace Go.Proofs.YtgfhkaamkodpjaaDoor
open Go Go.RowKit
set_option maxHeartbeats 4000000

/-- blocks are opened and closed in pairs; d of them are open -/
def balF : List Tok → Int → Bool
  | [], d => decide (d = 0)
  | t :: r, d => if t.kind = 5 then balF r (d + 1) else if t.kind = 7 then (if d = 0 then false else balF r (d - 1)) else balF r d
theorem drop_tok {l : List Tok} {k : Nat} {t : Tok} (h : l[k]? = some t) : l.drop k = t :: l.drop (k + 1) := by
  obtain ⟨hk, he⟩ := List.getElem?_eq_some_iff.1 h
  rw [List.drop_eq_getElem_cons hk, he]

theorem rbalanced_any (A : Option Addr) (n c B : Nat) (l : List Tok) (w : World) (h : Rd w B 5 A n (cellsOf Tok.cells l)) (hn : n ≤ 1000000000) :
    Calls Tryd.prog 23 #[.slice A n c] w fun e w' => e = .returned (.bool (balF l 0)) ∧ w = w' := by
  have hl := h.len Tok.cells_len (by decide)
  have H := Lib.hid h
  have HL := Lib.hid hl
  clear h hl
  go_enter Tryd.func23, Tryd.ntmps23
  go_wp2
  go_loop [3, 4] (fun vd vk => ∃ (k : Nat) (d : Int), k ≤ n ∧ vk = .int .i64 k ∧ vd = .int .i64 d ∧ 0 ≤ d ∧ d ≤ k ∧ Hid (balF (l.drop k) d = balF l 0)) (fun _ vk => n - (intOf vk).toNat)
  case atStart => exact ⟨0, 0, Nat.zero_le _, rfl, rfl, by omega, by omega, Lib.hid rfl⟩
  case round =>
    obtain ⟨k, d, hk, rfl, rfl, hd0, hd1, HB⟩ := hrel
    by_cases hlt : k < n
    · obtain ⟨b1, o1, t, rfl, _, ht, c0, _, _, _, _⟩ := H.out.tok hlt
      obtain ⟨kd, hkd⟩ : ∃ x, t.kind = x := ⟨_, rfl⟩
      have HV : Hid (balF l 0 = if kd = 5 then balF (l.drop (k + 1)) (d + 1) else if kd = 7 then (if d = 0 then false else balF (l.drop (k + 1)) (d - 1)) else balF (l.drop (k + 1)) d) := Lib.hid (by rw [← HB.out, drop_tok ht, balF, hkd])
      rw [hkd] at c0
      clear hkd ht
      by_cases h5 : kd = 5
      · have h5b : (kd == 5) = true := by simpa using h5
        have HW : Hid (balF (l.drop (k + 1)) (d + 1) = balF l 0) := Lib.hid (by rw [HV.out, if_pos h5])
        clear h5
        go_wp2
        exact ⟨⟨k + 1, d + 1, by omega, by go_num, rfl, by omega, by omega, HW⟩, by simp [intOf]; omega⟩
      have h5b : (kd == 5) = false := by simpa using h5
      by_cases h7 : kd = 7
      · have h7b : (kd == 7) = true := by simpa using h7
        by_cases hz : d = 0
        · have hzb : (d == 0) = true := by simpa using hz
          have HW : Hid (balF l 0 = false) := Lib.hid (by rw [HV.out, if_neg h5, if_pos h7, if_pos hz])
          clear h5 h7 hz
          go_wp2
          go_ret
          exact ⟨ret_bool HW.out.symm, rfl⟩
        · have hzb : (d == 0) = false := by simpa using hz
          have HW : Hid (balF (l.drop (k + 1)) (d - 1) = balF l 0) := Lib.hid (by rw [HV.out, if_neg h5, if_pos h7, if_neg hz])
          have hd2 : 1 ≤ d := by omega
          clear h5 h7 hz
          go_wp2
          exact ⟨⟨k + 1, d - 1, by omega, by go_num, rfl, by omega, by omega, HW⟩, by simp [intOf]; omega⟩
      have h7b : (kd == 7) = false := by simpa using h7
      have HW : Hid (balF (l.drop (k + 1)) d = balF l 0) := Lib.hid (by rw [HV.out, if_neg h5, if_neg h7])
      clear h5 h7
      go_wp2
      exact ⟨⟨k + 1, d, by omega, by go_num, rfl, by omega, by omega, HW⟩, by simp [intOf]; omega⟩
    · have HW : Hid (balF l 0 = decide (d = 0)) := Lib.hid (by rw [← HB.out, List.drop_of_length_le (by have := HL.out; omega), balF])
      go_wp2
      go_ret
      exact ⟨ret_bool (by rw [HW.out]; first | rfl | (rw [Bool.eq_iff_iff]; simp)), rfl⟩

theorem balanced_any (A : Option Addr) (n c B : Nat) (l : List Tok) (w : World) (h : Rd w B 5 A n (cellsOf Tok.cells l)) (hB : B ≤ w.heap.size) (hn : n ≤ 1000000000) :
    Calls Tryd.prog 20 #[.slice A n c] w fun e w' => e = .returned (.bool (balF l 0)) ∧ Below w.heap.size w w' := by
  have hl := h.len Tok.cells_len (by decide)
  have H := Lib.hid h
  have HL := Lib.hid hl
  clear h hl
  go_enter Tryd.func20, Tryd.ntmps20
  go_wp2
  go_loopw [3, 8] (fun vd vk wr => ∃ (k : Nat) (d : Int), k ≤ n ∧ vk = .int .i64 k ∧ vd = .int .i64 d ∧ 0 ≤ d ∧ d ≤ k ∧ Hid (balF (l.drop k) d = balF l 0) ∧ Below w.heap.size w wr) (fun _ vk _ => n - (intOf vk).toNat)
  case atStart => exact ⟨0, 0, Nat.zero_le _, rfl, rfl, by omega, by omega, Lib.hid rfl, Below.refl _ _⟩
  case round =>
    obtain ⟨k, d, hk, rfl, rfl, hd0, hd1, HB, hbl⟩ := hrel
    have HBL := Lib.hid hbl
    by_cases hlt : k < n
    · obtain ⟨b1, o1, t, rfl, _, ht, c0, c1, c2, c3, c4⟩ := (H.out.keep (w' := wr) (fun p hp => hbl.cell (by omega))).tok hlt
      have HA := Lib.hid (HBL.out.alloc HBL.out.size (.cells #[.int .i64 t.kind, .int .i64 t.int, .string t.str, .int .i64 t.pos.line, .int .i64 t.pos.col] 40))
      have HV : Hid (balF l 0 = if t.kind = 5 then balF (l.drop (k + 1)) (d + 1) else if t.kind = 7 then (if d = 0 then false else balF (l.drop (k + 1)) (d - 1)) else balF (l.drop (k + 1)) d) := Lib.hid (by rw [← HB.out, drop_tok ht, balF])
      clear ht hbl
      by_cases h5 : t.kind = 5
      · have h5b : (t.kind == 5) = true := by simpa using h5
        have HW : Hid (balF (l.drop (k + 1)) (d + 1) = balF l 0) := Lib.hid (by rw [HV.out, if_pos h5])
        clear h5
        go_wp2
        go_roundw
        case rel => exact ⟨k + 1, d + 1, by omega, by go_num, rfl, by omega, by omega, HW, HA.out⟩
        case measure => simp [intOf]; omega
      have h5b : (t.kind == 5) = false := by simpa using h5
      by_cases h7 : t.kind = 7
      · have h7b : (t.kind == 7) = true := by simpa using h7
        by_cases hz : d = 0
        · have HW : Hid (balF l 0 = false) := Lib.hid (by rw [HV.out, if_neg h5, if_pos h7, if_pos hz])
          clear h5 h7
          subst hz
          go_wp2
          go_ret
          exact ⟨ret_bool HW.out.symm, HA.out⟩
        · have HW : Hid (balF (l.drop (k + 1)) (d - 1) = balF l 0) := Lib.hid (by rw [HV.out, if_neg h5, if_pos h7, if_neg hz])
          have hd2 : 1 ≤ d := by omega
          clear h5 h7 hz
          go_wp2
          go_roundw
          case rel => exact ⟨k + 1, d - 1, by omega, by go_num, rfl, by omega, by omega, HW, HA.out⟩
          case measure => simp [intOf]; omega
      have h7b : (t.kind == 7) = false := by simpa using h7
      have HW : Hid (balF (l.drop (k + 1)) d = balF l 0) := Lib.hid (by rw [HV.out, if_neg h5, if_neg h7])
      clear h5 h7
      go_wp2
      go_roundw
      case rel => exact ⟨k + 1, d, by omega, by go_num, rfl, by omega, by omega, HW, HA.out⟩
      case measure => simp [intOf]; omega
    · have HW : Hid (balF l 0 = decide (d = 0)) := Lib.hid (by rw [← HB.out, List.drop_of_length_le (by have := HL.out; omega), balF])
      clear hbl
      go_wp2
      go_ret
      exact ⟨ret_bool (by rw [HW.out]; first | rfl | (rw [Bool.eq_iff_iff]; simp)), HBL.out⟩

end Go.Proofs.YtgfhkaamkodpjaaDoor
