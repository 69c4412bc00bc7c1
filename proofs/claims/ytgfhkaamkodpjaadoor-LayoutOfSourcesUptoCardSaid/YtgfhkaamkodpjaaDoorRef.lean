/- walks of the reference's and the layout's small functions on tokens -/
import Derived.Test.YtgfhkaamkodpjaaDoorLex
namespace Go.Proofs.YtgfhkaamkodpjaaDoor
open Go Go.RowKit
set_option maxHeartbeats 400000

theorem rletter_any (c : Int) (w : World) : Calls Tryd.prog 56 #[.int .u8 c] w fun e w' => e = .returned (.bool (isLetter c)) ∧ w = w' := by
  go_enter Tryd.func56, Tryd.ntmps56
  go_wp2
  all_goals (go_ret; (refine ⟨ret_bool ?_, by first | rfl | assumption⟩; first | (rw [Bool.eq_iff_iff]; simp [isLetter]; done) | (rw [Bool.eq_iff_iff]; simp [isLetter]; omega) | (simp_all [isLetter]; done) | (rw [Bool.eq_iff_iff]; simp [isLetter, *]; done)))

theorem rdigit_any (c : Int) (w : World) : Calls Tryd.prog 57 #[.int .u8 c] w fun e w' => e = .returned (.bool (isDigit c)) ∧ w = w' := by
  go_enter Tryd.func57, Tryd.ntmps57
  go_wp2
  all_goals (go_ret; (refine ⟨ret_bool ?_, by first | rfl | assumption⟩; first | (rw [Bool.eq_iff_iff]; simp [isDigit]; done) | (rw [Bool.eq_iff_iff]; simp [isDigit]; omega) | (simp_all [isDigit]; done) | (rw [Bool.eq_iff_iff]; simp [isDigit, *]; done)))

/-- where the word ends that goes on at place i -/
def wordEndS (l : List UInt8) (i : Nat) : Nat := i + ((l.drop i).takeWhile partB).length

theorem wordEnd_eq (s : ByteArray) (i k : Nat) (h1 : i ≤ k) (h2 : k ≤ s.size) (h3 : ∀ j x, i ≤ j → j < k → s.data.toList[j]? = some x → partB x = true)
    (h4 : ∀ h : k < s.size, partB s[k] = false) : wordEndS s.data.toList i = k := by
  unfold wordEndS
  rw [takeWhile_len partB _ (k - i) (by rw [List.length_drop, blen]; omega) (fun j x hj hx => by
    rw [List.getElem?_drop] at hx
    exact h3 (i + j) x (by omega) (by omega) hx) (fun x hx => by
    rw [List.getElem?_drop, show i + (k - i) = k by omega] at hx
    by_cases hlt : k < s.size
    · rw [bget s k hlt] at hx
      cases hx
      exact h4 hlt
    · rw [List.getElem?_eq_none (by rw [blen]; omega)] at hx; cases hx)]
  omega

theorem wordEnd_any (s : ByteArray) (i : Nat) (w : World) (hi : i ≤ s.size) (hs : s.size ≤ 1000000000000) :
    Calls Tryd.prog 59 #[.string s, .int .i64 i] w fun e w' => e = .returned (.int .i64 (wordEndS s.data.toList i)) ∧ w = w' := by
  go_enter Tryd.func59, Tryd.ntmps59
  go_wp2
  go_loop [1] (fun n => ∃ k : Nat, i ≤ k ∧ k ≤ s.size ∧ n = .int .i64 k ∧ Hid (∀ j x, i ≤ j → j < k → s.data.toList[j]? = some x → partB x = true)) (fun n => s.size - (intOf n).toNat)
  case atStart => exact ⟨i, by omega, by omega, rfl, fun j x h1 h2 => by omega⟩
  case round =>
    obtain ⟨k, hk1, hk2, rfl, H⟩ := hrel
    by_cases hlt : k < s.size
    · go_wp2_with (first | (go_at_call 56; refine (rletter_any _ _).mono ?_; rintro e w' ⟨rfl, rfl⟩) | (go_at_call 57; refine (rdigit_any _ _).mono ?_; rintro e w' ⟨rfl, rfl⟩))
      all_goals first
        | (have hp : isPart (s[k].toNat : Int) = true := by simp_all [isPart]
           go_round
           case rel =>
             refine ⟨k + 1, by omega, by omega, by go_num, fun j x h1 h2 hx => ?_⟩
             by_cases hj : j = k
             · subst hj
               rw [bget s j hlt] at hx
               cases hx
               exact hp
             · exact H.out j x h1 (by omega) hx
           case measure => simp [intOf]; omega)
        | (have hp : isPart (s[k].toNat : Int) = false := by simp_all [isPart]
           go_ret
           exact ⟨ret_int (by rw [wordEnd_eq s i k hk1 hk2 H.out (fun _ => hp)]), rfl⟩)
    · go_wp2_with (first | (go_at_call 56; refine (rletter_any _ _).mono ?_; rintro e w' ⟨rfl, rfl⟩) | (go_at_call 57; refine (rdigit_any _ _).mono ?_; rintro e w' ⟨rfl, rfl⟩))
      go_ret
      exact ⟨ret_int (by rw [wordEnd_eq s i k hk1 hk2 H.out (fun h => absurd h hlt)]), rfl⟩

theorem in_any (A : Option Addr) (n c B : Nat) (l : List ByteArray) (v : ByteArray) (w : World) (h : Rd w B 1 A n (cellsOf scell l)) (hn : n ≤ 1000000000000) :
    Calls Tryd.prog 61 #[.slice A n c, .string v] w fun e w' => e = .returned (.bool (memS l v)) ∧ w = w' := by
  have hl := h.len scell_len (by decide)
  go_enter Tryd.func61, Tryd.ntmps61
  have H := Lib.hid h
  clear h
  have HL := Lib.hid hl
  clear hl
  go_wp2
  go_loop [5] (fun i => ∃ k : Nat, k ≤ n ∧ i = .int .i64 k ∧ Hid (∀ j x, j < k → l[j]? = some x → x ≠ v)) (fun i => n - (intOf i).toNat)
  case atStart => exact ⟨0, by omega, rfl, fun j x h1 => by omega⟩
  case round =>
    obtain ⟨k, hk, rfl, HN⟩ := hrel
    by_cases hlt : k < n
    · obtain ⟨b, off, x, rfl, hb, hx, hc⟩ := H.out.str hlt
      have HX := Lib.hid hx
      clear hx
      go_wp2
      · have he := str_eq (by assumption)
        subst he
        go_ret
        exact ⟨ret_bool (memS_iff.2 (List.mem_of_getElem? HX.out)).symm, rfl⟩
      · have he := str_ne (by assumption)
        go_round
        case rel =>
          refine ⟨k + 1, by omega, by go_num, fun j y h1 hy => ?_⟩
          by_cases hj : j = k
          · subst hj
            rw [HX.out] at hy
            cases hy
            exact he
          · exact HN.out j y (by omega) hy
        case measure => simp [intOf]; omega
    · go_wp2
      go_ret
      refine ⟨ret_bool ?_, rfl⟩
      rw [eq_comm, Bool.eq_false_iff]
      intro hm
      obtain ⟨j, hj, he⟩ := List.getElem_of_mem (memS_iff.1 hm)
      exact HN.out j v (by have := HL.out; omega) (by rw [List.getElem?_eq_getElem hj, he]) rfl

theorem keywords_any (w : World) : Calls Tryd.prog 62 #[] w fun e w' => e = .returned (.slice (some ⟨w.heap.size, 0, none⟩) 25 25) ∧ w' = w.alloc (.cells (cellsOf scell kwB).toArray 9) := by
  go_enter Tryd.func62, Tryd.ntmps62
  go_wp2
  go_ret
  exact ⟨rfl, rfl⟩
theorem symbols_any (w : World) : Calls Tryd.prog 79 #[] w fun e w' => e = .returned (.slice (some ⟨w.heap.size, 0, none⟩) 59 59) ∧ w' = w.alloc (.cells (cellsOf scell syB).toArray 9) := by
  go_enter Tryd.func79, Tryd.ntmps79
  go_wp2
  go_ret
  exact ⟨rfl, rfl⟩

theorem after_any (p q : Pos) (w : World) : Calls Tryd.prog 49 #[p.v, q.v] w fun e w' => e = .returned (.bool (decide (p.line < q.line ∨ q.line = p.line ∧ p.col < q.col))) ∧ Below w.heap.size w w' := by
  obtain ⟨pl, pc⟩ := p
  obtain ⟨ql, qc⟩ := q
  go_enter Tryd.func49, Tryd.ntmps49
  go_wp2
  all_goals go_ret
  all_goals refine ⟨ret_bool ?_, ((Below.refl _ _).alloc (by simp) _).alloc (by simp) _⟩
  all_goals (first | rfl | (rw [Bool.eq_iff_iff]; simp; done) | (rw [Bool.eq_iff_iff]; simp; omega) | (simp_all; done) | (simp_all; omega))
def isClose (t : Tok) : Bool := decide (t.kind = 3) && memS clB t.str

theorem clB_mem (s : ByteArray) : memS clB s = (s.toList == [119, 105, 116, 104, 105, 110] || s.toList == [101, 120, 112, 111, 114, 116, 115] || s.toList == [101, 110, 100, 109, 111, 100, 117, 108, 101] || s.toList == [101, 110, 100, 116, 105, 109, 101, 100]) := by
  have key : ∀ l : List UInt8, decide (bstr l = s) = (s.toList == l) := fun l => by
    rw [ByteArray.toList_eq, Bool.eq_iff_iff]
    simp only [decide_eq_true_eq, beq_iff_eq]
    constructor
    · rintro rfl; simp [bstr]
    · intro h; subst h; obtain ⟨a⟩ := s; simp [bstr]
  simp only [memS, clB, clL, List.map_cons, List.map_nil, List.any_cons, List.any_nil, key, Bool.or_false, Bool.or_assoc]

theorem closer_any (t : Tok) (w : World) : Calls Tryd.prog 80 #[t.v] w fun e w' => e = .returned (.bool (isClose t)) ∧ Below w.heap.size w w' := by
  obtain ⟨tk, ti, ts, tl, tc⟩ := t
  have HC : Hid (isClose ⟨tk, ti, ts, ⟨tl, tc⟩⟩ = (decide (tk = 3) && memS clB ts)) := rfl
  have HM := Lib.hid (clB_mem ts)
  go_enter Tryd.func80, Tryd.ntmps80
  go_wp2
  all_goals go_ret
  all_goals refine ⟨ret_bool ?_, (Below.refl _ _).alloc (by simp) _⟩
  all_goals rw [HC.out, HM.out]
  all_goals (first | (simp_all; done))
theorem rinserted_any (t : Tok) (w : World) : Calls Tryd.prog 46 #[t.v] w fun e w' => e = .returned (.bool (decide (5 ≤ t.kind ∧ t.kind ≤ 7))) ∧ Below w.heap.size w w' := by
  obtain ⟨tk, ti, ts, tl, tc⟩ := t
  go_enter Tryd.func46, Tryd.ntmps46
  go_wp2
  all_goals go_ret
  all_goals refine ⟨ret_bool ?_, (Below.refl _ _).alloc (by simp) _⟩
  all_goals (first | rfl | (rw [Bool.eq_iff_iff]; simp; done) | (rw [Bool.eq_iff_iff]; simp; omega) | (simp_all; done) | (simp_all; omega))
theorem inserted_any (t : Tok) (w : World) : Calls Tryd.prog 45 #[t.v] w fun e w' => e = .returned (.bool (decide (5 ≤ t.kind ∧ t.kind ≤ 7))) ∧ Below w.heap.size w w' := by
  obtain ⟨tk, ti, ts, tl, tc⟩ := t
  go_enter Tryd.func45, Tryd.ntmps45
  go_wp2
  all_goals go_ret
  all_goals refine ⟨ret_bool ?_, (Below.refl _ _).alloc (by simp) _⟩
  all_goals (first | rfl | (rw [Bool.eq_iff_iff]; simp; done) | (rw [Bool.eq_iff_iff]; simp; omega) | (simp_all; done) | (simp_all; omega))

end Go.Proofs.YtgfhkaamkodpjaaDoor
