/- walks of the lexer's small functions -/
import Derived.Test.YtgfhkaamkodpjaaDoorRows
import Derived.Test.YtgfhkaamkodpjaaDoorMem
import Derived.Test.YtgfhkaamkodpjaaDoorNames
namespace Go.Proofs.YtgfhkaamkodpjaaDoor
open Go Go.RowKit
set_option maxHeartbeats 400000

def isLetter (c : Int) : Bool := decide (97 ≤ c ∧ c ≤ 122) || decide (65 ≤ c ∧ c ≤ 90)
def isDigit (c : Int) : Bool := decide (48 ≤ c ∧ c ≤ 57)
def isPart (c : Int) : Bool := isLetter c || isDigit c || decide (c = 95) || decide (c = 39)

theorem letter_any (c : Int) (w : World) : Calls Tryd.prog 89 #[.int .u8 c] w fun e w' => e = .returned (.bool (isLetter c)) ∧ w = w' := by
  go_enter Tryd.func89, Tryd.ntmps89
  go_wp2
  all_goals (go_ret; (refine ⟨ret_bool ?_, by first | rfl | assumption⟩; first | (rw [Bool.eq_iff_iff]; simp [isLetter]; done) | (rw [Bool.eq_iff_iff]; simp [isLetter]; omega) | (simp_all [isLetter]; done) | (rw [Bool.eq_iff_iff]; simp [isLetter, *]; done)))

theorem digit_any (c : Int) (w : World) : Calls Tryd.prog 96 #[.int .u8 c] w fun e w' => e = .returned (.bool (isDigit c)) ∧ w = w' := by
  go_enter Tryd.func96, Tryd.ntmps96
  go_wp2
  all_goals (go_ret; (refine ⟨ret_bool ?_, by first | rfl | assumption⟩; first | (rw [Bool.eq_iff_iff]; simp [isDigit]; done) | (rw [Bool.eq_iff_iff]; simp [isDigit]; omega) | (simp_all [isDigit]; done) | (rw [Bool.eq_iff_iff]; simp [isDigit, *]; done)))

theorem part_any (c : Int) (w : World) : Calls Tryd.prog 94 #[.int .u8 c] w fun e w' => e = .returned (.bool (isPart c)) ∧ w = w' := by
  go_enter Tryd.func94, Tryd.ntmps94
  go_wp2_with (first | (go_at_call 89; refine (letter_any _ _).mono ?_; rintro e w' ⟨rfl, rfl⟩) | (go_at_call 96; refine (digit_any _ _).mono ?_; rintro e w' ⟨rfl, rfl⟩))
  all_goals (go_ret; (refine ⟨ret_bool ?_, by first | rfl | assumption⟩; first | (rw [Bool.eq_iff_iff]; simp [isPart]; done) | (rw [Bool.eq_iff_iff]; simp [isPart]; omega) | (simp_all [isPart]; done) | (rw [Bool.eq_iff_iff]; simp [isPart, *]; done)))

def partB (c : UInt8) : Bool := isPart c.toNat
def letterB (c : UInt8) : Bool := isLetter c.toNat
def digitB (c : UInt8) : Bool := isDigit c.toNat
/-- the length of the word with which a text begins -/
def wordLen (l : List UInt8) : Nat := 1 + ((l.drop 1).takeWhile partB).length

theorem wordLen_eq (s : ByteArray) (k : Nat) (h1 : 1 ≤ k) (h2 : k ≤ s.size) (h3 : ∀ j x, 1 ≤ j → j < k → s.data.toList[j]? = some x → partB x = true)
    (h4 : ∀ h : k < s.size, partB s[k] = false) : wordLen s.data.toList = k := by
  unfold wordLen
  rw [takeWhile_len partB _ (k - 1) (by rw [List.length_drop, blen]; omega) (fun j x hj hx => by
    rw [List.getElem?_drop] at hx
    exact h3 (1 + j) x (by omega) (by omega) hx) (fun x hx => by
    rw [List.getElem?_drop, show 1 + (k - 1) = k by omega] at hx
    by_cases hlt : k < s.size
    · rw [bget s k hlt] at hx
      cases hx
      exact h4 hlt
    · rw [List.getElem?_eq_none (by rw [blen]; omega)] at hx; cases hx)]
  omega

theorem wordLen_le (s : ByteArray) (h : 0 < s.size) : wordLen s.data.toList ≤ s.size := by
  unfold wordLen
  have h1 := List.Sublist.length_le (List.takeWhile_sublist partB (l := s.data.toList.drop 1))
  rw [List.length_drop, blen] at h1
  omega

theorem word_any (s : ByteArray) (w : World) (h0 : 0 < s.size) (hs : s.size ≤ 1000000000000) :
    Calls Tryd.prog 90 #[.string s] w fun e w' => e = .returned (.string (s.extract 0 (wordLen s.data.toList))) ∧ w = w' := by
  go_enter Tryd.func90, Tryd.ntmps90
  go_wp2
  go_loop [3] (fun n => ∃ k : Nat, 1 ≤ k ∧ k ≤ s.size ∧ n = .int .i64 k ∧ Hid (∀ j x, 1 ≤ j → j < k → s.data.toList[j]? = some x → partB x = true)) (fun n => s.size - (intOf n).toNat)
  case atStart => exact ⟨1, by omega, by omega, rfl, fun j x h1 h2 => by omega⟩
  case round =>
    obtain ⟨k, hk1, hk2, rfl, H⟩ := hrel
    by_cases hlt : k < s.size
    · go_wp2_with (first | (go_at_call 94; refine (part_any _ _).mono ?_; rintro e w' ⟨rfl, rfl⟩))
      · have hp : isPart (s[k].toNat : Int) = true := by assumption
        go_round
        case rel =>
          refine ⟨k + 1, by omega, by omega, by go_num, fun j x h1 h2 hx => ?_⟩
          by_cases hj : j = k
          · subst hj
            rw [bget s j hlt] at hx
            cases hx
            exact hp
          · exact H.out j x h1 (by omega) hx
        case measure => simp [intOf]; omega
      · have hp : isPart (s[k].toNat : Int) = false := by assumption
        go_ret
        exact ⟨ret_str (by rw [wordLen_eq s k hk1 hk2 H.out (fun _ => hp)]), rfl⟩
    · go_wp2_with (first | (go_at_call 94; refine (part_any _ _).mono ?_; rintro e w' ⟨rfl, rfl⟩))
      go_ret
      exact ⟨ret_str (by rw [wordLen_eq s k hk1 hk2 H.out (fun h => absurd h hlt)]), rfl⟩

/-- the first place at which v stands; -1: nowhere -/
def memS (l : List ByteArray) (v : ByteArray) : Bool := l.any fun x => decide (x = v)
def sidx (l : List ByteArray) (v : ByteArray) : Int := if memS l v then (l.findIdx (fun x => decide (x = v)) : Int) else -1
theorem memS_iff {l : List ByteArray} {v : ByteArray} : memS l v = true ↔ v ∈ l := by
  simp only [memS, List.any_eq_true, decide_eq_true_eq]
  exact ⟨fun ⟨x, h, e⟩ => e ▸ h, fun h => ⟨v, h, rfl⟩⟩

theorem findIdx_eq {l : List ByteArray} {v : ByteArray} : ∀ {k : Nat}, (∀ j x, j < k → l[j]? = some x → x ≠ v) → l[k]? = some v → l.findIdx (fun x => decide (x = v)) = k := by
  induction l with
  | nil => intro k _ h; simp at h
  | cons x l ih =>
    intro k h1 h2
    cases k with
    | zero => simp at h2; subst h2; simp [List.findIdx_cons]
    | succ k =>
      have hx : x ≠ v := h1 0 x (by omega) rfl
      rw [List.findIdx_cons, ih (k := k) (fun j y hj hy => h1 (j + 1) y (by omega) (by simpa using hy)) (by simpa using h2)]
      simp [hx]
theorem sidx_hit {l : List ByteArray} {v : ByteArray} {k : Nat} (h1 : ∀ j x, j < k → l[j]? = some x → x ≠ v) (h2 : l[k]? = some v) : sidx l v = k := by
  unfold sidx
  rw [if_pos (memS_iff.2 (List.mem_of_getElem? h2)), findIdx_eq h1 h2]
theorem sidx_miss {l : List ByteArray} {v : ByteArray} (h1 : ∀ j x, j < l.length → l[j]? = some x → x ≠ v) : sidx l v = -1 := by
  unfold sidx
  rw [if_neg]
  intro h
  obtain ⟨j, hj, he⟩ := List.getElem_of_mem (memS_iff.1 h)
  exact h1 j v hj (by rw [List.getElem?_eq_getElem hj, he]) rfl
theorem sidx_ge (l : List ByteArray) (v : ByteArray) : decide (0 ≤ sidx l v) = memS l v := by
  unfold sidx
  cases h : memS l v <;> simp

/-- a []string that is read: the first place at which v stands -/
theorem index_any (A : Option Addr) (n c B : Nat) (l : List ByteArray) (v : ByteArray) (w : World) (h : Rd w B 1 A n (cellsOf scell l)) (hn : n ≤ 1000000000000) :
    Calls Tryd.prog 91 #[.slice A n c, .string v] w fun e w' => e = .returned (.int .i64 (sidx l v)) ∧ w = w' := by
  have hl := h.len scell_len (by decide)
  go_enter Tryd.func91, Tryd.ntmps91
  have H := Lib.hid h
  clear h
  have HL := Lib.hid hl
  clear hl
  go_wp2
  go_loop [5, 8] (fun _ i => ∃ k : Nat, k ≤ n ∧ i = .int .i64 k ∧ Hid (∀ j x, j < k → l[j]? = some x → x ≠ v)) (fun _ i => n - (intOf i).toNat)
  case atStart => exact ⟨0, by omega, rfl, fun j x h1 => by omega⟩
  case round =>
    obtain ⟨k, hk, rfl, HN⟩ := hrel
    by_cases hlt : k < n
    · obtain ⟨b, off, x, rfl, hb, hx, hc⟩ := H.out.str hlt
      have HX := Lib.hid hx
      clear hx
      go_wp2
      · have he := str_eq (by assumption)
        subst he
        go_ret
        exact ⟨ret_int (sidx_hit HN.out HX.out).symm, rfl⟩
      · have he := str_ne (by assumption)
        go_round
        case rel =>
          refine ⟨k + 1, by omega, by go_num, fun j y h1 hy => ?_⟩
          by_cases hj : j = k
          · subst hj
            rw [HX.out] at hy
            cases hy
            exact Ne.symm he
          · exact HN.out j y (by omega) hy
        case measure => simp [intOf]; omega
    · go_wp2
      go_ret
      exact ⟨ret_int (sidx_miss (fun j x hj hx => HN.out j x (by have := HL.out; omega) hx)).symm, rfl⟩

theorem contains_any (A : Option Addr) (n c B : Nat) (l : List ByteArray) (v : ByteArray) (w : World) (h : Rd w B 1 A n (cellsOf scell l)) (hn : n ≤ 1000000000000) :
    Calls Tryd.prog 83 #[.slice A n c, .string v] w fun e w' => e = .returned (.bool (memS l v)) ∧ w = w' := by
  have H := Lib.hid h
  clear h
  go_enter Tryd.func83, Tryd.ntmps83
  go_wp2_with (first | (go_at_call 91; refine (index_any _ _ _ _ _ _ _ H.out (by omega)).mono ?_; rintro e w' ⟨rfl, rfl⟩))
  go_ret
  exact ⟨ret_bool (sidx_ge l v), rfl⟩

/-- a name of the language -/
def nameOk (s : ByteArray) : Bool := match s.data.toList with
  | [] => false
  | c :: _ => decide (s.size ≤ 64) && letterB c && !memS kwB s && decide (wordLen s.data.toList = s.size)

theorem empty_size {s : ByteArray} (h : s.size = 0) : s.toList.isEmpty = true := by
  rw [ByteArray.toList_eq, List.isEmpty_iff]
  exact List.eq_nil_of_length_eq_zero (by rw [blen, h])
theorem nonempty_size {s : ByteArray} (h : 0 < s.size) : s.toList.isEmpty = false := by
  rw [ByteArray.toList_eq]
  cases hl : s.data.toList with
  | nil => have := blen s; rw [hl] at this; simp at this; omega
  | cons x r => rfl
theorem nonempty_toList {s : ByteArray} (h : 0 < s.size) : ¬ s.toList = [] := fun e => by have := nonempty_size h; rw [e] at this; cases this

theorem named_any (B : Nat) (s : ByteArray) (w : World) (hG : Glob B w) (hs : s.size ≤ 1000000000000) :
    Calls Tryd.prog 82 #[.string s] w fun e w' => e = .returned (.bool (nameOk s)) ∧ w = w' := by
  obtain ⟨_, A, c, hc, hR⟩ := hG.kw
  have HR := Lib.hid hR
  clear hR hG
  by_cases h0 : s.size = 0
  · have he := empty_size h0
    have hn : nameOk s = false := by
      unfold nameOk
      rw [List.eq_nil_of_length_eq_zero (by rw [blen, h0] : s.data.toList.length = 0)]
    have HN := Lib.hid hn
    clear hn
    go_enter Tryd.func82, Tryd.ntmps82
    go_wp2
    go_ret
    exact ⟨ret_bool HN.out.symm, rfl⟩
  · have hp : 0 < s.size := by omega
    have he := nonempty_size hp
    have hn : nameOk s = (decide (s.size ≤ 64) && letterB s[0] && !memS kwB s && decide (wordLen s.data.toList = s.size)) := by
      unfold nameOk
      have := bget s 0 hp
      cases hl : s.data.toList with
      | nil => rw [hl] at this; cases this
      | cons x r => rw [hl] at this; cases this; rfl
    have HN := Lib.hid hn
    clear hn
    have hwl := wordLen_le s hp
    by_cases h64 : s.size ≤ 64
    all_goals by_cases hk : memS kwB s = true
    all_goals go_enter Tryd.func82, Tryd.ntmps82
    all_goals go_wp2_with (first | (go_at_call 89; refine (letter_any _ _).mono ?_; rintro e w' ⟨rfl, rfl⟩) | (go_at_call 83; refine (contains_any _ _ _ _ _ _ _ HR.out (by decide)).mono ?_; rintro e w' ⟨rfl, rfl⟩) | (go_at_call 90; refine (word_any _ _ hp hs).mono ?_; rintro e w' ⟨rfl, rfl⟩))
    all_goals (go_ret; refine ⟨ret_bool ?_, rfl⟩; rw [HN.out]; first | (simp_all [letterB]; done) | (simp_all [letterB]; omega) | (rw [Bool.eq_iff_iff]; simp [letterB, *]; omega))

end Go.Proofs.YtgfhkaamkodpjaaDoor
