/- strings.Join at a space; lexer.Format at valid tokens -/
import Derived.Test.YtafoahojdiglfaaDoorBd0
import Derived.Test.YtafoahojdiglfaaDoorSt2
import Derived.Test.YtafoahojdiglfaaDoorLawSym
import Derived.Lib.SmallJoins
namespace Go.Proofs.YtafoahojdiglfaaDoor
open Go Go.RowKit
set_option maxHeartbeats 4000000
attribute [local irreducible] kwB syB clB

/-- texts with a space between them -/
def joinW : List (List UInt8) → List UInt8
  | [] => []
  | [a] => a
  | a :: b :: r => a ++ 32 :: joinW (b :: r)
theorem joinW_snoc (x : List UInt8) : ∀ l : List (List UInt8), l ≠ [] → joinW (l ++ [x]) = joinW l ++ 32 :: x
  | [], h => absurd rfl h
  | [a], _ => rfl
  | a :: b :: r, _ => by
    have h := joinW_snoc x (b :: r) (by simp)
    rw [List.cons_append] at h
    show a ++ 32 :: joinW (b :: (r ++ [x])) = (a ++ 32 :: joinW (b :: r)) ++ 32 :: x
    rw [h]
    simp
theorem txt_joinW : ∀ l : List Tok, txt (joinL l) = joinW (l.map textS)
  | [] => rfl
  | [t] => by simp [joinL, txt, joinW]
  | t :: u :: r => by
    have h := txt_joinW (u :: r)
    rw [joinL, txt, h]
    rfl
theorem joinW_len : ∀ (l : List (List UInt8)) (m : Nat), (∀ x ∈ l, x.length ≤ m) → (joinW l).length ≤ (m + 1) * l.length
  | [], m, _ => Nat.zero_le _
  | [a], m, h => by
    have := h a List.mem_cons_self
    simp [joinW]
    omega
  | a :: b :: r, m, h => by
    have h1 := h a List.mem_cons_self
    have h2 := joinW_len (b :: r) m (fun x hx => h x (List.mem_cons_of_mem _ hx))
    rw [joinW, List.length_append, List.length_cons, List.length_cons (a := a), Nat.mul_add]
    omega
def bl (x : ByteArray) : List UInt8 := x.data.toList
theorem joinW_next {l : List ByteArray} {k : Nat} {x : ByteArray} (h : l[k + 1]? = some x) : joinW ((l.take (k + 2)).map bl) = joinW ((l.take (k + 1)).map bl) ++ 32 :: bl x := by
  obtain ⟨hk, he⟩ := List.getElem?_eq_some_iff.1 h
  rw [List.take_succ_eq_append_getElem hk, he, List.map_append]
  refine joinW_snoc (bl x) _ ?_
  intro h0
  have := congrArg List.length h0
  rw [List.length_map, List.length_take, List.length_nil] at this
  omega
theorem strB (s : ByteArray) : Lib.strCells s = Lib.byteCells (bl s) := rfl
theorem byteB (a b : List UInt8) : Lib.byteCells a ++ Lib.byteCells b = Lib.byteCells (a ++ b) := by simp [Lib.byteCells]

set_option maxRecDepth 100000 in
theorem join_any (A : Option Addr) (n c B : Nat) (l : List ByteArray) (w : World) (h : Rd w B 1 A n (cellsOf scell l)) (hB : B ≤ w.heap.size) (hn : n ≤ 1000) (hc : n ≤ c) (hl : ∀ x ∈ l, x.size ≤ 100) :
    Calls Tryd.prog 52 #[.slice A n c, .string ⟨#[32]⟩] w fun e w' => e = .returned (.string (bstr (joinW (l.map bl)))) ∧ Below w.heap.size w w' := by
  have H := Lib.hid h
  have HL := Lib.hid hl
  have HN := Lib.hid (h.len scell_len (by decide))
  clear h hl
  by_cases h0 : n = 0
  · subst h0
    have hl0 : l = [] := List.length_eq_zero_iff.1 HN.out
    go_enter Tryd.func52, Tryd.ntmps52
    go_wp2
    go_ret
    refine ⟨ret_str ?_, Below.refl _ _⟩
    rw [hl0]
    rfl
  by_cases h1 : n = 1
  · subst h1
    obtain ⟨b1, o1, x, rfl, hb1, hx, c0⟩ := H.out.str (i := 0) (by decide)
    have hl1 : l = [x] := by
      have h2 := HN.out
      cases l with
      | nil => cases h2
      | cons y r =>
        cases r with
        | nil => simp at hx; rw [hx]
        | cons z r => simp at h2
    have HL1 := Lib.hid hl1
    clear hl1 hx
    (try simp only [Nat.add_zero] at c0)
    go_enter Tryd.func52, Tryd.ntmps52
    go_wp2
    go_ret
    refine ⟨ret_str ?_, Below.refl _ _⟩
    rw [HL1.out]
    exact (bstr_of x).symm
  have h2 : 2 ≤ n := by omega
  have hc1 : ¬ c = 1 := by omega
  have hc2 : ¬ c - 1 = 0 := by omega
  have hq : ¬ ((9223372036854775807 : Int) / ((n : Int) - 1) ≤ 1) := by
    have : (2 : Int) ≤ 9223372036854775807 / ((n : Int) - 1) := by
      rw [Int.le_ediv_iff_mul_le (by omega)]
      omega
    omega
  go_enter Tryd.func52, Tryd.ntmps52
  go_wp2
  go_loopw [5, 41] (fun vm vk wr => ∃ (k m : Nat), k ≤ n ∧ vk = .int .i64 k ∧ vm = .int .i64 m ∧ m ≤ n + 100 * k ∧ w = wr) (fun _ vk _ => n - (intOf vk).toNat)
  case atStart => exact ⟨0, n - 1, Nat.zero_le _, rfl, by go_num, by omega, rfl⟩
  case round =>
    obtain ⟨k, m, hk, rfl, rfl, hm, rfl⟩ := hrel
    by_cases hlt : k < n
    · obtain ⟨b1, o1, x, rfl, hb1, hx, c0⟩ := H.out.str hlt
      have hxs := HL.out x (List.mem_of_getElem? hx)
      clear hx
      go_wp2
      go_roundw
      case rel => exact ⟨k + 1, m + x.size, by omega, by go_num, by go_num, by omega, trivial⟩
      case measure => simp [intOf]; omega
    · have HBl := Lib.hid (Blk.new w 96 #[.pointer none, .slice none 0 0])
      have HB0 := Lib.hid ((Below.refl w.heap.size w).alloc (Nat.le_refl _) (.cells #[.pointer none, .slice none 0 0] 96))
      obtain ⟨b1, o1, x, rfl, hb1, hx, c0⟩ := H.out.str (i := 0) (by omega)
      have hxs := HL.out x (List.mem_of_getElem? hx)
      have hJ0 : Lib.strCells x = Lib.byteCells (joinW ((l.take 1).map bl)) := by
        rw [strB]
        cases l with
        | nil => simp at hx
        | cons y r => simp at hx; rw [hx]; rfl
      have HJ0 := Lib.hid hJ0
      have HX := Lib.hid hx
      clear hJ0 hx
      (try simp only [Nat.add_zero] at c0)
      go_wp2_with fail
      refine (grow_lay w.heap.size w.heap.size m _ (Nat.le_refl _) HBl.out (by simp) (by omega)).mono ?_
      rintro e w1 ⟨rfl, hbl1, hb1'⟩
      have HB1 := Lib.hid (HB0.out.trans hb1')
      have HBL1 := Lib.hid hbl1
      have d0 := (HB1.out.cell (p := ⟨b1, o1, none⟩) (by dsimp only; omega)).trans c0
      have hlt1 : b1 < w1.heap.size := by have := HB1.out.size; omega
      clear hbl1 hb1' c0
      go_wp2_with fail
      refine (write_lay w.heap.size w.heap.size [] x _ (.inr HBL1.out) (by simp; omega) HB1.out.size).mono ?_
      rintro e w2 ⟨rfl, hbl2, hb2⟩
      rw [List.nil_append, HJ0.out] at hbl2
      have HB2 := Lib.hid (HB1.out.trans hb2)
      have HBL2 := Lib.hid hbl2
      clear hbl2 hb2 d0 hlt1
      go_wp2
      go_loopw [65] (fun vk wr => ∃ (k : Nat), k ≤ n - 1 ∧ vk = .int .i64 k ∧ Hid (Lib.BuilderAt 96 5 w.heap.size w.heap.size (.pointer (some ⟨w.heap.size, 0, none⟩)) (Lib.byteCells (joinW ((l.take (k + 1)).map bl))) wr ∧ Below w.heap.size w wr)) (fun vk _ => n - (intOf vk).toNat)
      case atStart => exact ⟨0, Nat.zero_le _, rfl, Lib.hid ⟨HBL2.out, HB2.out⟩⟩
      case round =>
        obtain ⟨k, hk2, rfl, HW⟩ := hrel
        have hsz : (joinW ((l.take (k + 1)).map bl)).length ≤ 101000 := by
          have h3 := joinW_len ((l.take (k + 1)).map bl) 100 (fun y hy => by
            obtain ⟨z, hz, rfl⟩ := List.mem_map.1 hy
            have := HL.out z (List.mem_of_mem_take hz)
            rw [bl, blen]
            exact this)
          have h4 : ((l.take (k + 1)).map bl).length ≤ 1000 := by rw [List.length_map, List.length_take]; omega
          omega
        by_cases hlt2 : k < n - 1
        · obtain ⟨b2, o2, y, hab, hb2, hy, e0⟩ := (H.out.below (HW.out.2.mono hB)).str (i := k + 1) (by omega)
          obtain ⟨rfl, rfl⟩ : b1 = b2 ∧ o1 = o2 := by simpa using hab
          have hys := HL.out y (List.mem_of_getElem? hy)
          have HJ := Lib.hid (joinW_next hy)
          have hlt3 : b1 < wr.heap.size := by have := HW.out.2.size; omega
          have e1 : wr.cell? ⟨b1, o1 + 1 + k, none⟩ = some (.string y) := by rw [← e0, show o1 + 1 + k = o1 + (k + 1) by omega]
          clear hy hab e0
          go_wp2_with fail
          refine (write_lay w.heap.size w.heap.size _ ⟨#[32]⟩ _ (.inr HW.out.1) (by rw [Lib.byteCells_length]; show _ + 1 ≤ _; omega) HW.out.2.size).mono ?_
          rintro e w3 ⟨rfl, hbl3, hb3⟩
          rw [strB, byteB] at hbl3
          have HB3 := Lib.hid (HW.out.2.trans hb3)
          have HBL3 := Lib.hid hbl3
          clear hbl3 hb3 e1
          go_wp2_with fail
          refine (write_lay w.heap.size w.heap.size _ y _ (.inr HBL3.out) (by rw [Lib.byteCells_length, List.length_append]; show _ + 1 + _ ≤ _; omega) HB3.out.size).mono ?_
          rintro e w4 ⟨rfl, hbl4, hb4⟩
          rw [strB, byteB, show (joinW ((l.take (k + 1)).map bl) ++ bl ⟨#[32]⟩) ++ bl y = joinW ((l.take (k + 2)).map bl) from by rw [HJ.out]; simp [bl]] at hbl4
          have HB4 := Lib.hid (HB3.out.trans hb4)
          have HBL4 := Lib.hid hbl4
          clear hbl4 hb4
          go_wp2
          go_roundw
          case rel => exact ⟨k + 1, by omega, by go_num, Lib.hid ⟨HBL4.out, HB4.out⟩⟩
          case measure => simp [intOf]; omega
        · have hk3 : k + 1 = n := by omega
          have hT := HW.out.1
          rw [hk3, show l.take n = l from List.take_of_length_le (by rw [HN.out]; exact Nat.le_refl _)] at hT
          have HTT := Lib.hid hT
          clear hT
          go_wp2_with fail
          refine (string_lay w.heap.size w.heap.size _ _ (.inr HTT.out) HW.out.2.size).mono ?_
          rintro e w5 ⟨rfl, hb5⟩
          have HB5 := Lib.hid (HW.out.2.trans hb5)
          clear hb5
          go_wp2_with fail
          go_ret
          exact ⟨ret_str rfl, HB5.out⟩

end Go.Proofs.YtafoahojdiglfaaDoor
