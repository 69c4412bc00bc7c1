/- whether bytes are sealed: the program's Sealed -/
import Derived.Test.YtonpdclccgpceaaRwC2
namespace Go.Proofs.Ytonpdclccgpceaa
open Go Go.RowKit
set_option maxHeartbeats 4000000

theorem Rd.utake {w : World} {B n : Nat} {A : Option Addr} {l : List Nat} (h : Rd w B 1 A n (cellsOf ucell l)) {i : Nat} (hi : i ≤ n) : Rd w B 1 A i (cellsOf ucell (l.take i)) := by
  have hl := h.len ucell_len (by decide)
  refine ⟨by rw [cellsOf_length ucell_len, List.length_take]; omega, fun h0 => ?_⟩
  obtain ⟨b, o, e, hb, hc⟩ := h.2 (by omega)
  refine ⟨b, o, e, hb, fun j u hu => hc j u ?_⟩
  have hj : j < i := by
    have h1 := (List.getElem?_eq_some_iff.1 hu).1
    rw [cellsOf_length ucell_len, List.length_take] at h1
    omega
  have e1 : cellsOf ucell l = cellsOf ucell (l.take i) ++ cellsOf ucell (l.drop i) := by rw [← cellsOf_append, List.take_append_drop]
  rw [e1, List.getElem?_append_left (by rw [cellsOf_length ucell_len, List.length_take]; omega)]
  exact hu
/-- the last four bytes are the checksum of those before -/
def sealedB (l : List Nat) : Bool := decide (4 ≤ l.length) && decide (l.drop (l.length - 4) = sum4 (crcF (l.take (l.length - 4))))
theorem drop4 {l : List Nat} {m a b c d : Nat} (hl : l.length = m + 4) (h0 : l[m]? = some a) (h1 : l[m + 1]? = some b) (h2 : l[m + 2]? = some c) (h3 : l[m + 3]? = some d) : l.drop m = [a, b, c, d] := by
  have key : ∀ i x, l[i]? = some x → l.drop i = x :: l.drop (i + 1) := fun i x h => by
    obtain ⟨hi, e⟩ := List.getElem?_eq_some_iff.1 h
    rw [List.drop_eq_getElem_cons hi, e]
  rw [key m a h0, key (m + 1) b h1, key (m + 2) c h2, key (m + 3) d h3, List.drop_eq_nil_of_le (by omega)]
theorem sealedB_of {l : List Nat} {m a b c d : Nat} {x : Int} (hl : l.length = m + 4) (h0 : l[m]? = some a) (h1 : l[m + 1]? = some b) (h2 : l[m + 2]? = some c) (h3 : l[m + 3]? = some d) (hx : crcF (l.take m) = x) (x0 : 0 ≤ x) :
    sealedB l = decide ((a : Int) = x / 16777216 ∧ (b : Int) = x / 65536 % 256 ∧ (c : Int) = x / 256 % 256 ∧ (d : Int) = x % 256) := by
  have e1 : l.length - 4 = m := by omega
  rw [sealedB, e1, hx, drop4 hl h0 h1 h2 h3, sum4]
  have e2 : decide (4 ≤ l.length) = true := decide_eq_true (by omega)
  rw [e2, Bool.true_and]
  apply decide_eq_decide.2
  simp only [List.cons.injEq, and_true]
  omega

set_option maxRecDepth 100000 in
theorem csealed_any (A : Option Addr) (m c B : Nat) (l : List Nat) (w : World) (h : Rd w B 1 A (m + 4) (cellsOf ucell l)) (hb : ∀ b ∈ l, b < 256) (hn : m ≤ 100000000) (hc : m + 4 ≤ c) :
    Calls Try.prog 46 #[.slice A (m + 4 : Nat) c] w fun e w' => e = .returned (.bool (sealedB l)) ∧ w = w' := by
  have HT := Lib.hid (h.utake (i := m) (by omega))
  have HB := Lib.hid (show ∀ b ∈ l.take m, b < 256 from fun b h => hb b (List.mem_of_mem_take h))
  have HN := Lib.hid (h.len ucell_len (by decide))
  obtain ⟨b0, o0, y0, rfl, hb0, hy0, c0⟩ := h.ubyte (i := m) (by omega)
  obtain ⟨b1, o1, y1, e1, hb1, hy1, c1⟩ := h.ubyte (i := m + 1) (by omega)
  obtain ⟨b2, o2, y2, e2, hb2, hy2, c2⟩ := h.ubyte (i := m + 2) (by omega)
  obtain ⟨b3, o3, y3, e3, hb3, hy3, c3⟩ := h.ubyte (i := m + 3) (by omega)
  obtain ⟨rfl, rfl⟩ : b0 = b1 ∧ o0 = o1 := by simpa using e1
  obtain ⟨rfl, rfl⟩ : b0 = b2 ∧ o0 = o2 := by simpa using e2
  obtain ⟨rfl, rfl⟩ : b0 = b3 ∧ o0 = o3 := by simpa using e3
  obtain ⟨x, hx⟩ : ∃ x, crcF (l.take m) = x := ⟨_, rfl⟩
  have hxi := crcF_in (l.take m)
  rw [hx] at hxi
  obtain ⟨hx0, hx1⟩ := hxi
  have HX := Lib.hid hx
  have HR := Lib.hid (sealedB_of HN.out hy0 hy1 hy2 hy3 hx hx0)
  clear h hb e1 e2 e3 hb1 hb2 hb3 hy0 hy1 hy2 hy3 hx
  go_enter Try.func46, Try.ntmps46
  go_wp2_with fail
  refine (checksum_any (some ⟨b0, o0, none⟩) m c B (l.take m) _ HT.out HB.out (by omega)).mono ?_
  rw [HX.out]
  rintro e w1 ⟨rfl, rfl⟩
  by_cases k0 : (y0 : Int) = x / 16777216
  · by_cases k1 : (y1 : Int) = x / 65536 % 256
    · by_cases k2 : (y2 : Int) = x / 256 % 256
      · go_wp2
        go_ret
        exact ⟨by rw [HR.out]; simp [k0, k1, k2]; rfl, rfl⟩
      · go_wp2
        go_ret
        exact ⟨by rw [HR.out]; simp [k2], rfl⟩
    · go_wp2
      go_ret
      exact ⟨by rw [HR.out]; simp [k1], rfl⟩
  · go_wp2
    go_ret
    exact ⟨by rw [HR.out]; simp [k0], rfl⟩

end Go.Proofs.Ytonpdclccgpceaa
