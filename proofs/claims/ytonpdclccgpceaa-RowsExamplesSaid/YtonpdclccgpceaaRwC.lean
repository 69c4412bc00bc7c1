/- checksums: the program's and the reference's -/
import Derived.Test.YtonpdclccgpceaaRwB
namespace Go.Proofs.Ytonpdclccgpceaa
open Go Go.RowKit
set_option maxHeartbeats 4000000

def crcK (x : Int) : Int := if x % 2 = 1 then bits .xor .u32 (x / 2) 3988292384 else x / 2
def crc8 : Nat → Int → Int
  | 0, x => x
  | k + 1, x => crcK (crc8 k x)
def crcB (x : Int) (c : Nat) : Int := crc8 8 (bits .xor .u32 x c)
def crcS (l : List Nat) : Int := l.foldl crcB 4294967295
def inU (x : Int) : Prop := 0 ≤ x ∧ x ≤ 4294967295
theorem wrapU (x : Int) : inU (IntKind.u32.wrap x) := by
  have e : IntKind.u32.wrap x = x % 4294967296 := rfl
  rw [e]
  unfold inU
  omega
theorem xorU (a b : Int) : inU (bits .xor .u32 a b) := by
  unfold bits
  exact wrapU _
theorem and1 (x : Int) (h : inU x) : bits .and .u32 x 1 = x % 2 := by
  obtain ⟨h0, h1⟩ := h
  obtain ⟨m, rfl⟩ : ∃ m : Nat, x = m := ⟨x.toNat, by omega⟩
  have h2 : (m &&& 1 : Nat) = m % 2 := Nat.and_two_pow_sub_one_eq_mod m 1
  have h3 : (2 : Nat) ^ IntKind.u32.bits = 4294967296 := by decide
  unfold bits
  simp
  rw [h3, show (1 : Nat) % 4294967296 = 1 by decide, show m % 4294967296 = m by omega, h2]
  show (((m % 2 : Nat) : Int)) % 4294967296 = _
  omega
theorem crcK_in {x : Int} (h : inU x) : inU (crcK x) := by
  unfold crcK
  split
  · exact xorU _ _
  · unfold inU at *; omega
theorem crc8_in {x : Int} (h : inU x) : ∀ k, inU (crc8 k x)
  | 0 => h
  | k + 1 => crcK_in (crc8_in h k)
theorem crc_next {l : List Nat} {k c : Nat} (h : l[k]? = some c) : (l.take (k + 1)).foldl crcB 4294967295 = crcB ((l.take k).foldl crcB 4294967295) c := by
  obtain ⟨hk, he⟩ := List.getElem?_eq_some_iff.1 h
  rw [List.take_succ_eq_append_getElem hk, he, List.foldl_append]
  rfl
theorem crcS_in : ∀ (l : List Nat) (x : Int), inU x → inU (l.foldl crcB x)
  | [], _, h => h
  | _ :: l, _, _ => crcS_in l _ (crc8_in (xorU _ _) 8)
/-- the checksum -/
def crcF (l : List Nat) : Int := bits .xor .u32 IntKind.u32.max (crcS l)
theorem crcF_in (l : List Nat) : inU (crcF l) := xorU _ _
attribute [local irreducible] crcK crcB

set_option maxRecDepth 100000 in
theorem checksum_any (A : Option Addr) (n c B : Nat) (l : List Nat) (w : World) (h : Rd w B 1 A n (cellsOf ucell l)) (hb : ∀ b ∈ l, b < 256) (hn : n ≤ 1000000000) :
    Calls Try.prog 68 #[.slice A n c] w fun e w' => e = .returned (.int .u32 (crcF l)) ∧ w = w' := by
  have H := Lib.hid h
  have HB := Lib.hid hb
  have HN := Lib.hid (h.len ucell_len (by decide))
  clear h hb
  go_enter Try.func68, Try.ntmps68
  go_wp2
  go_loop [3, 8] (fun vx vk => ∃ (k : Nat) (x : Int), k ≤ n ∧ vk = .int .i64 k ∧ vx = .int .u32 x ∧ Hid (x = (l.take k).foldl crcB 4294967295) ∧ 0 ≤ x ∧ x ≤ 4294967295) (fun _ vk => n - (intOf vk).toNat)
  case atStart => exact ⟨0, 4294967295, Nat.zero_le _, rfl, rfl, Lib.hid (by simp), by decide, by decide⟩
  case round =>
    obtain ⟨k, x, hk, rfl, rfl, HX, hx0, hx1⟩ := hrel
    by_cases hlt : k < n
    · obtain ⟨b1, o1, d, rfl, hb1, hd, c0⟩ := H.out.ubyte hlt
      have hd256 := HB.out d (List.mem_of_getElem? hd)
      have HNX := Lib.hid (crc_next hd)
      clear hd
      have HX0 := Lib.hid (xorU x d)
      obtain ⟨y, hy⟩ : ∃ y, bits BinOp.xor IntKind.u32 x d = y := ⟨_, rfl⟩
      have HY := Lib.hid hy
      clear hy
      go_wp2
      rw [HY.out]
      go_loop [3, 16] (fun vy vi => ∃ (i : Nat) (z : Int), i ≤ 8 ∧ vi = .int .i64 i ∧ vy = .int .u32 z ∧ Hid (z = crc8 i y) ∧ 0 ≤ z ∧ z ≤ 4294967295) (fun _ vi => 8 - (intOf vi).toNat)
      case atStart => exact ⟨0, y, by omega, rfl, rfl, Lib.hid rfl, by have := HX0.out; rw [HY.out] at this; exact this.1, by have := HX0.out; rw [HY.out] at this; exact this.2⟩
      case round =>
        obtain ⟨i, z, hi, rfl, rfl, HZ, hz0, hz1⟩ := hrel
        by_cases hlt2 : i < 8
        · have ha := and1 z ⟨hz0, hz1⟩
          by_cases hodd : z % 2 = 1
          · have hK := crcK_in (x := z) ⟨hz0, hz1⟩
            have hE : crcK z = bits .xor .u32 (z / 2) 3988292384 := by unfold crcK; rw [if_pos hodd]
            rw [hE] at hK
            have HE := Lib.hid hE
            have HK := Lib.hid hK
            clear hE hK
            go_wp2
            go_round
            case rel => exact ⟨i + 1, _, by omega, by go_num, rfl, Lib.hid (by rw [← HE.out, HZ.out]; rfl), HK.out.1, HK.out.2⟩
            case measure => simp [intOf]; omega
          · have hev : z % 2 = 0 := by omega
            have HE := Lib.hid (show crcK z = z / 2 by unfold crcK; rw [if_neg hodd])
            clear hodd
            go_wp2
            go_round
            case rel => exact ⟨i + 1, z / 2, by omega, by go_num, by go_num, Lib.hid (by rw [← HE.out, HZ.out]; rfl), by omega, by omega⟩
            case measure => simp [intOf]; omega
        · have hi8 : i = 8 := by omega
          subst hi8
          have HZ2 := Lib.hid (show z = crcB x d by rw [HZ.out, ← HY.out]; unfold crcB; rfl)
          go_wp2
          go_round
          case rel => exact ⟨k + 1, z, by omega, by go_num, rfl, Lib.hid (by rw [HNX.out, ← HX.out]; exact HZ2.out), hz0, hz1⟩
          case measure => simp [intOf]; omega
    · have hk2 : l.take k = l := List.take_of_length_le (by rw [HN.out]; omega)
      have HF := Lib.hid (show bits BinOp.xor IntKind.u32 IntKind.u32.max x = crcF l by rw [HX.out, hk2]; rfl)
      clear hk2
      go_wp2
      go_ret
      exact ⟨ret_int HF.out, rfl⟩

set_option maxRecDepth 100000 in
theorem rchecksum_any (A : Option Addr) (n c B : Nat) (l : List Nat) (w : World) (h : Rd w B 1 A n (cellsOf ucell l)) (hb : ∀ b ∈ l, b < 256) (hn : n ≤ 1000000000) :
    Calls Try.prog 54 #[.slice A n c] w fun e w' => e = .returned (.int .u32 (crcF l)) ∧ w = w' := by
  have H := Lib.hid h
  have HB := Lib.hid hb
  have HN := Lib.hid (h.len ucell_len (by decide))
  clear h hb
  go_enter Try.func54, Try.ntmps54
  go_wp2
  go_loop [3, 4] (fun vx vk => ∃ (k : Nat) (x : Int), k ≤ n ∧ vk = .int .i64 k ∧ vx = .int .u32 x ∧ Hid (x = (l.take k).foldl crcB 4294967295) ∧ 0 ≤ x ∧ x ≤ 4294967295) (fun _ vk => n - (intOf vk).toNat)
  case atStart => exact ⟨0, 4294967295, Nat.zero_le _, rfl, rfl, Lib.hid (by simp), by decide, by decide⟩
  case round =>
    obtain ⟨k, x, hk, rfl, rfl, HX, hx0, hx1⟩ := hrel
    by_cases hlt : k < n
    · obtain ⟨b1, o1, d, rfl, hb1, hd, c0⟩ := H.out.ubyte hlt
      have hd256 := HB.out d (List.mem_of_getElem? hd)
      have HNX := Lib.hid (crc_next hd)
      clear hd
      have HX0 := Lib.hid (xorU x d)
      obtain ⟨y, hy⟩ : ∃ y, bits BinOp.xor IntKind.u32 x d = y := ⟨_, rfl⟩
      have HY := Lib.hid hy
      clear hy
      go_wp2
      rw [HY.out]
      go_loop [3, 5] (fun vy vi => ∃ (i : Nat) (z : Int), i ≤ 8 ∧ vi = .int .i64 i ∧ vy = .int .u32 z ∧ Hid (z = crc8 i y) ∧ 0 ≤ z ∧ z ≤ 4294967295) (fun _ vi => 8 - (intOf vi).toNat)
      case atStart => exact ⟨0, y, by omega, rfl, rfl, Lib.hid rfl, by have := HX0.out; rw [HY.out] at this; exact this.1, by have := HX0.out; rw [HY.out] at this; exact this.2⟩
      case round =>
        obtain ⟨i, z, hi, rfl, rfl, HZ, hz0, hz1⟩ := hrel
        by_cases hlt2 : i < 8
        · by_cases hodd : z % 2 = 1
          · have hK := crcK_in (x := z) ⟨hz0, hz1⟩
            have hE : crcK z = bits .xor .u32 (z / 2) 3988292384 := by unfold crcK; rw [if_pos hodd]
            rw [hE] at hK
            have HE := Lib.hid hE
            have HK := Lib.hid hK
            clear hE hK
            go_wp2
            go_round
            case rel => exact ⟨i + 1, _, by omega, by go_num, rfl, Lib.hid (by rw [← HE.out, HZ.out]; rfl), HK.out.1, HK.out.2⟩
            case measure => simp [intOf]; omega
          · have hev : z % 2 = 0 := by omega
            have HE := Lib.hid (show crcK z = z / 2 by unfold crcK; rw [if_neg hodd])
            clear hodd
            go_wp2
            go_round
            case rel => exact ⟨i + 1, z / 2, by omega, by go_num, by go_num, Lib.hid (by rw [← HE.out, HZ.out]; rfl), by omega, by omega⟩
            case measure => simp [intOf]; omega
        · have hi8 : i = 8 := by omega
          subst hi8
          have HZ2 := Lib.hid (show z = crcB x d by rw [HZ.out, ← HY.out]; unfold crcB; rfl)
          go_wp2
          go_round
          case rel => exact ⟨k + 1, z, by omega, by go_num, rfl, Lib.hid (by rw [HNX.out, ← HX.out]; exact HZ2.out), hz0, hz1⟩
          case measure => simp [intOf]; omega
    · have hk2 : l.take k = l := List.take_of_length_le (by rw [HN.out]; omega)
      have HF := Lib.hid (show bits BinOp.xor IntKind.u32 IntKind.u32.max x = crcF l by rw [HX.out, hk2]; rfl)
      clear hk2
      go_wp2
      go_ret
      exact ⟨ret_int HF.out, rfl⟩

end Go.Proofs.Ytonpdclccgpceaa
