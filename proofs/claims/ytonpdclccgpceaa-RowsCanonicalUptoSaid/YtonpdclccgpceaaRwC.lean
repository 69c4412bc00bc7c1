/- checksums: the program's and the reference's; sealed bytes: the program's AppendSum, the reference's Sealed -/
import Derived.Test.YtonpdclccgpceaaRwB
namespace Go.Proofs.Ytonpdclccgpceaa
open Go Go.RowKit
set_option maxHeartbeats 4000000

def crcK (x : Int) : Int := if x % 2 = 1 then bits .xor .u32 (x / 2) 3988292384 else x / 2
def crc8 : Nat → Int → Int
  | 0, x => x
  | k + 1, x => crcK (crc8 k x)
def crcB (x : Int) (c : Nat) : Int := crc8 8 (bits .xor .u32 x c)
def crcS (l : List Nat) : Int := l.foldl crcB 4294967295
def inU (x : Int) : Prop := 0 ≤ x ∧ x ≤ 4294967295
theorem wrapU (x : Int) : inU (IntKind.u32.wrap x) := by
  have e : IntKind.u32.wrap x = x % 4294967296 := rfl
  rw [e]
  unfold inU
  omega
theorem xorU (a b : Int) : inU (bits .xor .u32 a b) := by
  unfold bits
  exact wrapU _
theorem and1 (x : Int) (h : inU x) : bits .and .u32 x 1 = x % 2 := by
  obtain ⟨h0, h1⟩ := h
  obtain ⟨m, rfl⟩ : ∃ m : Nat, x = m := ⟨x.toNat, by omega⟩
  have h2 : (m &&& 1 : Nat) = m % 2 := Nat.and_two_pow_sub_one_eq_mod m 1
  have h3 : (2 : Nat) ^ IntKind.u32.bits = 4294967296 := by decide
  unfold bits
  simp
  rw [h3, show (1 : Nat) % 4294967296 = 1 by decide, show m % 4294967296 = m by omega, h2]
  show (((m % 2 : Nat) : Int)) % 4294967296 = _
  omega
theorem crcK_in {x : Int} (h : inU x) : inU (crcK x) := by
  unfold crcK
  split
  · exact xorU _ _
  · unfold inU at *; omega
theorem crc8_in {x : Int} (h : inU x) : ∀ k, inU (crc8 k x)
  | 0 => h
  | k + 1 => crcK_in (crc8_in h k)
theorem crc_next {l : List Nat} {k c : Nat} (h : l[k]? = some c) : (l.take (k + 1)).foldl crcB 4294967295 = crcB ((l.take k).foldl crcB 4294967295) c := by
  obtain ⟨hk, he⟩ := List.getElem?_eq_some_iff.1 h
  rw [List.take_succ_eq_append_getElem hk, he, List.foldl_append]
  rfl
theorem crcS_in : ∀ (l : List Nat) (x : Int), inU x → inU (l.foldl crcB x)
  | [], _, h => h
  | _ :: l, _, _ => crcS_in l _ (crc8_in (xorU _ _) 8)
/-- the checksum -/
def crcF (l : List Nat) : Int := bits .xor .u32 IntKind.u32.max (crcS l)
theorem crcF_in (l : List Nat) : inU (crcF l) := xorU _ _
attribute [local irreducible] crcK crcB

set_option maxRecDepth 100000 in
theorem checksum_any (A : Option Addr) (n c B : Nat) (l : List Nat) (w : World) (h : Rd w B 1 A n (cellsOf ucell l)) (hb : ∀ b ∈ l, b < 256) (hn : n ≤ 1000000000) :
    Calls Try.prog 68 #[.slice A n c] w fun e w' => e = .returned (.int .u32 (crcF l)) ∧ w = w' := by
  have H := Lib.hid h
  have HB := Lib.hid hb
  have HN := Lib.hid (h.len ucell_len (by decide))
  clear h hb
  go_enter Try.func68, Try.ntmps68
  go_wp2
  go_loop [3, 8] (fun vx vk => ∃ (k : Nat) (x : Int), k ≤ n ∧ vk = .int .i64 k ∧ vx = .int .u32 x ∧ Hid (x = (l.take k).foldl crcB 4294967295) ∧ 0 ≤ x ∧ x ≤ 4294967295) (fun _ vk => n - (intOf vk).toNat)
  case atStart => exact ⟨0, 4294967295, Nat.zero_le _, rfl, rfl, Lib.hid (by simp), by decide, by decide⟩
  case round =>
    obtain ⟨k, x, hk, rfl, rfl, HX, hx0, hx1⟩ := hrel
    by_cases hlt : k < n
    · obtain ⟨b1, o1, d, rfl, hb1, hd, c0⟩ := H.out.ubyte hlt
      have hd256 := HB.out d (List.mem_of_getElem? hd)
      have HNX := Lib.hid (crc_next hd)
      clear hd
      have HX0 := Lib.hid (xorU x d)
      obtain ⟨y, hy⟩ : ∃ y, bits BinOp.xor IntKind.u32 x d = y := ⟨_, rfl⟩
      have HY := Lib.hid hy
      clear hy
      go_wp2
      rw [HY.out]
      go_loop [3, 16] (fun vy vi => ∃ (i : Nat) (z : Int), i ≤ 8 ∧ vi = .int .i64 i ∧ vy = .int .u32 z ∧ Hid (z = crc8 i y) ∧ 0 ≤ z ∧ z ≤ 4294967295) (fun _ vi => 8 - (intOf vi).toNat)
      case atStart => exact ⟨0, y, by omega, rfl, rfl, Lib.hid rfl, by have := HX0.out; rw [HY.out] at this; exact this.1, by have := HX0.out; rw [HY.out] at this; exact this.2⟩
      case round =>
        obtain ⟨i, z, hi, rfl, rfl, HZ, hz0, hz1⟩ := hrel
        by_cases hlt2 : i < 8
        · have ha := and1 z ⟨hz0, hz1⟩
          by_cases hodd : z % 2 = 1
          · have hK := crcK_in (x := z) ⟨hz0, hz1⟩
            have hE : crcK z = bits .xor .u32 (z / 2) 3988292384 := by unfold crcK; rw [if_pos hodd]
            rw [hE] at hK
            have HE := Lib.hid hE
            have HK := Lib.hid hK
            clear hE hK
            go_wp2
            go_round
            case rel => exact ⟨i + 1, _, by omega, by go_num, rfl, Lib.hid (by rw [← HE.out, HZ.out]; rfl), HK.out.1, HK.out.2⟩
            case measure => simp [intOf]; omega
          · have hev : z % 2 = 0 := by omega
            have HE := Lib.hid (show crcK z = z / 2 by unfold crcK; rw [if_neg hodd])
            clear hodd
            go_wp2
            go_round
            case rel => exact ⟨i + 1, z / 2, by omega, by go_num, by go_num, Lib.hid (by rw [← HE.out, HZ.out]; rfl), by omega, by omega⟩
            case measure => simp [intOf]; omega
        · have hi8 : i = 8 := by omega
          subst hi8
          have HZ2 := Lib.hid (show z = crcB x d by rw [HZ.out, ← HY.out]; unfold crcB; rfl)
          go_wp2
          go_round
          case rel => exact ⟨k + 1, z, by omega, by go_num, rfl, Lib.hid (by rw [HNX.out, ← HX.out]; exact HZ2.out), hz0, hz1⟩
          case measure => simp [intOf]; omega
    · have hk2 : l.take k = l := List.take_of_length_le (by rw [HN.out]; omega)
      have HF := Lib.hid (show bits BinOp.xor IntKind.u32 IntKind.u32.max x = crcF l by rw [HX.out, hk2]; rfl)
      clear hk2
      go_wp2
      go_ret
      exact ⟨ret_int HF.out, rfl⟩

set_option maxRecDepth 100000 in
theorem rchecksum_any (A : Option Addr) (n c B : Nat) (l : List Nat) (w : World) (h : Rd w B 1 A n (cellsOf ucell l)) (hb : ∀ b ∈ l, b < 256) (hn : n ≤ 1000000000) :
    Calls Try.prog 54 #[.slice A n c] w fun e w' => e = .returned (.int .u32 (crcF l)) ∧ w = w' := by
  have H := Lib.hid h
  have HB := Lib.hid hb
  have HN := Lib.hid (h.len ucell_len (by decide))
  clear h hb
  go_enter Try.func54, Try.ntmps54
  go_wp2
  go_loop [3, 4] (fun vx vk => ∃ (k : Nat) (x : Int), k ≤ n ∧ vk = .int .i64 k ∧ vx = .int .u32 x ∧ Hid (x = (l.take k).foldl crcB 4294967295) ∧ 0 ≤ x ∧ x ≤ 4294967295) (fun _ vk => n - (intOf vk).toNat)
  case atStart => exact ⟨0, 4294967295, Nat.zero_le _, rfl, rfl, Lib.hid (by simp), by decide, by decide⟩
  case round =>
    obtain ⟨k, x, hk, rfl, rfl, HX, hx0, hx1⟩ := hrel
    by_cases hlt : k < n
    · obtain ⟨b1, o1, d, rfl, hb1, hd, c0⟩ := H.out.ubyte hlt
      have hd256 := HB.out d (List.mem_of_getElem? hd)
      have HNX := Lib.hid (crc_next hd)
      clear hd
      have HX0 := Lib.hid (xorU x d)
      obtain ⟨y, hy⟩ : ∃ y, bits BinOp.xor IntKind.u32 x d = y := ⟨_, rfl⟩
      have HY := Lib.hid hy
      clear hy
      go_wp2
      rw [HY.out]
      go_loop [3, 5] (fun vy vi => ∃ (i : Nat) (z : Int), i ≤ 8 ∧ vi = .int .i64 i ∧ vy = .int .u32 z ∧ Hid (z = crc8 i y) ∧ 0 ≤ z ∧ z ≤ 4294967295) (fun _ vi => 8 - (intOf vi).toNat)
      case atStart => exact ⟨0, y, by omega, rfl, rfl, Lib.hid rfl, by have := HX0.out; rw [HY.out] at this; exact this.1, by have := HX0.out; rw [HY.out] at this; exact this.2⟩
      case round =>
        obtain ⟨i, z, hi, rfl, rfl, HZ, hz0, hz1⟩ := hrel
        by_cases hlt2 : i < 8
        · by_cases hodd : z % 2 = 1
          · have hK := crcK_in (x := z) ⟨hz0, hz1⟩
            have hE : crcK z = bits .xor .u32 (z / 2) 3988292384 := by unfold crcK; rw [if_pos hodd]
            rw [hE] at hK
            have HE := Lib.hid hE
            have HK := Lib.hid hK
            clear hE hK
            go_wp2
            go_round
            case rel => exact ⟨i + 1, _, by omega, by go_num, rfl, Lib.hid (by rw [← HE.out, HZ.out]; rfl), HK.out.1, HK.out.2⟩
            case measure => simp [intOf]; omega
          · have hev : z % 2 = 0 := by omega
            have HE := Lib.hid (show crcK z = z / 2 by unfold crcK; rw [if_neg hodd])
            clear hodd
            go_wp2
            go_round
            case rel => exact ⟨i + 1, z / 2, by omega, by go_num, by go_num, Lib.hid (by rw [← HE.out, HZ.out]; rfl), by omega, by omega⟩
            case measure => simp [intOf]; omega
        · have hi8 : i = 8 := by omega
          subst hi8
          have HZ2 := Lib.hid (show z = crcB x d by rw [HZ.out, ← HY.out]; unfold crcB; rfl)
          go_wp2
          go_round
          case rel => exact ⟨k + 1, z, by omega, by go_num, rfl, Lib.hid (by rw [HNX.out, ← HX.out]; exact HZ2.out), hz0, hz1⟩
          case measure => simp [intOf]; omega
    · have hk2 : l.take k = l := List.take_of_length_le (by rw [HN.out]; omega)
      have HF := Lib.hid (show bits BinOp.xor IntKind.u32 IntKind.u32.max x = crcF l by rw [HX.out, hk2]; rfl)
      clear hk2
      go_wp2
      go_ret
      exact ⟨ret_int HF.out, rfl⟩

end Go.Proofs.Ytonpdclccgpceaa
namespace Go.Proofs.Ytonpdclccgpceaa
open Go Go.RowKit
set_option maxHeartbeats 4000000

/-- append of what reads at a place, at the operation. -/
theorem app_rdS {P : Program} {w : World} {o : Oper} {a : Act} {K : Act → World → Prop} {Q : Exit → Act → World → Prop} {s x : Operand} {t e : TypeId} {size bytes : Nat}
    (hT : SlT P t e size bytes) (ho : o.op = .call { callee := .builtin .append, args := #[s, x], argTypes := #[t, t] })
    {v : Value} {n : Nat} {xs : List Value} (hown : w.ownsRow 0 e size v n xs) (hs : a.eval s = v)
    {ad : Addr} {B m c : Nat} {news : List Value} (hB : Rd w B size (some ad) m news) (hx : a.eval x = .slice (some ad) m c) (h1 : ∀ u ∈ news, u.oneCell' = true)
    (h63 : n + m ≤ maxLen) (hbytes : (n + m) * bytes ≤ 140737488355328)
    (h : ∀ v' w', w'.ownsRow 0 e size v' (n + m) (xs ++ news) → w.grownBy w' v.ownBlock → (v'.ownBlock = v.ownBlock ∨ v'.ownBlock = some w.heap.size) → K (a.put o.dst v') w') : o.wp P a w K Q := by
  obtain ⟨i, z, h2, h3, h4, h5, h6, h7, h8⟩ := hT
  have hnews : ∀ j u, news[j]? = some u → w.cell? (ad.add j) = some u := fun j u hu => by
    have hm : 0 < m := by
      have h0 := hB.1
      have := (List.getElem?_eq_some_iff.1 hu).1
      rcases Nat.eq_zero_or_pos m with e | e
      · rw [e] at h0; simp at h0; rw [h0] at this; simp at this
      · exact e
    obtain ⟨b, off, e, _, hc⟩ := hB.2 hm
    cases e
    rw [show (⟨b, off, none⟩ : Addr).add j = ⟨b, off + j, none⟩ from by simp [Addr.add]; try (intro h0; subst h0; rfl)]
    exact hc j u hu
  obtain ⟨v', w', hr, a1, a2, _, a3⟩ := run_append_own_at (P := P) w 0 t o.type e i z size bytes h2 h3 h4 h5 h6 h7 h8 v n xs hown ad m c news hB.1 hnews h1 h63 hbytes (Nat.zero_le _)
  unfold Oper.wp execOp
  simp only [ho, resolve, invoke, builtin, Sem.run_bind, Sem.run_pure, Result.andThen_ok, List.map_toArray, List.map_cons, List.map_nil, hs, hx, hr]
  exact h v' w' a1 a2 a3

theorem appList_rd {P : Program} {ops : Array Oper} {rest : List Oper} {w : World} {o : Oper} {a : Act} {Q : Exit → Act → World → Prop} {s x : Operand} {t e : TypeId} {size bytes : Nat} (hgd : o.guard = none)
    (hT : SlT P t e size bytes) (ho : o.op = .call { callee := .builtin .append, args := #[s, x], argTypes := #[t, t] })
    {v : Value} {n : Nat} {xs : List Value} (hown : w.ownsRow 0 e size v n xs) (hs : a.eval s = v)
    {ad : Addr} {B m c : Nat} {news : List Value} (hB : Rd w B size (some ad) m news) (hx : a.eval x = .slice (some ad) m c) (h1 : ∀ u ∈ news, u.oneCell' = true)
    (h63 : n + m ≤ maxLen) (hbytes : (n + m) * bytes ≤ 140737488355328)
    (h : ∀ v' w', w'.ownsRow 0 e size v' (n + m) (xs ++ news) → w.grownBy w' v.ownBlock → (v'.ownBlock = v.ownBlock ∨ v'.ownBlock = some w.heap.size) → wpList P ops Q rest (a.put o.dst v') w') : wpList P ops Q (o :: rest) a w :=
  wpList_plain hgd fun _ hK => app_rdS hT ho hown hs hB hx h1 h63 hbytes fun v' w' h2 h3 h4 => hK _ _ (h v' w' h2 h3 h4)
theorem ucell_ones (l : List Nat) : ∀ u ∈ cellsOf ucell l, u.oneCell' = true := cellsOf_one_cell (fun x u hu => by
  simp [ucell] at hu
  rw [hu]
  rfl) l
/-- what an append of what lies elsewhere gives -/
theorem app_post2 {w wr w7 : World} {v vb v7 : Value} {l m : List Nat} (hO : Outside (fun k => v.ownBlock = some k) w wr) (hF : From w v vb)
    (hown : w7.ownsRow 0 5 1 v7 (l.length + m.length) (cellsOf ucell l ++ cellsOf ucell m))
    (hgrow : wr.grownBy w7 vb.ownBlock) (hat : v7.ownBlock = vb.ownBlock ∨ v7.ownBlock = some wr.heap.size) :
    Own w7 v7 (l ++ m) ∧ Outside (fun k => v.ownBlock = some k) w w7 ∧ From w v v7 := by
  refine ⟨by unfold Own; rw [List.length_append, cellsOf_append]; exact hown, hO.grown hgrow fun z hz => ?_, ?_⟩
  · rcases hF with h | ⟨g', h, h1⟩
    · exact .inl (h.symm.trans hz)
    · have : g' = z := by simpa using h.symm.trans hz
      exact .inr (by omega)
  · rcases hat with h | h
    · rcases hF with h2 | ⟨g', h2, h1⟩
      · exact .inl (h.trans h2)
      · exact .inr ⟨g', h.trans h2, h1⟩
    · exact .inr ⟨_, h, hO.size⟩
theorem Own.rd {w : World} {A : Option Addr} {c : Nat} {l : List Nat} (h : Own w (.slice A l.length c) l) : Rd w w.heap.size 1 A l.length (cellsOf ucell l) := Rd.ofOwn h

/-- the four bytes of a checksum -/
def sum4 (x : Int) : List Nat := [(x / 16777216).toNat, (x / 65536 % 256).toNat, (x / 256 % 256).toNat, (x % 256).toNat]

theorem sum4_cells {x : Int} (h0 : 0 ≤ x) : [Value.int .u8 (x / 16777216), Value.int .u8 (x / 65536 % 256), Value.int .u8 (x / 256 % 256), Value.int .u8 (x % 256)] = cellsOf ucell (sum4 x) := by
  have e1 : ((x / 16777216).toNat : Int) = x / 16777216 := Int.toNat_of_nonneg (by omega)
  have e2 : ((x / 65536 % 256).toNat : Int) = x / 65536 % 256 := Int.toNat_of_nonneg (by omega)
  have e3 : ((x / 256 % 256).toNat : Int) = x / 256 % 256 := Int.toNat_of_nonneg (by omega)
  have e4 : ((x % 256).toNat : Int) = x % 256 := Int.toNat_of_nonneg (by omega)
  simp only [sum4, cellsOf, ucell, List.flatMap_cons, List.flatMap_nil, e1, e2, e3, e4, List.cons_append, List.nil_append, List.append_nil]
theorem sum4_byte {x : Int} (h0 : 0 ≤ x) (h1 : x ≤ 4294967295) : ∀ b ∈ sum4 x, b < 256 := by
  intro b hb
  simp only [sum4, List.mem_cons, List.not_mem_nil, or_false] at hb
  omega

set_option maxRecDepth 100000 in
theorem appendSum_any (v : Value) (l : List Nat) (w : World) (h : Own w v l) (hb : ∀ b ∈ l, b < 256) (hl : l.length ≤ 1000000000) :
    Calls Try.prog 67 #[v, .int .i64 0] w (AppPost w v l (sum4 (crcF l))) := by
  obtain ⟨A, c, rfl, hc, _⟩ := h.form
  have HO := Lib.hid h
  have HR := Lib.hid h.rd
  have HB := Lib.hid hb
  clear h hb
  obtain ⟨x, hx⟩ : ∃ x, crcF l = x := ⟨_, rfl⟩
  have hxi := crcF_in l
  rw [hx] at hxi ⊢
  have HX := Lib.hid hx
  obtain ⟨hx0, hx1⟩ := hxi
  clear hx
  go_enter Try.func67, Try.ntmps67
  go_wp2_with fail
  refine (checksum_any A l.length c w.heap.size l _ HR.out HB.out hl).mono ?_
  rw [HX.out]
  rintro e w1 ⟨rfl, rfl⟩
  have HC := Lib.hid (sum4_cells hx0)
  go_wp2_with (first | (at_builtin; go_must (refine appList_blk rfl slByte rfl (HO.out.alloc _) rfl (news := [.int .u8 (x / 16777216), .int .u8 (x / 65536 % 256), .int .u8 (x / 256 % 256), .int .u8 (x % 256)]) ((heap_alloc_at rfl) : Blk _ w.heap.size _ _) rfl rfl (by simp [Value.oneCell']) (by decide) (by unfold maxLen; omega) (by omega) ?_); intro g7 cap7 w7 hown7 hgrow7 hat7))
  obtain ⟨h1, h2, h3⟩ := app_post (m := sum4 x) (Outside.refl _ w) (From.refl w _) hown7 rfl HC.out hgrow7 hat7
  have HN := Lib.hid (And.intro h1 (And.intro h2 h3))
  clear h1 h2 h3 hown7 hgrow7 hat7
  go_ret
  exact ⟨_, rfl, HN.out⟩

/-- sealed bytes -/
def sealB (l : List Nat) : List Nat := l ++ sum4 (crcF l)
set_option maxRecDepth 100000 in
theorem sealed_any (ad : Addr) (n c B : Nat) (l : List Nat) (w : World) (h : Rd w B 1 (some ad) n (cellsOf ucell l)) (hB : B ≤ w.heap.size) (hb : ∀ b ∈ l, b < 256) (h0 : 0 < n) (hn : n ≤ 1000000000) :
    Calls Try.prog 24 #[.slice (some ad) n c] w (fun e w' => ∃ v', e = .returned v' ∧ Own w' v' (sealB l) ∧ Below w.heap.size w w' ∧ ∃ g, v'.ownBlock = some g ∧ w.heap.size ≤ g) := by
  have H := Lib.hid h
  have HB := Lib.hid hb
  have HN := Lib.hid (h.len ucell_len (by decide))
  clear h hb
  obtain ⟨x, hx⟩ : ∃ x, crcF l = x := ⟨_, rfl⟩
  have hxi := crcF_in l
  rw [hx] at hxi
  have HX := Lib.hid hx
  obtain ⟨hx0, hx1⟩ := hxi
  have HC := Lib.hid (sum4_cells hx0)
  clear hx
  go_enter Try.func24, Try.ntmps24
  go_wp2_with fail
  refine (rchecksum_any (some ad) n c B l _ H.out HB.out hn).mono ?_
  rw [HX.out]
  rintro e w1 ⟨rfl, rfl⟩
  have hown : (w.alloc (Obj.cells #[] 5)).ownsRow 0 5 1 (.slice (some ⟨w.heap.size, 0, none⟩) 0 0) 0 [] :=
    ⟨rfl, .inr ⟨w.heap.size, 0, #[], rfl, Nat.zero_le _, heap_alloc_new w _, Nat.le_refl _, by simp [maxLen], rfl, rfl⟩⟩
  have HOW := Lib.hid hown
  clear hown
  have HB0 := Lib.hid ((Below.refl w.heap.size w).alloc (Nat.le_refl _) (Obj.cells #[] 5))
  go_wp2_with (first
    | (at_builtin; refine appList_blk rfl slByte rfl (World.ownsRow.alloc hown7 _) rfl (news := [.int .u8 (x / 16777216), .int .u8 (x / 65536 % 256), .int .u8 (x / 256 % 256), .int .u8 (x % 256)]) ((heap_alloc_at rfl) : Blk _ w7.heap.size _ _) rfl rfl (by simp [Value.oneCell']) (by decide) (by unfold maxLen; omega) (by omega) ?_; intro g8 cap8 w8 hown8 hgrow8 hat8)
    | (at_builtin; refine appList_rd rfl slByte rfl HOW.out rfl (H.out.alloc hB (Obj.cells #[] 5)) (c := c) rfl (ucell_ones l) (by unfold maxLen; omega) (by omega) ?_; intro v7 w7 hown7 hgrow7 hat7; rw [Nat.zero_add] at hown7; obtain ⟨g7, c7, rfl, _, hlt7⟩ := hown7.form h0))
  have hln := HN.out
  have hO : Own w8 (.slice (some ⟨g8, 0, none⟩) (n + 4) cap8) (sealB l) := by
    unfold Own sealB
    rw [HX.out, cellsOf_append, List.length_append, hln, ← HC.out, show n + (sum4 x).length = n + 4 from by simp [sum4]]
    simpa using hown8
  have h7 : ∀ g, (Value.slice (some ⟨g7, 0, none⟩) n c7).ownBlock = some g → w.heap.size ≤ g := fun g hg => by
    rcases hat7 with h | h
    · have h1 : (Value.slice (some ⟨w.heap.size, 0, none⟩) 0 0).ownBlock = some g := h.symm.trans hg
      simp [Value.ownBlock] at h1
      omega
    · have h1 := h.symm.trans hg
      simp at h1
      omega
  have hb7 : Below w.heap.size w w7 := HB0.out.grown hgrow7 (by simp) (fun z hz => by simp [Value.ownBlock] at hz; omega)
  have hb8 : Below w.heap.size w w8 := (hb7.alloc hb7.size _).grown hgrow8 (Nat.le_trans hb7.size (by simp)) h7
  have hF : w.heap.size ≤ g8 := by
    rcases hat8 with h | h
    · exact h7 _ h
    · have := hb7.size
      simp at h
      omega
  have HF := Lib.hid (And.intro hO (And.intro hb8 hF))
  clear hO h7 hb7 hb8 hF hown7 hgrow7 hat7 hown8 hgrow8 hat8 hln
  go_ret
  exact ⟨_, rfl, HF.out.1, HF.out.2.1, g8, rfl, HF.out.2.2⟩

end Go.Proofs.Ytonpdclccgpceaa
