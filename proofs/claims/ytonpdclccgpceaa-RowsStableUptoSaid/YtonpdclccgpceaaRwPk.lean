/- packed systems: plain laws; packed systems: the program's pack -/
import Derived.Test.YtonpdclccgpceaaRwR
import Derived.Test.YtonpdclccgpceaaRwB
import Derived.OwnWalk
import Derived.Lib.SlBytesConst
namespace Go.Proofs.Ytonpdclccgpceaa
open Go Go.RowKit
set_option maxHeartbeats 4000000

/-- a system that can be packed -/
structure Pk (ls : List (List Arc)) : Prop where
  n1 : 1 ≤ ls.length
  n2 : ls.length ≤ 16384
  tot : total ls ≤ 262144
  ok : ∀ l ∈ ls, ∀ a ∈ l, okR a
  asc : ∀ l ∈ ls, ascB l = true
theorem Pk.of {ls : List (List Arc)} (h : validB ls = true) : Pk ls := by
  unfold validB looseB at h
  simp only [Bool.and_eq_true, decide_eq_true_eq] at h
  obtain ⟨⟨⟨⟨h1, h2⟩, h3⟩, h4⟩, h5⟩ := h
  refine ⟨h1, h2, h3, fun l hl a ha => ?_, fun l hl => List.all_eq_true.1 h5 l hl⟩
  have h6 := List.all_eq_true.1 (List.all_eq_true.1 h4 l hl) a ha
  unfold okA at h6
  simp only [Bool.and_eq_true, decide_eq_true_eq] at h6
  exact ⟨h6.1.1, h6.1.2, h6.2.1, by have := h6.2.2; omega⟩
theorem Pk.row {ls : List (List Arc)} (h : Pk ls) {l : List Arc} (hl : l ∈ ls) : l.length ≤ 262144 := by
  obtain ⟨k, hk, rfl⟩ := List.getElem_of_mem hl
  have h1 := total_take ls k _ (List.getElem?_eq_getElem hk)
  have h2 := total_le ls (k + 1)
  have := h.tot
  omega
theorem rowB_len (s : Int) (hs : 0 ≤ s ∧ s ≤ 16384) : ∀ (l : List Arc) (p : Option Arc), (∀ a ∈ l, okR a) → (∀ a, p = some a → okR a) → (rowB s p l).length ≤ 18 * l.length
  | [], p, _, _ => by cases p <;> simp [rowB]
  | a :: r, p, h, hp => by
    have h1 := rowB_len s hs r (some a) (fun x hx => h x (List.mem_cons_of_mem _ hx)) (fun x hx => by cases hx; exact h a List.mem_cons_self)
    obtain ⟨q1, q2, q3, q4⟩ := h a List.mem_cons_self
    have h2 : (oneB s p a).length ≤ 18 := by
      have hz := zz_le (a.to - s) (by omega)
      cases p with
      | none =>
        have hu := uv_le a.ev.toNat (by omega)
        rw [oneB, List.length_append]
        omega
      | some b =>
        obtain ⟨r1, r2, r3, r4⟩ := hp b rfl
        unfold oneB
        dsimp only
        split
        · have hu := uv_le 0 (by omega)
          have hv := uv_le (a.to - b.to - 1).toNat (by omega)
          rw [List.length_append]
          omega
        · have hu := uv_le (a.ev - b.ev).toNat (by omega)
          rw [List.length_append]
          omega
    rw [rowB_cons, List.length_append, List.length_cons]
    omega
theorem rowF_len (s : Int) (hs : 0 ≤ s ∧ s ≤ 16384) (l : List Arc) (h : ∀ a ∈ l, okR a) (hl : l.length ≤ 1000000) : (rowF s l).length ≤ 9 + 18 * l.length := by
  have h1 := rowB_len s hs l none h (fun a ha => by cases ha)
  have h2 := uv_le l.length (by omega)
  rw [rowF, List.length_append]
  omega
theorem zz_byte (k : Int) : ∀ b ∈ zz k, b < 256 := by
  unfold zz
  split <;> exact uv_byte _
theorem rowB_byte (s : Int) : ∀ (l : List Arc) (p : Option Arc), ∀ b ∈ rowB s p l, b < 256
  | [], p, b, h => by cases p <;> simp [rowB] at h
  | a :: r, p, b, h => by
    rw [rowB_cons] at h
    rcases List.mem_append.1 h with h | h
    · cases p with
      | none =>
        rcases List.mem_append.1 h with h | h
        · exact uv_byte _ b h
        · exact zz_byte _ b h
      | some q =>
        unfold oneB at h
        dsimp only at h
        split at h
        · rcases List.mem_append.1 h with h | h
          · exact uv_byte _ b h
          · exact uv_byte _ b h
        · rcases List.mem_append.1 h with h | h
          · exact uv_byte _ b h
          · exact zz_byte _ b h
    · exact rowB_byte s r (some a) b h
theorem rowF_byte (s : Int) (l : List Arc) : ∀ b ∈ rowF s l, b < 256 := fun b h => by
  rcases List.mem_append.1 h with h | h
  · exact uv_byte _ b h
  · exact rowB_byte s l none b h
theorem rowF_ne (s : Int) (l : List Arc) : rowF s l ≠ [] := by
  intro h
  have h1 := congrArg List.length h
  rw [rowF, List.length_append, List.length_nil] at h1
  have h2 : uv l.length ≠ [] := by
    by_cases h3 : l.length < 128
    · rw [uv_small h3]; simp
    · rw [uv_big h3]; simp
  exact h2 (List.length_eq_zero_iff.1 (by omega))
theorem rows_get {ls : List (List Arc)} {k : Nat} {l : List Arc} (h : ls[k]? = some l) : (rowsOf ls)[k]? = some (rowF k l) := by
  rw [rowsOf, List.getElem?_mapIdx, h]
  rfl
theorem rows_len (ls : List (List Arc)) : (rowsOf ls).length = ls.length := by rw [rowsOf, List.length_mapIdx]
theorem rows_next {ls : List (List Arc)} {k : Nat} {l : List Arc} (h : ls[k]? = some l) : ((rowsOf ls).take (k + 1)).flatten = ((rowsOf ls).take k).flatten ++ rowF k l := by
  obtain ⟨hk, he⟩ := List.getElem?_eq_some_iff.1 (rows_get h)
  rw [List.take_succ_eq_append_getElem hk, he, List.flatten_append]
  simp
theorem rows_byte (ls : List (List Arc)) : ∀ r ∈ rowsOf ls, ∀ b ∈ r, b < 256 := by
  intro r hr b hb
  obtain ⟨k, hk, rfl⟩ := List.getElem_of_mem hr
  rw [rows_len] at hk
  have h1 := rows_get (List.getElem?_eq_getElem hk)
  have h2 := (List.getElem?_eq_some_iff.1 h1).2
  rw [h2] at hb
  exact rowF_byte _ _ b hb
/-- the bytes of a group's rows, of the first k rows -/
def gszK (ls : List (List Arc)) (k g : Nat) : Nat := ((((rowsOf ls).take k).drop (16 * g)).take 16).flatten.length
theorem gszK_all (ls : List (List Arc)) (k g : Nat) (h : ls.length ≤ k) : gszK ls k g = gsz ls g := by
  rw [gszK, gsz, List.take_of_length_le (l := rowsOf ls) (by rw [rows_len]; exact h)]
theorem gszK_next {ls : List (List Arc)} {k : Nat} {l : List Arc} (h : ls[k]? = some l) (g : Nat) : gszK ls (k + 1) g = gszK ls k g + if k / 16 = g then (rowF k l).length else 0 := by
  obtain ⟨hk, he⟩ := List.getElem?_eq_some_iff.1 (rows_get h)
  unfold gszK
  rw [List.take_succ_eq_append_getElem hk, he]
  have hl : ((rowsOf ls).take k).length = k := by rw [List.length_take]; omega
  by_cases h1 : 16 * g ≤ k
  · rw [List.drop_append_of_le_length (by omega)]
    by_cases h2 : k < 16 * g + 16
    · rw [if_pos (by omega), List.take_of_length_le (l := _ ++ _) (by rw [List.length_append, List.length_drop, hl]; simp; omega), List.take_of_length_le (l := List.drop _ _) (by rw [List.length_drop, hl]; omega), List.flatten_append, List.length_append]
      simp
    · rw [if_neg (by omega), List.take_append_of_le_length (by rw [List.length_drop, hl]; omega)]
      rfl
  · rw [if_neg (by omega), List.drop_eq_nil_of_le (by rw [List.length_append, hl]; simp; omega), List.drop_eq_nil_of_le (by rw [hl]; omega)]
    rfl
theorem gszK_le (ls : List (List Arc)) (g : Nat) : ∀ k, k ≤ ls.length → gszK ls k g ≤ (((rowsOf ls).take k).flatten).length
  | 0, _ => by simp [gszK]
  | k + 1, hk => by
    have hg : ls[k]? = some (ls[k]'(by omega)) := List.getElem?_eq_getElem (by omega)
    have h1 := gszK_le ls g k (by omega)
    rw [gszK_next hg, rows_next hg, List.length_append]
    split <;> omega
theorem gszK_zero (ls : List (List Arc)) (g : Nat) : gszK ls 0 g = 0 := by simp [gszK]
/-- the counters, of the first k rows -/
def cellsK (ls : List (List Arc)) (k G : Nat) : List Value := (List.range G).map fun g => Value.int .i64 (gszK ls k g : Nat)
theorem cellsK_get (ls : List (List Arc)) (k G i : Nat) (h : i < G) : (cellsK ls k G).toArray[i]? = some (.int .i64 (gszK ls k i : Nat)) := by
  simp [cellsK, h]
theorem cellsK_next {ls : List (List Arc)} {k G : Nat} {l : List Arc} (h : ls[k]? = some l) (u : Value) (hu : u = .int .i64 ((gszK ls k (k / 16) + (rowF k l).length : Nat) : Int)) : (cellsK ls k G).toArray.setIfInBounds (k / 16) u = (cellsK ls (k + 1) G).toArray := by
  subst hu
  apply Array.ext_getElem?
  intro i
  rw [Array.getElem?_setIfInBounds]
  have hs : (cellsK ls k G).toArray.size = G := by simp [cellsK]
  have hs2 : (cellsK ls (k + 1) G).toArray.size = G := by simp [cellsK]
  by_cases hi : i < G
  · rw [cellsK_get ls k G i hi, cellsK_get ls (k + 1) G i hi, gszK_next h i]
    by_cases h2 : k / 16 = i
    · subst h2
      rw [if_pos rfl, if_pos (by rw [hs]; exact hi), if_pos rfl]
    · rw [if_neg h2, if_neg h2]
      simp
  · rw [Array.getElem?_eq_none (by rw [hs]; omega), Array.getElem?_eq_none (by rw [hs2]; omega)]
    split
    · rw [if_neg (by rw [hs]; omega)]
    · rfl
def packB (ls : List (List Arc)) : List Nat := sealB (bodyB ls)
theorem sizesB_next (ls : List (List Arc)) (m : Nat) : sizesB ls (m + 1) = sizesB ls m ++ uv (gsz ls m) := by
  rw [sizesB, sizesB, List.range_succ, List.map_append, List.flatten_append]
  simp
theorem sizesB_byte (ls : List (List Arc)) : ∀ m, ∀ b ∈ sizesB ls m, b < 256
  | 0, b, h => by simp [sizesB] at h
  | m + 1, b, h => by
    rw [sizesB_next] at h
    rcases List.mem_append.1 h with h | h
    · exact sizesB_byte ls m b h
    · exact uv_byte _ b h
theorem body_byte (ls : List (List Arc)) : ∀ b ∈ bodyB ls, b < 256 := by
  intro b h
  unfold bodyB headB at h
  rcases List.mem_append.1 h with h | h
  · rcases List.mem_append.1 h with h | h
    · rcases List.mem_append.1 h with h | h
      · rcases List.mem_append.1 h with h | h
        · simp at h; omega
        · exact uv_byte _ b h
      · exact uv_byte _ b h
    · exact sizesB_byte ls _ b h
  · obtain ⟨r, hr, hb⟩ := List.mem_flatten.1 h
    exact rows_byte ls r hr b hb
/-- the rows' bytes are few -/
theorem rows_few {ls : List (List Arc)} (h : Pk ls) : ∀ k, k ≤ ls.length → (((rowsOf ls).take k).flatten).length ≤ 9 * k + 18 * total (ls.take k)
  | 0, _ => by simp
  | k + 1, hk => by
    have h1 := rows_few h k (by omega)
    have hg : ls[k]? = some (ls[k]'(by omega)) := List.getElem?_eq_getElem (by omega)
    have hm : ls[k]'(by omega) ∈ ls := List.getElem_mem _
    have h2 := rowF_len k (by have := h.n2; omega) _ (h.ok _ hm) (by have := h.row hm; omega)
    rw [rows_next hg, List.length_append, total_take ls k _ hg]
    omega

end Go.Proofs.Ytonpdclccgpceaa
namespace Go.Proofs.Ytonpdclccgpceaa
open Go Go.RowKit
set_option maxHeartbeats 4000000

theorem infoInt : (Try.prog.info? 3).map (fun i => (i.zero, i.size, i.bytes)) = some (some (.int .i64 0), 1, 8) := by kernel_rfl
theorem wpList_makeX {P : Program} (w : World) {ops : Array Oper} {rest : List Oper} {o : Oper} {a : Act} {Q : Exit → Act → World → Prop} (hg : o.guard = none) (l c : Operand) (t : TypeId) (hop : o.op = Op.makeSlice t l c)
    (e : TypeId) (i : TypeInfo) (z : Value) (h1 : P.underlying t = some (.slice e)) (h2 : P.info? e = some i) (h3 : i.zero = some z) (h4 : i.size = 1)
    (kl kc : IntKind) (n : Nat) (hl : a.eval l = .int kl n) (hc : a.eval c = .int kc n) (b2 : i.bytes * n ≤ 281474976710656) (b3 : n ≤ 1000000000)
    (hK : wpList P ops Q rest (a.put o.dst (.slice (some ⟨w.heap.size, 0, none⟩) n n)) (w.alloc (.cells (madeCells z.cells n) e))) : wpList P ops Q (o :: rest) a w := by
  refine wpList_plain hg fun K hK' => ?_
  have hb : (i.bytes : Int) * (n : Int) ≤ 281474976710656 := by
    have : ((i.bytes * n : Nat) : Int) ≤ 281474976710656 := by omega
    rwa [Int.natCast_mul] at this
  have hrun := run_make (P := P) w t e i z h1 h2 h3 kl kc n n (by omega) (by omega) hb (by omega)
  rw [h4] at hrun
  simp only [Int.toNat_natCast, Nat.mul_one] at hrun
  unfold Oper.wp
  simp [execOp, hop, hl, hc, hrun, Result.andThen]
  exact hK' _ _ hK
theorem made_cells (ls : List (List Arc)) (G : Nat) : madeCells (Value.int .i64 0).cells G = (cellsK ls 0 G).toArray := by
  apply Array.ext_getElem?
  intro i
  have hs : (cellsK ls 0 G).toArray.size = G := by simp [cellsK]
  by_cases hi : i < G
  · rw [cellsK_get ls 0 G i hi, gszK_zero]
    simp [madeCells, Value.cells, hi]
    rw [Nat.mod_one]
    rfl
  · rw [Array.getElem?_eq_none (by rw [size_madeCells]; omega), Array.getElem?_eq_none (by rw [hs]; omega)]
theorem groups_any (n : Nat) (w : World) (hn : n ≤ 1000000) : Calls Try.prog 64 #[.int .i64 n] w fun e w' => e = .returned (.int .i64 ((n + 15) / 16 : Nat)) ∧ w = w' := by
  go_enter Try.func64, Try.ntmps64
  go_wp2
  go_ret
  exact ⟨ret_int (by first | omega | (simp; omega)), rfl⟩
theorem Own.two (w : World) (a b : Nat) : Own (w.alloc (.cells #[.int .u8 a, .int .u8 b] 5)) (.slice (some ⟨w.heap.size, 0, none⟩) 2 2) [a, b] :=
  ⟨rfl, .inr ⟨w.heap.size, 2, #[.int .u8 a, .int .u8 b], rfl, Nat.zero_le _, heap_alloc_new w _, Nat.le_refl _, by simp [maxLen], rfl, rfl⟩⟩

set_option maxRecDepth 100000 in
theorem pack_any (A : Option Addr) (n c B : Nat) (ls : List (List Arc)) (w : World) (h : RdL w B A n ls) (hB : B ≤ w.heap.size) (hp : Pk ls) :
    Calls Try.prog 45 #[lts A n c] w (NewPost w (packB ls)) := by
  have HL := Lib.hid h.len
  have H := Lib.hid h
  have HP := Lib.hid hp
  have hn1 : 1 ≤ n := by have := hp.n1; have := HL.out; omega
  have hn2 : n ≤ 16384 := by have := hp.n2; have := HL.out; omega
  have HB0 := Lib.hid ((Below.refl w.heap.size w).alloc (Nat.le_refl _) (.cells #[.slice A n c] 25))
  have HN0 := Lib.hid (Blk.new w 25 #[.slice A n c])
  clear h hp
  obtain ⟨i0, hi, hz0, hz1, hz2⟩ := info_parts infoInt
  have kc := fun (w : World) (C : Array Value) (n c : Nat) => Lib.run_convert_bytes_const (P := Try.prog) w 33 5 C n c Try.underlying33 Try.underlying5
  go_enter Try.func45, Try.ntmps45
  go_wp2_with fail
  refine (groups_any n _ (by omega)).mono ?_
  rintro e w1 ⟨rfl, rfl⟩
  obtain ⟨G, hG⟩ : ∃ G, (n + 15) / 16 = G := ⟨_, rfl⟩
  rw [hG]
  have hGn : G ≤ 1100 := by omega
  have HG := Lib.hid hG
  clear hG
  go_wp2_with (at_make; refine wpList_makeX _ rfl _ _ 22 rfl 3 i0 (.int .i64 0) Try.underlying22 hi hz0 hz1 _ _ G rfl rfl (by rw [hz2]; omega) (by omega) ?_)
  have HBs := Lib.hid (show Blk ((w.alloc (.cells #[.slice A n c] 25)).alloc (.cells (madeCells #[Value.int .i64 0] G) 3)) (w.heap.size + 1) 3 (cellsK ls 0 G).toArray by
    rw [← made_cells ls G]
    exact heap_alloc_at (by simp))
  have HB1 := Lib.hid (HB0.out.alloc (by simp) (.cells (madeCells #[Value.int .i64 0] G) 3))
  have HN1 := Lib.hid (HN0.out.alloc (.cells (madeCells #[Value.int .i64 0] G) 3))
  go_loopw [3, 5, 20] (fun vt vb vk wr => ∃ (k tot : Nat) (rl : List Nat), k ≤ n ∧ vk = .int .i64 k ∧ vt = .int .i64 tot ∧ tot ≤ 262144 ∧ rl.length ≤ 9 * k + 18 * tot ∧ Hid (tot = total (ls.take k) ∧ rl = ((rowsOf ls).take k).flatten) ∧
    Hid (Own wr vb rl ∧ (∀ g, vb.ownBlock = some g → w.heap.size ≤ g) ∧ Blk wr (w.heap.size + 1) 3 (cellsK ls k G).toArray ∧ Blk wr w.heap.size 25 #[.slice A n c] ∧ Below w.heap.size w wr)) (fun _ _ vk _ => n - (intOf vk).toNat)
  case atStart => exact ⟨0, 0, [], Nat.zero_le _, rfl, rfl, by omega, by simp, Lib.hid ⟨by simp [total], by simp⟩, Lib.hid ⟨Own.nil _, fun g hg => by simp [Value.ownBlock] at hg, HBs.out, HN1.out, HB1.out⟩⟩
  case round =>
    obtain ⟨k, tot, rl, hk, rfl, rfl, htot, hrl, HE, HW⟩ := hrel
    obtain ⟨Ao, capo, rfl, hcap, _⟩ := HW.out.1.form
    by_cases hlt : k < n
    · obtain ⟨b1, o1, l, A', n', c', rfl, hb1, hl, hln, e0, hrow⟩ := (H.out.keep (w' := wr) (fun p hp => HW.out.2.2.2.2.cell (by omega))).row hlt
      have HROW := Lib.hid hrow
      have HLL := Lib.hid hl
      have hmem := List.mem_of_getElem? hl
      have hll := HP.out.row hmem
      have htt := total_take ls k l hl
      have htl := total_le ls (k + 1)
      have hpt := HP.out.tot
      have htn : tot + n' ≤ 262144 := by have := HE.out.1; omega
      have hrn := rowF_len k (by omega) l (HP.out.ok l hmem) (by omega)
      have HOKL := Lib.hid (HP.out.ok l hmem)
      have HASL := Lib.hid (HP.out.asc l hmem)
      obtain ⟨rn, hrne⟩ : ∃ rn, (rowF k l).length = rn := ⟨_, rfl⟩
      rw [hrne] at hrn
      obtain ⟨gz, hgz⟩ : ∃ gz, gszK ls k (k / 16) = gz := ⟨_, rfl⟩
      have hgb : gz ≤ 9 * k + 18 * tot := by
        have h1 := gszK_le ls (k / 16) k (by rw [HL.out]; exact hk)
        rw [← HE.out.2] at h1
        omega
      have HGZ := Lib.hid hgz
      have HRN := Lib.hid hrne
      have hb1l : b1 < wr.heap.size := by have := HW.out.2.2.2.2.size; omega
      have hws := HW.out.2.2.2.2.size
      clear hrow hl htt htl hpt hgz hrne
      go_wp2_with fail
      refine (row_any _ rl k A' n' c' B l _ HW.out.1 HROW.out (by omega) (fun g hg => by have := HW.out.2.1 g hg; omega) HOKL.out HASL.out (by omega) (by omega) (by omega)).mono ?_
      rintro e w3 ⟨v3, rfl, ho3, hO3, hF3⟩
      obtain ⟨hb3, hf3⟩ := fresh_post (W := w.heap.size) HW.out.2.1 hws hO3 hF3
      have HB3 := Lib.hid (HW.out.2.2.2.2.trans hb3)
      have HF3 := Lib.hid hf3
      have hBs3 := HW.out.2.2.1.out hO3 (fun h => own_apart HW.out.1 HW.out.2.2.1 (by decide) h)
      have HN3 := Lib.hid (HW.out.2.2.2.1.out hO3 (fun h => own_apart HW.out.1 HW.out.2.2.2.1 (by decide) h))
      have HBs3 := Lib.hid hBs3
      obtain ⟨l3, hl3⟩ : ∃ l3, rl ++ rowF k l = l3 := ⟨_, rfl⟩
      have hl3n : l3.length = rl.length + rn := by rw [← hl3, List.length_append, HRN.out]
      rw [hl3] at ho3
      have HE3 := Lib.hid (show l3 = ((rowsOf ls).take (k + 1)).flatten by rw [← hl3, HE.out.2, rows_next HLL.out])
      have HO3 := Lib.hid ho3
      have hgc : w3.cell? ⟨w.heap.size + 1, k / 16, none⟩ = some (.int .i64 gz) := by
        rw [hBs3.cell, cellsK_get ls k G (k / 16) (by have := HG.out; omega), HGZ.out]
      have hgl := hBs3.lt
      have hgf := hBs3.frozen (k / 16)
      have hkG : k / 16 < G := by have := HG.out; omega
      obtain ⟨A3, c3, rfl, _, _⟩ := ho3.form
      clear ho3 hO3 hF3 hl3 hb3 hf3 hBs3 e0
      rw [hl3n] at HO3 HF3 ⊢
      have HL3 := Lib.hid hl3n
      clear hl3n
      have hX1 : Blk (w3.setCell ⟨w.heap.size + 1, k / 16, none⟩ (.int .i64 ((gz : Int) + (rl.length + rn - rl.length)))) (w.heap.size + 1) 3 (cellsK ls (k + 1) G).toArray := by
        rw [← cellsK_next HLL.out (.int .i64 ((gz : Int) + (rl.length + rn - rl.length))) (by rw [HGZ.out, HRN.out]; congr 1; omega)]
        exact HBs3.out.put _ _
      have hX2 : Own (w3.setCell ⟨w.heap.size + 1, k / 16, none⟩ (.int .i64 ((gz : Int) + (rl.length + rn - rl.length)))) (.slice A3 (rl.length + rn) c3) l3 := own_setCell HO3.out (own_apart HO3.out HBs3.out (by decide)) _
      have hX3 := HN3.out.far (p := ⟨w.heap.size + 1, k / 16, none⟩) (by simp) (.int .i64 ((gz : Int) + (rl.length + rn - rl.length)))
      have hX4 := HB3.out.setCell (p := ⟨w.heap.size + 1, k / 16, none⟩) (by simp) (.int .i64 ((gz : Int) + (rl.length + rn - rl.length)))
      have HX := Lib.hid (And.intro hX2 (And.intro HF3.out (And.intro hX1 (And.intro hX3 hX4))))
      have HT := Lib.hid (show tot + n' = total (ls.take (k + 1)) by rw [total_take ls k l HLL.out, ← HE.out.1]; omega)
      clear hX1 hX2 hX3 hX4
      go_wp2_with fail
      go_roundw
      case rel => exact ⟨k + 1, tot + n', l3, by omega, by go_num, by go_num, by omega, by have := HL3.out; omega, Lib.hid ⟨HT.out, HE3.out⟩, HX⟩
      case measure => simp [intOf]; omega
    · have hkn : k = n := by omega
      subst hkn
      have hk2 : ls.take k = ls := List.take_of_length_le (by rw [HL.out]; exact Nat.le_refl _)
      have hk3 : (rowsOf ls).take k = rowsOf ls := List.take_of_length_le (by rw [rows_len, HL.out]; exact Nat.le_refl _)
      have hE := HE.out
      rw [hk2, hk3] at hE
      have HE1 := Lib.hid hE
      have hBs := HW.out.2.2.1
      have hNl := HW.out.2.2.2.1.lt
      have hNc := HW.out.2.2.2.1.cell
      have HRw := Lib.hid HW.out.1.rd
      have HOw := Lib.hid (show OwnX (wr.alloc (.cells #[.int .u8 67, .int .u8 82] 5 (2, 3))) (.slice (some ⟨wr.heap.size, 0, none⟩) 2 2) [67, 82] from .inr ⟨wr.heap.size, (2, 3), rfl, heap_alloc_new wr _⟩)
      have HBs := Lib.hid hBs
      have HBw := Lib.hid HW.out.2.2.2.2
      have HNw := Lib.hid HW.out.2.2.2.1
      have hgs : w.heap.size + 1 < wr.heap.size := hBs.lt
      have hlr : rl.length ≠ 0 := by
        intro h0
        have h1 : rl = [] := List.length_eq_zero_iff.1 h0
        rw [hE.2] at h1
        have h2 : ls[0]? = some (ls[0]'(by rw [HL.out]; omega)) := List.getElem?_eq_getElem _
        have h3 := List.getElem?_eq_some_iff.1 (rows_get h2)
        have h4 := List.flatten_eq_nil_iff.1 h1 _ (List.mem_of_getElem? (rows_get h2))
        exact rowF_ne _ _ h4
      clear hk2 hk3 hE hBs
      go_wp2_with fail
      refine (uvarintX_any _ [67, 82] k _ HOw.out (by omega) (by simp)).mono ?_
      rintro e w3 ⟨v3, rfl, ho3, hO3, hF3⟩
      obtain ⟨hb3, hf3⟩ := fresh_post (W := wr.heap.size) (fun g hg => by simp [Value.ownBlock] at hg; omega) (by simp) hO3 hF3
      have hb3' : Below wr.heap.size wr w3 := ((Below.refl _ _).alloc (Nat.le_refl _) _).trans hb3
      have HB3 := Lib.hid hb3'
      have HF3 := Lib.hid hf3
      obtain ⟨l3, hl3⟩ : ∃ l3, [67, 82] ++ uv k = l3 := ⟨_, rfl⟩
      have hl3n : l3.length ≤ 11 := by
        have := uv_le k (by omega)
        rw [← hl3, List.length_append]
        show 2 + _ ≤ _
        omega
      rw [hl3] at ho3
      have HL3 := Lib.hid hl3
      have HO3 := Lib.hid ho3
      obtain ⟨A3, c3, rfl, _, _⟩ := ho3.form
      clear ho3 hO3 hF3 hl3 hb3 hf3 hb3' hNl hNc
      go_wp2_with fail
      refine (uvarint_any _ l3 tot _ HO3.out (by omega) (by omega)).mono ?_
      rintro e w4 ⟨v4, rfl, ho4, hO4, hF4⟩
      obtain ⟨hb4, hf4⟩ := fresh_post (W := wr.heap.size) HF3.out HB3.out.size hO4 hF4
      have HB4 := Lib.hid (HB3.out.trans hb4)
      have HF4 := Lib.hid hf4
      obtain ⟨l4, hl4⟩ : ∃ l4, l3 ++ uv tot = l4 := ⟨_, rfl⟩
      have hl4n : l4.length ≤ 20 := by
        have := uv_le tot (by omega)
        rw [← hl4, List.length_append]
        omega
      rw [hl4] at ho4
      have HE4 := Lib.hid (show l4 = headB ls by rw [← hl4, ← HL3.out, HE1.out.1, headB, HL.out])
      have HO4 := Lib.hid ho4
      obtain ⟨A4, c4, rfl, _, _⟩ := ho4.form
      clear ho4 hO4 hF4 hl4 hb4 hf4
      go_wp2_with fail
      go_loopw [9, 58] (fun vb vi wr' => ∃ (i : Nat) (l' : List Nat), i ≤ G ∧ vi = .int .i64 i ∧ l'.length ≤ 20 + 9 * i ∧ Hid (l' = headB ls ++ sizesB ls i) ∧ Hid (Own wr' vb l' ∧ (∀ g, vb.ownBlock = some g → wr.heap.size ≤ g) ∧ Below wr.heap.size wr wr')) (fun _ vi _ => G - (intOf vi).toNat)
      case atStart => exact ⟨0, l4, Nat.zero_le _, rfl, by omega, Lib.hid (by rw [HE4.out]; simp [sizesB]), Lib.hid ⟨HO4.out, HF4.out, HB4.out⟩⟩
      case round =>
        obtain ⟨i, l', hi', rfl, hl', HE5, HV⟩ := hrel
        obtain ⟨Ao5, capo5, rfl, hcap5, _⟩ := HV.out.1.form
        have hBs5 := HBs.out.below HV.out.2.2 hgs
        have hB5c := hBs5.cell
        have hB5l := hBs5.lt
        by_cases hlt2 : i < G
        · have hgc : wr.cell? ⟨w.heap.size + 1, i, none⟩ = some (.int .i64 (gszK ls k i : Nat)) := by
            rw [hB5c, cellsK_get ls k G i hlt2]
          obtain ⟨gz, hgz⟩ : ∃ gz, gszK ls k i = gz := ⟨_, rfl⟩
          rw [hgz] at hgc
          have HGZ := Lib.hid (show gsz ls i = gz by rw [← gszK_all ls k i (by rw [HL.out]; exact Nat.le_refl _), hgz])
          have hgb : gz ≤ 9 * k + 18 * tot := by
            have h1 := gszK_le ls i k (by rw [HL.out]; exact Nat.le_refl _)
            rw [hgz, List.take_of_length_le (by rw [rows_len, HL.out]; exact Nat.le_refl _), ← HE1.out.2] at h1
            omega
          clear hBs5 hB5c hgz
          go_wp2_with fail
          refine (uvarint_any _ l' gz _ HV.out.1 (by omega) (by omega)).mono ?_
          rintro e w5 ⟨v5, rfl, ho5, hO5, hF5⟩
          obtain ⟨hb5, hf5⟩ := fresh_post HV.out.2.1 HV.out.2.2.size hO5 hF5
          have hul := uv_le gz (by omega)
          obtain ⟨l5, hl5⟩ : ∃ l5, l' ++ uv gz = l5 := ⟨_, rfl⟩
          have hln5 : l5.length ≤ 20 + 9 * (i + 1) := by rw [← hl5, List.length_append]; omega
          rw [hl5] at ho5
          have HL5 := Lib.hid hl5
          have HN5 := Lib.hid (And.intro ho5 (And.intro hf5 (HV.out.2.2.trans hb5)))
          obtain ⟨A5, c5, rfl, _, _⟩ := ho5.form
          clear ho5 hO5 hF5 hb5 hf5 hgc hB5l hl5
          go_wp2_with fail
          go_roundw
          case rel => exact ⟨i + 1, l5, by omega, by go_num, hln5, Lib.hid (by rw [← HL5.out, HE5.out, sizesB_next, HGZ.out]; simp), HN5⟩
          case measure => simp [intOf]; omega
        · have hiG : i = G := by omega
          subst hiG
          have hR5 := (HRw.out.below HV.out.2.2)
          have HR5 := Lib.hid hR5
          obtain ⟨br, or_, hA, hbr, _⟩ := hR5.2 (by omega)
          subst hA
          have HBX := Lib.hid (HBw.out.trans (HV.out.2.2.mono HBw.out.size))
          have hws5 := HV.out.2.2.size
          have HWS := Lib.hid HBw.out.size
          clear hBs5 hB5c hB5l hR5
          go_wp2_with (first | (at_builtin; go_must (refine appList_rd rfl slByte rfl HV.out.1 rfl (HR5.out.more hws5) (c := capo) rfl (ucell_ones rl) (by unfold maxLen; omega) (by omega) ?_); intro v7 w7 hown7 hgrow7 hat7))
          obtain ⟨h1, h2, h3⟩ := app_post2 (w := wr) (Outside.refl _ _) (From.refl _ _) hown7 hgrow7 hat7
          obtain ⟨hb7, hf7⟩ := fresh_post HV.out.2.1 hws5 h2 h3
          have hE7 : l' ++ rl = bodyB ls := by rw [HE5.out, HE1.out.2, bodyB, HL.out, HG.out]
          have hln7 : (l' ++ rl).length ≤ 10000000 := by rw [List.length_append]; omega
          rw [hE7] at h1 hln7
          have HO7 := Lib.hid h1
          have HF7 := Lib.hid hf7
          have HB7 := Lib.hid (HBX.out.trans (hb7.mono HWS.out))
          have HS7 := Lib.hid (Nat.le_trans hws5 hb7.size)
          clear h1 h2 h3 hb7 hf7 hE7 hown7 hgrow7 hat7
          refine (appendSum_any v7 (bodyB ls) _ HO7.out (body_byte ls) (by omega)).mono ?_
          rintro e w8 ⟨v8, rfl, ho8, hO8, hF8⟩
          obtain ⟨hb8, hf8⟩ := fresh_post HF7.out HS7.out hO8 hF8
          have HZ := Lib.hid (And.intro ho8 (And.intro (HB7.out.trans (hb8.mono HWS.out)) fun g hg => Nat.le_trans HWS.out (hf8 g hg)))
          clear ho8 hO8 hF8 hb8 hf8
          go_wp2_with fail
          go_ret
          exact ⟨v8, rfl, HZ.out⟩

end Go.Proofs.Ytonpdclccgpceaa
