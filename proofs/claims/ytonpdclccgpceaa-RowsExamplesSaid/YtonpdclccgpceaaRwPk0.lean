/- packed systems: plain laws -/
import Derived.Test.YtonpdclccgpceaaRwRr
namespace Go.Proofs.Ytonpdclccgpceaa
open Go Go.RowKit
set_option maxHeartbeats 4000000

/-- a system that can be packed -/
structure Pk (ls : List (List Arc)) : Prop where
  n1 : 1 ≤ ls.length
  n2 : ls.length ≤ 16384
  tot : total ls ≤ 262144
  ok : ∀ l ∈ ls, ∀ a ∈ l, okR a
  asc : ∀ l ∈ ls, ascB l = true
theorem Pk.of {ls : List (List Arc)} (h : validB ls = true) : Pk ls := by
  unfold validB looseB at h
  simp only [Bool.and_eq_true, decide_eq_true_eq] at h
  obtain ⟨⟨⟨⟨h1, h2⟩, h3⟩, h4⟩, h5⟩ := h
  refine ⟨h1, h2, h3, fun l hl a ha => ?_, fun l hl => List.all_eq_true.1 h5 l hl⟩
  have h6 := List.all_eq_true.1 (List.all_eq_true.1 h4 l hl) a ha
  unfold okA at h6
  simp only [Bool.and_eq_true, decide_eq_true_eq] at h6
  exact ⟨h6.1.1, h6.1.2, h6.2.1, by have := h6.2.2; omega⟩
theorem Pk.row {ls : List (List Arc)} (h : Pk ls) {l : List Arc} (hl : l ∈ ls) : l.length ≤ 262144 := by
  obtain ⟨k, hk, rfl⟩ := List.getElem_of_mem hl
  have h1 := total_take ls k _ (List.getElem?_eq_getElem hk)
  have h2 := total_le ls (k + 1)
  have := h.tot
  omega
theorem rowB_len (s : Int) (hs : 0 ≤ s ∧ s ≤ 16384) : ∀ (l : List Arc) (p : Option Arc), (∀ a ∈ l, okR a) → (∀ a, p = some a → okR a) → (rowB s p l).length ≤ 18 * l.length
  | [], p, _, _ => by cases p <;> simp [rowB]
  | a :: r, p, h, hp => by
    have h1 := rowB_len s hs r (some a) (fun x hx => h x (List.mem_cons_of_mem _ hx)) (fun x hx => by cases hx; exact h a List.mem_cons_self)
    obtain ⟨q1, q2, q3, q4⟩ := h a List.mem_cons_self
    have h2 : (oneB s p a).length ≤ 18 := by
      have hz := zz_le (a.to - s) (by omega)
      cases p with
      | none =>
        have hu := uv_le a.ev.toNat (by omega)
        rw [oneB, List.length_append]
        omega
      | some b =>
        obtain ⟨r1, r2, r3, r4⟩ := hp b rfl
        unfold oneB
        dsimp only
        split
        · have hu := uv_le 0 (by omega)
          have hv := uv_le (a.to - b.to - 1).toNat (by omega)
          rw [List.length_append]
          omega
        · have hu := uv_le (a.ev - b.ev).toNat (by omega)
          rw [List.length_append]
          omega
    rw [rowB_cons, List.length_append, List.length_cons]
    omega
theorem rowF_len (s : Int) (hs : 0 ≤ s ∧ s ≤ 16384) (l : List Arc) (h : ∀ a ∈ l, okR a) (hl : l.length ≤ 1000000) : (rowF s l).length ≤ 9 + 18 * l.length := by
  have h1 := rowB_len s hs l none h (fun a ha => by cases ha)
  have h2 := uv_le l.length (by omega)
  rw [rowF, List.length_append]
  omega
theorem zz_byte (k : Int) : ∀ b ∈ zz k, b < 256 := by
  unfold zz
  split <;> exact uv_byte _
theorem rowB_byte (s : Int) : ∀ (l : List Arc) (p : Option Arc), ∀ b ∈ rowB s p l, b < 256
  | [], p, b, h => by cases p <;> simp [rowB] at h
  | a :: r, p, b, h => by
    rw [rowB_cons] at h
    rcases List.mem_append.1 h with h | h
    · cases p with
      | none =>
        rcases List.mem_append.1 h with h | h
        · exact uv_byte _ b h
        · exact zz_byte _ b h
      | some q =>
        unfold oneB at h
        dsimp only at h
        split at h
        · rcases List.mem_append.1 h with h | h
          · exact uv_byte _ b h
          · exact uv_byte _ b h
        · rcases List.mem_append.1 h with h | h
          · exact uv_byte _ b h
          · exact zz_byte _ b h
    · exact rowB_byte s r (some a) b h
theorem rowF_byte (s : Int) (l : List Arc) : ∀ b ∈ rowF s l, b < 256 := fun b h => by
  rcases List.mem_append.1 h with h | h
  · exact uv_byte _ b h
  · exact rowB_byte s l none b h
theorem rowF_ne (s : Int) (l : List Arc) : rowF s l ≠ [] := by
  intro h
  have h1 := congrArg List.length h
  rw [rowF, List.length_append, List.length_nil] at h1
  have h2 : uv l.length ≠ [] := by
    by_cases h3 : l.length < 128
    · rw [uv_small h3]; simp
    · rw [uv_big h3]; simp
  exact h2 (List.length_eq_zero_iff.1 (by omega))
theorem rows_get {ls : List (List Arc)} {k : Nat} {l : List Arc} (h : ls[k]? = some l) : (rowsOf ls)[k]? = some (rowF k l) := by
  rw [rowsOf, List.getElem?_mapIdx, h]
  rfl
theorem rows_len (ls : List (List Arc)) : (rowsOf ls).length = ls.length := by rw [rowsOf, List.length_mapIdx]
theorem rows_next {ls : List (List Arc)} {k : Nat} {l : List Arc} (h : ls[k]? = some l) : ((rowsOf ls).take (k + 1)).flatten = ((rowsOf ls).take k).flatten ++ rowF k l := by
  obtain ⟨hk, he⟩ := List.getElem?_eq_some_iff.1 (rows_get h)
  rw [List.take_succ_eq_append_getElem hk, he, List.flatten_append]
  simp
theorem rows_byte (ls : List (List Arc)) : ∀ r ∈ rowsOf ls, ∀ b ∈ r, b < 256 := by
  intro r hr b hb
  obtain ⟨k, hk, rfl⟩ := List.getElem_of_mem hr
  rw [rows_len] at hk
  have h1 := rows_get (List.getElem?_eq_getElem hk)
  have h2 := (List.getElem?_eq_some_iff.1 h1).2
  rw [h2] at hb
  exact rowF_byte _ _ b hb
/-- the bytes of a group's rows, of the first k rows -/
def gszK (ls : List (List Arc)) (k g : Nat) : Nat := ((((rowsOf ls).take k).drop (16 * g)).take 16).flatten.length
theorem gszK_all (ls : List (List Arc)) (k g : Nat) (h : ls.length ≤ k) : gszK ls k g = gsz ls g := by
  rw [gszK, gsz, List.take_of_length_le (l := rowsOf ls) (by rw [rows_len]; exact h)]
theorem gszK_next {ls : List (List Arc)} {k : Nat} {l : List Arc} (h : ls[k]? = some l) (g : Nat) : gszK ls (k + 1) g = gszK ls k g + if k / 16 = g then (rowF k l).length else 0 := by
  obtain ⟨hk, he⟩ := List.getElem?_eq_some_iff.1 (rows_get h)
  unfold gszK
  rw [List.take_succ_eq_append_getElem hk, he]
  have hl : ((rowsOf ls).take k).length = k := by rw [List.length_take]; omega
  by_cases h1 : 16 * g ≤ k
  · rw [List.drop_append_of_le_length (by omega)]
    by_cases h2 : k < 16 * g + 16
    · rw [if_pos (by omega), List.take_of_length_le (l := _ ++ _) (by rw [List.length_append, List.length_drop, hl]; simp; omega), List.take_of_length_le (l := List.drop _ _) (by rw [List.length_drop, hl]; omega), List.flatten_append, List.length_append]
      simp
    · rw [if_neg (by omega), List.take_append_of_le_length (by rw [List.length_drop, hl]; omega)]
      rfl
  · rw [if_neg (by omega), List.drop_eq_nil_of_le (by rw [List.length_append, hl]; simp; omega), List.drop_eq_nil_of_le (by rw [hl]; omega)]
    rfl
theorem gszK_le (ls : List (List Arc)) (g : Nat) : ∀ k, k ≤ ls.length → gszK ls k g ≤ (((rowsOf ls).take k).flatten).length
  | 0, _ => by simp [gszK]
  | k + 1, hk => by
    have hg : ls[k]? = some (ls[k]'(by omega)) := List.getElem?_eq_getElem (by omega)
    have h1 := gszK_le ls g k (by omega)
    rw [gszK_next hg, rows_next hg, List.length_append]
    split <;> omega
theorem gszK_zero (ls : List (List Arc)) (g : Nat) : gszK ls 0 g = 0 := by simp [gszK]
/-- the counters, of the first k rows -/
def cellsK (ls : List (List Arc)) (k G : Nat) : List Value := (List.range G).map fun g => Value.int .i64 (gszK ls k g : Nat)
theorem cellsK_get (ls : List (List Arc)) (k G i : Nat) (h : i < G) : (cellsK ls k G).toArray[i]? = some (.int .i64 (gszK ls k i : Nat)) := by
  simp [cellsK, h]
theorem cellsK_next {ls : List (List Arc)} {k G : Nat} {l : List Arc} (h : ls[k]? = some l) (u : Value) (hu : u = .int .i64 ((gszK ls k (k / 16) + (rowF k l).length : Nat) : Int)) : (cellsK ls k G).toArray.setIfInBounds (k / 16) u = (cellsK ls (k + 1) G).toArray := by
  subst hu
  apply Array.ext_getElem?
  intro i
  rw [Array.getElem?_setIfInBounds]
  have hs : (cellsK ls k G).toArray.size = G := by simp [cellsK]
  have hs2 : (cellsK ls (k + 1) G).toArray.size = G := by simp [cellsK]
  by_cases hi : i < G
  · rw [cellsK_get ls k G i hi, cellsK_get ls (k + 1) G i hi, gszK_next h i]
    by_cases h2 : k / 16 = i
    · subst h2
      rw [if_pos rfl, if_pos (by rw [hs]; exact hi), if_pos rfl]
    · rw [if_neg h2, if_neg h2]
      simp
  · rw [Array.getElem?_eq_none (by rw [hs]; omega), Array.getElem?_eq_none (by rw [hs2]; omega)]
    split
    · rw [if_neg (by rw [hs]; omega)]
    · rfl
def packB (ls : List (List Arc)) : List Nat := sealB (bodyB ls)
theorem sizesB_next (ls : List (List Arc)) (m : Nat) : sizesB ls (m + 1) = sizesB ls m ++ uv (gsz ls m) := by
  rw [sizesB, sizesB, List.range_succ, List.map_append, List.flatten_append]
  simp
theorem sizesB_byte (ls : List (List Arc)) : ∀ m, ∀ b ∈ sizesB ls m, b < 256
  | 0, b, h => by simp [sizesB] at h
  | m + 1, b, h => by
    rw [sizesB_next] at h
    rcases List.mem_append.1 h with h | h
    · exact sizesB_byte ls m b h
    · exact uv_byte _ b h
theorem body_byte (ls : List (List Arc)) : ∀ b ∈ bodyB ls, b < 256 := by
  intro b h
  unfold bodyB headB at h
  rcases List.mem_append.1 h with h | h
  · rcases List.mem_append.1 h with h | h
    · rcases List.mem_append.1 h with h | h
      · rcases List.mem_append.1 h with h | h
        · simp at h; omega
        · exact uv_byte _ b h
      · exact uv_byte _ b h
    · exact sizesB_byte ls _ b h
  · obtain ⟨r, hr, hb⟩ := List.mem_flatten.1 h
    exact rows_byte ls r hr b hb
/-- the rows' bytes are few -/
theorem rows_few {ls : List (List Arc)} (h : Pk ls) : ∀ k, k ≤ ls.length → (((rowsOf ls).take k).flatten).length ≤ 9 * k + 18 * total (ls.take k)
  | 0, _ => by simp
  | k + 1, hk => by
    have h1 := rows_few h k (by omega)
    have hg : ls[k]? = some (ls[k]'(by omega)) := List.getElem?_eq_getElem (by omega)
    have hm : ls[k]'(by omega) ∈ ls := List.getElem_mem _
    have h2 := rowF_len k (by have := h.n2; omega) _ (h.ok _ hm) (by have := h.row hm; omega)
    rw [rows_next hg, List.length_append, total_take ls k _ hg]
    omega

end Go.Proofs.Ytonpdclccgpceaa
