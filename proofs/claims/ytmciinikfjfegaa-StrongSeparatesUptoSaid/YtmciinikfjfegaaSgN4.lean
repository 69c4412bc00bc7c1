/- the system of the classes: it matches the system, and no two of its states match each other: plain laws -/
import Derived.Test.YtmciinikfjfegaaSgN2
import Derived.Test.YtmciinikfjfegaaSgN3
namespace Go.Proofs.Ytmciinikfjfegaa
open Go Go.RowKit
set_option maxHeartbeats 4000000

section
variable {q : List (List Arc)} {i : Nat}
/-- the old number of a state of the canonical form -/
def oldAt (q : List (List Arc)) (i j : Nat) : Nat := (canonK q i).old.getD j 0
theorem old_get (hd : DoneC q i) {j : Nat} (hj : j < i) : (canonK q i).old[j]? = some (oldAt q i j) := by
  have h1 := canon_get (show j ≤ i by omega) (List.getElem?_eq_getElem (hd.1 j hj))
  rw [oldAt, List.getD_eq_getElem?_getD, h1]
  rfl
theorem old_then (hd : DoneC q i) {j : Nat} (hj : j < i) : (canonK q j).old.getD j 0 = oldAt q i j := by
  have h1 := List.getElem?_eq_getElem (hd.1 j hj)
  have h2 := canon_get (show j ≤ i by omega) h1
  rw [oldAt, List.getD_eq_getElem?_getD, List.getD_eq_getElem?_getD, h2, h1]
theorem old_zero (q : List (List Arc)) (i : Nat) : oldAt q i 0 = 0 := by
  have h1 : (canonK q 0).old[0]? = some 0 := rfl
  have h2 := canon_get (ls := q) (Nat.zero_le i) h1
  rw [oldAt, List.getD_eq_getElem?_getD, h2]
  rfl
theorem old_lt (h : TosIn q) (h0 : 0 < q.length) (hd : DoneC q i) {j : Nat} (hj : j < i) : oldAt q i j < q.length := ((canon_inv h h0 i).fwd j _ (old_get hd hj)).1
theorem old_inj (h : TosIn q) (h0 : 0 < q.length) (hd : DoneC q i) {j k : Nat} (hj : j < i) (hk : k < i) (e : oldAt q i j = oldAt q i k) : j = k := by
  have h1 := ((canon_inv h h0 i).fwd j _ (old_get hd hj)).2
  have h2 := ((canon_inv h h0 i).fwd k _ (old_get hd hk)).2
  rw [e, h2] at h1
  have := Option.some.inj h1
  omega
theorem out_row (hd : DoneC q i) {j : Nat} (hj : j < i) : rowAt (canonK q i).out j = sd ((sd (rowAt q (oldAt q i j))).map (ren (canonK q (j + 1)).num)) := by
  rw [rowAt_get (canon_row hj), outRow, old_then hd hj]
/-- the number of a target -/
theorem num_old (h : TosIn q) (h0 : 0 < q.length) (hd : DoneC q i) {j : Nat} (hj : j < i) {a : Arc} (ha : a ∈ sd (rowAt q (oldAt q i j))) :
    ∃ p : Nat, numAt (canonK q (j + 1)).num a.to = p ∧ p < i ∧ (oldAt q i p : Int) = a.to := by
  have hr := h.sd (oldAt q i j)
  have hnum : (canonK q (j + 1)).num = (visit ((canonK q j).num, (canonK q j).old) (sd (rowAt q (oldAt q i j)))).1 := by
    show (visit ((canonK q j).num, (canonK q j).old) (sd (rowAt q ((canonK q j).old.getD j 0)))).1 = _
    rw [old_then hd hj]
  have h1 := visit_new _ (s := ((canonK q j).num, (canonK q j).old)) (canon_inv h h0 j) hr a ha
  rw [← hnum] at h1
  have hat := hr a ha
  obtain ⟨_, h2 | ⟨p, h2, h3, h4⟩⟩ := (canon_inv h h0 (j + 1)).at_ hat.1 hat.2
  · omega
  · have h5 := canon_get (show j + 1 ≤ i by omega) h4
    have h6 := (List.getElem?_eq_some_iff.1 h5).1
    have h7 := hd.2
    refine ⟨p, h2, by omega, ?_⟩
    have h8 := old_get hd (show p < i by omega)
    rw [h5] at h8
    have := Option.some.inj h8
    omega
theorem out_arc (h : TosIn q) (h0 : 0 < q.length) (hd : DoneC q i) {j : Nat} (hj : j < i) {b : Arc} (hb : b ∈ rowAt (canonK q i).out j) :
    ∃ a ∈ rowAt q (oldAt q i j), a.ev = b.ev ∧ b.to.toNat < i ∧ (oldAt q i b.to.toNat : Int) = a.to := by
  rw [out_row hd hj] at hb
  obtain ⟨a, ha, rfl⟩ := List.mem_map.1 ((sd_mem _ _).1 hb)
  obtain ⟨p, h1, h2, h3⟩ := num_old h h0 hd hj ha
  refine ⟨a, (sd_mem _ _).1 ha, rfl, ?_⟩
  have h4 : (ren (canonK q (j + 1)).num a).to = p := h1
  rw [h4, Int.toNat_natCast]
  exact ⟨h2, h3⟩
theorem arc_out (h : TosIn q) (h0 : 0 < q.length) (hd : DoneC q i) {j : Nat} (hj : j < i) {a : Arc} (ha : a ∈ rowAt q (oldAt q i j)) :
    ∃ b ∈ rowAt (canonK q i).out j, b.ev = a.ev ∧ b.to.toNat < i ∧ (oldAt q i b.to.toNat : Int) = a.to := by
  have ha2 := (sd_mem a (rowAt q (oldAt q i j))).2 ha
  obtain ⟨p, h1, h2, h3⟩ := num_old h h0 hd hj ha2
  refine ⟨ren (canonK q (j + 1)).num a, ?_, rfl, ?_⟩
  · rw [out_row hd hj, sd_mem]
    exact List.mem_map_of_mem ha2
  · have h4 : (ren (canonK q (j + 1)).num a).to = p := h1
    rw [h4, Int.toNat_natCast]
    exact ⟨h2, h3⟩
end

section
variable {ls : List (List Arc)} {cl : List Nat} {m : Nat}
theorem rowQ_mem : ∀ (k c : Nat) (a : Arc), a ∈ rowQ ls cl k c ↔ ∃ s, s < k ∧ cl.getD s 0 = c ∧ ∃ x ∈ rowAt ls s, ren (intC cl) x = a
  | 0, c, a => ⟨fun h => (by cases h), fun ⟨s, h, _⟩ => by omega⟩
  | k + 1, c, a => by
    rw [rowQ]
    split
    · rename_i he
      rw [List.mem_append, rowQ_mem k c a, List.mem_map]
      constructor
      · rintro (⟨s, h1, h2, h3⟩ | h)
        · exact ⟨s, by omega, h2, h3⟩
        · exact ⟨k, by omega, he, h⟩
      · rintro ⟨s, h1, h2, h3⟩
        by_cases e : s = k
        · subst e; exact .inr h3
        · exact .inl ⟨s, by omega, h2, h3⟩
    · rename_i he
      rw [rowQ_mem k c a]
      constructor
      · rintro ⟨s, h1, h2, h3⟩
        exact ⟨s, by omega, h2, h3⟩
      · rintro ⟨s, h1, h2, h3⟩
        by_cases e : s = k
        · subst e; exact absurd h2 he
        · exact ⟨s, by omega, h2, h3⟩
theorem quoK_at {k c : Nat} (h : c < m) : rowAt (quoK ls cl m k) c = rowQ ls cl k c := rowAt_get (quoK_row h)
end

/-- each number is some state's -/
theorem numK_onto (K : Nat → Key) : ∀ (n c : Nat), c < (numK K n).2 → ∃ s, s < n ∧ (numK K n).1.getD s 0 = c
  | 0, c, h => absurd h (Nat.not_lt_zero _)
  | n + 1, c, h => by
    have hl := numK_len K n
    cases hc : (List.range n).find? (fun t => decide (K t = K n)) with
    | none =>
      have he : numK K (n + 1) = ((numK K n).1 ++ [(numK K n).2], (numK K n).2 + 1) := numS_none hc
      rw [he] at h ⊢
      by_cases e : c = (numK K n).2
      · exact ⟨n, by omega, by dsimp only; rw [getD_snoc_eq hl.symm, e]⟩
      · obtain ⟨s, h1, h2⟩ := numK_onto K n c (by dsimp only at h; omega)
        exact ⟨s, by omega, by dsimp only; rw [getD_snoc_lt (by omega), h2]⟩
    | some u =>
      have he : numK K (n + 1) = ((numK K n).1 ++ [(numK K n).1.getD u 0], (numK K n).2) := numS_some hc
      rw [he] at h ⊢
      obtain ⟨s, h1, h2⟩ := numK_onto K n c h
      exact ⟨s, by omega, by dsimp only; rw [getD_snoc_lt (by omega), h2]⟩
theorem numK_inj {K : Nat → Key} : ∀ {n : Nat}, (∀ s t, s < n → t < n → K s = K t → s = t) → numK K n = (List.range n, n)
  | 0, _ => rfl
  | n + 1, h => by
    have ih := numK_inj (n := n) fun s t hs ht => h s t (by omega) (by omega)
    have hc : (List.range n).find? (fun t => decide (K t = K n)) = none := by
      cases hx : (List.range n).find? (fun t => decide (K t = K n)) with
      | none => rfl
      | some u =>
        obtain ⟨hu, hku⟩ := find_key hx
        have := h u n (by omega) (by omega) hku
        omega
    have he : numK K (n + 1) = ((numK K n).1 ++ [(numK K n).2], (numK K n).2 + 1) := numS_none hc
    rw [he, ih, List.range_succ]
theorem numK_head (K : Nat → Key) : ∀ n, (numK K n).1.getD 0 0 = 0
  | 0 => rfl
  | 1 => rfl
  | n + 2 => by
    have ih := numK_head K (n + 1)
    have hl := numK_len K (n + 1)
    cases hc : (List.range (n + 1)).find? (fun t => decide (K t = K (n + 1))) with
    | none =>
      have he : numK K (n + 1 + 1) = ((numK K (n + 1)).1 ++ [(numK K (n + 1)).2], (numK K (n + 1)).2 + 1) := numS_none hc
      rw [he]
      dsimp only
      rw [getD_snoc_lt (by omega), ih]
    | some u =>
      have he : numK K (n + 1 + 1) = ((numK K (n + 1)).1 ++ [(numK K (n + 1)).1.getD u 0], (numK K (n + 1)).2) := numS_some hc
      rw [he]
      dsimp only
      rw [getD_snoc_lt (by omega), ih]

/-- two systems side by side -/
def bothL (a b : List (List Arc)) : List (List Arc) := a ++ b.map fun r => r.map fun x => ⟨x.ev, x.to + (a.length : Int)⟩
theorem both_len (a b : List (List Arc)) : (bothL a b).length = a.length + b.length := by simp [bothL]
theorem both_left {a b : List (List Arc)} {s : Nat} (h : s < a.length) : rowAt (bothL a b) s = rowAt a s := by
  rw [rowAt, rowAt, bothL, List.getD_eq_getElem?_getD, List.getD_eq_getElem?_getD, List.getElem?_append_left h]
theorem both_right {a b : List (List Arc)} {j : Nat} (h : j < b.length) : rowAt (bothL a b) (a.length + j) = (rowAt b j).map fun x => ⟨x.ev, x.to + (a.length : Int)⟩ := by
  rw [rowAt, rowAt, bothL, List.getD_eq_getElem?_getD, List.getD_eq_getElem?_getD, List.getElem?_append_right (by omega), Nat.add_sub_cancel_left, List.getElem?_map, List.getElem?_eq_getElem h]
  rfl
theorem both_tos {a b : List (List Arc)} (ha : TosIn a) (hb : TosIn b) : TosIn (bothL a b) := by
  intro l hl x hx
  rw [both_len]
  rw [bothL] at hl
  rcases List.mem_append.1 hl with h | h
  · have := ha l h x hx
    omega
  · obtain ⟨r, hr, rfl⟩ := List.mem_map.1 h
    obtain ⟨y, hy, rfl⟩ := List.mem_map.1 hx
    have := hb r hr y hy
    show 0 ≤ y.to + (a.length : Int) ∧ y.to + (a.length : Int) < _
    omega

section
variable {ls : List (List Arc)} {K i : Nat}
/-- the system of the classes of the last round -/
abbrev quoE (ls : List (List Arc)) (K : Nat) : List (List Arc) := quoK ls (clK ls K) (ctK ls K) ls.length
theorem ct_pos (h0 : 0 < ls.length) (K : Nat) : 0 < ctK ls K := by
  have := clK_lt (ls := ls) (k := K) h0
  omega
theorem cl_all_lt {x : Nat} (hx : x ∈ clK ls K) : x < ctK ls K := by
  obtain ⟨s, hs⟩ := List.getElem?_of_mem hx
  have h1 := (List.getElem?_eq_some_iff.1 hs).1
  rw [clK_len] at h1
  have h2 := clK_lt (k := K) h1
  rw [List.getD_eq_getElem?_getD, hs] at h2
  exact h2
theorem quoE_tos (h : TosIn ls) : TosIn (quoE ls K) := by
  intro l hl a ha
  obtain ⟨c, hc, rfl⟩ := List.mem_map.1 hl
  rw [quoK_len]
  exact rowQ_to (fun x hx => cl_all_lt hx) (fun l hl a ha => by have := h l hl a ha; rw [clK_len]; exact this) _ _ a ha
theorem cl_head (ls : List (List Arc)) (K : Nat) : (clK ls K).getD 0 0 = 0 := by rw [clK_num]; exact numK_head _ _
theorem num_cl {x : Arc} (hx : x.to.toNat < ls.length) : numAt (intC (clK ls K)) x.to = ((clK ls K).getD x.to.toNat 0 : Nat) := by
  have hl := clK_len ls K
  rw [numAt, intC, List.getD_eq_getElem?_getD, List.getD_eq_getElem?_getD, List.getElem?_map, List.getElem?_eq_getElem (show x.to.toNat < (clK ls K).length by omega)]
  rfl
/-- an arc of a class is an arc of some state of it -/
theorem quo_arc (hT : TosIn ls) {c : Nat} {a : Arc} (hc : c < ctK ls K) : a ∈ rowAt (quoE ls K) c ↔ ∃ s, s < ls.length ∧ (clK ls K).getD s 0 = c ∧ ∃ x ∈ rowAt ls s, x.ev = a.ev ∧ (((clK ls K).getD x.to.toNat 0 : Nat) : Int) = a.to := by
  rw [quoK_at hc, rowQ_mem]
  constructor
  · rintro ⟨s, h1, h2, x, hx, rfl⟩
    exact ⟨s, h1, h2, x, hx, rfl, (num_cl (row_in hT hx).1).symm⟩
  · rintro ⟨s, h1, h2, x, hx, h3, h4⟩
    refine ⟨s, h1, h2, x, hx, ?_⟩
    obtain ⟨ae, at_⟩ := a
    rw [ren, num_cl (row_in hT hx).1]
    dsimp only at h3 h4
    rw [h3, h4]
/-- from a state's arc to the class's -/
theorem to_class (hT : TosIn ls) (h0 : 0 < ls.length) (hd : DoneC (quoE ls K) i) {s j : Nat} (hs : s < ls.length) (hj : j < i) (e : (clK ls K).getD s 0 = oldAt (quoE ls K) i j) {x : Arc} (hx : x ∈ rowAt ls s) :
    ∃ b ∈ rowAt (canonK (quoE ls K) i).out j, b.ev = x.ev ∧ b.to.toNat < i ∧ (clK ls K).getD x.to.toNat 0 = oldAt (quoE ls K) i b.to.toNat := by
  have hq := quoE_tos (K := K) hT
  have hq0 : 0 < (quoE ls K).length := by rw [quoK_len]; exact ct_pos h0 K
  have ho : oldAt (quoE ls K) i j < ctK ls K := by have := old_lt hq hq0 hd hj; rwa [quoK_len] at this
  obtain ⟨b, hb, h1, h2, h3⟩ := arc_out hq hq0 hd hj (a := ⟨x.ev, ((clK ls K).getD x.to.toNat 0 : Nat)⟩) ((quo_arc hT ho).2 ⟨s, hs, e, x, hx, rfl, rfl⟩)
  dsimp only at h1 h3
  exact ⟨b, hb, h1, h2, by omega⟩
/-- from a class's arc to the state's -/
theorem of_class (hT : TosIn ls) (h0 : 0 < ls.length) (hR : DoneR ls K) (hd : DoneC (quoE ls K) i) {s j : Nat} (hs : s < ls.length) (hj : j < i) (e : (clK ls K).getD s 0 = oldAt (quoE ls K) i j) {b : Arc} (hb : b ∈ rowAt (canonK (quoE ls K) i).out j) :
    ∃ x ∈ rowAt ls s, x.ev = b.ev ∧ b.to.toNat < i ∧ (clK ls K).getD x.to.toNat 0 = oldAt (quoE ls K) i b.to.toNat := by
  have hq := quoE_tos (K := K) hT
  have hq0 : 0 < (quoE ls K).length := by rw [quoK_len]; exact ct_pos h0 K
  have ho : oldAt (quoE ls K) i j < ctK ls K := by have := old_lt hq hq0 hd hj; rwa [quoK_len] at this
  obtain ⟨a, ha, h1, h2, h3⟩ := out_arc hq hq0 hd hj hb
  obtain ⟨s', hs', h4, y, hy, h5, h6⟩ := (quo_arc hT ho).1 ha
  have hag : agr ls K s' s := by rw [agr, h4, e]
  obtain ⟨x, hx, h7, h8⟩ := agr_bisim hT hR hs' hs hag y hy
  refine ⟨x, hx, by rw [h7, h5, h1], h2, ?_⟩
  rw [agr] at h8
  omega
/-- the system's first state and that of the classes are in one class -/
theorem quo_both (hT : TosIn ls) (h0 : 0 < ls.length) (hR : DoneR ls K) (hd : DoneC (quoE ls K) i) (k : Nat) : agr (bothL ls (canonK (quoE ls K) i).out) k 0 ls.length := by
  have hq := quoE_tos (K := K) hT
  have hq0 : 0 < (quoE ls K).length := by rw [quoK_len]; exact ct_pos h0 K
  have hout : (canonK (quoE ls K) i).out.length = i := canon_out _ _
  have hi := (done_bound hq hq0 hd).2.2
  have hto := out_tos hq hq0 hd
  refine bisim_agr (both_tos hT hto) (R := fun s t => s < ls.length ∧ ∃ j, j < i ∧ t = ls.length + j ∧ (clK ls K).getD s 0 = oldAt (quoE ls K) i j) ?_ ?_ k 0 ls.length ⟨h0, 0, hi, rfl, by rw [cl_head, old_zero]⟩
  · rintro s t ⟨hs, j, hj, rfl, _⟩
    rw [both_len, hout]
    omega
  · rintro s t ⟨hs, j, hj, rfl, e⟩
    rw [both_left hs, both_right (by omega)]
    constructor
    · intro x hx
      obtain ⟨b, hb, h1, h2, h3⟩ := to_class hT h0 hd hs hj e hx
      have hb0 := hto.row j b hb
      refine ⟨_, List.mem_map_of_mem hb, h1, (row_in hT hx).1, b.to.toNat, h2, ?_, h3⟩
      show (b.to + (ls.length : Int)).toNat = _
      omega
    · intro y hy
      obtain ⟨b, hb, rfl⟩ := List.mem_map.1 hy
      have hb0 := hto.row j b hb
      obtain ⟨x, hx, h1, h2, h3⟩ := of_class hT h0 hR hd hs hj e hb
      refine ⟨x, hx, h1, (row_in hT hx).1, b.to.toNat, h2, ?_, h3⟩
      show (b.to + (ls.length : Int)).toNat = _
      omega
/-- no two states of the classes' system are in one class -/
theorem quo_discrete (hT : TosIn ls) (h0 : 0 < ls.length) (hR : DoneR ls K) (hd : DoneC (quoE ls K) i) {K' : Nat} (hR' : DoneR (canonK (quoE ls K) i).out K') {j k : Nat} (hj : j < i) (hk : k < i) (h : agr (canonK (quoE ls K) i).out K' j k) : j = k := by
  have hq := quoE_tos (K := K) hT
  have hq0 : 0 < (quoE ls K).length := by rw [quoK_len]; exact ct_pos h0 K
  have hout : (canonK (quoE ls K) i).out.length = i := canon_out _ _
  have hto := out_tos hq hq0 hd
  have hon : ∀ j, j < i → ∃ s, s < ls.length ∧ (clK ls K).getD s 0 = oldAt (quoE ls K) i j := fun j hj => by
    have ho : oldAt (quoE ls K) i j < ctK ls K := by have := old_lt hq hq0 hd hj; rwa [quoK_len] at this
    rw [clK_num]
    exact numK_onto _ _ _ ho
  obtain ⟨s, hs, es⟩ := hon j hj
  obtain ⟨t, ht, et⟩ := hon k hk
  have hag := bisim_agr hT (R := fun s t => s < ls.length ∧ t < ls.length ∧ ∃ j k, j < i ∧ k < i ∧ (clK ls K).getD s 0 = oldAt (quoE ls K) i j ∧ (clK ls K).getD t 0 = oldAt (quoE ls K) i k ∧ agr (canonK (quoE ls K) i).out K' j k)
    (fun s t h => ⟨h.1, h.2.1⟩) (by
      have half : ∀ s t j k, s < ls.length → t < ls.length → j < i → k < i → (clK ls K).getD s 0 = oldAt (quoE ls K) i j → (clK ls K).getD t 0 = oldAt (quoE ls K) i k → agr (canonK (quoE ls K) i).out K' j k →
          ∀ a ∈ rowAt ls s, ∃ b ∈ rowAt ls t, b.ev = a.ev ∧ ∃ j k, j < i ∧ k < i ∧ (clK ls K).getD a.to.toNat 0 = oldAt (quoE ls K) i j ∧ (clK ls K).getD b.to.toNat 0 = oldAt (quoE ls K) i k ∧ agr (canonK (quoE ls K) i).out K' j k := by
        intro s t j k hs ht hj hk e1 e2 hag x hx
        obtain ⟨b, hb, h1, h2, h3⟩ := to_class hT h0 hd hs hj e1 hx
        obtain ⟨b', hb', h4, h5⟩ := agr_bisim hto hR' (by omega) (by omega) hag b hb
        obtain ⟨y, hy, h6, h7, h8⟩ := of_class hT h0 hR hd ht hk e2 hb'
        exact ⟨y, hy, by rw [h6, h4, h1], _, _, h2, h7, h3, h8, h5⟩
      rintro s t ⟨hs, ht, j, k, hj, hk, e1, e2, hag⟩
      constructor
      · intro x hx
        obtain ⟨y, hy, e, h⟩ := half s t j k hs ht hj hk e1 e2 hag x hx
        exact ⟨y, hy, e, (row_in hT hx).1, (row_in hT hy).1, h⟩
      · intro y hy
        obtain ⟨x, hx, e, j', k', hj', hk', h1, h2, h3⟩ := half t s k j ht hs hk hj e2 e1 hag.symm y hy
        exact ⟨x, hx, e, (row_in hT hx).1, (row_in hT hy).1, k', j', hk', hj', h2, h1, h3.symm⟩) K s t ⟨hs, ht, j, k, hj, hk, es, et, h⟩
  rw [agr, es, et] at hag
  exact old_inj hq hq0 hd hj hk hag
/-- its classes are its states -/
theorem quo_classes (hT : TosIn ls) (h0 : 0 < ls.length) (hR : DoneR ls K) (hd : DoneC (quoE ls K) i) {K' : Nat} (hR' : DoneR (canonK (quoE ls K) i).out K') : clK (canonK (quoE ls K) i).out K' = List.range i := by
  have hout : (canonK (quoE ls K) i).out.length = i := canon_out _ _
  rw [clK_num, hout, numK_inj fun s t hs ht e => quo_discrete hT h0 hR hd hR' hs ht ((clK_iff (by omega) (by omega)).2 e)]
end
theorem quo_range {ls : List (List Arc)} (hT : TosIn ls) : quoK ls (List.range ls.length) ls.length ls.length = ls := by
  apply List.ext_getElem?
  intro c
  by_cases hc : c < ls.length
  · rw [quoK_row hc, List.getElem?_eq_getElem hc]
    congr 1
    have hr : ∀ x : Nat, x < ls.length → (List.range ls.length).getD x 0 = x := fun x hx => by
      rw [List.getD_eq_getElem?_getD]
      simp [hx]
    have hk : ∀ k, k ≤ ls.length → rowQ ls (List.range ls.length) k c = if c < k then rowAt ls c else [] := by
      intro k
      induction k with
      | zero => intro _; rfl
      | succ k ih =>
        intro hk
        rw [rowQ, ih (by omega), hr k (by omega)]
        by_cases e : k = c
        · subst e
          rw [if_pos rfl, if_neg (by omega), if_pos (by omega), List.nil_append]
          conv => rhs; rw [← List.map_id (rowAt ls k)]
          apply List.map_congr_left
          intro a ha
          have h1 := hT.row k a ha
          obtain ⟨ae, at_⟩ := a
          dsimp only at h1
          rw [ren, numAt, intC, List.getD_eq_getElem?_getD, List.getElem?_map]
          have h2 : (List.range ls.length)[at_.toNat]? = some at_.toNat := by
            rw [List.getElem?_range (by omega)]
          rw [h2]
          show Arc.mk ae ((at_.toNat : Nat) : Int) = _
          rw [Int.toNat_of_nonneg h1.1]
          rfl
        · rw [if_neg e]
          by_cases e2 : c < k
          · rw [if_pos e2, if_pos (by omega)]
          · rw [if_neg e2, if_neg (by omega)]
    rw [hk _ (Nat.le_refl _), if_pos hc]
    exact rowAt_get (List.getElem?_eq_getElem hc)
  · rw [List.getElem?_eq_none (by rw [quoK_len]; omega), List.getElem?_eq_none (by omega)]

end Go.Proofs.Ytmciinikfjfegaa
