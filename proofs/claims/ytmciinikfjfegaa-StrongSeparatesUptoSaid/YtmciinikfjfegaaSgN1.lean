/- partitions by signatures: plain laws -/
import Derived.Test.YtmciinikfjfegaaRwN
namespace Go.Proofs.Ytmciinikfjfegaa
open Go Go.RowKit
set_option maxHeartbeats 4000000

/-- numbers in the order in which keys come first, and how many there are -/
def numS (p : Nat → Nat → Bool) : Nat → List Nat × Nat
  | 0 => ([], 0)
  | k + 1 => match (List.range k).find? (fun t => p k t) with
    | some t => ((numS p k).1 ++ [(numS p k).1.getD t 0], (numS p k).2)
    | none => ((numS p k).1 ++ [(numS p k).2], (numS p k).2 + 1)
theorem numS_some {p : Nat → Nat → Bool} {k t : Nat} (h : (List.range k).find? (fun t => p k t) = some t) : numS p (k + 1) = ((numS p k).1 ++ [(numS p k).1.getD t 0], (numS p k).2) := by
  rw [numS, h]
theorem numS_none {p : Nat → Nat → Bool} {k : Nat} (h : (List.range k).find? (fun t => p k t) = none) : numS p (k + 1) = ((numS p k).1 ++ [(numS p k).2], (numS p k).2 + 1) := by
  rw [numS, h]
theorem numS_len (p : Nat → Nat → Bool) : ∀ k, (numS p k).1.length = k
  | 0 => rfl
  | k + 1 => by
    have ih := numS_len p k
    cases h : (List.range k).find? (fun t => p k t) with
    | none => rw [numS_none h]; simp [ih]
    | some t => rw [numS_some h]; simp [ih]
theorem find_congr {p q : Nat → Bool} {k : Nat} (h : ∀ t, t < k → p t = q t) : (List.range k).find? p = (List.range k).find? q := by
  induction k with
  | zero => rfl
  | succ k ih =>
    rw [List.range_succ, List.find?_append, List.find?_append, ih fun t ht => h t (by omega)]
    congr 1
    simp only [List.find?_cons, h k (by omega), List.find?_nil]
theorem numS_congr {p q : Nat → Nat → Bool} : ∀ {n : Nat}, (∀ s t, t < s → s < n → p s t = q s t) → numS p n = numS q n
  | 0, _ => rfl
  | n + 1, h => by
    have ih := numS_congr (n := n) fun s t h1 h2 => h s t h1 (by omega)
    have hf : (List.range n).find? (fun t => p n t) = (List.range n).find? (fun t => q n t) := find_congr fun t ht => h n t ht (by omega)
    cases hc : (List.range n).find? (fun t => q n t) with
    | none => rw [numS_none hc, numS_none (hf.trans hc), ih]
    | some t => rw [numS_some hc, numS_some (hf.trans hc), ih]

abbrev Key := Nat × List Arc
def numK (K : Nat → Key) (n : Nat) : List Nat × Nat := numS (fun s t => decide (K t = K s)) n
theorem numK_len (K : Nat → Key) (n : Nat) : (numK K n).1.length = n := numS_len _ n
theorem find_key {K : Nat → Key} {k t : Nat} (h : (List.range k).find? (fun t => decide (K t = K k)) = some t) : t < k ∧ K t = K k :=
  ⟨List.mem_range.1 (List.mem_of_find?_eq_some h), of_decide_eq_true (List.find?_some (p := fun t => decide (K t = K k)) h)⟩
theorem find_no {K : Nat → Key} {k : Nat} (h : (List.range k).find? (fun t => decide (K t = K k)) = none) : ∀ t, t < k → K t ≠ K k := fun t ht e => by
  have h1 := List.find?_eq_none.1 h t (List.mem_range.2 ht)
  exact h1 (decide_eq_true e)
theorem getD_snoc_lt {l : List Nat} {x s : Nat} (h : s < l.length) : (l ++ [x]).getD s 0 = l.getD s 0 := by
  rw [List.getD_eq_getElem?_getD, List.getD_eq_getElem?_getD, List.getElem?_append_left h]
theorem getD_snoc_eq {l : List Nat} {x s : Nat} (h : s = l.length) : (l ++ [x]).getD s 0 = x := by
  subst h
  rw [List.getD_eq_getElem?_getD, List.getElem?_append_right (Nat.le_refl _), Nat.sub_self]
  rfl
/-- equal numbers just for equal keys -/
theorem numK_spec (K : Nat → Key) : ∀ n, (numK K n).2 ≤ n ∧ (∀ s, s < n → (numK K n).1.getD s 0 < (numK K n).2) ∧ ∀ s t, s < n → t < n → ((numK K n).1.getD s 0 = (numK K n).1.getD t 0 ↔ K s = K t)
  | 0 => ⟨Nat.le_refl _, fun s h => by omega, fun s t h => by omega⟩
  | n + 1 => by
    obtain ⟨h1, h2, h3⟩ := numK_spec K n
    have hl := numK_len K n
    cases hc : (List.range n).find? (fun t => decide (K t = K n)) with
    | none =>
      have he : numK K (n + 1) = ((numK K n).1 ++ [(numK K n).2], (numK K n).2 + 1) := numS_none hc
      have hno := find_no hc
      rw [he]
      have hg : ∀ s, s < n → ((numK K n).1 ++ [(numK K n).2]).getD s 0 = (numK K n).1.getD s 0 := fun s hs => getD_snoc_lt (by omega)
      have hgn : ((numK K n).1 ++ [(numK K n).2]).getD n 0 = (numK K n).2 := getD_snoc_eq hl.symm
      refine ⟨by dsimp only; omega, fun s hs => ?_, fun s t hs ht => ?_⟩
      · dsimp only
        by_cases e : s = n
        · subst e; rw [hgn]; omega
        · rw [hg s (by omega)]
          have := h2 s (by omega)
          omega
      · dsimp only
        by_cases e : s = n <;> by_cases e' : t = n
        · subst e e'; exact ⟨fun _ => rfl, fun _ => rfl⟩
        · subst e
          rw [hgn, hg t (by omega)]
          have := h2 t (by omega)
          exact ⟨fun h => by omega, fun h => absurd h.symm (hno t (by omega))⟩
        · subst e'
          rw [hgn, hg s (by omega)]
          have := h2 s (by omega)
          exact ⟨fun h => by omega, fun h => absurd h (hno s (by omega))⟩
        · rw [hg s (by omega), hg t (by omega)]
          exact h3 s t (by omega) (by omega)
    | some u =>
      have he : numK K (n + 1) = ((numK K n).1 ++ [(numK K n).1.getD u 0], (numK K n).2) := numS_some hc
      obtain ⟨hu, hku⟩ := find_key hc
      rw [he]
      have hg : ∀ s, s < n → ((numK K n).1 ++ [(numK K n).1.getD u 0]).getD s 0 = (numK K n).1.getD s 0 := fun s hs => getD_snoc_lt (by omega)
      have hgn : ((numK K n).1 ++ [(numK K n).1.getD u 0]).getD n 0 = (numK K n).1.getD u 0 := getD_snoc_eq hl.symm
      refine ⟨by dsimp only; omega, fun s hs => ?_, fun s t hs ht => ?_⟩
      · dsimp only
        by_cases e : s = n
        · subst e; rw [hgn]; exact h2 u hu
        · rw [hg s (by omega)]; exact h2 s (by omega)
      · dsimp only
        by_cases e : s = n <;> by_cases e' : t = n
        · subst e e'; exact ⟨fun _ => rfl, fun _ => rfl⟩
        · subst e
          rw [hgn, hg t (by omega), h3 u t hu (by omega), hku]
        · subst e'
          rw [hgn, hg s (by omega), h3 s u (by omega) hu, hku]
        · rw [hg s (by omega), hg t (by omega)]
          exact h3 s t (by omega) (by omega)
theorem numK_congr {K K' : Nat → Key} {n : Nat} (h : ∀ s t, s < n → t < n → (K t = K s ↔ K' t = K' s)) : numK K n = numK K' n :=
  numS_congr fun s t h1 h2 => by
    rw [Bool.eq_iff_iff, decide_eq_true_eq, decide_eq_true_eq]
    exact h s t (by omega) (by omega)
/-- a finer partition has more classes, or is the same -/
theorem numK_finer {K K' : Nat → Key} : ∀ {n : Nat}, (∀ s t, s < n → t < n → K' s = K' t → K s = K t) → (numK K n).2 ≤ (numK K' n).2 ∧ ((numK K n).2 = (numK K' n).2 → (numK K n).1 = (numK K' n).1)
  | 0, _ => ⟨Nat.le_refl _, fun _ => rfl⟩
  | n + 1, h => by
    obtain ⟨h1, h2⟩ := numK_finer (n := n) fun s t hs ht => h s t (by omega) (by omega)
    cases hc : (List.range n).find? (fun t => decide (K t = K n)) with
    | none =>
      have he : numK K (n + 1) = ((numK K n).1 ++ [(numK K n).2], (numK K n).2 + 1) := numS_none hc
      have hno := find_no hc
      have hc' : (List.range n).find? (fun t => decide (K' t = K' n)) = none := by
        cases hx : (List.range n).find? (fun t => decide (K' t = K' n)) with
        | none => rfl
        | some u =>
          obtain ⟨hu, hku⟩ := find_key hx
          exact absurd (h u n (by omega) (by omega) hku) (hno u hu)
      have he' : numK K' (n + 1) = ((numK K' n).1 ++ [(numK K' n).2], (numK K' n).2 + 1) := numS_none hc'
      rw [he, he']
      exact ⟨by dsimp only; omega, fun e => by
        have e1 : (numK K n).2 = (numK K' n).2 := by dsimp only at e; omega
        dsimp only
        rw [h2 e1, e1]⟩
    | some u =>
      have he : numK K (n + 1) = ((numK K n).1 ++ [(numK K n).1.getD u 0], (numK K n).2) := numS_some hc
      cases hx : (List.range n).find? (fun t => decide (K' t = K' n)) with
      | none =>
        have he' : numK K' (n + 1) = ((numK K' n).1 ++ [(numK K' n).2], (numK K' n).2 + 1) := numS_none hx
        rw [he, he']
        exact ⟨by dsimp only; omega, fun e => by dsimp only at e; omega⟩
      | some v =>
        have he' : numK K' (n + 1) = ((numK K' n).1 ++ [(numK K' n).1.getD v 0], (numK K' n).2) := numS_some hx
        rw [he, he']
        refine ⟨h1, fun e => ?_⟩
        have e1 := h2 e
        dsimp only
        rw [e1]
        obtain ⟨hu, hku⟩ := find_key hc
        obtain ⟨hv, hkv⟩ := find_key hx
        have hkv2 := h v n (by omega) (by omega) hkv
        have h5 := ((numK_spec K n).2.2 u v hu hv).2 (hku.trans hkv2.symm)
        rw [e1] at h5
        rw [h5]

/-- what a state's class and signature are -/
def intC (cl : List Nat) : List Int := cl.map fun x : Nat => (x : Int)
def sigS (ls : List (List Arc)) (cl : List Nat) (s : Nat) : List Arc := sd ((rowAt ls s).map (ren (intC cl)))
def keyS (ls : List (List Arc)) (cl : List Nat) (s : Nat) : Key := (cl.getD s 0, sigS ls cl s)
/-- the partitions of the rounds -/
def clK (ls : List (List Arc)) : Nat → List Nat
  | 0 => List.replicate ls.length 0
  | k + 1 => (numK (keyS ls (clK ls k)) ls.length).1
def kyK (ls : List (List Arc)) : Nat → Nat → Key
  | 0, _ => (0, [])
  | k + 1, s => keyS ls (clK ls k) s
theorem num_one : ∀ n, numK (fun _ => (0, [])) n = (List.replicate n 0, if n = 0 then 0 else 1)
  | 0 => rfl
  | n + 1 => by
    have ih := num_one n
    cases n with
    | zero => rfl
    | succ n =>
      have hc : (List.range (n + 1)).find? (fun t => decide (((fun _ => (0, [])) : Nat → Key) t = ((fun _ => (0, [])) : Nat → Key) (n + 1))) = some 0 := by
        rw [List.range_succ_eq_map]
        simp
      have he : numK (fun _ => (0, [])) (n + 1 + 1) = ((numK (fun _ => (0, [])) (n + 1)).1 ++ [(numK (fun _ => (0, [])) (n + 1)).1.getD 0 0], (numK (fun _ => (0, [])) (n + 1)).2) := numS_some hc
      rw [he, ih]
      refine Prod.ext ?_ (by simp)
      dsimp only
      rw [List.replicate_succ' (n := n + 1)]
      rfl
theorem clK_num (ls : List (List Arc)) : ∀ k, clK ls k = (numK (kyK ls k) ls.length).1
  | 0 => by
    have : kyK ls 0 = fun _ => (0, []) := rfl
    rw [this, num_one]
    rfl
  | _ + 1 => rfl
def ctK (ls : List (List Arc)) (k : Nat) : Nat := (numK (kyK ls k) ls.length).2
theorem clK_len (ls : List (List Arc)) (k : Nat) : (clK ls k).length = ls.length := by rw [clK_num, numK_len]
theorem ctK_le (ls : List (List Arc)) (k : Nat) : ctK ls k ≤ ls.length := (numK_spec _ _).1
theorem clK_lt {ls : List (List Arc)} {k s : Nat} (h : s < ls.length) : (clK ls k).getD s 0 < ctK ls k := by
  rw [clK_num]
  exact (numK_spec _ _).2.1 s h
theorem clK_lt' {ls : List (List Arc)} {k : Nat} : ∀ x ∈ clK ls k, x < ls.length := fun x hx => by
  obtain ⟨s, hs⟩ := List.getElem?_of_mem hx
  have h1 := (List.getElem?_eq_some_iff.1 hs).1
  rw [clK_len] at h1
  have h2 := clK_lt (k := k) h1
  rw [List.getD_eq_getElem?_getD, hs] at h2
  have := ctK_le ls k
  have h3 : x < ctK ls k := h2
  omega
theorem clK_iff {ls : List (List Arc)} {k s t : Nat} (hs : s < ls.length) (ht : t < ls.length) : (clK ls k).getD s 0 = (clK ls k).getD t 0 ↔ kyK ls k s = kyK ls k t := by
  rw [clK_num]
  exact (numK_spec _ _).2.2 s t hs ht
/-- a round refines -/
theorem clK_fine {ls : List (List Arc)} {k s t : Nat} (hs : s < ls.length) (ht : t < ls.length) (h : (clK ls (k + 1)).getD s 0 = (clK ls (k + 1)).getD t 0) : (clK ls k).getD s 0 = (clK ls k).getD t 0 := by
  have h1 := (clK_iff hs ht).1 h
  exact congrArg Prod.fst h1
theorem clK_grow (ls : List (List Arc)) (k : Nat) : ctK ls k ≤ ctK ls (k + 1) ∧ (ctK ls k = ctK ls (k + 1) → clK ls (k + 1) = clK ls k) := by
  have h := numK_finer (K := kyK ls k) (K' := kyK ls (k + 1)) (n := ls.length) fun s t hs ht e => (clK_iff hs ht).1 (congrArg Prod.fst e)
  exact ⟨h.1, fun e => by rw [clK_num, clK_num]; exact (h.2 e).symm⟩
/-- the rounds have come to their end -/
def DoneR (ls : List (List Arc)) (K : Nat) : Prop := (∀ j, j < K → clK ls (j + 1) ≠ clK ls j) ∧ clK ls (K + 1) = clK ls K
theorem DoneR.unique {ls : List (List Arc)} {i j : Nat} (h : DoneR ls i) (k : DoneR ls j) : i = j := by
  rcases Nat.lt_trichotomy i j with e | e | e
  · exact absurd h.2 (k.1 i e)
  · exact e
  · exact absurd k.2 (h.1 j e)
theorem round_count {ls : List (List Arc)} : ∀ {K : Nat}, (∀ j, j < K → clK ls (j + 1) ≠ clK ls j) → ctK ls 0 + K ≤ ctK ls K
  | 0, _ => Nat.le_refl _
  | K + 1, h => by
    have ih := round_count (K := K) fun j hj => h j (by omega)
    have h1 := clK_grow ls K
    have h2 : ctK ls K ≠ ctK ls (K + 1) := fun e => h K (by omega) (h1.2 e)
    omega
theorem round_le {ls : List (List Arc)} {K : Nat} (h : ∀ j, j < K → clK ls (j + 1) ≠ clK ls j) : K ≤ ls.length := by
  have h1 := round_count h
  have h2 := ctK_le ls K
  omega
/-- the round that follows tells states apart by class and signature -/
theorem clK_next {ls : List (List Arc)} (k : Nat) : clK ls (k + 1) = (numK (keyS ls (clK ls k)) ls.length).1 := rfl

/-- the reference's test -/
def hasB (row : List Arc) (cl : List Nat) (ev : Int) (c : Int) : Bool := row.any fun a => decide (a.ev = ev) && decide (numAt (intC cl) a.to = c)
def covB (a b : List Arc) (cl : List Nat) : Bool := a.all fun x => hasB b cl x.ev (numAt (intC cl) x.to)
theorem cov_iff {a b : List Arc} {cl : List Nat} : covB a b cl = true ↔ ∀ x ∈ a.map (ren (intC cl)), x ∈ b.map (ren (intC cl)) := by
  unfold covB hasB
  simp only [List.all_eq_true, List.any_eq_true, Bool.and_eq_true, decide_eq_true_eq, List.mem_map]
  constructor
  · rintro h _ ⟨x, hx, rfl⟩
    obtain ⟨y, hy, h1, h2⟩ := h x hx
    exact ⟨y, hy, by rw [ren, ren, h1, h2]⟩
  · intro h x hx
    obtain ⟨y, hy, e⟩ := h _ ⟨x, hx, rfl⟩
    have h1 : (ren (intC cl) y).ev = (ren (intC cl) x).ev := by rw [e]
    have h2 : (ren (intC cl) y).to = (ren (intC cl) x).to := by rw [e]
    exact ⟨y, hy, h1, h2⟩
theorem sig_iff {ls : List (List Arc)} {cl : List Nat} {s t : Nat} : sigS ls cl t = sigS ls cl s ↔ (covB (rowAt ls s) (rowAt ls t) cl && covB (rowAt ls t) (rowAt ls s) cl) = true := by
  rw [Bool.and_eq_true, cov_iff, cov_iff]
  constructor
  · intro h
    have h1 : ∀ x, x ∈ (rowAt ls t).map (ren (intC cl)) ↔ x ∈ (rowAt ls s).map (ren (intC cl)) := fun x => by
      rw [← sd_mem x ((rowAt ls t).map _), ← sd_mem x ((rowAt ls s).map _)]
      have h' : sd ((rowAt ls t).map (ren (intC cl))) = sd ((rowAt ls s).map (ren (intC cl))) := h
      rw [h']
    exact ⟨fun x hx => (h1 x).2 hx, fun x hx => (h1 x).1 hx⟩
  · rintro ⟨h1, h2⟩
    exact asc_ext (sd_asc _) (sd_asc _) fun x => by rw [sigS, sigS, sd_mem, sd_mem]; exact ⟨h2 x, h1 x⟩
def eqS (ls : List (List Arc)) (cl : List Nat) (s t : Nat) : Bool := decide (cl.getD t 0 = cl.getD s 0) && covB (rowAt ls s) (rowAt ls t) cl && covB (rowAt ls t) (rowAt ls s) cl
theorem eqS_key (ls : List (List Arc)) (cl : List Nat) (s t : Nat) : eqS ls cl s t = decide (keyS ls cl t = keyS ls cl s) := by
  rw [Bool.eq_iff_iff, decide_eq_true_eq, eqS, Bool.and_assoc, Bool.and_eq_true, ← sig_iff, decide_eq_true_eq, keyS, keyS, Prod.mk.injEq]
theorem split_key (ls : List (List Arc)) (cl : List Nat) (n : Nat) : numS (eqS ls cl) n = numK (keyS ls cl) n := numS_congr fun s t _ _ => eqS_key ls cl s t

end Go.Proofs.Ytmciinikfjfegaa
