/- what a test knows: the map of answers -/
import Derived.Test.YtmciinikfjfegaaSgH4
import Derived.Test.YtmciinikfjfegaaSgW3
namespace Go.Proofs.Ytmciinikfjfegaa
open Go Go.RowKit Go.Maps
set_option maxHeartbeats 4000000

theorem pairL_inj {i s j t : Nat} (hi : i ≤ 1000000) (hs : s ≤ 1000000) (hj : j ≤ 1000000) (ht : t ≤ 1000000) (h : pairL i s = pairL j t) : i = j ∧ s = t := by
  have h1 := pairL_key hi hs
  have h2 := pairL_key hj ht
  rw [← h] at h2
  exact pairV_inj (lawP.inj h1 h2)
theorem pairL_lit {i s : Nat} (hi : i ≤ 1000000) (hs : s ≤ 1000000) : WideAt.IsKeyLit (pairL i s) := lawP.key (pairL_key hi hs)

theorem filter_more {α : Type} [DecidableEq α] {p q : α → Bool} {x : α} (hp : p x = false) (hq : ∀ y, q y = (p y || decide (y = x))) : ∀ {l : List α}, l.Nodup → x ∈ l → (l.filter q).length = (l.filter p).length + 1
  | [], _, h => by cases h
  | y :: l, hn, h => by
    obtain ⟨h1, h2⟩ := List.nodup_cons.1 hn
    by_cases e : y = x
    · subst e
      have hsame : l.filter q = l.filter p := List.filter_congr fun z hz => by
        rw [hq, decide_eq_false (show ¬ z = y from fun e => h1 (e ▸ hz)), Bool.or_false]
      rw [List.filter_cons, List.filter_cons, hq, hp, hsame]
      simp
    · have hx : x ∈ l := by
        rcases List.mem_cons.1 h with h | h
        · exact absurd h.symm e
        · exact h
      have ih := filter_more hp hq h2 hx
      rw [List.filter_cons, List.filter_cons, hq y, decide_eq_false e, Bool.or_false]
      split
      · rw [List.length_cons, List.length_cons, ih]
      · exact ih
def pairsL (N n : Nat) : List (Nat × Nat) := (List.range (N * n)).map fun x => (x / n, x % n)
theorem pairs_nodup (N n : Nat) : (pairsL N n).Nodup := by
  rw [pairsL]
  refine List.pairwise_map.2 (List.nodup_range.imp fun {a b} hab h => hab ?_)
  simp only [Prod.mk.injEq] at h
  rw [← Nat.div_add_mod a n, ← Nat.div_add_mod b n, h.1, h.2]
theorem pairs_mem {N n i s : Nat} (hi : i < N) (hs : s < n) : (i, s) ∈ pairsL N n := by
  refine List.mem_map.2 ⟨n * i + s, List.mem_range.2 ?_, ?_⟩
  · have : n * (i + 1) ≤ n * N := Nat.mul_le_mul_left n hi
    rw [Nat.mul_add, Nat.mul_one] at this
    rw [Nat.mul_comm N n]
    omega
  · have hn : 0 < n := by omega
    rw [Nat.mul_add_div hn, Nat.div_eq_of_lt hs, Nat.add_zero, Nat.mul_add_mod, Nat.mod_eq_of_lt hs]
theorem pairs_len (N n : Nat) : (pairsL N n).length = N * n := by simp [pairsL]
theorem pairs_lt {N n : Nat} {x : Nat × Nat} (h : x ∈ pairsL N n) : x.1 < N ∧ x.2 < n := by
  obtain ⟨y, hy, rfl⟩ := List.mem_map.1 h
  have hy := List.mem_range.1 hy
  have hn : 0 < n := by
    rcases Nat.eq_zero_or_pos n with e | e
    · subst e; simp at hy
    · exact e
  exact ⟨Nat.div_lt_of_lt_mul (by rw [Nat.mul_comm]; exact hy), Nat.mod_lt _ hn⟩
/-- how many of the pairs are known -/
def cntM (N n : Nat) (D : DU) : Nat := ((pairsL N n).filter fun x => Maps.has D (pairL x.1 x.2)).length
theorem cntM_le (N n : Nat) (D : DU) : cntM N n D ≤ N * n := by
  rw [← pairs_len N n]
  exact List.length_filter_le _ _
/-- what is known is right -/
structure Memo (ls : List (List Arc)) (F : Form) (N n : Nat) (D : DU) : Prop where
  tidy : Maps.Tidy D
  val : ∀ (i s : Nat) (G : Form), i < N → s < n → Occ F i G → Maps.has D (pairL i s) = true → D.atKey (pairL i s) (.lit (.bool false)) = .lit (.bool (sat ls G s))
theorem Memo.nil (ls : List (List Arc)) (F : Form) (N n : Nat) : Memo ls F N n (.map []) := ⟨Maps.tidy_empty, fun i s G _ _ _ h => by simp [Maps.has] at h⟩
theorem cntM_nil (N n : Nat) : cntM N n (.map []) = 0 := by
  rw [cntM, List.length_eq_zero_iff, List.filter_eq_nil_iff]
  intro x _
  simp [Maps.has]
theorem Memo.put {ls : List (List Arc)} {F G : Form} {N n i s : Nat} {D : DU} (h : Memo ls F N n D) (hN : N ≤ 1000000) (hn : n ≤ 1000000) (hi : i < N) (hs : s < n) (hG : Occ F i G) (hno : Maps.has D (pairL i s) = false) :
    Memo ls F N n (D.put (pairL i s) (.lit (.bool (sat ls G s)))) ∧ cntM N n (D.put (pairL i s) (.lit (.bool (sat ls G s)))) = cntM N n D + 1 := by
  have hlit : WideAt.IsKeyLit (pairL i s) := pairL_lit (by omega) (by omega)
  refine ⟨⟨h.tidy.put hlit _, fun j t H hj ht hH hh => ?_⟩, ?_⟩
  · by_cases e : pairL j t = pairL i s
    · obtain ⟨rfl, rfl⟩ := pairL_inj (by omega) (by omega) (by omega) (by omega) e
      rw [Maps.atKey_put_same h.tidy.isMap hlit, hG.unique hH]
    · rw [Maps.has_put_other e] at hh
      rw [Maps.atKey_put_other e]
      exact h.val j t H hj ht hH hh
  · have hsame : (pairsL N n).filter (fun x => Maps.has (D.put (pairL i s) (.lit (.bool (sat ls G s)))) (pairL x.1 x.2)) = (pairsL N n).filter (fun x => Maps.has D (pairL x.1 x.2) || decide (x = (i, s))) := List.filter_congr fun x hx => by
      obtain ⟨hx1, hx2⟩ := pairs_lt hx
      by_cases e : x = (i, s)
      · subst e
        rw [Maps.has_put_same h.tidy.isMap hlit]
        simp
      · rw [decide_eq_false e, Bool.or_false, Maps.has_put_other]
        intro e2
        obtain ⟨e3, e4⟩ := pairL_inj (by omega) (by omega) (by omega) (by omega) e2
        exact e (Prod.ext e3 e4)
    rw [cntM, cntM, hsame]
    exact filter_more (p := fun x : Nat × Nat => Maps.has D (pairL x.1 x.2)) (x := (i, s)) hno (fun y => rfl) (pairs_nodup N n) (pairs_mem hi hs)

end Go.Proofs.Ytmciinikfjfegaa
