/- systems that are copied: Copy -/
import Derived.Test.YtonpdclccgpceaaRwG2
namespace Go.Proofs.Ytonpdclccgpceaa
open Go Go.RowKit
set_option maxHeartbeats 8000000

/-- append of what reads, be it nothing, to a row of one's own, at the operation -/
theorem app_opt {P : Program} {w : World} {o : Oper} {a : Act} {K : Act → World → Prop} {Q : Exit → Act → World → Prop} {s x : Operand} {t e : TypeId} {size bytes : Nat}
    (hT : SlT P t e size bytes) (ho : o.op = .call { callee := .builtin .append, args := #[s, x], argTypes := #[t, t] })
    {v : Value} {n : Nat} {xs : List Value} (hown : w.ownsRow 0 e size v n xs) (hs : a.eval s = v)
    {A : Option Addr} {B m c : Nat} {news : List Value} (hB : Rd w B size A m news) (hx : a.eval x = .slice A m c) (h1 : ∀ u ∈ news, u.oneCell' = true)
    (h63 : n + m ≤ maxLen) (hbytes : (n + m) * bytes ≤ 140737488355328)
    (h : ∀ v' w', w'.ownsRow 0 e size v' (n + m) (xs ++ news) → w.grownBy w' v.ownBlock → (v'.ownBlock = v.ownBlock ∨ v'.ownBlock = some w.heap.size) → K (a.put o.dst v') w') : o.wp P a w K Q := by
  cases A with
  | some ad => exact app_rdS hT ho hown hs hB hx h1 h63 hbytes h
  | none =>
    have hm : m = 0 := by
      rcases Nat.eq_zero_or_pos m with e | e
      · exact e
      · obtain ⟨_, _, e, _⟩ := hB.2 e
        cases e
    subst hm
    have hn : news = [] := List.eq_nil_of_length_eq_zero (by simpa using hB.1)
    subst hn
    obtain ⟨i, z, h2, h3, h4, h5, h6, h7, h8⟩ := hT
    obtain ⟨A', cap, rfl, hc, _⟩ := own_form hown
    have hr : (Builtin.append_ #[t, t] o.type #[.slice A' n cap, .slice none 0 c]).run P w = .ok (.slice A' n cap) w := by
      cases A' <;> simp [Builtin.append_, run_underlying h2, sizeOf, typeInfo, h3, Builtin.lenOf, Builtin.firstCells, hc, storeCells]
    unfold Oper.wp execOp
    simp only [ho, resolve, invoke, builtin, Sem.run_bind, Sem.run_pure, Result.andThen_ok, List.map_toArray, List.map_cons, List.map_nil, hs, hx, hr]
    exact h _ _ (by simpa using hown) ⟨rfl, rfl, rfl, Nat.le_refl _, fun _ _ _ => rfl⟩ (.inl rfl)
theorem slRow : SlT Try.prog 23 49 1 24 := SlT.of Try.underlying23 infoRow rfl (by decide)

/-- a row of arcs that is the caller's own, in a block from W on -/
def ArcOwn (w : World) (W bd : Nat) (u : Value) : Prop := ∃ (g n c : Nat) (l : List Arc), u = .slice (some ⟨g, 0, none⟩) n c ∧ w.ownsRow 0 55 2 u n (cellsOf Arc.cells l) ∧ n ≤ bd ∧ W ≤ g
theorem ArcOwn.out {w w' : World} {W bd : Nat} {u : Value} {R : Nat → Prop} (h : ArcOwn w W bd u) (hO : Outside R w w') (hR : ∀ g, u.ownBlock = some g → ¬ R g) : ArcOwn w' W bd u := by
  obtain ⟨g, n, c, l, e, h1, h2, h3⟩ := h
  exact ⟨g, n, c, l, e, own_out h1 hO hR, h2, h3⟩
theorem ArcOwn.lt {w : World} {W bd g : Nat} {u : Value} (h : ArcOwn w W bd u) (hg : u.ownBlock = some g) : g < w.heap.size := by
  obtain ⟨_, n, c, l, e, h1, h2, h3⟩ := h
  exact own_lt h1 hg
/-- rows of one's own in an outer row of one's own, each in a block of its own -/
structure RowsOwn (w : World) (W : Nat) (v : Value) (k bd : Nat) (xs : List Value) : Prop where
  own : w.ownsRow 0 49 1 v k xs
  base : ∀ g, v.ownBlock = some g → W ≤ g
  rows : ∀ (j : Nat) (u : Value), xs[j]? = some u → ArcOwn w W bd u
  apart : ∀ (j j' : Nat) (u u' : Value) (g : Nat), xs[j]? = some u → xs[j']? = some u' → j ≠ j' → u.ownBlock = some g → ¬ u'.ownBlock = some g
theorem RowsOwn.nil (w : World) (W bd : Nat) : RowsOwn w W (.slice none 0 0) 0 bd [] :=
  ⟨World.ownsRow_nil _ _ _ _, fun g hg => by simp [Value.ownBlock] at hg, fun j u h => by simp at h, fun j j' u u' g h => by simp at h⟩
theorem RowsOwn.out {w w' : World} {W k bd : Nat} {v : Value} {xs : List Value} {R : Nat → Prop} (h : RowsOwn w W v k bd xs) (hO : Outside R w w') (hR : ∀ g, W ≤ g → g < w.heap.size → ¬ R g) : RowsOwn w' W v k bd xs :=
  ⟨own_out h.own hO fun g hg => hR g (h.base g hg) (own_lt h.own hg), h.base, fun j u hu => by
    have h1 := h.rows j u hu
    obtain ⟨g, n, c, l, e, _, _, hW⟩ := h1
    exact (h.rows j u hu).out hO fun g' hg' => hR g' (by subst e; simp [Value.ownBlock] at hg'; omega) ((h.rows j u hu).lt hg'), h.apart⟩
/-- one row more -/
theorem RowsOwn.snoc {w w' : World} {W k bd : Nat} {v v' u : Value} {xs : List Value} (h : RowsOwn w W v k bd xs) (hown : w'.ownsRow 0 49 1 v' (k + 1) (xs ++ [u])) (hb : ∀ g, v'.ownBlock = some g → W ≤ g)
    (hO : Outside (fun k => v.ownBlock = some k) w w') (hu : ArcOwn w W bd u) (hne : ∀ (j : Nat) (u' : Value) (g : Nat), xs[j]? = some u' → u'.ownBlock = some g → ¬ u.ownBlock = some g) : RowsOwn w' W v' (k + 1) bd (xs ++ [u]) := by
  have hk : ∀ u', ArcOwn w W bd u' → ArcOwn w' W bd u' := fun u' h1 => h1.out hO fun g hg e => by
    obtain ⟨g', n, c, l, e', h2, _, _⟩ := h1
    exact own_apart_own h2 h.own (by decide) hg e
  refine ⟨hown, hb, fun j u' hu' => ?_, fun j j' u1 u2 g h1 h2 hjj hg => ?_⟩
  · by_cases hj : j < xs.length
    · rw [List.getElem?_append_left hj] at hu'
      exact hk _ (h.rows j u' hu')
    · rw [List.getElem?_append_right (by omega)] at hu'
      have : u' = u := by
        cases hjx : j - xs.length with
        | zero => rw [hjx] at hu'; simpa using hu'.symm
        | succ m => rw [hjx] at hu'; simp at hu'
      rw [this]
      exact hk _ hu
  · have key : ∀ j u', (xs ++ [u])[j]? = some u' → (j < xs.length ∧ xs[j]? = some u') ∨ (j = xs.length ∧ u' = u) := fun j u' hu' => by
      by_cases hj : j < xs.length
      · rw [List.getElem?_append_left hj] at hu'
        exact .inl ⟨hj, hu'⟩
      · rw [List.getElem?_append_right (by omega)] at hu'
        cases hjx : j - xs.length with
        | zero => rw [hjx] at hu'; exact .inr ⟨by omega, by simpa using hu'.symm⟩
        | succ m => rw [hjx] at hu'; simp at hu'
    rcases key j u1 h1 with ⟨a1, a2⟩ | ⟨a1, rfl⟩
    · rcases key j' u2 h2 with ⟨b1, b2⟩ | ⟨b1, rfl⟩
      · exact h.apart j j' u1 u2 g a2 b2 hjj hg
      · exact hne j u1 g a2 hg
    · rcases key j' u2 h2 with ⟨b1, b2⟩ | ⟨b1, rfl⟩
      · exact fun h3 => hne j' u2 g b2 h3 hg
      · omega

end Go.Proofs.Ytonpdclccgpceaa
