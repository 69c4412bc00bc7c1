/- systems that are spoiled: plain laws -/
import Derived.Test.YtonpdclccgpceaaRwG4
namespace Go.Proofs.Ytonpdclccgpceaa
open Go Go.RowKit
set_option maxHeartbeats 4000000

theorem rows_of {w : World} {B bd : Nat} (vs : List Value) (hr : ∀ (j : Nat) (v : Value), vs[j]? = some v → ∃ (A' : Option Addr) (n' c' : Nat) (l : List Arc), v = .slice A' n' c' ∧ n' ≤ bd ∧ Rd w B 2 A' n' (cellsOf Arc.cells l)) :
    ∃ ls : List (List Arc), ls.length = vs.length ∧ (∀ (i : Nat) (l : List Arc), ls[i]? = some l → ∃ (A' : Option Addr) (n' c' : Nat), vs[i]? = some (Value.slice A' n' c') ∧ Rd w B 2 A' n' (cellsOf Arc.cells l)) ∧ ∀ l ∈ ls, l.length ≤ bd := by
  induction vs with
  | nil => exact ⟨[], rfl, fun i l hl => by simp at hl, fun l hl => by cases hl⟩
  | cons v vs ih =>
    obtain ⟨ls, h1, h2, h3⟩ := ih fun j v hv => hr (j + 1) v (by simpa using hv)
    obtain ⟨A', n', c', l, rfl, hn, hR⟩ := hr 0 v rfl
    refine ⟨l :: ls, by simp [h1], fun i l' hl => ?_, fun l' hl => ?_⟩
    · cases i with
      | zero =>
        have : l = l' := by simpa using hl
        subst this
        exact ⟨A', n', c', rfl, hR⟩
      | succ i => exact h2 i l' (by simpa using hl)
    · rcases List.mem_cons.1 hl with rfl | hl
      · rw [hR.len Arc.cells_len (by decide)]; exact hn
      · exact h3 l' hl
theorem rdL_of {w : World} {B n bd : Nat} {A : Option Addr} {vs : List Value} (h : Rd w B 1 A n vs) (hr : ∀ (j : Nat) (v : Value), vs[j]? = some v → ∃ (A' : Option Addr) (n' c' : Nat) (l : List Arc), v = .slice A' n' c' ∧ n' ≤ bd ∧ Rd w B 2 A' n' (cellsOf Arc.cells l)) :
    ∃ ls, RdL w B A n ls ∧ ∀ l ∈ ls, l.length ≤ bd := by
  obtain ⟨ls, h1, h2, h3⟩ := rows_of vs hr
  have := h.1
  exact ⟨ls, ⟨vs, h, by omega, h2⟩, h3⟩

theorem RowsOwn.whole {w : World} {W m bd c : Nat} {A : Option Addr} {xs : List Value} (h : RowsOwn w W (.slice A m c) m bd xs) : ∃ ls, RdL w w.heap.size A m ls ∧ ∀ l ∈ ls, l.length ≤ bd :=
  rdL_of (Rd.ofOwn h.own) fun j v hv => by
    obtain ⟨g, n, c, l, rfl, h1, h2, _⟩ := h.rows j v hv
    exact ⟨_, n, c, l, rfl, h2, Rd.ofOwn h1⟩
theorem RowsOwn.at_ {w : World} {W m bd : Nat} {v : Value} {xs : List Value} (h : RowsOwn w W v m bd xs) (hm : 0 < m) :
    ∃ (gq cq : Nat) (cur : Array Value), v = .slice (some ⟨gq, 0, none⟩) m cq ∧ Blk w gq 49 cur ∧ m ≤ cq ∧ m ≤ cur.size ∧ W ≤ gq := by
  have hb := h.base
  rcases h.own.2 with ⟨rfl, e⟩ | ⟨g', cap, cur, rfl, _, hh, hn, hm, hsz, _⟩
  · omega
  · exact ⟨g', cap, cur, rfl, hh, hn, by omega, hb g' rfl⟩
theorem RowsOwn.cellAt {w : World} {W m bd gq cq s : Nat} {xs : List Value} (h : RowsOwn w W (.slice (some ⟨gq, 0, none⟩) m cq) m bd xs) (hs : s < m) :
    ∃ (g n c : Nat) (l : List Arc), xs[s]? = some (.slice (some ⟨g, 0, none⟩) n c) ∧ w.cell? ⟨gq, s, none⟩ = some (.slice (some ⟨g, 0, none⟩) n c) ∧ w.ownsRow 0 55 2 (.slice (some ⟨g, 0, none⟩) n c) n (cellsOf Arc.cells l) ∧ n ≤ bd ∧ W ≤ g := by
  have hl : s < xs.length := by have := h.own.1; omega
  obtain ⟨g, n, c, l, e, h1, h2, h3⟩ := h.rows s _ (List.getElem?_eq_getElem hl)
  obtain ⟨b, o, e2, _, hc⟩ := (Rd.ofOwn h.own).2 (by omega)
  cases e2
  have hx : xs[s]? = some (.slice (some ⟨g, 0, none⟩) n c) := by rw [List.getElem?_eq_getElem hl, e]
  have h4 := hc s _ hx
  rw [Nat.zero_add] at h4
  rw [e] at h1
  exact ⟨g, n, c, l, hx, h4, h1, h2, h3⟩
/-- one row is another one now -/
theorem RowsOwn.spoil {w w' w'' : World} {W m bd bd' gq cq s n' t4 : Nat} {xs : List Value} {u v' : Value} {l' : List Arc} (h : RowsOwn w W (.slice (some ⟨gq, 0, none⟩) m cq) m bd xs) (hu : xs[s]? = some u)
    (hO : Outside (fun k => u.ownBlock = some k) w w') (hv : w'.ownsRow 0 55 2 v' n' (cellsOf Arc.cells l')) (hn : n' ≤ bd') (hbd : bd ≤ bd') (hO2 : Outside (fun k => k = t4) (w'.setCell ⟨gq, s, none⟩ v') w'') (h4 : t4 < W) (hv4 : v'.ownBlock ≠ some t4) :
    ∃ ls, RdL w'' w''.heap.size (some ⟨gq, 0, none⟩) m ls ∧ ∀ l ∈ ls, l.length ≤ bd' := by
  obtain ⟨g, n, c, l, e, h1, h2, h3⟩ := h.rows s u hu
  have hq : w'.ownsRow 0 49 1 (.slice (some ⟨gq, 0, none⟩) m cq) m xs := own_out h.own hO fun k hk => own_apart_own h.own h1 (by decide) hk
  have hs := own_out (hq.stored s v').1 hO2 (fun k hk e => by have := h.base k hk; omega)
  refine rdL_of (Rd.ofOwn hs) fun j v hj => ?_
  rw [List.getElem?_set] at hj
  split at hj
  · split at hj
    · cases hj
      obtain ⟨A', cap, rfl, _, _⟩ := own_form hv
      have := own_setCell hv (p := ⟨gq, s, none⟩) (own_apart_own hq hv (by decide) rfl) (.slice A' n' cap)
      exact ⟨A', n', cap, l', rfl, hn, Rd.ofOwn (own_out this hO2 (fun k hk e => hv4 (e ▸ hk)))⟩
    · cases hj
  · rename_i hne
    obtain ⟨g2, n2, c2, l2, e2, k1, k2, k3⟩ := h.rows j v hj
    have h5 : w'.ownsRow 0 55 2 v n2 (cellsOf Arc.cells l2) := own_out k1 hO fun k hk hk2 => h.apart j s v u k hj hu (fun e => hne e.symm) hk hk2
    have h6 := own_out (own_setCell h5 (p := ⟨gq, s, none⟩) (own_apart_own hq h5 (by decide) rfl) v') hO2 (fun k hk e => by subst e2; simp [Value.ownBlock] at hk; omega)
    subst e2
    exact ⟨_, n2, c2, l2, rfl, by omega, Rd.ofOwn h6⟩

theorem RowsOwn.out2 {w w' : World} {W k bd : Nat} {v : Value} {xs : List Value} {R : Nat → Prop} (h : RowsOwn w W v k bd xs) (hO : Outside R w w') (hq : ∀ g, v.ownBlock = some g → ¬ R g) (hr : ∀ (j : Nat) (u : Value) (g : Nat), xs[j]? = some u → u.ownBlock = some g → ¬ R g) : RowsOwn w' W v k bd xs :=
  ⟨own_out h.own hO hq, h.base, fun j u hu => (h.rows j u hu).out hO fun g hg => hr j u g hu hg, h.apart⟩
theorem RowsOwn.lts {w : World} {W k bd : Nat} {v : Value} {xs : List Value} (h : RowsOwn w W v k bd xs) : (∀ g, v.ownBlock = some g → g < w.heap.size) ∧ ∀ (j : Nat) (u : Value) (g : Nat), xs[j]? = some u → u.ownBlock = some g → g < w.heap.size :=
  ⟨fun _ hg => own_lt h.own hg, fun j u _ hu hg => (h.rows j u hu).lt hg⟩
theorem own_at {w : World} {e : TypeId} {size n g1 S : Nat} {v : Value} {xs : List Value} (h : w.ownsRow 0 e size v n xs) (hat : v.ownBlock = some g1 ∨ v.ownBlock = some S) : ∃ g c, v = .slice (some ⟨g, 0, none⟩) n c ∧ (g = g1 ∨ g = S) := by
  rcases h.2 with ⟨rfl, _⟩ | ⟨g', cap, cr, rfl, _⟩
  · rcases hat with h | h <;> simp [Value.ownBlock] at h
  · exact ⟨g', cap, rfl, by simpa [Value.ownBlock] using hat⟩
theorem arc_snoc (l : List Arc) (a : Arc) : cellsOf Arc.cells l ++ a.cells = cellsOf Arc.cells (l ++ [a]) := by
  rw [cellsOf_append]
  simp [cellsOf]

end Go.Proofs.Ytonpdclccgpceaa
