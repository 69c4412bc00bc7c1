/- Laws at operations that the kit lacks: the builtin clear on a row of one's own; a slice cut short. No program stands in it. -/
import Derived.Test.YtgfhkaamkodpjaaDoorMem
namespace Go.Proofs.YtgfhkaamkodpjaaDoor
open Go Go.RowKit

theorem zeroCells_len (z : Array Value) (n : Nat) : (Builtin.zeroCells z n).toList.length = n * z.size := by simp [Builtin.zeroCells]
theorem zeroCells_mem (z : Array Value) (n : Nat) (hz : ∀ v ∈ z.toList, v.oneCell' = true) : ∀ v ∈ (Builtin.zeroCells z n).toList, v.oneCell' = true := by
  intro v hv
  simp only [Builtin.zeroCells, Array.toList_map, List.mem_map, Array.toList_range, List.mem_range] at hv
  obtain ⟨i, hi, rfl⟩ := hv
  have hz0 : 0 < z.size := by
    rcases Nat.eq_zero_or_pos z.size with h | h
    · rw [h] at hi; omega
    · exact h
  have hlt : i % z.size < z.size := Nat.mod_lt _ hz0
  rw [getElem!_pos z _ hlt]
  exact hz _ (by simp)

theorem ones_of {P : Program} {e : TypeId} {z0 : Value} {size bytes : Nat} (h : (P.info? e).map (fun i => (i.zero, i.size, i.bytes)) = some (some z0, size, bytes)) (hz : ∀ v ∈ z0.cells.toList, v.oneCell' = true) :
    ∀ i z, P.info? e = some i → i.zero = some z → ∀ v ∈ z.cells.toList, v.oneCell' = true := by
  intro i z h1 h2
  rw [h1] at h
  simp only [Option.map_some, Option.some.injEq, Prod.mk.injEq] at h
  rw [h2] at h
  obtain rfl := Option.some.inj h.1
  exact hz

/-- clear(s[i:]) of a slice of one's own: what lies ahead of i is left. -/
theorem clear_own {P : Program} {w : World} {o : Oper} {a : Act} {K : Act → World → Prop} {Q : Exit → Act → World → Prop} {x : Operand} {t e : TypeId} {size bytes : Nat}
    (hT : SlT P t e size bytes) (ho : o.op = .call { callee := .builtin .clear, args := #[x], argTypes := #[t] }) (hdst : o.dst = none)
    (hz : ∀ i z, P.info? e = some i → i.zero = some z → ∀ v ∈ z.cells.toList, v.oneCell' = true)
    {g n cap i m c : Nat} {xs : List Value} (hown : w.ownsRow 0 e size (.slice (some ⟨g, 0, none⟩) n cap) n xs) (hx : a.eval x = .slice (some ⟨g, i * size, none⟩) m c) (hm : 0 < m) (him : i + m ≤ n)
    (h : ∀ w', w'.ownsRow 0 e size (.slice (some ⟨g, 0, none⟩) i cap) i (xs.take (i * size)) → w.grownBy w' (some g) → K a w') : o.wp P a w K Q := by
  obtain ⟨inf, z, h2, h3, h4, h5, h6, h7, h8⟩ := hT
  rcases hown.2 with ⟨h', _⟩ | ⟨g', cap', cur, h', hb, hg, hnc, hcm, hcs, htake⟩
  · simp at h'
  · simp only [Value.slice.injEq, Option.some.injEq, Addr.mk.injEq, and_true, true_and] at h'
    obtain ⟨rfl, rfl⟩ := h'
    have hzc := zeroCells_mem z.cells m (hz inf z h3 h4)
    have hzl := zeroCells_len z.cells m
    rw [h7] at hzl
    have hle : i * size + m * size ≤ cap * size := by rw [← Nat.add_mul]; exact Nat.mul_le_mul_right _ (by omega)
    have hst := run_storeCells_at P g (i * size) e (Builtin.zeroCells z.cells m).toList 0 cur w hg (by rw [hzl, hcs]; omega) hzc
    have hrun : (Builtin.clear_ #[t] o.type #[.slice (some ⟨g, i * size, none⟩) m c]).run P w = .ok (.tuple #[]) (w.setRow g (cur.toList.take (i * size + 0) ++ (Builtin.zeroCells z.cells m).toList ++ cur.toList.drop (i * size + 0 + (Builtin.zeroCells z.cells m).toList.length)).toArray) := by
      obtain ⟨m', rfl⟩ : ∃ m', m = m' + 1 := ⟨m - 1, by omega⟩
      simp [Builtin.clear_, run_underlying h2, zeroValue, typeInfo, h3, h4, hst]
    unfold Oper.wp execOp
    simp only [ho, resolve, invoke, builtin, Sem.run_bind, Sem.run_pure, Result.andThen_ok, List.map_toArray, List.map_cons, List.map_nil, hx, hrun]
    show K (a.put o.dst _) _
    rw [hdst]
    refine h _ ⟨by rw [List.length_take, hown.1]; exact Nat.min_eq_left (Nat.mul_le_mul_right _ (by omega)), .inr ⟨g, cap, _, rfl, Nat.zero_le _, setRow_heap w g cur _ e (0, 0) hg, by omega, hcm, ?_, ?_⟩⟩ ⟨rfl, rfl, rfl, by simp, fun k _ hk => setRow_other w g k _ (fun e => hk (by rw [e]))⟩
    · simp only [List.size_toArray, List.length_append, List.length_take, List.length_drop, Array.length_toList, hzl, hcs]
      omega
    · rw [← htake, List.take_take, Nat.min_eq_left (Nat.mul_le_mul_right _ (by omega)), Nat.add_zero]
      simp only [List.append_assoc]
      rw [List.take_append_of_le_length (by rw [List.length_take, Array.length_toList, hcs]; omega), List.take_take, Nat.min_self]

theorem own_cap {w : World} {base : Nat} {e : TypeId} {size n n' cap : Nat} {A : Option Addr} {xs : List Value} (h : w.ownsRow base e size (.slice A n' cap) n xs) : n ≤ cap := by
  obtain ⟨A', cap', hv, hle, _⟩ := own_form h
  injection hv with _ _ h3
  omega

/-- a slice of one's own, cut short -/
theorem own_cut {w : World} {base : Nat} {e : TypeId} {size g cap n k : Nat} {xs : List Value} (h : w.ownsRow base e size (.slice (some ⟨g, 0, none⟩) n cap) n xs) (hk : k ≤ n) :
    w.ownsRow base e size (.slice (some ⟨g, 0, none⟩) k cap) k (xs.take (k * size)) := by
  obtain ⟨h1, h2⟩ := h
  rcases h2 with ⟨h0, _⟩ | ⟨g', cap', cur, hv, hg, hh, hn, hcap, hsz, htake⟩
  · cases h0
  · cases hv
    refine ⟨by rw [List.length_take, h1]; exact Nat.min_eq_left (Nat.mul_le_mul_right _ hk), .inr ⟨g, cap, cur, rfl, hg, hh, by omega, hcap, hsz, ?_⟩⟩
    rw [← htake, List.take_take, Nat.min_eq_left (Nat.mul_le_mul_right _ hk)]

/-- element i of a row of one's own is written over: two cells -/
theorem own_set2 {w : World} {base : Nat} {e : TypeId} {g cap n : Nat} {xs : List Value} (h : w.ownsRow base e 2 (.slice (some ⟨g, 0, none⟩) n cap) n xs) (i : Nat) (u v : Value) :
    ((w.setCell ⟨g, i * 2, none⟩ u).setCell ⟨g, i * 2 + 1, none⟩ v).ownsRow base e 2 (.slice (some ⟨g, 0, none⟩) n cap) n ((xs.set (i * 2) u).set (i * 2 + 1) v) :=
  (((h.stored (i * 2) u).1).stored (i * 2 + 1) v).1

theorem cellsOf_set {α : Type} {enc : α → List Value} {k : Nat} (hk : ∀ x, (enc x).length = k) (l : List α) (i : Nat) (x : α) (hi : i < l.length) :
    cellsOf enc (l.set i x) = (cellsOf enc l).take (i * k) ++ enc x ++ (cellsOf enc l).drop ((i + 1) * k) := by
  induction l generalizing i with
  | nil => simp at hi
  | cons y l ih =>
    cases i with
    | zero =>
      show enc x ++ cellsOf enc l = (enc y ++ cellsOf enc l).take (0 * k) ++ enc x ++ (enc y ++ cellsOf enc l).drop ((0 + 1) * k)
      rw [Nat.zero_mul, List.take_zero, List.nil_append, Nat.zero_add, Nat.one_mul, List.drop_left' (hk y)]
    | succ i =>
      show enc y ++ cellsOf enc (l.set i x) = (enc y ++ cellsOf enc l).take ((i + 1) * k) ++ enc x ++ (enc y ++ cellsOf enc l).drop ((i + 1 + 1) * k)
      rw [ih i (by simpa using hi), Nat.succ_mul i, Nat.add_comm (i * k) k, ← hk y, List.take_length_add_append, Nat.succ_mul (i + 1), Nat.add_comm ((i + 1) * (enc y).length), List.drop_length_add_append]
      simp [List.append_assoc]
      rw [Nat.succ_mul, Nat.add_comm]

end Go.Proofs.YtgfhkaamkodpjaaDoor
