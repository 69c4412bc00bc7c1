/- what the texts on systems share: appends, numbers, strings of bytes, rows of one's own -/
import Derived.Test.YtmciinikfjfegaaRwMem
import Derived.Test.YtmciinikfjfegaaChecked
import Derived.Test.YtmciinikfjfegaaPlan2
import Derived.OwnWalk
import Derived.Laws.BytesString
import Derived.Lib.SlBytesRow
namespace Go.Proofs.Ytmciinikfjfegaa
open Go Go.RowKit
set_option maxHeartbeats 4000000

theorem appList_blk {P : Program} {ops : Array Oper} {rest : List Oper} {w : World} {o : Oper} {a : Act} {Q : Exit → Act → World → Prop} {s x : Operand} {t e : TypeId} {size bytes : Nat} (hgd : o.guard = none)
    (hT : SlT P t e size bytes) (ho : o.op = .call { callee := .builtin .append, args := #[s, x], argTypes := #[t, t] })
    {v : Value} {n : Nat} {xs : List Value} (hown : w.ownsRow 0 e size v n xs) (hs : a.eval s = v)
    {B m c : Nat} {news : List Value} (hB : Blk w B e news.toArray) (hx : a.eval x = .slice (some ⟨B, 0, none⟩) m c) (hl : news.length = m * size) (h1 : ∀ u ∈ news, u.oneCell' = true)
    (hm : 0 < m) (h63 : n + m ≤ maxLen) (hbytes : (n + m) * bytes ≤ 140737488355328)
    (h : ∀ g cap w', w'.ownsRow 0 e size (.slice (some ⟨g, 0, none⟩) (n + m) cap) (n + m) (xs ++ news) → w.grownBy w' v.ownBlock → (v.ownBlock = some g ∨ w.heap.size ≤ g) → wpList P ops Q rest (a.put o.dst (.slice (some ⟨g, 0, none⟩) (n + m) cap)) w') : wpList P ops Q (o :: rest) a w :=
  wpList_plain hgd fun _ hK => app_blk hT ho hown hs hB hx hl h1 hm h63 hbytes fun g cap w' h2 h3 h4 => hK _ _ (h g cap w' h2 h3 h4)

/-- append of what reads at a place, at the operation. -/
theorem app_rdS {P : Program} {w : World} {o : Oper} {a : Act} {K : Act → World → Prop} {Q : Exit → Act → World → Prop} {s x : Operand} {t e : TypeId} {size bytes : Nat}
    (hT : SlT P t e size bytes) (ho : o.op = .call { callee := .builtin .append, args := #[s, x], argTypes := #[t, t] })
    {v : Value} {n : Nat} {xs : List Value} (hown : w.ownsRow 0 e size v n xs) (hs : a.eval s = v)
    {ad : Addr} {B m c : Nat} {news : List Value} (hB : Rd w B size (some ad) m news) (hx : a.eval x = .slice (some ad) m c) (h1 : ∀ u ∈ news, u.oneCell' = true)
    (h63 : n + m ≤ maxLen) (hbytes : (n + m) * bytes ≤ 140737488355328)
    (h : ∀ v' w', w'.ownsRow 0 e size v' (n + m) (xs ++ news) → w.grownBy w' v.ownBlock → (v'.ownBlock = v.ownBlock ∨ v'.ownBlock = some w.heap.size) → K (a.put o.dst v') w') : o.wp P a w K Q := by
  obtain ⟨i, z, h2, h3, h4, h5, h6, h7, h8⟩ := hT
  have hnews : ∀ j u, news[j]? = some u → w.cell? (ad.add j) = some u := fun j u hu => by
    have hm : 0 < m := by
      have h0 := hB.1
      have := (List.getElem?_eq_some_iff.1 hu).1
      rcases Nat.eq_zero_or_pos m with e | e
      · rw [e] at h0; simp at h0; rw [h0] at this; simp at this
      · exact e
    obtain ⟨b, off, e, _, hc⟩ := hB.2 hm
    cases e
    rw [show (⟨b, off, none⟩ : Addr).add j = ⟨b, off + j, none⟩ from by simp [Addr.add]; try (intro h0; subst h0; rfl)]
    exact hc j u hu
  obtain ⟨v', w', hr, a1, a2, _, a3⟩ := run_append_own_at (P := P) w 0 t o.type e i z size bytes h2 h3 h4 h5 h6 h7 h8 v n xs hown ad m c news hB.1 hnews h1 h63 hbytes (Nat.zero_le _)
  unfold Oper.wp execOp
  simp only [ho, resolve, invoke, builtin, Sem.run_bind, Sem.run_pure, Result.andThen_ok, List.map_toArray, List.map_cons, List.map_nil, hs, hx, hr]
  exact h v' w' a1 a2 a3

theorem appList_rd {P : Program} {ops : Array Oper} {rest : List Oper} {w : World} {o : Oper} {a : Act} {Q : Exit → Act → World → Prop} {s x : Operand} {t e : TypeId} {size bytes : Nat} (hgd : o.guard = none)
    (hT : SlT P t e size bytes) (ho : o.op = .call { callee := .builtin .append, args := #[s, x], argTypes := #[t, t] })
    {v : Value} {n : Nat} {xs : List Value} (hown : w.ownsRow 0 e size v n xs) (hs : a.eval s = v)
    {ad : Addr} {B m c : Nat} {news : List Value} (hB : Rd w B size (some ad) m news) (hx : a.eval x = .slice (some ad) m c) (h1 : ∀ u ∈ news, u.oneCell' = true)
    (h63 : n + m ≤ maxLen) (hbytes : (n + m) * bytes ≤ 140737488355328)
    (h : ∀ v' w', w'.ownsRow 0 e size v' (n + m) (xs ++ news) → w.grownBy w' v.ownBlock → (v'.ownBlock = v.ownBlock ∨ v'.ownBlock = some w.heap.size) → wpList P ops Q rest (a.put o.dst v') w') : wpList P ops Q (o :: rest) a w :=
  wpList_plain hgd fun _ hK => app_rdS hT ho hown hs hB hx h1 h63 hbytes fun v' w' h2 h3 h4 => hK _ _ (h v' w' h2 h3 h4)

theorem infoInt : (Try.prog.info? 3).map (fun i => (i.zero, i.size, i.bytes)) = some (some (.int .i64 0), 1, 8) := by kernel_rfl
theorem wpList_makeX {P : Program} (w : World) {ops : Array Oper} {rest : List Oper} {o : Oper} {a : Act} {Q : Exit → Act → World → Prop} (hg : o.guard = none) (l c : Operand) (t : TypeId) (hop : o.op = Op.makeSlice t l c)
    (e : TypeId) (i : TypeInfo) (z : Value) (h1 : P.underlying t = some (.slice e)) (h2 : P.info? e = some i) (h3 : i.zero = some z) (h4 : i.size = 1)
    (kl kc : IntKind) (n : Nat) (hl : a.eval l = .int kl n) (hc : a.eval c = .int kc n) (b2 : i.bytes * n ≤ 281474976710656) (b3 : n ≤ 1000000000)
    (hK : wpList P ops Q rest (a.put o.dst (.slice (some ⟨w.heap.size, 0, none⟩) n n)) (w.alloc (.cells (madeCells z.cells n) e))) : wpList P ops Q (o :: rest) a w := by
  refine wpList_plain hg fun K hK' => ?_
  have hb : (i.bytes : Int) * (n : Int) ≤ 281474976710656 := by
    have : ((i.bytes * n : Nat) : Int) ≤ 281474976710656 := by omega
    rwa [Int.natCast_mul] at this
  have hrun := run_make (P := P) w t e i z h1 h2 h3 kl kc n n (by omega) (by omega) hb (by omega)
  rw [h4] at hrun
  simp only [Int.toNat_natCast, Nat.mul_one] at hrun
  unfold Oper.wp
  simp [execOp, hop, hl, hc, hrun, Result.andThen]
  exact hK' _ _ hK

theorem slInt : SlT Try.prog 29 3 1 8 := SlT.of Try.underlying29 infoInt rfl (by decide)
def ncell (b : Nat) : List Value := [.int .i64 b]
theorem ncell_len (b : Nat) : (ncell b).length = 1 := rfl

theorem Rd.nat {w : World} {B n : Nat} {A : Option Addr} {l : List Nat} (h : Rd w B 1 A n (cellsOf ncell l)) {i : Nat} (hi : i < n) :
    ∃ b off t, A = some ⟨b, off, none⟩ ∧ b < B ∧ l[i]? = some t ∧ w.cell? ⟨b, off + i, none⟩ = some (.int .i64 (t : Nat)) := by
  obtain ⟨b, off, t, e, hb, hl, hc⟩ := h.at_ ncell_len (by decide) hi
  refine ⟨b, off, t, e, hb, hl, ?_⟩
  have := hc 0 _ rfl
  simpa using this

theorem nat_cells (l : List Nat) : cellsOf ncell l = cellsOf icell (l.map fun x : Nat => (x : Int)) := by
  induction l with
  | nil => rfl
  | cons a l ih =>
    simp only [cellsOf, List.flatMap_cons, List.map_cons] at ih ⊢
    rw [ih]
    rfl

/-- the string of bytes -/
def strN (l : List Nat) : ByteArray := strOfNums (l.map fun (x : Nat) => (x : Int))
theorem conv_any {B n c : Nat} {ad : Addr} {l : List Nat} (w : World) (h : Rd w B 1 (some ad) n (cellsOf ucell l)) (h0 : 0 < n) :
    (convert 129 9 (.slice (some ad) n c)).run Try.prog w = .ok (.string (strN l)) w := by
  have hl := h.len ucell_len (by decide)
  obtain ⟨b, o, e, _, hc⟩ := h.2 h0
  cases e
  refine run_convert_bytes_arg (P := Try.prog) w 129 5 Try.underlying129 Try.underlying5 b o n c (l.map fun (x : Nat) => (x : Int)) (by simp [hl]) (fun i hi => ?_) 9 Try.underlying9
  have hi2 : i < l.length := by omega
  rw [hc i (.int .u8 (l[i] : Nat)) (by
    have := cellsOf_get ucell_len l i 0 (by decide)
    simp only [Nat.mul_one, Nat.add_zero] at this
    rw [this, List.getElem?_eq_getElem hi2]
    rfl)]
  simp [List.getD, hi2]

theorem strN_data (l : List Nat) : (strN l).data.toList = l.map fun n => UInt8.ofNat n := by
  rw [strN, strOfNums_data, List.map_map]
  apply List.map_congr_left
  intro n _
  simp
theorem strN_inj {l l' : List Nat} (h1 : ∀ b ∈ l, b < 256) (h2 : ∀ b ∈ l', b < 256) (h : strN l = strN l') : l = l' := by
  have e : (strN l).data.toList = (strN l').data.toList := by rw [h]
  rw [strN_data, strN_data] at e
  have back : ∀ l : List Nat, (∀ b ∈ l, b < 256) → (l.map fun n => UInt8.ofNat n).map UInt8.toNat = l := fun l h => by
    rw [List.map_map]
    conv => rhs; rw [← List.map_id l]
    apply List.map_congr_left
    intro n hn
    have := h n hn
    simp
    omega
  rw [← back l h1, e, back l' h2]
theorem strN_eq {l l' : List Nat} (h1 : ∀ b ∈ l, b < 256) (h2 : ∀ b ∈ l', b < 256) : (strN l = strN l') ↔ l = l' := ⟨strN_inj h1 h2, fun h => by rw [h]⟩

/-- rows that were read, in an outer row of one's own, in blocks from W on -/
structure RowsX (w : World) (W : Nat) (v : Value) (k : Nat) (xs : List Value) (ls : List (List Arc)) : Prop where
  own : w.ownsRow 0 24 1 v k xs
  base : ∀ g, v.ownBlock = some g → W ≤ g
  len : ls.length = k
  rows : ∀ (j : Nat) (l : List Arc), ls[j]? = some l → ∃ u, xs[j]? = some u ∧ w.ownsRow 0 23 2 u l.length (cellsOf Arc.cells l) ∧ ∀ g, u.ownBlock = some g → W ≤ g
section
variable {w w' : World} {W k : Nat} {v v' u : Value} {xs : List Value} {ls : List (List Arc)} {R : Nat → Prop}
theorem RowsX.nil (w : World) (W : Nat) : RowsX w W (.slice none 0 0) 0 [] [] := ⟨World.ownsRow_nil _ _ _ _, fun g hg => by simp [Value.ownBlock] at hg, rfl, fun j l h => by simp at h⟩
theorem RowsX.out (h : RowsX w W v k xs ls) (hO : Outside R w w') (hR : ∀ g, W ≤ g → g < w.heap.size → ¬ R g) : RowsX w' W v k xs ls :=
  ⟨own_out h.own hO fun g hg => hR g (h.base g hg) (own_lt h.own hg), h.base, h.len, fun j l hl => by
    obtain ⟨u, h1, h2, h3⟩ := h.rows j l hl
    exact ⟨u, h1, own_out h2 hO fun g hg => hR g (h3 g hg) (own_lt h2 hg), h3⟩⟩
/-- one row more -/
theorem RowsX.snoc {l : List Arc} (h : RowsX w W v k xs ls) (hown : w'.ownsRow 0 24 1 v' (k + 1) (xs ++ [u])) (hb : ∀ g, v'.ownBlock = some g → W ≤ g)
    (hO : Outside (fun k => v.ownBlock = some k) w w') (hu : w.ownsRow 0 23 2 u l.length (cellsOf Arc.cells l)) (hu2 : ∀ g, u.ownBlock = some g → W ≤ g) : RowsX w' W v' (k + 1) (xs ++ [u]) (ls ++ [l]) := by
  have hk : ∀ (u' : Value) (l' : List Arc), w.ownsRow 0 23 2 u' l'.length (cellsOf Arc.cells l') → w'.ownsRow 0 23 2 u' l'.length (cellsOf Arc.cells l') := fun u' l' h1 =>
    own_out h1 hO fun g hg e => own_apart_own h1 h.own (by decide) hg e
  have hx : xs.length = k := by have := h.own.1; omega
  refine ⟨hown, hb, by rw [List.length_append, h.len]; rfl, fun j l' hl => ?_⟩
  by_cases hj : j < ls.length
  · rw [List.getElem?_append_left hj] at hl
    obtain ⟨u', h1, h2, h3⟩ := h.rows j l' hl
    exact ⟨u', by rw [List.getElem?_append_left (by rw [hx, ← h.len]; exact hj)]; exact h1, hk _ _ h2, h3⟩
  · have hjk : j = k := by
      have := (List.getElem?_eq_some_iff.1 hl).1
      rw [List.length_append, h.len, List.length_singleton] at this
      rw [h.len] at hj
      omega
    subst hjk
    rw [List.getElem?_append_right (by rw [h.len]; exact Nat.le_refl _), h.len, Nat.sub_self] at hl
    cases hl
    refine ⟨u, ?_, hk _ _ hu, hu2⟩
    rw [List.getElem?_append_right (by rw [hx]; exact Nat.le_refl _), hx, Nat.sub_self]
    rfl
theorem RowsX.whole {A : Option Addr} {c : Nat} (h : RowsX w W (.slice A k c) k xs ls) : RdL w w.heap.size A k ls := by
  refine ⟨xs, Rd.ofOwn h.own, h.len, fun j l hl => ?_⟩
  obtain ⟨u, h1, h2, _⟩ := h.rows j l hl
  obtain ⟨A', c', rfl, _, _⟩ := own_form h2
  exact ⟨A', l.length, c', h1, Rd.ofOwn h2⟩
end

end Go.Proofs.Ytmciinikfjfegaa
