/-
  Words for memory that the walks of this seat share: a frame ('Outside'), a block that is known whole ('Blk'), a slice that reads as a list of cells ('Rd'). No program stands in it.
-/
import Derived.WalkKit
import Derived.WalkSpells
import Derived.WalkLawsBesides
import Derived.Deep.AppendLies
import Derived.Deep.Draws
import Derived.Deep.QuietTactic
import Derived.Deep.RegionHeld3
import Derived.BigQuiet
import Derived.Maps.AppendAt
import Derived.Lib.Hide
import Derived.WalkSmall
import Derived.Deep.RegionLaw
import Derived.Deep.RegionWith
namespace Go.Proofs.YtlblaopkmigheaaGreatDoor
open Go Go.RowKit

theorem heap_alloc_at {w : World} {o : Obj} {k : Nat} (hk : k = w.heap.size) : (w.alloc o).heap[k]? = some o := by
  subst hk
  exact heap_alloc_new w o

theorem ret_bool {a b : Bool} (h : a = b) : Ending.returned (.bool a) = .returned (.bool b) := by rw [h]
theorem ret_int {k : IntKind} {a b : Int} (h : a = b) : Ending.returned (.int k a) = .returned (.int k b) := by rw [h]
theorem ret_str {a b : ByteArray} (h : a = b) : Ending.returned (.string a) = .returned (.string b) := by rw [h]

theorem bget (s : ByteArray) (k : Nat) (h : k < s.size) : s.data.toList[k]? = some s[k] := by
  have h' : k < s.data.toList.length := by simpa using h
  rw [List.getElem?_eq_getElem h']
  rfl
theorem str_eq {a b : ByteArray} (h : (a.toList == b.toList) = true) : a = b := by
  rw [ByteArray.toList_eq, ByteArray.toList_eq] at h
  obtain ⟨a⟩ := a
  obtain ⟨b⟩ := b
  exact congrArg _ (Array.toList_inj.1 (by simpa using h))
theorem str_ne {a b : ByteArray} (h : (a.toList == b.toList) = false) : a ≠ b := by
  rintro rfl
  simp at h
theorem blen (s : ByteArray) : s.data.toList.length = s.size := by simp
theorem takeWhile_len {α : Type} (p : α → Bool) : ∀ (l : List α) (k : Nat), k ≤ l.length → (∀ j x, j < k → l[j]? = some x → p x = true) → (∀ x, l[k]? = some x → p x = false) → (l.takeWhile p).length = k
  | [], k, hk, _, _ => by simp at hk; simp [hk]
  | x :: l, 0, _, _, h2 => by rw [List.takeWhile_cons, h2 x rfl]; rfl
  | x :: l, k + 1, hk, h1, h2 => by
    rw [List.takeWhile_cons, h1 0 x (by omega) rfl]
    simp only [if_true, List.length_cons]
    rw [takeWhile_len p l k (by simpa using hk) (fun j y hj hy => h1 (j + 1) y (by omega) (by simpa using hy)) (fun y hy => h2 y (by simpa using hy))]

/-- Of what was there, nothing outside of R has turned. -/
structure Outside (R : Nat → Prop) (w w' : World) : Prop where
  os : w'.os = w.os
  tape : w'.tape = w.tape
  output : w'.output = w.output
  size : w.heap.size ≤ w'.heap.size
  block : ∀ k, k < w.heap.size → ¬ R k → w'.heap[k]? = w.heap[k]?

section
variable {R R' : Nat → Prop} {w w' a b c : World}

theorem Outside.refl (R : Nat → Prop) (w : World) : Outside R w w := ⟨rfl, rfl, rfl, Nat.le_refl _, fun _ _ _ => rfl⟩
theorem Outside.trans (h : Outside R a b) (k : Outside R b c) : Outside R a c :=
  ⟨k.os.trans h.os, k.tape.trans h.tape, k.output.trans h.output, Nat.le_trans h.size k.size,
    fun i hi hr => (k.block i (Nat.lt_of_lt_of_le hi h.size) hr).trans (h.block i hi hr)⟩
theorem Outside.mono (h : Outside R a b) (hr : ∀ k, k < a.heap.size → R k → R' k) : Outside R' a b :=
  ⟨h.os, h.tape, h.output, h.size, fun k hk hn => h.block k hk (fun hk' => hn (hr k hk hk'))⟩
theorem Outside.drewN (h : Outside R a b) (n : Nat) : Outside R a (b.drewN n) := ⟨h.os, h.tape, h.output, h.size, h.block⟩
theorem Outside.drew (h : Outside R a b) : Outside R a b.drew := ⟨h.os, h.tape, h.output, h.size, h.block⟩
theorem Outside.alloc (h : Outside R a b) (o : Obj) : Outside R a (b.alloc o) :=
  ⟨h.os, h.tape, h.output, Nat.le_trans h.size (by simp), fun k hk hr => (Below.heap_alloc b o k (Nat.lt_of_lt_of_le hk h.size)).trans (h.block k hk hr)⟩
theorem Outside.setCell (h : Outside R a b) {p : Addr} (hp : R p.block ∨ a.heap.size ≤ p.block) (u : Value) : Outside R a (b.setCell p u) :=
  ⟨h.os, h.tape, h.output, by simpa [World.setCell] using h.size, fun k hk hr => (Below.heap_setCell b p u k (by
    rintro rfl
    rcases hp with hp | hp
    · exact hr hp
    · omega)).trans (h.block k hk hr)⟩
theorem Outside.grown (h : Outside R a b) {row : Option Nat} (hg : b.grownBy c row) (hr : ∀ k, row = some k → R k ∨ a.heap.size ≤ k) : Outside R a c :=
  ⟨hg.os.trans h.os, hg.tape.trans h.tape, hg.output.trans h.output, Nat.le_trans h.size hg.size, fun k hk hn =>
    (hg.block k (Nat.lt_of_lt_of_le hk h.size) (fun e => by
      rcases hr k e.symm with h1 | h1
      · exact hn h1
      · omega)).trans (h.block k hk hn)⟩
theorem Outside.ofBelow {B : Nat} (h : Below B a b) (hr : ∀ k, B ≤ k → R k) : Outside R a b :=
  ⟨h.os, h.tape, h.output, h.size, fun k _ hn => h.block k (by
    rcases Nat.lt_or_ge k B with h1 | h1
    · exact h1
    · exact absurd (hr k h1) hn)⟩
theorem Outside.below {B : Nat} (h : Outside R a b) (hB : B ≤ a.heap.size) (hr : ∀ k, k < B → ¬ R k) : Below B a b :=
  ⟨h.os, h.tape, h.output, h.size, fun k hk => h.block k (by omega) (hr k hk)⟩
theorem Outside.cell (h : Outside R w w') {p : Addr} {v : Value} (hc : w.cell? p = some v) (hr : ¬ R p.block) : w'.cell? p = some v :=
  (World.cell?_of_block (w := w) (h.block p.block (World.block_lt_of_cell? w p hc) hr)).trans hc
/-- The boxes that a call lays lie outside of everything that was there. -/
theorem Below.new {w w' : World} (h : Below w.heap.size w w') : Outside (fun _ => False) w w' := ⟨h.os, h.tape, h.output, h.size, fun k hk _ => h.block k hk⟩
theorem Outside.toBelow (h : Outside (fun _ => False) a b) : Below a.heap.size a b := ⟨h.os, h.tape, h.output, h.size, fun k hk => h.block k hk (fun x => x)⟩
end

/-- Block g is just the cells cs, of element type t, none of them frozen. -/
def Blk (w : World) (g : Nat) (t : TypeId) (cs : Array Value) : Prop := w.heap[g]? = some (.cells cs t (0, 0))

section
variable {w w' : World} {g : Nat} {t : TypeId} {cs : Array Value} {R : Nat → Prop}
theorem Blk.lt (h : Blk w g t cs) : g < w.heap.size := (Array.getElem?_eq_some_iff.1 h).1
theorem Blk.cell (h : Blk w g t cs) (i : Nat) : w.cell? ⟨g, i, none⟩ = cs[i]? := cell_of_row w g i cs t (0, 0) h
theorem Blk.frozen (h : Blk w g t cs) (i : Nat) : w.frozen? ⟨g, i, none⟩ = false := by
  unfold Blk at h
  simp [World.frozen?, h]
theorem Blk.new (w : World) (t : TypeId) (cs : Array Value) : Blk (w.alloc (.cells cs t)) w.heap.size t cs := heap_alloc_new w _
theorem Blk.drewN (h : Blk w g t cs) (n : Nat) : Blk (w.drewN n) g t cs := h
theorem Blk.drew (h : Blk w g t cs) : Blk w.drew g t cs := h
theorem Blk.alloc (h : Blk w g t cs) (o : Obj) : Blk (w.alloc o) g t cs := (Below.heap_alloc w o g h.lt).trans h
theorem Blk.put (h : Blk w g t cs) (i : Nat) (u : Value) : Blk (w.setCell ⟨g, i, none⟩ u) g t (cs.setIfInBounds i u) := by
  unfold Blk at h ⊢
  simp [World.setCell, Array.getElem?_modify, h]
theorem Blk.far (h : Blk w g t cs) {p : Addr} (hp : g ≠ p.block) (u : Value) : Blk (w.setCell p u) g t cs := (Below.heap_setCell w p u g hp).trans h
theorem Blk.out (h : Blk w g t cs) (hb : Outside R w w') (hg : ¬ R g) : Blk w' g t cs := (hb.block g h.lt hg).trans h
theorem Blk.below {B : Nat} (h : Blk w g t cs) (hb : Below B w w') (hg : g < B) : Blk w' g t cs := (hb.block g hg).trans h
theorem Blk.grown {row : Option Nat} (h : Blk w g t cs) (hb : w.grownBy w' row) (hg : some g ≠ row) : Blk w' g t cs := (hb.block g h.lt hg).trans h
theorem Blk.apart {g' : Nat} {t' : TypeId} {cs' : Array Value} (h : Blk w g t cs) (h' : Blk w g' t' cs') (hne : t ≠ t') : g ≠ g' := by
  rintro rfl
  unfold Blk at h h'
  rw [h] at h'
  injection h' with h'
  injection h' with _ ht
  exact hne ht
end

section
variable {w w' : World} {base : Nat} {e : TypeId} {size n : Nat} {v : Value} {xs : List Value} {R : Nat → Prop}
/-- An owned row's block and a block of another element type are two. -/
theorem own_apart {g : Nat} {t : TypeId} {cs : Array Value} (h : w.ownsRow base e size v n xs) (hg : Blk w g t cs) (hne : e ≠ t) : v.ownBlock ≠ some g := by
  rcases h.2 with ⟨rfl, _⟩ | ⟨g', cap, cur, rfl, _, hh, _⟩
  · simp [Value.ownBlock]
  · intro he
    have : g' = g := by simpa [Value.ownBlock] using he
    subst this
    exact Blk.apart (t := e) hh hg hne rfl
theorem own_lt (h : w.ownsRow base e size v n xs) {g : Nat} (hg : v.ownBlock = some g) : g < w.heap.size := (h.lt g hg).2
theorem own_apart_own {base' : Nat} {e' : TypeId} {size' n' : Nat} {v' : Value} {xs' : List Value} (h : w.ownsRow base e size v n xs) (h' : w.ownsRow base' e' size' v' n' xs') (hne : e ≠ e') {g : Nat} (hg : v.ownBlock = some g) : v'.ownBlock ≠ some g := by
  rcases h.2 with ⟨rfl, _⟩ | ⟨g', cap, cur, rfl, _, hh, _⟩
  · simp [Value.ownBlock] at hg
  · have : g' = g := by simpa [Value.ownBlock] using hg
    subst this
    exact own_apart h' (t := e) (cs := cur) hh (Ne.symm hne)
theorem own_out (h : w.ownsRow base e size v n xs) (hb : Outside R w w') (hg : ∀ g, v.ownBlock = some g → ¬ R g) : w'.ownsRow base e size v n xs := by
  refine ⟨h.1, ?_⟩
  rcases h.2 with hn | ⟨g, cap, cur, rfl, hb', hgg, rest⟩
  · exact .inl hn
  · exact .inr ⟨g, cap, cur, rfl, hb', (hb.block g (Array.getElem?_eq_some_iff.1 hgg).1 (hg g rfl)).trans hgg, rest⟩
theorem own_setCell (h : w.ownsRow base e size v n xs) {p : Addr} (hp : v.ownBlock ≠ some p.block) (u : Value) : (w.setCell p u).ownsRow base e size v n xs := by
  refine ⟨h.1, ?_⟩
  rcases h.2 with hn | ⟨g, cap, cur, rfl, hb', hgg, rest⟩
  · exact .inl hn
  · exact .inr ⟨g, cap, cur, rfl, hb', (Below.heap_setCell w p u g (by rintro rfl; exact hp rfl)).trans hgg, rest⟩
theorem own_base {base' : Nat} (h : w.ownsRow base e size v n xs) (hb : ∀ g, v.ownBlock = some g → base' ≤ g) : w.ownsRow base' e size v n xs := by
  refine ⟨h.1, ?_⟩
  rcases h.2 with hn | ⟨g, cap, cur, rfl, _, rest⟩
  · exact .inl hn
  · exact .inr ⟨g, cap, cur, rfl, hb g rfl, rest⟩
/-- What an owned row is, seen from outside. -/
theorem own_form (h : w.ownsRow base e size v n xs) : ∃ (A : Option Addr) (cap : Nat), v = .slice A n cap ∧ n ≤ cap ∧ cap ≤ maxLen := by
  rcases h.2 with ⟨rfl, rfl⟩ | ⟨g, cap, cur, rfl, _, _, hn, hm, _⟩
  · exact ⟨none, 0, rfl, Nat.le_refl _, by simp [maxLen]⟩
  · exact ⟨_, cap, rfl, hn, hm⟩
end

/-- A slice type and its elements' row of the table. -/
def SlT (P : Program) (t e : TypeId) (size bytes : Nat) : Prop := ∃ i z, P.underlying t = some (.slice e) ∧ P.info? e = some i ∧ i.zero = some z ∧ i.size = size ∧ i.bytes = bytes ∧ z.cells.size = size ∧ 0 < size
theorem SlT.of {P : Program} {t e : TypeId} {z : Value} {size bytes : Nat} (h1 : P.underlying t = some (.slice e)) (h2 : (P.info? e).map (fun i => (i.zero, i.size, i.bytes)) = some (some z, size, bytes)) (h3 : z.cells.size = size) (h4 : 0 < size) : SlT P t e size bytes := by
  obtain ⟨i, hi, hz, hs, hb⟩ := info_parts h2
  exact ⟨i, z, h1, hi, hz, hs, hb, h3, h4⟩

theorem Blk.news {w : World} {B : Nat} {t : TypeId} {news : List Value} (hB : Blk w B t news.toArray) : ∀ j u, news[j]? = some u → w.cell? ((⟨B, 0, none⟩ : Addr).add j) = some u :=
  World.news_of_block (cs := news.toArray) hB

/-- append of what lies in a block that is known whole, at the operation. -/
theorem app_blk {P : Program} {w : World} {o : Oper} {a : Act} {K : Act → World → Prop} {Q : Exit → Act → World → Prop} {s x : Operand} {t e : TypeId} {size bytes : Nat}
    (hT : SlT P t e size bytes) (ho : o.op = .call { callee := .builtin .append, args := #[s, x], argTypes := #[t, t] })
    {v : Value} {n : Nat} {xs : List Value} (hown : w.ownsRow 0 e size v n xs) (hs : a.eval s = v)
    {B m c : Nat} {news : List Value} (hB : Blk w B e news.toArray) (hx : a.eval x = .slice (some ⟨B, 0, none⟩) m c) (hl : news.length = m * size) (h1 : ∀ u ∈ news, u.oneCell' = true)
    (hm : 0 < m) (h63 : n + m ≤ maxLen) (hbytes : (n + m) * bytes ≤ 140737488355328)
    (h : ∀ g cap w', w'.ownsRow 0 e size (.slice (some ⟨g, 0, none⟩) (n + m) cap) (n + m) (xs ++ news) → w.grownBy w' v.ownBlock → (v.ownBlock = some g ∨ w.heap.size ≤ g) → K (a.put o.dst (.slice (some ⟨g, 0, none⟩) (n + m) cap)) w') : o.wp P a w K Q := by
  obtain ⟨i, z, h2, h3, h4, h5, h6, h7, h8⟩ := hT
  exact wp_append_lies w s x t ho 0 e i z size bytes h2 h3 h4 h5 h6 h7 h8 v n xs hs hown ⟨B, 0, none⟩ m c news hx hl hB.news h1 hm h63 hbytes (Nat.zero_le _) w.heap.size rfl
    fun g cap w' a1 a2 a3 _ => h g cap w' a1 a2 (a3.imp id (fun h => by omega))

/-- The slice value '.slice A n c' reads as the cells xs, k cells an element; it lies below block B. -/
def Rd (w : World) (B k : Nat) (A : Option Addr) (n : Nat) (xs : List Value) : Prop :=
  xs.length = n * k ∧ (0 < n → ∃ b off, A = some ⟨b, off, none⟩ ∧ b < B ∧ ∀ j u, xs[j]? = some u → w.cell? ⟨b, off + j, none⟩ = some u)

section
variable {w w' : World} {B B' k n : Nat} {A : Option Addr} {xs : List Value}
theorem Rd.nil : Rd w B k A 0 [] := ⟨by simp, fun h => absurd h (by omega)⟩
theorem Rd.keep (h : Rd w B k A n xs) (hk : ∀ p : Addr, p.block < B → w'.cell? p = w.cell? p) : Rd w' B k A n xs :=
  ⟨h.1, fun hn => by
    obtain ⟨b, off, e, hb, hc⟩ := h.2 hn
    exact ⟨b, off, e, hb, fun j u hu => (hk _ hb).trans (hc j u hu)⟩⟩
theorem Rd.more (h : Rd w B k A n xs) (hB : B ≤ B') : Rd w B' k A n xs :=
  ⟨h.1, fun hn => by
    obtain ⟨b, off, e, hb, hc⟩ := h.2 hn
    exact ⟨b, off, e, by omega, hc⟩⟩
theorem Rd.below (h : Rd w B k A n xs) (hb : Below B w w') : Rd w' B k A n xs := h.keep fun _ hp => hb.cell hp
theorem Rd.drewN (h : Rd w B k A n xs) (m : Nat) : Rd (w.drewN m) B k A n xs := h
theorem Rd.alloc (h : Rd w B k A n xs) (hB : B ≤ w.heap.size) (o : Obj) : Rd (w.alloc o) B k A n xs := h.keep fun p hp => World.cell?_alloc_lt w o p (by omega)
theorem Rd.setCell (h : Rd w B k A n xs) {p : Addr} (hB : B ≤ p.block) (u : Value) : Rd (w.setCell p u) B k A n xs :=
  h.keep fun q hq => World.cell?_setCell_other w p q u (fun e => by subst e; omega)
theorem Rd.ofOwn {base : Nat} {e : TypeId} {c : Nat} (h : w.ownsRow base e k (.slice A n c) n xs) : Rd w w.heap.size k A n xs := by
  refine ⟨h.1, fun hn => ?_⟩
  obtain ⟨g, cap, hv, _, hlt⟩ := h.form hn
  have hA : A = some ⟨g, 0, none⟩ := by injection hv
  subst hA
  refine ⟨g, 0, rfl, hlt, fun j u hu => ?_⟩
  have := h.cells (g := g) rfl j u hu
  rwa [show ((⟨g, 0, none⟩ : Addr).add j) = ⟨g, 0 + j, none⟩ from by simp [Addr.add]; intro h0; subst h0; rfl] at this
end

theorem Rd.ofBlk {w : World} {g : Nat} {t : TypeId} {cs : List Value} {k n : Nat} (h : Blk w g t cs.toArray) (hl : cs.length = n * k) : Rd w (g + 1) k (some ⟨g, 0, none⟩) n cs :=
  ⟨hl, fun _ => ⟨g, 0, rfl, by omega, fun j u hu => by
    have := h.cell (0 + j)
    rw [this]
    simpa using hu⟩⟩

/-- A list of things of k cells each. -/
def cellsOf {α : Type} (enc : α → List Value) (l : List α) : List Value := l.flatMap enc

section
variable {α : Type} {enc : α → List Value} {k : Nat}
theorem cellsOf_nil : cellsOf enc [] = [] := rfl
theorem cellsOf_append (l r : List α) : cellsOf enc (l ++ r) = cellsOf enc l ++ cellsOf enc r := by simp [cellsOf]
theorem cellsOf_one (x : α) : cellsOf enc [x] = enc x := by simp [cellsOf]
theorem cellsOf_length (hk : ∀ x, (enc x).length = k) (l : List α) : (cellsOf enc l).length = l.length * k := by
  induction l with
  | nil => simp [cellsOf]
  | cons x l ih => simp [cellsOf, hk] at ih ⊢; rw [ih, Nat.succ_mul]; omega
theorem cellsOf_get (hk : ∀ x, (enc x).length = k) (l : List α) (i j : Nat) (hj : j < k) : (cellsOf enc l)[i * k + j]? = (l[i]?).bind fun x => (enc x)[j]? := by
  induction l generalizing i with
  | nil => simp [cellsOf]
  | cons x l ih =>
    rw [show cellsOf enc (x :: l) = enc x ++ cellsOf enc l from rfl]
    cases i with
    | zero =>
      simp only [Nat.zero_mul, Nat.zero_add, List.getElem?_cons_zero, Option.bind_some]
      rw [List.getElem?_append_left (by rw [hk]; exact hj)]
    | succ i =>
      rw [List.getElem?_append_right (by rw [hk, Nat.succ_mul]; omega), hk, show (i + 1) * k + j - k = i * k + j by rw [Nat.succ_mul]; omega, ih]
      simp
theorem cellsOf_one_cell {p : Value → Bool} (h1 : ∀ x, ∀ u ∈ enc x, p u = true) (l : List α) : ∀ u ∈ cellsOf enc l, p u = true := by
  intro u hu
  simp only [cellsOf, List.mem_flatMap] at hu
  obtain ⟨x, _, hx⟩ := hu
  exact h1 x u hx
theorem cellsOf_take (hk : ∀ x, (enc x).length = k) (l : List α) (n : Nat) : cellsOf enc (l.take n) = (cellsOf enc l).take (n * k) := by
  induction l generalizing n with
  | nil => simp [cellsOf]
  | cons x l ih =>
    cases n with
    | zero => simp [cellsOf]
    | succ n =>
      rw [List.take_succ_cons]
      show enc x ++ cellsOf enc (l.take n) = (enc x ++ cellsOf enc l).take ((n + 1) * k)
      rw [ih, Nat.succ_mul, List.take_append, hk, Nat.add_sub_cancel, List.take_of_length_le (l := enc x) (by rw [hk]; omega)]

/-- element i of a slice that reads as a list: where it lies -/
theorem Rd.at_ {w : World} {B n : Nat} {A : Option Addr} {l : List α} (h : Rd w B k A n (cellsOf enc l)) (hk : ∀ x, (enc x).length = k) (hk0 : 0 < k) {i : Nat} (hi : i < n) :
    ∃ b off x, A = some ⟨b, off, none⟩ ∧ b < B ∧ l[i]? = some x ∧ ∀ j u, (enc x)[j]? = some u → w.cell? ⟨b, off + i * k + j, none⟩ = some u := by
  obtain ⟨b, off, e, hb, hc⟩ := h.2 (by omega)
  have hl : l.length = n := by
    have h1 := h.1
    rw [cellsOf_length hk] at h1
    exact Nat.eq_of_mul_eq_mul_right hk0 h1
  obtain ⟨x, hx⟩ : ∃ x, l[i]? = some x := ⟨l[i]'(by omega), List.getElem?_eq_getElem (by omega)⟩
  refine ⟨b, off, x, e, hb, hx, fun j u hu => ?_⟩
  have hj : j < k := by
    have := (List.getElem?_eq_some_iff.1 hu).1
    rwa [hk] at this
  rw [Nat.add_assoc]
  exact hc (i * k + j) u (by rw [cellsOf_get hk l i j hj, hx]; exact hu)
theorem Rd.len {w : World} {B n : Nat} {A : Option Addr} {l : List α} (h : Rd w B k A n (cellsOf enc l)) (hk : ∀ x, (enc x).length = k) (hk0 : 0 < k) : l.length = n := by
  have h1 := h.1
  rw [cellsOf_length hk] at h1
  exact Nat.eq_of_mul_eq_mul_right hk0 h1
end

/-- A place in a source. -/
structure Pos where
  line : Int
  col : Int
deriving DecidableEq
instance : Inhabited Pos := ⟨⟨0, 0⟩⟩

structure Tok where
  kind : Int
  int : Int
  str : ByteArray
  pos : Pos
deriving DecidableEq
instance : Inhabited Tok := ⟨⟨0, 0, ByteArray.empty, default⟩⟩

def Pos.cells (p : Pos) : List Value := [.int .i64 p.line, .int .i64 p.col]
def Tok.cells (t : Tok) : List Value := [.int .i64 t.kind, .int .i64 t.int, .string t.str, .int .i64 t.pos.line, .int .i64 t.pos.col]
abbrev Pos.v (p : Pos) : Value := .agg #[.int .i64 p.line, .int .i64 p.col]
abbrev Tok.v (t : Tok) : Value := .agg #[.int .i64 t.kind, .int .i64 t.int, .string t.str, .int .i64 t.pos.line, .int .i64 t.pos.col]
def icell (n : Int) : List Value := [.int .i64 n]
def scell (s : ByteArray) : List Value := [.string s]
theorem Pos.cells_len (p : Pos) : p.cells.length = 2 := rfl
theorem Tok.cells_len (t : Tok) : t.cells.length = 5 := rfl
theorem icell_len (n : Int) : (icell n).length = 1 := rfl
theorem scell_len (s : ByteArray) : (scell s).length = 1 := rfl

theorem Rd.tok {w : World} {B n : Nat} {A : Option Addr} {l : List Tok} (h : Rd w B 5 A n (cellsOf Tok.cells l)) {i : Nat} (hi : i < n) :
    ∃ b off t, A = some ⟨b, off, none⟩ ∧ b < B ∧ l[i]? = some t ∧ w.cell? ⟨b, off + i * 5, none⟩ = some (.int .i64 t.kind) ∧ w.cell? ⟨b, off + i * 5 + 1, none⟩ = some (.int .i64 t.int) ∧
      w.cell? ⟨b, off + i * 5 + 2, none⟩ = some (.string t.str) ∧ w.cell? ⟨b, off + i * 5 + 3, none⟩ = some (.int .i64 t.pos.line) ∧ w.cell? ⟨b, off + i * 5 + 4, none⟩ = some (.int .i64 t.pos.col) := by
  obtain ⟨b, off, t, e, hb, hl, hc⟩ := h.at_ Tok.cells_len (by decide) hi
  exact ⟨b, off, t, e, hb, hl, hc 0 _ rfl, hc 1 _ rfl, hc 2 _ rfl, hc 3 _ rfl, hc 4 _ rfl⟩
theorem Rd.pos {w : World} {B n : Nat} {A : Option Addr} {l : List Pos} (h : Rd w B 2 A n (cellsOf Pos.cells l)) {i : Nat} (hi : i < n) :
    ∃ b off t, A = some ⟨b, off, none⟩ ∧ b < B ∧ l[i]? = some t ∧ w.cell? ⟨b, off + i * 2, none⟩ = some (.int .i64 t.line) ∧ w.cell? ⟨b, off + i * 2 + 1, none⟩ = some (.int .i64 t.col) := by
  obtain ⟨b, off, t, e, hb, hl, hc⟩ := h.at_ Pos.cells_len (by decide) hi
  exact ⟨b, off, t, e, hb, hl, hc 0 _ rfl, hc 1 _ rfl⟩
theorem Rd.int {w : World} {B n : Nat} {A : Option Addr} {l : List Int} (h : Rd w B 1 A n (cellsOf icell l)) {i : Nat} (hi : i < n) :
    ∃ b off t, A = some ⟨b, off, none⟩ ∧ b < B ∧ l[i]? = some t ∧ w.cell? ⟨b, off + i, none⟩ = some (.int .i64 t) := by
  obtain ⟨b, off, t, e, hb, hl, hc⟩ := h.at_ icell_len (by decide) hi
  refine ⟨b, off, t, e, hb, hl, ?_⟩
  have := hc 0 _ rfl
  simpa using this
theorem Rd.str {w : World} {B n : Nat} {A : Option Addr} {l : List ByteArray} (h : Rd w B 1 A n (cellsOf scell l)) {i : Nat} (hi : i < n) :
    ∃ b off t, A = some ⟨b, off, none⟩ ∧ b < B ∧ l[i]? = some t ∧ w.cell? ⟨b, off + i, none⟩ = some (.string t) := by
  obtain ⟨b, off, t, e, hb, hl, hc⟩ := h.at_ scell_len (by decide) hi
  refine ⟨b, off, t, e, hb, hl, ?_⟩
  have := hc 0 _ rfl
  simpa using this

end Go.Proofs.YtlblaopkmigheaaGreatDoor
