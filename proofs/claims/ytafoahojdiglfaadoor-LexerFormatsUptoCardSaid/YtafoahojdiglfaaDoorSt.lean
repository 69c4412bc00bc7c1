/- the lexer's laws: some tokens, valid ones -/
import Derived.Test.YtafoahojdiglfaaDoorLl1
import Derived.Test.YtafoahojdiglfaaDoorCardL
import Derived.Test.YtafoahojdiglfaaDoorTi2
import Derived.Test.YtafoahojdiglfaaDoorGen2
import Derived.Test.YtafoahojdiglfaaDoorTok
import Derived.Test.YtafoahojdiglfaaDoorOpen
import Derived.Test.YtafoahojdiglfaaDoorLawPair
import Derived.Laws.BitsLemmas
namespace Go.Proofs.YtafoahojdiglfaaDoor
open Go Go.RowKit
set_option maxHeartbeats 4000000

def IntsIn (t : Tok) : Prop := -9223372036854775808 ≤ t.int ∧ t.int ≤ maxI
def TokIn (t : Tok) : Prop := IntsIn t ∧ t.str.size ≤ 1048576

section
open Go.ChangeShapes Go.WideShapes Go.Deep
variable {H : Type} {enc : TypeId × Value → H} {w : World} {base : Nat} {spare : Nat → Bool} {held : Bool}
set_option maxRecDepth 100000 in
theorem dec_tokI (n : Nat) (cs : List Value) (d : DataW H) (pl : List MemPlace) (h : DataW.trod enc Tryd.prog w base spare held n 37 cs = some (d, pl)) : ∃ y : Tok, cs = y.cells ∧ d = tokData y ∧ IntsIn y := by
  obtain ⟨xs, m, _, hx, hl, hxl, hf⟩ := DataW.trod_struct Tryd.underlying37 h
  rw [cTok] at hl
  match cs, hl, xs, hxl with
  | [c0, c1, c2, c3, c4], _, [x0, x1, x2, x3], _ =>
    have f0 : DataW.trod enc Tryd.prog w base spare held m 3 (([c0, c1, c2, c3, c4].drop 0).take (Tryd.prog.cellsOf 3)) = some x0 := hf 0 _ rfl
    have f1 : DataW.trod enc Tryd.prog w base spare held m 2 (([c0, c1, c2, c3, c4].drop 1).take (Tryd.prog.cellsOf 2)) = some x1 := hf 1 _ rfl
    have f2 : DataW.trod enc Tryd.prog w base spare held m 9 (([c0, c1, c2, c3, c4].drop 2).take (Tryd.prog.cellsOf 9)) = some x2 := hf 2 _ rfl
    have f3 : DataW.trod enc Tryd.prog w base spare held m 32 (([c0, c1, c2, c3, c4].drop 3).take (Tryd.prog.cellsOf 32)) = some x3 := hf 3 _ rfl
    rw [cInt] at f0
    rw [cI64] at f1
    rw [cStr] at f2
    rw [cPos] at f3
    obtain ⟨k, e0, rfl, _⟩ := DataW.trod_int Tryd.underlying3 f0
    obtain ⟨v, e1, rfl, hv⟩ := DataW.trod_int Tryd.underlying2 f1
    obtain ⟨s, e2, rfl, _⟩ := DataW.trod_string Tryd.underlying9 f2
    obtain ⟨y0, y1, m2, rfl, _, g0, g1⟩ := trod_struct2 Tryd.underlying32 f3
    (try dsimp only at g0 g1)
    rw [cInt] at g0 g1
    obtain ⟨a, e3, rfl, _⟩ := DataW.trod_int Tryd.underlying3 g0
    obtain ⟨b, e4, rfl, _⟩ := DataW.trod_int Tryd.underlying3 g1
    simp at e0 e1 e2 e3 e4
    subst e0 e1 e2 e3 e4
    simp only [Prod.mk.injEq] at hx
    refine ⟨⟨k, v, s, ⟨a, b⟩⟩, rfl, by rw [hx.1]; rfl, ?_⟩
    simp only [Lit.wf, Bool.and_eq_true, decide_eq_true_eq] at hv
    exact hv
end

attribute [local irreducible] kwB syB clB

def nmL : List ByteArray := [⟨#[97]⟩, ⟨#[80, 49]⟩, ⟨#[120, 39]⟩, ⟨#[102, 95, 103]⟩, ⟨#[73, 110, 116]⟩]
def kwdL : List ByteArray := [⟨#[108, 101, 116]⟩, ⟨#[119, 105, 116, 104, 105, 110]⟩, ⟨#[97, 110, 100]⟩, ⟨#[83, 84, 79, 80]⟩, ⟨#[105, 102]⟩]
theorem nmL_small : ∀ x ∈ nmL, x.size ≤ 10 := by decide
theorem kwdL_small : ∀ x ∈ kwdL, x.size ≤ 10 := by decide
theorem in_small {k : Int} {x : ByteArray} {p : Pos} (h : x.size ≤ 10) : TokIn ⟨k, 0, x, p⟩ := ⟨⟨by show (-9223372036854775808 : Int) ≤ 0; decide, by show (0 : Int) ≤ maxI; decide⟩, by show x.size ≤ _; omega⟩
theorem in_zero (x : ByteArray) (hx : x.size ≤ 10) (k : Int) : TokIn ⟨k, 0, x, ⟨0, 0⟩⟩ := in_small hx

theorem and62 (i : Int) : 0 ≤ bits .and .i64 i 4611686018427387903 ∧ bits .and .i64 i 4611686018427387903 ≤ 4611686018427387903 := by
  have h : ∀ a : Nat, (a &&& 4611686018427387903 : Nat) ≤ 4611686018427387903 := fun a => Nat.and_le_right
  unfold bits
  simp
  rw [show 4611686018427387903 % 2 ^ IntKind.i64.bits = 4611686018427387903 by decide]
  have := h (i % 2 ^ IntKind.i64.bits).toNat
  rw [IntKind.wrap_i64]
  omega
theorem in_shr {x : Int} (h : 0 ≤ x ∧ x ≤ 4611686018427387903) (k : Nat) {p : Pos} : TokIn ⟨2, x / 2 ^ k, ⟨#[]⟩, p⟩ := by
  have hp : (0 : Int) ≤ 2 ^ k := Int.le_of_lt (Int.pow_pos (by decide))
  have h1 := Int.ediv_nonneg h.1 hp
  have h2 := Int.ediv_le_self (2 ^ k) h.1
  refine ⟨⟨?_, ?_⟩, ?_⟩
  · show (-9223372036854775808 : Int) ≤ x / 2 ^ k
    omega
  · show x / 2 ^ k ≤ 9223372036854775807
    omega
  · show (0 : Nat) ≤ 1048576
    omega
theorem below3 {w : World} (a b c : Obj) : Below w.heap.size w (((w.alloc a).alloc b).alloc c) := (((Below.refl w.heap.size w).alloc (Nat.le_refl _) a).alloc (by simp) b).alloc (by simp; omega) c
theorem below2 {w : World} (a b : Obj) : Below w.heap.size w ((w.alloc a).alloc b) := (((Below.refl w.heap.size w).alloc (Nat.le_refl _) a).alloc (by simp) b)
set_option maxRecDepth 100000 in
theorem some_any (t : Tok) (ht : TokIn t) (w : World) : Calls Tryd.prog 44 #[t.v] w fun e w' => (∃ u : Tok, e = .returned u.v ∧ TokIn u) ∧ Below w.heap.size w w' := by
  obtain ⟨k, i, s, ⟨l, c⟩⟩ := t
  have HT := Lib.hid ht
  clear ht
  go_enter Tryd.func44, Tryd.ntmps44
  go_wp2_with fail
  refine (mod_any _ _ _ (by decide) (by decide)).mono ?_
  rintro e w2 ⟨⟨r1, rfl, h10, h11⟩, rfl⟩
  obtain ⟨k1, rfl⟩ : ∃ k : Nat, r1 = k := ⟨r1.toNat, by omega⟩
  go_wp2_with fail
  refine (mod_any _ _ _ (by decide) (by decide)).mono ?_
  rintro e w2 ⟨⟨r2, rfl, h20, h21⟩, rfl⟩
  obtain ⟨k2, rfl⟩ : ∃ k : Nat, r2 = k := ⟨r2.toNat, by omega⟩
  have h7 : k2 = 0 ∨ k2 = 1 ∨ k2 = 2 ∨ k2 = 3 ∨ k2 = 4 ∨ k2 = 5 ∨ k2 = 6 := by omega
  clear h20 h21
  rcases h7 with rfl | rfl | rfl | rfl | rfl | rfl | rfl
  · obtain ⟨x, hx0, hxs⟩ := pick_at (w := ((w.alloc (.cells #[.int .i64 k, .int .i64 i, .string s, .int .i64 l, .int .i64 c] 37)).alloc (.cells #[.int .i64 0, .int .i64 0, .string ⟨#[]⟩, .int .i64 0, .int .i64 0] 37)).alloc (.cells (cellsOf scell nmL).toArray 9)) (N := w.heap.size + 1 + 1) (t := 9) (l := nmL) (heap_alloc_at (by simp)) (k1 % 5) (Nat.mod_lt _ (by decide)) 10 nmL_small; have hx : (((w.alloc (.cells #[.int .i64 k, .int .i64 i, .string s, .int .i64 l, .int .i64 c] 37)).alloc (.cells #[.int .i64 0, .int .i64 0, .string ⟨#[]⟩, .int .i64 0, .int .i64 0] 37)).alloc (.cells #[.string ⟨#[97]⟩, .string ⟨#[80, 49]⟩, .string ⟨#[120, 39]⟩, .string ⟨#[102, 95, 103]⟩, .string ⟨#[73, 110, 116]⟩] 9)).cell? ⟨w.heap.size + 1 + 1, k1 % 5, none⟩ = some (.string x) := hx0; clear hx0
    go_wp2_with fail
    exact bodyPost_ret (v := (Tok.mk 1 0 x ⟨0, 0⟩).v) (by simp [results, Tryd.results44, go_sem]) rfl ⟨⟨⟨1, 0, x, ⟨0, 0⟩⟩, rfl, in_small hxs⟩, below3 _ _ _⟩
  · obtain ⟨x, hx0, hxs⟩ := pick_at (w := ((w.alloc (.cells #[.int .i64 k, .int .i64 i, .string s, .int .i64 l, .int .i64 c] 37)).alloc (.cells #[.int .i64 0, .int .i64 0, .string ⟨#[]⟩, .int .i64 0, .int .i64 0] 37)).alloc (.cells (cellsOf scell nmL).toArray 9)) (N := w.heap.size + 1 + 1) (t := 9) (l := nmL) (heap_alloc_at (by simp)) (k1 % 5) (Nat.mod_lt _ (by decide)) 10 nmL_small; have hx : (((w.alloc (.cells #[.int .i64 k, .int .i64 i, .string s, .int .i64 l, .int .i64 c] 37)).alloc (.cells #[.int .i64 0, .int .i64 0, .string ⟨#[]⟩, .int .i64 0, .int .i64 0] 37)).alloc (.cells #[.string ⟨#[97]⟩, .string ⟨#[80, 49]⟩, .string ⟨#[120, 39]⟩, .string ⟨#[102, 95, 103]⟩, .string ⟨#[73, 110, 116]⟩] 9)).cell? ⟨w.heap.size + 1 + 1, k1 % 5, none⟩ = some (.string x) := hx0; clear hx0
    go_wp2_with fail
    exact bodyPost_ret (v := (Tok.mk 1 0 x ⟨0, 0⟩).v) (by simp [results, Tryd.results44, go_sem]) rfl ⟨⟨⟨1, 0, x, ⟨0, 0⟩⟩, rfl, in_small hxs⟩, below3 _ _ _⟩
  · go_wp2_with fail
    exact bodyPost_ret (v := (Tok.mk 2 (bits BinOp.and IntKind.i64 i 4611686018427387903 / 2 ^ k1) ⟨#[]⟩ ⟨0, 0⟩).v) (by simp [results, Tryd.results44, go_sem]) rfl ⟨⟨⟨2, _, ⟨#[]⟩, ⟨0, 0⟩⟩, rfl, in_shr (and62 i) k1⟩, below2 _ _⟩
  · obtain ⟨x, hx0, hxs⟩ := pick_at (w := ((w.alloc (.cells #[.int .i64 k, .int .i64 i, .string s, .int .i64 l, .int .i64 c] 37)).alloc (.cells #[.int .i64 0, .int .i64 0, .string ⟨#[]⟩, .int .i64 0, .int .i64 0] 37)).alloc (.cells (cellsOf scell kwdL).toArray 9)) (N := w.heap.size + 1 + 1) (t := 9) (l := kwdL) (heap_alloc_at (by simp)) (k1 % 5) (Nat.mod_lt _ (by decide)) 10 kwdL_small; have hx : (((w.alloc (.cells #[.int .i64 k, .int .i64 i, .string s, .int .i64 l, .int .i64 c] 37)).alloc (.cells #[.int .i64 0, .int .i64 0, .string ⟨#[]⟩, .int .i64 0, .int .i64 0] 37)).alloc (.cells #[.string ⟨#[108, 101, 116]⟩, .string ⟨#[119, 105, 116, 104, 105, 110]⟩, .string ⟨#[97, 110, 100]⟩, .string ⟨#[83, 84, 79, 80]⟩, .string ⟨#[105, 102]⟩] 9)).cell? ⟨w.heap.size + 1 + 1, k1 % 5, none⟩ = some (.string x) := hx0; clear hx0
    go_wp2_with fail
    exact bodyPost_ret (v := (Tok.mk 3 0 x ⟨0, 0⟩).v) (by simp [results, Tryd.results44, go_sem]) rfl ⟨⟨⟨3, 0, x, ⟨0, 0⟩⟩, rfl, in_small hxs⟩, below3 _ _ _⟩
  · go_wp2_with fail; refine (symbols_any _).mono ?_; rintro e w9 ⟨rfl, rfl⟩; go_wp2_with fail; refine (mod_any _ _ _ (by decide) (by decide)).mono ?_; rintro e w9 ⟨⟨r3, rfl, h30, h31⟩, rfl⟩; obtain ⟨k3, rfl⟩ : ∃ k : Nat, r3 = k := ⟨r3.toNat, by omega⟩; obtain ⟨x, hx, _, hxs⟩ := sym_pick (w := ((w.alloc (.cells #[.int .i64 k, .int .i64 i, .string s, .int .i64 l, .int .i64 c] 37)).alloc (.cells #[.int .i64 0, .int .i64 0, .string ⟨#[]⟩, .int .i64 0, .int .i64 0] 37)).alloc (.cells (cellsOf scell syB).toArray 9)) (N := w.heap.size + 1 + 1) (t := 9) (heap_alloc_at (by simp)) k3 (by omega); go_wp2_with fail; exact bodyPost_ret (v := (Tok.mk 4 0 x ⟨0, 0⟩).v) (by simp [results, Tryd.results44, go_sem]) rfl ⟨⟨⟨4, 0, x, ⟨0, 0⟩⟩, rfl, in_small (by omega)⟩, below3 _ _ _⟩
  · go_wp2_with fail; refine (symbols_any _).mono ?_; rintro e w9 ⟨rfl, rfl⟩; go_wp2_with fail; refine (mod_any _ _ _ (by decide) (by decide)).mono ?_; rintro e w9 ⟨⟨r3, rfl, h30, h31⟩, rfl⟩; obtain ⟨k3, rfl⟩ : ∃ k : Nat, r3 = k := ⟨r3.toNat, by omega⟩; obtain ⟨x, hx, _, hxs⟩ := sym_pick (w := ((w.alloc (.cells #[.int .i64 k, .int .i64 i, .string s, .int .i64 l, .int .i64 c] 37)).alloc (.cells #[.int .i64 0, .int .i64 0, .string ⟨#[]⟩, .int .i64 0, .int .i64 0] 37)).alloc (.cells (cellsOf scell syB).toArray 9)) (N := w.heap.size + 1 + 1) (t := 9) (heap_alloc_at (by simp)) k3 (by omega); go_wp2_with fail; exact bodyPost_ret (v := (Tok.mk 4 0 x ⟨0, 0⟩).v) (by simp [results, Tryd.results44, go_sem]) rfl ⟨⟨⟨4, 0, x, ⟨0, 0⟩⟩, rfl, in_small (by omega)⟩, below3 _ _ _⟩
  · go_wp2_with fail
    exact bodyPost_ret (v := (Tok.mk k i s ⟨l, c⟩).v) (by simp [results, Tryd.results44, go_sem]) rfl ⟨⟨⟨k, i, s, ⟨l, c⟩⟩, rfl, HT.out⟩, below2 _ _⟩
end Go.Proofs.YtafoahojdiglfaaDoor
