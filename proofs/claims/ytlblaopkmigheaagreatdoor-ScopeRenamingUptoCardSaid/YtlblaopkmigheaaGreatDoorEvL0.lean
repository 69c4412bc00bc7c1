/- (the seat of ScopeBuiltins) the listed variables as the evaluator's first heap has them -/
import Derived.Test.YtlblaopkmigheaaGreatDoorOpen
import Derived.Test.YtlblaopkmigheaaGreatDoorEvK0
namespace Go.Proofs.YtlblaopkmigheaaGreatDoor
open Go Go.RowKit Go.ChangeShapes Go.WideShapes Go.Deep
set_option maxRecDepth 100000

theorem cell_heap {W : World} {b off : Nat} {v : Value} (h : W.cell? ⟨b, off, none⟩ = some v) : ∃ cs el fr, W.heap[b]? = some (.cells cs el fr) ∧ cs[off]? = some v := by
  unfold World.cell? at h
  cases hb : W.heap[b]? with
  | none => simp [hb] at h
  | some o =>
    cases o with
    | cells cs el fr => simp [hb] at h; exact ⟨cs, el, fr, rfl, h⟩
    | _ => simp [hb] at h
theorem layV_at : ∀ (vs : List Value) (t : Ev.Tr Ev.AV) (o j : Nat) (v : Ev.AV), (Ev.layV (Ev.avList (vs.map Ev.avOne)) t o).get (Ev.posOf j) = some v → t.get (Ev.posOf j) = some v ∨ ∃ i x, j = o + i ∧ vs[i]? = some x ∧ ∀ ρ, Ev.VR ρ v x
  | [], t, o, j, v, h => .inl h
  | y :: vs, t, o, j, v, h => by
    have h : (Ev.layV (Ev.avList (vs.map Ev.avOne)) (t.set (Ev.posOf o) (Ev.avOne y)) (o + 1)).get (Ev.posOf j) = some v := h
    rcases layV_at vs _ _ _ _ h with h | ⟨i, x, h1, h2, h3⟩
    · by_cases he : o = j
      · subst he
        rw [Ev.Tr.get_same] at h
        obtain rfl := Option.some.inj h
        exact .inr ⟨0, y, rfl, rfl, fun ρ => Ev.avOne_ok y⟩
      · rw [Ev.Tr.get_set _ _ _ _ (fun e => he (Ev.posOf_inj e))] at h
        exact .inl h
    · exact .inr ⟨i + 1, x, by omega, by simpa using h2, h3⟩
theorem gi_of {W : World} {B g d n k c : Nat} {A : Option Addr} {vs : List Value} {cells : Ev.AV} (hcell : W.cell? ⟨g, 0, none⟩ = some (.slice A n c)) (hnc : n ≤ c) (hR : Rd W B k A n vs) (hlen : vs.length = n * k) (hn : 0 < n * k) (hl : cells = Ev.avList (vs.map Ev.avOne)) :
    (Ev.GI.mk g d n k cells).holds W := by
  obtain ⟨cs, el, fr, h1, h2⟩ := cell_heap hcell
  obtain ⟨_, hx⟩ := hR
  obtain ⟨b, off, rfl, _, hv⟩ := hx (by rcases Nat.eq_zero_or_pos n with h | h; (subst h; simp at hn); exact h)
  obtain ⟨x0, hx0⟩ : ∃ x, vs[n * k - 1]? = some x := ⟨_, List.getElem?_eq_getElem (by omega)⟩
  obtain ⟨cs', el', fr', h3, h4⟩ := cell_heap (hv _ _ hx0)
  have hsz := (Array.getElem?_eq_some_iff.1 h4).1
  refine ⟨b, off, c, cs, cs', el, el', fr, fr', h1, h2, hnc, h3, by omega, fun j v hj => ?_⟩
  rw [hl] at hj
  rcases layV_at vs .e 0 j v hj with h | ⟨i, x, rfl, h5, h6⟩
  · rw [Ev.Tr.get_e] at h; cases h
  · rw [Nat.zero_add]
    obtain ⟨cs2, el2, fr2, h7, h8⟩ := cell_heap (hv i x h5)
    rw [h3] at h7
    simp only [Option.some.injEq, Obj.cells.injEq] at h7
    obtain ⟨rfl, _, _⟩ := h7
    exact ⟨x, h8, h6⟩

def buL : List (List UInt8 × Int × Int × Int) := [([117, 110, 105, 111, 110], 0, 0, 2), ([105, 110, 116, 101, 114], 0, 0, 2), ([100, 105, 102, 102], 0, 0, 2), ([85, 110, 105, 111, 110], 0, 0, 1), ([73, 110, 116, 101, 114], 0, 0, 1), ([109, 101, 109, 98, 101, 114], 0, 0, 2), ([99, 97, 114, 100], 0, 0, 1), ([101, 109, 112, 116, 121], 0, 0, 1), ([115, 101, 116], 0, 0, 1), ([115, 101, 113], 0, 0, 1), ([83, 101, 116], 0, 0, 1), ([104, 101, 97, 100], 0, 0, 1), ([116, 97, 105, 108], 0, 0, 1), ([110, 117, 108, 108], 0, 0, 1), ([101, 108, 101, 109], 0, 0, 2), ([108, 101, 110, 103, 116, 104], 0, 0, 1), ([99, 111, 110, 99, 97, 116], 0, 0, 1), ([109, 97, 112, 76, 111, 111, 107, 117, 112], 0, 0, 2), ([109, 97, 112, 77, 101, 109, 98, 101, 114], 0, 0, 2), ([109, 97, 112, 85, 112, 100, 97, 116, 101], 0, 0, 3), ([109, 97, 112, 68, 101, 108, 101, 116, 101], 0, 0, 2), ([109, 97, 112, 75, 101, 121, 115], 0, 0, 1), ([69, 118, 101, 110, 116, 115], 0, 0, 0), ([66, 111, 111, 108], 0, 0, 0), ([73, 110, 116], 0, 0, 0)]
def bucell (y : ByteArray × Int × Int × Int) : List Value := [.string y.1, .int .i64 y.2.1, .int .i64 y.2.2.1, .int .i64 y.2.2.2]
def buOf (b : List UInt8 × Int × Int × Int) : ByteArray × Int × Int × Int := (bstr b.1, b.2)
theorem cSym : Tryz.prog.cellsOf 41 = 4 := by kernel_rfl
section
variable {H : Type} {enc : TypeId × Value → H} {w : World} {base : Nat} {spare : Nat → Bool} {held : Bool}
theorem dec_sym (n : Nat) (cs : List Value) (d : DataW H) (pl : List MemPlace) (h : DataW.trod enc Tryz.prog w base spare held n 41 cs = some (d, pl)) :
    ∃ y : ByteArray × Int × Int × Int, cs = bucell y ∧ d = .agg [.lit (.string y.1.data.toList), .lit (.int .i64 y.2.1), .lit (.int .i64 y.2.2.1), .lit (.int .i64 y.2.2.2)] := by
  obtain ⟨xs, m, _, hx, hl, hxl, hf⟩ := DataW.trod_struct Tryz.underlying41 h
  rw [cSym] at hl
  match cs, hl, xs, hxl with
  | [c0, c1, c2, c3], _, [x0, x1, x2, x3], _ =>
    have f0 : DataW.trod enc Tryz.prog w base spare held m 9 (([c0, c1, c2, c3].drop 0).take (Tryz.prog.cellsOf 9)) = some x0 := hf 0 _ rfl
    have f1 : DataW.trod enc Tryz.prog w base spare held m 3 (([c0, c1, c2, c3].drop 1).take (Tryz.prog.cellsOf 3)) = some x1 := hf 1 _ rfl
    have f2 : DataW.trod enc Tryz.prog w base spare held m 3 (([c0, c1, c2, c3].drop 2).take (Tryz.prog.cellsOf 3)) = some x2 := hf 2 _ rfl
    have f3 : DataW.trod enc Tryz.prog w base spare held m 3 (([c0, c1, c2, c3].drop 3).take (Tryz.prog.cellsOf 3)) = some x3 := hf 3 _ rfl
    rw [cStr] at f0
    rw [cInt] at f1 f2 f3
    obtain ⟨s, e0, rfl, _⟩ := DataW.trod_string Tryz.underlying9 f0
    obtain ⟨k1, e1, rfl, _⟩ := DataW.trod_int Tryz.underlying3 f1
    obtain ⟨k2, e2, rfl, _⟩ := DataW.trod_int Tryz.underlying3 f2
    obtain ⟨k3, e3, rfl, _⟩ := DataW.trod_int Tryz.underlying3 f3
    simp at e0 e1 e2 e3
    subst e0 e1 e2 e3
    simp only [Prod.mk.injEq] at hx
    refine ⟨(s, k1, k2, k3), rfl, ?_⟩
    rw [hx.1]
    rfl
end
end Go.Proofs.YtlblaopkmigheaaGreatDoor
