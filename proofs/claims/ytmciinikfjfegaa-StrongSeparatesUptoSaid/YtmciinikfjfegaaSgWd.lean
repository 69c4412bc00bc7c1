/- the law's check of its own: the examples of chapter 25 -/
import Derived.Test.YtmciinikfjfegaaSgWc
namespace Go.Proofs.Ytmciinikfjfegaa
open Go Go.RowKit
set_option maxHeartbeats 8000000

theorem rows_rd2 {w : World} {g B m : Nat} {vs : List Value} {ls : List (List Arc)} (hb : Blk w g 24 vs.toArray) (hg : g < B) (hm : vs.length = m) (hl : ls.length = m)
    (h : ∀ (i : Nat) (l : List Arc), ls[i]? = some l → ∃ (A' : Option Addr) (n' c' : Nat), vs[i]? = some (.slice A' n' c') ∧ Rd w B 2 A' n' (cellsOf Arc.cells l)) : RdL w B (some ⟨g, 0, none⟩) m ls :=
  ⟨vs, (Rd.ofBlk (k := 1) (n := m) hb (by omega)).more hg, hl, h⟩
def exD : List (List Arc) := [[⟨2, 1⟩, ⟨2, 2⟩], [⟨3, 3⟩], [⟨4, 3⟩], []]
def exE : List (List Arc) := [[⟨2, 1⟩], [⟨2, 0⟩]]
theorem exD_valid : validB exD = true := by decide
theorem exE_valid : validB exE = true := by decide
theorem exD_done : DoneR exD 1 := by
  refine ⟨fun j hj => ?_, by decide +kernel⟩
  obtain rfl : j = 0 := by omega
  decide +kernel
theorem exD_cl : clK exD 1 = [0, 1, 2, 3] := by decide +kernel
theorem exE_done : DoneR exE 0 := ⟨fun j hj => by omega, by decide +kernel⟩
theorem exD_form : FR exD 1 2 (.may 3 (.con .nil)) := by
  refine FR.may (k := 0) (w := ⟨3, 3⟩) (by decide) (by decide) ⟨by decide +kernel, by decide +kernel⟩ (by decide +kernel) ?_
  have h : against exD 2 3 = [] := by decide +kernel
  rw [h]
  exact .nil
theorem exD_is : DisIs exD 1 2 0 [⟨2, 3, 1⟩, ⟨4, 0, 0⟩] :=
  .inr ⟨exD_valid, by decide, by decide, by decide, by decide, 1, exD_done, .inr ⟨by decide +kernel, _, exD_form, .inl ⟨by decide, rfl, by rw [Form.enc, Form.enc, Forms.enc]; rfl⟩⟩⟩
theorem exE_quo : quoE exE 0 = [[⟨2, 0⟩, ⟨2, 0⟩]] := by decide +kernel
theorem exE_can : DoneC (quoE exE 0) 1 ∧ (canonK (quoE exE 0) 1).out = [[⟨2, 0⟩]] := by
  rw [exE_quo]
  refine ⟨⟨fun j hj => ?_, by decide⟩, by decide⟩
  obtain rfl : j = 0 := by omega
  decide

abbrev sD (w : World) (p : Nat) : World :=
  (((w.alloc (.cells #[.int .i64 2, .int .i64 1, .int .i64 2, .int .i64 2] 23)).alloc (.cells #[.int .i64 3, .int .i64 3] 23)).alloc (.cells #[.int .i64 4, .int .i64 3] 23)).alloc (.cells #[.slice (some ⟨p, 0, none⟩) 2 2, .slice (some ⟨p + 1, 0, none⟩) 1 1, .slice (some ⟨p + 1 + 1, 0, none⟩) 1 1, .slice none 0 0] 24)
theorem sD_rd (w : World) : RdL (sD w w.heap.size) (w.heap.size + 4) (some ⟨w.heap.size + 1 + 1 + 1, 0, none⟩) 4 exD ∧ Below w.heap.size w (sD w w.heap.size) ∧ (sD w w.heap.size).heap.size = w.heap.size + 4 := by
  have h1 := (((Blk.new w 23 #[.int .i64 2, .int .i64 1, .int .i64 2, .int .i64 2]).alloc (.cells #[.int .i64 3, .int .i64 3] 23)).alloc (.cells #[.int .i64 4, .int .i64 3] 23)).alloc (.cells #[.slice (some ⟨w.heap.size, 0, none⟩) 2 2, .slice (some ⟨w.heap.size + 1, 0, none⟩) 1 1, .slice (some ⟨w.heap.size + 1 + 1, 0, none⟩) 1 1, .slice none 0 0] 24)
  have h2 : Blk ((w.alloc (.cells #[.int .i64 2, .int .i64 1, .int .i64 2, .int .i64 2] 23)).alloc (.cells #[.int .i64 3, .int .i64 3] 23)) (w.heap.size + 1) 23 #[.int .i64 3, .int .i64 3] := heap_alloc_at (by simp)
  have h3 : Blk (((w.alloc (.cells #[.int .i64 2, .int .i64 1, .int .i64 2, .int .i64 2] 23)).alloc (.cells #[.int .i64 3, .int .i64 3] 23)).alloc (.cells #[.int .i64 4, .int .i64 3] 23)) (w.heap.size + 1 + 1) 23 #[.int .i64 4, .int .i64 3] := heap_alloc_at (by simp)
  refine ⟨rows_rd2 (m := 4) (vs := [.slice (some ⟨w.heap.size, 0, none⟩) 2 2, .slice (some ⟨w.heap.size + 1, 0, none⟩) 1 1, .slice (some ⟨w.heap.size + 1 + 1, 0, none⟩) 1 1, .slice none 0 0]) (heap_alloc_at (by simp)) (by omega) rfl rfl fun i l hl => ?_,
    (((((Below.refl w.heap.size w).alloc (Nat.le_refl _) _).alloc (by simp) _).alloc (by simp; omega) _).alloc (by simp; omega) _), by simp⟩
  match i with
  | 0 =>
    have : l = [⟨2, 1⟩, ⟨2, 2⟩] := by simpa [exD] using hl.symm
    subst this
    exact ⟨_, 2, 2, rfl, (Rd.ofBlk (cs := cellsOf Arc.cells [⟨2, 1⟩, ⟨2, 2⟩]) h1 rfl).more (by omega)⟩
  | 1 =>
    have : l = [⟨3, 3⟩] := by simpa [exD] using hl.symm
    subst this
    exact ⟨_, 1, 1, rfl, (Rd.ofBlk (cs := cellsOf Arc.cells [⟨3, 3⟩]) ((h2.alloc _).alloc _) rfl).more (by omega)⟩
  | 2 =>
    have : l = [⟨4, 3⟩] := by simpa [exD] using hl.symm
    subst this
    exact ⟨_, 1, 1, rfl, (Rd.ofBlk (cs := cellsOf Arc.cells [⟨4, 3⟩]) (h3.alloc _) rfl).more (by omega)⟩
  | 3 =>
    have : l = [] := by simpa [exD] using hl.symm
    subst this
    exact ⟨_, 0, 0, rfl, Rd.nil⟩
  | i + 4 => simp [exD] at hl
abbrev sE (w : World) (p : Nat) : World :=
  ((w.alloc (.cells #[.int .i64 2, .int .i64 1] 23)).alloc (.cells #[.int .i64 2, .int .i64 0] 23)).alloc (.cells #[.slice (some ⟨p, 0, none⟩) 1 1, .slice (some ⟨p + 1, 0, none⟩) 1 1] 24)
theorem sE_rd (w : World) : RdL (sE w w.heap.size) (w.heap.size + 3) (some ⟨w.heap.size + 1 + 1, 0, none⟩) 2 exE ∧ Below w.heap.size w (sE w w.heap.size) ∧ (sE w w.heap.size).heap.size = w.heap.size + 3 := by
  have h1 := ((Blk.new w 23 #[.int .i64 2, .int .i64 1]).alloc (.cells #[.int .i64 2, .int .i64 0] 23)).alloc (.cells #[.slice (some ⟨w.heap.size, 0, none⟩) 1 1, .slice (some ⟨w.heap.size + 1, 0, none⟩) 1 1] 24)
  have h2 : Blk ((w.alloc (.cells #[.int .i64 2, .int .i64 1] 23)).alloc (.cells #[.int .i64 2, .int .i64 0] 23)) (w.heap.size + 1) 23 #[.int .i64 2, .int .i64 0] := heap_alloc_at (by simp)
  refine ⟨rows_rd2 (m := 2) (vs := [.slice (some ⟨w.heap.size, 0, none⟩) 1 1, .slice (some ⟨w.heap.size + 1, 0, none⟩) 1 1]) (heap_alloc_at (by simp)) (by omega) rfl rfl fun i l hl => ?_,
    ((((Below.refl w.heap.size w).alloc (Nat.le_refl _) _).alloc (by simp) _).alloc (by simp; omega) _), by simp⟩
  match i with
  | 0 =>
    have : l = [⟨2, 1⟩] := by simpa [exE] using hl.symm
    subst this
    exact ⟨_, 1, 1, rfl, (Rd.ofBlk (cs := cellsOf Arc.cells [⟨2, 1⟩]) h1 rfl).more (by omega)⟩
  | 1 =>
    have : l = [⟨2, 0⟩] := by simpa [exE] using hl.symm
    subst this
    exact ⟨_, 1, 1, rfl, (Rd.ofBlk (cs := cellsOf Arc.cells [⟨2, 0⟩]) (h2.alloc _) rfl).more (by omega)⟩
  | i + 2 => simp [exE] at hl

set_option maxRecDepth 100000 in
theorem sane25_any (w : World) : Calls Try.prog 12 #[] w fun e w' => e = .returned (.bool true) ∧ Below w.heap.size w w' := by
  have HD := Lib.hid (sD_rd w)
  go_enter Try.func12, Try.ntmps12
  go_wp2_with fail
  have hsz := HD.out.2.2
  have HR1 := Lib.hid (HD.out.1.alloc (by rw [hsz]; exact Nat.le_refl _) (.cells #[.slice (some ⟨w.heap.size + 1 + 1 + 1, 0, none⟩) 4 4] 27))
  have HB1 := Lib.hid (HD.out.2.1.alloc (by rw [hsz]; omega) (.cells #[.slice (some ⟨w.heap.size + 1 + 1 + 1, 0, none⟩) 4 4] 27))
  have hs1 : ((sD w w.heap.size).alloc (.cells #[.slice (some ⟨w.heap.size + 1 + 1 + 1, 0, none⟩) 4 4] 27)).heap.size = w.heap.size + 5 := by simp
  have HS1 := Lib.hid hs1
  clear hsz hs1
  refine (distinguish_any (some ⟨w.heap.size + 1 + 1 + 1, 0, none⟩) 4 4 exD 1 2 (w.heap.size + 4) _ HR1.out (by rw [HS1.out]; omega) (by decide) (by decide)).mono ?_
  rintro e w2 ⟨A1, n1, c1, err, out, rfl, hR2, hnc, _, hb2, hdis⟩
  obtain ⟨rfl, rfl⟩ := hdis.unique exD_is
  have hn1 := hR2.len FNode.cells_len (by decide)
  obtain rfl : n1 = 2 := hn1.symm
  obtain ⟨b, o, rfl, hbl, hcs⟩ := hR2.2 (by decide)
  have hs2 : w.heap.size + 5 ≤ w2.heap.size := by have := hb2.size; rw [HS1.out] at this; exact this
  have HB2 := Lib.hid (HB1.out.trans (hb2.mono (by rw [HS1.out]; omega)))
  have HC2 := Lib.hid (And.intro (hcs 0 _ rfl) (And.intro (hcs 1 _ rfl) (hcs 3 _ rfl)))
  clear hR2 hb2 hdis hcs hn1
  have HE := Lib.hid (sE_rd w2)
  go_wp2_with fail
  have hszE := HE.out.2.2
  have HSE := Lib.hid hszE
  clear hszE
  refine (compress_any (some ⟨w2.heap.size + 1 + 1, 0, none⟩) 2 2 exE (w2.heap.size + 3) _ HE.out.1 (by rw [HSE.out]; omega) (by decide) (by decide)).mono ?_
  rintro e w3 ⟨A3, n3, c3, out3, err3, rfl, ⟨W3, xs3, hW3, hX3⟩, hb3, hres⟩
  obtain ⟨rfl, rfl⟩ : err3 = 0 ∧ out3 = [[⟨2, 0⟩]] := by
    rcases hres with ⟨h, _⟩ | ⟨_, h1, K, i, hK, hi, h2⟩
    · rw [exE_valid] at h; cases h
    · obtain rfl := hK.unique exE_done
      obtain rfl := hi.unique exE_can.1
      exact ⟨h1, h2.trans exE_can.2⟩
  have hX := hX3.whole
  obtain rfl : n3 = 1 := hX.len.symm
  obtain ⟨b5, o5, l5, A6, n6, c6, e5, hb5, hl5, hln5, e6, _⟩ := hX.row (i := 0) (by decide)
  subst e5
  have h5 : l5 = [⟨2, 0⟩] := (Option.some.inj hl5).symm
  subst h5
  obtain rfl : n6 = 1 := hln5.symm
  have HB3 := Lib.hid (HB2.out.trans (((Below.refl w2.heap.size w2).trans HE.out.2.1 |>.trans (hb3.mono (by rw [HSE.out]; omega))).mono HB2.out.size))
  have hs3 : w2.heap.size + 3 ≤ w3.heap.size := by have := hb3.size; rw [HSE.out] at this; exact this
  have c0 := (((HE.out.2.1.trans (hb3.mono (by rw [HSE.out]; omega))).alloc (by omega) (.cells #[.slice (some ⟨b5, o5, none⟩) 1 c3] 27)).cell (p := ⟨b, o + 0, none⟩) (by dsimp only; omega)).trans HC2.out.1
  have c1' := (((HE.out.2.1.trans (hb3.mono (by rw [HSE.out]; omega))).alloc (by omega) (.cells #[.slice (some ⟨b5, o5, none⟩) 1 c3] 27)).cell (p := ⟨b, o + 1, none⟩) (by dsimp only; omega)).trans HC2.out.2.1
  have c3' := (((HE.out.2.1.trans (hb3.mono (by rw [HSE.out]; omega))).alloc (by omega) (.cells #[.slice (some ⟨b5, o5, none⟩) 1 c3] 27)).cell (p := ⟨b, o + 3, none⟩) (by dsimp only; omega)).trans HC2.out.2.2
  have e6' := (World.cell?_alloc_lt w3 (.cells #[.slice (some ⟨b5, o5, none⟩) 1 c3] 27) ⟨b5, o5 + 0, none⟩ (by dsimp only; omega)).trans e6
  rw [Nat.add_zero] at c0 e6'
  have HBF := Lib.hid (HB3.out.alloc (by omega) (.cells #[.slice (some ⟨b5, o5, none⟩) 1 c3] 27))
  have hbl2 : b < w3.heap.size := by omega
  clear hX hX3 hb3 hres hl5 hln5 e6
  go_wp2_with fail
  go_ret
  exact ⟨ret_bool (by simp), HBF.out⟩

end Go.Proofs.Ytmciinikfjfegaa
