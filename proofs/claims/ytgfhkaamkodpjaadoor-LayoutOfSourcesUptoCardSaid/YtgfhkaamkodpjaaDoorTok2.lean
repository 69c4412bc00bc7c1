/- walks: the lexer's Valid; the layout's keyword -/
import Derived.Test.YtgfhkaamkodpjaaDoorTok
namespace Go.Proofs.YtgfhkaamkodpjaaDoor
open Go Go.RowKit
set_option maxHeartbeats 400000
attribute [local irreducible] kwB syB clB

theorem valid_3 (B : Nat) (ti tl tc : Int) (ts : ByteArray) (w : World) (hG : Glob B w) : Calls Tryd.prog 72 #[(Tok.mk 3 ti ts ⟨tl, tc⟩).v] w fun e w' => e = .returned (.bool (decide (ti = 0) && memS kwB ts)) ∧ Below w.heap.size w w' := by
  obtain ⟨hlt, A, c, hc, hR⟩ := hG.kw
  have hsz := hG.size
  have HR := Lib.hid (hR.alloc hsz (.cells #[.int .i64 3, .int .i64 ti, .string ts, .int .i64 tl, .int .i64 tc] 40))
  have hc2 : ∀ o, (w.alloc o).cell? ⟨0, 0, none⟩ = some (.slice A kwB.length c) := fun o => by rw [World.cell?_alloc_lt w o _ (by show 0 < _; omega)]; exact hc
  clear hR hc hG
  have HB := Lib.hid ((Below.refl w.heap.size w).alloc (Nat.le_refl _) (.cells #[.int .i64 3, .int .i64 ti, .string ts, .int .i64 tl, .int .i64 tc] 40))
  by_cases hi : ti = 0
  · subst hi
    go_enter Tryd.func72, Tryd.ntmps72
    go_wp2_with (first | (go_at_call 83; refine (contains_any _ _ _ _ _ _ _ HR.out (by rw [kwB_len]; decide)).mono ?_; rintro e w' ⟨rfl, rfl⟩))
    go_ret
    exact ⟨ret_bool (by simp), HB.out⟩
  · have hib : (ti == 0) = false := by simpa using hi
    have HI := Lib.hid hi
    clear hi
    go_enter Tryd.func72, Tryd.ntmps72
    go_wp2
    go_ret
    exact ⟨ret_bool (by simp [HI.out]), HB.out⟩

theorem valid_4 (B : Nat) (ti tl tc : Int) (ts : ByteArray) (w : World) (hG : Glob B w) : Calls Tryd.prog 72 #[(Tok.mk 4 ti ts ⟨tl, tc⟩).v] w fun e w' => e = .returned (.bool (decide (ti = 0) && memS syB ts)) ∧ Below w.heap.size w w' := by
  obtain ⟨hlt, A, c, hc, hR⟩ := hG.sy
  have hsz := hG.size
  have HR := Lib.hid (hR.alloc hsz (.cells #[.int .i64 4, .int .i64 ti, .string ts, .int .i64 tl, .int .i64 tc] 40))
  have hc2 : ∀ o, (w.alloc o).cell? ⟨1, 0, none⟩ = some (.slice A syB.length c) := fun o => by rw [World.cell?_alloc_lt w o _ (by show 1 < _; omega)]; exact hc
  clear hR hc hG
  have HB := Lib.hid ((Below.refl w.heap.size w).alloc (Nat.le_refl _) (.cells #[.int .i64 4, .int .i64 ti, .string ts, .int .i64 tl, .int .i64 tc] 40))
  by_cases hi : ti = 0
  · subst hi
    go_enter Tryd.func72, Tryd.ntmps72
    go_wp2_with (first | (go_at_call 83; refine (contains_any _ _ _ _ _ _ _ HR.out (by rw [syB_len]; decide)).mono ?_; rintro e w' ⟨rfl, rfl⟩))
    go_ret
    exact ⟨ret_bool (by simp), HB.out⟩
  · have hib : (ti == 0) = false := by simpa using hi
    have HI := Lib.hid hi
    clear hi
    go_enter Tryd.func72, Tryd.ntmps72
    go_wp2
    go_ret
    exact ⟨ret_bool (by simp [HI.out]), HB.out⟩

theorem valid_any (B : Nat) (t : Tok) (w : World) (hG : Glob B w) (hs : t.str.size ≤ 1000000000000) : Calls Tryd.prog 72 #[t.v] w fun e w' => e = .returned (.bool (validTok t)) ∧ Below w.heap.size w w' := by
  obtain ⟨tk, ti, ts, tl, tc⟩ := t
  have HV : Hid (validTok ⟨tk, ti, ts, ⟨tl, tc⟩⟩ = if tk = 1 then decide (ti = 0) && nameOk ts
    else if tk = 2 then decide (0 ≤ ti) && decide (ts.size = 0)
    else if tk = 3 then decide (ti = 0) && memS kwB ts
    else if tk = 4 then decide (ti = 0) && memS syB ts
    else false) := rfl
  dsimp only at hs
  by_cases h3 : tk = 3
  · subst h3
    refine (valid_3 B ti tl tc ts w hG).mono fun e w' ⟨he, hb⟩ => ⟨?_, hb⟩
    rw [he, HV.out]; simp
  by_cases h4 : tk = 4
  · subst h4
    refine (valid_4 B ti tl tc ts w hG).mono fun e w' ⟨he, hb⟩ => ⟨?_, hb⟩
    rw [he, HV.out]; simp
  have HB := Lib.hid ((Below.refl w.heap.size w).alloc (Nat.le_refl _) (.cells #[.int .i64 tk, .int .i64 ti, .string ts, .int .i64 tl, .int .i64 tc] 40))
  have HG := Lib.hid (hG.alloc (.cells #[.int .i64 tk, .int .i64 ti, .string ts, .int .i64 tl, .int .i64 tc] 40))
  clear hG
  by_cases h1 : tk = 1
  · subst h1
    by_cases hi : ti = 0
    · subst hi
      go_enter Tryd.func72, Tryd.ntmps72
      go_wp2_with (first | (go_at_call 82; refine (named_any B _ _ HG.out hs).mono ?_; rintro e w' ⟨rfl, rfl⟩))
      go_ret
      exact ⟨ret_bool (by rw [HV.out]; simp), HB.out⟩
    · have hib : (ti == 0) = false := by simpa using hi
      have HI := Lib.hid hi
      clear hi
      go_enter Tryd.func72, Tryd.ntmps72
      go_wp2
      go_ret
      exact ⟨ret_bool (by rw [HV.out]; simp [HI.out]), HB.out⟩
  by_cases h2 : tk = 2
  · subst h2
    go_enter Tryd.func72, Tryd.ntmps72
    go_wp2
    all_goals go_ret
    all_goals refine ⟨ret_bool ?_, HB.out⟩
    all_goals rw [HV.out]
    all_goals first | (simp_all; done) | (simp_all [toList_nil_iff]; done) | (simp_all [isEmpty_iff_size]; omega)
  have a1 : (tk == 1) = false := by simpa using h1
  have a2 : (tk == 2) = false := by simpa using h2
  have a3 : (tk == 3) = false := by simpa using h3
  have a4 : (tk == 4) = false := by simpa using h4
  have h0 : validTok ⟨tk, ti, ts, ⟨tl, tc⟩⟩ = false := by rw [HV.out]; simp [h1, h2, h3, h4]
  have H0 := Lib.hid h0
  clear h0 h1 h2 h3 h4
  go_enter Tryd.func72, Tryd.ntmps72
  go_wp2
  go_ret
  exact ⟨ret_bool H0.out.symm, HB.out⟩

/-- is the token one of these keywords? -/
def isKw (t : Tok) (l : List ByteArray) : Bool := decide (t.kind = 3) && memS l t.str

theorem keyword_any (t : Tok) (A : Option Addr) (n c B : Nat) (l : List ByteArray) (w : World) (h : Rd w B 1 A n (cellsOf scell l)) (hB : B ≤ w.heap.size) (hn : n ≤ 1000000000) :
    Calls Tryd.prog 86 #[t.v, .slice A n c] w fun e w' => e = .returned (.bool (isKw t l)) ∧ Below w.heap.size w w' := by
  obtain ⟨tk, ti, ts, tl, tc⟩ := t
  have HR := Lib.hid (h.alloc hB (.cells #[.int .i64 tk, .int .i64 ti, .string ts, .int .i64 tl, .int .i64 tc] 40))
  clear h
  have HB := Lib.hid ((Below.refl w.heap.size w).alloc (Nat.le_refl _) (.cells #[.int .i64 tk, .int .i64 ti, .string ts, .int .i64 tl, .int .i64 tc] 40))
  have HV : Hid (isKw ⟨tk, ti, ts, ⟨tl, tc⟩⟩ l = (decide (tk = 3) && memS l ts)) := rfl
  by_cases h3 : tk = 3
  · subst h3
    go_enter Tryd.func86, Tryd.ntmps86
    go_wp2_with (first | (go_at_call 83; refine (contains_any _ _ _ _ _ _ _ HR.out (by omega)).mono ?_; rintro e w' ⟨rfl, rfl⟩))
    go_ret
    exact ⟨ret_bool (by rw [HV.out]; simp), HB.out⟩
  · have a3 : (tk == 3) = false := by simpa using h3
    have H3 := Lib.hid h3
    clear h3
    go_enter Tryd.func86, Tryd.ntmps86
    go_wp2
    go_ret
    exact ⟨ret_bool (by rw [HV.out]; simp [H3.out]), HB.out⟩

end Go.Proofs.YtgfhkaamkodpjaaDoor
