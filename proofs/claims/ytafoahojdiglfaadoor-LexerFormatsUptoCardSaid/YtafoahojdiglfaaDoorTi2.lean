/- plain laws: texts of valid tokens with what separates them are scanned as these tokens -/
import Derived.Test.YtafoahojdiglfaaDoorTi
namespace Go.Proofs.YtafoahojdiglfaaDoor
open Go Go.RowKit
set_option maxHeartbeats 4000000
attribute [local irreducible] kwB syB clB

theorem skip_step (c : UInt8) (u : List UInt8) (p : Pos) : skipS (c :: u) p = if isSp c then skipS u (stepP c p) else if startsW [45, 45] (c :: u) then skipS ((c :: u).dropWhile notNl) (posAfter ((c :: u).takeWhile notNl) p)
    else if startsW [123, 45] (c :: u) then (if (commentS (c :: u) p 0).1 then skipS (commentS (c :: u) p 0).2.1 (commentS (c :: u) p 0).2.2 else (false, c :: u, p)) else (true, c :: u, p) := by
  rw [skipS, skipF]
  split
  · exact skipF_fuel _ _ _ _ (by simp) (by simp)
  · split
    · rename_i h2
      have h3 : ((c :: u).dropWhile notNl).length ≤ u.length := by
        have hc : c = 45 := by
          simp [startsW] at h2
          exact h2.1.symm
        subst hc
        rw [List.dropWhile_cons, if_pos (by decide)]
        exact List.Sublist.length_le (List.dropWhile_sublist _)
      exact skipF_fuel _ _ _ _ (by rw [List.length_cons]; omega) (by omega)
    · split
      · rename_i h2
        split
        · have h3 := commentS_lt (p := p) h2
          exact skipF_fuel _ _ _ _ (by omega) (by omega)
        · rfl
      · rfl
theorem skip_b (c : UInt8) (u : List UInt8) (p : Pos) (h : isSp c = true) : skipS (c :: u) p = skipS u (stepP c p) := by rw [skip_step, if_pos h]

/-- what is passed between tokens, whatever follows -/
def Passed (w : List UInt8) : Prop := ∀ x p, ∃ q, skipS (w ++ x) p = skipS x q
theorem Passed.nil : Passed [] := fun _ p => ⟨p, rfl⟩
theorem Passed.cons {c : UInt8} {w : List UInt8} (h : isSp c = true) (hw : Passed w) : Passed (c :: w) := fun x p => by
  obtain ⟨q, hq⟩ := hw x (stepP c p)
  exact ⟨q, by rw [List.cons_append, skip_b _ _ _ h, hq]⟩
theorem Passed.append {v w : List UInt8} (hv : Passed v) (hw : Passed w) : Passed (v ++ w) := fun x p => by
  obtain ⟨q, hq⟩ := hv (w ++ x) p
  obtain ⟨q', hq'⟩ := hw x q
  exact ⟨q', by rw [List.append_assoc, hq, hq']⟩
theorem Passed.line {u : List UInt8} (h1 : startsW [45, 45] u = true) (h2 : u.all notNl = true) : Passed (u ++ [10]) := fun x p => by
  cases u with
  | nil => cases h1
  | cons c u =>
    have hc : c = 45 := by
      simp [startsW] at h1
      exact h1.1.symm
    subst hc
    have hs : startsW [45, 45] (45 :: u ++ [10] ++ x) = true := by
      cases u with
      | nil => cases h1
      | cons e u =>
        simp [startsW, List.isPrefixOf] at h1 ⊢
        exact h1
    have hd : (45 :: u ++ [10] ++ x).dropWhile notNl = 10 :: x := by
      rw [List.append_assoc, List.dropWhile_append_of_pos (by simpa using h2)]
      rfl
    refine ⟨stepP 10 (posAfter ((45 :: u ++ [10] ++ x).takeWhile notNl) p), ?_⟩
    have hs' : startsW [45, 45] (45 :: (u ++ [10] ++ x)) = true := hs
    have hd' : (45 :: (u ++ [10] ++ x)).dropWhile notNl = 10 :: x := hd
    show skipS (45 :: (u ++ [10] ++ x)) p = _
    rw [skip_step, if_neg (by decide), if_pos hs', hd', skip_b 10 x _ (by decide)]
    rfl
theorem passed_c1 : Passed [123, 45, 32, 120, 32, 123, 45, 32, 121, 32, 45, 125, 32, 45, 45, 32, 45, 125] := fun x p => by
  refine ⟨posAfter [123, 45, 32, 120, 32, 123, 45, 32, 121, 32, 45, 125, 32, 45, 45, 32, 45, 125] p, ?_⟩
  have hc : commentS ([123, 45, 32, 120, 32, 123, 45, 32, 121, 32, 45, 125, 32, 45, 45, 32, 45, 125] ++ x) p 0 = (true, x, posAfter [123, 45, 32, 120, 32, 123, 45, 32, 121, 32, 45, 125, 32, 45, 45, 32, 45, 125] p) := by
    simp [commentS, posAfter]
  rw [List.cons_append] at hc ⊢
  rw [skip_step, if_neg (by decide), if_neg (by simp [startsW, List.isPrefixOf]), if_pos (by simp [startsW, List.isPrefixOf]), hc]
  rfl
theorem passed_c2 : Passed [123, 45, 45, 125] := fun x p => by
  refine ⟨posAfter [123, 45, 45, 125] p, ?_⟩
  have hc : commentS ([123, 45, 45, 125] ++ x) p 0 = (true, x, posAfter [123, 45, 45, 125] p) := by
    simp [commentS, posAfter]
  rw [List.cons_append] at hc ⊢
  rw [skip_step, if_neg (by decide), if_neg (by simp [startsW, List.isPrefixOf]), if_pos (by simp [startsW, List.isPrefixOf]), hc]
  rfl
/-- the separators of LexerSeparators -/
def sepL : List (List UInt8) := [[32], [10], [9, 13, 10], [32, 123, 45, 32, 120, 32, 123, 45, 32, 121, 32, 45, 125, 32, 45, 45, 32, 45, 125, 32], [32, 45, 45, 32, 122, 10], [32, 123, 45, 45, 125]]
theorem sepL_passed : ∀ w ∈ sepL, Passed w ∧ w ≠ [] ∧ SepB (w.headD 0) := by
  intro w hw
  simp only [sepL, List.mem_cons, List.not_mem_nil, or_false] at hw
  have s32 : isSp 32 = true := by decide
  rcases hw with rfl | rfl | rfl | rfl | rfl | rfl
  · exact ⟨Passed.cons s32 Passed.nil, by simp, .inl rfl⟩
  · exact ⟨Passed.cons (by decide) Passed.nil, by simp, .inr (.inl rfl)⟩
  · exact ⟨Passed.cons (by decide) (Passed.cons (by decide) (Passed.cons (by decide) Passed.nil)), by simp, .inr (.inr rfl)⟩
  · exact ⟨Passed.cons s32 (passed_c1.append (Passed.cons s32 Passed.nil)), by simp, .inl rfl⟩
  · exact ⟨Passed.cons s32 (Passed.line (u := [45, 45, 32, 122]) (by decide) (by decide)), by simp, .inl rfl⟩
  · exact ⟨Passed.cons s32 passed_c2, by simp, .inl rfl⟩

def txt : List (Tok × List UInt8) → List UInt8
  | [] => []
  | (t, w) :: r => textS t ++ (w ++ txt r)
def Good : List (Tok × List UInt8) → Prop
  | [] => True
  | (t, w) :: r => TextOk t ∧ Passed w ∧ SepR (w ++ txt r) ∧ Good r
/-- a token without its place -/
def bareT (t : Tok) : Int × Int × ByteArray := (t.kind, t.int, t.str)
theorem gscan : ∀ (l : List (Tok × List UInt8)) (n : Nat) (r0 : List UInt8) (p q : Pos) (acc : List Tok), Good l → skipS r0 p = skipS (txt l) q → acc.length + l.length ≤ 16384 →
    ∃ out, scanF (n + 1 + l.length) r0 p acc = (acc ++ out, ⟨0, 0⟩, 0) ∧ out.map bareT = l.map fun x => bareT x.1
  | [], n, r0, p, q, acc, _, hs, _ => by
    refine ⟨[], ?_, rfl⟩
    rw [List.length_nil, Nat.add_zero, scanF, hs, show txt [] = [] from rfl]
    simp [skipS, skipF]
  | (t, w) :: r, n, r0, p, q, acc, hg, hs, ha => by
    obtain ⟨h1, h2, h3, h4⟩ := hg
    rw [List.length_cons] at ha
    rw [txt, h1.skip h3] at hs
    rw [List.length_cons, show n + 1 + (r.length + 1) = (n + 1 + r.length) + 1 by omega, h1.scan h3 hs (by omega)]
    obtain ⟨q', hq'⟩ := h2 (txt r) (posAfter (textS t) q)
    obtain ⟨out, ho1, ho2⟩ := gscan r n (w ++ txt r) (posAfter (textS t) q) q' (acc ++ [⟨t.kind, t.int, t.str, q⟩]) h4 hq' (by simp; omega)
    refine ⟨⟨t.kind, t.int, t.str, q⟩ :: out, ?_, ?_⟩
    · rw [ho1]; simp
    · rw [List.map_cons, List.map_cons, ho2]; rfl
theorem txt_len : ∀ (l : List (Tok × List UInt8)), Good l → l.length ≤ (txt l).length
  | [], _ => Nat.le_refl _
  | (t, w) :: r, hg => by
    have := txt_len r hg.2.2.2
    have h1 : 1 ≤ (textS t).length := by
      have := hg.1.ne
      cases h : textS t with
      | nil => exact absurd h this
      | cons c u => simp
    rw [txt, List.length_append, List.length_append, List.length_cons]
    omega
theorem gscanS (l : List (Tok × List UInt8)) (hg : Good l) (hl : l.length ≤ 16384) (ht : (txt l).length ≤ 65536) : ∃ out, scanS (txt l) = (out, ⟨0, 0⟩, 0) ∧ out.map bareT = l.map fun x => bareT x.1 := by
  have h1 := txt_len l hg
  obtain ⟨out, h2, h3⟩ := gscan l ((txt l).length - l.length) (txt l) ⟨1, 1⟩ ⟨1, 1⟩ [] hg rfl (by simpa using hl)
  refine ⟨out, ?_, h3⟩
  rw [scanS, if_neg (by omega), show (txt l).length + 1 = (txt l).length - l.length + 1 + l.length by omega, h2]
  rfl

/-- texts with a space between them -/
def joinL : List Tok → List (Tok × List UInt8)
  | [] => []
  | [t] => [(t, [])]
  | t :: u :: r => (t, [32]) :: joinL (u :: r)
theorem joinL_len : ∀ l : List Tok, (joinL l).length = l.length
  | [] => rfl
  | [t] => rfl
  | t :: u :: r => by rw [joinL, List.length_cons, joinL_len]; rfl
theorem joinL_map (f : Tok → Int × Int × ByteArray) : ∀ l : List Tok, ((joinL l).map fun x => f x.1) = l.map f
  | [] => rfl
  | [t] => rfl
  | t :: u :: r => by rw [joinL, List.map_cons, joinL_map]; rfl
theorem joinL_good : ∀ l : List Tok, (∀ t ∈ l, TextOk t) → Good (joinL l)
  | [], _ => trivial
  | [t], h => ⟨h t List.mem_cons_self, Passed.nil, .inl rfl, trivial⟩
  | t :: u :: r, h => ⟨h t List.mem_cons_self, Passed.cons (by decide) Passed.nil, .inr ⟨32, _, .inl rfl, rfl⟩, joinL_good (u :: r) (fun x hx => h x (List.mem_cons_of_mem _ hx))⟩
theorem joinL_txt_len : ∀ l : List Tok, (∀ t ∈ l, TextOk t) → (txt (joinL l)).length ≤ 65 * l.length
  | [], _ => Nat.le_refl _
  | [t], h => by
    have := (h t List.mem_cons_self).len
    simp [joinL, txt]
    omega
  | t :: u :: r, h => by
    have h1 := (h t List.mem_cons_self).len
    have h2 := joinL_txt_len (u :: r) (fun x hx => h x (List.mem_cons_of_mem _ hx))
    rw [joinL, txt, List.length_append, List.length_append]
    simp at h2 ⊢
    omega
/-- LexerRoundTrip, plainly -/
theorem round_trip (l : List Tok) (h : ∀ t ∈ l, TextOk t) (hl : l.length ≤ 1000) : ∃ out, scanS (txt (joinL l)) = (out, ⟨0, 0⟩, 0) ∧ out.map bareT = l.map bareT := by
  have h1 := joinL_txt_len l h
  obtain ⟨out, h2, h3⟩ := gscanS (joinL l) (joinL_good l h) (by rw [joinL_len]; omega) (by omega)
  exact ⟨out, h2, by rw [h3, joinL_map]⟩
/-- texts with separators behind them -/
def sepJ : List Tok → List (List UInt8) → List (Tok × List UInt8)
  | [], _ => []
  | t :: r, [] => (t, [32]) :: sepJ r []
  | t :: r, w :: ws => (t, w ++ [32]) :: sepJ r ws
theorem sepJ_good : ∀ (l : List Tok) (ws : List (List UInt8)), (∀ t ∈ l, TextOk t) → (∀ w ∈ ws, w ∈ sepL) → Good (sepJ l ws)
  | [], _, _, _ => trivial
  | t :: r, [], h, hw => ⟨h t List.mem_cons_self, Passed.cons (by decide) Passed.nil, .inr ⟨32, _, .inl rfl, rfl⟩, sepJ_good r [] (fun x hx => h x (List.mem_cons_of_mem _ hx)) hw⟩
  | t :: r, w :: ws, h, hw => by
    obtain ⟨h1, h2, h3⟩ := sepL_passed w (hw w List.mem_cons_self)
    refine ⟨h t List.mem_cons_self, h1.append (Passed.cons (by decide) Passed.nil), ?_, sepJ_good r ws (fun x hx => h x (List.mem_cons_of_mem _ hx)) (fun x hx => hw x (List.mem_cons_of_mem _ hx))⟩
    cases w with
    | nil => exact absurd rfl h2
    | cons c w => exact .inr ⟨c, _, h3, rfl⟩

end Go.Proofs.YtafoahojdiglfaaDoor
