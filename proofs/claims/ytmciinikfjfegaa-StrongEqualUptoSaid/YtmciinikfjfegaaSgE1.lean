/- a clone of rows; what Equal answers -/
import Derived.Test.YtmciinikfjfegaaSgV7
import Derived.Test.YtmciinikfjfegaaSgN4
import Derived.Test.YtmciinikfjfegaaSgW7
namespace Go.Proofs.Ytmciinikfjfegaa
open Go Go.RowKit
set_option maxHeartbeats 8000000

set_option maxRecDepth 100000 in
theorem rowsclone_any (A : Option Addr) (n c B : Nat) (vs : List Value) (w : World) (h : Rd w B 1 A n vs) (h1 : ∀ u ∈ vs, u.oneCell' = true) (hB : B ≤ w.heap.size) (hn : n ≤ 1000000000) :
    Calls Try.prog 48 #[.slice A n c] w fun e w' => (∃ v, e = .returned v ∧ w'.ownsRow 0 24 1 v n vs ∧ ∀ g, v.ownBlock = some g → w.heap.size ≤ g) ∧ Below w.heap.size w w' := by
  have H := Lib.hid h
  have H1 := Lib.hid h1
  have HOW := Lib.hid (show (w.alloc (Obj.cells #[] 24)).ownsRow 0 24 1 (.slice (some ⟨w.heap.size, 0, none⟩) 0 0) 0 [] from
    ⟨rfl, .inr ⟨w.heap.size, 0, #[], rfl, Nat.zero_le _, heap_alloc_new w _, Nat.le_refl _, by simp [maxLen], rfl, rfl⟩⟩)
  clear h h1
  cases A with
  | none =>
    have hn0 : n = 0 := by
      rcases Nat.eq_zero_or_pos n with e | e
      · exact e
      · obtain ⟨_, _, e, _⟩ := H.out.2 e
        cases e
    subst hn0
    have HC := Lib.hid (show vs = [] from List.eq_nil_of_length_eq_zero (by simpa using H.out.1))
    go_enter Try.func48, Try.ntmps48
    have ke : (binOp .eql 25 (.slice none 0 c) (.slice none 0 0)).run Try.prog w = .ok (.bool true) w := Lib.run_eql_slice_nil w 25 24 none 0 c 0 0 Try.underlying25
    go_wp2_with fail
    go_ret
    exact ⟨⟨_, rfl, by rw [HC.out]; exact World.ownsRow_nil _ _ _ _, fun g hg => absurd hg (by simp [Value.ownBlock])⟩, Below.refl _ _⟩
  | some ad =>
    have ke : (binOp .eql 25 (.slice (some ad) n c) (.slice none 0 0)).run Try.prog w = .ok (.bool false) w := Lib.run_eql_slice_nil w 25 24 (some ad) n c 0 0 Try.underlying25
    go_enter Try.func48, Try.ntmps48
    go_wp2_with (first
      | (at_builtin; refine appList_opt rfl slRow rfl HOW.out rfl (H.out.alloc hB (Obj.cells #[] 24)) (c := c) rfl H1.out (by unfold maxLen; omega) (by omega) ?_; intro v7 w7 hown7 hgrow7 hat7; rw [Nat.zero_add, List.nil_append] at hown7; refine Stop7.intro ?_))
    unfold Stop7
    have hO7 : Outside (fun k => k = w.heap.size) w w7 := ((Outside.refl (fun k => k = w.heap.size) w).alloc (.cells #[] 24)).grown hgrow7 (fun z hz => by
      have h1 : w.heap.size = z := by simpa [Value.ownBlock] using hz
      exact .inl h1.symm)
    have HF := Lib.hid (show w7.ownsRow 0 24 1 v7 n vs ∧ Below w.heap.size w w7 ∧ ∀ g, v7.ownBlock = some g → w.heap.size ≤ g from
      ⟨hown7, hO7.below (Nat.le_refl _) (fun k hk e => by omega), fun g hg => by
        rcases hat7 with h1 | h1
        · rw [h1] at hg
          have h2 : w.heap.size = g := by simpa [Value.ownBlock] using hg
          omega
        · rw [h1] at hg
          simp at hg
          omega⟩)
    clear hO7 hown7 hgrow7 hat7
    go_wp2_with fail
    go_ret
    exact ⟨⟨_, rfl, HF.out.1, HF.out.2.2⟩, HF.out.2.1⟩

/-- what Equal answers -/
def EqIs (la lb : List (List Arc)) (q : Bool) : Prop :=
  (validB la && validB lb) = false ∧ q = false ∨ (validB la && validB lb) = true ∧ ∃ K, DoneR (bothL la lb) K ∧ (q = true ↔ agr (bothL la lb) K 0 la.length)
theorem EqIs.unique {la lb : List (List Arc)} {q q' : Bool} (h : EqIs la lb q) (h' : EqIs la lb q') : q = q' := by
  rcases h with ⟨h1, h2⟩ | ⟨h1, K, h2, h3⟩ <;> rcases h' with ⟨k1, k2⟩ | ⟨k1, K', k2, k3⟩
  · rw [h2, k2]
  · rw [h1] at k1; cases k1
  · rw [h1] at k1; cases k1
  · obtain rfl := h2.unique k2
    exact Bool.eq_iff_iff.2 (h3.trans k3.symm)
theorem both_ok {la lb : List (List Arc)} {n n' : Nat} (hV : (validB la && validB lb) = true) (ha : la.length = n) (hb : lb.length = n') (hsa : ∀ l ∈ la, l.length ≤ 100000) (hsb : ∀ l ∈ lb, l.length ≤ 100000) :
    OkL (bothL la lb) (n + n') ∧ 1 ≤ n ∧ n ≤ 16384 ∧ 1 ≤ n' ∧ n' ≤ 16384 ∧ (∀ l ∈ lb, ∀ x ∈ l, 0 ≤ x.to ∧ x.to ≤ 16384) := by
  rw [Bool.and_eq_true] at hV
  obtain ⟨a1, a2, a3, _⟩ := loose_tos (valid_parts hV.1).1
  obtain ⟨b1, b2, b3, _⟩ := loose_tos (valid_parts hV.2).1
  have oa := ok_of_valid hV.1 ha hsa
  have ob := ok_of_valid hV.2 hb hsb
  refine ⟨⟨by rw [both_len, ha, hb], by omega, both_tos a1 b1, fun l hl x hx => ?_, fun l hl => ?_⟩, by omega, by omega, by omega, by omega, fun l hl x hx => by have := b1 l hl x hx; omega⟩
  · rw [both_mvd, List.mem_append] at hl
    rcases hl with hl | hl
    · exact oa.ev l hl x hx
    · obtain ⟨l', hl', rfl⟩ := List.mem_map.1 hl
      obtain ⟨y, hy, rfl⟩ := List.mem_map.1 hx
      exact ob.ev l' hl' y hy
  · rw [both_mvd, List.mem_append] at hl
    rcases hl with hl | hl
    · exact hsa l hl
    · obtain ⟨l', hl', rfl⟩ := List.mem_map.1 hl
      rw [mvd_len]
      exact hsb l' hl'
theorem set_to (Q R : List Arc) (x : Arc) (t : Int) : (cellsOf Arc.cells (Q ++ x :: R)).set (Q.length * 2 + 1) (.int .i64 t) = cellsOf Arc.cells (Q ++ ⟨x.ev, t⟩ :: R) := by
  rw [cellsOf_append, cellsOf_append, List.set_append, if_neg (by rw [cellsOf_length Arc.cells_len]; omega), cellsOf_length Arc.cells_len]
  congr 1
  rw [show Q.length * 2 + 1 - Q.length * 2 = 1 by omega]
  rfl
theorem both_take {la lb : List (List Arc)} {n k : Nat} {l : List Arc} (h : lb[k]? = some l) : la ++ (lb.take (k + 1)).map (mvd n) = (la ++ (lb.take k).map (mvd n)) ++ [mvd n l] := by
  rw [List.take_add_one, h, List.map_append, List.append_assoc]
  rfl
/-- a block of another kind is written: the rows stand -/
theorem RowsM.outB {w w' : World} {W0 W k X : Nat} {v : Value} {xs : List Value} {ls : List (List Arc)} {ty : TypeId} {cs : Array Value} (h : RowsM w W0 W v k xs ls) (hX : Blk w X ty cs) (h1 : 24 ≠ ty) (h2 : 23 ≠ ty)
    (hO : Outside (fun x => x = X) w w') (hb : Below W0 w w') : RowsM w' W0 W v k xs ls :=
  ⟨own_out h.own hO fun g hg e => own_apart h.own hX h1 (by rw [hg, e]), h.base, h.len, fun j l hl => by
    obtain ⟨u, h3, h4⟩ := h.rows j l hl
    refine ⟨u, h3, ?_⟩
    rcases h4 with ⟨A, n, c, e, h5⟩ | ⟨h4, h5⟩
    · exact .inl ⟨A, n, c, e, h5.below hb⟩
    · exact .inr ⟨own_out h4 hO fun g hg e => own_apart h4 hX h2 (by rw [hg, e]), h5⟩⟩

end Go.Proofs.Ytmciinikfjfegaa
