/- what Unpack answers: plain laws; equal bytes; rows that are read, one behind the other -/
import Derived.Test.YtonpdclccgpceaaRwH1
import Derived.Test.YtonpdclccgpceaaRwH2
import Derived.Test.YtonpdclccgpceaaRwG3
import Derived.Test.YtonpdclccgpceaaRwP
namespace Go.Proofs.Ytonpdclccgpceaa
open Go Go.RowKit
set_option maxHeartbeats 4000000

theorem strN_data (l : List Nat) : (strN l).data.toList = l.map fun n => UInt8.ofNat n := by
  rw [strN, strOfNums_data, List.map_map]
  apply List.map_congr_left
  intro n _
  simp
theorem strN_inj {l l' : List Nat} (h1 : ∀ b ∈ l, b < 256) (h2 : ∀ b ∈ l', b < 256) (h : strN l = strN l') : l = l' := by
  have e : (strN l).data.toList = (strN l').data.toList := by rw [h]
  rw [strN_data, strN_data] at e
  have back : ∀ l : List Nat, (∀ b ∈ l, b < 256) → (l.map fun n => UInt8.ofNat n).map UInt8.toNat = l := fun l h => by
    rw [List.map_map]
    conv => rhs; rw [← List.map_id l]
    apply List.map_congr_left
    intro n hn
    have := h n hn
    simp
    omega
  rw [← back l h1, e, back l' h2]
theorem strN_eq {l l' : List Nat} (h1 : ∀ b ∈ l, b < 256) (h2 : ∀ b ∈ l', b < 256) : (strN l = strN l') ↔ l = l' := ⟨strN_inj h1 h2, fun h => by rw [h]⟩

theorem equal_any (ad ad' : Addr) (n c n' c' B B' : Nat) (l l' : List Nat) (w : World) (h : Rd w B 1 (some ad) n (cellsOf ucell l)) (h' : Rd w B' 1 (some ad') n' (cellsOf ucell l')) (h0 : 0 < n) (h0' : 0 < n')
    (hb : ∀ b ∈ l, b < 256) (hb' : ∀ b ∈ l', b < 256) : Calls Try.prog 49 #[.slice (some ad) n c, .slice (some ad') n' c'] w fun e w' => (∃ q, e = .returned (.bool q) ∧ (q = true ↔ l = l')) ∧ w = w' := by
  have C1 := conv_any (c := c) w h h0
  have C2 := conv_any (c := c') w h' h0'
  have HE := Lib.hid (strN_eq hb hb')
  clear h h' hb hb'
  go_enter Try.func49, Try.ntmps49
  go_wp2_with fail
  go_ret
  refine ⟨⟨_, rfl, ?_⟩, rfl⟩
  exact Iff.trans ⟨str_eq, fun h => by rw [h]; exact beq_self_eq_true _⟩ HE.out

/-- rows that were read, in an outer row of one's own, in blocks from W on -/
structure RowsX (w : World) (W : Nat) (v : Value) (k : Nat) (xs : List Value) (ls : List (List Arc)) : Prop where
  own : w.ownsRow 0 49 1 v k xs
  base : ∀ g, v.ownBlock = some g → W ≤ g
  len : ls.length = k
  rows : ∀ (j : Nat) (l : List Arc), ls[j]? = some l → ∃ u, xs[j]? = some u ∧ w.ownsRow 0 55 2 u l.length (cellsOf Arc.cells l) ∧ ∀ g, u.ownBlock = some g → W ≤ g
section
variable {w w' : World} {W k : Nat} {v v' u : Value} {xs : List Value} {ls : List (List Arc)} {R : Nat → Prop}
theorem RowsX.nil (w : World) (W : Nat) : RowsX w W (.slice none 0 0) 0 [] [] := ⟨World.ownsRow_nil _ _ _ _, fun g hg => by simp [Value.ownBlock] at hg, rfl, fun j l h => by simp at h⟩
theorem RowsX.out (h : RowsX w W v k xs ls) (hO : Outside R w w') (hR : ∀ g, W ≤ g → g < w.heap.size → ¬ R g) : RowsX w' W v k xs ls :=
  ⟨own_out h.own hO fun g hg => hR g (h.base g hg) (own_lt h.own hg), h.base, h.len, fun j l hl => by
    obtain ⟨u, h1, h2, h3⟩ := h.rows j l hl
    exact ⟨u, h1, own_out h2 hO fun g hg => hR g (h3 g hg) (own_lt h2 hg), h3⟩⟩
/-- one row more -/
theorem RowsX.snoc {l : List Arc} (h : RowsX w W v k xs ls) (hown : w'.ownsRow 0 49 1 v' (k + 1) (xs ++ [u])) (hb : ∀ g, v'.ownBlock = some g → W ≤ g)
    (hO : Outside (fun k => v.ownBlock = some k) w w') (hu : w.ownsRow 0 55 2 u l.length (cellsOf Arc.cells l)) (hu2 : ∀ g, u.ownBlock = some g → W ≤ g) : RowsX w' W v' (k + 1) (xs ++ [u]) (ls ++ [l]) := by
  have hk : ∀ (u' : Value) (l' : List Arc), w.ownsRow 0 55 2 u' l'.length (cellsOf Arc.cells l') → w'.ownsRow 0 55 2 u' l'.length (cellsOf Arc.cells l') := fun u' l' h1 =>
    own_out h1 hO fun g hg e => own_apart_own h1 h.own (by decide) hg e
  have hx : xs.length = k := by have := h.own.1; omega
  refine ⟨hown, hb, by rw [List.length_append, h.len]; rfl, fun j l' hl => ?_⟩
  by_cases hj : j < ls.length
  · rw [List.getElem?_append_left hj] at hl
    obtain ⟨u', h1, h2, h3⟩ := h.rows j l' hl
    exact ⟨u', by rw [List.getElem?_append_left (by rw [hx, ← h.len]; exact hj)]; exact h1, hk _ _ h2, h3⟩
  · have hjk : j = k := by
      have := (List.getElem?_eq_some_iff.1 hl).1
      rw [List.length_append, h.len, List.length_singleton] at this
      rw [h.len] at hj
      omega
    subst hjk
    rw [List.getElem?_append_right (by rw [h.len]; exact Nat.le_refl _), h.len, Nat.sub_self] at hl
    cases hl
    refine ⟨u, ?_, hk _ _ hu, hu2⟩
    rw [List.getElem?_append_right (by rw [hx]; exact Nat.le_refl _), hx, Nat.sub_self]
    rfl
theorem RowsX.whole {A : Option Addr} {c : Nat} (h : RowsX w W (.slice A k c) k xs ls) : RdL w w.heap.size A k ls := by
  refine ⟨xs, Rd.ofOwn h.own, h.len, fun j l hl => ?_⟩
  obtain ⟨u, h1, h2, _⟩ := h.rows j l hl
  obtain ⟨A', c', rfl, _, _⟩ := own_form h2
  exact ⟨A', l.length, c', h1, Rd.ofOwn h2⟩
end

/-- the error of bytes that are no packed form -/
def errB (b : List Nat) : Nat := if 1048576 < b.length then 10 else if b.length < 8 then 23 else if sealedB b = false then 24 else 22
/-- what Unpack answers: the system, where there is one -/
structure UnpRel (b : List Nat) (ls : List (List Arc)) (err : Nat) : Prop where
  good : ∀ ls', validB ls' = true → packB ls' = b → b.length ≤ 1048576 → err = 0 ∧ ls = ls'
  zero : err = 0 → validB ls = true ∧ packB ls = b ∧ b.length ≤ 1048576
  bad : err ≠ 0 → ls = [] ∧ err = errB b
theorem UnpRel.unique {b : List Nat} {ls ls' : List (List Arc)} {err err' : Nat} (h : UnpRel b ls err) (h' : UnpRel b ls' err') : err = err' ∧ ls = ls' := by
  by_cases e : err = 0
  · obtain ⟨h1, h2, h3⟩ := h.zero e
    obtain ⟨h4, h5⟩ := h'.good ls h1 h2 h3
    exact ⟨by omega, h5.symm⟩
  · by_cases e' : err' = 0
    · obtain ⟨h1, h2, h3⟩ := h'.zero e'
      exact absurd (h.good ls' h1 h2 h3).1 e
    · obtain ⟨h1, h2⟩ := h.bad e
      obtain ⟨h3, h4⟩ := h'.bad e'
      exact ⟨by rw [h2, h4], by rw [h1, h3]⟩
theorem sum4_len (x : Int) : (sum4 x).length = 4 := rfl
theorem packB_len (ls : List (List Arc)) : (packB ls).length = (bodyB ls).length + 4 := by rw [packB, sealB, List.length_append, sum4_len]
theorem uv_pos (n : Nat) : 1 ≤ (uv n).length := by
  obtain ⟨x, r, h⟩ := uv_ne n
  rw [h, List.length_cons]
  omega
theorem bodyB_min (ls : List (List Arc)) : 4 ≤ (bodyB ls).length := by
  have h1 := uv_pos ls.length
  have h2 := uv_pos (total ls)
  rw [bodyB, headB]
  simp only [List.length_append, List.length_cons, List.length_nil]
  omega
theorem packB_min (ls : List (List Arc)) : 8 ≤ (packB ls).length := by
  have := bodyB_min ls
  rw [packB_len]
  omega
theorem sealB_take (l : List Nat) : (sealB l).take ((sealB l).length - 4) = l := by
  have h : (sealB l).length - 4 = l.length := by rw [sealB, List.length_append, sum4_len]; omega
  rw [h, sealB]
  exact List.take_left
theorem sealed_pack (l : List Nat) : sealedB (sealB l) = true := by
  have h : (sealB l).length = l.length + 4 := by rw [sealB, List.length_append, sum4_len]
  have h1 : (sealB l).length - 4 = l.length := by omega
  rw [sealedB, h1, Bool.and_eq_true]
  refine ⟨decide_eq_true (by omega), decide_eq_true ?_⟩
  have e1 : (sealB l).drop l.length = sum4 (crcF l) := by rw [sealB]; exact List.drop_left
  have e2 : (sealB l).take l.length = l := by rw [sealB]; exact List.take_left
  rw [e1, e2]
theorem pack_byte (ls : List (List Arc)) : ∀ b ∈ packB ls, b < 256 := by
  intro b hb
  rcases List.mem_append.1 hb with h | h
  · exact body_byte ls b h
  · have := crcF_in (bodyB ls)
    exact sum4_byte this.1 this.2 b h
theorem gsz_le (ls : List (List Arc)) (g : Nat) : gsz ls g ≤ (packB ls).length := by
  have h1 := gszK_le ls g ls.length (Nat.le_refl _)
  rw [gszK_all ls _ g (Nat.le_refl _), List.take_of_length_le (by rw [rows_len]; exact Nat.le_refl _)] at h1
  rw [packB_len, bodyB, List.length_append]
  omega
/-- the head of a packed system stands at its start -/
theorem headG_of {ls : List (List Arc)} {l rest : List Nat} (hv : validB ls = true) (hs : (packB ls).length ≤ 1048576) (hl : l = bodyB ls ++ rest) : HeadG false l 0 ls ((rowsOf ls).flatten ++ rest) := by
  have hp := Pk.of hv
  refine ⟨rfl, ?_, hp.n2, hp.tot, fun g => Nat.le_trans (gsz_le ls g) hs⟩
  rw [hl, bodyB, List.drop_zero]
  simp only [List.append_assoc]
/-- the rows stand behind the head -/
theorem headG_rows {ls : List (List Arc)} {l rest : List Nat} (hl : l = bodyB ls ++ rest) : l.drop (0 + (headB ls).length + (sizesB ls ((ls.length + 15) / 16)).length) = ((rowsOf ls).drop 0).flatten ++ rest := by
  rw [hl, bodyB, Nat.zero_add, ← List.length_append, List.append_assoc]
  exact List.drop_left
/-- where row s stands -/
theorem rowG_of {ls : List (List Arc)} {l rest : List Nat} {s q : Nat} {r : List Arc} {bk : Bool} (hv : validB ls = true) (hr : ls[s]? = some r) (hb : bk = false) (hl : l.drop q = ((rowsOf ls).drop s).flatten ++ rest) :
    RowG bk l q s ls.length r (((rowsOf ls).drop (s + 1)).flatten ++ rest) := by
  have hp := Pk.of hv
  have hm := List.mem_of_getElem? hr
  obtain ⟨hk, he⟩ := List.getElem?_eq_some_iff.1 (rows_get hr)
  refine ⟨hb, ?_, fun a ha => ?_, hp.asc r hm, hp.row hm⟩
  · rw [hl, List.drop_eq_getElem_cons hk, he, List.flatten_cons, List.append_assoc]
  · unfold validB looseB at hv
    simp only [Bool.and_eq_true, decide_eq_true_eq] at hv
    have h6 := List.all_eq_true.1 (List.all_eq_true.1 hv.1.2 r hm) a ha
    unfold okA at h6
    simp only [Bool.and_eq_true, decide_eq_true_eq] at h6
    exact ⟨h6.1.1, h6.1.2, h6.2.1, h6.2.2⟩
theorem rowG_next {ls : List (List Arc)} {l rest : List Nat} {s q : Nat} {r : List Arc} {bk : Bool} (h : RowG bk l q s ls.length r (((rowsOf ls).drop (s + 1)).flatten ++ rest)) :
    l.drop (q + (rowF s r).length) = ((rowsOf ls).drop (s + 1)).flatten ++ rest := drop_app h.at_

end Go.Proofs.Ytonpdclccgpceaa
