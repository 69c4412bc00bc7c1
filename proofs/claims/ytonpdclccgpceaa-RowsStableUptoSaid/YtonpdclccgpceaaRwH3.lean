/- whether bytes are sealed: the program's Sealed; what Unpack answers: plain laws; equal bytes; rows that are read, one behind the other -/
import Derived.Test.YtonpdclccgpceaaRwC
import Derived.Test.YtonpdclccgpceaaRwH1
import Derived.Test.YtonpdclccgpceaaRwG3
import Derived.Test.YtonpdclccgpceaaRwP
namespace Go.Proofs.Ytonpdclccgpceaa
open Go Go.RowKit
set_option maxHeartbeats 4000000

theorem Rd.utake {w : World} {B n : Nat} {A : Option Addr} {l : List Nat} (h : Rd w B 1 A n (cellsOf ucell l)) {i : Nat} (hi : i ≤ n) : Rd w B 1 A i (cellsOf ucell (l.take i)) := by
  have hl := h.len ucell_len (by decide)
  refine ⟨by rw [cellsOf_length ucell_len, List.length_take]; omega, fun h0 => ?_⟩
  obtain ⟨b, o, e, hb, hc⟩ := h.2 (by omega)
  refine ⟨b, o, e, hb, fun j u hu => hc j u ?_⟩
  have hj : j < i := by
    have h1 := (List.getElem?_eq_some_iff.1 hu).1
    rw [cellsOf_length ucell_len, List.length_take] at h1
    omega
  have e1 : cellsOf ucell l = cellsOf ucell (l.take i) ++ cellsOf ucell (l.drop i) := by rw [← cellsOf_append, List.take_append_drop]
  rw [e1, List.getElem?_append_left (by rw [cellsOf_length ucell_len, List.length_take]; omega)]
  exact hu
/-- the last four bytes are the checksum of those before -/
def sealedB (l : List Nat) : Bool := decide (4 ≤ l.length) && decide (l.drop (l.length - 4) = sum4 (crcF (l.take (l.length - 4))))
theorem drop4 {l : List Nat} {m a b c d : Nat} (hl : l.length = m + 4) (h0 : l[m]? = some a) (h1 : l[m + 1]? = some b) (h2 : l[m + 2]? = some c) (h3 : l[m + 3]? = some d) : l.drop m = [a, b, c, d] := by
  have key : ∀ i x, l[i]? = some x → l.drop i = x :: l.drop (i + 1) := fun i x h => by
    obtain ⟨hi, e⟩ := List.getElem?_eq_some_iff.1 h
    rw [List.drop_eq_getElem_cons hi, e]
  rw [key m a h0, key (m + 1) b h1, key (m + 2) c h2, key (m + 3) d h3, List.drop_eq_nil_of_le (by omega)]
theorem sealedB_of {l : List Nat} {m a b c d : Nat} {x : Int} (hl : l.length = m + 4) (h0 : l[m]? = some a) (h1 : l[m + 1]? = some b) (h2 : l[m + 2]? = some c) (h3 : l[m + 3]? = some d) (hx : crcF (l.take m) = x) (x0 : 0 ≤ x) :
    sealedB l = decide ((a : Int) = x / 16777216 ∧ (b : Int) = x / 65536 % 256 ∧ (c : Int) = x / 256 % 256 ∧ (d : Int) = x % 256) := by
  have e1 : l.length - 4 = m := by omega
  rw [sealedB, e1, hx, drop4 hl h0 h1 h2 h3, sum4]
  have e2 : decide (4 ≤ l.length) = true := decide_eq_true (by omega)
  rw [e2, Bool.true_and]
  apply decide_eq_decide.2
  simp only [List.cons.injEq, and_true]
  omega

set_option maxRecDepth 100000 in
theorem csealed_any (A : Option Addr) (m c B : Nat) (l : List Nat) (w : World) (h : Rd w B 1 A (m + 4) (cellsOf ucell l)) (hb : ∀ b ∈ l, b < 256) (hn : m ≤ 100000000) (hc : m + 4 ≤ c) :
    Calls Try.prog 46 #[.slice A (m + 4 : Nat) c] w fun e w' => e = .returned (.bool (sealedB l)) ∧ w = w' := by
  have HT := Lib.hid (h.utake (i := m) (by omega))
  have HB := Lib.hid (show ∀ b ∈ l.take m, b < 256 from fun b h => hb b (List.mem_of_mem_take h))
  have HN := Lib.hid (h.len ucell_len (by decide))
  obtain ⟨b0, o0, y0, rfl, hb0, hy0, c0⟩ := h.ubyte (i := m) (by omega)
  obtain ⟨b1, o1, y1, e1, hb1, hy1, c1⟩ := h.ubyte (i := m + 1) (by omega)
  obtain ⟨b2, o2, y2, e2, hb2, hy2, c2⟩ := h.ubyte (i := m + 2) (by omega)
  obtain ⟨b3, o3, y3, e3, hb3, hy3, c3⟩ := h.ubyte (i := m + 3) (by omega)
  obtain ⟨rfl, rfl⟩ : b0 = b1 ∧ o0 = o1 := by simpa using e1
  obtain ⟨rfl, rfl⟩ : b0 = b2 ∧ o0 = o2 := by simpa using e2
  obtain ⟨rfl, rfl⟩ : b0 = b3 ∧ o0 = o3 := by simpa using e3
  obtain ⟨x, hx⟩ : ∃ x, crcF (l.take m) = x := ⟨_, rfl⟩
  have hxi := crcF_in (l.take m)
  rw [hx] at hxi
  obtain ⟨hx0, hx1⟩ := hxi
  have HX := Lib.hid hx
  have HR := Lib.hid (sealedB_of HN.out hy0 hy1 hy2 hy3 hx hx0)
  clear h hb e1 e2 e3 hb1 hb2 hb3 hy0 hy1 hy2 hy3 hx
  go_enter Try.func46, Try.ntmps46
  go_wp2_with fail
  refine (checksum_any (some ⟨b0, o0, none⟩) m c B (l.take m) _ HT.out HB.out (by omega)).mono ?_
  rw [HX.out]
  rintro e w1 ⟨rfl, rfl⟩
  by_cases k0 : (y0 : Int) = x / 16777216
  · by_cases k1 : (y1 : Int) = x / 65536 % 256
    · by_cases k2 : (y2 : Int) = x / 256 % 256
      · go_wp2
        go_ret
        exact ⟨by rw [HR.out]; simp [k0, k1, k2]; rfl, rfl⟩
      · go_wp2
        go_ret
        exact ⟨by rw [HR.out]; simp [k2], rfl⟩
    · go_wp2
      go_ret
      exact ⟨by rw [HR.out]; simp [k1], rfl⟩
  · go_wp2
    go_ret
    exact ⟨by rw [HR.out]; simp [k0], rfl⟩

end Go.Proofs.Ytonpdclccgpceaa
namespace Go.Proofs.Ytonpdclccgpceaa
open Go Go.RowKit
set_option maxHeartbeats 4000000

theorem strN_data (l : List Nat) : (strN l).data.toList = l.map fun n => UInt8.ofNat n := by
  rw [strN, strOfNums_data, List.map_map]
  apply List.map_congr_left
  intro n _
  simp
theorem strN_inj {l l' : List Nat} (h1 : ∀ b ∈ l, b < 256) (h2 : ∀ b ∈ l', b < 256) (h : strN l = strN l') : l = l' := by
  have e : (strN l).data.toList = (strN l').data.toList := by rw [h]
  rw [strN_data, strN_data] at e
  have back : ∀ l : List Nat, (∀ b ∈ l, b < 256) → (l.map fun n => UInt8.ofNat n).map UInt8.toNat = l := fun l h => by
    rw [List.map_map]
    conv => rhs; rw [← List.map_id l]
    apply List.map_congr_left
    intro n hn
    have := h n hn
    simp
    omega
  rw [← back l h1, e, back l' h2]
theorem strN_eq {l l' : List Nat} (h1 : ∀ b ∈ l, b < 256) (h2 : ∀ b ∈ l', b < 256) : (strN l = strN l') ↔ l = l' := ⟨strN_inj h1 h2, fun h => by rw [h]⟩

theorem equal_any (ad ad' : Addr) (n c n' c' B B' : Nat) (l l' : List Nat) (w : World) (h : Rd w B 1 (some ad) n (cellsOf ucell l)) (h' : Rd w B' 1 (some ad') n' (cellsOf ucell l')) (h0 : 0 < n) (h0' : 0 < n')
    (hb : ∀ b ∈ l, b < 256) (hb' : ∀ b ∈ l', b < 256) : Calls Try.prog 49 #[.slice (some ad) n c, .slice (some ad') n' c'] w fun e w' => (∃ q, e = .returned (.bool q) ∧ (q = true ↔ l = l')) ∧ w = w' := by
  have C1 := conv_any (c := c) w h h0
  have C2 := conv_any (c := c') w h' h0'
  have HE := Lib.hid (strN_eq hb hb')
  clear h h' hb hb'
  go_enter Try.func49, Try.ntmps49
  go_wp2_with fail
  go_ret
  refine ⟨⟨_, rfl, ?_⟩, rfl⟩
  exact Iff.trans ⟨str_eq, fun h => by rw [h]; exact beq_self_eq_true _⟩ HE.out

/-- rows that were read, in an outer row of one's own, in blocks from W on -/
structure RowsX (w : World) (W : Nat) (v : Value) (k : Nat) (xs : List Value) (ls : List (List Arc)) : Prop where
  own : w.ownsRow 0 49 1 v k xs
  base : ∀ g, v.ownBlock = some g → W ≤ g
  len : ls.length = k
  rows : ∀ (j : Nat) (l : List Arc), ls[j]? = some l → ∃ u, xs[j]? = some u ∧ w.ownsRow 0 55 2 u l.length (cellsOf Arc.cells l) ∧ ∀ g, u.ownBlock = some g → W ≤ g
section
variable {w w' : World} {W k : Nat} {v v' u : Value} {xs : List Value} {ls : List (List Arc)} {R : Nat → Prop}
theorem RowsX.nil (w : World) (W : Nat) : RowsX w W (.slice none 0 0) 0 [] [] := ⟨World.ownsRow_nil _ _ _ _, fun g hg => by simp [Value.ownBlock] at hg, rfl, fun j l h => by simp at h⟩
theorem RowsX.out (h : RowsX w W v k xs ls) (hO : Outside R w w') (hR : ∀ g, W ≤ g → g < w.heap.size → ¬ R g) : RowsX w' W v k xs ls :=
  ⟨own_out h.own hO fun g hg => hR g (h.base g hg) (own_lt h.own hg), h.base, h.len, fun j l hl => by
    obtain ⟨u, h1, h2, h3⟩ := h.rows j l hl
    exact ⟨u, h1, own_out h2 hO fun g hg => hR g (h3 g hg) (own_lt h2 hg), h3⟩⟩
/-- one row more -/
theorem RowsX.snoc {l : List Arc} (h : RowsX w W v k xs ls) (hown : w'.ownsRow 0 49 1 v' (k + 1) (xs ++ [u])) (hb : ∀ g, v'.ownBlock = some g → W ≤ g)
    (hO : Outside (fun k => v.ownBlock = some k) w w') (hu : w.ownsRow 0 55 2 u l.length (cellsOf Arc.cells l)) (hu2 : ∀ g, u.ownBlock = some g → W ≤ g) : RowsX w' W v' (k + 1) (xs ++ [u]) (ls ++ [l]) := by
  have hk : ∀ (u' : Value) (l' : List Arc), w.ownsRow 0 55 2 u' l'.length (cellsOf Arc.cells l') → w'.ownsRow 0 55 2 u' l'.length (cellsOf Arc.cells l') := fun u' l' h1 =>
    own_out h1 hO fun g hg e => own_apart_own h1 h.own (by decide) hg e
  have hx : xs.length = k := by have := h.own.1; omega
  refine ⟨hown, hb, by rw [List.length_append, h.len]; rfl, fun j l' hl => ?_⟩
  by_cases hj : j < ls.length
  · rw [List.getElem?_append_left hj] at hl
    obtain ⟨u', h1, h2, h3⟩ := h.rows j l' hl
    exact ⟨u', by rw [List.getElem?_append_left (by rw [hx, ← h.len]; exact hj)]; exact h1, hk _ _ h2, h3⟩
  · have hjk : j = k := by
      have := (List.getElem?_eq_some_iff.1 hl).1
      rw [List.length_append, h.len, List.length_singleton] at this
      rw [h.len] at hj
      omega
    subst hjk
    rw [List.getElem?_append_right (by rw [h.len]; exact Nat.le_refl _), h.len, Nat.sub_self] at hl
    cases hl
    refine ⟨u, ?_, hk _ _ hu, hu2⟩
    rw [List.getElem?_append_right (by rw [hx]; exact Nat.le_refl _), hx, Nat.sub_self]
    rfl
theorem RowsX.whole {A : Option Addr} {c : Nat} (h : RowsX w W (.slice A k c) k xs ls) : RdL w w.heap.size A k ls := by
  refine ⟨xs, Rd.ofOwn h.own, h.len, fun j l hl => ?_⟩
  obtain ⟨u, h1, h2, _⟩ := h.rows j l hl
  obtain ⟨A', c', rfl, _, _⟩ := own_form h2
  exact ⟨A', l.length, c', h1, Rd.ofOwn h2⟩
end

/-- the error of bytes that are no packed form -/
def errB (b : List Nat) : Nat := if 1048576 < b.length then 10 else if b.length < 8 then 23 else if sealedB b = false then 24 else 22
/-- what Unpack answers: the system, where there is one -/
structure UnpRel (b : List Nat) (ls : List (List Arc)) (err : Nat) : Prop where
  good : ∀ ls', validB ls' = true → packB ls' = b → b.length ≤ 1048576 → err = 0 ∧ ls = ls'
  zero : err = 0 → validB ls = true ∧ packB ls = b ∧ b.length ≤ 1048576
  bad : err ≠ 0 → ls = [] ∧ err = errB b
theorem UnpRel.unique {b : List Nat} {ls ls' : List (List Arc)} {err err' : Nat} (h : UnpRel b ls err) (h' : UnpRel b ls' err') : err = err' ∧ ls = ls' := by
  by_cases e : err = 0
  · obtain ⟨h1, h2, h3⟩ := h.zero e
    obtain ⟨h4, h5⟩ := h'.good ls h1 h2 h3
    exact ⟨by omega, h5.symm⟩
  · by_cases e' : err' = 0
    · obtain ⟨h1, h2, h3⟩ := h'.zero e'
      exact absurd (h.good ls' h1 h2 h3).1 e
    · obtain ⟨h1, h2⟩ := h.bad e
      obtain ⟨h3, h4⟩ := h'.bad e'
      exact ⟨by rw [h2, h4], by rw [h1, h3]⟩
theorem sum4_len (x : Int) : (sum4 x).length = 4 := rfl
theorem packB_len (ls : List (List Arc)) : (packB ls).length = (bodyB ls).length + 4 := by rw [packB, sealB, List.length_append, sum4_len]
theorem uv_pos (n : Nat) : 1 ≤ (uv n).length := by
  obtain ⟨x, r, h⟩ := uv_ne n
  rw [h, List.length_cons]
  omega
theorem bodyB_min (ls : List (List Arc)) : 4 ≤ (bodyB ls).length := by
  have h1 := uv_pos ls.length
  have h2 := uv_pos (total ls)
  rw [bodyB, headB]
  simp only [List.length_append, List.length_cons, List.length_nil]
  omega
theorem packB_min (ls : List (List Arc)) : 8 ≤ (packB ls).length := by
  have := bodyB_min ls
  rw [packB_len]
  omega
theorem sealB_take (l : List Nat) : (sealB l).take ((sealB l).length - 4) = l := by
  have h : (sealB l).length - 4 = l.length := by rw [sealB, List.length_append, sum4_len]; omega
  rw [h, sealB]
  exact List.take_left
theorem sealed_pack (l : List Nat) : sealedB (sealB l) = true := by
  have h : (sealB l).length = l.length + 4 := by rw [sealB, List.length_append, sum4_len]
  have h1 : (sealB l).length - 4 = l.length := by omega
  rw [sealedB, h1, Bool.and_eq_true]
  refine ⟨decide_eq_true (by omega), decide_eq_true ?_⟩
  have e1 : (sealB l).drop l.length = sum4 (crcF l) := by rw [sealB]; exact List.drop_left
  have e2 : (sealB l).take l.length = l := by rw [sealB]; exact List.take_left
  rw [e1, e2]
theorem pack_byte (ls : List (List Arc)) : ∀ b ∈ packB ls, b < 256 := by
  intro b hb
  rcases List.mem_append.1 hb with h | h
  · exact body_byte ls b h
  · have := crcF_in (bodyB ls)
    exact sum4_byte this.1 this.2 b h
theorem gsz_le (ls : List (List Arc)) (g : Nat) : gsz ls g ≤ (packB ls).length := by
  have h1 := gszK_le ls g ls.length (Nat.le_refl _)
  rw [gszK_all ls _ g (Nat.le_refl _), List.take_of_length_le (by rw [rows_len]; exact Nat.le_refl _)] at h1
  rw [packB_len, bodyB, List.length_append]
  omega
/-- the head of a packed system stands at its start -/
theorem headG_of {ls : List (List Arc)} {l rest : List Nat} (hv : validB ls = true) (hs : (packB ls).length ≤ 1048576) (hl : l = bodyB ls ++ rest) : HeadG false l 0 ls ((rowsOf ls).flatten ++ rest) := by
  have hp := Pk.of hv
  refine ⟨rfl, ?_, hp.n2, hp.tot, fun g => Nat.le_trans (gsz_le ls g) hs⟩
  rw [hl, bodyB, List.drop_zero]
  simp only [List.append_assoc]
/-- the rows stand behind the head -/
theorem headG_rows {ls : List (List Arc)} {l rest : List Nat} (hl : l = bodyB ls ++ rest) : l.drop (0 + (headB ls).length + (sizesB ls ((ls.length + 15) / 16)).length) = ((rowsOf ls).drop 0).flatten ++ rest := by
  rw [hl, bodyB, Nat.zero_add, ← List.length_append, List.append_assoc]
  exact List.drop_left
/-- where row s stands -/
theorem rowG_of {ls : List (List Arc)} {l rest : List Nat} {s q : Nat} {r : List Arc} {bk : Bool} (hv : validB ls = true) (hr : ls[s]? = some r) (hb : bk = false) (hl : l.drop q = ((rowsOf ls).drop s).flatten ++ rest) :
    RowG bk l q s ls.length r (((rowsOf ls).drop (s + 1)).flatten ++ rest) := by
  have hp := Pk.of hv
  have hm := List.mem_of_getElem? hr
  obtain ⟨hk, he⟩ := List.getElem?_eq_some_iff.1 (rows_get hr)
  refine ⟨hb, ?_, fun a ha => ?_, hp.asc r hm, hp.row hm⟩
  · rw [hl, List.drop_eq_getElem_cons hk, he, List.flatten_cons, List.append_assoc]
  · unfold validB looseB at hv
    simp only [Bool.and_eq_true, decide_eq_true_eq] at hv
    have h6 := List.all_eq_true.1 (List.all_eq_true.1 hv.1.2 r hm) a ha
    unfold okA at h6
    simp only [Bool.and_eq_true, decide_eq_true_eq] at h6
    exact ⟨h6.1.1, h6.1.2, h6.2.1, h6.2.2⟩
theorem rowG_next {ls : List (List Arc)} {l rest : List Nat} {s q : Nat} {r : List Arc} {bk : Bool} (h : RowG bk l q s ls.length r (((rowsOf ls).drop (s + 1)).flatten ++ rest)) :
    l.drop (q + (rowF s r).length) = ((rowsOf ls).drop (s + 1)).flatten ++ rest := drop_app h.at_

end Go.Proofs.Ytonpdclccgpceaa
