/- the quotient by classes: strong.Quotient -/
import Derived.Test.YtmciinikfjfegaaSgW5
namespace Go.Proofs.Ytmciinikfjfegaa
open Go Go.RowKit
set_option maxHeartbeats 8000000

/-- rows of one's own in an outer row, no two in one block -/
structure RowsP (w : World) (W g m : Nat) (xs : List Value) (ls : List (List Arc)) : Prop where
  own : w.ownsRow 0 24 1 (.slice (some ⟨g, 0, none⟩) m m) m xs
  base : W ≤ g
  len : ls.length = m
  rows : ∀ (j : Nat) (l : List Arc), ls[j]? = some l → ∃ u, xs[j]? = some u ∧ w.ownsRow 0 23 2 u l.length (cellsOf Arc.cells l) ∧ ∀ x, u.ownBlock = some x → W ≤ x
  apart : ∀ (j j' : Nat) (u u' : Value) (x : Nat), xs[j]? = some u → xs[j']? = some u' → j ≠ j' → u.ownBlock = some x → ¬ u'.ownBlock = some x
section
variable {w w' : World} {W g m : Nat} {xs : List Value} {ls : List (List Arc)} {R : Nat → Prop}
theorem RowsP.lt (h : RowsP w W g m xs ls) : g < w.heap.size := own_lt h.own rfl
theorem RowsP.out (h : RowsP w W g m xs ls) (hO : Outside R w w') (hR : ∀ x, W ≤ x → x < w.heap.size → ¬ R x) : RowsP w' W g m xs ls :=
  ⟨own_out h.own hO fun x hx => hR x (by have h1 : g = x := by simpa [Value.ownBlock] using hx
                                         have := h.base
                                         omega) (own_lt h.own hx), h.base, h.len, fun j l hl => by
    obtain ⟨u, h1, h2, h3⟩ := h.rows j l hl
    exact ⟨u, h1, own_out h2 hO fun x hx => hR x (h3 x hx) (own_lt h2 hx), h3⟩, h.apart⟩
theorem RowsP.alloc (h : RowsP w W g m xs ls) (o : Obj) : RowsP (w.alloc o) W g m xs ls := h.out ((Outside.refl (fun _ => False) w).alloc o) (fun _ _ _ e => e)
theorem RowsP.drew (h : RowsP w W g m xs ls) : RowsP w.drew W g m xs ls := h.out (Outside.refl (fun _ => False) w).drew (fun _ _ _ e => e)
theorem RowsP.made (w : World) (m : Nat) (hm : m ≤ 1000000000) : RowsP (w.alloc (.cells (madeCells (Value.slice none 0 0).cells m) 24)) w.heap.size w.heap.size m (List.replicate m (.slice none 0 0)) (List.replicate m []) := by
  refine ⟨⟨by simp, .inr ⟨w.heap.size, m, madeCells (Value.slice none 0 0).cells m, rfl, Nat.zero_le _, heap_alloc_new w _, Nat.le_refl _, by unfold maxLen; omega, by rw [size_madeCells]; simp, ?_⟩⟩, Nat.le_refl _, by simp, fun j l hl => ?_, fun j j' u u' x hu _ _ hx => ?_⟩
  · rw [made_rows]
    simp
  · have hj := (List.getElem?_eq_some_iff.1 hl).1
    rw [List.length_replicate] at hj
    rw [List.getElem?_replicate, if_pos hj] at hl
    obtain rfl := Option.some.inj hl
    exact ⟨.slice none 0 0, by rw [List.getElem?_replicate, if_pos hj], World.ownsRow_nil _ _ _ _, fun x hx => by simp [Value.ownBlock] at hx⟩
  · rw [List.getElem?_replicate] at hu
    split at hu
    · obtain rfl := Option.some.inj hu
      simp [Value.ownBlock] at hx
    · cases hu
theorem RowsP.at_ (h : RowsP w W g m xs ls) {j : Nat} {l : List Arc} (hl : ls[j]? = some l) :
    ∃ A c, xs[j]? = some (.slice A l.length c) ∧ w.cell? ⟨g, j, none⟩ = some (.slice A l.length c) ∧ w.ownsRow 0 23 2 (.slice A l.length c) l.length (cellsOf Arc.cells l) ∧ ∀ x, (Value.slice A l.length c).ownBlock = some x → W ≤ x := by
  obtain ⟨u, h1, h2, h3⟩ := h.rows j l hl
  obtain ⟨A', c', rfl, _, _⟩ := own_form h2
  have hj : j < m := by have := (List.getElem?_eq_some_iff.1 hl).1; have := h.len; omega
  obtain ⟨b, o, e2, _, hc⟩ := (Rd.ofOwn h.own).2 (by omega)
  cases e2
  have h4 := hc j _ h1
  rw [Nat.zero_add] at h4
  exact ⟨A', c', h1, h4, h2, h3⟩
theorem RowsP.put (h : RowsP w W g m xs ls) {j : Nat} {u v' : Value} {l l' : List Arc} (hu : xs[j]? = some u) (hl : ls[j]? = some l) (hO : Outside (fun x => u.ownBlock = some x) w w')
    (hv : w'.ownsRow 0 23 2 v' l'.length (cellsOf Arc.cells l')) (hv' : ∀ x, v'.ownBlock = some x → u.ownBlock = some x ∨ w.heap.size ≤ x) (hW : W ≤ w.heap.size) : RowsP (w'.setCell ⟨g, j, none⟩ v') W g m (xs.set j v') (ls.set j l') := by
  obtain ⟨u0, hu0, hou, hbu⟩ := h.rows j l hl
  rw [hu] at hu0
  obtain rfl := Option.some.inj hu0
  have hq : w'.ownsRow 0 24 1 (.slice (some ⟨g, 0, none⟩) m m) m xs := own_out h.own hO fun x hx => own_apart_own h.own hou (by decide) hx
  refine ⟨(hq.stored j v').1, h.base, by rw [List.length_set]; exact h.len, fun i l2 hi => ?_, fun i i' a b x ha hb hne hx hx' => ?_⟩
  · rw [List.getElem?_set] at hi ⊢
    split at hi
    · rename_i e
      subst e
      split at hi
      · obtain rfl := Option.some.inj hi
        have hjx := (List.getElem?_eq_some_iff.1 hu).1
        refine ⟨v', by rw [if_pos rfl, if_pos hjx], own_setCell hv (p := ⟨g, j, none⟩) (own_apart_own hq hv (by decide) rfl) v', fun x hx => ?_⟩
        rcases hv' x hx with h1 | h1
        · exact hbu x h1
        · omega
      · cases hi
    · rename_i e
      obtain ⟨u2, h1, h2, h3⟩ := h.rows i l2 hi
      have h5 : w'.ownsRow 0 23 2 u2 l2.length (cellsOf Arc.cells l2) := own_out h2 hO fun x hx hx2 => h.apart i j u2 u x h1 hu (fun e2 => e e2.symm) hx hx2
      exact ⟨u2, by rw [if_neg e]; exact h1, own_setCell h5 (p := ⟨g, j, none⟩) (own_apart_own hq h5 (by decide) rfl) v', h3⟩
  · rw [List.getElem?_set] at ha hb
    split at ha <;> split at hb
    · omega
    · rename_i e _
      split at ha
      · obtain rfl := Option.some.inj ha
        subst e
        rcases hv' x hx with h1 | h1
        · exact h.apart j i' u b x hu hb hne h1 hx'
        · have hib : i' < ls.length := by
            have := (List.getElem?_eq_some_iff.1 hb).1
            have h2 := h.own.1
            have := h.len
            omega
          obtain ⟨u2, h3, h4, _⟩ := h.rows i' _ (List.getElem?_eq_getElem hib)
          rw [hb] at h3
          obtain rfl := Option.some.inj h3
          have := own_lt h4 hx'
          omega
      · cases ha
    · rename_i _ e
      split at hb
      · obtain rfl := Option.some.inj hb
        subst e
        rcases hv' x hx' with h1 | h1
        · exact h.apart i j a u x ha hu hne hx h1
        · have hib : i < ls.length := by
            have := (List.getElem?_eq_some_iff.1 ha).1
            have h2 := h.own.1
            have := h.len
            omega
          obtain ⟨u2, h3, h4, _⟩ := h.rows i _ (List.getElem?_eq_getElem hib)
          rw [ha] at h3
          obtain rfl := Option.some.inj h3
          have := own_lt h4 hx
          omega
      · cases hb
    · exact h.apart i i' a b x ha hb hne hx hx'
theorem RowsP.whole (h : RowsP w W g m xs ls) : RdL w w.heap.size (some ⟨g, 0, none⟩) m ls := by
  refine ⟨xs, Rd.ofOwn h.own, h.len, fun j l hl => ?_⟩
  obtain ⟨u, h1, h2, _⟩ := h.rows j l hl
  obtain ⟨A', c', rfl, _, _⟩ := own_form h2
  exact ⟨A', l.length, c', h1, Rd.ofOwn h2⟩
end
theorem quo_zero (ls : List (List Arc)) (cl : List Nat) (m : Nat) : quoK ls cl m 0 = List.replicate m [] := by
  show (List.range m).map (fun _ => ([] : List Arc)) = _
  rw [List.map_const', List.length_range]
theorem rowQ_succ (ls : List (List Arc)) (cl : List Nat) (k c : Nat) : rowQ ls cl (k + 1) c = if cl.getD k 0 = c then rowQ ls cl k c ++ (rowAt ls k).map (ren (intC cl)) else rowQ ls cl k c := rfl
theorem quo_next {ls : List (List Arc)} {cl : List Nat} {m s c : Nat} (hc : cl.getD s 0 = c) (hcm : c < m) : (quoK ls cl m s).set c (rowQ ls cl s c ++ (rowAt ls s).map (ren (intC cl))) = quoK ls cl m (s + 1) := by
  apply List.ext_getElem?
  intro j
  rw [List.getElem?_set]
  by_cases hj : j < m
  · rw [quoK_row hj, quoK_row hj, rowQ_succ, hc]
    by_cases e : c = j
    · subst e
      rw [if_pos rfl, if_pos (by rw [quoK_len]; exact hcm), if_pos rfl]
    · rw [if_neg e, if_neg e]
  · rw [if_neg (by omega), List.getElem?_eq_none (by rw [quoK_len]; omega), List.getElem?_eq_none (by rw [quoK_len]; omega)]
theorem set_same {α : Type} {l : List α} {i : Nat} {a : α} (h : l[i]? = some a) : l.set i a = l := by
  apply List.ext_getElem?
  intro j
  rw [List.getElem?_set]
  split
  · rename_i e
    subst e
    rw [if_pos (List.getElem?_eq_some_iff.1 h).1, h]
  · rfl
theorem rowQ_len (ls : List (List Arc)) (cl : List Nat) (c : Nat) : ∀ k, k ≤ ls.length → (rowQ ls cl k c).length ≤ total (ls.take k)
  | 0, _ => Nat.zero_le _
  | k + 1, hk => by
    have ih := rowQ_len ls cl c k (by omega)
    have hx := List.getElem?_eq_getElem (show k < ls.length by omega)
    rw [total_take ls k _ hx, rowQ_succ]
    split
    · rw [List.length_append, List.length_map, rowAt_get hx]
      omega
    · omega

/-- what Quotient gives -/
def QuoPost (w : World) (ls : List (List Arc)) (cl : List Int) (e : Ending) (w' : World) : Prop :=
  ∃ (A1 : Option Addr) (n1 c1 : Nat) (out : List (List Arc)) (err : Nat), e = .returned (.tuple #[lts A1 n1 c1, .int .i64 err]) ∧ (∃ W xs, w.heap.size ≤ W ∧ RowsX w' W (.slice A1 n1 c1) n1 xs out) ∧ Below w.heap.size w w' ∧
    ((validB ls && numB cl ls.length) = false ∧ err = 1 ∧ out = [] ∨ (validB ls && numB cl ls.length) = true ∧ err = 0 ∧ ∃ i, DoneC (quoK ls (cl.map Int.toNat) (maxN (cl.map Int.toNat) + 1) ls.length) i ∧ out = (canonK (quoK ls (cl.map Int.toNat) (maxN (cl.map Int.toNat) + 1) ls.length) i).out)

set_option maxRecDepth 100000 in
theorem quotient_any (A : Option Addr) (n c : Nat) (ls : List (List Arc)) (A' : Option Addr) (n' c' : Nat) (cl : List Int) (B : Nat) (w : World) (h : RdL w B A n ls) (h' : Rd w B 1 A' n' (cellsOf icell cl)) (hB : B ≤ w.heap.size) (hn : n ≤ 100000) (hn' : n' ≤ 1000000000000) (hs : ∀ l ∈ ls, l.length ≤ 100000) :
    Calls Try.prog 37 #[lts A n c, .slice A' n' c'] w (QuoPost w ls cl) := by
  have HL := Lib.hid h.len
  have HL' := Lib.hid (h'.len icell_len (by decide))
  have H := Lib.hid h
  have H' := Lib.hid h'
  have HS := Lib.hid hs
  have HN0 := Lib.hid ((Blk.new w 27 #[.slice A n c]).alloc (.cells #[.slice none 0 0] 27))
  have HT0 := Lib.hid (show Blk ((w.alloc (.cells #[.slice A n c] 27)).alloc (.cells #[.slice none 0 0] 27)) (w.heap.size + 1) 27 #[.slice none 0 0] from heap_alloc_at (by simp))
  have HB0 := Lib.hid (((Below.refl w.heap.size w).alloc (Nat.le_refl _) (.cells #[.slice A n c] 27)).alloc (by simp) (.cells #[.slice none 0 0] 27))
  have HR0 := Lib.hid (((h.alloc hB (.cells #[.slice A n c] 27)).alloc (by simp; omega) (.cells #[.slice none 0 0] 27)).more (show B ≤ ((w.alloc (.cells #[.slice A n c] 27)).alloc (.cells #[.slice none 0 0] 27)).heap.size by simp; omega))
  obtain ⟨v, hv⟩ : ∃ v, validB ls = v := ⟨_, rfl⟩
  have HV := Lib.hid hv
  obtain ⟨i0, hi0, hz0, hz1, hz2⟩ := info_parts infoRow
  clear h h' hs hv
  go_enter Try.func37, Try.ntmps37
  go_wp2_with fail
  refine (validL_any A n c _ ls _ HR0.out (Nat.le_refl _) (by omega) (fun l hl => by have := HS.out l hl; omega)).mono ?_
  rw [HV.out]
  rintro e w1 ⟨rfl, hb1⟩
  have hs1 : w.heap.size + 2 ≤ w1.heap.size := by have := hb1.size; simpa using this
  have HW1 := Lib.hid (And.intro (HN0.out.below hb1 HN0.out.lt) (And.intro (HT0.out.below hb1 HT0.out.lt) (HB0.out.trans (hb1.mono (by simp; omega)))))
  clear hb1
  have n1c := HW1.out.1.cell
  have n1l := HW1.out.1.lt
  cases v
  · have t1c := HW1.out.2.1.cell
    have t1l := HW1.out.2.1.lt
    have t1f := HW1.out.2.1.frozen
    have hput := (HW1.out.2.1.put 0 (.slice none 0 0)).cell 0
    have HZ := Lib.hid (HW1.out.2.2.setCell (p := ⟨w.heap.size + 1, 0, none⟩) (by simp) (.slice none 0 0))
    go_wp2_with fail
    refine bodyPost_ret (v := .tuple #[lts none 0 0, .int .i64 1]) (by simp [results, Try.results37, go_sem, hput]) rfl ?_
    exact ⟨none, 0, 0, [], 1, rfl, ⟨w.heap.size, [], Nat.le_refl _, RowsX.nil _ _⟩, HZ.out, .inl ⟨by rw [HV.out]; rfl, rfl, rfl⟩⟩
  · go_wp2_with fail
    obtain ⟨u, hu⟩ : ∃ u, numB cl n = u := ⟨_, rfl⟩
    refine (numbered_any A' n' c' cl n w1.heap.size w1 ((H'.out.below (HW1.out.2.2.mono hB)).more (by omega)) (Nat.le_refl _) hn' (by omega)).mono ?_
    rw [hu]
    rintro e w2 ⟨rfl, hb2⟩
    have HU := Lib.hid (show (validB ls && numB cl ls.length) = u by rw [HV.out, HL.out, hu]; rfl)
    have HU2 := Lib.hid hu
    have HW2 := Lib.hid (And.intro (HW1.out.1.below hb2 n1l) (And.intro (HW1.out.2.1.below hb2 HW1.out.2.1.lt) (HW1.out.2.2.trans (hb2.mono (by omega)))))
    have hs2 : w.heap.size + 2 ≤ w2.heap.size := Nat.le_trans hs1 hb2.size
    clear hb2 hu n1c n1l
    cases u
    · have t1c := HW2.out.2.1.cell
      have t1l := HW2.out.2.1.lt
      have t1f := HW2.out.2.1.frozen
      have hput := (HW2.out.2.1.put 0 (.slice none 0 0)).cell 0
      have HZ := Lib.hid (HW2.out.2.2.setCell (p := ⟨w.heap.size + 1, 0, none⟩) (by simp) (.slice none 0 0))
      go_wp2_with fail
      refine bodyPost_ret (v := .tuple #[lts none 0 0, .int .i64 1]) (by simp [results, Try.results37, go_sem, hput]) rfl ?_
      exact ⟨none, 0, 0, [], 1, rfl, ⟨w.heap.size, [], Nat.le_refl _, RowsX.nil _ _⟩, HZ.out, .inl ⟨HU.out, rfl, rfl⟩⟩
    · obtain ⟨k0, hk0⟩ : ∃ k0, nbd cl 0 = some k0 := by
        have h1 := HU2.out
        rw [numB, Bool.and_eq_true] at h1
        exact Option.isSome_iff_exists.1 h1.1
      have hnn : n' = n := by
        have h1 := HU2.out
        rw [numB, Bool.and_eq_true, decide_eq_true_eq, HL'.out] at h1
        omega
      subst hnn
      have hn1 : 1 ≤ n' := by
        have := (loose_tos (valid_parts HV.out).1).2.1
        rw [HL.out] at this
        exact this
      have hne : cl ≠ [] := fun e => by
        have h1 := HL'.out
        rw [e] at h1
        simp at h1
        omega
      obtain ⟨_, hb2, hb3⟩ := nbd_bound (Int.le_refl 0) hk0
      have hkm := nbd_max hk0 hne
      have H2 := Lib.hid (show Rd w B 1 A' n' (cellsOf ncell (cl.map Int.toNat)) by rw [← icell_nats fun x hx => (hb3 x hx).1]; exact H'.out)
      obtain ⟨cs, hcs⟩ : ∃ cs, cl.map Int.toNat = cs := ⟨_, rfl⟩
      obtain ⟨mx, hm⟩ : ∃ m, maxN cs = m := ⟨_, rfl⟩
      have hlt : ∀ x ∈ cs, x < mx + 1 := fun x hx => by have := maxN_le cs x hx; omega
      rw [hcs] at H2 hkm
      have hcl : cs.length = n' := by rw [← hcs, List.length_map, HL'.out]
      have hmn : mx + 1 ≤ n' := by have := HL'.out; omega
      have HM := Lib.hid hm
      have HC := Lib.hid hcs
      have HCL := Lib.hid hcl
      have HLT := Lib.hid hlt
      clear hk0 hb2 hb3 hkm hm hcs hcl hlt hne
      go_wp2_with fail
      refine (max_any A' n' c' cs w2.heap.size w2 ((H2.out.below (HW2.out.2.2.mono hB)).more (by omega)) (Nat.le_refl _) hn' hn1 (fun x hx => by have := HLT.out x hx; omega)).mono ?_
      rw [HM.out]
      rintro e w3 ⟨rfl, hb3⟩
      have HW3 := Lib.hid (And.intro (HW2.out.1.below hb3 HW2.out.1.lt) (And.intro (HW2.out.2.1.below hb3 HW2.out.2.1.lt) (HW2.out.2.2.trans (hb3.mono (by omega)))))
      have hs3 : w.heap.size + 2 ≤ w3.heap.size := Nat.le_trans hs2 hb3.size
      clear hb3
      have n3c := HW3.out.1.cell
      have n3l := HW3.out.1.lt
      go_wp2_with (at_make; refine wpList_makeC _ rfl _ _ 25 rfl 24 i0 (.slice none 0 0) Try.underlying25 hi0 hz0 hz1 _ _ (mx + 1) _ rfl rfl (by omega) (by rw [hz2]; omega) (by omega) ?_)
      have HP0 := Lib.hid (RowsP.made w3 (mx + 1) (by omega))
      have HX0 := Lib.hid (And.intro (HW3.out.1.alloc (.cells (madeCells (Value.slice none 0 0).cells (mx + 1)) 24)) (And.intro (HW3.out.2.1.alloc (.cells (madeCells (Value.slice none 0 0).cells (mx + 1)) 24)) (HW3.out.2.2.alloc (by omega) (.cells (madeCells (Value.slice none 0 0).cells (mx + 1)) 24))))
      clear n3c n3l
      have x0c := HX0.out.1.cell
      have x0l := HX0.out.1.lt
      go_wp2_with fail
      go_loopw [34] (fun vs wr => ∃ (s : Nat) (xs : List Value), s ≤ n' ∧ vs = .int .i64 s ∧ Hid (RowsP wr w3.heap.size w3.heap.size (mx + 1) xs (quoK ls cs (mx + 1) s) ∧ Blk wr w.heap.size 27 #[.slice A n' c] ∧ Blk wr (w.heap.size + 1) 27 #[.slice none 0 0] ∧ Below w.heap.size w wr)) (fun vs _ => n' - (intOf vs).toNat)
      case atStart => exact ⟨0, _, Nat.zero_le _, rfl, Lib.hid ⟨by rw [quo_zero]; exact HP0.out, HX0.out⟩⟩
      case round =>
        obtain ⟨s, xs, hs, rfl, HW⟩ := hrel
        have hgl := HW.out.1.lt
        have hsz := HW.out.2.2.2.size
        clear x0c x0l
        by_cases hlt : s < n'
        · obtain ⟨b1, o1, l, A9, n9, c9, rfl, hb1, hl, hln, e0, hrow⟩ := (H.out.below (w' := wr) (HW.out.2.2.2.mono hB)).row hlt
          obtain ⟨b2, o2, y, rfl, hb2, hy, d0⟩ := (H2.out.below (w' := wr) (HW.out.2.2.2.mono hB)).nat hlt
          have HROW := Lib.hid hrow
          have hy2 := HLT.out y (List.mem_of_getElem? hy)
          have hl9 : n9 ≤ 100000 := by have := HS.out l (List.mem_of_getElem? hl); omega
          have HY := Lib.hid (show cs.getD s 0 = y by rw [List.getD_eq_getElem?_getD, hy]; rfl)
          have HLL := Lib.hid (show rowAt ls s = l from rowAt_get hl)
          have HTO := Lib.hid (show ∀ a ∈ l, 0 ≤ a.to ∧ a.to < cs.length from fun a ha => by
            have := (loose_tos (valid_parts HV.out).1).1 l (List.mem_of_getElem? hl) a ha
            rw [HCL.out, ← HL.out]
            exact this)
          clear hl hy hrow
          go_wp2_with fail
          go_loopw [45] (fun vk wz => ∃ (k : Nat) (ys : List Value), k ≤ n9 ∧ vk = .int .i64 k ∧ Hid (RowsP wz w3.heap.size w3.heap.size (mx + 1) ys ((quoK ls cs (mx + 1) s).set y (rowQ ls cs s y ++ (l.take k).map (ren (intC cs)))) ∧ Blk wz w.heap.size 27 #[.slice (some ⟨b1, o1, none⟩) n' c] ∧ Blk wz (w.heap.size + 1) 27 #[.slice none 0 0] ∧ Below w.heap.size w wz)) (fun vk _ => n9 - (intOf vk).toNat)
          case atStart => exact ⟨0, xs, Nat.zero_le _, rfl, Lib.hid ⟨by
            have e : (quoK ls cs (mx + 1) s).set y (rowQ ls cs s y ++ (l.take 0).map (ren (intC cs))) = quoK ls cs (mx + 1) s := by
              rw [List.take_zero, List.map_nil, List.append_nil]
              exact set_same (quoK_row hy2)
            rw [e]
            exact HW.out.1, HW.out.2.1, HW.out.2.2.1, HW.out.2.2.2⟩⟩
          case round =>
            rename World => wz
            obtain ⟨k, ys, hk, rfl, HZ⟩ := hrel
            have hszz := HZ.out.2.2.2.size
            have hglz := HZ.out.1.lt
            by_cases hlt2 : k < n9
            · obtain ⟨b3, o3, x, rfl, hb3, hx, c0, c1⟩ := (HROW.out.keep (w' := wz) (fun p hp => (HZ.out.2.2.2.mono hB).cell hp |>.trans ((HW.out.2.2.2.mono hB).cell hp).symm)).arc hlt2
              obtain ⟨xe, xt⟩ := x
              have hxt := HTO.out _ (List.mem_of_getElem? hx)
              dsimp only at c0 c1 hxt
              obtain ⟨q, rfl⟩ : ∃ q : Nat, xt = q := ⟨xt.toNat, by omega⟩
              have hq : q < n' := by have := HCL.out; omega
              obtain ⟨b4, o4, z, hab, hb4, hz, d1⟩ := (H2.out.below (w' := wz) (HZ.out.2.2.2.mono hB)).nat hq
              obtain ⟨rfl, rfl⟩ : b2 = b4 ∧ o2 = o4 := by simpa using hab
              have HRX := Lib.hid (show ren (intC cs) ⟨xe, (q : Int)⟩ = ⟨xe, (z : Int)⟩ by
                rw [ren, numAt, intC, List.getD_eq_getElem?_getD, List.getElem?_map, Int.toNat_natCast, hz]
                rfl)
              have HTK := Lib.hid (show rowQ ls cs s y ++ (l.take (k + 1)).map (ren (intC cs)) = (rowQ ls cs s y ++ (l.take k).map (ren (intC cs))) ++ [⟨xe, (z : Int)⟩] by
                rw [List.take_add_one, hx, List.map_append, ← HRX.out, ← List.append_assoc]
                rfl)
              have hLlen : (rowQ ls cs s y ++ (l.take k).map (ren (intC cs))).length ≤ 400000 := by
                have h1 := rowQ_len ls cs y s (by rw [HL.out]; omega)
                have h2 := total_le ls s
                have h3 := (loose_tot (valid_parts HV.out).1).1
                rw [List.length_append, List.length_map, List.length_take]
                omega
              obtain ⟨L, hL⟩ : ∃ L, rowQ ls cs s y ++ (l.take k).map (ren (intC cs)) = L := ⟨_, rfl⟩
              rw [hL] at HZ hLlen HTK
              obtain ⟨A5, c5, hys, e5, ho5, hb5⟩ := HZ.out.1.at_ (j := y) (l := L) (by rw [List.getElem?_set_self (by rw [quoK_len]; exact hy2)])
              obtain ⟨j5, hj5⟩ : ∃ j, L.length = j := ⟨_, rfl⟩
              rw [hj5] at hys e5 ho5 hb5 hLlen
              have HJ := Lib.hid hj5
              have HO5 := Lib.hid (ho5.alloc (.cells #[.int .i64 xe, .int .i64 q] 23))
              have HPW := Lib.hid (((HZ.out.1.alloc (.cells #[.int .i64 xe, .int .i64 q] 23)).drew).alloc (.cells #[.int .i64 xe, .int .i64 z] 23))
              have HYS := Lib.hid hys
              have HBA := Lib.hid hb5
              have hb3l : b3 < wz.heap.size := by omega
              have hb2l : b2 < wz.heap.size := by omega
              have z0c := HZ.out.2.1.cell
              have z0l := HZ.out.2.1.lt
              clear hx hz hab hxt hL hj5 hys ho5 hb5
              go_wp2_with (first | ((with_reducible show wpPlan _ _ _ ((15, 2, _) :: _) _ _ _); refine wpPlan_eff rfl rfl (fun _ hK => ?_); refine app_blk slArc rfl (World.ownsRow.alloc HO5.out _) rfl (news := [.int .i64 xe, .int .i64 z]) ((heap_alloc_at (by simp)) : Blk _ (wz.heap.size + 1) _ _) rfl rfl (by simp [Value.oneCell']) (by decide) (by unfold maxLen; omega) (by omega) ?_; intro g8 c8 w8 hown8 hgrow8 hat8; refine hK _ _ ?_; refine Stop7.intro ?_) | ((with_reducible show wpPlan _ _ _ _ _ (Act.put _ _ _) _); simp only [List.getElem_toArray, List.getElem_cons_succ, List.getElem_cons_zero, Act.put, List.setIfInBounds_toArray, List.set_cons_zero, List.set_cons_succ]) | ((with_reducible show wpPlan _ _ _ _ _ _ _); first | refine wpPlan_nil ?_ | (refine wpPlan_read0 rfl ?hw rfl (fun _ _ _ => ?_); case hw => ((conv => (lhs; whnf)); first | done | with_reducible rfl)) | (refine wpPlan_read1d rfl ?hw rfl rfl (fun _ _ _ => ?_); case hw => ((conv => (lhs; whnf)); first | done | with_reducible rfl)) | (refine wpPlan_eff rfl ?hw (fun _ _ => ?_); case hw => ((conv => (lhs; whnf)); first | done | with_reducible rfl)) | (refine wpPlan_skip0 rfl ?hw ?_; case hw => ((conv => (lhs; whnf)); first | done | with_reducible rfl)) | (refine wpPlan_skip1d rfl ?hw ?_; case hw => ((conv => (lhs; whnf)); first | done | with_reducible rfl)) | (refine wpPlan_skip2 rfl ?hw ?_; case hw => ((conv => (lhs; whnf)); first | done | with_reducible rfl)) | (refine wpPlan_read1 rfl ?hw rfl (fun _ _ _ => ?_); case hw => ((conv => (lhs; whnf)); first | done | with_reducible rfl)) | refine wpPlan_fork ?_ ?_) | ((with_reducible show Owed _ _ _ _ _ _ _ _ _); first | refine Owed.none_ ?_ | refine Owed.nil_ ?_ | refine Owed.miss rfl ?_ | refine Owed.hit ?_ ?_) | ((with_reducible show Same _ _ _ _ _); intro _; go_simp; done) | (with_reducible exact True.intro) | ((with_reducible show Code.wp _ (Code.region 11 _ true) _ _ _); refine wp_region_plan [(0, 0, []), (1, 0, []), (2, 0, []), (3, 0, []), (4, 1, []), (5, 1, []), (6, 1, []), (7, 1, []), (8, 0, []), (9, 1, []), (10, 1, []), (11, 1, []), (12, 1, []), (13, 1, []), (14, 2, [4, 5]), (15, 2, []), (16, 1, []), (17, 2, [])] (by kernel_rfl) (by kernel_rfl) (by kernel_rfl) ?_))
              unfold Stop7
              have hg8 : (((wz.alloc (.cells #[.int .i64 xe, .int .i64 q] 23)).drew).alloc (.cells #[.int .i64 xe, .int .i64 z] 23)).grownBy w8 (Value.slice A5 j5 c5).ownBlock := hgrow8
              have hO8 : Outside (fun x => (Value.slice A5 j5 c5).ownBlock = some x) (((wz.alloc (.cells #[.int .i64 xe, .int .i64 q] 23)).drew).alloc (.cells #[.int .i64 xe, .int .i64 z] 23)) w8 := (Outside.refl (fun x => (Value.slice A5 j5 c5).ownBlock = some x) (((wz.alloc (.cells #[.int .i64 xe, .int .i64 q] 23)).drew).alloc (.cells #[.int .i64 xe, .int .i64 z] 23))).grown hg8 (fun z hz => .inl hz)
              have hsa : (((wz.alloc (.cells #[.int .i64 xe, .int .i64 q] 23)).drew).alloc (.cells #[.int .i64 xe, .int .i64 z] 23)).heap.size = wz.heap.size + 1 + 1 := by simp
              have hv8 : ∀ x, (Value.slice (some ⟨g8, 0, none⟩) (j5 + 1) c8).ownBlock = some x → (Value.slice A5 j5 c5).ownBlock = some x ∨ (((wz.alloc (.cells #[.int .i64 xe, .int .i64 q] 23)).drew).alloc (.cells #[.int .i64 xe, .int .i64 z] 23)).heap.size ≤ x := fun x hx => by
                have h1 : g8 = x := by simpa [Value.ownBlock] using hx
                rcases hat8 with h | h
                · exact .inl (by rw [← h1]; exact h)
                · exact .inr (by rw [← h1]; exact h)
              have ho8 : w8.ownsRow 0 23 2 (.slice (some ⟨g8, 0, none⟩) (j5 + 1) c8) (L ++ [Arc.mk xe (z : Int)]).length (cellsOf Arc.cells (L ++ [Arc.mk xe (z : Int)])) := by
                rw [← arc_snoc, List.length_append, HJ.out]
                exact hown8
              have hq8 := own_out HPW.out.own hO8 (fun x hx => own_apart_own HPW.out.own ((HO5.out.drew).alloc (.cells #[.int .i64 xe, .int .i64 z] 23)) (by decide) hx)
              have e8 := hq8.cellAt y (by omega)
              rw [HYS.out] at e8
              have f8 := hq8.frozenAt y
              have l8 := own_lt hq8 (g := w3.heap.size) rfl
              have HP8 := Lib.hid (show RowsP (w8.setCell ⟨w3.heap.size, y, none⟩ (.slice (some ⟨g8, 0, none⟩) (j5 + 1) c8)) w3.heap.size w3.heap.size (mx + 1) (ys.set y (.slice (some ⟨g8, 0, none⟩) (j5 + 1) c8)) ((quoK ls cs (mx + 1) s).set y (rowQ ls cs s y ++ (l.take (k + 1)).map (ren (intC cs)))) from by
                have h1 := HPW.out.put (j := y) (l := L) (l' := L ++ [⟨xe, (z : Int)⟩]) HYS.out (by rw [List.getElem?_set_self (by rw [quoK_len]; exact hy2)]) hO8 ho8 hv8 (by rw [hsa]; have := HPW.out.lt; rw [hsa] at this; omega)
                rw [List.set_set] at h1
                rw [HTK.out]
                exact h1)
              have hOs : Outside (fun x => x = w3.heap.size) w8 (w8.setCell ⟨w3.heap.size, y, none⟩ (.slice (some ⟨g8, 0, none⟩) (j5 + 1) c8)) := (Outside.refl (fun x => x = w3.heap.size) _).setCell (p := ⟨w3.heap.size, y, none⟩) (.inl rfl) _
              have hx8 := (((HZ.out.2.1.alloc (.cells #[.int .i64 xe, .int .i64 q] 23)).drew).alloc (.cells #[.int .i64 xe, .int .i64 z] 23)).grown hg8 (fun e => by have := HBA.out _ e.symm; omega)
              have hr8 := (((HZ.out.2.2.1.alloc (.cells #[.int .i64 xe, .int .i64 q] 23)).drew).alloc (.cells #[.int .i64 xe, .int .i64 z] 23)).grown hg8 (fun e => by have := HBA.out _ e.symm; omega)
              have hbb8 := ((((HZ.out.2.2.2.alloc hszz (.cells #[.int .i64 xe, .int .i64 q] 23)).drew).alloc (Nat.le_trans hszz (by simp)) (.cells #[.int .i64 xe, .int .i64 z] 23))).grown hg8 (by rw [hsa]; omega) (fun x hx => by have := HBA.out x hx; omega)
              have HX8 := Lib.hid (And.intro (hx8.out hOs (by omega)) (And.intro (hr8.out hOs (by omega)) (hbb8.setCell (p := ⟨w3.heap.size, y, none⟩) (by dsimp only; omega) (.slice (some ⟨g8, 0, none⟩) (j5 + 1) c8))))
              clear hown8 hgrow8 hat8 hg8 hO8 hsa hv8 ho8 hq8 hOs hx8 hr8 hbb8
              go_wp2_with (first | ((with_reducible show wpPlan _ _ _ _ _ (Act.put _ _ _) _); simp only [List.getElem_toArray, List.getElem_cons_succ, List.getElem_cons_zero, Act.put, List.setIfInBounds_toArray, List.set_cons_zero, List.set_cons_succ]) | ((with_reducible show wpPlan _ _ _ _ _ _ _); first | refine wpPlan_nil ?_ | (refine wpPlan_read0 rfl ?hw rfl (fun _ _ _ => ?_); case hw => ((conv => (lhs; whnf)); first | done | with_reducible rfl)) | (refine wpPlan_read1d rfl ?hw rfl rfl (fun _ _ _ => ?_); case hw => ((conv => (lhs; whnf)); first | done | with_reducible rfl)) | (refine wpPlan_eff rfl ?hw (fun _ _ => ?_); case hw => ((conv => (lhs; whnf)); first | done | with_reducible rfl)) | (refine wpPlan_skip0 rfl ?hw ?_; case hw => ((conv => (lhs; whnf)); first | done | with_reducible rfl)) | (refine wpPlan_skip1d rfl ?hw ?_; case hw => ((conv => (lhs; whnf)); first | done | with_reducible rfl)) | (refine wpPlan_skip2 rfl ?hw ?_; case hw => ((conv => (lhs; whnf)); first | done | with_reducible rfl)) | (refine wpPlan_read1 rfl ?hw rfl (fun _ _ _ => ?_); case hw => ((conv => (lhs; whnf)); first | done | with_reducible rfl)) | refine wpPlan_fork ?_ ?_) | ((with_reducible show Owed _ _ _ _ _ _ _ _ _); first | refine Owed.none_ ?_ | refine Owed.nil_ ?_ | refine Owed.miss rfl ?_ | refine Owed.hit ?_ ?_) | ((with_reducible show Same _ _ _ _ _); intro _; go_simp; done) | (with_reducible exact True.intro) | ((with_reducible show Code.wp _ (Code.region 11 _ true) _ _ _); refine wp_region_plan [(0, 0, []), (1, 0, []), (2, 0, []), (3, 0, []), (4, 1, []), (5, 1, []), (6, 1, []), (7, 1, []), (8, 0, []), (9, 1, []), (10, 1, []), (11, 1, []), (12, 1, []), (13, 1, []), (14, 2, [4, 5]), (15, 2, []), (16, 1, []), (17, 2, [])] (by kernel_rfl) (by kernel_rfl) (by kernel_rfl) ?_))
              go_roundw
              case rel => exact ⟨k + 1, _, by omega, by go_num, Lib.hid ⟨HP8.out, HX8.out⟩⟩
              case measure => simp [intOf]; omega
            · have hkn : k = n9 := by omega
              subst hkn
              have HE := Lib.hid (show (quoK ls cs (mx + 1) s).set y (rowQ ls cs s y ++ (l.take k).map (ren (intC cs))) = quoK ls cs (mx + 1) (s + 1) by
                rw [List.take_of_length_le (by rw [hln]; exact Nat.le_refl _), ← HLL.out]
                exact quo_next HY.out hy2)
              have HP8 := Lib.hid (show RowsP wz w3.heap.size w3.heap.size (mx + 1) ys (quoK ls cs (mx + 1) (s + 1)) from HE.out ▸ HZ.out.1)
              go_wp2_with fail
              go_roundw
              case rel => exact ⟨s + 1, ys, by omega, by go_num, Lib.hid ⟨HP8.out, HZ.out.2⟩⟩
              case measure => simp [intOf]; omega
        · have hsn : s = n' := by omega
          subst hsn
          have HLO := Lib.hid (show looseB (quoK ls cs (mx + 1) s) = true by
            rw [← HL.out]
            exact quo_loose (valid_parts HV.out).1 (by rw [HCL.out, HL.out]) HLT.out (by omega) (by rw [HL.out]; exact hmn))
          have HRW := Lib.hid (HW.out.1.whole)
          go_wp2_with fail
          refine (canonicalX_any (some ⟨w3.heap.size, 0, none⟩) (mx + 1) (mx + 1) wr.heap.size (quoK ls cs (mx + 1) s) wr HRW.out (Nat.le_refl _) (by omega)).mono ?_
          rintro e w9 ⟨A8, n8, c8, out, A10, n10, c10, old, err, rfl, ⟨W8, xs8, hW8, hX8⟩, hO8, hb8, hres⟩
          obtain ⟨rfl, i, hd, rfl, rfl⟩ : err = 0 ∧ ∃ i, DoneC (quoK ls cs (mx + 1) s) i ∧ out = (canonK (quoK ls cs (mx + 1) s) i).out ∧ old = (canonK (quoK ls cs (mx + 1) s) i).old := by
            rcases hres with ⟨hq, _⟩ | ⟨_, h1, h2⟩
            · rw [HLO.out] at hq
              cases hq
            · exact ⟨h1, h2⟩
          have hs9 : w.heap.size + 2 ≤ w9.heap.size := by have := hb8.size; omega
          have HD := Lib.hid hd
          have hr9 := (HW.out.2.2.1.below hb8 HW.out.2.2.1.lt).alloc (.cells #[.slice A8 n8 c8] 27)
          have hput := (hr9.put 0 (.slice A8 n8 c8)).cell 0
          have r9c := hr9.cell
          have r9l := hr9.lt
          have r9f := hr9.frozen
          have hOs : Outside (fun x => x = w.heap.size + 1) (w9.alloc (.cells #[.slice A8 n8 c8] 27)) ((w9.alloc (.cells #[.slice A8 n8 c8] 27)).setCell ⟨w.heap.size + 1, 0, none⟩ (.slice A8 n8 c8)) := (Outside.refl (fun x => x = w.heap.size + 1) _).setCell (p := ⟨w.heap.size + 1, 0, none⟩) (.inl rfl) _
          have HZ := Lib.hid (And.intro (((hX8.out ((Outside.refl (fun _ => False) w9).alloc (.cells #[.slice A8 n8 c8] 27)) (fun _ _ _ e => e)).out hOs (fun x h1 _ e => by omega))) (((HW.out.2.2.2.trans (hb8.mono hsz)).alloc (by omega) (.cells #[.slice A8 n8 c8] 27)).setCell (p := ⟨w.heap.size + 1, 0, none⟩) (by simp) (.slice A8 n8 c8)))
          clear hX8 hO8 hb8 hres hd hr9 hOs
          go_wp2_with fail
          refine bodyPost_ret (v := .tuple #[lts A8 n8 c8, .int .i64 0]) (by simp [results, Try.results37, go_sem, hput]) rfl ?_
          refine ⟨A8, n8, c8, _, 0, rfl, ⟨W8, xs8, by omega, HZ.out.1⟩, HZ.out.2, .inr ⟨HU.out, rfl, i, ?_, ?_⟩⟩
          · rw [HC.out, HM.out, HL.out]
            exact HD.out
          · rw [HC.out, HM.out, HL.out]

end Go.Proofs.Ytmciinikfjfegaa
