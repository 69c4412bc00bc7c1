/- keys of partitions, rows of quotients: plain laws -/
import Derived.Test.YtmciinikfjfegaaSgN1
namespace Go.Proofs.Ytmciinikfjfegaa
open Go Go.RowKit
set_option maxHeartbeats 4000000

def be4 (n : Nat) : List Nat := [n / 16777216 % 256, n / 65536 % 256, n / 256 % 256, n % 256]
theorem be4_inj {n m : Nat} (hn : n < 4294967296) (hm : m < 4294967296) (h : be4 n = be4 m) : n = m := by
  simp only [be4, List.cons.injEq, and_true] at h
  omega
theorem be4_byte (n : Nat) : ∀ b ∈ be4 n, b < 256 := by
  intro b hb
  simp only [be4, List.mem_cons, List.not_mem_nil, or_false] at hb
  omega
def keyN (l : List Nat) : List Nat := l.flatMap be4
theorem keyN_cons (x : Nat) (l : List Nat) : keyN (x :: l) = be4 x ++ keyN l := by simp [keyN]
theorem keyN_snoc (l : List Nat) (x : Nat) : keyN (l ++ [x]) = keyN l ++ be4 x := by simp [keyN]
theorem keyN_len : ∀ l : List Nat, (keyN l).length = 4 * l.length
  | [] => rfl
  | x :: l => by rw [keyN_cons, List.length_append, keyN_len l, List.length_cons]; simp [be4]; omega
theorem keyN_byte (l : List Nat) : ∀ b ∈ keyN l, b < 256 := by
  intro b hb
  obtain ⟨x, _, hx⟩ := List.mem_flatMap.1 hb
  exact be4_byte x b hx
theorem keyN_inj : ∀ {l l' : List Nat}, (∀ x ∈ l, x < 4294967296) → (∀ x ∈ l', x < 4294967296) → keyN l = keyN l' → l = l'
  | [], [], _, _, _ => rfl
  | [], x :: l, _, _, h => by have := congrArg List.length h; rw [keyN_len, keyN_len] at this; simp at this
  | x :: l, [], _, _, h => by have := congrArg List.length h; rw [keyN_len, keyN_len] at this; simp at this
  | x :: l, y :: l', h1, h2, h => by
    rw [keyN_cons, keyN_cons] at h
    obtain ⟨e1, e2⟩ := List.append_inj h (by simp [be4])
    have e3 := be4_inj (h1 x (List.mem_cons_self ..)) (h2 y (List.mem_cons_self ..)) e1
    have e4 := keyN_inj (fun z hz => h1 z (List.mem_cons_of_mem _ hz)) (fun z hz => h2 z (List.mem_cons_of_mem _ hz)) e2
    rw [e3, e4]
/-- the numbers of a class and a signature -/
def arcN (l : List Arc) : List Nat := l.flatMap fun a => [a.ev.toNat, a.to.toNat]
theorem arcN_cons (a : Arc) (l : List Arc) : arcN (a :: l) = a.ev.toNat :: a.to.toNat :: arcN l := by simp [arcN]
theorem arcN_snoc (l : List Arc) (a : Arc) : arcN (l ++ [a]) = arcN l ++ [a.ev.toNat, a.to.toNat] := by simp [arcN]
theorem arcN_len : ∀ l : List Arc, (arcN l).length = 2 * l.length
  | [] => rfl
  | a :: l => by rw [arcN_cons, List.length_cons, List.length_cons, arcN_len l, List.length_cons]; omega
def Small (l : List Arc) : Prop := ∀ a ∈ l, 0 ≤ a.ev ∧ a.ev ≤ 1025 ∧ 0 ≤ a.to ∧ a.to ≤ 100000
theorem arcN_small {l : List Arc} (h : Small l) : ∀ x ∈ arcN l, x < 4294967296 := by
  intro x hx
  obtain ⟨a, ha, hx⟩ := List.mem_flatMap.1 hx
  have := h a ha
  simp only [List.mem_cons, List.not_mem_nil, or_false] at hx
  omega
theorem arcN_inj : ∀ {l l' : List Arc}, Small l → Small l' → arcN l = arcN l' → l = l'
  | [], [], _, _, _ => rfl
  | [], x :: l, _, _, h => by have := congrArg List.length h; rw [arcN_len, arcN_len] at this; simp at this
  | x :: l, [], _, _, h => by have := congrArg List.length h; rw [arcN_len, arcN_len] at this; simp at this
  | ⟨xe, xt⟩ :: l, ⟨ye, yt⟩ :: l', h1, h2, h => by
    rw [arcN_cons, arcN_cons] at h
    have a1 := h1 ⟨xe, xt⟩ (List.mem_cons_self ..)
    have a2 := h2 ⟨ye, yt⟩ (List.mem_cons_self ..)
    simp only [List.cons.injEq] at h
    dsimp only at a1 a2 h
    obtain ⟨e1, e2, e3⟩ := h
    have e4 := arcN_inj (fun z hz => h1 z (List.mem_cons_of_mem _ hz)) (fun z hz => h2 z (List.mem_cons_of_mem _ hz)) e3
    rw [e4, show xe = ye by omega, show xt = yt by omega]
def keyB (c : Nat) (l : List Arc) : List Nat := keyN (c :: arcN l)
theorem keyB_inj {c c' : Nat} {l l' : List Arc} (hc : c < 4294967296) (hc' : c' < 4294967296) (h : Small l) (h' : Small l') (e : keyB c l = keyB c' l') : c = c' ∧ l = l' := by
  have h1 := keyN_inj (fun x hx => by
    rcases List.mem_cons.1 hx with rfl | hx
    · exact hc
    · exact arcN_small h x hx) (fun x hx => by
    rcases List.mem_cons.1 hx with rfl | hx
    · exact hc'
    · exact arcN_small h' x hx) e
  simp only [List.cons.injEq] at h1
  exact ⟨h1.1, arcN_inj h h' h1.2⟩
theorem ren_small {ls : List (List Arc)} {cl : List Nat} {s : Nat} (hev : ∀ l ∈ ls, ∀ a ∈ l, 0 ≤ a.ev ∧ a.ev ≤ 1025) (hcl : ∀ x ∈ cl, x ≤ 100000) : Small (sigS ls cl s) := by
  intro a ha
  obtain ⟨b, hb, rfl⟩ := List.mem_map.1 ((sd_mem _ _).1 ha)
  have h1 : 0 ≤ b.ev ∧ b.ev ≤ 1025 := by
    rw [rowAt, List.getD_eq_getElem?_getD] at hb
    cases hq : ls[s]? with
    | none => rw [hq] at hb; cases hb
    | some x =>
      rw [hq] at hb
      exact hev x (List.mem_of_getElem? hq) b hb
  refine ⟨h1.1, h1.2, ?_⟩
  show 0 ≤ numAt (intC cl) b.to ∧ numAt (intC cl) b.to ≤ 100000
  rw [numAt, intC, List.getD_eq_getElem?_getD, List.getElem?_map]
  cases hq : cl[b.to.toNat]? with
  | none => simp
  | some x =>
    have := hcl x (List.mem_of_getElem? hq)
    simp
    omega

/-- only the sets of arcs count for the canonical form -/
theorem canonK_congr {ls ls' : List (List Arc)} (hl : ls.length = ls'.length) (h : ∀ s, sd (rowAt ls s) = sd (rowAt ls' s)) : ∀ i, canonK ls i = canonK ls' i
  | 0 => by rw [canonK, canonK, hl]
  | i + 1 => by
    have ih := canonK_congr hl h i
    rw [canonK, canonK, roundC, roundC, ih, h]
theorem DoneC.congr {ls ls' : List (List Arc)} (hl : ls.length = ls'.length) (h : ∀ s, sd (rowAt ls s) = sd (rowAt ls' s)) {i : Nat} (hd : DoneC ls i) : DoneC ls' i :=
  ⟨fun j hj => by rw [← canonK_congr hl h j]; exact hd.1 j hj, by rw [← canonK_congr hl h i]; exact hd.2⟩
theorem sd_snoc (l : List Arc) (a : Arc) : sd (l ++ [a]) = insF (sd l) a := by simp [sd, List.foldl_append]

/-- the arcs of a class, of the first k states -/
def rowQ (ls : List (List Arc)) (cl : List Nat) : Nat → Nat → List Arc
  | 0, _ => []
  | k + 1, c => if cl.getD k 0 = c then rowQ ls cl k c ++ (rowAt ls k).map (ren (intC cl)) else rowQ ls cl k c
def quoK (ls : List (List Arc)) (cl : List Nat) (m k : Nat) : List (List Arc) := (List.range m).map (rowQ ls cl k)
theorem quoK_len (ls : List (List Arc)) (cl : List Nat) (m k : Nat) : (quoK ls cl m k).length = m := by simp [quoK]
theorem quoK_row {ls : List (List Arc)} {cl : List Nat} {m k c : Nat} (h : c < m) : (quoK ls cl m k)[c]? = some (rowQ ls cl k c) := by simp [quoK, h]
theorem rowQ_to {ls : List (List Arc)} {cl : List Nat} {m : Nat} (hm : ∀ x ∈ cl, x < m) (ht : ∀ l ∈ ls, ∀ a ∈ l, 0 ≤ a.to ∧ a.to < cl.length) : ∀ (k c : Nat), ∀ a ∈ rowQ ls cl k c, 0 ≤ a.to ∧ a.to < m
  | 0, _, a, ha => by cases ha
  | k + 1, c, a, ha => by
    rw [rowQ] at ha
    split at ha
    · rcases List.mem_append.1 ha with ha | ha
      · exact rowQ_to hm ht k c a ha
      · obtain ⟨b, hb, rfl⟩ := List.mem_map.1 ha
        have h1 : 0 ≤ b.to ∧ b.to < cl.length := by
          rw [rowAt, List.getD_eq_getElem?_getD] at hb
          cases hq : ls[k]? with
          | none => rw [hq] at hb; cases hb
          | some x =>
            rw [hq] at hb
            exact ht x (List.mem_of_getElem? hq) b hb
        show 0 ≤ numAt (intC cl) b.to ∧ numAt (intC cl) b.to < m
        have h2 : cl[b.to.toNat]? = some (cl[b.to.toNat]'(by omega)) := List.getElem?_eq_getElem (by omega)
        have h3 := hm _ (List.mem_of_getElem? h2)
        rw [numAt, intC, List.getD_eq_getElem?_getD, List.getElem?_map, h2]
        simp
        omega
    · exact rowQ_to hm ht k c a ha
theorem rowQ_ev {ls : List (List Arc)} {cl : List Nat} (he : ∀ l ∈ ls, ∀ a ∈ l, 0 ≤ a.ev ∧ a.ev ≤ 1025) : ∀ (k c : Nat), ∀ a ∈ rowQ ls cl k c, 0 ≤ a.ev ∧ a.ev ≤ 1025
  | 0, _, a, ha => by cases ha
  | k + 1, c, a, ha => by
    rw [rowQ] at ha
    split at ha
    · rcases List.mem_append.1 ha with ha | ha
      · exact rowQ_ev he k c a ha
      · obtain ⟨b, hb, rfl⟩ := List.mem_map.1 ha
        rw [rowAt, List.getD_eq_getElem?_getD] at hb
        cases hq : ls[k]? with
        | none => rw [hq] at hb; cases hb
        | some x =>
          rw [hq] at hb
          exact he x (List.mem_of_getElem? hq) b hb
    · exact rowQ_ev he k c a ha
theorem sum_bump (f g : Nat → Nat) (m c d : Nat) (hc : c < m) (h1 : f c = g c + d) (h2 : ∀ x, x ≠ c → f x = g x) : ((List.range m).map f).sum = ((List.range m).map g).sum + d := by
  induction m with
  | zero => omega
  | succ m ih =>
    rw [List.range_succ, List.map_append, List.sum_append, List.map_append, List.sum_append]
    simp only [List.map_cons, List.map_nil, List.sum_cons, List.sum_nil]
    by_cases e : c = m
    · subst e
      have h3 : (List.range c).map f = (List.range c).map g := List.map_congr_left fun x hx => h2 x (by have := List.mem_range.1 hx; omega)
      rw [h3, h1]
      omega
    · have := ih (by omega)
      rw [this, h2 m (fun h => e h.symm)]
      omega
theorem quo_total {ls : List (List Arc)} {cl : List Nat} {m : Nat} (hm : ∀ s, s < ls.length → cl.getD s 0 < m) : ∀ k, k ≤ ls.length → total (quoK ls cl m k) = total (ls.take k)
  | 0, _ => by
    have : quoK ls cl m 0 = (List.range m).map fun _ => [] := rfl
    rw [this, total, List.map_map]
    have h0 : ∀ m : Nat, ((List.range m).map (List.length ∘ fun _ => ([] : List Arc))).sum = 0 := fun m => by
      induction m with
      | zero => rfl
      | succ m ih => rw [List.range_succ, List.map_append, List.sum_append, ih]; rfl
    rw [h0]
    rfl
  | k + 1, hk => by
    have ih := quo_total hm k (by omega)
    have hx := List.getElem?_eq_getElem (show k < ls.length by omega)
    rw [total_take ls k _ hx, ← ih, total, total, quoK, quoK, List.map_map, List.map_map]
    refine sum_bump _ _ m (cl.getD k 0) _ (hm k (by omega)) ?_ ?_
    · show (rowQ ls cl (k + 1) (cl.getD k 0)).length = _
      rw [rowQ, if_pos rfl, List.length_append, List.length_map, rowAt_get hx]
      rfl
    · intro x hne
      show (rowQ ls cl (k + 1) x).length = _
      rw [rowQ, if_neg (fun h => hne h.symm)]
      rfl
theorem loose_in {ls : List (List Arc)} (h : looseB ls = true) : TosIn ls := fun l hl a ha => by
  unfold looseB at h
  simp only [Bool.and_eq_true, decide_eq_true_eq] at h
  have h6 := List.all_eq_true.1 (List.all_eq_true.1 h.2 l hl) a ha
  unfold okA at h6
  simp only [Bool.and_eq_true, decide_eq_true_eq] at h6
  exact h6.2
theorem quo_loose {ls : List (List Arc)} {cl : List Nat} {m : Nat} (hv : looseB ls = true) (hl : cl.length = ls.length) (hm : ∀ x ∈ cl, x < m) (h0 : 1 ≤ m) (hm2 : m ≤ ls.length) : looseB (quoK ls cl m ls.length) = true := by
  have ht := loose_tot hv
  have hto := loose_in hv
  have hev := loose_ev hv
  refine loose_ok (by rw [quoK_len]; exact h0) (by rw [quoK_len]; omega) ?_ ?_
  · rw [quo_total (fun s hs => hm _ ?_) _ (Nat.le_refl _), List.take_length]
    · exact ht.1
    · rw [List.getD_eq_getElem?_getD, List.getElem?_eq_getElem (show s < cl.length by omega)]
      exact List.getElem_mem _
  · refine List.all_eq_true.2 fun l hlq => List.all_eq_true.2 fun a ha => ?_
    obtain ⟨c, hc, rfl⟩ := List.mem_map.1 hlq
    have h1 := rowQ_to hm (fun l hl' a ha => by have := hto l hl' a ha; omega) ls.length c a ha
    have h2 := rowQ_ev hev ls.length c a ha
    unfold okA
    rw [Bool.and_eq_true, quoK_len]
    exact ⟨decide_eq_true h2, decide_eq_true h1⟩

/-- numbered: how many classes there are, or none where the numbers do not come in order -/
def nbd : List Int → Int → Option Int
  | [], m => some m
  | c :: l, m => if c < 0 ∨ m < c then none else nbd l (if c = m then m + 1 else m)
theorem nbd_bound : ∀ {l : List Int} {m k : Int}, 0 ≤ m → nbd l m = some k → m ≤ k ∧ k ≤ m + l.length ∧ ∀ c ∈ l, 0 ≤ c ∧ c < k
  | [], m, k, h0, h => by
    obtain rfl : m = k := Option.some.inj h
    exact ⟨Int.le_refl _, by simp, fun c hc => by cases hc⟩
  | c :: l, m, k, h0, h => by
    rw [nbd] at h
    split at h
    · cases h
    · rename_i hc
      obtain ⟨h1, h2, h3⟩ := nbd_bound (l := l) (by split <;> omega) h
      refine ⟨by split at h1 <;> omega, by rw [List.length_cons]; split at h2 <;> omega, fun x hx => ?_⟩
      rcases List.mem_cons.1 hx with rfl | hx
      · split at h1 <;> omega
      · exact h3 x hx

end Go.Proofs.Ytmciinikfjfegaa
