/- canonical systems: plain laws: the numbers of the states -/
import Derived.Test.YtonpdclccgpceaaRwN1
namespace Go.Proofs.Ytonpdclccgpceaa
open Go Go.RowKit
set_option maxHeartbeats 4000000

def numAt (num : List Int) (t : Int) : Int := num.getD t.toNat 0
/-- an arc is followed: its target gets a number, unless it has one -/
def stepC (s : List Int × List Nat) (a : Arc) : List Int × List Nat := if numAt s.1 a.to < 0 then (s.1.set a.to.toNat s.2.length, s.2 ++ [a.to.toNat]) else s
def visit (s : List Int × List Nat) (r : List Arc) : List Int × List Nat := r.foldl stepC s
def ren (num : List Int) (a : Arc) : Arc := ⟨a.ev, numAt num a.to⟩
structure CS where
  num : List Int
  old : List Nat
  out : List (List Arc)
def rowAt (ls : List (List Arc)) (s : Nat) : List Arc := ls.getD s []
def roundC (ls : List (List Arc)) (s : CS) (i : Nat) : CS :=
  ⟨(visit (s.num, s.old) (sd (rowAt ls (s.old.getD i 0)))).1, (visit (s.num, s.old) (sd (rowAt ls (s.old.getD i 0)))).2,
    s.out ++ [sd ((sd (rowAt ls (s.old.getD i 0))).map (ren (visit (s.num, s.old) (sd (rowAt ls (s.old.getD i 0)))).1))]⟩
def canonK (ls : List (List Arc)) : Nat → CS
  | 0 => ⟨(List.replicate ls.length (-1)).set 0 0, [0], []⟩
  | i + 1 => roundC ls (canonK ls i) i
/-- the search has come to its end -/
def DoneC (ls : List (List Arc)) (i : Nat) : Prop := (∀ j, j < i → j < (canonK ls j).old.length) ∧ (canonK ls i).old.length ≤ i
theorem DoneC.unique {ls : List (List Arc)} {i j : Nat} (h : DoneC ls i) (k : DoneC ls j) : i = j := by
  rcases Nat.lt_trichotomy i j with e | e | e
  · have h1 := k.1 i e
    have h2 := h.2
    omega
  · exact e
  · have h1 := h.1 j e
    have h2 := k.2
    omega

/-- what holds of the numbers and of the old states -/
structure CInv (n : Nat) (num : List Int) (old : List Nat) : Prop where
  len : num.length = n
  neg : ∀ x, x < n → num[x]? = some (-1) ∨ ∃ k : Nat, num[x]? = some (k : Int) ∧ old[k]? = some x
  fwd : ∀ (k x : Nat), old[k]? = some x → x < n ∧ num[x]? = some (k : Int)
  few : old.length + num.countP (fun z => decide (z < 0)) = n
theorem CInv.le {n : Nat} {num : List Int} {old : List Nat} (h : CInv n num old) : old.length ≤ n := by have := h.few; omega
theorem numAt_get {num : List Int} {x : Nat} {v : Int} (h : num[x]? = some v) (t : Int) (ht : t = x) : numAt num t = v := by
  subst ht
  rw [numAt, Int.toNat_natCast, List.getD_eq_getElem?_getD, h]
  rfl
theorem CInv.at_ {n : Nat} {num : List Int} {old : List Nat} (h : CInv n num old) {t : Int} (h0 : 0 ≤ t) (h1 : t < n) :
    num[t.toNat]? = some (numAt num t) ∧ (numAt num t = -1 ∨ ∃ k : Nat, numAt num t = k ∧ k < old.length ∧ old[k]? = some t.toNat) := by
  have ht : t = (t.toNat : Int) := by omega
  rcases h.neg t.toNat (by omega) with h2 | ⟨k, h2, h3⟩
  · have h4 := numAt_get h2 t ht
    exact ⟨by rw [h4]; exact h2, .inl h4⟩
  · have h4 := numAt_get h2 t ht
    exact ⟨by rw [h4]; exact h2, .inr ⟨k, h4, (List.getElem?_eq_some_iff.1 h3).1, h3⟩⟩
theorem CInv.step {n : Nat} {s : List Int × List Nat} (h : CInv n s.1 s.2) {a : Arc} (h0 : 0 ≤ a.to) (h1 : a.to < n) : CInv n (stepC s a).1 (stepC s a).2 := by
  unfold stepC
  split
  · rename_i hlt
    have ht : a.to.toNat < n := by omega
    have hl := h.len
    obtain ⟨h2, h3⟩ := h.at_ h0 h1
    have h4 : numAt s.1 a.to = -1 := by
      rcases h3 with h3 | ⟨k, h3, _⟩
      · exact h3
      · omega
    rw [h4] at h2
    have hnot : ∀ k, s.2[k]? ≠ some a.to.toNat := fun k e => by
      have := (h.fwd k _ e).2
      rw [h2] at this
      have := Option.some.inj this
      omega
    refine ⟨by rw [List.length_set]; exact hl, fun x hx => ?_, fun k x hk => ?_, ?_⟩
    · by_cases hxa : x = a.to.toNat
      · subst hxa
        exact .inr ⟨s.2.length, List.getElem?_set_self (by omega), by simp⟩
      · dsimp only
        rw [List.getElem?_set_ne (fun e => hxa e.symm)]
        rcases h.neg x hx with h5 | ⟨k, h5, h6⟩
        · exact .inl h5
        · exact .inr ⟨k, h5, by rw [List.getElem?_append_left (List.getElem?_eq_some_iff.1 h6).1]; exact h6⟩
    · dsimp only at hk ⊢
      rcases Nat.lt_or_ge k s.2.length with hk2 | hk2
      · rw [List.getElem?_append_left hk2] at hk
        obtain ⟨h5, h6⟩ := h.fwd k x hk
        exact ⟨h5, by rw [List.getElem?_set_ne (fun e => hnot k (by rw [e]; exact hk))]; exact h6⟩
      · rw [List.getElem?_append_right hk2] at hk
        have hk3 : k - s.2.length = 0 := by
          have := (List.getElem?_eq_some_iff.1 hk).1
          simp at this
          omega
        rw [hk3] at hk
        have hx : a.to.toNat = x := by simpa using hk
        subst hx
        have hk4 : k = s.2.length := by omega
        subst hk4
        exact ⟨ht, List.getElem?_set_self (by omega)⟩
    · dsimp only
      have hg : s.1[a.to.toNat]'(by omega) = -1 := by
        have := (List.getElem?_eq_some_iff.1 h2).2
        exact this
      have hp : 0 < s.1.countP (fun z => decide (z < 0)) := List.countP_pos_iff.2 ⟨-1, by rw [← hg]; exact List.getElem_mem _, by decide⟩
      rw [List.countP_set (by omega), hg, List.length_append]
      have h5 : ¬ (s.2.length : Int) < 0 := by omega
      have := h.few
      simp [h5]
      omega
  · exact h
theorem visit_cons (s : List Int × List Nat) (a : Arc) (r : List Arc) : visit s (a :: r) = visit (stepC s a) r := rfl
theorem CInv.visit {n : Nat} : ∀ (r : List Arc) {s : List Int × List Nat}, CInv n s.1 s.2 → (∀ a ∈ r, 0 ≤ a.to ∧ a.to < n) → CInv n (visit s r).1 (visit s r).2
  | [], _, h, _ => h
  | a :: r, s, h, hr => by
    rw [visit_cons]
    have h1 := hr a (List.mem_cons_self ..)
    exact CInv.visit r (h.step h1.1 h1.2) fun b hb => hr b (List.mem_cons_of_mem _ hb)
theorem CInv.init {n : Nat} (h : 0 < n) : CInv n ((List.replicate n (-1)).set 0 0) [0] := by
  refine ⟨by simp, fun x hx => ?_, fun k x hk => ?_, ?_⟩
  · by_cases h0 : x = 0
    · subst h0
      exact .inr ⟨0, List.getElem?_set_self (by simpa using h), rfl⟩
    · rw [List.getElem?_set_ne (fun e => h0 e.symm)]
      exact .inl (by simp [hx])
  · have hk0 : k = 0 := by
      have := (List.getElem?_eq_some_iff.1 hk).1
      simp at this
      exact this
    subst hk0
    have hx : 0 = x := by simpa using hk
    subst hx
    exact ⟨h, List.getElem?_set_self (by simpa using h)⟩
  · rw [List.countP_set (by simpa using h), List.countP_replicate]
    simp
    omega
/-- all targets of a system are states -/
def TosIn (ls : List (List Arc)) : Prop := ∀ l ∈ ls, ∀ a ∈ l, 0 ≤ a.to ∧ a.to < ls.length
theorem TosIn.row {ls : List (List Arc)} (h : TosIn ls) (s : Nat) : ∀ a ∈ rowAt ls s, 0 ≤ a.to ∧ a.to < ls.length := by
  intro a ha
  rw [rowAt, List.getD_eq_getElem?_getD] at ha
  cases hs : ls[s]? with
  | none => rw [hs] at ha; cases ha
  | some l =>
    rw [hs] at ha
    exact h l (List.mem_of_getElem? hs) a ha
theorem TosIn.sd {ls : List (List Arc)} (h : TosIn ls) (s : Nat) : ∀ a ∈ sd (rowAt ls s), 0 ≤ a.to ∧ a.to < ls.length := fun a ha => h.row s a ((sd_mem a _).1 ha)
theorem canon_inv {ls : List (List Arc)} (h : TosIn ls) (h0 : 0 < ls.length) : ∀ i, CInv ls.length (canonK ls i).num (canonK ls i).old
  | 0 => CInv.init h0
  | i + 1 => CInv.visit _ (s := ((canonK ls i).num, (canonK ls i).old)) (canon_inv h h0 i) (h.sd _)
theorem canon_out (ls : List (List Arc)) : ∀ i, (canonK ls i).out.length = i
  | 0 => rfl
  | i + 1 => by
    have := canon_out ls i
    simp [canonK, roundC, this]
theorem step_len (s : List Int × List Nat) (a : Arc) : s.2.length ≤ (stepC s a).2.length := by
  unfold stepC
  split
  · simp
  · exact Nat.le_refl _
theorem visit_len : ∀ (r : List Arc) (s : List Int × List Nat), s.2.length ≤ (visit s r).2.length
  | [], _ => Nat.le_refl _
  | a :: r, s => Nat.le_trans (step_len s a) (visit_len r (stepC s a))
/-- a number that was given stays -/
theorem step_keep {n : Nat} {s : List Int × List Nat} (_h : CInv n s.1 s.2) {a : Arc} (h0 : 0 ≤ a.to) (_h1 : a.to < n) {t : Int} (t0 : 0 ≤ t) (ht : 0 ≤ numAt s.1 t) : numAt (stepC s a).1 t = numAt s.1 t := by
  unfold stepC
  split
  · rename_i hlt
    have hne : a.to.toNat ≠ t.toNat := fun e => by
      have : a.to = t := by omega
      rw [this] at hlt
      omega
    simp only [numAt, List.getD_eq_getElem?_getD, List.getElem?_set_ne hne]
  · rfl
theorem step_new {n : Nat} {s : List Int × List Nat} (h : CInv n s.1 s.2) {a : Arc} (h0 : 0 ≤ a.to) (h1 : a.to < n) : 0 ≤ numAt (stepC s a).1 a.to := by
  unfold stepC
  split
  · simp only [numAt, List.getD_eq_getElem?_getD]
    rw [List.getElem?_set_self (by rw [h.len]; omega)]
    simp
  · rename_i h2
    omega
theorem visit_keep {n : Nat} : ∀ (r : List Arc) {s : List Int × List Nat}, CInv n s.1 s.2 → (∀ a ∈ r, 0 ≤ a.to ∧ a.to < n) → ∀ {t : Int}, 0 ≤ t → 0 ≤ numAt s.1 t → numAt (visit s r).1 t = numAt s.1 t
  | [], _, _, _, _, _, _ => rfl
  | a :: r, s, h, hr, t, t0, ht => by
    have h1 := hr a (List.mem_cons_self ..)
    have h2 := step_keep h h1.1 h1.2 t0 ht
    rw [visit_cons, visit_keep r (h.step h1.1 h1.2) (fun b hb => hr b (List.mem_cons_of_mem _ hb)) t0 (by rw [h2]; exact ht), h2]
theorem visit_new {n : Nat} : ∀ (r : List Arc) {s : List Int × List Nat}, CInv n s.1 s.2 → (∀ a ∈ r, 0 ≤ a.to ∧ a.to < n) → ∀ a ∈ r, 0 ≤ numAt (visit s r).1 a.to
  | [], _, _, _, a, ha => by cases ha
  | b :: r, s, h, hr, a, ha => by
    have h1 := hr b (List.mem_cons_self ..)
    have h2 := h.step h1.1 h1.2
    have h3 : ∀ c ∈ r, 0 ≤ c.to ∧ c.to < n := fun c hc => hr c (List.mem_cons_of_mem _ hc)
    rw [visit_cons]
    rcases List.mem_cons.1 ha with rfl | ha
    · have h4 := step_new h h1.1 h1.2
      rw [visit_keep r h2 h3 h1.1 h4]
      exact h4
    · exact visit_new r h2 h3 a ha
theorem visit_snoc (s : List Int × List Nat) (r : List Arc) (a : Arc) : visit s (r ++ [a]) = stepC (visit s r) a := by
  simp [visit, List.foldl_append]
/-- the renamed arcs of a row differ -/
theorem ren_nodup {n : Nat} {s : List Int × List Nat} {r : List Arc} (h : CInv n s.1 s.2) (hr : ∀ a ∈ r, 0 ≤ a.to ∧ a.to < n) (hn : r.Nodup) : (r.map (ren (visit s r).1)).Nodup := by
  have h2 := CInv.visit r h hr
  have hnew := visit_new r h hr
  have hinj : ∀ a ∈ r, ∀ b ∈ r, ren (visit s r).1 a = ren (visit s r).1 b → a = b := fun a ha b hb e => by
    obtain ⟨ae, at_⟩ := a
    obtain ⟨be, bt⟩ := b
    simp only [ren, Arc.mk.injEq] at e
    have hA := hr _ ha
    have hB := hr _ hb
    have na := hnew _ ha
    have nb := hnew _ hb
    dsimp only at hA hB na nb
    obtain ⟨_, ha2⟩ := h2.at_ hA.1 hA.2
    obtain ⟨_, hb2⟩ := h2.at_ hB.1 hB.2
    rcases ha2 with ha2 | ⟨k, ha2, _, ha3⟩
    · omega
    rcases hb2 with hb2 | ⟨k', hb2, _, hb3⟩
    · omega
    have hk : k = k' := by omega
    subst hk
    rw [ha3] at hb3
    have := Option.some.inj hb3
    have : at_ = bt := by omega
    rw [e.1, this]
  clear hnew h2 h hr
  generalize (visit s r).1 = num at hinj ⊢
  induction r with
  | nil => exact List.nodup_nil
  | cons a r ih =>
    have h1 := List.nodup_cons.1 hn
    rw [List.map_cons, List.nodup_cons]
    refine ⟨fun hm => ?_, ih h1.2 fun x hx y hy => hinj x (List.mem_cons_of_mem _ hx) y (List.mem_cons_of_mem _ hy)⟩
    obtain ⟨b, hb, e⟩ := List.mem_map.1 hm
    have := hinj b (List.mem_cons_of_mem _ hb) a (List.mem_cons_self ..) e
    exact h1.1 (by rw [← this]; exact hb)

end Go.Proofs.Ytonpdclccgpceaa
