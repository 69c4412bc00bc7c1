/- canonical systems: plain laws: rows in order, the search from state 0; canonical systems: plain laws: the numbers of the states; canonical systems: plain laws: a valid system is canonical just when its states are found in order; canonical systems: plain laws: the canonical form of a canonical form is itself -/
import Derived.Test.YtmciinikfjfegaaRwG
namespace Go.Proofs.Ytmciinikfjfegaa
open Go Go.RowKit
set_option maxHeartbeats 4000000

/-- an arc put into a row in order -/
def insF : List Arc → Arc → List Arc
  | [], a => [a]
  | x :: r, a => if lessB x a = true then x :: insF r a else if x = a then x :: r else a :: x :: r
theorem lessB_irr (a : Arc) : lessB a a = false := by
  simp only [lessB, decide_eq_false_iff_not]
  omega
theorem lessB_trans {a b c : Arc} (h : lessB a b = true) (k : lessB b c = true) : lessB a c = true := by
  simp only [lessB, decide_eq_true_eq] at *
  omega
theorem InsR.eq : ∀ {l l' : List Arc} {a : Arc}, InsR l a l' → l' = insF l a
  | [], l', a, h => by
    obtain ⟨i, h1, _, _, ⟨_, h4⟩ | ⟨h4, _⟩⟩ := h
    · simp at h4
    · rw [h4]
      simp [insF]
  | x :: r, l', a, h => by
    obtain ⟨i, h1, h2, h3, h4⟩ := h
    cases i with
    | zero =>
      have h5 := h3 x rfl
      rw [insF, if_neg (by rw [h5]; simp)]
      rcases h4 with ⟨h4, h6⟩ | ⟨h4, h6⟩
      · have h7 : x = a := by simpa using h6
        rw [if_pos h7, h4]
      · rw [if_neg (fun e => h6 (by rw [e]; rfl)), h4]
        rfl
    | succ i =>
      have h5 := h2 0 x (by omega) rfl
      rw [insF, if_pos h5]
      have hr : InsR r a (l'.drop 1) := by
        refine ⟨i, by simpa using h1, fun j y hj hy => h2 (j + 1) y (by omega) (by simpa using hy), fun y hy => h3 y (by simpa using hy), ?_⟩
        rcases h4 with ⟨h4, h6⟩ | ⟨h4, h6⟩
        · exact .inl ⟨by rw [h4]; rfl, by simpa using h6⟩
        · exact .inr ⟨by rw [h4]; rfl, by simpa using h6⟩
      rw [← InsR.eq hr]
      rcases h4 with ⟨h4, _⟩ | ⟨h4, _⟩
      · rw [h4]; rfl
      · rw [h4]; rfl
theorem insF_mem (a x : Arc) : ∀ l : List Arc, x ∈ insF l a ↔ x = a ∨ x ∈ l
  | [] => by simp [insF]
  | y :: r => by
    rw [insF]
    split
    · rw [List.mem_cons, insF_mem a x r, List.mem_cons]
      constructor
      · rintro (h | h | h)
        · exact .inr (.inl h)
        · exact .inl h
        · exact .inr (.inr h)
      · rintro (h | h | h)
        · exact .inr (.inl h)
        · exact .inl h
        · exact .inr (.inr h)
    · split
      · rename_i h
        subst h
        rw [List.mem_cons]
        constructor
        · rintro (h | h)
          · exact .inl h
          · exact .inr (.inr h)
        · rintro (h | h)
          · exact .inl h
          · exact h
      · rw [List.mem_cons]
theorem ascB_cons {a : Arc} {l : List Arc} (h : ascB (a :: l) = true) : ∀ x ∈ l, lessB a x = true := by
  induction l generalizing a with
  | nil => intro x hx; cases hx
  | cons b r ih =>
    intro x hx
    rw [ascB, Bool.and_eq_true] at h
    rcases List.mem_cons.1 hx with rfl | hx
    · exact h.1
    · exact lessB_trans h.1 (ih h.2 x hx)
theorem ascB_mk {a : Arc} {l : List Arc} (h : ascB l = true) (h2 : ∀ x ∈ l, lessB a x = true) : ascB (a :: l) = true := by
  cases l with
  | nil => rfl
  | cons b r =>
    rw [ascB, Bool.and_eq_true]
    exact ⟨h2 b (List.mem_cons_self ..), h⟩
theorem insF_asc (a : Arc) : ∀ l : List Arc, ascB l = true → ascB (insF l a) = true
  | [], _ => rfl
  | y :: r, h => by
    rw [insF]
    split
    · rename_i h1
      refine ascB_mk (insF_asc a r (ascB_tail h)) fun x hx => ?_
      rcases (insF_mem a x r).1 hx with rfl | hx
      · exact h1
      · exact ascB_cons h x hx
    · rename_i h1
      split
      · exact h
      · rename_i h2
        have h3 := lessB_tot (by simpa using h1) h2
        refine ascB_mk h fun x hx => ?_
        rcases List.mem_cons.1 hx with rfl | hx
        · exact h3
        · exact lessB_trans h3 (ascB_cons h x hx)
/-- two rows in order with the same arcs are equal -/
theorem asc_ext : ∀ {l l' : List Arc}, ascB l = true → ascB l' = true → (∀ x, x ∈ l ↔ x ∈ l') → l = l'
  | [], [], _, _, _ => rfl
  | [], b :: r, _, _, h => by have := (h b).2 (List.mem_cons_self ..); cases this
  | a :: r, [], _, _, h => by have := (h a).1 (List.mem_cons_self ..); cases this
  | a :: r, b :: s, h1, h2, h => by
    have hab : a = b := by
      rcases List.mem_cons.1 ((h a).1 (List.mem_cons_self ..)) with e | e
      · exact e
      · rcases List.mem_cons.1 ((h b).2 (List.mem_cons_self ..)) with e2 | e2
        · exact e2.symm
        · have := lessB_trans (ascB_cons h1 b e2) (ascB_cons h2 a e)
          rw [lessB_irr] at this
          cases this
    subst hab
    congr 1
    refine asc_ext (ascB_tail h1) (ascB_tail h2) fun x => ⟨fun hx => ?_, fun hx => ?_⟩
    · rcases List.mem_cons.1 ((h x).1 (List.mem_cons_of_mem _ hx)) with e | e
      · subst e
        have := ascB_cons h1 x hx
        rw [lessB_irr] at this
        cases this
      · exact e
    · rcases List.mem_cons.1 ((h x).2 (List.mem_cons_of_mem _ hx)) with e | e
      · subst e
        have := ascB_cons h2 x hx
        rw [lessB_irr] at this
        cases this
      · exact e
/-- the arcs of a row in order, each once -/
def sd (l : List Arc) : List Arc := l.foldl insF []
theorem fold_asc : ∀ (l acc : List Arc), ascB acc = true → ascB (l.foldl insF acc) = true
  | [], _, h => h
  | a :: l, acc, h => fold_asc l _ (insF_asc a acc h)
theorem fold_mem (x : Arc) : ∀ (l acc : List Arc), x ∈ l.foldl insF acc ↔ x ∈ l ∨ x ∈ acc
  | [], _ => by simp
  | a :: l, acc => by
    rw [List.foldl_cons, fold_mem x l, insF_mem, List.mem_cons]
    constructor
    · rintro (h | h | h)
      · exact .inl (.inr h)
      · exact .inl (.inl h)
      · exact .inr h
    · rintro ((h | h) | h)
      · exact .inr (.inl h)
      · exact .inl h
      · exact .inr (.inr h)
theorem sd_asc (l : List Arc) : ascB (sd l) = true := fold_asc l [] rfl
theorem sd_mem (x : Arc) (l : List Arc) : x ∈ sd l ↔ x ∈ l := by rw [sd, fold_mem]; simp
theorem sd_self {l : List Arc} (h : ascB l = true) : sd l = l := asc_ext (sd_asc l) h fun x => sd_mem x l
theorem insF_len (a : Arc) : ∀ l : List Arc, (insF l a).length ≤ l.length + 1
  | [] => by simp [insF]
  | y :: r => by
    have := insF_len a r
    rw [insF]
    split
    · simp only [List.length_cons]; omega
    · split <;> simp
theorem fold_len : ∀ (l acc : List Arc), (l.foldl insF acc).length ≤ l.length + acc.length
  | [], acc => by simp
  | a :: l, acc => by
    have h1 := fold_len l (insF acc a)
    have h2 := insF_len a acc
    rw [List.foldl_cons, List.length_cons]
    omega
theorem sd_len (l : List Arc) : (sd l).length ≤ l.length := by have := fold_len l []; simpa [sd] using this
/-- neighbours that are equal, once -/
def cpt : List Arc → List Arc
  | [] => []
  | [a] => [a]
  | a :: b :: r => if a = b then cpt (b :: r) else a :: cpt (b :: r)
theorem cpt_mem (x : Arc) : ∀ l : List Arc, x ∈ cpt l ↔ x ∈ l
  | [] => by simp [cpt]
  | [a] => by simp [cpt]
  | a :: b :: r => by
    rw [cpt]
    have ih := cpt_mem x (b :: r)
    split
    · rename_i h
      subst h
      rw [ih]
      constructor
      · intro h; exact List.mem_cons_of_mem _ h
      · intro h
        rcases List.mem_cons.1 h with h | h
        · rw [h]; exact List.mem_cons_self ..
        · exact h
    · rw [List.mem_cons, ih, List.mem_cons (l := b :: r)]
theorem cpt_asc : ∀ l : List Arc, l.Pairwise (fun x y => lessB y x = false) → ascB (cpt l) = true
  | [], _ => rfl
  | [a], _ => rfl
  | a :: b :: r, h => by
    have h1 := List.pairwise_cons.1 h
    have ih := cpt_asc (b :: r) h1.2
    rw [cpt]
    split
    · exact ih
    · rename_i hne
      have hab : lessB a b = true := by
        have h2 := h1.1 b (List.mem_cons_self ..)
        exact lessB_tot h2 (fun e => hne e.symm)
      refine ascB_mk ih fun x hx => ?_
      have hx2 := (cpt_mem x (b :: r)).1 hx
      rcases List.mem_cons.1 hx2 with rfl | hx3
      · exact hab
      · have h3 := (List.pairwise_cons.1 h1.2).1 x hx3
        by_cases e : b = x
        · subst e; exact hab
        · exact lessB_trans hab (lessB_tot h3 (fun e2 => e e2.symm))
/-- sorted -/
def srt (l : List Arc) : List Arc := l.mergeSort fun x y => !lessB y x
theorem srt_pw (l : List Arc) : (srt l).Pairwise fun x y => lessB y x = false := by
  have h := List.pairwise_mergeSort (le := fun x y : Arc => !lessB y x) (fun a b c h1 h2 => by
    simp only [Bool.not_eq_true', lessB, decide_eq_false_iff_not] at *
    omega) (fun a b => by
    simp only [Bool.or_eq_true, Bool.not_eq_true', lessB, decide_eq_false_iff_not]
    omega) l
  exact h.imp fun h => by simpa using h
theorem srt_mem (x : Arc) (l : List Arc) : x ∈ srt l ↔ x ∈ l := List.mem_mergeSort
theorem cpt_srt (l : List Arc) : cpt (srt l) = sd l := asc_ext (cpt_asc _ (srt_pw l)) (sd_asc l) fun x => by rw [cpt_mem, srt_mem, sd_mem]
theorem srt_len (l : List Arc) : (srt l).length = l.length := List.length_mergeSort l
/-- a row without duplicates is only sorted -/
theorem srt_nodup {l : List Arc} (h : l.Nodup) : srt l = sd l := by
  refine asc_ext ?_ (sd_asc l) fun x => by rw [srt_mem, sd_mem]
  have h1 : (srt l).Nodup := (List.mergeSort_perm l _).nodup_iff.2 h
  have h2 := srt_pw l
  generalize srt l = m at h1 h2
  induction m with
  | nil => rfl
  | cons a r ih =>
    have h3 := List.nodup_cons.1 h1
    have h4 := List.pairwise_cons.1 h2
    refine ascB_mk (ih h3.2 h4.2) fun x hx => lessB_tot (h4.1 x hx) fun e => h3.1 (by rw [← e]; exact hx)
theorem asc_nodup : ∀ {l : List Arc}, ascB l = true → l.Nodup
  | [], _ => List.nodup_nil
  | a :: r, h => List.nodup_cons.2 ⟨fun hm => (by
      have := ascB_cons h a hm
      rw [lessB_irr] at this
      cases this), asc_nodup (ascB_tail h)⟩

end Go.Proofs.Ytmciinikfjfegaa
namespace Go.Proofs.Ytmciinikfjfegaa
open Go Go.RowKit
set_option maxHeartbeats 4000000

def numAt (num : List Int) (t : Int) : Int := num.getD t.toNat 0
/-- an arc is followed: its target gets a number, unless it has one -/
def stepC (s : List Int × List Nat) (a : Arc) : List Int × List Nat := if numAt s.1 a.to < 0 then (s.1.set a.to.toNat s.2.length, s.2 ++ [a.to.toNat]) else s
def visit (s : List Int × List Nat) (r : List Arc) : List Int × List Nat := r.foldl stepC s
def ren (num : List Int) (a : Arc) : Arc := ⟨a.ev, numAt num a.to⟩
structure CS where
  num : List Int
  old : List Nat
  out : List (List Arc)
def rowAt (ls : List (List Arc)) (s : Nat) : List Arc := ls.getD s []
def roundC (ls : List (List Arc)) (s : CS) (i : Nat) : CS :=
  ⟨(visit (s.num, s.old) (sd (rowAt ls (s.old.getD i 0)))).1, (visit (s.num, s.old) (sd (rowAt ls (s.old.getD i 0)))).2,
    s.out ++ [sd ((sd (rowAt ls (s.old.getD i 0))).map (ren (visit (s.num, s.old) (sd (rowAt ls (s.old.getD i 0)))).1))]⟩
def canonK (ls : List (List Arc)) : Nat → CS
  | 0 => ⟨(List.replicate ls.length (-1)).set 0 0, [0], []⟩
  | i + 1 => roundC ls (canonK ls i) i
/-- the search has come to its end -/
def DoneC (ls : List (List Arc)) (i : Nat) : Prop := (∀ j, j < i → j < (canonK ls j).old.length) ∧ (canonK ls i).old.length ≤ i
theorem DoneC.unique {ls : List (List Arc)} {i j : Nat} (h : DoneC ls i) (k : DoneC ls j) : i = j := by
  rcases Nat.lt_trichotomy i j with e | e | e
  · have h1 := k.1 i e
    have h2 := h.2
    omega
  · exact e
  · have h1 := h.1 j e
    have h2 := k.2
    omega

/-- what holds of the numbers and of the old states -/
structure CInv (n : Nat) (num : List Int) (old : List Nat) : Prop where
  len : num.length = n
  neg : ∀ x, x < n → num[x]? = some (-1) ∨ ∃ k : Nat, num[x]? = some (k : Int) ∧ old[k]? = some x
  fwd : ∀ (k x : Nat), old[k]? = some x → x < n ∧ num[x]? = some (k : Int)
  few : old.length + num.countP (fun z => decide (z < 0)) = n
theorem CInv.le {n : Nat} {num : List Int} {old : List Nat} (h : CInv n num old) : old.length ≤ n := by have := h.few; omega
theorem numAt_get {num : List Int} {x : Nat} {v : Int} (h : num[x]? = some v) (t : Int) (ht : t = x) : numAt num t = v := by
  subst ht
  rw [numAt, Int.toNat_natCast, List.getD_eq_getElem?_getD, h]
  rfl
theorem CInv.at_ {n : Nat} {num : List Int} {old : List Nat} (h : CInv n num old) {t : Int} (h0 : 0 ≤ t) (h1 : t < n) :
    num[t.toNat]? = some (numAt num t) ∧ (numAt num t = -1 ∨ ∃ k : Nat, numAt num t = k ∧ k < old.length ∧ old[k]? = some t.toNat) := by
  have ht : t = (t.toNat : Int) := by omega
  rcases h.neg t.toNat (by omega) with h2 | ⟨k, h2, h3⟩
  · have h4 := numAt_get h2 t ht
    exact ⟨by rw [h4]; exact h2, .inl h4⟩
  · have h4 := numAt_get h2 t ht
    exact ⟨by rw [h4]; exact h2, .inr ⟨k, h4, (List.getElem?_eq_some_iff.1 h3).1, h3⟩⟩
theorem CInv.step {n : Nat} {s : List Int × List Nat} (h : CInv n s.1 s.2) {a : Arc} (h0 : 0 ≤ a.to) (h1 : a.to < n) : CInv n (stepC s a).1 (stepC s a).2 := by
  unfold stepC
  split
  · rename_i hlt
    have ht : a.to.toNat < n := by omega
    have hl := h.len
    obtain ⟨h2, h3⟩ := h.at_ h0 h1
    have h4 : numAt s.1 a.to = -1 := by
      rcases h3 with h3 | ⟨k, h3, _⟩
      · exact h3
      · omega
    rw [h4] at h2
    have hnot : ∀ k, s.2[k]? ≠ some a.to.toNat := fun k e => by
      have := (h.fwd k _ e).2
      rw [h2] at this
      have := Option.some.inj this
      omega
    refine ⟨by rw [List.length_set]; exact hl, fun x hx => ?_, fun k x hk => ?_, ?_⟩
    · by_cases hxa : x = a.to.toNat
      · subst hxa
        exact .inr ⟨s.2.length, List.getElem?_set_self (by omega), by simp⟩
      · dsimp only
        rw [List.getElem?_set_ne (fun e => hxa e.symm)]
        rcases h.neg x hx with h5 | ⟨k, h5, h6⟩
        · exact .inl h5
        · exact .inr ⟨k, h5, by rw [List.getElem?_append_left (List.getElem?_eq_some_iff.1 h6).1]; exact h6⟩
    · dsimp only at hk ⊢
      rcases Nat.lt_or_ge k s.2.length with hk2 | hk2
      · rw [List.getElem?_append_left hk2] at hk
        obtain ⟨h5, h6⟩ := h.fwd k x hk
        exact ⟨h5, by rw [List.getElem?_set_ne (fun e => hnot k (by rw [e]; exact hk))]; exact h6⟩
      · rw [List.getElem?_append_right hk2] at hk
        have hk3 : k - s.2.length = 0 := by
          have := (List.getElem?_eq_some_iff.1 hk).1
          simp at this
          omega
        rw [hk3] at hk
        have hx : a.to.toNat = x := by simpa using hk
        subst hx
        have hk4 : k = s.2.length := by omega
        subst hk4
        exact ⟨ht, List.getElem?_set_self (by omega)⟩
    · dsimp only
      have hg : s.1[a.to.toNat]'(by omega) = -1 := by
        have := (List.getElem?_eq_some_iff.1 h2).2
        exact this
      have hp : 0 < s.1.countP (fun z => decide (z < 0)) := List.countP_pos_iff.2 ⟨-1, by rw [← hg]; exact List.getElem_mem _, by decide⟩
      rw [List.countP_set (by omega), hg, List.length_append]
      have h5 : ¬ (s.2.length : Int) < 0 := by omega
      have := h.few
      simp [h5]
      omega
  · exact h
theorem visit_cons (s : List Int × List Nat) (a : Arc) (r : List Arc) : visit s (a :: r) = visit (stepC s a) r := rfl
theorem CInv.visit {n : Nat} : ∀ (r : List Arc) {s : List Int × List Nat}, CInv n s.1 s.2 → (∀ a ∈ r, 0 ≤ a.to ∧ a.to < n) → CInv n (visit s r).1 (visit s r).2
  | [], _, h, _ => h
  | a :: r, s, h, hr => by
    rw [visit_cons]
    have h1 := hr a (List.mem_cons_self ..)
    exact CInv.visit r (h.step h1.1 h1.2) fun b hb => hr b (List.mem_cons_of_mem _ hb)
theorem CInv.init {n : Nat} (h : 0 < n) : CInv n ((List.replicate n (-1)).set 0 0) [0] := by
  refine ⟨by simp, fun x hx => ?_, fun k x hk => ?_, ?_⟩
  · by_cases h0 : x = 0
    · subst h0
      exact .inr ⟨0, List.getElem?_set_self (by simpa using h), rfl⟩
    · rw [List.getElem?_set_ne (fun e => h0 e.symm)]
      exact .inl (by simp [hx])
  · have hk0 : k = 0 := by
      have := (List.getElem?_eq_some_iff.1 hk).1
      simp at this
      exact this
    subst hk0
    have hx : 0 = x := by simpa using hk
    subst hx
    exact ⟨h, List.getElem?_set_self (by simpa using h)⟩
  · rw [List.countP_set (by simpa using h), List.countP_replicate]
    simp
    omega
/-- all targets of a system are states -/
def TosIn (ls : List (List Arc)) : Prop := ∀ l ∈ ls, ∀ a ∈ l, 0 ≤ a.to ∧ a.to < ls.length
theorem TosIn.row {ls : List (List Arc)} (h : TosIn ls) (s : Nat) : ∀ a ∈ rowAt ls s, 0 ≤ a.to ∧ a.to < ls.length := by
  intro a ha
  rw [rowAt, List.getD_eq_getElem?_getD] at ha
  cases hs : ls[s]? with
  | none => rw [hs] at ha; cases ha
  | some l =>
    rw [hs] at ha
    exact h l (List.mem_of_getElem? hs) a ha
theorem TosIn.sd {ls : List (List Arc)} (h : TosIn ls) (s : Nat) : ∀ a ∈ sd (rowAt ls s), 0 ≤ a.to ∧ a.to < ls.length := fun a ha => h.row s a ((sd_mem a _).1 ha)
theorem canon_inv {ls : List (List Arc)} (h : TosIn ls) (h0 : 0 < ls.length) : ∀ i, CInv ls.length (canonK ls i).num (canonK ls i).old
  | 0 => CInv.init h0
  | i + 1 => CInv.visit _ (s := ((canonK ls i).num, (canonK ls i).old)) (canon_inv h h0 i) (h.sd _)
theorem canon_out (ls : List (List Arc)) : ∀ i, (canonK ls i).out.length = i
  | 0 => rfl
  | i + 1 => by
    have := canon_out ls i
    simp [canonK, roundC, this]
theorem step_len (s : List Int × List Nat) (a : Arc) : s.2.length ≤ (stepC s a).2.length := by
  unfold stepC
  split
  · simp
  · exact Nat.le_refl _
theorem visit_len : ∀ (r : List Arc) (s : List Int × List Nat), s.2.length ≤ (visit s r).2.length
  | [], _ => Nat.le_refl _
  | a :: r, s => Nat.le_trans (step_len s a) (visit_len r (stepC s a))
/-- a number that was given stays -/
theorem step_keep {n : Nat} {s : List Int × List Nat} (_h : CInv n s.1 s.2) {a : Arc} (h0 : 0 ≤ a.to) (_h1 : a.to < n) {t : Int} (t0 : 0 ≤ t) (ht : 0 ≤ numAt s.1 t) : numAt (stepC s a).1 t = numAt s.1 t := by
  unfold stepC
  split
  · rename_i hlt
    have hne : a.to.toNat ≠ t.toNat := fun e => by
      have : a.to = t := by omega
      rw [this] at hlt
      omega
    simp only [numAt, List.getD_eq_getElem?_getD, List.getElem?_set_ne hne]
  · rfl
theorem step_new {n : Nat} {s : List Int × List Nat} (h : CInv n s.1 s.2) {a : Arc} (h0 : 0 ≤ a.to) (h1 : a.to < n) : 0 ≤ numAt (stepC s a).1 a.to := by
  unfold stepC
  split
  · simp only [numAt, List.getD_eq_getElem?_getD]
    rw [List.getElem?_set_self (by rw [h.len]; omega)]
    simp
  · rename_i h2
    omega
theorem visit_keep {n : Nat} : ∀ (r : List Arc) {s : List Int × List Nat}, CInv n s.1 s.2 → (∀ a ∈ r, 0 ≤ a.to ∧ a.to < n) → ∀ {t : Int}, 0 ≤ t → 0 ≤ numAt s.1 t → numAt (visit s r).1 t = numAt s.1 t
  | [], _, _, _, _, _, _ => rfl
  | a :: r, s, h, hr, t, t0, ht => by
    have h1 := hr a (List.mem_cons_self ..)
    have h2 := step_keep h h1.1 h1.2 t0 ht
    rw [visit_cons, visit_keep r (h.step h1.1 h1.2) (fun b hb => hr b (List.mem_cons_of_mem _ hb)) t0 (by rw [h2]; exact ht), h2]
theorem visit_new {n : Nat} : ∀ (r : List Arc) {s : List Int × List Nat}, CInv n s.1 s.2 → (∀ a ∈ r, 0 ≤ a.to ∧ a.to < n) → ∀ a ∈ r, 0 ≤ numAt (visit s r).1 a.to
  | [], _, _, _, a, ha => by cases ha
  | b :: r, s, h, hr, a, ha => by
    have h1 := hr b (List.mem_cons_self ..)
    have h2 := h.step h1.1 h1.2
    have h3 : ∀ c ∈ r, 0 ≤ c.to ∧ c.to < n := fun c hc => hr c (List.mem_cons_of_mem _ hc)
    rw [visit_cons]
    rcases List.mem_cons.1 ha with rfl | ha
    · have h4 := step_new h h1.1 h1.2
      rw [visit_keep r h2 h3 h1.1 h4]
      exact h4
    · exact visit_new r h2 h3 a ha
theorem visit_snoc (s : List Int × List Nat) (r : List Arc) (a : Arc) : visit s (r ++ [a]) = stepC (visit s r) a := by
  simp [visit, List.foldl_append]
/-- the renamed arcs of a row differ -/
theorem ren_nodup {n : Nat} {s : List Int × List Nat} {r : List Arc} (h : CInv n s.1 s.2) (hr : ∀ a ∈ r, 0 ≤ a.to ∧ a.to < n) (hn : r.Nodup) : (r.map (ren (visit s r).1)).Nodup := by
  have h2 := CInv.visit r h hr
  have hnew := visit_new r h hr
  have hinj : ∀ a ∈ r, ∀ b ∈ r, ren (visit s r).1 a = ren (visit s r).1 b → a = b := fun a ha b hb e => by
    obtain ⟨ae, at_⟩ := a
    obtain ⟨be, bt⟩ := b
    simp only [ren, Arc.mk.injEq] at e
    have hA := hr _ ha
    have hB := hr _ hb
    have na := hnew _ ha
    have nb := hnew _ hb
    dsimp only at hA hB na nb
    obtain ⟨_, ha2⟩ := h2.at_ hA.1 hA.2
    obtain ⟨_, hb2⟩ := h2.at_ hB.1 hB.2
    rcases ha2 with ha2 | ⟨k, ha2, _, ha3⟩
    · omega
    rcases hb2 with hb2 | ⟨k', hb2, _, hb3⟩
    · omega
    have hk : k = k' := by omega
    subst hk
    rw [ha3] at hb3
    have := Option.some.inj hb3
    have : at_ = bt := by omega
    rw [e.1, this]
  clear hnew h2 h hr
  generalize (visit s r).1 = num at hinj ⊢
  induction r with
  | nil => exact List.nodup_nil
  | cons a r ih =>
    have h1 := List.nodup_cons.1 hn
    rw [List.map_cons, List.nodup_cons]
    refine ⟨fun hm => ?_, ih h1.2 fun x hx y hy => hinj x (List.mem_cons_of_mem _ hx) y (List.mem_cons_of_mem _ hy)⟩
    obtain ⟨b, hb, e⟩ := List.mem_map.1 hm
    have := hinj b (List.mem_cons_of_mem _ hb) a (List.mem_cons_self ..) e
    exact h1.1 (by rw [← this]; exact hb)

end Go.Proofs.Ytmciinikfjfegaa
namespace Go.Proofs.Ytmciinikfjfegaa
open Go Go.RowKit
set_option maxHeartbeats 4000000

theorem asc_pw : ∀ {l : List Arc}, ascB l = true → l.Pairwise fun x y => lessB x y = true
  | [], _ => List.Pairwise.nil
  | _ :: _, h => List.pairwise_cons.2 ⟨ascB_cons h, asc_pw (ascB_tail h)⟩
theorem asc_lt {r : List Arc} (h : ascB r = true) {j k : Nat} {a b : Arc} (hj : r[j]? = some b) (hk : r[k]? = some a) (hl : lessB b a = true) : j < k := by
  obtain ⟨hj1, hj2⟩ := List.getElem?_eq_some_iff.1 hj
  obtain ⟨hk1, hk2⟩ := List.getElem?_eq_some_iff.1 hk
  rcases Nat.lt_trichotomy j k with e | e | e
  · exact e
  · subst e
    rw [hj2] at hk2
    subst hk2
    rw [lessB_irr] at hl
    cases hl
  · have h1 := List.pairwise_iff_getElem.1 (asc_pw h) k j hk1 hj1 e
    rw [hj2, hk2] at h1
    have h2 := lessB_trans hl h1
    rw [lessB_irr] at h2
    cases h2
theorem visit_append (s : List Int × List Nat) (r r' : List Arc) : visit s (r ++ r') = visit (visit s r) r' := by simp [visit, List.foldl_append]
theorem step_get {s : List Int × List Nat} {a : Arc} {q x : Nat} (h : s.2[q]? = some x) : (stepC s a).2[q]? = some x := by
  unfold stepC
  split
  · rw [List.getElem?_append_left (List.getElem?_eq_some_iff.1 h).1]
    exact h
  · exact h
theorem visit_get : ∀ (r : List Arc) {s : List Int × List Nat} {q x : Nat}, s.2[q]? = some x → (visit s r).2[q]? = some x
  | [], _, _, _, h => h
  | a :: r, s, _, _, h => by
    rw [visit_cons]
    exact visit_get r (step_get h)
theorem canon_get1 {ls : List (List Arc)} {k q x : Nat} (h : (canonK ls k).old[q]? = some x) : (canonK ls (k + 1)).old[q]? = some x := visit_get _ (s := ((canonK ls k).num, (canonK ls k).old)) h
theorem canon_get {ls : List (List Arc)} {k i q x : Nat} (hk : k ≤ i) (h : (canonK ls k).old[q]? = some x) : (canonK ls i).old[q]? = some x := by
  induction i with
  | zero =>
    obtain rfl : k = 0 := by omega
    exact h
  | succ i ih =>
    by_cases e : k = i + 1
    · subst e; exact h
    · exact canon_get1 (ih (by omega))
theorem canon_len {ls : List (List Arc)} {k i : Nat} (hk : k ≤ i) : (canonK ls k).old.length ≤ (canonK ls i).old.length := by
  by_cases h : (canonK ls k).old.length = 0
  · omega
  · have h1 := canon_get hk (List.getElem?_eq_getElem (show (canonK ls k).old.length - 1 < (canonK ls k).old.length by omega))
    have h2 := (List.getElem?_eq_some_iff.1 h1).1
    omega
/-- the row that the search makes of a state -/
def outRow (ls : List (List Arc)) (k : Nat) : List Arc := sd ((sd (rowAt ls ((canonK ls k).old.getD k 0))).map (ren (canonK ls (k + 1)).num))
theorem canon_row {ls : List (List Arc)} {k i : Nat} (hk : k < i) : (canonK ls i).out[k]? = some (outRow ls k) := by
  induction i with
  | zero => omega
  | succ i ih =>
    have h1 : (canonK ls (i + 1)).out = (canonK ls i).out ++ [outRow ls i] := rfl
    rw [h1]
    by_cases e : k = i
    · subst e
      rw [List.getElem?_append_right (by rw [canon_out]; exact Nat.le_refl _), canon_out, Nat.sub_self]
      rfl
    · rw [List.getElem?_append_left (by rw [canon_out]; omega)]
      exact ih (by omega)
theorem done_bound {ls : List (List Arc)} {i : Nat} (h : TosIn ls) (h0 : 0 < ls.length) (hd : DoneC ls i) : (canonK ls i).old.length = i ∧ i ≤ ls.length ∧ 0 < i := by
  have h2 := hd.2
  have h3 := (canon_inv h h0 i).le
  have h4 := canon_len (ls := ls) (Nat.zero_le i)
  have h5 : (canonK ls 0).old.length = 1 := rfl
  cases i with
  | zero => omega
  | succ i =>
    have h1 := hd.1 i (by omega)
    have h6 := canon_len (ls := ls) (show i ≤ i + 1 by omega)
    omega

/-- where renaming keeps the arcs of a row, the new states come in order -/
theorem visit_id {n : Nat} {s : List Int × List Nat} {r : List Arc} (h : CInv n s.1 s.2) (hr : ∀ a ∈ r, 0 ≤ a.to ∧ a.to < n) (ha : ascB r = true) (hs : s.2 = List.range s.2.length) (hfix : ∀ a ∈ r, ren (visit s r).1 a ∈ r) :
    ∀ k, k ≤ r.length → (visit s (r.take k)).2 = List.range (visit s (r.take k)).2.length
  | 0, _ => hs
  | k + 1, hk => by
    have ih := visit_id h hr ha hs hfix k (by omega)
    obtain ⟨a, hak⟩ : ∃ a, r[k]? = some a := ⟨_, List.getElem?_eq_getElem (by omega)⟩
    have ham := List.mem_of_getElem? hak
    have hat := hr a ham
    have hrk : ∀ b ∈ r.take k, 0 ≤ b.to ∧ b.to < n := fun b hb => hr b (List.mem_of_mem_take hb)
    have hv := CInv.visit (r.take k) h hrk
    have hnew := visit_new (r.take k) h hrk
    have hfin : visit s r = visit (stepC (visit s (r.take k)) a) (r.drop (k + 1)) := by
      rw [← visit_snoc, ← visit_append]
      congr 1
      have := List.take_append_drop (k + 1) r
      rw [List.take_add_one, hak] at this
      exact this.symm
    rw [List.take_add_one, hak]
    show (visit s (r.take k ++ [a])).2 = List.range (visit s (r.take k ++ [a])).2.length
    rw [visit_snoc]
    obtain ⟨v, hve⟩ : ∃ v, visit s (r.take k) = v := ⟨_, rfl⟩
    rw [hve] at ih hv hnew hfin ⊢
    by_cases hlt : numAt v.1 a.to < 0
    · have hst : stepC v a = (v.1.set a.to.toNat v.2.length, v.2 ++ [a.to.toNat]) := by rw [stepC, if_pos hlt]
      have hm : numAt (stepC v a).1 a.to = v.2.length := by
        rw [hst]
        exact numAt_get (List.getElem?_set_self (by rw [hv.len]; omega)) _ (by omega)
      have hmf : numAt (visit s r).1 a.to = v.2.length := by
        rw [hfin, visit_keep (n := n) _ (hv.step hat.1 hat.2) (fun b hb => hr b (List.mem_of_mem_drop hb)) hat.1 (by rw [hm]; omega), hm]
      have hmem := hfix a ham
      rw [ren, hmf] at hmem
      have hge : v.2.length ≤ a.to.toNat := by
        apply Nat.le_of_not_lt
        intro hc
        have h1 : v.2[a.to.toNat]? = some a.to.toNat := by
          rw [ih]
          simp [hc]
        have h2 := numAt_get (hv.fwd _ _ h1).2 a.to (by omega)
        omega
      have heq : a.to.toNat = v.2.length := by
        apply Nat.le_antisymm _ hge
        apply Nat.le_of_not_lt
        intro hc
        obtain ⟨j, hj⟩ := List.getElem?_of_mem hmem
        have hjk := asc_lt ha hj hak (by
          rw [lessB]
          exact decide_eq_true (.inr ⟨rfl, by dsimp only; omega⟩))
        have hmt : (⟨a.ev, v.2.length⟩ : Arc) ∈ r.take k := by
          apply List.mem_of_getElem? (i := j)
          rw [List.getElem?_take, if_pos hjk]
          exact hj
        have h1 := hnew _ hmt
        have h2 := hrk _ hmt
        dsimp only at h1 h2
        obtain ⟨_, h3 | ⟨q, h3, h4, h5⟩⟩ := hv.at_ h2.1 h2.2
        · omega
        · have h6 : v.2[q]? = some q := by
            rw [ih]
            simp [h4]
          rw [h6] at h5
          have h7 := Option.some.inj h5
          omega
      rw [hst]
      dsimp only
      rw [List.length_append, List.length_singleton, List.range_succ, ← ih, heq]
    · have hst : stepC v a = v := by rw [stepC, if_neg hlt]
      rw [hst]
      exact ih

theorem rowAt_get {ls : List (List Arc)} {k : Nat} {x : List Arc} (h : ls[k]? = some x) : rowAt ls k = x := by rw [rowAt, List.getD_eq_getElem?_getD, h]; rfl
theorem range_get {l : List Nat} {k : Nat} (h : l = List.range l.length) (hk : k < l.length) : l[k]? = some k := by
  rw [h]
  simp [hk]
/-- a system that is its own form has its states in order -/
theorem out_id {ls : List (List Arc)} {i : Nat} (h : TosIn ls) (h0 : 0 < ls.length) (ha : ∀ l ∈ ls, ascB l = true) (hd : DoneC ls i) (he : (canonK ls i).out = ls) : (canonK ls i).old = List.range ls.length := by
  have hi : i = ls.length := by rw [← he, canon_out]
  obtain ⟨h1, _, _⟩ := done_bound h h0 hd
  have hk : ∀ k, k ≤ i → (canonK ls k).old = List.range (canonK ls k).old.length := by
    intro k
    induction k with
    | zero => intro _; rfl
    | succ k ih =>
      intro hk
      have ih := ih (by omega)
      have hg := range_get ih (hd.1 k (by omega))
      have hg2 : (canonK ls k).old.getD k 0 = k := by rw [List.getD_eq_getElem?_getD, hg]; rfl
      obtain ⟨x, hx⟩ : ∃ x, ls[k]? = some x := ⟨_, List.getElem?_eq_getElem (by omega)⟩
      have hxa := ha x (List.mem_of_getElem? hx)
      have hc := canon_row (ls := ls) (show k < i by omega)
      rw [he, hx] at hc
      have hc := Option.some.inj hc
      have hnum : (canonK ls (k + 1)).num = (visit ((canonK ls k).num, (canonK ls k).old) x).1 := by
        show (visit ((canonK ls k).num, (canonK ls k).old) (sd (rowAt ls ((canonK ls k).old.getD k 0)))).1 = _
        rw [hg2, rowAt_get hx, sd_self hxa]
      have hold : (canonK ls (k + 1)).old = (visit ((canonK ls k).num, (canonK ls k).old) x).2 := by
        show (visit ((canonK ls k).num, (canonK ls k).old) (sd (rowAt ls ((canonK ls k).old.getD k 0)))).2 = _
        rw [hg2, rowAt_get hx, sd_self hxa]
      rw [outRow, hg2, rowAt_get hx, sd_self hxa, hnum] at hc
      have := visit_id (s := ((canonK ls k).num, (canonK ls k).old)) (canon_inv h h0 k) (h x (List.mem_of_getElem? hx)) hxa ih (fun a ham => by
        have h2 := (sd_mem (ren (visit ((canonK ls k).num, (canonK ls k).old) x).1 a) _).2 (List.mem_map_of_mem ham)
        rw [← hc] at h2
        exact h2) x.length (Nat.le_refl _)
      rw [List.take_length] at this
      rw [hold]
      exact this
  have := hk i (Nat.le_refl _)
  rw [h1, hi] at this
  rw [hi]
  exact this
/-- a system whose states come in order is its own form -/
theorem old_id {ls : List (List Arc)} {i : Nat} (h : TosIn ls) (h0 : 0 < ls.length) (ha : ∀ l ∈ ls, ascB l = true) (hd : DoneC ls i) (ho : (canonK ls i).old = List.range ls.length) : (canonK ls i).out = ls := by
  obtain ⟨h1, _, _⟩ := done_bound h h0 hd
  have hi : i = ls.length := by rw [← h1, ho, List.length_range]
  apply List.ext_getElem?
  intro k
  by_cases hk : k < i
  · obtain ⟨x, hx⟩ : ∃ x, ls[k]? = some x := ⟨_, List.getElem?_eq_getElem (by omega)⟩
    have hxa := ha x (List.mem_of_getElem? hx)
    have hxt := h x (List.mem_of_getElem? hx)
    rw [canon_row hk, hx]
    congr 1
    have hg2 : (canonK ls k).old.getD k 0 = k := by
      have hl := hd.1 k hk
      have h2 := canon_get (show k ≤ i by omega) (List.getElem?_eq_getElem hl)
      rw [ho] at h2
      have h3 := (List.getElem?_eq_some_iff.1 h2).2
      rw [List.getElem_range] at h3
      rw [List.getD_eq_getElem?_getD, List.getElem?_eq_getElem hl, ← h3]
      rfl
    have hnum : (canonK ls (k + 1)).num = (visit ((canonK ls k).num, (canonK ls k).old) x).1 := by
      show (visit ((canonK ls k).num, (canonK ls k).old) (sd (rowAt ls ((canonK ls k).old.getD k 0)))).1 = _
      rw [hg2, rowAt_get hx, sd_self hxa]
    rw [outRow, hg2, rowAt_get hx, sd_self hxa]
    have hm : x.map (ren (canonK ls (k + 1)).num) = x := by
      conv => rhs; rw [← List.map_id x]
      apply List.map_congr_left
      intro a ham
      have h2 := visit_new x (s := ((canonK ls k).num, (canonK ls k).old)) (canon_inv h h0 k) hxt a ham
      rw [← hnum] at h2
      have h3 := hxt a ham
      obtain ⟨_, h4 | ⟨q, h4, h5, h6⟩⟩ := (canon_inv h h0 (k + 1)).at_ h3.1 h3.2
      · omega
      · have h7 := canon_get (show k + 1 ≤ i by omega) h6
        rw [ho] at h7
        have h8 := (List.getElem?_eq_some_iff.1 h7).2
        rw [List.getElem_range] at h8
        rw [ren, h4, h8]
        obtain ⟨ae, at_⟩ := a
        dsimp only at h3 ⊢
        rw [Int.toNat_of_nonneg h3.1]
        rfl
    rw [hm, sd_self hxa]
  · rw [List.getElem?_eq_none (by rw [canon_out]; omega), List.getElem?_eq_none (by omega)]

end Go.Proofs.Ytmciinikfjfegaa
namespace Go.Proofs.Ytmciinikfjfegaa
open Go Go.RowKit
set_option maxHeartbeats 4000000

theorem stepC_new {s : List Int × List Nat} {a : Arc} (h : numAt s.1 a.to < 0) : stepC s a = (s.1.set a.to.toNat s.2.length, s.2 ++ [a.to.toNat]) := by rw [stepC, if_pos h]
theorem stepC_old {s : List Int × List Nat} {a : Arc} (h : ¬ numAt s.1 a.to < 0) : stepC s a = s := by rw [stepC, if_neg h]
/-- where a number is given first -/
theorem visit_first {n : Nat} : ∀ (r : List Arc) {s : List Int × List Nat}, CInv n s.1 s.2 → (∀ a ∈ r, 0 ≤ a.to ∧ a.to < n) → ∀ {p : Nat}, s.2.length ≤ p → p < (visit s r).2.length →
    ∃ (j : Nat) (b : Arc), r[j]? = some b ∧ numAt (visit s r).1 b.to = p ∧ (visit s (r.take j)).2.length = p
  | [], s, _, _, p, h1, h2 => by
    have h3 : p < s.2.length := h2
    omega
  | a :: r, s, h, hr, p, h1, h2 => by
    have hat := hr a (List.mem_cons_self ..)
    have hrr : ∀ b ∈ r, 0 ≤ b.to ∧ b.to < n := fun b hb => hr b (List.mem_cons_of_mem _ hb)
    by_cases hp : p < (stepC s a).2.length
    · by_cases hlt : numAt s.1 a.to < 0
      · have hst := stepC_new hlt
        have hpe : p = s.2.length := by
          rw [hst] at hp
          simp at hp
          omega
        have hm : numAt (stepC s a).1 a.to = s.2.length := by
          rw [hst]
          exact numAt_get (List.getElem?_set_self (by rw [h.len]; omega)) _ (by omega)
        refine ⟨0, a, rfl, ?_, hpe.symm⟩
        rw [visit_cons, visit_keep (n := n) r (h.step hat.1 hat.2) hrr hat.1 (by rw [hm]; omega), hm, hpe]
      · rw [stepC_old hlt] at hp
        omega
    · rw [visit_cons] at h2
      obtain ⟨j, b, hj, hb, hl⟩ := visit_first r (h.step hat.1 hat.2) hrr (Nat.le_of_not_lt hp) h2
      exact ⟨j + 1, b, by simpa using hj, by rw [visit_cons]; exact hb, by rw [List.take_succ_cons, visit_cons]; exact hl⟩
/-- greater numbers come later -/
theorem visit_later {n : Nat} {r : List Arc} {s : List Int × List Nat} (h : CInv n s.1 s.2) (hr : ∀ a ∈ r, 0 ≤ a.to ∧ a.to < n) {p j k : Nat} {a : Arc} (hj : (visit s (r.take j)).2.length ≤ p) (hk : r[k]? = some a) (hx : (p : Int) ≤ numAt (visit s r).1 a.to) : j ≤ k := by
  apply Nat.le_of_not_lt
  intro hc
  have hrj : ∀ b ∈ r.take j, 0 ≤ b.to ∧ b.to < n := fun b hb => hr b (List.mem_of_mem_take hb)
  have ham : a ∈ r.take j := by
    apply List.mem_of_getElem? (i := k)
    rw [List.getElem?_take, if_pos hc]
    exact hk
  have hat := hrj a ham
  have hv := CInv.visit (r.take j) h hrj
  have h1 := visit_new (r.take j) h hrj a ham
  obtain ⟨_, h2 | ⟨q, h2, h3, _⟩⟩ := hv.at_ hat.1 hat.2
  · omega
  · have h4 : visit s r = visit (visit s (r.take j)) (r.drop j) := by rw [← visit_append, List.take_append_drop]
    rw [h4, visit_keep (n := n) _ hv (fun b hb => hr b (List.mem_of_mem_drop hb)) hat.1 h1, h2] at hx
    omega
theorem num_bound {n : Nat} {r : List Arc} {s : List Int × List Nat} (h : CInv n s.1 s.2) (hr : ∀ a ∈ r, 0 ≤ a.to ∧ a.to < n) {a : Arc} (ha : a ∈ r) : 0 ≤ numAt (visit s r).1 a.to ∧ numAt (visit s r).1 a.to < (visit s r).2.length := by
  have hat := hr a ha
  have h1 := visit_new r h hr a ha
  obtain ⟨_, h2 | ⟨q, h2, h3, _⟩⟩ := (CInv.visit r h hr).at_ hat.1 hat.2 <;> omega

theorem visit_stable {n m : Nat} {s s' : List Int × List Nat} {r : List Arc} (h : CInv n s.1 s.2) (hr : ∀ a ∈ r, 0 ≤ a.to ∧ a.to < n) (ha : ascB r = true) (h' : CInv m s'.1 s'.2) (hs' : s'.2 = List.range s.2.length) (hm : (visit s r).2.length ≤ m) :
    (visit s' (sd (r.map (ren (visit s r).1)))).2 = List.range (visit s r).2.length := by
  obtain ⟨r', hr'⟩ : ∃ r', sd (r.map (ren (visit s r).1)) = r' := ⟨_, rfl⟩
  have hmem : ∀ x, x ∈ r' ↔ ∃ a ∈ r, ren (visit s r).1 a = x := fun x => by rw [← hr', sd_mem, List.mem_map]
  have hasc : ascB r' = true := by rw [← hr']; exact sd_asc _
  have hto : ∀ a ∈ r', 0 ≤ a.to ∧ a.to < m := fun x hx => by
    obtain ⟨a, h1, rfl⟩ := (hmem x).1 hx
    have h2 := num_bound h hr h1
    exact ⟨h2.1, by have h3 := h2.2; show numAt _ a.to < _; omega⟩
  rw [hr']
  have hseen : ∀ (k q : Nat) (b : Arc), b ∈ r → numAt (visit s r).1 b.to = q → (visit s' (r'.take k)).2 = List.range q → ren (visit s r).1 b ∈ r'.take k → False := by
    intro k q b hb hbq hk hin
    have hrk : ∀ b ∈ r'.take k, 0 ≤ b.to ∧ b.to < m := fun b hb => hto b (List.mem_of_mem_take hb)
    have h2 := num_bound h' hrk hin
    rw [hk, List.length_range] at h2
    have hv := CInv.visit (r'.take k) h' hrk
    have h3 := hrk _ hin
    obtain ⟨_, h4 | ⟨x, h4, h5, h6⟩⟩ := hv.at_ h3.1 h3.2
    · omega
    · rw [hk] at h6
      have h7 := (List.getElem?_eq_some_iff.1 h6).2
      rw [List.getElem_range] at h7
      have h8 : (ren (visit s r).1 b).to = q := hbq
      rw [h8] at h7
      rw [hk, List.length_range] at h5
      omega
  have key : ∀ k, k ≤ r'.length → ∃ q, s.2.length ≤ q ∧ q ≤ (visit s r).2.length ∧ (visit s' (r'.take k)).2 = List.range q := by
    intro k
    induction k with
    | zero => intro _; exact ⟨s.2.length, Nat.le_refl _, visit_len r s, hs'⟩
    | succ k ih =>
      intro hk
      obtain ⟨q, hq1, hq2, hq3⟩ := ih (by omega)
      obtain ⟨a', hak⟩ : ∃ a, r'[k]? = some a := ⟨_, List.getElem?_eq_getElem (by omega)⟩
      have ham' := List.mem_of_getElem? hak
      have hat' := hto a' ham'
      have hrk : ∀ b ∈ r'.take k, 0 ≤ b.to ∧ b.to < m := fun b hb => hto b (List.mem_of_mem_take hb)
      have hv := CInv.visit (r'.take k) h' hrk
      have hnext : visit s' (r'.take (k + 1)) = stepC (visit s' (r'.take k)) a' := by
        rw [List.take_add_one, hak]
        exact visit_snoc _ _ _
      by_cases hlt : numAt (visit s' (r'.take k)).1 a'.to < 0
      · have hge : q ≤ a'.to.toNat := by
          apply Nat.le_of_not_lt
          intro hc
          have h1 : (visit s' (r'.take k)).2[a'.to.toNat]? = some a'.to.toNat := by
            rw [hq3]
            simp [hc]
          have h2 := numAt_get (hv.fwd _ _ h1).2 a'.to (by omega)
          omega
        obtain ⟨a, har, hae⟩ := (hmem a').1 ham'
        have hb1 := num_bound h hr har
        have hae2 : numAt (visit s r).1 a.to = a'.to := by rw [← hae]; rfl
        have hae3 : a.ev = a'.ev := by rw [← hae]; rfl
        rw [hae2] at hb1
        have heq : a'.to.toNat = q := by
          apply Nat.le_antisymm _ hge
          apply Nat.le_of_not_lt
          intro hc
          obtain ⟨j, b, hj, hbq, hbl⟩ := visit_first r h hr hq1 (by omega)
          have hbr := List.mem_of_getElem? hj
          obtain ⟨ka, hka⟩ := List.getElem?_of_mem har
          have hle := visit_later h hr (p := q) (j := j) (k := ka) (Nat.le_of_eq hbl) hka (by rw [hae2]; omega)
          have hev : b.ev ≤ a.ev := by
            rcases Nat.eq_or_lt_of_le hle with e | e
            · subst e
              rw [hj] at hka
              obtain rfl := Option.some.inj hka
              omega
            · obtain ⟨hj1, hj2⟩ := List.getElem?_eq_some_iff.1 hj
              obtain ⟨hk1, hk2⟩ := List.getElem?_eq_some_iff.1 hka
              have h1 := List.pairwise_iff_getElem.1 (asc_pw ha) j ka hj1 hk1 e
              rw [hj2, hk2, lessB] at h1
              have h2 := of_decide_eq_true h1
              omega
          have hbm : ren (visit s r).1 b ∈ r' := (hmem _).2 ⟨b, hbr, rfl⟩
          obtain ⟨jb, hjb⟩ := List.getElem?_of_mem hbm
          have hjk := asc_lt hasc hjb hak (by
            rw [lessB]
            apply decide_eq_true
            show b.ev < a'.ev ∨ b.ev = a'.ev ∧ numAt (visit s r).1 b.to < a'.to
            omega)
          exact hseen k q b hbr hbq hq3 (by
            apply List.mem_of_getElem? (i := jb)
            rw [List.getElem?_take, if_pos hjk]
            exact hjb)
        refine ⟨q + 1, by omega, by omega, ?_⟩
        rw [hnext, stepC_new hlt]
        dsimp only
        rw [hq3, heq, ← List.range_succ]
      · exact ⟨q, hq1, hq2, by rw [hnext, stepC_old hlt]; exact hq3⟩
  obtain ⟨q, hq1, hq2, hq3⟩ := key r'.length (Nat.le_refl _)
  by_cases hql : q = (visit s r).2.length
  · rw [List.take_length] at hq3
    rw [hq3, hql]
  · exfalso
    obtain ⟨j, b, hj, hbq, hbl⟩ := visit_first r h hr hq1 (by omega)
    have hbr := List.mem_of_getElem? hj
    exact hseen r'.length q b hbr hbq hq3 (by rw [List.take_length]; exact (hmem _).2 ⟨b, hbr, rfl⟩)

section
variable {ls : List (List Arc)} {i : Nat}
theorem out_at {l : List Arc} (hl : l ∈ (canonK ls i).out) : ∃ k, k < i ∧ l = outRow ls k := by
  obtain ⟨k, hk⟩ := List.getElem?_of_mem hl
  have h1 := (List.getElem?_eq_some_iff.1 hk).1
  rw [canon_out] at h1
  rw [canon_row h1] at hk
  exact ⟨k, h1, (Option.some.inj hk).symm⟩
theorem out_tos (h : TosIn ls) (h0 : 0 < ls.length) (hd : DoneC ls i) : TosIn (canonK ls i).out := by
  intro l hl a ha
  obtain ⟨k, hk, rfl⟩ := out_at hl
  rw [canon_out]
  obtain ⟨b, hb, rfl⟩ := List.mem_map.1 ((sd_mem _ _).1 ha)
  have h1 := num_bound (s := ((canonK ls k).num, (canonK ls k).old)) (canon_inv h h0 k) (h.sd ((canonK ls k).old.getD k 0)) hb
  have h2 := canon_len (ls := ls) (show k + 1 ≤ i by omega)
  have h3 : (canonK ls (k + 1)).old = (visit ((canonK ls k).num, (canonK ls k).old) (sd (rowAt ls ((canonK ls k).old.getD k 0)))).2 := rfl
  rw [← h3] at h1
  have h4 := hd.2
  exact ⟨h1.1, by have h5 := h1.2; show numAt _ b.to < _; exact Int.lt_of_lt_of_le h5 (by omega)⟩
theorem stable_old (h : TosIn ls) (h0 : 0 < ls.length) (hd : DoneC ls i) : ∀ k, k ≤ i → (canonK (canonK ls i).out k).old = List.range (canonK ls k).old.length := by
  obtain ⟨hb1, _, hb3⟩ := done_bound h h0 hd
  have ho := out_tos h h0 hd
  have hol : 0 < (canonK ls i).out.length := by rw [canon_out]; exact hb3
  intro k
  induction k with
  | zero => intro _; rfl
  | succ k ih =>
    intro hk
    have ih := ih (by omega)
    have hg := range_get (l := (canonK (canonK ls i).out k).old) (by rw [ih, List.length_range]) (k := k) (by rw [ih, List.length_range]; exact hd.1 k (by omega))
    have hg2 : (canonK (canonK ls i).out k).old.getD k 0 = k := by rw [List.getD_eq_getElem?_getD, hg]; rfl
    have hrow : rowAt (canonK ls i).out k = outRow ls k := rowAt_get (canon_row (by omega))
    have hn : (canonK (canonK ls i).out (k + 1)).old = (visit ((canonK (canonK ls i).out k).num, (canonK (canonK ls i).out k).old) (outRow ls k)).2 := by
      show (visit ((canonK (canonK ls i).out k).num, (canonK (canonK ls i).out k).old) (sd (rowAt (canonK ls i).out ((canonK (canonK ls i).out k).old.getD k 0)))).2 = _
      rw [hg2, hrow, outRow, sd_self (sd_asc _)]
    rw [hn]
    have hlen := canon_len (ls := ls) (show k + 1 ≤ i by omega)
    exact visit_stable (m := i) (s := ((canonK ls k).num, (canonK ls k).old)) (s' := ((canonK (canonK ls i).out k).num, (canonK (canonK ls i).out k).old)) (canon_inv h h0 k) (h.sd ((canonK ls k).old.getD k 0)) (sd_asc _)
      (by have := canon_inv ho hol k; rw [canon_out] at this; exact this) ih (by rw [hb1] at hlen; exact hlen)
theorem stable_done (h : TosIn ls) (h0 : 0 < ls.length) (hd : DoneC ls i) : DoneC (canonK ls i).out i ∧ (canonK (canonK ls i).out i).old = List.range i ∧ (canonK (canonK ls i).out i).out = (canonK ls i).out := by
  have hk := stable_old h h0 hd
  obtain ⟨hb1, _, hb3⟩ := done_bound h h0 hd
  have h1 : DoneC (canonK ls i).out i := ⟨fun j hj => by rw [hk j (by omega), List.length_range]; exact hd.1 j hj, by rw [hk i (Nat.le_refl _), List.length_range]; exact hd.2⟩
  have h2 : (canonK (canonK ls i).out i).old = List.range i := by rw [hk i (Nat.le_refl _), hb1]
  refine ⟨h1, h2, old_id (out_tos h h0 hd) (by rw [canon_out]; exact hb3) (fun l hl => ?_) h1 (by rw [canon_out]; exact h2)⟩
  obtain ⟨k, _, rfl⟩ := out_at hl
  exact sd_asc _

theorem sum_some (f : Nat → Nat) : ∀ (n : Nat) (l : List Nat), l.Nodup → (∀ x ∈ l, x < n) → (l.map f).sum ≤ ((List.range n).map f).sum
  | 0, l, _, h => by
    cases l with
    | nil => exact Nat.le_refl _
    | cons a l => have := h a (List.mem_cons_self ..); omega
  | n + 1, l, hn, h => by
    rw [List.range_succ, List.map_append, List.sum_append]
    by_cases hm : n ∈ l
    · have h1 := (List.perm_cons_erase hm).map f
      have h2 := h1.sum_nat
      have h3 := sum_some f n (l.erase n) (hn.erase n) (fun x hx => by
        have h4 := (hn.mem_erase_iff).1 hx
        have h5 := h x h4.2
        omega)
      rw [h2]
      simp
      omega
    · have h3 := sum_some f n l hn (fun x hx => by
        have h5 := h x hx
        have h6 : x ≠ n := fun e => hm (e ▸ hx)
        omega)
      omega
theorem total_range (ls : List (List Arc)) : total ls = ((List.range ls.length).map fun x => (rowAt ls x).length).sum := by
  rw [total]
  congr 1
  apply List.ext_getElem (by simp)
  intro j h1 h2
  simp [rowAt]
  rw [List.getElem?_eq_getElem (by simpa using h1)]
  rfl
theorem CInv.nodup {n : Nat} {num : List Int} {old : List Nat} (h : CInv n num old) : old.Nodup := by
  rw [List.nodup_iff_pairwise_ne, List.pairwise_iff_getElem]
  intro j k hj hk hlt e
  have h1 := (h.fwd j _ (List.getElem?_eq_getElem hj)).2
  have h2 := (h.fwd k _ (List.getElem?_eq_getElem hk)).2
  rw [e, h2] at h1
  have := Option.some.inj h1
  omega
theorem out_total (h : TosIn ls) (h0 : 0 < ls.length) (hd : DoneC ls i) : total (canonK ls i).out ≤ total ls := by
  obtain ⟨hb1, _, hb3⟩ := done_bound h h0 hd
  have hstep : ∀ j, j ≤ i → total (canonK ls j).out ≤ (((canonK ls i).old.take j).map fun x => (rowAt ls x).length).sum := by
    intro j
    induction j with
    | zero => intro _; exact Nat.zero_le _
    | succ j ih =>
      intro hj
      have ih := ih (by omega)
      have h1 : (canonK ls (j + 1)).out = (canonK ls j).out ++ [outRow ls j] := rfl
      have h2 : total ((canonK ls j).out ++ [outRow ls j]) = total (canonK ls j).out + (outRow ls j).length := by simp [total]
      have hx := List.getElem?_eq_getElem (hd.1 j (by omega))
      have h3 := canon_get (show j ≤ i by omega) hx
      have h4 : (canonK ls j).old.getD j 0 = (canonK ls j).old[j]'(hd.1 j (by omega)) := by rw [List.getD_eq_getElem?_getD, hx]; rfl
      rw [List.take_add_one, h3, h1, h2]
      have h5 : (outRow ls j).length ≤ (rowAt ls ((canonK ls j).old.getD j 0)).length := by
        rw [outRow]
        refine Nat.le_trans (sd_len _) ?_
        rw [List.length_map]
        exact sd_len _
      rw [h4] at h5
      simp only [Option.toList, List.map_append, List.sum_append, List.map_cons, List.map_nil, List.sum_cons, List.sum_nil]
      omega
  have h1 := hstep i (Nat.le_refl _)
  rw [List.take_of_length_le (Nat.le_of_eq hb1)] at h1
  have hc := canon_inv h h0 i
  have h2 := sum_some (fun x => (rowAt ls x).length) ls.length (canonK ls i).old hc.nodup (fun x hx => by
    obtain ⟨k, hk⟩ := List.getElem?_of_mem hx
    exact (hc.fwd k x hk).1)
  rw [total_range ls]
  exact Nat.le_trans h1 h2
theorem loose_ev (hlo : looseB ls = true) : ∀ l ∈ ls, ∀ a ∈ l, 0 ≤ a.ev ∧ a.ev ≤ 1025 := by
  unfold looseB at hlo
  simp only [Bool.and_eq_true, decide_eq_true_eq] at hlo
  intro l hl a ha
  have h6 := List.all_eq_true.1 (List.all_eq_true.1 hlo.2 l hl) a ha
  unfold okA at h6
  simp only [Bool.and_eq_true, decide_eq_true_eq] at h6
  exact h6.1
theorem loose_tot (hlo : looseB ls = true) : total ls ≤ 262144 ∧ ls.length ≤ 16384 := by
  unfold looseB at hlo
  simp only [Bool.and_eq_true, decide_eq_true_eq] at hlo
  exact ⟨hlo.1.2, hlo.1.1.2⟩
theorem out_valid (h : TosIn ls) (h0 : 0 < ls.length) (hlo : looseB ls = true) (hd : DoneC ls i) : validB (canonK ls i).out = true := by
  obtain ⟨hb1, hb2, hb3⟩ := done_bound h h0 hd
  have ht := out_tos h h0 hd
  have hl := loose_tot hlo
  refine valid_ok (loose_ok (by rw [canon_out]; exact hb3) (by rw [canon_out]; omega) (Nat.le_trans (out_total h h0 hd) hl.1) ?_) ?_
  · refine List.all_eq_true.2 fun l hl => List.all_eq_true.2 fun a ha => ?_
    have h1 := ht l hl a ha
    obtain ⟨k, hk, rfl⟩ := out_at hl
    obtain ⟨b, hb, rfl⟩ := List.mem_map.1 ((sd_mem _ _).1 ha)
    have h2 := (sd_mem _ _).1 hb
    have h3 : 0 ≤ b.ev ∧ b.ev ≤ 1025 := by
      rw [rowAt, List.getD_eq_getElem?_getD] at h2
      cases hq : ls[(canonK ls k).old.getD k 0]? with
      | none => rw [hq] at h2; cases h2
      | some x =>
        rw [hq] at h2
        exact loose_ev hlo x (List.mem_of_getElem? hq) b h2
    unfold okA
    rw [Bool.and_eq_true]
    exact ⟨decide_eq_true h3, decide_eq_true h1⟩
  · refine List.all_eq_true.2 fun l hl => ?_
    obtain ⟨k, hk, rfl⟩ := out_at hl
    exact sd_asc _
end

end Go.Proofs.Ytmciinikfjfegaa
