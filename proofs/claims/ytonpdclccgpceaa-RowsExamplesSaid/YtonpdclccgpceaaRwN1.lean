/- canonical systems: plain laws: rows in order, the search from state 0 -/
import Derived.Test.YtonpdclccgpceaaRwGv
namespace Go.Proofs.Ytonpdclccgpceaa
open Go Go.RowKit
set_option maxHeartbeats 4000000

/-- an arc put into a row in order -/
def insF : List Arc → Arc → List Arc
  | [], a => [a]
  | x :: r, a => if lessB x a = true then x :: insF r a else if x = a then x :: r else a :: x :: r
theorem lessB_irr (a : Arc) : lessB a a = false := by
  simp only [lessB, decide_eq_false_iff_not]
  omega
theorem lessB_trans {a b c : Arc} (h : lessB a b = true) (k : lessB b c = true) : lessB a c = true := by
  simp only [lessB, decide_eq_true_eq] at *
  omega
theorem InsR.eq : ∀ {l l' : List Arc} {a : Arc}, InsR l a l' → l' = insF l a
  | [], l', a, h => by
    obtain ⟨i, h1, _, _, ⟨_, h4⟩ | ⟨h4, _⟩⟩ := h
    · simp at h4
    · rw [h4]
      simp [insF]
  | x :: r, l', a, h => by
    obtain ⟨i, h1, h2, h3, h4⟩ := h
    cases i with
    | zero =>
      have h5 := h3 x rfl
      rw [insF, if_neg (by rw [h5]; simp)]
      rcases h4 with ⟨h4, h6⟩ | ⟨h4, h6⟩
      · have h7 : x = a := by simpa using h6
        rw [if_pos h7, h4]
      · rw [if_neg (fun e => h6 (by rw [e]; rfl)), h4]
        rfl
    | succ i =>
      have h5 := h2 0 x (by omega) rfl
      rw [insF, if_pos h5]
      have hr : InsR r a (l'.drop 1) := by
        refine ⟨i, by simpa using h1, fun j y hj hy => h2 (j + 1) y (by omega) (by simpa using hy), fun y hy => h3 y (by simpa using hy), ?_⟩
        rcases h4 with ⟨h4, h6⟩ | ⟨h4, h6⟩
        · exact .inl ⟨by rw [h4]; rfl, by simpa using h6⟩
        · exact .inr ⟨by rw [h4]; rfl, by simpa using h6⟩
      rw [← InsR.eq hr]
      rcases h4 with ⟨h4, _⟩ | ⟨h4, _⟩
      · rw [h4]; rfl
      · rw [h4]; rfl
theorem insF_mem (a x : Arc) : ∀ l : List Arc, x ∈ insF l a ↔ x = a ∨ x ∈ l
  | [] => by simp [insF]
  | y :: r => by
    rw [insF]
    split
    · rw [List.mem_cons, insF_mem a x r, List.mem_cons]
      constructor
      · rintro (h | h | h)
        · exact .inr (.inl h)
        · exact .inl h
        · exact .inr (.inr h)
      · rintro (h | h | h)
        · exact .inr (.inl h)
        · exact .inl h
        · exact .inr (.inr h)
    · split
      · rename_i h
        subst h
        rw [List.mem_cons]
        constructor
        · rintro (h | h)
          · exact .inl h
          · exact .inr (.inr h)
        · rintro (h | h)
          · exact .inl h
          · exact h
      · rw [List.mem_cons]
theorem ascB_cons {a : Arc} {l : List Arc} (h : ascB (a :: l) = true) : ∀ x ∈ l, lessB a x = true := by
  induction l generalizing a with
  | nil => intro x hx; cases hx
  | cons b r ih =>
    intro x hx
    rw [ascB, Bool.and_eq_true] at h
    rcases List.mem_cons.1 hx with rfl | hx
    · exact h.1
    · exact lessB_trans h.1 (ih h.2 x hx)
theorem ascB_mk {a : Arc} {l : List Arc} (h : ascB l = true) (h2 : ∀ x ∈ l, lessB a x = true) : ascB (a :: l) = true := by
  cases l with
  | nil => rfl
  | cons b r =>
    rw [ascB, Bool.and_eq_true]
    exact ⟨h2 b (List.mem_cons_self ..), h⟩
theorem insF_asc (a : Arc) : ∀ l : List Arc, ascB l = true → ascB (insF l a) = true
  | [], _ => rfl
  | y :: r, h => by
    rw [insF]
    split
    · rename_i h1
      refine ascB_mk (insF_asc a r (ascB_tail h)) fun x hx => ?_
      rcases (insF_mem a x r).1 hx with rfl | hx
      · exact h1
      · exact ascB_cons h x hx
    · rename_i h1
      split
      · exact h
      · rename_i h2
        have h3 := lessB_tot (by simpa using h1) h2
        refine ascB_mk h fun x hx => ?_
        rcases List.mem_cons.1 hx with rfl | hx
        · exact h3
        · exact lessB_trans h3 (ascB_cons h x hx)
/-- two rows in order with the same arcs are equal -/
theorem asc_ext : ∀ {l l' : List Arc}, ascB l = true → ascB l' = true → (∀ x, x ∈ l ↔ x ∈ l') → l = l'
  | [], [], _, _, _ => rfl
  | [], b :: r, _, _, h => by have := (h b).2 (List.mem_cons_self ..); cases this
  | a :: r, [], _, _, h => by have := (h a).1 (List.mem_cons_self ..); cases this
  | a :: r, b :: s, h1, h2, h => by
    have hab : a = b := by
      rcases List.mem_cons.1 ((h a).1 (List.mem_cons_self ..)) with e | e
      · exact e
      · rcases List.mem_cons.1 ((h b).2 (List.mem_cons_self ..)) with e2 | e2
        · exact e2.symm
        · have := lessB_trans (ascB_cons h1 b e2) (ascB_cons h2 a e)
          rw [lessB_irr] at this
          cases this
    subst hab
    congr 1
    refine asc_ext (ascB_tail h1) (ascB_tail h2) fun x => ⟨fun hx => ?_, fun hx => ?_⟩
    · rcases List.mem_cons.1 ((h x).1 (List.mem_cons_of_mem _ hx)) with e | e
      · subst e
        have := ascB_cons h1 x hx
        rw [lessB_irr] at this
        cases this
      · exact e
    · rcases List.mem_cons.1 ((h x).2 (List.mem_cons_of_mem _ hx)) with e | e
      · subst e
        have := ascB_cons h2 x hx
        rw [lessB_irr] at this
        cases this
      · exact e
/-- the arcs of a row in order, each once -/
def sd (l : List Arc) : List Arc := l.foldl insF []
theorem fold_asc : ∀ (l acc : List Arc), ascB acc = true → ascB (l.foldl insF acc) = true
  | [], _, h => h
  | a :: l, acc, h => fold_asc l _ (insF_asc a acc h)
theorem fold_mem (x : Arc) : ∀ (l acc : List Arc), x ∈ l.foldl insF acc ↔ x ∈ l ∨ x ∈ acc
  | [], _ => by simp
  | a :: l, acc => by
    rw [List.foldl_cons, fold_mem x l, insF_mem, List.mem_cons]
    constructor
    · rintro (h | h | h)
      · exact .inl (.inr h)
      · exact .inl (.inl h)
      · exact .inr h
    · rintro ((h | h) | h)
      · exact .inr (.inl h)
      · exact .inl h
      · exact .inr (.inr h)
theorem sd_asc (l : List Arc) : ascB (sd l) = true := fold_asc l [] rfl
theorem sd_mem (x : Arc) (l : List Arc) : x ∈ sd l ↔ x ∈ l := by rw [sd, fold_mem]; simp
theorem sd_self {l : List Arc} (h : ascB l = true) : sd l = l := asc_ext (sd_asc l) h fun x => sd_mem x l
theorem insF_len (a : Arc) : ∀ l : List Arc, (insF l a).length ≤ l.length + 1
  | [] => by simp [insF]
  | y :: r => by
    have := insF_len a r
    rw [insF]
    split
    · simp only [List.length_cons]; omega
    · split <;> simp
theorem fold_len : ∀ (l acc : List Arc), (l.foldl insF acc).length ≤ l.length + acc.length
  | [], acc => by simp
  | a :: l, acc => by
    have h1 := fold_len l (insF acc a)
    have h2 := insF_len a acc
    rw [List.foldl_cons, List.length_cons]
    omega
theorem sd_len (l : List Arc) : (sd l).length ≤ l.length := by have := fold_len l []; simpa [sd] using this
/-- neighbours that are equal, once -/
def cpt : List Arc → List Arc
  | [] => []
  | [a] => [a]
  | a :: b :: r => if a = b then cpt (b :: r) else a :: cpt (b :: r)
theorem cpt_mem (x : Arc) : ∀ l : List Arc, x ∈ cpt l ↔ x ∈ l
  | [] => by simp [cpt]
  | [a] => by simp [cpt]
  | a :: b :: r => by
    rw [cpt]
    have ih := cpt_mem x (b :: r)
    split
    · rename_i h
      subst h
      rw [ih]
      constructor
      · intro h; exact List.mem_cons_of_mem _ h
      · intro h
        rcases List.mem_cons.1 h with h | h
        · rw [h]; exact List.mem_cons_self ..
        · exact h
    · rw [List.mem_cons, ih, List.mem_cons (l := b :: r)]
theorem cpt_asc : ∀ l : List Arc, l.Pairwise (fun x y => lessB y x = false) → ascB (cpt l) = true
  | [], _ => rfl
  | [a], _ => rfl
  | a :: b :: r, h => by
    have h1 := List.pairwise_cons.1 h
    have ih := cpt_asc (b :: r) h1.2
    rw [cpt]
    split
    · exact ih
    · rename_i hne
      have hab : lessB a b = true := by
        have h2 := h1.1 b (List.mem_cons_self ..)
        exact lessB_tot h2 (fun e => hne e.symm)
      refine ascB_mk ih fun x hx => ?_
      have hx2 := (cpt_mem x (b :: r)).1 hx
      rcases List.mem_cons.1 hx2 with rfl | hx3
      · exact hab
      · have h3 := (List.pairwise_cons.1 h1.2).1 x hx3
        by_cases e : b = x
        · subst e; exact hab
        · exact lessB_trans hab (lessB_tot h3 (fun e2 => e e2.symm))
/-- sorted -/
def srt (l : List Arc) : List Arc := l.mergeSort fun x y => !lessB y x
theorem srt_pw (l : List Arc) : (srt l).Pairwise fun x y => lessB y x = false := by
  have h := List.pairwise_mergeSort (le := fun x y : Arc => !lessB y x) (fun a b c h1 h2 => by
    simp only [Bool.not_eq_true', lessB, decide_eq_false_iff_not] at *
    omega) (fun a b => by
    simp only [Bool.or_eq_true, Bool.not_eq_true', lessB, decide_eq_false_iff_not]
    omega) l
  exact h.imp fun h => by simpa using h
theorem srt_mem (x : Arc) (l : List Arc) : x ∈ srt l ↔ x ∈ l := List.mem_mergeSort
theorem cpt_srt (l : List Arc) : cpt (srt l) = sd l := asc_ext (cpt_asc _ (srt_pw l)) (sd_asc l) fun x => by rw [cpt_mem, srt_mem, sd_mem]
theorem srt_len (l : List Arc) : (srt l).length = l.length := List.length_mergeSort l
/-- a row without duplicates is only sorted -/
theorem srt_nodup {l : List Arc} (h : l.Nodup) : srt l = sd l := by
  refine asc_ext ?_ (sd_asc l) fun x => by rw [srt_mem, sd_mem]
  have h1 : (srt l).Nodup := (List.mergeSort_perm l _).nodup_iff.2 h
  have h2 := srt_pw l
  generalize srt l = m at h1 h2
  induction m with
  | nil => rfl
  | cons a r ih =>
    have h3 := List.nodup_cons.1 h1
    have h4 := List.pairwise_cons.1 h2
    refine ascB_mk (ih h3.2 h4.2) fun x hx => lessB_tot (h4.1 x hx) fun e => h3.1 (by rw [← e]; exact hx)
theorem asc_nodup : ∀ {l : List Arc}, ascB l = true → l.Nodup
  | [], _ => List.nodup_nil
  | a :: r, h => List.nodup_cons.2 ⟨fun hm => (by
      have := ascB_cons h a hm
      rw [lessB_irr] at this
      cases this), asc_nodup (ascB_tail h)⟩

end Go.Proofs.Ytonpdclccgpceaa
