/- plain law: what Insert makes of tokens whose lines are moved -/
import Derived.Test.YtgfhkaamkodpjaaDoorInsP
namespace Go.Proofs.YtgfhkaamkodpjaaDoor
open Go Go.RowKit
set_option maxHeartbeats 4000000
attribute [local irreducible] kwB syB clB

/-- a place in a line that counts -/
def LnOk (p : Pos) : Prop := 1 ≤ p.line ∧ p.line ≤ 1000
def shP (k : Int) (p : Pos) : Pos := ⟨p.line + k, p.col⟩
def shT (k : Int) (t : Tok) : Tok := ⟨t.kind, t.int, t.str, shP k t.pos⟩
/-- all but the first are moved -/
def up (k : Int) : List Tok → List Tok
  | [] => []
  | a :: r => a :: r.map (shT k)
theorem up_snoc (k : Int) {o : List Tok} (h : o ≠ []) (t : Tok) : up k (o ++ [t]) = up k o ++ [shT k t] := by
  cases o with
  | nil => exact absurd rfl h
  | cons a r => simp [up]
theorem up_len (k : Int) (o : List Tok) : (up k o).length = o.length := by cases o <;> simp [up]
theorem shP_inj {k : Int} {p q : Pos} : shP k p = shP k q ↔ p = q := by
  obtain ⟨a, b⟩ := p
  obtain ⟨c, d⟩ := q
  simp [shP]
theorem sh_valid (k : Int) (t : Tok) : validTok (shT k t) = validTok t := rfl
theorem sh_close (k : Int) (t : Tok) : isClose (shT k t) = isClose t := rfl
theorem sh_kw (k : Int) (t : Tok) (l : List ByteArray) : isKw (shT k t) l = isKw t l := rfl
theorem sh_keep (k : Int) (l : List Pos) (q : Pos) : keepOf (l.map (shP k)) (shP k q) = (keepOf l q).map (shP k) := by
  induction l with
  | nil => rfl
  | cons p l ih =>
    unfold keepOf at ih ⊢
    by_cases h : p = q
    · subst h; simpa using ih
    · have h2 : ¬ shP k p = shP k q := fun e => h (shP_inj.1 e)
      simp [h, h2] at ih ⊢
      exact ih
theorem sh_line (k : Int) (p q : Pos) : decide ((shP k p).line < (shP k q).line) = decide (p.line < q.line) := by
  rw [Bool.eq_iff_iff]
  simp [shP]

/-- two states: one for the tokens, one for the moved ones -/
structure Sh (k : Int) (x y : Ins) : Prop where
  ne : x.out ≠ []
  pos : ∀ t ∈ x.out, LnOk t.pos
  out : y.out = up k x.out
  cols : y.cols = x.cols
  nx : y.nx = x.nx
  wt : y.wt = x.wt
  opn : y.opn = x.opn.map (shP k)
  ow : x.wt = true → y.ow = shP k x.ow
  bf : x.out.length ≠ 1 → y.bf = shT k x.bf
  start : x.out.length = 1 → x.bf.pos = ⟨0, 0⟩ ∧ y.bf.pos = ⟨0, 0⟩ ∧ x.nx = false ∧ x.wt = false

theorem Sh.loop {k : Int} (q : Pos) : ∀ (cs : List Int) {o : List Tok}, o ≠ [] → closeLoop (shP k q) (up k o) cs = (up k (closeLoop q o cs).1, (closeLoop q o cs).2) ∧ (closeLoop q o cs).1 ≠ []
  | [], o, h => ⟨rfl, h⟩
  | c :: r, o, h => by
    have hs : up k (o ++ [closeTok q]) = up k o ++ [closeTok (shP k q)] := up_snoc k h _
    have h2 : o ++ [closeTok q] ≠ [] := by simp
    rw [closeLoop, closeLoop]
    by_cases hc : q.col < c
    · rw [if_pos hc, if_pos (show (shP k q).col < c from hc), ← hs]
      exact Sh.loop q r h2
    · rw [if_neg hc, if_neg (show ¬ (shP k q).col < c from hc)]
      exact ⟨rfl, h⟩
theorem loop_pos {q : Pos} (hq : LnOk q) : ∀ (cs : List Int) {o : List Tok}, (∀ t ∈ o, LnOk t.pos) → ∀ t ∈ (closeLoop q o cs).1, LnOk t.pos
  | [], o, h => h
  | c :: r, o, h => by
    rw [closeLoop]
    split
    · refine loop_pos hq r fun t ht => ?_
      rcases List.mem_append.1 ht with h1 | h1
      · exact h t h1
      · rw [List.mem_singleton.1 h1]; exact hq
    · exact h
theorem snoc_pos {o : List Tok} {t : Tok} (h : ∀ t ∈ o, LnOk t.pos) (ht : LnOk t.pos) : ∀ u ∈ o ++ [t], LnOk u.pos := fun u hu => by
  rcases List.mem_append.1 hu with h1 | h1
  · exact h u h1
  · rw [List.mem_singleton.1 h1]; exact ht

/-- a token is put behind -/
theorem Sh.push {k : Int} {x y : Ins} {t : Tok} (ht : LnOk t.pos) (hne : x.out ≠ []) (hpos : ∀ t ∈ x.out, LnOk t.pos) (hout : y.out = up k x.out) (hcols : y.cols = x.cols) (hnx : y.nx = x.nx) (hwt : y.wt = x.wt) (hopn : y.opn = x.opn.map (shP k)) (how : x.wt = true → y.ow = shP k x.ow) :
    Sh k (pushS x t) (pushS y (shT k t)) := by
  have hl : (x.out ++ [t]).length ≠ 1 := by
    rw [List.length_append]
    have : x.out.length ≠ 0 := fun e => hne (List.length_eq_zero_iff.1 e)
    simp
    omega
  have ho : y.out ++ [shT k t] = up k (x.out ++ [t]) := by rw [up_snoc k hne, hout]
  have hn : x.out ++ [t] ≠ [] := by simp
  have hp := snoc_pos hpos ht
  unfold pushS rememberS
  rw [sh_kw, sh_kw]
  split
  · exact ⟨hn, hp, ho, hcols, rfl, hwt, by dsimp only; rw [hopn, List.map_append]; rfl, how, fun _ => rfl, fun h => absurd h hl⟩
  · split
    · refine ⟨hn, hp, ho, hcols, hnx, rfl, ?_, fun _ => rfl, fun _ => rfl, fun h => absurd h hl⟩
      dsimp only
      rw [hwt, hopn]
      cases hx : x.wt
      · simp [shT]
      · rw [how hx]
        simp [sh_keep, shT]
    · exact ⟨hn, hp, ho, hcols, hnx, hwt, hopn, how, fun _ => rfl, fun h => absurd h hl⟩

theorem sh_place {k : Int} {x y : Ins} {t : Tok} (h : Sh k x y) (ht : LnOk t.pos) (h1 : x.out.length ≠ 1) : Sh k (pushS (placeS x t) t) (pushS (placeS y (shT k t)) (shT k t)) := by
  have hbf := h.bf h1
  have hst : decide (y.bf.pos.line < (shT k t).pos.line) = decide (x.bf.pos.line < t.pos.line) := by rw [hbf]; exact sh_line k _ _
  have hA : placeA (shT k t) y (decide (x.bf.pos.line < t.pos.line)) = (up k (placeA t x (decide (x.bf.pos.line < t.pos.line))).1, (placeA t x (decide (x.bf.pos.line < t.pos.line))).2) ∧
      (placeA t x (decide (x.bf.pos.line < t.pos.line))).1 ≠ [] ∧ ∀ u ∈ (placeA t x (decide (x.bf.pos.line < t.pos.line))).1, LnOk u.pos := by
    unfold placeA
    rw [h.out, h.cols]
    split
    · have := Sh.loop (k := k) t.pos x.cols h.ne
      exact ⟨this.1, this.2, loop_pos ht _ h.pos⟩
    · exact ⟨rfl, h.ne, h.pos⟩
  have hP : ∀ (x : Ins) (t : Tok), placeS x t = { x with out := placeC t (decide (x.bf.pos.line < t.pos.line)) (isClose t) (placeB t x (isClose t) (placeA t x (decide (x.bf.pos.line < t.pos.line)))), cols := (placeB t x (isClose t) (placeA t x (decide (x.bf.pos.line < t.pos.line)))).2 } := fun _ _ => rfl
  rw [hP x t, hP y (shT k t), hst, sh_close, hA.1]
  obtain ⟨_, hA2, hA3⟩ := hA
  generalize placeA t x (decide (x.bf.pos.line < t.pos.line)) = a at hA2 hA3
  generalize decide (x.bf.pos.line < t.pos.line) = st
  generalize isClose t = cl
  have hB : placeB (shT k t) y cl (up k a.1, a.2) = (up k (placeB t x cl a).1, (placeB t x cl a).2) ∧ (placeB t x cl a).1 ≠ [] ∧ ∀ u ∈ (placeB t x cl a).1, LnOk u.pos := by
    unfold placeB
    rw [h.cols]
    dsimp only
    split
    · refine ⟨?_, by simp, snoc_pos hA3 ht⟩
      have : up k (a.1 ++ [closeTok t.pos]) = up k a.1 ++ [closeTok (shP k t.pos)] := up_snoc k hA2 _
      rw [this]
      rfl
    · exact ⟨rfl, hA2, hA3⟩
  rw [hB.1]
  obtain ⟨_, hB2, hB3⟩ := hB
  generalize placeB t x cl a = b at hB2 hB3
  have hC : placeC (shT k t) st cl (up k b.1, b.2) = up k (placeC t st cl b) ∧ placeC t st cl b ≠ [] ∧ ∀ u ∈ placeC t st cl b, LnOk u.pos := by
    unfold placeC
    dsimp only
    have hcol : (shT k t).pos.col = t.pos.col := rfl
    rw [hcol]
    split
    · refine ⟨?_, by simp, snoc_pos hB3 ht⟩
      have : up k (b.1 ++ [⟨6, 0, ByteArray.empty, t.pos⟩]) = up k b.1 ++ [⟨6, 0, ByteArray.empty, shP k t.pos⟩] := up_snoc k hB2 _
      rw [this]
      rfl
    · exact ⟨rfl, hB2, hB3⟩
  rw [hC.1]
  exact Sh.push ht hC.2.1 hC.2.2 rfl rfl h.nx h.wt h.opn h.ow

theorem sh_began {k : Int} {x y : Ins} (h : Sh k x y) (h1 : x.out.length ≠ 1) (hb : x.nx = true ∨ x.wt = true) :
    (beganS y).out = up k (beganS x).out ∧ (beganS y).cols = (beganS x).cols ∧ (beganS y).nx = (beganS x).nx ∧ (beganS y).wt = (beganS x).wt ∧ (beganS y).opn = (beganS x).opn.map (shP k) ∧ ((beganS x).wt = true → (beganS y).ow = shP k (beganS x).ow) := by
  have hbf := h.bf h1
  unfold beganS
  rw [h.nx]
  cases hx : x.nx
  · have hw : x.wt = true := hb.resolve_left (by rw [hx]; simp)
    simp only [Bool.false_eq_true, if_false]
    refine ⟨h.out, h.cols, by first | trivial | exact h.nx.trans hx, by trivial, ?_, fun hh => by cases hh⟩
    rw [h.opn, h.ow hw, sh_keep]
  · simp only [if_true]
    refine ⟨h.out, h.cols, by trivial, h.wt, ?_, h.ow⟩
    rw [h.opn, hbf]
    exact sh_keep k x.opn x.bf.pos
theorem sh_begin {k : Int} {x y : Ins} {t : Tok} (h : Sh k x y) (ht : LnOk t.pos) (h1 : x.out.length ≠ 1) (hb : x.nx = true ∨ x.wt = true) :
    (beginS y (shT k t)).2 = (beginS x t).2 ∧ ((beginS x t).2 = 0 → Sh k (pushS (beginS x t).1 t) (pushS (beginS y (shT k t)).1 (shT k t))) := by
  obtain ⟨a1, a2, a3, a4, a5, a6⟩ := sh_began h h1 hb
  have hbo := (beganS_cols x).2
  have hne : (beganS x).out ≠ [] := by rw [hbo]; exact h.ne
  have hpos : ∀ u ∈ (beganS x).out, LnOk u.pos := by rw [hbo]; exact h.pos
  unfold beginS
  dsimp only
  rw [sh_close]
  have hcol : (shT k t).pos.col = t.pos.col := rfl
  rw [hcol, a2]
  split
  · refine ⟨rfl, fun _ => Sh.push ht (by simp) (snoc_pos (snoc_pos hpos ht) ht) ?_ rfl a3 a4 a5 a6⟩
    dsimp only
    rw [a1, up_snoc k (by simp), up_snoc k hne]
    rfl
  · split
    · exact ⟨rfl, fun hh => absurd hh (by simp)⟩
    · split
      · exact ⟨rfl, fun hh => absurd hh (by simp)⟩
      · refine ⟨rfl, fun _ => Sh.push ht (by simp) (snoc_pos hpos ht) ?_ rfl a3 a4 a5 a6⟩
        dsimp only
        rw [a1, up_snoc k hne]
        rfl
theorem afterT_iff (p q : Pos) : afterT p q = true ↔ (1 ≤ q.line ∧ 1 ≤ q.col) ∧ (p.line < q.line ∨ q.line = p.line ∧ p.col < q.col) := by
  simp only [afterT, Bool.and_eq_true, Bool.or_eq_true, decide_eq_true_eq]
theorem sh_token {k : Int} (hk : 0 ≤ k) {x y : Ins} {t : Tok} (h : Sh k x y) (ht : LnOk t.pos) :
    (tokenS y (shT k t)).2 = (tokenS x t).2 ∧ ((tokenS x t).2 = 0 → Sh k (tokenS x t).1 (tokenS y (shT k t)).1) := by
  have hl : y.out.length = x.out.length := by rw [h.out, up_len]
  have htl := ht.1
  have haf : afterT y.bf.pos (shT k t).pos = afterT x.bf.pos t.pos := by
    rw [Bool.eq_iff_iff]
    by_cases h1 : x.out.length = 1
    · obtain ⟨b1, b2, _, _⟩ := h.start h1
      rw [b1, b2]
      rw [afterT_iff, afterT_iff]
      simp only [shT, shP]
      omega
    · rw [h.bf h1]
      rw [afterT_iff, afterT_iff]
      simp only [shT, shP]
      omega
  have hcol : (shT k t).pos.col = t.pos.col := rfl
  unfold tokenS
  rw [sh_valid, haf, hl, hcol]
  split
  · split
    · rename_i h1
      split
      · exact ⟨rfl, fun _ => Sh.push ht h.ne h.pos h.out h.cols h.nx h.wt h.opn h.ow⟩
      · exact ⟨rfl, fun hh => absurd hh (by simp)⟩
    · rename_i h1
      have hbeg : (y.nx || y.wt && decide (y.bf.pos.line < (shT k t).pos.line)) = (x.nx || x.wt && decide (x.bf.pos.line < t.pos.line)) := by
        rw [h.nx, h.wt, h.bf h1]
        congr 2
        exact sh_line k _ _
      rw [hbeg]
      split
      · rename_i h2
        have hb : x.nx = true ∨ x.wt = true := by
          simp only [Bool.or_eq_true, Bool.and_eq_true] at h2
          exact h2.imp id (·.1)
        obtain ⟨b1, b2⟩ := sh_begin h ht h1 hb
        rw [b1]
        split
        · rename_i h3
          exact ⟨rfl, fun _ => b2 h3⟩
        · rename_i h3
          exact ⟨b1, fun hh => absurd hh h3⟩
      · exact ⟨rfl, fun _ => sh_place h ht h1⟩
  · exact ⟨rfl, fun hh => absurd hh (by simp)⟩
theorem sh_fold {k : Int} (hk : 0 ≤ k) (l : List Tok) : ∀ (x y : Ins), Sh k x y → (∀ t ∈ l, LnOk t.pos) →
    ((foldS l x).2 = none → Sh k (foldS l x).1 (foldS (l.map (shT k)) y).1 ∧ (foldS (l.map (shT k)) y).2 = none) ∧
    (∀ q e, (foldS l x).2 = some (q, e) → (foldS (l.map (shT k)) y).2 = some (shP k q, e)) := by
  induction l with
  | nil => intro x y h _; exact ⟨fun _ => ⟨h, rfl⟩, fun q e hh => by cases hh⟩
  | cons t r ih =>
    intro x y h hl
    obtain ⟨b1, b2⟩ := sh_token hk h (hl t List.mem_cons_self)
    rw [List.map_cons, foldS, foldS, b1]
    split
    · rename_i h0
      exact ih _ _ (b2 h0) (fun u hu => hl u (List.mem_cons_of_mem _ hu))
    · refine ⟨fun hh => (by cases hh), fun q e hh => ?_⟩
      simp only [Option.some.injEq, Prod.mk.injEq] at hh ⊢
      exact ⟨by rw [← hh.1]; rfl, hh.2⟩

/-- as the law moves a token -/
def shZ (k : Int) (t : Tok) : Tok := if t.pos = ⟨0, 0⟩ then t else shT k t
theorem insS_shift (k : Int) (hk : 0 ≤ k) (l : List Tok) (hl : ∀ t ∈ l, LnOk t.pos) :
    (insS (l.map (shT k))).2.2 = (insS l).2.2 ∧ (insS (l.map (shT k))).1.length = (insS l).1.length ∧ (∀ (i : Nat) (t : Tok), 1 ≤ i → (insS l).1[i]? = some t → (insS (l.map (shT k))).1[i]? = some (shZ k t)) ∧ ∀ t ∈ (insS l).1, 0 ≤ t.pos.line ∧ t.pos.line ≤ 1000 := by
  have hs : Sh k startIns startIns := ⟨by decide, (by unfold LnOk; decide), rfl, rfl, rfl, rfl, rfl, fun h => (by cases h), fun h => absurd rfl h, fun _ => ⟨rfl, rfl, rfl, rfl⟩⟩
  obtain ⟨h1, h2⟩ := sh_fold hk l startIns startIns hs hl
  unfold insS
  generalize foldS l startIns = X at h1 h2
  generalize foldS (l.map (shT k)) startIns = Y at h1 h2
  obtain ⟨x, r⟩ := X
  obtain ⟨y, s⟩ := Y
  cases r with
  | some pe =>
    obtain ⟨q, e⟩ := pe
    have := h2 q e rfl
    dsimp only at this
    subst this
    exact ⟨rfl, rfl, fun i t _ hh => (by simp at hh), fun t ht => (by cases ht)⟩
  | none =>
    obtain ⟨hsh, hn⟩ := h1 rfl
    dsimp only at hsh hn
    subst hn
    dsimp only
    rw [hsh.opn]
    cases hq : x.opn with
    | cons q r => exact ⟨rfl, rfl, fun i t _ hh => (by simp at hh), fun t ht => (by cases ht)⟩
    | nil =>
      refine ⟨rfl, by simp [closeAll, hsh.out, hsh.cols, up_len], fun i t hi hh => ?_, fun t ht => ?_⟩
      case refine_2 =>
        rw [closeAll] at ht
        rcases List.mem_append.1 ht with h1 | h1
        · have := hsh.pos t h1
          exact ⟨by have := this.1; omega, this.2⟩
        · rw [List.eq_of_mem_replicate h1]
          exact ⟨by show (0 : Int) ≤ 0; omega, by show (0 : Int) ≤ 1000; omega⟩
      simp only [List.map_nil]
      simp only [closeAll] at hh ⊢
      rw [hsh.out, hsh.cols]
      by_cases hlt : i < x.out.length
      · rw [List.getElem?_append_left hlt] at hh
        rw [List.getElem?_append_left (by rw [up_len]; exact hlt)]
        have hp := (hsh.pos t (List.mem_of_getElem? hh)).1
        have hz : t.pos ≠ ⟨0, 0⟩ := fun e => by rw [e] at hp; simp at hp
        rw [shZ, if_neg hz]
        cases hx : x.out with
        | nil => exact absurd hx hsh.ne
        | cons a r =>
          rw [hx] at hh
          obtain ⟨j, rfl⟩ : ∃ j, i = j + 1 := ⟨i - 1, by omega⟩
          simp only [List.getElem?_cons_succ] at hh
          simp [up, hh]
      · rw [List.getElem?_append_right (by omega)] at hh
        rw [List.getElem?_append_right (by rw [up_len]; omega), up_len, hh]
        have : t = closeTok ⟨0, 0⟩ := List.eq_of_mem_replicate (List.mem_of_getElem? hh)
        rw [this]
        rfl

end Go.Proofs.YtgfhkaamkodpjaaDoor
