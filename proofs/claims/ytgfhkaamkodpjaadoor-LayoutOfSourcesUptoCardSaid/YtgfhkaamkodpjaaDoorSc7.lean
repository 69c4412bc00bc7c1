/- the reference's scanner: Scan -/
import Derived.Test.YtgfhkaamkodpjaaDoorSc6
import Derived.Test.YtgfhkaamkodpjaaDoorIns
import Derived.Deep.LoopGhost
namespace Go.Proofs.YtgfhkaamkodpjaaDoor
open Go Go.RowKit
set_option maxHeartbeats 8000000
attribute [local irreducible] kwB syB clB

/-- append of what lies in a block that is known whole, in a plain region -/
theorem appList_blk {P : Program} {ops : Array Oper} {rest : List Oper} {w : World} {o : Oper} {a : Act} {Q : Exit → Act → World → Prop} {s x : Operand} {t e : TypeId} {size bytes : Nat} (hgd : o.guard = none)
    (hT : SlT P t e size bytes) (ho : o.op = .call { callee := .builtin .append, args := #[s, x], argTypes := #[t, t] })
    {v : Value} {n : Nat} {xs : List Value} (hown : w.ownsRow 0 e size v n xs) (hs : a.eval s = v)
    {B m c : Nat} {news : List Value} (hB : Blk w B e news.toArray) (hx : a.eval x = .slice (some ⟨B, 0, none⟩) m c) (hl : news.length = m * size) (h1 : ∀ u ∈ news, u.oneCell' = true)
    (hm : 0 < m) (h63 : n + m ≤ maxLen) (hbytes : (n + m) * bytes ≤ 140737488355328)
    (h : ∀ g cap w', w'.ownsRow 0 e size (.slice (some ⟨g, 0, none⟩) (n + m) cap) (n + m) (xs ++ news) → w.grownBy w' v.ownBlock → (v.ownBlock = some g ∨ w.heap.size ≤ g) → wpList P ops Q rest (a.put o.dst (.slice (some ⟨g, 0, none⟩) (n + m) cap)) w') : wpList P ops Q (o :: rest) a w :=
  wpList_plain hgd fun _ hK => app_blk hT ho hown hs hB hx hl h1 hm h63 hbytes fun g cap w' h2 h3 h4 => hK _ _ (h g cap w' h2 h3 h4)

def scanF : Nat → List UInt8 → Pos → List Tok → List Tok × Pos × Int
  | 0, _, _, acc => (acc, ⟨0, 0⟩, 0)
  | n + 1, r, p, acc =>
    if (skipS r p).1 = false then ([], (skipS r p).2.2, 2)
    else if (skipS r p).2.1 = [] then (acc, ⟨0, 0⟩, 0)
    else if (itemS (skipS r p).2.1 (skipS r p).2.2).2.2 ≠ 0 then ([], (skipS r p).2.2, (itemS (skipS r p).2.1 (skipS r p).2.2).2.2)
    else if acc.length = 16384 then ([], (skipS r p).2.2, 10)
    else scanF n ((skipS r p).2.1.drop (itemS (skipS r p).2.1 (skipS r p).2.2).2.1.toNat) (posAfter ((skipS r p).2.1.take (itemS (skipS r p).2.1 (skipS r p).2.2).2.1.toNat) (skipS r p).2.2) (acc ++ [(itemS (skipS r p).2.1 (skipS r p).2.2).1])
/-- the reference's Scan -/
def scanS (l : List UInt8) : List Tok × Pos × Int := if 65536 < l.length then ([], ⟨0, 0⟩, 10) else scanF (l.length + 1) l ⟨1, 1⟩ []

theorem symBest_pre (r : List UInt8) : ∀ (l : List ByteArray) (b : ByteArray), startsW b.data.toList r = true → startsW (l.foldl (symStep r) b).data.toList r = true
  | [], b, h => h
  | x :: l, b, h => by
    refine symBest_pre r l _ ?_
    unfold symStep
    split
    · rename_i hh; simp only [Bool.and_eq_true] at hh; exact hh.1
    · exact h
theorem posAfter_take (s : ByteArray) (j k : Nat) (q : Pos) (h : j + k < s.size) : posAfter ((s.data.toList.drop j).take (k + 1)) q = stepP s[j + k] (posAfter ((s.data.toList.drop j).take k) q) := by
  have hl : k < (s.data.toList.drop j).length := by rw [List.length_drop, blen]; omega
  rw [List.take_succ_eq_append_getElem hl, posAfter_append, List.getElem_drop]
  rfl
theorem itemS_len (r : List UInt8) (p : Pos) (hr : r ≠ []) (h : (itemS r p).2.2 = 0) : 1 ≤ (itemS r p).2.1 ∧ (itemS r p).2.1 ≤ r.length := by
  cases r with
  | nil => exact absurd rfl hr
  | cons c r =>
    have hb := symBest_pre (c :: r) syB ByteArray.empty (by simp [startsW])
    have hw : partB c = true → 1 ≤ (((c :: r).takeWhile partB).length : Int) ∧ (((c :: r).takeWhile partB).length : Int) ≤ (c :: r).length := fun hp => by
      have := List.Sublist.length_le (List.takeWhile_sublist partB (l := c :: r))
      refine ⟨?_, by omega⟩
      rw [List.takeWhile_cons, if_pos hp]
      simp
      omega
    cases hl : letterB c
    · cases hd : digitB c
      · rw [itemS_sym hl hd] at h ⊢
        split at h
        · cases h
        · rename_i h0
          rw [if_neg h0]
          have hs : (symS (c :: r)).size ≤ (c :: r).length := by
            have h1 := starts_len hb
            rw [blen] at h1
            unfold symS
            split
            · show 1 ≤ _; simp
            · exact h1
          dsimp only
          omega
      · have hp : partB c = true := by
          unfold digitB at hd
          simp [partB, isPart, hd]
        rw [itemS_num hd] at h ⊢
        split at h
        · rename_i h0; rw [if_pos h0]; exact hw hp
        · exact absurd h (by assumption)
    · have hp : partB c = true := by
        unfold letterB at hl
        simp [partB, isPart, hl]
      cases hd : digitB c
      · rw [itemS_word hl hd] at h ⊢
        split at h
        · rename_i h0; rw [if_pos h0]; exact hw hp
        · rename_i h0
          rw [if_neg h0]
          split at h
          · rename_i h1; rw [if_pos h1]; exact hw hp
          · cases h
      · rw [itemS_num hd] at h ⊢
        split at h
        · rename_i h0; rw [if_pos h0]; exact hw hp
        · exact absurd h (by assumption)

/-- In Scan, called in world W: the cursor at b, the cells r of the result's place, the tokens so far. -/
structure ScFr (W : World) (b r : Nat) (wr : World) (s : ByteArray) (i : Nat) (p : Pos) (acc : List Tok) (vo : Value) : Prop where
  cur : CurAt wr b s i p
  own : wr.ownsRow 0 40 5 vo acc.length (cellsOf Tok.cells acc)
  ret : Blk wr r 29 #[.int .i64 0, .int .i64 0]
  below : Below W.heap.size W wr
  blo : W.heap.size ≤ b
  rlo : W.heap.size ≤ r
  olo : ∀ g, vo.ownBlock = some g → W.heap.size ≤ g
  br : b ≠ r

section
variable {W wr w' : World} {b r i j : Nat} {s : ByteArray} {p q : Pos} {acc : List Tok} {vo : Value}
theorem ScFr.cursor (h : ScFr W b r wr s i p acc vo) (hc : CurAt w' b s j q) (hO : Outside (fun k => k = b) wr w') : ScFr W b r w' s j q acc vo :=
  ⟨hc, own_out h.own hO (fun g hg e => own_apart h.own h.cur (by decide) (e ▸ hg)), h.ret.out hO (fun e => h.br e.symm),
    h.below.trans (hO.below h.below.size (fun k hk e => by have := h.blo; omega)), h.blo, h.rlo, h.olo, h.br⟩
theorem ScFr.under (h : ScFr W b r wr s i p acc vo) (hb : Below wr.heap.size wr w') : ScFr W b r w' s i p acc vo :=
  ⟨h.cur.below hb, own_out h.own (Below.new hb) (fun _ _ h => h), h.ret.below hb h.ret.lt, h.below.trans (hb.mono h.below.size), h.blo, h.rlo, h.olo, h.br⟩
theorem ScFr.alloc (h : ScFr W b r wr s i p acc vo) (o : Obj) : ScFr W b r (wr.alloc o) s i p acc vo := h.under ((Below.refl _ _).alloc (Nat.le_refl _) o)
theorem ScFr.push (h : ScFr W b r wr s i p acc vo) {vo' : Value} {t : Tok} (hg : wr.grownBy w' vo.ownBlock) (ho : w'.ownsRow 0 40 5 vo' (acc.length + 1) (cellsOf Tok.cells acc ++ t.cells))
    (hat : vo.ownBlock = vo'.ownBlock ∨ ∃ g, vo'.ownBlock = some g ∧ wr.heap.size ≤ g) : ScFr W b r w' s i p (acc ++ [t]) vo' := by
  have hO : Outside (fun k => vo.ownBlock = some k) wr w' := (Outside.refl _ _).grown hg (fun k hk => .inl hk)
  have hsz := h.below.size
  refine ⟨Blk.out h.cur hO (fun e => own_apart h.own h.cur (by decide) e), by simpa [cellsOf] using ho, h.ret.out hO (fun e => own_apart h.own h.ret (by decide) e),
    h.below.trans (hO.below hsz (fun k hk e => by have := h.olo k e; omega)), h.blo, h.rlo, fun g hg => ?_, h.br⟩
  rcases hat with h1 | ⟨g', h1, h2⟩
  · exact h.olo g (h1.trans hg)
  · rw [h1] at hg
    cases hg
    omega
theorem ScFr.putRet (h : ScFr W b r wr s i p acc vo) (p : Pos) : ((wr.setCell ⟨r, 0, none⟩ (.int .i64 p.line)).cell? ⟨r, 0, none⟩ = some (.int .i64 p.line)) ∧
    (((wr.setCell ⟨r, 0, none⟩ (.int .i64 p.line)).setCell ⟨r, 1, none⟩ (.int .i64 p.col)).cell? ⟨r, 1, none⟩ = some (.int .i64 p.col)) ∧ Below W.heap.size W ((wr.setCell ⟨r, 0, none⟩ (.int .i64 p.line)).setCell ⟨r, 1, none⟩ (.int .i64 p.col)) ∧
    ((wr.setCell ⟨r, 0, none⟩ (.int .i64 p.line)).setCell ⟨r, 1, none⟩ (.int .i64 p.col)).ownsRow 0 40 5 vo acc.length (cellsOf Tok.cells acc) :=
  ⟨cell_put h.ret 0 (by simp) _, cell_put (h.ret.put 0 _) 1 (by simp) _, (h.below.setCell (p := ⟨r, 0, none⟩) h.rlo _).setCell (p := ⟨r, 1, none⟩) h.rlo _,
    own_setCell (own_setCell h.own (own_apart h.own h.ret (by decide)) _) (own_apart h.own h.ret (by decide)) _⟩
end

def ScPost (s : ByteArray) (w : World) (e : Ending) (w' : World) : Prop :=
  (∃ A n c, e = .returned (.tuple #[.slice A n c, (scanS s.data.toList).2.1.v, .int .i64 (scanS s.data.toList).2.2]) ∧ n ≤ c ∧ c ≤ maxLen ∧ Rd w' w'.heap.size 5 A n (cellsOf Tok.cells (scanS s.data.toList).1)) ∧ Below w.heap.size w w'

def ScRel (s : ByteArray) (w : World) (b r k : Nat) (vl : Value) (wr : World) : Prop :=
  ∃ i p acc vo n, ScFr w b r wr s i p acc vo ∧ vl = vo ∧ i ≤ s.size ∧ PosIn p i ∧ acc.length ≤ i ∧ scanF n (s.data.toList.drop i) p acc = scanS s.data.toList ∧ s.size - i < n ∧ k = s.size - i

set_option maxRecDepth 100000 in
theorem scan_any (s : ByteArray) (w : World) (hs : s.size ≤ 1000000000000) : Calls Tryd.prog 14 #[.string s] w (ScPost s w) := by
  by_cases hbig : 65536 < s.size
  · have hbb : decide ((65536 : Int) < (s.size : Int)) = true := decide_eq_true (by omega)
    have HV : Hid (scanS s.data.toList = ([], ⟨0, 0⟩, 10)) := Lib.hid (by unfold scanS; rw [blen, if_pos hbig])
    have HN := Lib.hid (Blk.new w 29 #[.int .i64 0, .int .i64 0])
    have HB := Lib.hid ((Below.refl w.heap.size w).alloc (Nat.le_refl _) (.cells #[.int .i64 0, .int .i64 0] 29))
    clear hbig
    go_enter Tryd.func14, Tryd.ntmps14
    go_wp2_with (first | ((with_reducible show wpPlan _ _ _ _ _ (Act.put _ _ _) _); simp only [List.getElem_toArray, List.getElem_cons_succ, List.getElem_cons_zero, Act.put, List.setIfInBounds_toArray, List.set_cons_zero, List.set_cons_succ]) | ((with_reducible show wpPlan _ _ _ _ _ _ _); first | refine wpPlan_nil ?_ | (refine wpPlan_read0 rfl ?hw rfl (fun _ _ _ => ?_); case hw => ((conv => (lhs; whnf)); first | done | with_reducible rfl)) | (refine wpPlan_read1d rfl ?hw rfl rfl (fun _ _ _ => ?_); case hw => ((conv => (lhs; whnf)); first | done | with_reducible rfl)) | (refine wpPlan_eff rfl ?hw (fun _ _ => ?_); case hw => ((conv => (lhs; whnf)); first | done | with_reducible rfl)) | (refine wpPlan_skip0 rfl ?hw ?_; case hw => ((conv => (lhs; whnf)); first | done | with_reducible rfl)) | (refine wpPlan_skip1d rfl ?hw ?_; case hw => ((conv => (lhs; whnf)); first | done | with_reducible rfl)) | (refine wpPlan_skip2 rfl ?hw ?_; case hw => ((conv => (lhs; whnf)); first | done | with_reducible rfl)) | (refine wpPlan_read1 rfl ?hw rfl (fun _ _ _ => ?_); case hw => ((conv => (lhs; whnf)); first | done | with_reducible rfl)) | refine wpPlan_fork ?_ ?_) | ((with_reducible show Owed _ _ _ _ _ _ _ _ _); first | refine Owed.none_ ?_ | refine Owed.nil_ ?_ | refine Owed.miss rfl ?_ | refine Owed.hit ?_ ?_) | ((with_reducible show Same _ _ _ _ _); intro _; go_simp; done) | (with_reducible exact True.intro) | ((with_reducible show Code.wp _ (Code.region 6 _ true) _ _ _); refine wp_region_plan [(0, 0, []), (1, 1, []), (2, 1, []), (3, 1, []), (4, 0, []), (5, 2, []), (6, 0, [])] (by kernel_rfl) (by kernel_rfl) (by kernel_rfl) ?_) | ((with_reducible show Code.wp _ (Code.region 13 _ true) _ _ _); refine wp_region_plan [(0, 0, []), (1, 1, []), (2, 1, []), (3, 1, []), (4, 0, []), (5, 0, []), (6, 2, []), (7, 0, [])] (by kernel_rfl) (by kernel_rfl) (by kernel_rfl) ?_))
    refine bodyPost_ret (v := .tuple #[.slice none 0 0, .agg #[.int .i64 0, .int .i64 0], .int .i64 10]) (by simp [results, Tryd.results14, go_sem]) rfl ⟨⟨none, 0, 0, by rw [HV.out], Nat.le_refl _, by simp [maxLen], by rw [HV.out]; exact Rd.nil⟩, ?_⟩
    exact HB.out
  · have hbb : decide ((65536 : Int) < (s.size : Int)) = false := decide_eq_false (by omega)
    have hs6 : s.size ≤ 65536 := by omega
    have hrel : ScRel s w (w.heap.size + 1) w.heap.size s.size (.slice none 0 0) ((w.alloc (.cells #[.int .i64 0, .int .i64 0] 29)).alloc (.cells #[.string s, .int .i64 0, .int .i64 1, .int .i64 1] 54)) := by
      refine ⟨0, ⟨1, 1⟩, [], .slice none 0 0, _, ⟨?_, World.ownsRow_nil _ _ _ _, (Blk.new w _ _).alloc _, ((Below.refl w.heap.size w).alloc (Nat.le_refl _) _).alloc (by simp) _, by omega, Nat.le_refl _, fun g hg => (by cases hg), by omega⟩, rfl, Nat.zero_le _, ⟨by decide, by decide, by decide, by decide⟩, Nat.le_refl _, by unfold scanS; rw [if_neg (by rw [blen]; exact hbig), List.drop_zero], by rw [blen]; omega, rfl⟩
      have := Blk.new (w.alloc (.cells #[.int .i64 0, .int .i64 0] 29)) 54 #[.string s, .int .i64 0, .int .i64 1, .int .i64 1]
      simpa [CurAt] using this
    have HREL := Lib.hid hrel
    clear hrel hbig
    go_enter Tryd.func14, Tryd.ntmps14
    go_wp2_with (first | ((with_reducible show wpPlan _ _ _ _ _ (Act.put _ _ _) _); simp only [List.getElem_toArray, List.getElem_cons_succ, List.getElem_cons_zero, Act.put, List.setIfInBounds_toArray, List.set_cons_zero, List.set_cons_succ]) | ((with_reducible show wpPlan _ _ _ _ _ _ _); first | refine wpPlan_nil ?_ | (refine wpPlan_read0 rfl ?hw rfl (fun _ _ _ => ?_); case hw => ((conv => (lhs; whnf)); first | done | with_reducible rfl)) | (refine wpPlan_read1d rfl ?hw rfl rfl (fun _ _ _ => ?_); case hw => ((conv => (lhs; whnf)); first | done | with_reducible rfl)) | (refine wpPlan_eff rfl ?hw (fun _ _ => ?_); case hw => ((conv => (lhs; whnf)); first | done | with_reducible rfl)) | (refine wpPlan_skip0 rfl ?hw ?_; case hw => ((conv => (lhs; whnf)); first | done | with_reducible rfl)) | (refine wpPlan_skip1d rfl ?hw ?_; case hw => ((conv => (lhs; whnf)); first | done | with_reducible rfl)) | (refine wpPlan_skip2 rfl ?hw ?_; case hw => ((conv => (lhs; whnf)); first | done | with_reducible rfl)) | (refine wpPlan_read1 rfl ?hw rfl (fun _ _ _ => ?_); case hw => ((conv => (lhs; whnf)); first | done | with_reducible rfl)) | refine wpPlan_fork ?_ ?_) | ((with_reducible show Owed _ _ _ _ _ _ _ _ _); first | refine Owed.none_ ?_ | refine Owed.nil_ ?_ | refine Owed.miss rfl ?_ | refine Owed.hit ?_ ?_) | ((with_reducible show Same _ _ _ _ _); intro _; go_simp; done) | (with_reducible exact True.intro) | ((with_reducible show Code.wp _ (Code.region 6 _ true) _ _ _); refine wp_region_plan [(0, 0, []), (1, 1, []), (2, 1, []), (3, 1, []), (4, 0, []), (5, 2, []), (6, 0, [])] (by kernel_rfl) (by kernel_rfl) (by kernel_rfl) ?_) | ((with_reducible show Code.wp _ (Code.region 13 _ true) _ _ _); refine wp_region_plan [(0, 0, []), (1, 1, []), (2, 1, []), (3, 1, []), (4, 0, []), (5, 0, []), (6, 2, []), (7, 0, [])] (by kernel_rfl) (by kernel_rfl) (by kernel_rfl) ?_))
    go_loopg [5] s.size (fun k vl wr => ScRel s w (w.heap.size + 1) w.heap.size k vl wr)
    case atStart => exact HREL.out
    case round =>
      clear HREL
      obtain ⟨i, p, acc, vo, n, hF, rfl, hi, hp, hacc, hsc, hn, hk⟩ := hrel
      obtain ⟨n, rfl⟩ : ∃ m, n = m + 1 := ⟨n - 1, by omega⟩
      obtain ⟨A, cap, rfl, hcap, hmax⟩ := own_form hF.own
      have HF := Lib.hid hF
      have HP := Lib.hid hp
      have HK := Lib.hid hk
      obtain ⟨ok, r1, p1, hsk⟩ : ∃ a b c, skipS (s.data.toList.drop i) p = (a, b, c) := ⟨_, _, _, rfl⟩
      have HSC : Hid (scanS s.data.toList = if ok = false then ([], p1, 2) else if r1 = [] then (acc, ⟨0, 0⟩, 0)
          else if (itemS r1 p1).2.2 ≠ 0 then ([], p1, (itemS r1 p1).2.2) else if acc.length = 16384 then ([], p1, 10)
          else scanF n (r1.drop (itemS r1 p1).2.1.toNat) (posAfter (r1.take (itemS r1 p1).2.1.toNat) p1) (acc ++ [(itemS r1 p1).1])) := Lib.hid (by rw [← hsc, scanF, hsk])
      have HSK := Lib.hid hsk
      clear hF hp hk hsc hsk
      go_wp2_with (first | ((with_reducible show wpPlan _ _ _ _ _ (Act.put _ _ _) _); simp only [List.getElem_toArray, List.getElem_cons_succ, List.getElem_cons_zero, Act.put, List.setIfInBounds_toArray, List.set_cons_zero, List.set_cons_succ]) | ((with_reducible show wpPlan _ _ _ _ _ _ _); first | refine wpPlan_nil ?_ | (refine wpPlan_read0 rfl ?hw rfl (fun _ _ _ => ?_); case hw => ((conv => (lhs; whnf)); first | done | with_reducible rfl)) | (refine wpPlan_read1d rfl ?hw rfl rfl (fun _ _ _ => ?_); case hw => ((conv => (lhs; whnf)); first | done | with_reducible rfl)) | (refine wpPlan_eff rfl ?hw (fun _ _ => ?_); case hw => ((conv => (lhs; whnf)); first | done | with_reducible rfl)) | (refine wpPlan_skip0 rfl ?hw ?_; case hw => ((conv => (lhs; whnf)); first | done | with_reducible rfl)) | (refine wpPlan_skip1d rfl ?hw ?_; case hw => ((conv => (lhs; whnf)); first | done | with_reducible rfl)) | (refine wpPlan_skip2 rfl ?hw ?_; case hw => ((conv => (lhs; whnf)); first | done | with_reducible rfl)) | (refine wpPlan_read1 rfl ?hw rfl (fun _ _ _ => ?_); case hw => ((conv => (lhs; whnf)); first | done | with_reducible rfl)) | refine wpPlan_fork ?_ ?_) | ((with_reducible show Owed _ _ _ _ _ _ _ _ _); first | refine Owed.none_ ?_ | refine Owed.nil_ ?_ | refine Owed.miss rfl ?_ | refine Owed.hit ?_ ?_) | ((with_reducible show Same _ _ _ _ _); intro _; go_simp; done) | (with_reducible exact True.intro) | ((with_reducible show Code.wp _ (Code.region 6 _ true) _ _ _); refine wp_region_plan [(0, 0, []), (1, 1, []), (2, 1, []), (3, 1, []), (4, 0, []), (5, 2, []), (6, 0, [])] (by kernel_rfl) (by kernel_rfl) (by kernel_rfl) ?_) | ((with_reducible show Code.wp _ (Code.region 13 _ true) _ _ _); refine wp_region_plan [(0, 0, []), (1, 1, []), (2, 1, []), (3, 1, []), (4, 0, []), (5, 0, []), (6, 2, []), (7, 0, [])] (by kernel_rfl) (by kernel_rfl) (by kernel_rfl) ?_))
      refine (skip_any _ s i p _ HF.out.cur hi hs HP.out).mono ?_
      unfold SkPost
      rw [HSK.out]
      rintro e w1 ⟨rfl, hO1, j, q, hc1, hij, hj, hq, hdr, hqe⟩
      dsimp only at hdr hqe
      subst hqe
      have F1 := Lib.hid (HF.out.cursor hc1 hO1)
      have HQ := Lib.hid hq
      have HDR := Lib.hid hdr
      clear hc1 hO1 hq hdr
      cases ok
      · have hv : scanS s.data.toList = ([], q, 2) := by rw [HSC.out]; simp
        have HV := Lib.hid hv
        clear hv
        have hC1 := F1.out.cur.cell
        have hCl1 := F1.out.cur.lt
        have hr1 := F1.out.ret.cell
        have hrf1 := F1.out.ret.frozen
        have hrl1 := F1.out.ret.lt
        go_wp2_with (first | ((with_reducible show wpPlan _ _ _ _ _ (Act.put _ _ _) _); simp only [List.getElem_toArray, List.getElem_cons_succ, List.getElem_cons_zero, Act.put, List.setIfInBounds_toArray, List.set_cons_zero, List.set_cons_succ]) | ((with_reducible show wpPlan _ _ _ _ _ _ _); first | refine wpPlan_nil ?_ | (refine wpPlan_read0 rfl ?hw rfl (fun _ _ _ => ?_); case hw => ((conv => (lhs; whnf)); first | done | with_reducible rfl)) | (refine wpPlan_read1d rfl ?hw rfl rfl (fun _ _ _ => ?_); case hw => ((conv => (lhs; whnf)); first | done | with_reducible rfl)) | (refine wpPlan_eff rfl ?hw (fun _ _ => ?_); case hw => ((conv => (lhs; whnf)); first | done | with_reducible rfl)) | (refine wpPlan_skip0 rfl ?hw ?_; case hw => ((conv => (lhs; whnf)); first | done | with_reducible rfl)) | (refine wpPlan_skip1d rfl ?hw ?_; case hw => ((conv => (lhs; whnf)); first | done | with_reducible rfl)) | (refine wpPlan_skip2 rfl ?hw ?_; case hw => ((conv => (lhs; whnf)); first | done | with_reducible rfl)) | (refine wpPlan_read1 rfl ?hw rfl (fun _ _ _ => ?_); case hw => ((conv => (lhs; whnf)); first | done | with_reducible rfl)) | refine wpPlan_fork ?_ ?_) | ((with_reducible show Owed _ _ _ _ _ _ _ _ _); first | refine Owed.none_ ?_ | refine Owed.nil_ ?_ | refine Owed.miss rfl ?_ | refine Owed.hit ?_ ?_) | ((with_reducible show Same _ _ _ _ _); intro _; go_simp; done) | (with_reducible exact True.intro) | ((with_reducible show Code.wp _ (Code.region 6 _ true) _ _ _); refine wp_region_plan [(0, 0, []), (1, 1, []), (2, 1, []), (3, 1, []), (4, 0, []), (5, 2, []), (6, 0, [])] (by kernel_rfl) (by kernel_rfl) (by kernel_rfl) ?_) | ((with_reducible show Code.wp _ (Code.region 13 _ true) _ _ _); refine wp_region_plan [(0, 0, []), (1, 1, []), (2, 1, []), (3, 1, []), (4, 0, []), (5, 0, []), (6, 2, []), (7, 0, [])] (by kernel_rfl) (by kernel_rfl) (by kernel_rfl) ?_))
        obtain ⟨q0, q1, qb, _⟩ := F1.out.putRet q
        refine bodyPost_ret (v := .tuple #[.slice none 0 0, q.v, .int .i64 2]) (by simp [results, Tryd.results14, go_sem, q0, q1]) rfl ⟨⟨none, 0, 0, by rw [HV.out], Nat.le_refl _, by simp [maxLen], by rw [HV.out]; exact Rd.nil⟩, qb.drew⟩
      · have hC1 := F1.out.cur.cell
        have hCl1 := F1.out.cur.lt
        by_cases hje : j = s.size
        · have hjb : ((j : Int) == (s.size : Int)) = true := by rw [beq_iff_eq]; omega
          have hnil : r1 = [] := by rw [← HDR.out, List.drop_of_length_le (by rw [blen]; omega)]
          have hv : scanS s.data.toList = (acc, ⟨0, 0⟩, 0) := by rw [HSC.out, if_neg (by simp), if_pos hnil]
          have HV := Lib.hid hv
          have hr1 := F1.out.ret.cell
          have hrf1 := F1.out.ret.frozen
          have hrl1 := F1.out.ret.lt
          clear hv hnil hje
          go_wp2_with (first | ((with_reducible show wpPlan _ _ _ _ _ (Act.put _ _ _) _); simp only [List.getElem_toArray, List.getElem_cons_succ, List.getElem_cons_zero, Act.put, List.setIfInBounds_toArray, List.set_cons_zero, List.set_cons_succ]) | ((with_reducible show wpPlan _ _ _ _ _ _ _); first | refine wpPlan_nil ?_ | (refine wpPlan_read0 rfl ?hw rfl (fun _ _ _ => ?_); case hw => ((conv => (lhs; whnf)); first | done | with_reducible rfl)) | (refine wpPlan_read1d rfl ?hw rfl rfl (fun _ _ _ => ?_); case hw => ((conv => (lhs; whnf)); first | done | with_reducible rfl)) | (refine wpPlan_eff rfl ?hw (fun _ _ => ?_); case hw => ((conv => (lhs; whnf)); first | done | with_reducible rfl)) | (refine wpPlan_skip0 rfl ?hw ?_; case hw => ((conv => (lhs; whnf)); first | done | with_reducible rfl)) | (refine wpPlan_skip1d rfl ?hw ?_; case hw => ((conv => (lhs; whnf)); first | done | with_reducible rfl)) | (refine wpPlan_skip2 rfl ?hw ?_; case hw => ((conv => (lhs; whnf)); first | done | with_reducible rfl)) | (refine wpPlan_read1 rfl ?hw rfl (fun _ _ _ => ?_); case hw => ((conv => (lhs; whnf)); first | done | with_reducible rfl)) | refine wpPlan_fork ?_ ?_) | ((with_reducible show Owed _ _ _ _ _ _ _ _ _); first | refine Owed.none_ ?_ | refine Owed.nil_ ?_ | refine Owed.miss rfl ?_ | refine Owed.hit ?_ ?_) | ((with_reducible show Same _ _ _ _ _); intro _; go_simp; done) | (with_reducible exact True.intro) | ((with_reducible show Code.wp _ (Code.region 6 _ true) _ _ _); refine wp_region_plan [(0, 0, []), (1, 1, []), (2, 1, []), (3, 1, []), (4, 0, []), (5, 2, []), (6, 0, [])] (by kernel_rfl) (by kernel_rfl) (by kernel_rfl) ?_) | ((with_reducible show Code.wp _ (Code.region 13 _ true) _ _ _); refine wp_region_plan [(0, 0, []), (1, 1, []), (2, 1, []), (3, 1, []), (4, 0, []), (5, 0, []), (6, 2, []), (7, 0, [])] (by kernel_rfl) (by kernel_rfl) (by kernel_rfl) ?_))
          obtain ⟨q0, q1, qb, qo⟩ := F1.out.putRet ⟨0, 0⟩
          refine bodyPost_ret (v := .tuple #[.slice A acc.length cap, .agg #[.int .i64 0, .int .i64 0], .int .i64 0]) (by simp [results, Tryd.results14, go_sem, q0, q1]) rfl ⟨⟨A, acc.length, cap, by rw [HV.out], hcap, hmax, by rw [HV.out]; exact Rd.ofOwn qo⟩, qb⟩
        · have hjb : ((j : Int) == (s.size : Int)) = false := by rw [beq_eq_false_iff_ne]; omega
          have hne : r1 ≠ [] := by rw [← HDR.out, drop_byte s j (by omega)]; simp
          obtain ⟨⟨kk, ki, ks, kl, kc⟩, ln, er, hit⟩ : ∃ a b c, itemS r1 q = (a, b, c) := ⟨_, _, _, rfl⟩
          have hil := itemS_len r1 q hne
          rw [hit] at hil
          have HSC2 : Hid (scanS s.data.toList = if er ≠ 0 then ([], q, er) else if acc.length = 16384 then ([], q, 10) else scanF n (r1.drop ln.toNat) (posAfter (r1.take ln.toNat) q) (acc ++ [⟨kk, ki, ks, ⟨kl, kc⟩⟩])) := Lib.hid (by rw [HSC.out, if_neg (by simp), if_neg hne, hit])
          have HIT := Lib.hid hit
          have HIL := Lib.hid hil
          have HNE := Lib.hid hne
          have HLR : Hid (r1.length = s.size - j) := Lib.hid (by rw [← HDR.out, List.length_drop, blen])
          clear hit hil hne
          go_wp2_with (first | ((with_reducible show wpPlan _ _ _ _ _ (Act.put _ _ _) _); simp only [List.getElem_toArray, List.getElem_cons_succ, List.getElem_cons_zero, Act.put, List.setIfInBounds_toArray, List.set_cons_zero, List.set_cons_succ]) | ((with_reducible show wpPlan _ _ _ _ _ _ _); first | refine wpPlan_nil ?_ | (refine wpPlan_read0 rfl ?hw rfl (fun _ _ _ => ?_); case hw => ((conv => (lhs; whnf)); first | done | with_reducible rfl)) | (refine wpPlan_read1d rfl ?hw rfl rfl (fun _ _ _ => ?_); case hw => ((conv => (lhs; whnf)); first | done | with_reducible rfl)) | (refine wpPlan_eff rfl ?hw (fun _ _ => ?_); case hw => ((conv => (lhs; whnf)); first | done | with_reducible rfl)) | (refine wpPlan_skip0 rfl ?hw ?_; case hw => ((conv => (lhs; whnf)); first | done | with_reducible rfl)) | (refine wpPlan_skip1d rfl ?hw ?_; case hw => ((conv => (lhs; whnf)); first | done | with_reducible rfl)) | (refine wpPlan_skip2 rfl ?hw ?_; case hw => ((conv => (lhs; whnf)); first | done | with_reducible rfl)) | (refine wpPlan_read1 rfl ?hw rfl (fun _ _ _ => ?_); case hw => ((conv => (lhs; whnf)); first | done | with_reducible rfl)) | refine wpPlan_fork ?_ ?_) | ((with_reducible show Owed _ _ _ _ _ _ _ _ _); first | refine Owed.none_ ?_ | refine Owed.nil_ ?_ | refine Owed.miss rfl ?_ | refine Owed.hit ?_ ?_) | ((with_reducible show Same _ _ _ _ _); intro _; go_simp; done) | (with_reducible exact True.intro) | ((with_reducible show Code.wp _ (Code.region 6 _ true) _ _ _); refine wp_region_plan [(0, 0, []), (1, 1, []), (2, 1, []), (3, 1, []), (4, 0, []), (5, 2, []), (6, 0, [])] (by kernel_rfl) (by kernel_rfl) (by kernel_rfl) ?_) | ((with_reducible show Code.wp _ (Code.region 13 _ true) _ _ _); refine wp_region_plan [(0, 0, []), (1, 1, []), (2, 1, []), (3, 1, []), (4, 0, []), (5, 0, []), (6, 2, []), (7, 0, [])] (by kernel_rfl) (by kernel_rfl) (by kernel_rfl) ?_))
          refine (item_any _ s j q _ F1.out.cur (by omega) hs).mono ?_
          unfold ItPost
          rw [HDR.out, HIT.out]
          rintro e w2 ⟨rfl, hb2⟩
          dsimp only [Tok.v]
          have F2 := Lib.hid (F1.out.under hb2)
          have F3 := Lib.hid (F2.out.alloc (.cells #[.int .i64 kk, .int .i64 ki, .string ks, .int .i64 kl, .int .i64 kc] 40))
          have HN3 := Lib.hid (Blk.new w2 40 #[.int .i64 kk, .int .i64 ki, .string ks, .int .i64 kl, .int .i64 kc])
          clear hb2 hC1 hCl1 hjb
          by_cases h0 : er = 0
          · have h0b : (er == 0) = true := by simpa using h0
            have h0c : (er != 0) = false := by simpa using h0
            obtain ⟨hl1, hl2⟩ := HIL.out h0
            have hlr := HLR.out
            (try dsimp only at hl1 hl2)
            obtain ⟨m, rfl⟩ := Int.eq_ofNat_of_zero_le (show 0 ≤ ln by omega)
            have H0 := Lib.hid h0
            clear h0
            by_cases hfu : acc.length = 16384
            · have hfb : ((acc.length : Int) == 16384) = true := by rw [beq_iff_eq]; omega
              have HFU := Lib.hid hfu
              clear hfu
              have hv : scanS s.data.toList = ([], q, 10) := by rw [HSC2.out, if_neg (fun h => h H0.out), if_pos HFU.out]
              have HV := Lib.hid hv
              clear hv
              have hC3 := F3.out.cur.cell
              have hCl3 := F3.out.cur.lt
              have hr3 := F3.out.ret.cell
              have hrf3 := F3.out.ret.frozen
              have hrl3 := F3.out.ret.lt
              go_wp2_with (first | ((with_reducible show wpPlan _ _ _ _ _ (Act.put _ _ _) _); simp only [List.getElem_toArray, List.getElem_cons_succ, List.getElem_cons_zero, Act.put, List.setIfInBounds_toArray, List.set_cons_zero, List.set_cons_succ]) | ((with_reducible show wpPlan _ _ _ _ _ _ _); first | refine wpPlan_nil ?_ | (refine wpPlan_read0 rfl ?hw rfl (fun _ _ _ => ?_); case hw => ((conv => (lhs; whnf)); first | done | with_reducible rfl)) | (refine wpPlan_read1d rfl ?hw rfl rfl (fun _ _ _ => ?_); case hw => ((conv => (lhs; whnf)); first | done | with_reducible rfl)) | (refine wpPlan_eff rfl ?hw (fun _ _ => ?_); case hw => ((conv => (lhs; whnf)); first | done | with_reducible rfl)) | (refine wpPlan_skip0 rfl ?hw ?_; case hw => ((conv => (lhs; whnf)); first | done | with_reducible rfl)) | (refine wpPlan_skip1d rfl ?hw ?_; case hw => ((conv => (lhs; whnf)); first | done | with_reducible rfl)) | (refine wpPlan_skip2 rfl ?hw ?_; case hw => ((conv => (lhs; whnf)); first | done | with_reducible rfl)) | (refine wpPlan_read1 rfl ?hw rfl (fun _ _ _ => ?_); case hw => ((conv => (lhs; whnf)); first | done | with_reducible rfl)) | refine wpPlan_fork ?_ ?_) | ((with_reducible show Owed _ _ _ _ _ _ _ _ _); first | refine Owed.none_ ?_ | refine Owed.nil_ ?_ | refine Owed.miss rfl ?_ | refine Owed.hit ?_ ?_) | ((with_reducible show Same _ _ _ _ _); intro _; go_simp; done) | (with_reducible exact True.intro) | ((with_reducible show Code.wp _ (Code.region 6 _ true) _ _ _); refine wp_region_plan [(0, 0, []), (1, 1, []), (2, 1, []), (3, 1, []), (4, 0, []), (5, 2, []), (6, 0, [])] (by kernel_rfl) (by kernel_rfl) (by kernel_rfl) ?_) | ((with_reducible show Code.wp _ (Code.region 13 _ true) _ _ _); refine wp_region_plan [(0, 0, []), (1, 1, []), (2, 1, []), (3, 1, []), (4, 0, []), (5, 0, []), (6, 2, []), (7, 0, [])] (by kernel_rfl) (by kernel_rfl) (by kernel_rfl) ?_))
              obtain ⟨q0, q1, qb, _⟩ := F3.out.putRet q
              refine bodyPost_ret (v := .tuple #[.slice none 0 0, q.v, .int .i64 10]) (by simp [results, Tryd.results14, go_sem, q0, q1]) rfl ⟨⟨none, 0, 0, by rw [HV.out], Nat.le_refl _, by simp [maxLen], by rw [HV.out]; exact Rd.nil⟩, qb.drew⟩
            · have hfb : ((acc.length : Int) == 16384) = false := by rw [beq_eq_false_iff_ne]; omega
              have HSC3 : Hid (scanS s.data.toList = scanF n (r1.drop (m : Int).toNat) (posAfter (r1.take (m : Int).toNat) q) (acc ++ [⟨kk, ki, ks, ⟨kl, kc⟩⟩])) := Lib.hid (by rw [HSC2.out, if_neg (fun h => h H0.out), if_neg hfu])
              clear hfu
              go_wp2_with (first | (at_builtin; go_must (refine appList_blk rfl slTok rfl (F3.out.alloc _).own rfl (news := (Tok.cells ⟨kk, ki, ks, ⟨kl, kc⟩⟩)) ((heap_alloc_at (by simp)) : Blk _ (w2.heap.size + 1) _ _) rfl rfl (by simp [Tok.cells, Value.oneCell']) (by decide) (by unfold maxLen; omega) (by omega) ?_); intro g4 cap4 w4 hown4 hgrow4 hat4) | ((with_reducible show wpPlan _ _ _ _ _ (Act.put _ _ _) _); simp only [List.getElem_toArray, List.getElem_cons_succ, List.getElem_cons_zero, Act.put, List.setIfInBounds_toArray, List.set_cons_zero, List.set_cons_succ]) | ((with_reducible show wpPlan _ _ _ _ _ _ _); first | refine wpPlan_nil ?_ | (refine wpPlan_read0 rfl ?hw rfl (fun _ _ _ => ?_); case hw => ((conv => (lhs; whnf)); first | done | with_reducible rfl)) | (refine wpPlan_read1d rfl ?hw rfl rfl (fun _ _ _ => ?_); case hw => ((conv => (lhs; whnf)); first | done | with_reducible rfl)) | (refine wpPlan_eff rfl ?hw (fun _ _ => ?_); case hw => ((conv => (lhs; whnf)); first | done | with_reducible rfl)) | (refine wpPlan_skip0 rfl ?hw ?_; case hw => ((conv => (lhs; whnf)); first | done | with_reducible rfl)) | (refine wpPlan_skip1d rfl ?hw ?_; case hw => ((conv => (lhs; whnf)); first | done | with_reducible rfl)) | (refine wpPlan_skip2 rfl ?hw ?_; case hw => ((conv => (lhs; whnf)); first | done | with_reducible rfl)) | (refine wpPlan_read1 rfl ?hw rfl (fun _ _ _ => ?_); case hw => ((conv => (lhs; whnf)); first | done | with_reducible rfl)) | refine wpPlan_fork ?_ ?_) | ((with_reducible show Owed _ _ _ _ _ _ _ _ _); first | refine Owed.none_ ?_ | refine Owed.nil_ ?_ | refine Owed.miss rfl ?_ | refine Owed.hit ?_ ?_) | ((with_reducible show Same _ _ _ _ _); intro _; go_simp; done) | (with_reducible exact True.intro) | ((with_reducible show Code.wp _ (Code.region 6 _ true) _ _ _); refine wp_region_plan [(0, 0, []), (1, 1, []), (2, 1, []), (3, 1, []), (4, 0, []), (5, 2, []), (6, 0, [])] (by kernel_rfl) (by kernel_rfl) (by kernel_rfl) ?_) | ((with_reducible show Code.wp _ (Code.region 13 _ true) _ _ _); refine wp_region_plan [(0, 0, []), (1, 1, []), (2, 1, []), (3, 1, []), (4, 0, []), (5, 0, []), (6, 2, []), (7, 0, [])] (by kernel_rfl) (by kernel_rfl) (by kernel_rfl) ?_))
              have F4 := Lib.hid ((F3.out.alloc _).push hgrow4 hown4 (hat4.imp id (fun h => ⟨g4, rfl, h⟩)))
              clear hown4 hgrow4 hat4
              go_loopw [10] (fun vk wz => ∃ k : Nat, k ≤ m ∧ vk = .int .i64 k ∧ ScFr w (w.heap.size + 1) w.heap.size wz s (j + k) (posAfter ((s.data.toList.drop j).take k) q) (acc ++ [⟨kk, ki, ks, ⟨kl, kc⟩⟩]) (.slice (some ⟨g4, 0, none⟩) (acc.length + 1) cap4) ∧ PosIn (posAfter ((s.data.toList.drop j).take k) q) (j + k)) (fun vk _ => m - (intOf vk).toNat)
              case atStart => exact ⟨0, Nat.zero_le _, rfl, F4.out, HQ.out⟩
              case round =>
                obtain ⟨k, hk5, rfl, hF5, hP5⟩ := hrel
                have F5 := Lib.hid hF5
                have HP5 := Lib.hid hP5
                clear hF5 hP5
                by_cases hkm : k < m
                · have hjk : j + k < s.size := by omega
                  have HPT := Lib.hid (posAfter_take s j k q hjk)
                  go_wp2_with (first | ((with_reducible show wpPlan _ _ _ _ _ (Act.put _ _ _) _); simp only [List.getElem_toArray, List.getElem_cons_succ, List.getElem_cons_zero, Act.put, List.setIfInBounds_toArray, List.set_cons_zero, List.set_cons_succ]) | ((with_reducible show wpPlan _ _ _ _ _ _ _); first | refine wpPlan_nil ?_ | (refine wpPlan_read0 rfl ?hw rfl (fun _ _ _ => ?_); case hw => ((conv => (lhs; whnf)); first | done | with_reducible rfl)) | (refine wpPlan_read1d rfl ?hw rfl rfl (fun _ _ _ => ?_); case hw => ((conv => (lhs; whnf)); first | done | with_reducible rfl)) | (refine wpPlan_eff rfl ?hw (fun _ _ => ?_); case hw => ((conv => (lhs; whnf)); first | done | with_reducible rfl)) | (refine wpPlan_skip0 rfl ?hw ?_; case hw => ((conv => (lhs; whnf)); first | done | with_reducible rfl)) | (refine wpPlan_skip1d rfl ?hw ?_; case hw => ((conv => (lhs; whnf)); first | done | with_reducible rfl)) | (refine wpPlan_skip2 rfl ?hw ?_; case hw => ((conv => (lhs; whnf)); first | done | with_reducible rfl)) | (refine wpPlan_read1 rfl ?hw rfl (fun _ _ _ => ?_); case hw => ((conv => (lhs; whnf)); first | done | with_reducible rfl)) | refine wpPlan_fork ?_ ?_) | ((with_reducible show Owed _ _ _ _ _ _ _ _ _); first | refine Owed.none_ ?_ | refine Owed.nil_ ?_ | refine Owed.miss rfl ?_ | refine Owed.hit ?_ ?_) | ((with_reducible show Same _ _ _ _ _); intro _; go_simp; done) | (with_reducible exact True.intro) | ((with_reducible show Code.wp _ (Code.region 6 _ true) _ _ _); refine wp_region_plan [(0, 0, []), (1, 1, []), (2, 1, []), (3, 1, []), (4, 0, []), (5, 2, []), (6, 0, [])] (by kernel_rfl) (by kernel_rfl) (by kernel_rfl) ?_) | ((with_reducible show Code.wp _ (Code.region 13 _ true) _ _ _); refine wp_region_plan [(0, 0, []), (1, 1, []), (2, 1, []), (3, 1, []), (4, 0, []), (5, 0, []), (6, 2, []), (7, 0, [])] (by kernel_rfl) (by kernel_rfl) (by kernel_rfl) ?_))
                  refine (cstep_any _ s (j + k) _ _ F5.out.cur hjk hs HP5.out).mono ?_
                  rintro e w6 ⟨rfl, hc6, hO6⟩
                  have F6 := Lib.hid (F5.out.cursor hc6 hO6)
                  clear hc6 hO6
                  go_wp2_with (first | ((with_reducible show wpPlan _ _ _ _ _ (Act.put _ _ _) _); simp only [List.getElem_toArray, List.getElem_cons_succ, List.getElem_cons_zero, Act.put, List.setIfInBounds_toArray, List.set_cons_zero, List.set_cons_succ]) | ((with_reducible show wpPlan _ _ _ _ _ _ _); first | refine wpPlan_nil ?_ | (refine wpPlan_read0 rfl ?hw rfl (fun _ _ _ => ?_); case hw => ((conv => (lhs; whnf)); first | done | with_reducible rfl)) | (refine wpPlan_read1d rfl ?hw rfl rfl (fun _ _ _ => ?_); case hw => ((conv => (lhs; whnf)); first | done | with_reducible rfl)) | (refine wpPlan_eff rfl ?hw (fun _ _ => ?_); case hw => ((conv => (lhs; whnf)); first | done | with_reducible rfl)) | (refine wpPlan_skip0 rfl ?hw ?_; case hw => ((conv => (lhs; whnf)); first | done | with_reducible rfl)) | (refine wpPlan_skip1d rfl ?hw ?_; case hw => ((conv => (lhs; whnf)); first | done | with_reducible rfl)) | (refine wpPlan_skip2 rfl ?hw ?_; case hw => ((conv => (lhs; whnf)); first | done | with_reducible rfl)) | (refine wpPlan_read1 rfl ?hw rfl (fun _ _ _ => ?_); case hw => ((conv => (lhs; whnf)); first | done | with_reducible rfl)) | refine wpPlan_fork ?_ ?_) | ((with_reducible show Owed _ _ _ _ _ _ _ _ _); first | refine Owed.none_ ?_ | refine Owed.nil_ ?_ | refine Owed.miss rfl ?_ | refine Owed.hit ?_ ?_) | ((with_reducible show Same _ _ _ _ _); intro _; go_simp; done) | (with_reducible exact True.intro) | ((with_reducible show Code.wp _ (Code.region 6 _ true) _ _ _); refine wp_region_plan [(0, 0, []), (1, 1, []), (2, 1, []), (3, 1, []), (4, 0, []), (5, 2, []), (6, 0, [])] (by kernel_rfl) (by kernel_rfl) (by kernel_rfl) ?_) | ((with_reducible show Code.wp _ (Code.region 13 _ true) _ _ _); refine wp_region_plan [(0, 0, []), (1, 1, []), (2, 1, []), (3, 1, []), (4, 0, []), (5, 0, []), (6, 2, []), (7, 0, [])] (by kernel_rfl) (by kernel_rfl) (by kernel_rfl) ?_))
                  go_roundw
                  case rel => exact ⟨k + 1, by omega, by go_num, by rw [HPT.out]; exact F6.out, by rw [HPT.out]; exact HP5.out.step _⟩
                  case measure => simp [intOf]; omega
                · have hkm2 : k = m := by omega
                  have HKM := Lib.hid hkm2
                  clear hkm2
                  go_wp2_with (first | ((with_reducible show wpPlan _ _ _ _ _ (Act.put _ _ _) _); simp only [List.getElem_toArray, List.getElem_cons_succ, List.getElem_cons_zero, Act.put, List.setIfInBounds_toArray, List.set_cons_zero, List.set_cons_succ]) | ((with_reducible show wpPlan _ _ _ _ _ _ _); first | refine wpPlan_nil ?_ | (refine wpPlan_read0 rfl ?hw rfl (fun _ _ _ => ?_); case hw => ((conv => (lhs; whnf)); first | done | with_reducible rfl)) | (refine wpPlan_read1d rfl ?hw rfl rfl (fun _ _ _ => ?_); case hw => ((conv => (lhs; whnf)); first | done | with_reducible rfl)) | (refine wpPlan_eff rfl ?hw (fun _ _ => ?_); case hw => ((conv => (lhs; whnf)); first | done | with_reducible rfl)) | (refine wpPlan_skip0 rfl ?hw ?_; case hw => ((conv => (lhs; whnf)); first | done | with_reducible rfl)) | (refine wpPlan_skip1d rfl ?hw ?_; case hw => ((conv => (lhs; whnf)); first | done | with_reducible rfl)) | (refine wpPlan_skip2 rfl ?hw ?_; case hw => ((conv => (lhs; whnf)); first | done | with_reducible rfl)) | (refine wpPlan_read1 rfl ?hw rfl (fun _ _ _ => ?_); case hw => ((conv => (lhs; whnf)); first | done | with_reducible rfl)) | refine wpPlan_fork ?_ ?_) | ((with_reducible show Owed _ _ _ _ _ _ _ _ _); first | refine Owed.none_ ?_ | refine Owed.nil_ ?_ | refine Owed.miss rfl ?_ | refine Owed.hit ?_ ?_) | ((with_reducible show Same _ _ _ _ _); intro _; go_simp; done) | (with_reducible exact True.intro) | ((with_reducible show Code.wp _ (Code.region 6 _ true) _ _ _); refine wp_region_plan [(0, 0, []), (1, 1, []), (2, 1, []), (3, 1, []), (4, 0, []), (5, 2, []), (6, 0, [])] (by kernel_rfl) (by kernel_rfl) (by kernel_rfl) ?_) | ((with_reducible show Code.wp _ (Code.region 13 _ true) _ _ _); refine wp_region_plan [(0, 0, []), (1, 1, []), (2, 1, []), (3, 1, []), (4, 0, []), (5, 0, []), (6, 2, []), (7, 0, [])] (by kernel_rfl) (by kernel_rfl) (by kernel_rfl) ?_))
                  go_roundg (s.size - (j + m))
                  · refine ⟨j + m, posAfter ((s.data.toList.drop j).take m) q, acc ++ [⟨kk, ki, ks, ⟨kl, kc⟩⟩], _, n, by have := F5.out; rw [HKM.out] at this; exact this, rfl, by omega, by have := HP5.out; rw [HKM.out] at this; exact this, by simp; omega, ?_, by omega, rfl⟩
                    rw [HSC3.out, ← HDR.out, List.drop_drop, Int.toNat_natCast]
                  · have := HK.out; omega
          · have h0b : (er == 0) = false := by simpa using h0
            have h0c : (er != 0) = true := by simpa using h0
            have H0 := Lib.hid h0
            clear h0
            have hv : scanS s.data.toList = ([], q, er) := by rw [HSC2.out, if_pos H0.out]
            have HV := Lib.hid hv
            clear hv
            have hC3 := F3.out.cur.cell
            have hCl3 := F3.out.cur.lt
            have hr3 := F3.out.ret.cell
            have hrf3 := F3.out.ret.frozen
            have hrl3 := F3.out.ret.lt
            go_wp2_with (first | ((with_reducible show wpPlan _ _ _ _ _ (Act.put _ _ _) _); simp only [List.getElem_toArray, List.getElem_cons_succ, List.getElem_cons_zero, Act.put, List.setIfInBounds_toArray, List.set_cons_zero, List.set_cons_succ]) | ((with_reducible show wpPlan _ _ _ _ _ _ _); first | refine wpPlan_nil ?_ | (refine wpPlan_read0 rfl ?hw rfl (fun _ _ _ => ?_); case hw => ((conv => (lhs; whnf)); first | done | with_reducible rfl)) | (refine wpPlan_read1d rfl ?hw rfl rfl (fun _ _ _ => ?_); case hw => ((conv => (lhs; whnf)); first | done | with_reducible rfl)) | (refine wpPlan_eff rfl ?hw (fun _ _ => ?_); case hw => ((conv => (lhs; whnf)); first | done | with_reducible rfl)) | (refine wpPlan_skip0 rfl ?hw ?_; case hw => ((conv => (lhs; whnf)); first | done | with_reducible rfl)) | (refine wpPlan_skip1d rfl ?hw ?_; case hw => ((conv => (lhs; whnf)); first | done | with_reducible rfl)) | (refine wpPlan_skip2 rfl ?hw ?_; case hw => ((conv => (lhs; whnf)); first | done | with_reducible rfl)) | (refine wpPlan_read1 rfl ?hw rfl (fun _ _ _ => ?_); case hw => ((conv => (lhs; whnf)); first | done | with_reducible rfl)) | refine wpPlan_fork ?_ ?_) | ((with_reducible show Owed _ _ _ _ _ _ _ _ _); first | refine Owed.none_ ?_ | refine Owed.nil_ ?_ | refine Owed.miss rfl ?_ | refine Owed.hit ?_ ?_) | ((with_reducible show Same _ _ _ _ _); intro _; go_simp; done) | (with_reducible exact True.intro) | ((with_reducible show Code.wp _ (Code.region 6 _ true) _ _ _); refine wp_region_plan [(0, 0, []), (1, 1, []), (2, 1, []), (3, 1, []), (4, 0, []), (5, 2, []), (6, 0, [])] (by kernel_rfl) (by kernel_rfl) (by kernel_rfl) ?_) | ((with_reducible show Code.wp _ (Code.region 13 _ true) _ _ _); refine wp_region_plan [(0, 0, []), (1, 1, []), (2, 1, []), (3, 1, []), (4, 0, []), (5, 0, []), (6, 2, []), (7, 0, [])] (by kernel_rfl) (by kernel_rfl) (by kernel_rfl) ?_))
            obtain ⟨q0, q1, qb, _⟩ := F3.out.putRet q
            refine bodyPost_ret (v := .tuple #[.slice none 0 0, q.v, .int .i64 er]) (by simp [results, Tryd.results14, go_sem, q0, q1]) rfl ⟨⟨none, 0, 0, by rw [HV.out], Nat.le_refl _, by simp [maxLen], by rw [HV.out]; exact Rd.nil⟩, qb.drew⟩

end Go.Proofs.YtgfhkaamkodpjaaDoor
