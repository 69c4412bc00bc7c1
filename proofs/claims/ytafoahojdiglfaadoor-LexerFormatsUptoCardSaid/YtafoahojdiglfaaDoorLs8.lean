/- the program's scanner: Scan -/
import Derived.Test.YtafoahojdiglfaaDoorLs7
namespace Go.Proofs.YtafoahojdiglfaaDoor
open Go Go.RowKit
set_option maxHeartbeats 4000000
attribute [local irreducible] kwB syB clB

theorem lclip_any (A : Option Addr) (n c : Nat) (w : World) (hc : n ≤ c) (_hm : c ≤ maxLen) :
    Calls Tryd.prog 33 #[.slice A n c] w fun e w' => e = .returned (.slice A n n) ∧ w = w' := by
  unfold maxLen at _hm
  go_enter Tryd.func33, Tryd.ntmps33
  go_wp2
  go_ret
  exact ⟨rfl, rfl⟩

/-- an item at another place -/
theorem item_move (l : List UInt8) (p q : Pos) : (itemS l q).2 = (itemS l p).2 ∧ ((itemS l p).2.2 = 0 → (itemS l q).1 = ⟨(itemS l p).1.kind, (itemS l p).1.int, (itemS l p).1.str, q⟩) := by
  cases l with
  | nil => exact ⟨rfl, fun h => by cases h⟩
  | cons c r =>
    cases hl : letterB c
    · cases hd : digitB c
      · rw [itemS_sym hl hd, itemS_sym hl hd]
        split
        · exact ⟨rfl, fun h => by cases h⟩
        · exact ⟨rfl, fun _ => rfl⟩
      · rw [itemS_num hd, itemS_num hd]
        split
        · exact ⟨rfl, fun _ => rfl⟩
        · rename_i h9
          exact ⟨rfl, fun h => absurd h h9⟩
    · have hd : digitB c = false := by
        cases h : digitB c
        · rfl
        · simp only [letterB, digitB, isLetter, isDigit, Bool.or_eq_true, decide_eq_true_eq] at hl h
          omega
      rw [itemS_word hl hd, itemS_word hl hd]
      split
      · exact ⟨rfl, fun _ => rfl⟩
      · split
        · exact ⟨rfl, fun _ => rfl⟩
        · exact ⟨rfl, fun h => by cases h⟩

/-- In Scan, called in world W: the scanner at b, the cells r of the result's place, the tokens so far. -/
structure LsFr (W : World) (b r : Nat) (wr : World) (s : ByteArray) (i : Nat) (p : Pos) (acc : List Tok) (vo : Value) : Prop where
  cur : SlAt wr b s i p
  own : wr.ownsRow 0 37 5 vo acc.length (cellsOf Tok.cells acc)
  ret : Blk wr r 32 #[.int .i64 0, .int .i64 0]
  below : Below W.heap.size W wr
  blo : W.heap.size ≤ b
  rlo : W.heap.size ≤ r
  olo : ∀ g, vo.ownBlock = some g → W.heap.size ≤ g
  br : b ≠ r

section
variable {W wr w' : World} {b r i j : Nat} {s : ByteArray} {p q : Pos} {acc : List Tok} {vo : Value}
theorem LsFr.cursor (h : LsFr W b r wr s i p acc vo) (hc : SlAt w' b s j q) (hO : Outside (fun k => k = b) wr w') : LsFr W b r w' s j q acc vo :=
  ⟨hc, own_out h.own hO (fun g hg e => own_apart h.own h.cur (by decide) (e ▸ hg)), h.ret.out hO (fun e => h.br e.symm),
    h.below.trans (hO.below h.below.size (fun k hk e => by have := h.blo; omega)), h.blo, h.rlo, h.olo, h.br⟩
theorem LsFr.under (h : LsFr W b r wr s i p acc vo) (hb : Below wr.heap.size wr w') : LsFr W b r w' s i p acc vo :=
  ⟨h.cur.below hb, own_out h.own (Below.new hb) (fun _ _ h => h), h.ret.below hb h.ret.lt, h.below.trans (hb.mono h.below.size), h.blo, h.rlo, h.olo, h.br⟩
theorem LsFr.alloc (h : LsFr W b r wr s i p acc vo) (o : Obj) : LsFr W b r (wr.alloc o) s i p acc vo := h.under ((Below.refl _ _).alloc (Nat.le_refl _) o)
theorem LsFr.push (h : LsFr W b r wr s i p acc vo) {vo' : Value} {t : Tok} (hg : wr.grownBy w' vo.ownBlock) (ho : w'.ownsRow 0 37 5 vo' (acc.length + 1) (cellsOf Tok.cells acc ++ t.cells))
    (hat : vo.ownBlock = vo'.ownBlock ∨ ∃ g, vo'.ownBlock = some g ∧ wr.heap.size ≤ g) : LsFr W b r w' s i p (acc ++ [t]) vo' := by
  have hO : Outside (fun k => vo.ownBlock = some k) wr w' := (Outside.refl _ _).grown hg (fun k hk => .inl hk)
  have hsz := h.below.size
  refine ⟨Blk.out h.cur hO (fun e => own_apart h.own h.cur (by decide) e), by simpa [cellsOf] using ho, h.ret.out hO (fun e => own_apart h.own h.ret (by decide) e),
    h.below.trans (hO.below hsz (fun k hk e => by have := h.olo k e; omega)), h.blo, h.rlo, fun g hg => ?_, h.br⟩
  rcases hat with h1 | ⟨g', h1, h2⟩
  · exact h.olo g (h1.trans hg)
  · rw [h1] at hg
    cases hg
    omega
theorem LsFr.putRet (h : LsFr W b r wr s i p acc vo) (p : Pos) : ((wr.setCell ⟨r, 0, none⟩ (.int .i64 p.line)).cell? ⟨r, 0, none⟩ = some (.int .i64 p.line)) ∧
    (((wr.setCell ⟨r, 0, none⟩ (.int .i64 p.line)).setCell ⟨r, 1, none⟩ (.int .i64 p.col)).cell? ⟨r, 0, none⟩ = some (.int .i64 p.line)) ∧
    (((wr.setCell ⟨r, 0, none⟩ (.int .i64 p.line)).setCell ⟨r, 1, none⟩ (.int .i64 p.col)).cell? ⟨r, 1, none⟩ = some (.int .i64 p.col)) ∧ Below W.heap.size W ((wr.setCell ⟨r, 0, none⟩ (.int .i64 p.line)).setCell ⟨r, 1, none⟩ (.int .i64 p.col)) ∧
    ((wr.setCell ⟨r, 0, none⟩ (.int .i64 p.line)).setCell ⟨r, 1, none⟩ (.int .i64 p.col)).ownsRow 0 37 5 vo acc.length (cellsOf Tok.cells acc) :=
  ⟨cell_put h.ret 0 (by simp) _, ((h.ret.put 0 _).put 1 _).cell 0, cell_put (h.ret.put 0 _) 1 (by simp) _, (h.below.setCell (p := ⟨r, 0, none⟩) h.rlo _).setCell (p := ⟨r, 1, none⟩) h.rlo _,
    own_setCell (own_setCell h.own (own_apart h.own h.ret (by decide)) _) (own_apart h.own h.ret (by decide)) _⟩
end

def Stop0 (p : Prop) : Prop := p
theorem Stop0.intro {p : Prop} (h : Stop0 p) : p := h
attribute [irreducible] Stop0
def LsRel (s : ByteArray) (w : World) (b r k : Nat) (vl : Value) (wr : World) : Prop :=
  ∃ i p acc vo n, LsFr w b r wr s i p acc vo ∧ vl = vo ∧ i ≤ s.size ∧ PosIn p i ∧ acc.length ≤ i ∧ scanF n (s.data.toList.drop i) p acc = scanS s.data.toList ∧ s.size - i < n ∧ k = s.size - i

set_option maxRecDepth 100000 in
theorem lscan_any (B : Nat) (s : ByteArray) (w : World) (hG : GlobE B w) (hs : s.size ≤ 1000000000000) : Calls Tryd.prog 17 #[.string s] w (ScPost s w) := by
  have HG := Lib.hid hG
  clear hG
  by_cases hbig : 65536 < s.size
  · have hbb : decide ((65536 : Int) < (s.size : Int)) = true := decide_eq_true (by omega)
    have HV : Hid (scanS s.data.toList = ([], ⟨0, 0⟩, 10)) := Lib.hid (by unfold scanS; rw [blen, if_pos hbig])
    have HB := Lib.hid ((Below.refl w.heap.size w).alloc (Nat.le_refl _) (.cells #[.int .i64 0, .int .i64 0] 32))
    clear hbig
    go_enter Tryd.func17, Tryd.ntmps17
    go_wp2_with (first | ((with_reducible show wpPlan _ _ _ [] _ _ _); refine wpPlan_nil ?_) | ((with_reducible show wpPlan _ _ _ ((_, 0, _) :: _) _ _ _); first | (refine wpPlan_read0 rfl ?hw rfl (fun _ _ _ => ?_); case hw => ((conv => (lhs; whnf)); first | done | with_reducible rfl)) | (refine wpPlan_skip0 rfl ?hw ?_; (case hw => ((conv => (lhs; whnf)); first | done | with_reducible rfl)); (try simp only [List.getElem_toArray, List.getElem_cons_succ, List.getElem_cons_zero, Act.put, List.setIfInBounds_toArray, List.set_cons_zero, List.set_cons_succ]))) | ((with_reducible show wpPlan _ _ _ ((_, 1, _) :: _) _ _ _); first | (refine wpPlan_read1d rfl ?hw rfl rfl (fun _ _ _ => ?_); case hw => ((conv => (lhs; whnf)); first | done | with_reducible rfl)) | (refine wpPlan_skip1d rfl ?hw ?_; (case hw => ((conv => (lhs; whnf)); first | done | with_reducible rfl)); (try simp only [List.getElem_toArray, List.getElem_cons_succ, List.getElem_cons_zero, Act.put, List.setIfInBounds_toArray, List.set_cons_zero, List.set_cons_succ])) | (refine wpPlan_read1 rfl ?hw rfl (fun _ _ _ => ?_); case hw => ((conv => (lhs; whnf)); first | done | with_reducible rfl))) | ((with_reducible show wpPlan _ _ _ ((_, 2, _) :: _) _ _ _); first | (refine wpPlan_eff rfl ?hw (fun _ _ => ?_); case hw => ((conv => (lhs; whnf)); first | done | with_reducible rfl)) | (refine wpPlan_skip2 rfl ?hw ?_; (case hw => ((conv => (lhs; whnf)); first | done | with_reducible rfl)); (try simp only [List.getElem_toArray, List.getElem_cons_succ, List.getElem_cons_zero, Act.put, List.setIfInBounds_toArray, List.set_cons_zero, List.set_cons_succ]))) | ((with_reducible show wpPlan _ _ _ _ _ _ _); refine wpPlan_fork ?_ ?_) | ((with_reducible show Owed _ _ _ [] _ _ _ _ _); refine Owed.none_ ?_) | ((with_reducible show Owed _ _ _ _ [] _ _ _ _); refine Owed.nil_ ?_) | ((with_reducible show Owed _ _ _ _ _ _ _ _ _); first | (refine Owed.miss rfl ?_) | (refine Owed.hit ?_ ?_)) | ((with_reducible show Same _ _ _ _ _); intro _; go_simp; done) | (with_reducible exact True.intro) | ((with_reducible show Code.wp _ (Code.region 7 _ true) _ _ _); refine wp_region_plan [(0, 1, []), (1, 0, []), (2, 2, []), (3, 0, [])] (by kernel_rfl) (by kernel_rfl) (by kernel_rfl) ?_) | ((with_reducible show Code.wp _ (Code.region 14 _ true) _ _ _); refine wp_region_plan [(0, 0, []), (1, 1, []), (2, 1, []), (3, 1, []), (4, 0, []), (5, 0, []), (6, 2, []), (7, 0, [])] (by kernel_rfl) (by kernel_rfl) (by kernel_rfl) ?_))
    refine bodyPost_ret (v := .tuple #[.slice none 0 0, .agg #[.int .i64 0, .int .i64 0], .int .i64 10]) (by simp [results, Tryd.results17, go_sem]) rfl ⟨⟨none, 0, 0, by rw [HV.out], Nat.le_refl _, by simp [maxLen], by rw [HV.out]; exact Rd.nil⟩, ?_⟩
    exact HB.out
  · have hbb : decide ((65536 : Int) < (s.size : Int)) = false := decide_eq_false (by omega)
    have hs6 : s.size ≤ 65536 := by omega
    have hrel : LsRel s w (w.heap.size + 1) w.heap.size s.size (.slice none 0 0) ((w.alloc (.cells #[.int .i64 0, .int .i64 0] 32)).alloc (.cells #[.string s, .int .i64 0, .int .i64 1, .int .i64 1] 57)) := by
      refine ⟨0, ⟨1, 1⟩, [], .slice none 0 0, _, ⟨?_, World.ownsRow_nil _ _ _ _, (Blk.new w _ _).alloc _, ((Below.refl w.heap.size w).alloc (Nat.le_refl _) _).alloc (by simp) _, by omega, Nat.le_refl _, fun g hg => (by cases hg), by omega⟩, rfl, Nat.zero_le _, ⟨by decide, by decide, by decide, by decide⟩, Nat.le_refl _, by unfold scanS; rw [blen, if_neg (by omega)]; rfl, by omega, rfl⟩
      have := Blk.new (w.alloc (.cells #[.int .i64 0, .int .i64 0] 32)) 57 #[.string s, .int .i64 0, .int .i64 1, .int .i64 1]
      simpa [SlAt] using this
    have HREL := Lib.hid hrel
    clear hrel hbig
    go_enter Tryd.func17, Tryd.ntmps17
    go_wp2_with (first | ((with_reducible show wpPlan _ _ _ [] _ _ _); refine wpPlan_nil ?_) | ((with_reducible show wpPlan _ _ _ ((_, 0, _) :: _) _ _ _); first | (refine wpPlan_read0 rfl ?hw rfl (fun _ _ _ => ?_); case hw => ((conv => (lhs; whnf)); first | done | with_reducible rfl)) | (refine wpPlan_skip0 rfl ?hw ?_; (case hw => ((conv => (lhs; whnf)); first | done | with_reducible rfl)); (try simp only [List.getElem_toArray, List.getElem_cons_succ, List.getElem_cons_zero, Act.put, List.setIfInBounds_toArray, List.set_cons_zero, List.set_cons_succ]))) | ((with_reducible show wpPlan _ _ _ ((_, 1, _) :: _) _ _ _); first | (refine wpPlan_read1d rfl ?hw rfl rfl (fun _ _ _ => ?_); case hw => ((conv => (lhs; whnf)); first | done | with_reducible rfl)) | (refine wpPlan_skip1d rfl ?hw ?_; (case hw => ((conv => (lhs; whnf)); first | done | with_reducible rfl)); (try simp only [List.getElem_toArray, List.getElem_cons_succ, List.getElem_cons_zero, Act.put, List.setIfInBounds_toArray, List.set_cons_zero, List.set_cons_succ])) | (refine wpPlan_read1 rfl ?hw rfl (fun _ _ _ => ?_); case hw => ((conv => (lhs; whnf)); first | done | with_reducible rfl))) | ((with_reducible show wpPlan _ _ _ ((_, 2, _) :: _) _ _ _); first | (refine wpPlan_eff rfl ?hw (fun _ _ => ?_); case hw => ((conv => (lhs; whnf)); first | done | with_reducible rfl)) | (refine wpPlan_skip2 rfl ?hw ?_; (case hw => ((conv => (lhs; whnf)); first | done | with_reducible rfl)); (try simp only [List.getElem_toArray, List.getElem_cons_succ, List.getElem_cons_zero, Act.put, List.setIfInBounds_toArray, List.set_cons_zero, List.set_cons_succ]))) | ((with_reducible show wpPlan _ _ _ _ _ _ _); refine wpPlan_fork ?_ ?_) | ((with_reducible show Owed _ _ _ [] _ _ _ _ _); refine Owed.none_ ?_) | ((with_reducible show Owed _ _ _ _ [] _ _ _ _); refine Owed.nil_ ?_) | ((with_reducible show Owed _ _ _ _ _ _ _ _ _); first | (refine Owed.miss rfl ?_) | (refine Owed.hit ?_ ?_)) | ((with_reducible show Same _ _ _ _ _); intro _; go_simp; done) | (with_reducible exact True.intro) | ((with_reducible show Code.wp _ (Code.region 7 _ true) _ _ _); refine wp_region_plan [(0, 1, []), (1, 0, []), (2, 2, []), (3, 0, [])] (by kernel_rfl) (by kernel_rfl) (by kernel_rfl) ?_) | ((with_reducible show Code.wp _ (Code.region 14 _ true) _ _ _); refine wp_region_plan [(0, 0, []), (1, 1, []), (2, 1, []), (3, 1, []), (4, 0, []), (5, 0, []), (6, 2, []), (7, 0, [])] (by kernel_rfl) (by kernel_rfl) (by kernel_rfl) ?_))
    go_loopg [6, 8, 10, 11] s.size (fun k vl _ _ _ wr => LsRel s w (w.heap.size + 1) w.heap.size k vl wr)
    case atStart => exact HREL.out
    case round =>
      clear HREL
      obtain ⟨i, p, acc, vo, n, hF, rfl, hi, hp, hacc, hsc, hn, hk⟩ := hrel
      obtain ⟨n, rfl⟩ : ∃ m, n = m + 1 := ⟨n - 1, by omega⟩
      obtain ⟨A, cap, rfl, hcap, hmax⟩ := own_form hF.own
      have HF := Lib.hid hF
      have HP := Lib.hid hp
      have HK := Lib.hid hk
      obtain ⟨ok, r1, p1, hsk⟩ : ∃ a b c, skipS (s.data.toList.drop i) p = (a, b, c) := ⟨_, _, _, rfl⟩
      have HSC : Hid (scanS s.data.toList = if ok = false then ([], p1, 2) else if r1 = [] then (acc, ⟨0, 0⟩, 0)
          else if (itemS r1 p1).2.2 ≠ 0 then ([], p1, (itemS r1 p1).2.2) else if acc.length = 16384 then ([], p1, 10)
          else scanF n (r1.drop (itemS r1 p1).2.1.toNat) (posAfter (r1.take (itemS r1 p1).2.1.toNat) p1) (acc ++ [(itemS r1 p1).1])) := Lib.hid (by rw [← hsc, scanF, hsk])
      have HSK := Lib.hid hsk
      clear hF hp hk hsc hsk
      go_wp2_with (first | ((with_reducible show wpPlan _ _ _ [] _ _ _); refine wpPlan_nil ?_) | ((with_reducible show wpPlan _ _ _ ((_, 0, _) :: _) _ _ _); first | (refine wpPlan_read0 rfl ?hw rfl (fun _ _ _ => ?_); case hw => ((conv => (lhs; whnf)); first | done | with_reducible rfl)) | (refine wpPlan_skip0 rfl ?hw ?_; (case hw => ((conv => (lhs; whnf)); first | done | with_reducible rfl)); (try simp only [List.getElem_toArray, List.getElem_cons_succ, List.getElem_cons_zero, Act.put, List.setIfInBounds_toArray, List.set_cons_zero, List.set_cons_succ]))) | ((with_reducible show wpPlan _ _ _ ((_, 1, _) :: _) _ _ _); first | (refine wpPlan_read1d rfl ?hw rfl rfl (fun _ _ _ => ?_); case hw => ((conv => (lhs; whnf)); first | done | with_reducible rfl)) | (refine wpPlan_skip1d rfl ?hw ?_; (case hw => ((conv => (lhs; whnf)); first | done | with_reducible rfl)); (try simp only [List.getElem_toArray, List.getElem_cons_succ, List.getElem_cons_zero, Act.put, List.setIfInBounds_toArray, List.set_cons_zero, List.set_cons_succ])) | (refine wpPlan_read1 rfl ?hw rfl (fun _ _ _ => ?_); case hw => ((conv => (lhs; whnf)); first | done | with_reducible rfl))) | ((with_reducible show wpPlan _ _ _ ((_, 2, _) :: _) _ _ _); first | (refine wpPlan_eff rfl ?hw (fun _ _ => ?_); case hw => ((conv => (lhs; whnf)); first | done | with_reducible rfl)) | (refine wpPlan_skip2 rfl ?hw ?_; (case hw => ((conv => (lhs; whnf)); first | done | with_reducible rfl)); (try simp only [List.getElem_toArray, List.getElem_cons_succ, List.getElem_cons_zero, Act.put, List.setIfInBounds_toArray, List.set_cons_zero, List.set_cons_succ]))) | ((with_reducible show wpPlan _ _ _ _ _ _ _); refine wpPlan_fork ?_ ?_) | ((with_reducible show Owed _ _ _ [] _ _ _ _ _); refine Owed.none_ ?_) | ((with_reducible show Owed _ _ _ _ [] _ _ _ _); refine Owed.nil_ ?_) | ((with_reducible show Owed _ _ _ _ _ _ _ _ _); first | (refine Owed.miss rfl ?_) | (refine Owed.hit ?_ ?_)) | ((with_reducible show Same _ _ _ _ _); intro _; go_simp; done) | (with_reducible exact True.intro) | ((with_reducible show Code.wp _ (Code.region 7 _ true) _ _ _); refine wp_region_plan [(0, 1, []), (1, 0, []), (2, 2, []), (3, 0, [])] (by kernel_rfl) (by kernel_rfl) (by kernel_rfl) ?_) | ((with_reducible show Code.wp _ (Code.region 14 _ true) _ _ _); refine wp_region_plan [(0, 0, []), (1, 1, []), (2, 1, []), (3, 1, []), (4, 0, []), (5, 0, []), (6, 2, []), (7, 0, [])] (by kernel_rfl) (by kernel_rfl) (by kernel_rfl) ?_))
      refine (lblank_any _ s i p _ HF.out.cur hi hs HP.out).mono ?_
      unfold LbPost
      rw [HSK.out]
      rintro e w1 ⟨j, q, hc1, hij, hj, hq, hdr, hqe, hO1, rfl⟩
      dsimp only at hdr hqe
      subst hqe
      have F1 := Lib.hid (HF.out.cursor hc1 hO1)
      have HQ := Lib.hid hq
      have HDR := Lib.hid hdr
      clear hc1 hO1 hq hdr
      cases ok
      · have hv : scanS s.data.toList = ([], q, 2) := by rw [HSC.out]; simp
        have HV := Lib.hid hv
        clear hv
        have F1a := Lib.hid (F1.out.alloc (.cells #[.int .i64 q.line, .int .i64 q.col] 32))
        have hC1 := F1.out.cur.cell
        have hCl1 := F1.out.cur.lt
        have hr1 := F1.out.ret.cell
        have hrf1 := F1.out.ret.frozen
        have hrl1 := F1.out.ret.lt
        dsimp only [Pos.v]
        go_wp2_with (first | ((with_reducible show wpPlan _ _ _ [] _ _ _); refine wpPlan_nil ?_) | ((with_reducible show wpPlan _ _ _ ((_, 0, _) :: _) _ _ _); first | (refine wpPlan_read0 rfl ?hw rfl (fun _ _ _ => ?_); case hw => ((conv => (lhs; whnf)); first | done | with_reducible rfl)) | (refine wpPlan_skip0 rfl ?hw ?_; (case hw => ((conv => (lhs; whnf)); first | done | with_reducible rfl)); (try simp only [List.getElem_toArray, List.getElem_cons_succ, List.getElem_cons_zero, Act.put, List.setIfInBounds_toArray, List.set_cons_zero, List.set_cons_succ]))) | ((with_reducible show wpPlan _ _ _ ((_, 1, _) :: _) _ _ _); first | (refine wpPlan_read1d rfl ?hw rfl rfl (fun _ _ _ => ?_); case hw => ((conv => (lhs; whnf)); first | done | with_reducible rfl)) | (refine wpPlan_skip1d rfl ?hw ?_; (case hw => ((conv => (lhs; whnf)); first | done | with_reducible rfl)); (try simp only [List.getElem_toArray, List.getElem_cons_succ, List.getElem_cons_zero, Act.put, List.setIfInBounds_toArray, List.set_cons_zero, List.set_cons_succ])) | (refine wpPlan_read1 rfl ?hw rfl (fun _ _ _ => ?_); case hw => ((conv => (lhs; whnf)); first | done | with_reducible rfl))) | ((with_reducible show wpPlan _ _ _ ((_, 2, _) :: _) _ _ _); first | (refine wpPlan_eff rfl ?hw (fun _ _ => ?_); case hw => ((conv => (lhs; whnf)); first | done | with_reducible rfl)) | (refine wpPlan_skip2 rfl ?hw ?_; (case hw => ((conv => (lhs; whnf)); first | done | with_reducible rfl)); (try simp only [List.getElem_toArray, List.getElem_cons_succ, List.getElem_cons_zero, Act.put, List.setIfInBounds_toArray, List.set_cons_zero, List.set_cons_succ]))) | ((with_reducible show wpPlan _ _ _ _ _ _ _); refine wpPlan_fork ?_ ?_) | ((with_reducible show Owed _ _ _ [] _ _ _ _ _); refine Owed.none_ ?_) | ((with_reducible show Owed _ _ _ _ [] _ _ _ _); refine Owed.nil_ ?_) | ((with_reducible show Owed _ _ _ _ _ _ _ _ _); first | (refine Owed.miss rfl ?_) | (refine Owed.hit ?_ ?_)) | ((with_reducible show Same _ _ _ _ _); intro _; go_simp; done) | (with_reducible exact True.intro) | ((with_reducible show Code.wp _ (Code.region 7 _ true) _ _ _); refine wp_region_plan [(0, 1, []), (1, 0, []), (2, 2, []), (3, 0, [])] (by kernel_rfl) (by kernel_rfl) (by kernel_rfl) ?_) | ((with_reducible show Code.wp _ (Code.region 14 _ true) _ _ _); refine wp_region_plan [(0, 0, []), (1, 1, []), (2, 1, []), (3, 1, []), (4, 0, []), (5, 0, []), (6, 2, []), (7, 0, [])] (by kernel_rfl) (by kernel_rfl) (by kernel_rfl) ?_))
        have hz := ((F1.out.ret.put 0 (.int .i64 q.line)).put 1 (.int .i64 q.col)).alloc (.cells #[.int .i64 q.line, .int .i64 q.col] 32)
        have z0 : (((w1.setCell ⟨w.heap.size, 0, none⟩ (.int .i64 q.line)).setCell ⟨w.heap.size, 1, none⟩ (.int .i64 q.col)).alloc (.cells #[.int .i64 q.line, .int .i64 q.col] 32)).cell? ⟨w.heap.size, 0, none⟩ = some (.int .i64 q.line) := hz.cell 0
        have z1 : (((w1.setCell ⟨w.heap.size, 0, none⟩ (.int .i64 q.line)).setCell ⟨w.heap.size, 1, none⟩ (.int .i64 q.col)).alloc (.cells #[.int .i64 q.line, .int .i64 q.col] 32)).cell? ⟨w.heap.size, 1, none⟩ = some (.int .i64 q.col) := hz.cell 1
        obtain ⟨_, _, _, qb, _⟩ := F1.out.putRet q
        exact bodyPost_ret (v := .tuple #[.slice none 0 0, q.v, .int .i64 2]) (by simp [results, Tryd.results17, go_sem, z0, z1]) rfl ⟨⟨none, 0, 0, by rw [HV.out], Nat.le_refl _, by simp [maxLen], by rw [HV.out]; exact Rd.nil⟩, (qb.alloc qb.size _).drew⟩
      · have F1a := Lib.hid (F1.out.alloc (.cells #[.int .i64 0, .int .i64 0] 32))
        have hC1 := F1.out.cur.cell
        have hCl1 := F1.out.cur.lt
        by_cases hje : j = s.size
        · have hjb : ((j : Int) == (s.size : Int)) = true := by rw [beq_iff_eq]; omega
          have hnil : r1 = [] := by rw [← HDR.out, List.drop_of_length_le (by rw [blen]; omega)]
          have hv : scanS s.data.toList = (acc, ⟨0, 0⟩, 0) := by rw [HSC.out, if_neg (by simp), if_pos hnil]
          have HV := Lib.hid hv
          have hr1 := F1.out.ret.cell
          have hrf1 := F1.out.ret.frozen
          have hrl1 := F1.out.ret.lt
          clear hv hnil hje
          dsimp only [Pos.v]
          go_wp2_with (first | ((with_reducible show wpPlan _ _ _ [] _ _ _); refine wpPlan_nil ?_) | ((with_reducible show wpPlan _ _ _ ((_, 0, _) :: _) _ _ _); first | (refine wpPlan_read0 rfl ?hw rfl (fun _ _ _ => ?_); case hw => ((conv => (lhs; whnf)); first | done | with_reducible rfl)) | (refine wpPlan_skip0 rfl ?hw ?_; (case hw => ((conv => (lhs; whnf)); first | done | with_reducible rfl)); (try simp only [List.getElem_toArray, List.getElem_cons_succ, List.getElem_cons_zero, Act.put, List.setIfInBounds_toArray, List.set_cons_zero, List.set_cons_succ]))) | ((with_reducible show wpPlan _ _ _ ((_, 1, _) :: _) _ _ _); first | (refine wpPlan_read1d rfl ?hw rfl rfl (fun _ _ _ => ?_); case hw => ((conv => (lhs; whnf)); first | done | with_reducible rfl)) | (refine wpPlan_skip1d rfl ?hw ?_; (case hw => ((conv => (lhs; whnf)); first | done | with_reducible rfl)); (try simp only [List.getElem_toArray, List.getElem_cons_succ, List.getElem_cons_zero, Act.put, List.setIfInBounds_toArray, List.set_cons_zero, List.set_cons_succ])) | (refine wpPlan_read1 rfl ?hw rfl (fun _ _ _ => ?_); case hw => ((conv => (lhs; whnf)); first | done | with_reducible rfl))) | ((with_reducible show wpPlan _ _ _ ((_, 2, _) :: _) _ _ _); first | (refine wpPlan_eff rfl ?hw (fun _ _ => ?_); case hw => ((conv => (lhs; whnf)); first | done | with_reducible rfl)) | (refine wpPlan_skip2 rfl ?hw ?_; (case hw => ((conv => (lhs; whnf)); first | done | with_reducible rfl)); (try simp only [List.getElem_toArray, List.getElem_cons_succ, List.getElem_cons_zero, Act.put, List.setIfInBounds_toArray, List.set_cons_zero, List.set_cons_succ]))) | ((with_reducible show wpPlan _ _ _ _ _ _ _); refine wpPlan_fork ?_ ?_) | ((with_reducible show Owed _ _ _ [] _ _ _ _ _); refine Owed.none_ ?_) | ((with_reducible show Owed _ _ _ _ [] _ _ _ _); refine Owed.nil_ ?_) | ((with_reducible show Owed _ _ _ _ _ _ _ _ _); first | (refine Owed.miss rfl ?_) | (refine Owed.hit ?_ ?_)) | ((with_reducible show Same _ _ _ _ _); intro _; go_simp; done) | (with_reducible exact True.intro) | ((with_reducible show Code.wp _ (Code.region 7 _ true) _ _ _); refine wp_region_plan [(0, 1, []), (1, 0, []), (2, 2, []), (3, 0, [])] (by kernel_rfl) (by kernel_rfl) (by kernel_rfl) ?_) | ((with_reducible show Code.wp _ (Code.region 14 _ true) _ _ _); refine wp_region_plan [(0, 0, []), (1, 1, []), (2, 1, []), (3, 1, []), (4, 0, []), (5, 0, []), (6, 2, []), (7, 0, [])] (by kernel_rfl) (by kernel_rfl) (by kernel_rfl) ?_))
          refine (lclip_any A acc.length cap _ hcap hmax).mono ?_
          rintro e w2 ⟨rfl, rfl⟩
          go_wp2_with (first | ((with_reducible show wpPlan _ _ _ [] _ _ _); refine wpPlan_nil ?_) | ((with_reducible show wpPlan _ _ _ ((_, 0, _) :: _) _ _ _); first | (refine wpPlan_read0 rfl ?hw rfl (fun _ _ _ => ?_); case hw => ((conv => (lhs; whnf)); first | done | with_reducible rfl)) | (refine wpPlan_skip0 rfl ?hw ?_; (case hw => ((conv => (lhs; whnf)); first | done | with_reducible rfl)); (try simp only [List.getElem_toArray, List.getElem_cons_succ, List.getElem_cons_zero, Act.put, List.setIfInBounds_toArray, List.set_cons_zero, List.set_cons_succ]))) | ((with_reducible show wpPlan _ _ _ ((_, 1, _) :: _) _ _ _); first | (refine wpPlan_read1d rfl ?hw rfl rfl (fun _ _ _ => ?_); case hw => ((conv => (lhs; whnf)); first | done | with_reducible rfl)) | (refine wpPlan_skip1d rfl ?hw ?_; (case hw => ((conv => (lhs; whnf)); first | done | with_reducible rfl)); (try simp only [List.getElem_toArray, List.getElem_cons_succ, List.getElem_cons_zero, Act.put, List.setIfInBounds_toArray, List.set_cons_zero, List.set_cons_succ])) | (refine wpPlan_read1 rfl ?hw rfl (fun _ _ _ => ?_); case hw => ((conv => (lhs; whnf)); first | done | with_reducible rfl))) | ((with_reducible show wpPlan _ _ _ ((_, 2, _) :: _) _ _ _); first | (refine wpPlan_eff rfl ?hw (fun _ _ => ?_); case hw => ((conv => (lhs; whnf)); first | done | with_reducible rfl)) | (refine wpPlan_skip2 rfl ?hw ?_; (case hw => ((conv => (lhs; whnf)); first | done | with_reducible rfl)); (try simp only [List.getElem_toArray, List.getElem_cons_succ, List.getElem_cons_zero, Act.put, List.setIfInBounds_toArray, List.set_cons_zero, List.set_cons_succ]))) | ((with_reducible show wpPlan _ _ _ _ _ _ _); refine wpPlan_fork ?_ ?_) | ((with_reducible show Owed _ _ _ [] _ _ _ _ _); refine Owed.none_ ?_) | ((with_reducible show Owed _ _ _ _ [] _ _ _ _); refine Owed.nil_ ?_) | ((with_reducible show Owed _ _ _ _ _ _ _ _ _); first | (refine Owed.miss rfl ?_) | (refine Owed.hit ?_ ?_)) | ((with_reducible show Same _ _ _ _ _); intro _; go_simp; done) | (with_reducible exact True.intro) | ((with_reducible show Code.wp _ (Code.region 7 _ true) _ _ _); refine wp_region_plan [(0, 1, []), (1, 0, []), (2, 2, []), (3, 0, [])] (by kernel_rfl) (by kernel_rfl) (by kernel_rfl) ?_) | ((with_reducible show Code.wp _ (Code.region 14 _ true) _ _ _); refine wp_region_plan [(0, 0, []), (1, 1, []), (2, 1, []), (3, 1, []), (4, 0, []), (5, 0, []), (6, 2, []), (7, 0, [])] (by kernel_rfl) (by kernel_rfl) (by kernel_rfl) ?_))
          have hz := ((F1.out.ret.put 0 (.int .i64 0)).put 1 (.int .i64 0)).alloc (.cells #[.int .i64 0, .int .i64 0] 32)
          have z0 : (((w1.setCell ⟨w.heap.size, 0, none⟩ (.int .i64 0)).setCell ⟨w.heap.size, 1, none⟩ (.int .i64 0)).alloc (.cells #[.int .i64 0, .int .i64 0] 32)).cell? ⟨w.heap.size, 0, none⟩ = some (.int .i64 0) := hz.cell 0
          have z1 : (((w1.setCell ⟨w.heap.size, 0, none⟩ (.int .i64 0)).setCell ⟨w.heap.size, 1, none⟩ (.int .i64 0)).alloc (.cells #[.int .i64 0, .int .i64 0] 32)).cell? ⟨w.heap.size, 1, none⟩ = some (.int .i64 0) := hz.cell 1
          obtain ⟨_, _, _, qb, qo⟩ := F1.out.putRet ⟨0, 0⟩
          exact bodyPost_ret (v := .tuple #[.slice A acc.length acc.length, .agg #[.int .i64 0, .int .i64 0], .int .i64 0]) (by simp [results, Tryd.results17, go_sem, z0, z1]) rfl ⟨⟨A, acc.length, acc.length, by rw [HV.out], Nat.le_refl _, Nat.le_trans hcap hmax, by rw [HV.out]; exact ((Rd.ofOwn qo).alloc (Nat.le_refl _) _).more (by simp)⟩, qb.alloc qb.size _⟩
        · have hjb : ((j : Int) == (s.size : Int)) = false := by rw [beq_eq_false_iff_ne]; omega
          have hne : r1 ≠ [] := by rw [← HDR.out, drop_byte s j (by omega)]; simp
          obtain ⟨rr, hrr⟩ : ∃ x, s.extract j s.size = x := ⟨_, rfl⟩
          have hrl : rr.data.toList = r1 := by rw [← hrr, ext_list s j]; exact HDR.out
          have h0r : 0 < rr.size := by rw [← hrr, ByteArray.size_extract]; omega
          have hrs : rr.size ≤ 1000000000000 := by rw [← hrr, ByteArray.size_extract]; omega
          have HRR := Lib.hid hrr
          have HRL := Lib.hid hrl
          clear hrr hrl
          dsimp only [Pos.v]
          go_wp2_with (first | ((with_reducible show wpPlan _ _ _ [] _ _ _); refine wpPlan_nil ?_) | ((with_reducible show wpPlan _ _ _ ((_, 0, _) :: _) _ _ _); first | (refine wpPlan_read0 rfl ?hw rfl (fun _ _ _ => ?_); case hw => ((conv => (lhs; whnf)); first | done | with_reducible rfl)) | (refine wpPlan_skip0 rfl ?hw ?_; (case hw => ((conv => (lhs; whnf)); first | done | with_reducible rfl)); (try simp only [List.getElem_toArray, List.getElem_cons_succ, List.getElem_cons_zero, Act.put, List.setIfInBounds_toArray, List.set_cons_zero, List.set_cons_succ]))) | ((with_reducible show wpPlan _ _ _ ((_, 1, _) :: _) _ _ _); first | (refine wpPlan_read1d rfl ?hw rfl rfl (fun _ _ _ => ?_); case hw => ((conv => (lhs; whnf)); first | done | with_reducible rfl)) | (refine wpPlan_skip1d rfl ?hw ?_; (case hw => ((conv => (lhs; whnf)); first | done | with_reducible rfl)); (try simp only [List.getElem_toArray, List.getElem_cons_succ, List.getElem_cons_zero, Act.put, List.setIfInBounds_toArray, List.set_cons_zero, List.set_cons_succ])) | (refine wpPlan_read1 rfl ?hw rfl (fun _ _ _ => ?_); case hw => ((conv => (lhs; whnf)); first | done | with_reducible rfl))) | ((with_reducible show wpPlan _ _ _ ((_, 2, _) :: _) _ _ _); first | (refine wpPlan_eff rfl ?hw (fun _ _ => ?_); case hw => ((conv => (lhs; whnf)); first | done | with_reducible rfl)) | (refine wpPlan_skip2 rfl ?hw ?_; (case hw => ((conv => (lhs; whnf)); first | done | with_reducible rfl)); (try simp only [List.getElem_toArray, List.getElem_cons_succ, List.getElem_cons_zero, Act.put, List.setIfInBounds_toArray, List.set_cons_zero, List.set_cons_succ]))) | ((with_reducible show wpPlan _ _ _ _ _ _ _); refine wpPlan_fork ?_ ?_) | ((with_reducible show Owed _ _ _ [] _ _ _ _ _); refine Owed.none_ ?_) | ((with_reducible show Owed _ _ _ _ [] _ _ _ _); refine Owed.nil_ ?_) | ((with_reducible show Owed _ _ _ _ _ _ _ _ _); first | (refine Owed.miss rfl ?_) | (refine Owed.hit ?_ ?_)) | ((with_reducible show Same _ _ _ _ _); intro _; go_simp; done) | (with_reducible exact True.intro) | ((with_reducible show Code.wp _ (Code.region 7 _ true) _ _ _); refine wp_region_plan [(0, 1, []), (1, 0, []), (2, 2, []), (3, 0, [])] (by kernel_rfl) (by kernel_rfl) (by kernel_rfl) ?_) | ((with_reducible show Code.wp _ (Code.region 14 _ true) _ _ _); refine wp_region_plan [(0, 0, []), (1, 1, []), (2, 1, []), (3, 1, []), (4, 0, []), (5, 0, []), (6, 2, []), (7, 0, [])] (by kernel_rfl) (by kernel_rfl) (by kernel_rfl) ?_))
          refine (lrest_any _ s j q _ F1a.out.cur (by omega) hs).mono ?_
          rw [HRR.out]
          rintro e w2 ⟨rfl, rfl⟩
          have F1b := Lib.hid (F1a.out.under ((Below.refl _ _).drew))
          go_wp2_with (first | ((with_reducible show wpPlan _ _ _ [] _ _ _); refine wpPlan_nil ?_) | ((with_reducible show wpPlan _ _ _ ((_, 0, _) :: _) _ _ _); first | (refine wpPlan_read0 rfl ?hw rfl (fun _ _ _ => ?_); case hw => ((conv => (lhs; whnf)); first | done | with_reducible rfl)) | (refine wpPlan_skip0 rfl ?hw ?_; (case hw => ((conv => (lhs; whnf)); first | done | with_reducible rfl)); (try simp only [List.getElem_toArray, List.getElem_cons_succ, List.getElem_cons_zero, Act.put, List.setIfInBounds_toArray, List.set_cons_zero, List.set_cons_succ]))) | ((with_reducible show wpPlan _ _ _ ((_, 1, _) :: _) _ _ _); first | (refine wpPlan_read1d rfl ?hw rfl rfl (fun _ _ _ => ?_); case hw => ((conv => (lhs; whnf)); first | done | with_reducible rfl)) | (refine wpPlan_skip1d rfl ?hw ?_; (case hw => ((conv => (lhs; whnf)); first | done | with_reducible rfl)); (try simp only [List.getElem_toArray, List.getElem_cons_succ, List.getElem_cons_zero, Act.put, List.setIfInBounds_toArray, List.set_cons_zero, List.set_cons_succ])) | (refine wpPlan_read1 rfl ?hw rfl (fun _ _ _ => ?_); case hw => ((conv => (lhs; whnf)); first | done | with_reducible rfl))) | ((with_reducible show wpPlan _ _ _ ((_, 2, _) :: _) _ _ _); first | (refine wpPlan_eff rfl ?hw (fun _ _ => ?_); case hw => ((conv => (lhs; whnf)); first | done | with_reducible rfl)) | (refine wpPlan_skip2 rfl ?hw ?_; (case hw => ((conv => (lhs; whnf)); first | done | with_reducible rfl)); (try simp only [List.getElem_toArray, List.getElem_cons_succ, List.getElem_cons_zero, Act.put, List.setIfInBounds_toArray, List.set_cons_zero, List.set_cons_succ]))) | ((with_reducible show wpPlan _ _ _ _ _ _ _); refine wpPlan_fork ?_ ?_) | ((with_reducible show Owed _ _ _ [] _ _ _ _ _); refine Owed.none_ ?_) | ((with_reducible show Owed _ _ _ _ [] _ _ _ _); refine Owed.nil_ ?_) | ((with_reducible show Owed _ _ _ _ _ _ _ _ _); first | (refine Owed.miss rfl ?_) | (refine Owed.hit ?_ ?_)) | ((with_reducible show Same _ _ _ _ _); intro _; go_simp; done) | (with_reducible exact True.intro) | ((with_reducible show Code.wp _ (Code.region 7 _ true) _ _ _); refine wp_region_plan [(0, 1, []), (1, 0, []), (2, 2, []), (3, 0, [])] (by kernel_rfl) (by kernel_rfl) (by kernel_rfl) ?_) | ((with_reducible show Code.wp _ (Code.region 14 _ true) _ _ _); refine wp_region_plan [(0, 0, []), (1, 1, []), (2, 1, []), (3, 1, []), (4, 0, []), (5, 0, []), (6, 2, []), (7, 0, [])] (by kernel_rfl) (by kernel_rfl) (by kernel_rfl) ?_))
          refine (litem_any B rr _ (HG.out.below (F1b.out.below.mono HG.out.g.size)) h0r hrs).mono ?_
          unfold LiPost
          rw [HRL.out]
          obtain ⟨⟨kk, ki, ks, kl, kc⟩, ln, er, hit⟩ : ∃ a b c, itemS r1 ⟨0, 0⟩ = (a, b, c) := ⟨_, _, _, rfl⟩
          have hmv := item_move r1 ⟨0, 0⟩ q
          have hil := itemS_len r1 ⟨0, 0⟩ hne
          rw [hit] at hil hmv ⊢
          have HSC2 : Hid (scanS s.data.toList = if er ≠ 0 then ([], q, er) else if acc.length = 16384 then ([], q, 10) else scanF n (r1.drop ln.toNat) (posAfter (r1.take ln.toNat) q) (acc ++ [⟨kk, ki, ks, q⟩])) := Lib.hid (by
            rw [HSC.out, if_neg (by simp), if_neg hne, hmv.1]
            by_cases h9 : er = 0
            · rw [hmv.2 h9]
            · rw [if_pos h9, if_pos h9])
          have HIL := Lib.hid hil
          have HLR : Hid (r1.length = s.size - j) := Lib.hid (by rw [← HDR.out, List.length_drop, blen])
          clear hit hil hne hmv
          rintro e w3 ⟨hr, hb3⟩
          have F2 := Lib.hid (F1b.out.under hb3)
          clear hb3 hC1 hCl1 hjb
          dsimp only at hr
          rcases hr with ⟨h0, rfl⟩ | ⟨h0, ⟨tk, ti, ts, tl, tc⟩, tn, rfl⟩
          · subst h0
            obtain ⟨hl1, hl2⟩ := HIL.out rfl
            have hlr := HLR.out
            (try dsimp only at hl1 hl2)
            obtain ⟨m, rfl⟩ := Int.eq_ofNat_of_zero_le (show 0 ≤ ln by omega)
            have F3 := Lib.hid (F2.out.alloc (.cells #[.int .i64 kk, .int .i64 ki, .string ks, .int .i64 kl, .int .i64 kc] 37))
            have hC3 := F2.out.cur.cell
            have hCl3 := F2.out.cur.lt
            by_cases hfu : acc.length = 16384
            · have hfb : ((acc.length : Int) == 16384) = true := by rw [beq_iff_eq]; omega
              have HFU := Lib.hid hfu
              clear hfu
              have hv : scanS s.data.toList = ([], q, 10) := by rw [HSC2.out, if_neg (fun h => h rfl), if_pos HFU.out]
              have HV := Lib.hid hv
              clear hv
              have hr3 := F2.out.ret.cell
              have hrf3 := F2.out.ret.frozen
              have hrl3 := F2.out.ret.lt
              dsimp only [Pos.v]
              go_wp2_with (first | ((with_reducible show wpPlan _ _ _ [] _ _ _); refine wpPlan_nil ?_) | ((with_reducible show wpPlan _ _ _ ((_, 0, _) :: _) _ _ _); first | (refine wpPlan_read0 rfl ?hw rfl (fun _ _ _ => ?_); case hw => ((conv => (lhs; whnf)); first | done | with_reducible rfl)) | (refine wpPlan_skip0 rfl ?hw ?_; (case hw => ((conv => (lhs; whnf)); first | done | with_reducible rfl)); (try simp only [List.getElem_toArray, List.getElem_cons_succ, List.getElem_cons_zero, Act.put, List.setIfInBounds_toArray, List.set_cons_zero, List.set_cons_succ]))) | ((with_reducible show wpPlan _ _ _ ((_, 1, _) :: _) _ _ _); first | (refine wpPlan_read1d rfl ?hw rfl rfl (fun _ _ _ => ?_); case hw => ((conv => (lhs; whnf)); first | done | with_reducible rfl)) | (refine wpPlan_skip1d rfl ?hw ?_; (case hw => ((conv => (lhs; whnf)); first | done | with_reducible rfl)); (try simp only [List.getElem_toArray, List.getElem_cons_succ, List.getElem_cons_zero, Act.put, List.setIfInBounds_toArray, List.set_cons_zero, List.set_cons_succ])) | (refine wpPlan_read1 rfl ?hw rfl (fun _ _ _ => ?_); case hw => ((conv => (lhs; whnf)); first | done | with_reducible rfl))) | ((with_reducible show wpPlan _ _ _ ((_, 2, _) :: _) _ _ _); first | (refine wpPlan_eff rfl ?hw (fun _ _ => ?_); case hw => ((conv => (lhs; whnf)); first | done | with_reducible rfl)) | (refine wpPlan_skip2 rfl ?hw ?_; (case hw => ((conv => (lhs; whnf)); first | done | with_reducible rfl)); (try simp only [List.getElem_toArray, List.getElem_cons_succ, List.getElem_cons_zero, Act.put, List.setIfInBounds_toArray, List.set_cons_zero, List.set_cons_succ]))) | ((with_reducible show wpPlan _ _ _ _ _ _ _); refine wpPlan_fork ?_ ?_) | ((with_reducible show Owed _ _ _ [] _ _ _ _ _); refine Owed.none_ ?_) | ((with_reducible show Owed _ _ _ _ [] _ _ _ _); refine Owed.nil_ ?_) | ((with_reducible show Owed _ _ _ _ _ _ _ _ _); first | (refine Owed.miss rfl ?_) | (refine Owed.hit ?_ ?_)) | ((with_reducible show Same _ _ _ _ _); intro _; go_simp; done) | (with_reducible exact True.intro) | ((with_reducible show Code.wp _ (Code.region 7 _ true) _ _ _); refine wp_region_plan [(0, 1, []), (1, 0, []), (2, 2, []), (3, 0, [])] (by kernel_rfl) (by kernel_rfl) (by kernel_rfl) ?_) | ((with_reducible show Code.wp _ (Code.region 14 _ true) _ _ _); refine wp_region_plan [(0, 0, []), (1, 1, []), (2, 1, []), (3, 1, []), (4, 0, []), (5, 0, []), (6, 2, []), (7, 0, [])] (by kernel_rfl) (by kernel_rfl) (by kernel_rfl) ?_))
              have hz := ((F2.out.ret.put 0 (.int .i64 q.line)).put 1 (.int .i64 q.col)).alloc (.cells #[.int .i64 kk, .int .i64 ki, .string ks, .int .i64 kl, .int .i64 kc] 37)
              have z0 : (((w3.setCell ⟨w.heap.size, 0, none⟩ (.int .i64 q.line)).setCell ⟨w.heap.size, 1, none⟩ (.int .i64 q.col)).alloc (.cells #[.int .i64 kk, .int .i64 ki, .string ks, .int .i64 kl, .int .i64 kc] 37)).cell? ⟨w.heap.size, 0, none⟩ = some (.int .i64 q.line) := hz.cell 0
              have z1 : (((w3.setCell ⟨w.heap.size, 0, none⟩ (.int .i64 q.line)).setCell ⟨w.heap.size, 1, none⟩ (.int .i64 q.col)).alloc (.cells #[.int .i64 kk, .int .i64 ki, .string ks, .int .i64 kl, .int .i64 kc] 37)).cell? ⟨w.heap.size, 1, none⟩ = some (.int .i64 q.col) := hz.cell 1
              obtain ⟨_, _, _, qb, _⟩ := F2.out.putRet q
              exact bodyPost_ret (v := .tuple #[.slice none 0 0, q.v, .int .i64 10]) (by simp [results, Tryd.results17, go_sem, z0, z1]) rfl ⟨⟨none, 0, 0, by rw [HV.out], Nat.le_refl _, by simp [maxLen], by rw [HV.out]; exact Rd.nil⟩, (qb.alloc qb.size _).drew⟩
            · have hfb : ((acc.length : Int) == 16384) = false := by rw [beq_eq_false_iff_ne]; omega
              have HSC3 : Hid (scanS s.data.toList = scanF n (r1.drop (m : Int).toNat) (posAfter (r1.take (m : Int).toNat) q) (acc ++ [⟨kk, ki, ks, q⟩])) := Lib.hid (by rw [HSC2.out, if_neg (fun h => h rfl), if_neg hfu])
              clear hfu
              dsimp only [Pos.v]
              have F3q := Lib.hid (F2.out.alloc (.cells #[.int .i64 kk, .int .i64 ki, .string ks, .int .i64 q.line, .int .i64 q.col] 37))
              go_wp2_with (first | (at_builtin; refine Stop0.intro ?_) | ((with_reducible show wpPlan _ _ _ [] _ _ _); refine wpPlan_nil ?_) | ((with_reducible show wpPlan _ _ _ ((_, 0, _) :: _) _ _ _); first | (refine wpPlan_read0 rfl ?hw rfl (fun _ _ _ => ?_); case hw => ((conv => (lhs; whnf)); first | done | with_reducible rfl)) | (refine wpPlan_skip0 rfl ?hw ?_; (case hw => ((conv => (lhs; whnf)); first | done | with_reducible rfl)); (try simp only [List.getElem_toArray, List.getElem_cons_succ, List.getElem_cons_zero, Act.put, List.setIfInBounds_toArray, List.set_cons_zero, List.set_cons_succ]))) | ((with_reducible show wpPlan _ _ _ ((_, 1, _) :: _) _ _ _); first | (refine wpPlan_read1d rfl ?hw rfl rfl (fun _ _ _ => ?_); case hw => ((conv => (lhs; whnf)); first | done | with_reducible rfl)) | (refine wpPlan_skip1d rfl ?hw ?_; (case hw => ((conv => (lhs; whnf)); first | done | with_reducible rfl)); (try simp only [List.getElem_toArray, List.getElem_cons_succ, List.getElem_cons_zero, Act.put, List.setIfInBounds_toArray, List.set_cons_zero, List.set_cons_succ])) | (refine wpPlan_read1 rfl ?hw rfl (fun _ _ _ => ?_); case hw => ((conv => (lhs; whnf)); first | done | with_reducible rfl))) | ((with_reducible show wpPlan _ _ _ ((_, 2, _) :: _) _ _ _); first | (refine wpPlan_eff rfl ?hw (fun _ _ => ?_); case hw => ((conv => (lhs; whnf)); first | done | with_reducible rfl)) | (refine wpPlan_skip2 rfl ?hw ?_; (case hw => ((conv => (lhs; whnf)); first | done | with_reducible rfl)); (try simp only [List.getElem_toArray, List.getElem_cons_succ, List.getElem_cons_zero, Act.put, List.setIfInBounds_toArray, List.set_cons_zero, List.set_cons_succ]))) | ((with_reducible show wpPlan _ _ _ _ _ _ _); refine wpPlan_fork ?_ ?_) | ((with_reducible show Owed _ _ _ [] _ _ _ _ _); refine Owed.none_ ?_) | ((with_reducible show Owed _ _ _ _ [] _ _ _ _); refine Owed.nil_ ?_) | ((with_reducible show Owed _ _ _ _ _ _ _ _ _); first | (refine Owed.miss rfl ?_) | (refine Owed.hit ?_ ?_)) | ((with_reducible show Same _ _ _ _ _); intro _; go_simp; done) | (with_reducible exact True.intro) | ((with_reducible show Code.wp _ (Code.region 7 _ true) _ _ _); refine wp_region_plan [(0, 1, []), (1, 0, []), (2, 2, []), (3, 0, [])] (by kernel_rfl) (by kernel_rfl) (by kernel_rfl) ?_) | ((with_reducible show Code.wp _ (Code.region 14 _ true) _ _ _); refine wp_region_plan [(0, 0, []), (1, 1, []), (2, 1, []), (3, 1, []), (4, 0, []), (5, 0, []), (6, 2, []), (7, 0, [])] (by kernel_rfl) (by kernel_rfl) (by kernel_rfl) ?_))
              unfold Stop0
              refine appList_blk rfl slTok rfl (F3q.out.alloc _).own rfl (news := (Tok.cells ⟨kk, ki, ks, q⟩)) ((heap_alloc_at (by simp)) : Blk _ (w3.heap.size + 1) _ _) rfl rfl (by simp [Tok.cells, Value.oneCell']) (by decide) (by unfold maxLen; omega) (by omega) ?_
              intro g4 cap4 w4 hown4 hgrow4 hat4
              have F4 := Lib.hid ((F3q.out.alloc _).push hgrow4 hown4 (hat4.imp id (fun h => ⟨g4, rfl, h⟩)))
              clear hown4 hgrow4 hat4
              go_wp2_with (first | ((with_reducible show wpPlan _ _ _ [] _ _ _); refine wpPlan_nil ?_) | ((with_reducible show wpPlan _ _ _ ((_, 0, _) :: _) _ _ _); first | (refine wpPlan_read0 rfl ?hw rfl (fun _ _ _ => ?_); case hw => ((conv => (lhs; whnf)); first | done | with_reducible rfl)) | (refine wpPlan_skip0 rfl ?hw ?_; (case hw => ((conv => (lhs; whnf)); first | done | with_reducible rfl)); (try simp only [List.getElem_toArray, List.getElem_cons_succ, List.getElem_cons_zero, Act.put, List.setIfInBounds_toArray, List.set_cons_zero, List.set_cons_succ]))) | ((with_reducible show wpPlan _ _ _ ((_, 1, _) :: _) _ _ _); first | (refine wpPlan_read1d rfl ?hw rfl rfl (fun _ _ _ => ?_); case hw => ((conv => (lhs; whnf)); first | done | with_reducible rfl)) | (refine wpPlan_skip1d rfl ?hw ?_; (case hw => ((conv => (lhs; whnf)); first | done | with_reducible rfl)); (try simp only [List.getElem_toArray, List.getElem_cons_succ, List.getElem_cons_zero, Act.put, List.setIfInBounds_toArray, List.set_cons_zero, List.set_cons_succ])) | (refine wpPlan_read1 rfl ?hw rfl (fun _ _ _ => ?_); case hw => ((conv => (lhs; whnf)); first | done | with_reducible rfl))) | ((with_reducible show wpPlan _ _ _ ((_, 2, _) :: _) _ _ _); first | (refine wpPlan_eff rfl ?hw (fun _ _ => ?_); case hw => ((conv => (lhs; whnf)); first | done | with_reducible rfl)) | (refine wpPlan_skip2 rfl ?hw ?_; (case hw => ((conv => (lhs; whnf)); first | done | with_reducible rfl)); (try simp only [List.getElem_toArray, List.getElem_cons_succ, List.getElem_cons_zero, Act.put, List.setIfInBounds_toArray, List.set_cons_zero, List.set_cons_succ]))) | ((with_reducible show wpPlan _ _ _ _ _ _ _); refine wpPlan_fork ?_ ?_) | ((with_reducible show Owed _ _ _ [] _ _ _ _ _); refine Owed.none_ ?_) | ((with_reducible show Owed _ _ _ _ [] _ _ _ _); refine Owed.nil_ ?_) | ((with_reducible show Owed _ _ _ _ _ _ _ _ _); first | (refine Owed.miss rfl ?_) | (refine Owed.hit ?_ ?_)) | ((with_reducible show Same _ _ _ _ _); intro _; go_simp; done) | (with_reducible exact True.intro) | ((with_reducible show Code.wp _ (Code.region 7 _ true) _ _ _); refine wp_region_plan [(0, 1, []), (1, 0, []), (2, 2, []), (3, 0, [])] (by kernel_rfl) (by kernel_rfl) (by kernel_rfl) ?_) | ((with_reducible show Code.wp _ (Code.region 14 _ true) _ _ _); refine wp_region_plan [(0, 0, []), (1, 1, []), (2, 1, []), (3, 1, []), (4, 0, []), (5, 0, []), (6, 2, []), (7, 0, [])] (by kernel_rfl) (by kernel_rfl) (by kernel_rfl) ?_))
              refine (lskip_any _ s j m q _ F4.out.cur (by omega) hs HQ.out).mono ?_
              rintro e w5 ⟨rfl, hS5, hP5, hO5⟩
              have F5 := Lib.hid (F4.out.cursor hS5 hO5)
              have HP5 := Lib.hid hP5
              clear hS5 hP5 hO5
              go_wp2_with (first | ((with_reducible show wpPlan _ _ _ [] _ _ _); refine wpPlan_nil ?_) | ((with_reducible show wpPlan _ _ _ ((_, 0, _) :: _) _ _ _); first | (refine wpPlan_read0 rfl ?hw rfl (fun _ _ _ => ?_); case hw => ((conv => (lhs; whnf)); first | done | with_reducible rfl)) | (refine wpPlan_skip0 rfl ?hw ?_; (case hw => ((conv => (lhs; whnf)); first | done | with_reducible rfl)); (try simp only [List.getElem_toArray, List.getElem_cons_succ, List.getElem_cons_zero, Act.put, List.setIfInBounds_toArray, List.set_cons_zero, List.set_cons_succ]))) | ((with_reducible show wpPlan _ _ _ ((_, 1, _) :: _) _ _ _); first | (refine wpPlan_read1d rfl ?hw rfl rfl (fun _ _ _ => ?_); case hw => ((conv => (lhs; whnf)); first | done | with_reducible rfl)) | (refine wpPlan_skip1d rfl ?hw ?_; (case hw => ((conv => (lhs; whnf)); first | done | with_reducible rfl)); (try simp only [List.getElem_toArray, List.getElem_cons_succ, List.getElem_cons_zero, Act.put, List.setIfInBounds_toArray, List.set_cons_zero, List.set_cons_succ])) | (refine wpPlan_read1 rfl ?hw rfl (fun _ _ _ => ?_); case hw => ((conv => (lhs; whnf)); first | done | with_reducible rfl))) | ((with_reducible show wpPlan _ _ _ ((_, 2, _) :: _) _ _ _); first | (refine wpPlan_eff rfl ?hw (fun _ _ => ?_); case hw => ((conv => (lhs; whnf)); first | done | with_reducible rfl)) | (refine wpPlan_skip2 rfl ?hw ?_; (case hw => ((conv => (lhs; whnf)); first | done | with_reducible rfl)); (try simp only [List.getElem_toArray, List.getElem_cons_succ, List.getElem_cons_zero, Act.put, List.setIfInBounds_toArray, List.set_cons_zero, List.set_cons_succ]))) | ((with_reducible show wpPlan _ _ _ _ _ _ _); refine wpPlan_fork ?_ ?_) | ((with_reducible show Owed _ _ _ [] _ _ _ _ _); refine Owed.none_ ?_) | ((with_reducible show Owed _ _ _ _ [] _ _ _ _); refine Owed.nil_ ?_) | ((with_reducible show Owed _ _ _ _ _ _ _ _ _); first | (refine Owed.miss rfl ?_) | (refine Owed.hit ?_ ?_)) | ((with_reducible show Same _ _ _ _ _); intro _; go_simp; done) | (with_reducible exact True.intro) | ((with_reducible show Code.wp _ (Code.region 7 _ true) _ _ _); refine wp_region_plan [(0, 1, []), (1, 0, []), (2, 2, []), (3, 0, [])] (by kernel_rfl) (by kernel_rfl) (by kernel_rfl) ?_) | ((with_reducible show Code.wp _ (Code.region 14 _ true) _ _ _); refine wp_region_plan [(0, 0, []), (1, 1, []), (2, 1, []), (3, 1, []), (4, 0, []), (5, 0, []), (6, 2, []), (7, 0, [])] (by kernel_rfl) (by kernel_rfl) (by kernel_rfl) ?_))
              go_roundg (s.size - (j + m))
              · refine ⟨j + m, posAfter ((s.data.toList.drop j).take m) q, acc ++ [⟨kk, ki, ks, q⟩], _, n, F5.out, rfl, by omega, HP5.out, by simp; omega, ?_, by omega, rfl⟩
                rw [HSC3.out, ← HDR.out, List.drop_drop, Int.toNat_natCast]
              · have := HK.out; omega
          · have h0b : (er == 0) = false := by simpa using h0
            have h0c : (er != 0) = true := by simpa using h0
            have H0 := Lib.hid h0
            clear h0
            have hv : scanS s.data.toList = ([], q, er) := by rw [HSC2.out, if_pos H0.out]
            have HV := Lib.hid hv
            clear hv
            have hC3 := F2.out.cur.cell
            have hCl3 := F2.out.cur.lt
            have hr3 := F2.out.ret.cell
            have hrf3 := F2.out.ret.frozen
            have hrl3 := F2.out.ret.lt
            dsimp only [Pos.v]
            go_wp2_with (first | ((with_reducible show wpPlan _ _ _ [] _ _ _); refine wpPlan_nil ?_) | ((with_reducible show wpPlan _ _ _ ((_, 0, _) :: _) _ _ _); first | (refine wpPlan_read0 rfl ?hw rfl (fun _ _ _ => ?_); case hw => ((conv => (lhs; whnf)); first | done | with_reducible rfl)) | (refine wpPlan_skip0 rfl ?hw ?_; (case hw => ((conv => (lhs; whnf)); first | done | with_reducible rfl)); (try simp only [List.getElem_toArray, List.getElem_cons_succ, List.getElem_cons_zero, Act.put, List.setIfInBounds_toArray, List.set_cons_zero, List.set_cons_succ]))) | ((with_reducible show wpPlan _ _ _ ((_, 1, _) :: _) _ _ _); first | (refine wpPlan_read1d rfl ?hw rfl rfl (fun _ _ _ => ?_); case hw => ((conv => (lhs; whnf)); first | done | with_reducible rfl)) | (refine wpPlan_skip1d rfl ?hw ?_; (case hw => ((conv => (lhs; whnf)); first | done | with_reducible rfl)); (try simp only [List.getElem_toArray, List.getElem_cons_succ, List.getElem_cons_zero, Act.put, List.setIfInBounds_toArray, List.set_cons_zero, List.set_cons_succ])) | (refine wpPlan_read1 rfl ?hw rfl (fun _ _ _ => ?_); case hw => ((conv => (lhs; whnf)); first | done | with_reducible rfl))) | ((with_reducible show wpPlan _ _ _ ((_, 2, _) :: _) _ _ _); first | (refine wpPlan_eff rfl ?hw (fun _ _ => ?_); case hw => ((conv => (lhs; whnf)); first | done | with_reducible rfl)) | (refine wpPlan_skip2 rfl ?hw ?_; (case hw => ((conv => (lhs; whnf)); first | done | with_reducible rfl)); (try simp only [List.getElem_toArray, List.getElem_cons_succ, List.getElem_cons_zero, Act.put, List.setIfInBounds_toArray, List.set_cons_zero, List.set_cons_succ]))) | ((with_reducible show wpPlan _ _ _ _ _ _ _); refine wpPlan_fork ?_ ?_) | ((with_reducible show Owed _ _ _ [] _ _ _ _ _); refine Owed.none_ ?_) | ((with_reducible show Owed _ _ _ _ [] _ _ _ _); refine Owed.nil_ ?_) | ((with_reducible show Owed _ _ _ _ _ _ _ _ _); first | (refine Owed.miss rfl ?_) | (refine Owed.hit ?_ ?_)) | ((with_reducible show Same _ _ _ _ _); intro _; go_simp; done) | (with_reducible exact True.intro) | ((with_reducible show Code.wp _ (Code.region 7 _ true) _ _ _); refine wp_region_plan [(0, 1, []), (1, 0, []), (2, 2, []), (3, 0, [])] (by kernel_rfl) (by kernel_rfl) (by kernel_rfl) ?_) | ((with_reducible show Code.wp _ (Code.region 14 _ true) _ _ _); refine wp_region_plan [(0, 0, []), (1, 1, []), (2, 1, []), (3, 1, []), (4, 0, []), (5, 0, []), (6, 2, []), (7, 0, [])] (by kernel_rfl) (by kernel_rfl) (by kernel_rfl) ?_))
            have hz := ((F2.out.ret.put 0 (.int .i64 q.line)).put 1 (.int .i64 q.col)).alloc (.cells #[.int .i64 tk, .int .i64 ti, .string ts, .int .i64 tl, .int .i64 tc] 37)
            have z0 : (((w3.setCell ⟨w.heap.size, 0, none⟩ (.int .i64 q.line)).setCell ⟨w.heap.size, 1, none⟩ (.int .i64 q.col)).alloc (.cells #[.int .i64 tk, .int .i64 ti, .string ts, .int .i64 tl, .int .i64 tc] 37)).cell? ⟨w.heap.size, 0, none⟩ = some (.int .i64 q.line) := hz.cell 0
            have z1 : (((w3.setCell ⟨w.heap.size, 0, none⟩ (.int .i64 q.line)).setCell ⟨w.heap.size, 1, none⟩ (.int .i64 q.col)).alloc (.cells #[.int .i64 tk, .int .i64 ti, .string ts, .int .i64 tl, .int .i64 tc] 37)).cell? ⟨w.heap.size, 1, none⟩ = some (.int .i64 q.col) := hz.cell 1
            obtain ⟨_, _, _, qb, _⟩ := F2.out.putRet q
            exact bodyPost_ret (v := .tuple #[.slice none 0 0, q.v, .int .i64 er]) (by simp [results, Tryd.results17, go_sem, z0, z1]) rfl ⟨⟨none, 0, 0, by rw [HV.out], Nat.le_refl _, by simp [maxLen], by rw [HV.out]; exact Rd.nil⟩, (qb.alloc qb.size _).drew⟩

end Go.Proofs.YtafoahojdiglfaaDoor
