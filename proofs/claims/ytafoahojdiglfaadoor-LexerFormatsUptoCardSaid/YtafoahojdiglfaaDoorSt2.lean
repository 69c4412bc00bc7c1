/- the lexer's laws: lists of some tokens, the valid ones, decimal numbers, texts of tokens -/
import Derived.Test.YtafoahojdiglfaaDoorSt
import Derived.Test.YtafoahojdiglfaaDoorPs
namespace Go.Proofs.YtafoahojdiglfaaDoor
open Go Go.RowKit
set_option maxHeartbeats 4000000
attribute [local irreducible] kwB syB clB

def decP (m : Nat) : List UInt8 := if m = 0 then [] else decL m
theorem decP_step {m : Nat} (h : 0 < m) : decP m = decP (m / 10) ++ [dB (m % 10)] := by
  unfold decP
  rw [if_neg (by omega)]
  by_cases h1 : m < 10
  · rw [decL_small h1, if_pos (by omega), show m % 10 = m by omega]
    rfl
  · rw [decL_big h1, if_neg (by omega)]
theorem decL_P (n : Nat) : decL n = decP (n / 10) ++ [dB (n % 10)] := by
  by_cases h : 0 < n
  · rw [← decP_step h, decP, if_neg (by omega)]
  · have : n = 0 := by omega
    subst this
    rw [decL_small (by omega)]
    rfl
def digB : ByteArray := ⟨#[48, 49, 50, 51, 52, 53, 54, 55, 56, 57]⟩
theorem dig_ext (d : Nat) (h : d < 10) : digB.extract d (d + 1) = bstr [dB d] :=
  (by decide : ∀ d : Fin 10, digB.extract d.val (d.val + 1) = bstr [dB d.val]) ⟨d, h⟩
theorem bstr_cons (l : List UInt8) (s : ByteArray) : bstr l ++ s = bstr (l ++ s.data.toList) := by
  rw [← bstr_app, bstr_of]

set_option maxRecDepth 100000 in
theorem decimal_any (n : Nat) (hn : (n : Int) ≤ maxI) (w : World) : Calls Tryd.prog 43 #[.int .i64 n] w fun e w' => e = .returned (.string (bstr (decL n))) ∧ w = w' := by
  have HL := Lib.hid (decL_len 18 n (by unfold maxI at hn; omega))
  have hE := dig_ext (n % 10) (Nat.mod_lt _ (by decide))
  unfold digB at hE
  have HE := Lib.hid hE
  clear hE
  have HP := Lib.hid (decL_P n)
  have hn' : (n : Int) ≤ 9223372036854775807 := hn
  clear hn
  go_enter Tryd.func43, Tryd.ntmps43
  go_wp2
  go_loopw [0, 3] (fun vn vs wr => ∃ (m : Nat) (s : ByteArray), vn = .int .i64 m ∧ vs = .string s ∧ (m : Int) ≤ 9223372036854775807 ∧ decL n = decP m ++ s.data.toList ∧ w = wr) (fun vn _ _ => (intOf vn).toNat)
  case atStart => exact ⟨n / 10, bstr [dB (n % 10)], by go_num, by rw [← HE.out], by omega, by rw [bstr_list]; exact HP.out, rfl⟩
  case round =>
    obtain ⟨m, s, rfl, rfl, hm, hd, rfl⟩ := hrel
    have HD := Lib.hid hd
    have hsz : s.size ≤ 19 := by
      have h1 := HL.out
      rw [hd, List.length_append, blen] at h1
      omega
    clear hd
    by_cases h0 : 0 < m
    · have hE2 := dig_ext (m % 10) (Nat.mod_lt _ (by decide))
      unfold digB at hE2
      have hez : ((⟨#[48, 49, 50, 51, 52, 53, 54, 55, 56, 57]⟩ : ByteArray).extract (m % 10) (m % 10 + 1)).size = 1 := by rw [hE2]; rfl
      have HE2 := Lib.hid hE2
      clear hE2
      go_wp2
      go_roundw
      case rel =>
        refine ⟨m / 10, bstr [dB (m % 10)] ++ s, by go_num, ?_, by omega, ?_, trivial⟩
        · rw [← HE2.out]
        · rw [bstr_cons, bstr_list, HD.out, decP_step h0]
          simp
      case measure => simp [intOf]; omega
    · have hm0 : m = 0 := by omega
      subst hm0
      go_wp2
      go_ret
      exact ⟨ret_str (by rw [HD.out]; exact (bstr_of s).symm), rfl⟩

theorem bstr_text {t : Tok} (h : t.kind ≠ 2) : bstr (textS t) = t.str := by
  unfold textS
  rw [if_neg h, bstr_of]
set_option maxRecDepth 100000 in
theorem text_any (t : Tok) (ht : t.kind = 2 → 0 ≤ t.int ∧ t.int ≤ maxI) (w : World) : Calls Tryd.prog 20 #[t.v] w fun e w' => e = .returned (.string (bstr (textS t))) ∧ Below w.heap.size w w' := by
  obtain ⟨k, i, s, ⟨l, c⟩⟩ := t
  have HB := Lib.hid ((Below.refl w.heap.size w).alloc (Nat.le_refl _) (.cells #[.int .i64 k, .int .i64 i, .string s, .int .i64 l, .int .i64 c] 37))
  by_cases hk : k = 2
  · subst hk
    obtain ⟨h0, h1⟩ := ht rfl
    dsimp only at h0 h1
    obtain ⟨n, rfl⟩ : ∃ n : Nat, i = n := ⟨i.toNat, by omega⟩
    have HT := Lib.hid (show textS ⟨2, n, s, ⟨l, c⟩⟩ = decL n from rfl)
    go_enter Tryd.func20, Tryd.ntmps20
    go_wp2_with fail
    refine (decimal_any n h1 _).mono ?_
    rintro e w2 ⟨rfl, rfl⟩
    go_wp2_with fail
    go_ret
    exact ⟨ret_str (by rw [HT.out]), HB.out⟩
  · have HT := Lib.hid (show bstr (textS ⟨k, i, s, ⟨l, c⟩⟩) = s from bstr_text hk)
    have hk' : (k == 2) = false := beq_eq_false_iff_ne.2 hk
    clear ht
    go_enter Tryd.func20, Tryd.ntmps20
    go_wp2_with fail
    go_ret
    exact ⟨ret_str (by rw [HT.out]), HB.out⟩

set_option maxRecDepth 100000 in
theorem someTokens_any (A : Option Addr) (n c B : Nat) (l : List Tok) (w : World) (h : Rd w B 5 A n (cellsOf Tok.cells l)) (hB : B ≤ w.heap.size) (_hn : n ≤ 1000000000) (hl : ∀ t ∈ l, TokIn t) :
    Calls Tryd.prog 23 #[.slice A n c] w fun e w' => (∃ A' n' c' l', e = .returned (.slice A' n' c') ∧ Rd w' w'.heap.size 5 A' n' (cellsOf Tok.cells l') ∧ (∀ t ∈ l', TokIn t) ∧ n' ≤ 40) ∧ Below w.heap.size w w' := by
  have H := Lib.hid h
  have HT := Lib.hid hl
  clear h hl
  go_enter Tryd.func23, Tryd.ntmps23
  go_wp2
  go_loopw [3, 4] (fun vo vk wr => ∃ (k : Nat) (m : List Tok), k ≤ n ∧ k ≤ 40 ∧ m.length = k ∧ vk = .int .i64 k ∧ wr.ownsRow 0 37 5 vo m.length (cellsOf Tok.cells m) ∧ (∀ g, vo.ownBlock = some g → w.heap.size ≤ g) ∧ (∀ t ∈ m, TokIn t) ∧ Below w.heap.size w wr) (fun _ vk _ => n - (intOf vk).toNat)
  case atStart => exact ⟨0, [], Nat.zero_le _, by decide, rfl, rfl, World.ownsRow_nil _ _ _ _, fun g hg => (by cases hg), fun t ht => (by cases ht), Below.refl _ _⟩
  case round =>
    obtain ⟨k, m, hk, hk40, hml, rfl, hown, holo, hmt, hbl⟩ := hrel
    have HBL := Lib.hid hbl
    have HOW := Lib.hid hown
    have HLO := Lib.hid holo
    have HMT := Lib.hid hmt
    obtain ⟨Ao, capo, rfl, _, _⟩ := own_form hown
    by_cases hlt : k < n ∧ k < 40
    · obtain ⟨hlt1, hlt2⟩ := hlt
      obtain ⟨b1, o1, t, rfl, hb1, ht, c0, c1, c2, c3, c4⟩ := (H.out.keep (w' := wr) (fun p hp => hbl.cell (by omega))).tok hlt1
      have htin := HT.out t (List.mem_of_getElem? ht)
      clear hbl hown holo ht hmt
      go_wp2_with fail
      refine (some_any t htin _).mono ?_
      rintro e w2 ⟨⟨u, rfl, hu⟩, hb2⟩
      obtain ⟨uk, ui, us, ⟨ul, uc⟩⟩ := u
      have HU := Lib.hid hu
      have HB2 := Lib.hid hb2
      have HOW2 := Lib.hid (own_out HOW.out (Below.new hb2) (fun _ _ h => h))
      have HBL2 := Lib.hid (HBL.out.trans (hb2.mono HBL.out.size))
      clear hb2 hu c0 c1 c2 c3 c4 htin
      dsimp only [Tok.v, Pos.v]
      go_wp2_with (first | (at_builtin; refine appList_blk rfl slTok rfl (HOW2.out.alloc _) rfl (news := (Tok.mk uk ui us ⟨ul, uc⟩).cells) ((heap_alloc_at rfl) : Blk _ w2.heap.size _ _) rfl rfl (by simp [Tok.cells, Value.oneCell']) (by decide) (by unfold maxLen; omega) (by omega) ?_; intro g7 cap7 w7 hown7 hgrow7 hat7))
      go_roundw
      case rel =>
        refine ⟨k + 1, m ++ [⟨uk, ui, us, ⟨ul, uc⟩⟩], by omega, by omega, by simp [hml], by go_num, ?_, fun g hg => ?_, fun x hx => ?_, ?_⟩
        · simpa [cellsOf, hml] using hown7
        · cases hg
          rcases hat7 with h1 | h1
          · exact HLO.out _ h1
          · have := HBL2.out.size
            simp at h1
            show w.heap.size ≤ g7
            omega
        · rcases List.mem_append.1 hx with h1 | h1
          · exact HMT.out x h1
          · rw [List.mem_singleton.1 h1]
            exact HU.out
        · have hbb := HBL2.out.alloc HBL2.out.size (.cells (Tok.mk uk ui us ⟨ul, uc⟩).cells.toArray 37)
          have hO : Outside (fun z => (Value.slice Ao m.length capo).ownBlock = some z) _ w7 := (Outside.refl _ _).grown hgrow7 (fun z hz => .inl hz)
          exact hbb.trans (hO.below hbb.size (fun z hz e => by have := HLO.out z e; omega))
      case measure => simp [intOf]; omega
    · have HRD := Lib.hid (Rd.ofOwn HOW.out)
      clear hbl hown holo hmt
      by_cases h1 : k < n
      · have h2 : ¬ k < 40 := fun h => hlt ⟨h1, h⟩
        go_wp2_with fail
        go_ret
        exact ⟨⟨_, _, _, m, rfl, HRD.out, HMT.out, by omega⟩, HBL.out⟩
      · go_wp2_with fail
        go_ret
        exact ⟨⟨_, _, _, m, rfl, HRD.out, HMT.out, by omega⟩, HBL.out⟩

set_option maxRecDepth 100000 in
theorem lvalid_any (A : Option Addr) (n c B : Nat) (l : List Tok) (w : World) (h : Rd w B 5 A n (cellsOf Tok.cells l)) (hB : B ≤ w.heap.size) (hn : n ≤ 1000) (hl : ∀ t ∈ l, TokIn t) :
    Calls Tryd.prog 22 #[.slice A n c] w fun e w' => (∃ A' n' c' l', e = .returned (.slice A' n' c') ∧ Rd w' w'.heap.size 5 A' n' (cellsOf Tok.cells l') ∧ (∀ t ∈ l', TokIn t ∧ validTok t = true) ∧ n' ≤ n) ∧ Below w.heap.size w w' := by
  have H := Lib.hid h
  have HT := Lib.hid hl
  clear h hl
  go_enter Tryd.func22, Tryd.ntmps22
  go_wp2
  go_loopw [3, 4] (fun vo vk wr => ∃ (k : Nat) (m : List Tok), k ≤ n ∧ m.length ≤ k ∧ vk = .int .i64 k ∧ wr.ownsRow 0 37 5 vo m.length (cellsOf Tok.cells m) ∧ (∀ g, vo.ownBlock = some g → w.heap.size ≤ g) ∧ (∀ t ∈ m, TokIn t ∧ validTok t = true) ∧ Below w.heap.size w wr) (fun _ vk _ => n - (intOf vk).toNat)
  case atStart => exact ⟨0, [], Nat.zero_le _, Nat.zero_le _, rfl, World.ownsRow_nil _ _ _ _, fun g hg => (by cases hg), fun t ht => (by cases ht), Below.refl _ _⟩
  case round =>
    obtain ⟨k, m, hk, hml, rfl, hown, holo, hmt, hbl⟩ := hrel
    have HBL := Lib.hid hbl
    have HOW := Lib.hid hown
    have HLO := Lib.hid holo
    have HMT := Lib.hid hmt
    obtain ⟨Ao, capo, rfl, _, _⟩ := own_form hown
    by_cases hlt : k < n
    · obtain ⟨b1, o1, t, rfl, hb1, ht, c0, c1, c2, c3, c4⟩ := (H.out.keep (w' := wr) (fun p hp => hbl.cell (by omega))).tok hlt
      have htin := HT.out t (List.mem_of_getElem? ht)
      have hts : t.str.size ≤ 1000000000000 := Nat.le_trans htin.2 (by decide)
      have HTI := Lib.hid htin
      obtain ⟨q, hq⟩ : ∃ q, validTok t = q := ⟨_, rfl⟩
      have HQ := Lib.hid hq
      clear hbl hown holo hq ht hmt htin
      go_wp2_with fail
      refine (rvalid_any t _ hts).mono ?_
      rw [HQ.out]
      rintro e w2 ⟨rfl, hb2⟩
      have HOW2 := Lib.hid (own_out HOW.out (Below.new hb2) (fun _ _ h => h))
      have HBL2 := Lib.hid (HBL.out.trans (hb2.mono HBL.out.size))
      cases q
      · clear hb2 c0 c1 c2 c3 c4
        go_wp2_with fail
        go_roundw
        case rel => exact ⟨k + 1, m, by omega, by omega, by go_num, HOW2.out, HLO.out, HMT.out, HBL2.out⟩
        case measure => simp [intOf]; omega
      · have d0 : w2.cell? ⟨b1, o1 + k * 5, none⟩ = some (.int .i64 t.kind) := (hb2.cell (p := ⟨b1, o1 + k * 5, none⟩) (by have := HBL.out.size; dsimp only; omega)).trans c0
        have d1 : w2.cell? ⟨b1, o1 + k * 5 + 1, none⟩ = some (.int .i64 t.int) := (hb2.cell (p := ⟨b1, o1 + k * 5 + 1, none⟩) (by have := HBL.out.size; dsimp only; omega)).trans c1
        have d2 : w2.cell? ⟨b1, o1 + k * 5 + 2, none⟩ = some (.string t.str) := (hb2.cell (p := ⟨b1, o1 + k * 5 + 2, none⟩) (by have := HBL.out.size; dsimp only; omega)).trans c2
        have d3 : w2.cell? ⟨b1, o1 + k * 5 + 3, none⟩ = some (.int .i64 t.pos.line) := (hb2.cell (p := ⟨b1, o1 + k * 5 + 3, none⟩) (by have := HBL.out.size; dsimp only; omega)).trans c3
        have d4 : w2.cell? ⟨b1, o1 + k * 5 + 4, none⟩ = some (.int .i64 t.pos.col) := (hb2.cell (p := ⟨b1, o1 + k * 5 + 4, none⟩) (by have := HBL.out.size; dsimp only; omega)).trans c4
        clear hb2 c0 c1 c2 c3 c4
        go_wp2_with (first | (at_builtin; refine appList_blk rfl slTok rfl (HOW2.out.alloc _) rfl (news := t.cells) ((heap_alloc_at rfl) : Blk _ w2.heap.size _ _) rfl rfl (by simp [Tok.cells, Value.oneCell']) (by decide) (by unfold maxLen; omega) (by omega) ?_; intro g7 cap7 w7 hown7 hgrow7 hat7))
        go_roundw
        case rel =>
          refine ⟨k + 1, m ++ [t], by omega, by simp; omega, by go_num, ?_, fun g hg => ?_, fun x hx => ?_, ?_⟩
          · simpa [cellsOf] using hown7
          · cases hg
            rcases hat7 with h1 | h1
            · exact HLO.out _ h1
            · have := HBL2.out.size
              simp at h1
              show w.heap.size ≤ g7
              omega
          · rcases List.mem_append.1 hx with h1 | h1
            · exact HMT.out x h1
            · rw [List.mem_singleton.1 h1]
              exact ⟨HTI.out, HQ.out⟩
          · have hbb := HBL2.out.alloc HBL2.out.size (.cells t.cells.toArray 37)
            have hO : Outside (fun z => (Value.slice Ao m.length capo).ownBlock = some z) _ w7 := (Outside.refl _ _).grown hgrow7 (fun z hz => .inl hz)
            exact hbb.trans (hO.below hbb.size (fun z hz e => by have := HLO.out z e; omega))
        case measure => simp [intOf]; omega
    · have HRD := Lib.hid (Rd.ofOwn HOW.out)
      clear hbl hown holo hmt
      go_wp2_with fail
      go_ret
      exact ⟨⟨_, _, _, m, rfl, HRD.out, HMT.out, by omega⟩, HBL.out⟩

set_option maxRecDepth 100000 in
theorem same_any (A A' : Option Addr) (n c c' B : Nat) (l m : List Tok) (w : World) (h : Rd w B 5 A n (cellsOf Tok.cells l)) (h' : Rd w B 5 A' n (cellsOf Tok.cells m)) (hB : B ≤ w.heap.size) (hn : n ≤ 1000000000) (hlm : l.map bareT = m.map bareT) :
    Calls Tryd.prog 24 #[.slice A n c, .slice A' n c'] w fun e w' => e = .returned (.bool true) ∧ Below w.heap.size w w' := by
  have H := Lib.hid h
  have H' := Lib.hid h'
  have HM := Lib.hid hlm
  clear h h' hlm
  go_enter Tryd.func24, Tryd.ntmps24
  go_wp2
  go_loopw [5] (fun vk wr => ∃ k : Nat, k ≤ n ∧ vk = .int .i64 k ∧ Below w.heap.size w wr) (fun vk _ => n - (intOf vk).toNat)
  case atStart => exact ⟨0, Nat.zero_le _, rfl, Below.refl _ _⟩
  case round =>
    obtain ⟨k, hk, rfl, hb⟩ := hrel
    have HB := Lib.hid hb
    by_cases hlt : k < n
    · obtain ⟨b1, o1, ⟨tk, ti, ts, tp⟩, rfl, _, ht, c0, c1, c2, c3, c4⟩ := (H.out.keep (w' := wr) (fun p hp => hb.cell (by omega))).tok hlt
      obtain ⟨b2, o2, ⟨uk, ui, us, up⟩, rfl, _, ht2, d0, d1, d2, d3, d4⟩ := (H'.out.keep (w' := wr) (fun p hp => hb.cell (by omega))).tok hlt
      have he := congrArg (fun z => z[k]?) HM.out
      simp only [List.getElem?_map, ht, ht2, Option.map_some, Option.some.injEq] at he
      unfold bareT at he
      simp only [Prod.mk.injEq] at he
      obtain ⟨rfl, rfl, rfl⟩ := he
      clear ht ht2 hb
      go_wp2_with (first | ((with_reducible show wpPlan _ _ _ [] _ _ _); refine wpPlan_nil ?_) | ((with_reducible show wpPlan _ _ _ ((_, 0, _) :: _) _ _ _); first | (refine wpPlan_read0 rfl ?hw rfl (fun _ _ _ => ?_); case hw => ((conv => (lhs; whnf)); first | done | with_reducible rfl)) | (refine wpPlan_skip0 rfl ?hw ?_; (case hw => ((conv => (lhs; whnf)); first | done | with_reducible rfl)); (try simp only [List.getElem_toArray, List.getElem_cons_succ, List.getElem_cons_zero, Act.put, List.setIfInBounds_toArray, List.set_cons_zero, List.set_cons_succ]))) | ((with_reducible show wpPlan _ _ _ ((_, 1, _) :: _) _ _ _); first | (refine wpPlan_read1d rfl ?hw rfl rfl (fun _ _ _ => ?_); case hw => ((conv => (lhs; whnf)); first | done | with_reducible rfl)) | (refine wpPlan_skip1d rfl ?hw ?_; (case hw => ((conv => (lhs; whnf)); first | done | with_reducible rfl)); (try simp only [List.getElem_toArray, List.getElem_cons_succ, List.getElem_cons_zero, Act.put, List.setIfInBounds_toArray, List.set_cons_zero, List.set_cons_succ])) | (refine wpPlan_read1 rfl ?hw rfl (fun _ _ _ => ?_); case hw => ((conv => (lhs; whnf)); first | done | with_reducible rfl))) | ((with_reducible show wpPlan _ _ _ ((_, 2, _) :: _) _ _ _); first | (refine wpPlan_eff rfl ?hw (fun _ _ => ?_); case hw => ((conv => (lhs; whnf)); first | done | with_reducible rfl)) | (refine wpPlan_skip2 rfl ?hw ?_; (case hw => ((conv => (lhs; whnf)); first | done | with_reducible rfl)); (try simp only [List.getElem_toArray, List.getElem_cons_succ, List.getElem_cons_zero, Act.put, List.setIfInBounds_toArray, List.set_cons_zero, List.set_cons_succ]))) | ((with_reducible show wpPlan _ _ _ _ _ _ _); refine wpPlan_fork ?_ ?_) | ((with_reducible show Owed _ _ _ [] _ _ _ _ _); refine Owed.none_ ?_) | ((with_reducible show Owed _ _ _ _ [] _ _ _ _); refine Owed.nil_ ?_) | ((with_reducible show Owed _ _ _ _ _ _ _ _ _); first | (refine Owed.miss rfl ?_) | (refine Owed.hit ?_ ?_)) | ((with_reducible show Same _ _ _ _ _); intro _; go_simp; done) | (with_reducible exact True.intro) | ((with_reducible show Code.wp _ (Code.region 6 _ true) _ _ _); refine wp_region_plan [(0, 0, []), (1, 0, []), (2, 1, []), (3, 1, []), (4, 1, []), (5, 0, []), (6, 0, []), (7, 1, []), (8, 1, []), (9, 1, []), (10, 1, []), (11, 0, []), (12, 0, []), (13, 0, []), (14, 1, []), (15, 1, []), (16, 1, []), (17, 0, []), (18, 0, []), (19, 1, []), (20, 1, []), (21, 1, []), (22, 1, []), (23, 0, []), (24, 0, []), (25, 0, []), (26, 0, []), (27, 1, []), (28, 1, []), (29, 1, []), (30, 0, []), (31, 0, []), (32, 1, []), (33, 1, []), (34, 1, []), (35, 1, []), (36, 0, [])] (by kernel_rfl) (by kernel_rfl) (by kernel_rfl) ?_))
      go_roundw
      case rel => exact ⟨k + 1, by omega, by go_num, HB.out.drew⟩
      case measure => simp [intOf]; omega
    · clear hb
      go_wp2_with (first | ((with_reducible show wpPlan _ _ _ [] _ _ _); refine wpPlan_nil ?_) | ((with_reducible show wpPlan _ _ _ ((_, 0, _) :: _) _ _ _); first | (refine wpPlan_read0 rfl ?hw rfl (fun _ _ _ => ?_); case hw => ((conv => (lhs; whnf)); first | done | with_reducible rfl)) | (refine wpPlan_skip0 rfl ?hw ?_; (case hw => ((conv => (lhs; whnf)); first | done | with_reducible rfl)); (try simp only [List.getElem_toArray, List.getElem_cons_succ, List.getElem_cons_zero, Act.put, List.setIfInBounds_toArray, List.set_cons_zero, List.set_cons_succ]))) | ((with_reducible show wpPlan _ _ _ ((_, 1, _) :: _) _ _ _); first | (refine wpPlan_read1d rfl ?hw rfl rfl (fun _ _ _ => ?_); case hw => ((conv => (lhs; whnf)); first | done | with_reducible rfl)) | (refine wpPlan_skip1d rfl ?hw ?_; (case hw => ((conv => (lhs; whnf)); first | done | with_reducible rfl)); (try simp only [List.getElem_toArray, List.getElem_cons_succ, List.getElem_cons_zero, Act.put, List.setIfInBounds_toArray, List.set_cons_zero, List.set_cons_succ])) | (refine wpPlan_read1 rfl ?hw rfl (fun _ _ _ => ?_); case hw => ((conv => (lhs; whnf)); first | done | with_reducible rfl))) | ((with_reducible show wpPlan _ _ _ ((_, 2, _) :: _) _ _ _); first | (refine wpPlan_eff rfl ?hw (fun _ _ => ?_); case hw => ((conv => (lhs; whnf)); first | done | with_reducible rfl)) | (refine wpPlan_skip2 rfl ?hw ?_; (case hw => ((conv => (lhs; whnf)); first | done | with_reducible rfl)); (try simp only [List.getElem_toArray, List.getElem_cons_succ, List.getElem_cons_zero, Act.put, List.setIfInBounds_toArray, List.set_cons_zero, List.set_cons_succ]))) | ((with_reducible show wpPlan _ _ _ _ _ _ _); refine wpPlan_fork ?_ ?_) | ((with_reducible show Owed _ _ _ [] _ _ _ _ _); refine Owed.none_ ?_) | ((with_reducible show Owed _ _ _ _ [] _ _ _ _); refine Owed.nil_ ?_) | ((with_reducible show Owed _ _ _ _ _ _ _ _ _); first | (refine Owed.miss rfl ?_) | (refine Owed.hit ?_ ?_)) | ((with_reducible show Same _ _ _ _ _); intro _; go_simp; done) | (with_reducible exact True.intro) | ((with_reducible show Code.wp _ (Code.region 6 _ true) _ _ _); refine wp_region_plan [(0, 0, []), (1, 0, []), (2, 1, []), (3, 1, []), (4, 1, []), (5, 0, []), (6, 0, []), (7, 1, []), (8, 1, []), (9, 1, []), (10, 1, []), (11, 0, []), (12, 0, []), (13, 0, []), (14, 1, []), (15, 1, []), (16, 1, []), (17, 0, []), (18, 0, []), (19, 1, []), (20, 1, []), (21, 1, []), (22, 1, []), (23, 0, []), (24, 0, []), (25, 0, []), (26, 0, []), (27, 1, []), (28, 1, []), (29, 1, []), (30, 0, []), (31, 0, []), (32, 1, []), (33, 1, []), (34, 1, []), (35, 1, []), (36, 0, [])] (by kernel_rfl) (by kernel_rfl) (by kernel_rfl) ?_))
      go_ret
      exact ⟨rfl, HB.out⟩

end Go.Proofs.YtafoahojdiglfaaDoor
