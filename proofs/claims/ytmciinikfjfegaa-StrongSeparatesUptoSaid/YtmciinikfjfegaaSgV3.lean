/- the reference: rounds, Rounds, Strong; lists of lists compared -/
import Derived.Test.YtmciinikfjfegaaSgV2
namespace Go.Proofs.Ytmciinikfjfegaa
open Go Go.RowKit
set_option maxHeartbeats 1000000

theorem make_wp {P : Program} (w : World) {o : Oper} {a : Act} {K : Act → World → Prop} {Q : Exit → Act → World → Prop} (l c : Operand) (t : TypeId) (hop : o.op = Op.makeSlice t l c)
    (e : TypeId) (i : TypeInfo) (z : Value) (h1 : P.underlying t = some (.slice e)) (h2 : P.info? e = some i) (h3 : i.zero = some z) (h4 : i.size = 1)
    (kl kc : IntKind) (n : Nat) (hl : a.eval l = .int kl n) (hc : a.eval c = .int kc n) (b2 : i.bytes * n ≤ 281474976710656) (b3 : n ≤ 1000000000)
    (hK : K (a.put o.dst (.slice (some ⟨w.heap.size, 0, none⟩) n n)) (w.alloc (.cells (madeCells z.cells n) e))) : o.wp P a w K Q := by
  have hb : (i.bytes : Int) * (n : Int) ≤ 281474976710656 := by
    have : ((i.bytes * n : Nat) : Int) ≤ 281474976710656 := by omega
    rwa [Int.natCast_mul] at this
  have hrun := run_make (P := P) w t e i z h1 h2 h3 kl kc n n (by omega) (by omega) hb (by omega)
  rw [h4] at hrun
  simp only [Int.toNat_natCast, Nat.mul_one] at hrun
  unfold Oper.wp
  simp [execOp, hop, hl, hc, hrun, Result.andThen]
  exact hK

theorem intC_inj {l l' : List Nat} : l.map (fun x : Nat => (x : Int)) = l'.map (fun x : Nat => (x : Int)) ↔ l = l' := by
  refine ⟨fun h => ?_, fun h => by rw [h]⟩
  rw [← intC_nat l, ← intC_nat l']
  exact congrArg (List.map Int.toNat) h
theorem intsN_any (A A' : Option Addr) (n c n' c' B : Nat) (l l' : List Nat) (w : World) (h : Rd w B 1 A n (cellsOf ncell l)) (h' : Rd w B 1 A' n' (cellsOf ncell l')) (hB : B ≤ w.heap.size) (hn : n ≤ 1000000000000) :
    Calls Try.prog 10 #[.slice A n c, .slice A' n' c'] w fun e w' => e = .returned (.bool (decide (l = l'))) ∧ Below w.heap.size w w' := by
  rw [nat_cells] at h h'
  refine (ints_any A A' n c n' c' B _ _ w h h' hB hn).mono ?_
  rintro e w' ⟨rfl, hb⟩
  exact ⟨by rw [decide_eq_decide.2 intC_inj], hb⟩

set_option maxRecDepth 100000 in
theorem rrounds_any (A A' : Option Addr) (n c c' W : Nat) (ls : List (List Arc)) (B : Nat) (w : World) (h : RdL w B A n ls) (hB : B ≤ w.heap.size) (ho : OkL ls n) (h' : w.ownsRow 0 3 1 (.slice A' n c') n (cellsOf ncell (clK ls 0))) (hW : ∀ g, (Value.slice A' n c').ownBlock = some g → W ≤ g) (hWs : W ≤ w.heap.size) :
    Calls Try.prog 50 #[.slice A n c, .slice A' n c'] w fun e w' => (∃ v K xs, e = .returned v ∧ DoneR ls K ∧ RowsZ w' W v (K + 1) xs (rndL ls K)) ∧ Below w.heap.size w w' := by
  have H := Lib.hid h
  have HK := Lib.hid ho
  have hn := ho.few
  have H' := Lib.hid h'
  have HWB := Lib.hid hW
  clear h ho h' hW
  have HZ0 := Lib.hid (show RowsZ (w.alloc (.cells #[.slice A' n c'] 29)) W (.slice (some ⟨w.heap.size, 0, none⟩) 1 1) 1 [.slice A' n c'] (rndL ls 0) from by
    refine ⟨⟨rfl, .inr ⟨w.heap.size, 1, #[.slice A' n c'], rfl, Nat.zero_le _, heap_alloc_at (by simp), Nat.le_refl _, by simp [maxLen], rfl, rfl⟩⟩, fun g hg => by simp [Value.ownBlock] at hg; omega, rfl, fun j l hl => ?_⟩
    match j with
    | 0 =>
      have : l = clK ls 0 := (Option.some.inj hl).symm
      subst this
      refine ⟨_, rfl, ?_, HWB.out⟩
      rw [show (clK ls 0).length = n by rw [clK_len, HK.out.len]]
      exact H'.out.alloc _
    | j + 1 => simp [rndL] at hl)
  have HB0 := Lib.hid ((Below.refl w.heap.size w).alloc (Nat.le_refl _) (.cells #[.slice A' n c'] 29))
  go_enter Try.func50, Try.ntmps50
  go_wp2_with fail
  go_loopg [5] n (fun gk vn wr => ∃ (k : Nat) (xs : List Value), gk + k = n ∧ Hid ((∀ j, j < k → clK ls (j + 1) ≠ clK ls j) ∧ RowsZ wr W vn (k + 1) xs (rndL ls k) ∧ Below w.heap.size w wr ∧ ∀ g, vn.ownBlock = some g → w.heap.size ≤ g))
  case atStart => exact ⟨0, _, by omega, Lib.hid ⟨fun j hj => by omega, HZ0.out, HB0.out, fun g hg => by simp [Value.ownBlock] at hg; omega⟩⟩
  case round =>
    rename Value => vq
    obtain ⟨k, xs, hgk, HW⟩ := hrel
    obtain ⟨gq, cq, A1, c1, rfl, hWq, hgl, hkc, e0, ho1, hb1⟩ := HW.out.2.1.at_ (show k < k + 1 by omega) (rndL_get (Nat.le_refl k))
    rw [show (clK ls k).length = n by rw [clK_len, HK.out.len]] at e0 ho1 hb1
    have HO1 := Lib.hid ho1
    have hsz := HW.out.2.2.1.size
    clear ho1 hb1
    go_wp2_with fail
    refine (split_any A n c ls A1 n c1 (clK ls k) wr.heap.size wr ((H.out.below (HW.out.2.2.1.mono hB)).more (by omega)) (Rd.ofOwn HO1.out) (Nat.le_refl _) (by omega) (by rw [clK_len, HK.out.len]) HK.out.tos (fun l hl => by have := HK.out.rows l hl; omega)).mono ?_
    rintro e w2 ⟨⟨v2, rfl, ho2, hb2⟩, hbl2⟩
    obtain ⟨A2, c2, rfl, _, _⟩ := own_form ho2
    have he : (numK (keyS ls (clK ls k)) n).1 = clK ls (k + 1) := by rw [clK_next, HK.out.len]
    rw [he] at ho2
    have HO3 := Lib.hid (own_out HO1.out (Below.new hbl2) (fun _ _ e => e))
    have HO2 := Lib.hid ho2
    have HX2 := Lib.hid (HW.out.2.1.out (Below.new hbl2) (fun _ _ _ e => e))
    have HB2 := Lib.hid (HW.out.2.2.1.trans (hbl2.mono hsz))
    have HBA := Lib.hid (show ∀ g, (Value.slice A2 n c2).ownBlock = some g → W ≤ g from fun g hg => Nat.le_trans (Nat.le_trans hWs hsz) (hb2 g hg))
    have hs2 := hbl2.size
    clear ho2 hb2 hbl2 he e0
    go_wp2_with fail
    obtain ⟨q, hq⟩ : ∃ q, decide (clK ls k = clK ls (k + 1)) = q := ⟨_, rfl⟩
    refine (intsN_any A1 A2 n c1 n c2 w2.heap.size (clK ls k) (clK ls (k + 1)) w2 (Rd.ofOwn HO3.out) (Rd.ofOwn HO2.out) (Nat.le_refl _) (by omega)).mono ?_
    rw [hq]
    rintro e w3 ⟨rfl, hb3⟩
    have HQ := Lib.hid hq
    have HX3 := Lib.hid (HX2.out.out (Below.new hb3) (fun _ _ _ e => e))
    have HO4 := Lib.hid (own_out HO2.out (Below.new hb3) (fun _ _ e => e))
    have hs3 : w.heap.size ≤ w3.heap.size := Nat.le_trans hsz (Nat.le_trans hs2 hb3.size)
    have HB3 := Lib.hid (HB2.out.trans (hb3.mono (Nat.le_trans hsz hs2)))
    clear hb3 hq
    cases q
    · have HNE := Lib.hid (show ∀ j, j < k + 1 → clK ls (j + 1) ≠ clK ls j from fun j hj => by
        by_cases e : j = k
        · subst e
          exact fun e2 => of_decide_eq_false HQ.out e2.symm
        · exact HW.out.1 j (by omega))
      have hk1 : k + 1 ≤ n := by have := round_le HNE.out; rw [HK.out.len] at this; exact this
      go_wp2_with (first | (at_builtin; go_must (refine appList_blk rfl slIntRow rfl (World.ownsRow.alloc HX3.out.own _) rfl (news := [.slice A2 n c2]) ((heap_alloc_at rfl) : Blk _ w3.heap.size _ _) rfl rfl (by simp [Value.oneCell']) (by decide) (by unfold maxLen; omega) (by omega) ?_); intro g8 c8 w8 hown8 hgrow8 hat8; refine Stop7.intro ?_))
      unfold Stop7
      have hO8 : Outside (fun x => (Value.slice (some ⟨gq, 0, none⟩) (k + 1) cq).ownBlock = some x) w3 w8 := ((Outside.refl (fun x => (Value.slice (some ⟨gq, 0, none⟩) (k + 1) cq).ownBlock = some x) w3).alloc (.cells #[.slice A2 n c2] 29)).grown hgrow8 (fun z hz => .inl hz)
      have HX8 := Lib.hid (show RowsZ w8 W (.slice (some ⟨g8, 0, none⟩) (k + 1 + 1) c8) (k + 1 + 1) (xs ++ [.slice A2 n c2]) (rndL ls (k + 1)) from by
        rw [rndL_snoc]
        refine HX3.out.snoc hown8 (fun g hg => ?_) hO8 (by rw [show (clK ls (k + 1)).length = n by rw [clK_len, HK.out.len]]; exact HO4.out) HBA.out
        have h1 : g8 = g := by simpa [Value.ownBlock] using hg
        rcases hat8 with h | h
        · exact HX3.out.base g (by rw [← h1]; exact h)
        · simp at h
          omega)
      have HB8 := Lib.hid (HB3.out.trans (hO8.below hs3 (fun g hg e => by have := HW.out.2.2.2 g e; omega)))
      have HG8 := Lib.hid (show ∀ g, (Value.slice (some ⟨g8, 0, none⟩) (k + 1 + 1) c8).ownBlock = some g → w.heap.size ≤ g from fun g hg => by
        have h1 : g8 = g := by simpa [Value.ownBlock] using hg
        rcases hat8 with h | h
        · exact HW.out.2.2.2 g (by rw [← h1]; exact h)
        · simp at h
          omega)
      clear hO8 hown8 hgrow8 hat8
      go_wp2_with fail
      go_roundg (n - (k + 1))
      case measure => omega
      case rel => exact ⟨k + 1, _, by omega, Lib.hid ⟨HNE.out, HX8.out, HB8.out, HG8.out⟩⟩
    · go_wp2_with fail
      go_ret
      exact ⟨⟨_, k, xs, rfl, ⟨HW.out.1, (of_decide_eq_true HQ.out).symm⟩, HX3.out⟩, HB3.out⟩

set_option maxRecDepth 100000 in
theorem RRounds_any (A : Option Addr) (n c : Nat) (ls : List (List Arc)) (B : Nat) (w : World) (h : RdL w B A n ls) (hB : B ≤ w.heap.size) (hn : n ≤ 1000000000000) (hs : ∀ l ∈ ls, l.length ≤ 100000) :
    Calls Try.prog 38 #[lts A n c] w fun e w' => (∃ (A' : Option Addr) (n' c' : Nat) (rs : List (List Nat)), e = .returned (.slice A' n' c') ∧ RdZ w' w'.heap.size A' n' rs ∧ (validB ls = false ∧ rs = [] ∨ validB ls = true ∧ ∃ K, DoneR ls K ∧ rs = rndL ls K)) ∧ Below w.heap.size w w' := by
  have HS := Lib.hid hs
  have HL := Lib.hid h.len
  have HR0 := Lib.hid (h.alloc hB (.cells #[.slice A n c] 27))
  have HN0 := Lib.hid (Blk.new w 27 #[.slice A n c])
  have HB0 := Lib.hid ((Below.refl w.heap.size w).alloc (Nat.le_refl _) (.cells #[.slice A n c] 27))
  obtain ⟨i0, hi0, hz0, hz1, hz2⟩ := info_parts infoInt
  obtain ⟨v, hv⟩ : ∃ v, validB ls = v := ⟨_, rfl⟩
  have HV := Lib.hid hv
  clear h hs hv
  go_enter Try.func38, Try.ntmps38
  go_wp2_with fail
  refine (rvalidL_any A n c B ls _ HR0.out (by simp; omega) (by omega) (fun l hl => by have := HS.out l hl; omega)).mono ?_
  rw [HV.out]
  rintro e w1 ⟨rfl, hb1⟩
  have hs1 : w.heap.size + 1 ≤ w1.heap.size := by have := hb1.size; simpa using this
  have HW1 := Lib.hid (And.intro (HR0.out.below (hb1.mono (by simp; omega))) (And.intro (HN0.out.below hb1 HN0.out.lt) (HB0.out.trans (hb1.mono (by simp)))))
  clear hb1
  have n1c := HW1.out.2.1.cell
  have n1l := HW1.out.2.1.lt
  cases v
  · go_wp2_with fail
    go_ret
    exact ⟨⟨none, 0, 0, [], rfl, RdZ.nil, .inl ⟨HV.out, rfl⟩⟩, HW1.out.2.2⟩
  · have HO := Lib.hid (ok_of_valid HV.out HL.out HS.out)
    have hn2 := HO.out.few
    have HZ := Lib.hid (show ((w1.alloc (.cells (madeCells (Value.int .i64 0).cells n) 3)).drew).ownsRow 0 3 1 (.slice (some ⟨w1.heap.size, 0, none⟩) n n) n (cellsOf ncell (clK ls 0)) ∧ RdL ((w1.alloc (.cells (madeCells (Value.int .i64 0).cells n) 3)).drew) B A n ls ∧ Blk ((w1.alloc (.cells (madeCells (Value.int .i64 0).cells n) 3)).drew) w.heap.size 27 #[.slice A n c] ∧ Below w.heap.size w ((w1.alloc (.cells (madeCells (Value.int .i64 0).cells n) 3)).drew) from by
      refine ⟨?_, (HW1.out.1.alloc (by omega) _).drewN 1, (HW1.out.2.1.alloc _).drewN 1, (HW1.out.2.2.alloc (by omega) _).drew⟩
      rw [clK, HL.out, made_ncells]
      exact ⟨by rw [cellsOf_length ncell_len, List.length_replicate], .inr ⟨w1.heap.size, n, (cellsOf ncell (List.replicate n 0)).toArray, rfl, Nat.zero_le _, heap_alloc_at (by simp), Nat.le_refl _, by unfold maxLen; omega, by simp [cellsOf_length ncell_len], by rw [List.take_of_length_le (by simp [cellsOf_length ncell_len])]⟩⟩)
    have n2c := HZ.out.2.2.1.cell
    have n2l := HZ.out.2.2.1.lt
    go_wp2_with (first | ((with_reducible show wpPlan _ _ _ ((5, 2, _) :: _) _ _ _); refine wpPlan_eff rfl rfl (fun _ hK => ?_); refine make_wp _ _ _ 29 rfl 3 i0 (.int .i64 0) Try.underlying29 hi0 hz0 hz1 _ _ n rfl rfl (by rw [hz2]; omega) (by omega) ?_; refine hK _ _ ?_; clear hK) | ((with_reducible show wpPlan _ _ _ _ _ (Act.put _ _ _) _); simp only [List.getElem_toArray, List.getElem_cons_succ, List.getElem_cons_zero, Act.put, List.setIfInBounds_toArray, List.set_cons_zero, List.set_cons_succ]) | ((with_reducible show wpPlan _ _ _ _ _ _ _); first | refine wpPlan_nil ?_ | (refine wpPlan_read0 rfl ?hw rfl (fun _ _ _ => ?_); case hw => ((conv => (lhs; whnf)); first | done | with_reducible rfl)) | (refine wpPlan_read1d rfl ?hw rfl rfl (fun _ _ _ => ?_); case hw => ((conv => (lhs; whnf)); first | done | with_reducible rfl)) | (refine wpPlan_eff rfl ?hw (fun _ _ => ?_); case hw => ((conv => (lhs; whnf)); first | done | with_reducible rfl)) | (refine wpPlan_skip0 rfl ?hw ?_; case hw => ((conv => (lhs; whnf)); first | done | with_reducible rfl)) | (refine wpPlan_skip1d rfl ?hw ?_; case hw => ((conv => (lhs; whnf)); first | done | with_reducible rfl)) | (refine wpPlan_skip2 rfl ?hw ?_; case hw => ((conv => (lhs; whnf)); first | done | with_reducible rfl)) | (refine wpPlan_read1 rfl ?hw rfl (fun _ _ _ => ?_); case hw => ((conv => (lhs; whnf)); first | done | with_reducible rfl)) | refine wpPlan_fork ?_ ?_) | ((with_reducible show Owed _ _ _ _ _ _ _ _ _); first | refine Owed.none_ ?_ | refine Owed.nil_ ?_ | refine Owed.miss rfl ?_ | refine Owed.hit ?_ ?_) | ((with_reducible show Same _ _ _ _ _); intro _; go_simp; done) | (with_reducible exact True.intro) | ((with_reducible show Code.wp _ (Code.region 3 _ true) _ _ _); refine wp_region_plan [(0, 1, []), (1, 1, []), (2, 1, []), (3, 1, []), (4, 1, []), (5, 2, [0, 1]), (6, 2, []), (7, 0, [])] (by kernel_rfl) (by kernel_rfl) (by kernel_rfl) ?_))
    refine (rrounds_any A (some ⟨w1.heap.size, 0, none⟩) n c n (w.heap.size + 1) ls B _ HZ.out.2.1 (by simp; omega) HO.out HZ.out.1 (fun g hg => by simp [Value.ownBlock] at hg; omega) (by simp; omega)).mono ?_
    rintro e w2 ⟨⟨v2, K, xs, rfl, hd, ho2⟩, hb2⟩
    obtain ⟨A2, c2, rfl, _, _⟩ := own_form ho2.own
    have HZ2 := Lib.hid (And.intro ho2.whole (And.intro hd (HZ.out.2.2.2.trans (hb2.mono (by simp; omega)))))
    clear ho2 hb2 hd
    go_wp2_with (first | ((with_reducible show wpPlan _ _ _ _ _ (Act.put _ _ _) _); simp only [List.getElem_toArray, List.getElem_cons_succ, List.getElem_cons_zero, Act.put, List.setIfInBounds_toArray, List.set_cons_zero, List.set_cons_succ]) | ((with_reducible show wpPlan _ _ _ _ _ _ _); first | refine wpPlan_nil ?_ | (refine wpPlan_read0 rfl ?hw rfl (fun _ _ _ => ?_); case hw => ((conv => (lhs; whnf)); first | done | with_reducible rfl)) | (refine wpPlan_read1d rfl ?hw rfl rfl (fun _ _ _ => ?_); case hw => ((conv => (lhs; whnf)); first | done | with_reducible rfl)) | (refine wpPlan_eff rfl ?hw (fun _ _ => ?_); case hw => ((conv => (lhs; whnf)); first | done | with_reducible rfl)) | (refine wpPlan_skip0 rfl ?hw ?_; case hw => ((conv => (lhs; whnf)); first | done | with_reducible rfl)) | (refine wpPlan_skip1d rfl ?hw ?_; case hw => ((conv => (lhs; whnf)); first | done | with_reducible rfl)) | (refine wpPlan_skip2 rfl ?hw ?_; case hw => ((conv => (lhs; whnf)); first | done | with_reducible rfl)) | (refine wpPlan_read1 rfl ?hw rfl (fun _ _ _ => ?_); case hw => ((conv => (lhs; whnf)); first | done | with_reducible rfl)) | refine wpPlan_fork ?_ ?_) | ((with_reducible show Owed _ _ _ _ _ _ _ _ _); first | refine Owed.none_ ?_ | refine Owed.nil_ ?_ | refine Owed.miss rfl ?_ | refine Owed.hit ?_ ?_) | ((with_reducible show Same _ _ _ _ _); intro _; go_simp; done) | (with_reducible exact True.intro) | ((with_reducible show Code.wp _ (Code.region 3 _ true) _ _ _); refine wp_region_plan [(0, 1, []), (1, 1, []), (2, 1, []), (3, 1, []), (4, 1, []), (5, 2, [0, 1]), (6, 2, []), (7, 0, [])] (by kernel_rfl) (by kernel_rfl) (by kernel_rfl) ?_))
    go_ret
    exact ⟨⟨A2, K + 1, c2, _, rfl, HZ2.out.1, .inr ⟨HV.out, K, HZ2.out.2.1, rfl⟩⟩, HZ2.out.2.2⟩

set_option maxRecDepth 100000 in
theorem Strong_any (A : Option Addr) (n c : Nat) (ls : List (List Arc)) (B : Nat) (w : World) (h : RdL w B A n ls) (hB : B ≤ w.heap.size) (hn : n ≤ 1000000000000) (hs : ∀ l ∈ ls, l.length ≤ 100000) :
    Calls Try.prog 17 #[lts A n c] w fun e w' => (∃ (A' : Option Addr) (n' c' : Nat) (cl : List Nat), e = .returned (.slice A' n' c') ∧ Rd w' w'.heap.size 1 A' n' (cellsOf ncell cl) ∧ (validB ls = false ∧ cl = [] ∨ validB ls = true ∧ ∃ K, DoneR ls K ∧ cl = clK ls K)) ∧ Below w.heap.size w w' := by
  have HS := Lib.hid hs
  have HL := Lib.hid h.len
  have HR0 := Lib.hid (h.alloc hB (.cells #[.slice A n c] 27))
  have HN0 := Lib.hid (Blk.new w 27 #[.slice A n c])
  have HB0 := Lib.hid ((Below.refl w.heap.size w).alloc (Nat.le_refl _) (.cells #[.slice A n c] 27))
  clear h hs
  go_enter Try.func17, Try.ntmps17
  go_wp2_with fail
  refine (RRounds_any A n c ls B _ HR0.out (by simp; omega) (by omega) HS.out).mono ?_
  rintro e w1 ⟨⟨A1, n1, c1, rs, rfl, hz, hv⟩, hb1⟩
  have HZ := Lib.hid hz
  have HB1 := Lib.hid (HB0.out.trans (hb1.mono (by simp)))
  rcases hv with ⟨hv, rfl⟩ | ⟨hv, K, hK, rfl⟩
  · obtain rfl : n1 = 0 := hz.len.symm
    clear hb1 hz
    go_wp2_with fail
    go_ret
    exact ⟨⟨none, 0, 0, [], rfl, Rd.nil, .inl ⟨hv, rfl⟩⟩, HB1.out⟩
  · have hn1 : n1 = K + 1 := by rw [← hz.len, rndL_len]
    subst hn1
    obtain ⟨b1, o1, l, A', n', c', rfl, hb, hl, hln, e0, hr⟩ := hz.row (i := K) (by omega)
    rw [rndL_get (Nat.le_refl K)] at hl
    obtain rfl := Option.some.inj hl
    have HR := Lib.hid hr
    have hkn : K < 1000000000 := by have := round_le hK.1; have := (ok_of_valid hv HL.out HS.out).few; have := HL.out; omega
    clear hb1 hz hr hl
    go_wp2_with fail
    go_ret
    exact ⟨⟨A', n', c', _, rfl, HR.out, .inr ⟨hv, K, hK, rfl⟩⟩, HB1.out⟩

end Go.Proofs.Ytmciinikfjfegaa
