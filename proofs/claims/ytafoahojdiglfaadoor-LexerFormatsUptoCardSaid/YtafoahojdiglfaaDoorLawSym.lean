/- LexerSymbols: the law -/
import Derived.Test.YtafoahojdiglfaaDoorLl1
import Derived.Test.YtafoahojdiglfaaDoorIns
import Derived.Test.YtafoahojdiglfaaDoorRef
import Derived.Lib.SliceRun
namespace Go.Proofs.YtafoahojdiglfaaDoor
open Go Go.RowKit
set_option maxHeartbeats 4000000
attribute [local irreducible] kwB syB clB

/-- append of what reads at a place, at the operation. -/
theorem app_rdS {P : Program} {w : World} {o : Oper} {a : Act} {K : Act → World → Prop} {Q : Exit → Act → World → Prop} {s x : Operand} {t e : TypeId} {size bytes : Nat}
    (hT : SlT P t e size bytes) (ho : o.op = .call { callee := .builtin .append, args := #[s, x], argTypes := #[t, t] })
    {v : Value} {n : Nat} {xs : List Value} (hown : w.ownsRow 0 e size v n xs) (hs : a.eval s = v)
    {ad : Addr} {B m c : Nat} {news : List Value} (hB : Rd w B size (some ad) m news) (hx : a.eval x = .slice (some ad) m c) (h1 : ∀ u ∈ news, u.oneCell' = true)
    (h63 : n + m ≤ maxLen) (hbytes : (n + m) * bytes ≤ 140737488355328)
    (h : ∀ v' w', w'.ownsRow 0 e size v' (n + m) (xs ++ news) → w.grownBy w' v.ownBlock → (v'.ownBlock = v.ownBlock ∨ v'.ownBlock = some w.heap.size) → K (a.put o.dst v') w') : o.wp P a w K Q := by
  obtain ⟨i, z, h2, h3, h4, h5, h6, h7, h8⟩ := hT
  have hnews : ∀ j u, news[j]? = some u → w.cell? (ad.add j) = some u := fun j u hu => by
    have hm : 0 < m := by
      have h0 := hB.1
      have := (List.getElem?_eq_some_iff.1 hu).1
      rcases Nat.eq_zero_or_pos m with e | e
      · rw [e] at h0; simp at h0; rw [h0] at this; simp at this
      · exact e
    obtain ⟨b, off, e, _, hc⟩ := hB.2 hm
    cases e
    rw [show (⟨b, off, none⟩ : Addr).add j = ⟨b, off + j, none⟩ from by simp [Addr.add]; try (intro h0; subst h0; rfl)]
    exact hc j u hu
  obtain ⟨v', w', hr, a1, a2, _, a3⟩ := run_append_own_at (P := P) w 0 t o.type e i z size bytes h2 h3 h4 h5 h6 h7 h8 v n xs hown ad m c news hB.1 hnews h1 h63 hbytes (Nat.zero_le _)
  unfold Oper.wp execOp
  simp only [ho, resolve, invoke, builtin, Sem.run_bind, Sem.run_pure, Result.andThen_ok, List.map_toArray, List.map_cons, List.map_nil, hs, hx, hr]
  exact h v' w' a1 a2 a3

theorem infoStr : (Tryd.prog.info? 9).map (fun i => (i.zero, i.size, i.bytes)) = some (some (.string ByteArray.empty), 1, 16) := by kernel_rfl
theorem slStr : SlT Tryd.prog 27 9 1 16 := SlT.of Tryd.underlying27 infoStr rfl (by decide)
theorem str_ones (l : List ByteArray) : ∀ u ∈ cellsOf scell l, u.oneCell' = true := cellsOf_one_cell (fun x u hu => by
  simp [scell] at hu
  rw [hu]
  rfl) l

set_option maxRecDepth 100000 in
theorem cloneS_any (ad : Addr) (n c B : Nat) (l : List ByteArray) (w : World) (h : Rd w B 1 (some ad) n (cellsOf scell l)) (hB : B ≤ w.heap.size) (hn : n ≤ 1000000000) :
    Calls Tryd.prog 45 #[.slice (some ad) n c] w fun e w' =>
      ∃ v', e = .returned v' ∧ w'.ownsRow 0 9 1 v' n (cellsOf scell l) ∧ Below w.heap.size w w' := by
  have H := Lib.hid h
  have qT : ∀ (w : World) (a : Option Addr) (n c n' c' : Nat), (binOp .eql 27 (.slice a n c) (.slice none n' c')).run Tryd.prog w = .ok (.bool a.isNone) w := fun w a n c n' c' => Lib.run_eql_slice_nil w _ _ a n c n' c' Tryd.underlying27
  clear h
  go_enter Tryd.func45, Tryd.ntmps45
  go_wp2_with (first | (at_builtin; refine Stop0.intro ?_))
  unfold Stop0
  have hown : (w.alloc (Obj.cells #[] 9)).ownsRow 0 9 1 (.slice (some ⟨w.heap.size, 0, none⟩) 0 0) 0 [] :=
    ⟨rfl, .inr ⟨w.heap.size, 0, #[], rfl, Nat.zero_le _, heap_alloc_new w _, Nat.le_refl _, by simp [maxLen], rfl, rfl⟩⟩
  refine wpList_plain rfl fun K hK => ?_
  refine app_rdS slStr rfl hown rfl (H.out.alloc hB (Obj.cells #[] 9)) (c := c) rfl (str_ones l) (by unfold maxLen; omega) (by omega) ?_
  intro v7 w7 hown7 hgrow7 hat7
  refine hK _ _ ?_
  clear hK
  go_wp2_with fail
  go_ret
  refine ⟨v7, rfl, by simpa using hown7, ?_⟩
  have hb := (Below.refl w.heap.size w).alloc (Nat.le_refl _) (Obj.cells #[] 9)
  have hO : Outside (fun z => z = w.heap.size) (w.alloc (Obj.cells #[] 9)) w7 := (Outside.refl _ _).grown hgrow7 (fun z hz => .inl (by cases hz; rfl))
  exact hb.trans (hO.below hb.size (fun z hz e => by omega))

set_option maxRecDepth 100000 in
theorem lsymbols_any (B : Nat) (w : World) (hG : Glob B w) : Calls Tryd.prog 26 #[] w fun e w' => ∃ v', e = .returned v' ∧ w'.ownsRow 0 9 1 v' 59 (cellsOf scell syB) ∧ Below w.heap.size w w' := by
  obtain ⟨hg, A, c, hc0, hR⟩ := hG.sy
  have hBs := hG.size
  rw [syB_len] at hc0 hR
  have HR := Lib.hid hR
  obtain ⟨b, off, rfl, _, _⟩ := hR.2 (by decide)
  clear hG hR
  go_enter Tryd.func26, Tryd.ntmps26
  go_wp2_with fail
  refine (cloneS_any _ 59 c B syB _ HR.out hBs (by decide)).mono ?_
  rintro e w1 ⟨v', rfl, ho, hb⟩
  obtain ⟨A', c', rfl, _, _⟩ := own_form ho
  have HO := Lib.hid ho
  have HB := Lib.hid hb
  clear ho hb
  go_wp2_with fail
  go_ret
  exact ⟨_, rfl, HO.out, HB.out⟩

set_option maxRecDepth 100000 in
theorem equalS_any (A A' : Option Addr) (n c c' B : Nat) (l : List ByteArray) (w : World) (h : Rd w B 1 A n (cellsOf scell l)) (h' : Rd w B 1 A' n (cellsOf scell l)) (hB : B ≤ w.heap.size) (hn : n ≤ 1000000000) :
    Calls Tryd.prog 25 #[.slice A n c, .slice A' n c'] w fun e w' => e = .returned (.bool true) ∧ Below w.heap.size w w' := by
  have H := Lib.hid h
  have H' := Lib.hid h'
  clear h h'
  go_enter Tryd.func25, Tryd.ntmps25
  go_wp2
  go_loopw [5] (fun vk wr => ∃ k : Nat, k ≤ n ∧ vk = .int .i64 k ∧ Below w.heap.size w wr) (fun vk _ => n - (intOf vk).toNat)
  case atStart => exact ⟨0, Nat.zero_le _, rfl, Below.refl _ _⟩
  case round =>
    obtain ⟨k, hk, rfl, hb⟩ := hrel
    have HB := Lib.hid hb
    by_cases hlt : k < n
    · obtain ⟨b1, o1, t, rfl, _, ht, c0⟩ := (H.out.keep (w' := wr) (fun p hp => hb.cell (by omega))).str hlt
      obtain ⟨b2, o2, t2, rfl, _, ht2, d0⟩ := (H'.out.keep (w' := wr) (fun p hp => hb.cell (by omega))).str hlt
      rw [ht] at ht2
      obtain rfl : t = t2 := by injection ht2
      clear ht ht2 hb
      go_wp2_with (first | ((with_reducible show wpPlan _ _ _ [] _ _ _); refine wpPlan_nil ?_) | ((with_reducible show wpPlan _ _ _ ((_, 0, _) :: _) _ _ _); first | (refine wpPlan_read0 rfl ?hw rfl (fun _ _ _ => ?_); case hw => ((conv => (lhs; whnf)); first | done | with_reducible rfl)) | (refine wpPlan_skip0 rfl ?hw ?_; (case hw => ((conv => (lhs; whnf)); first | done | with_reducible rfl)); (try simp only [List.getElem_toArray, List.getElem_cons_succ, List.getElem_cons_zero, Act.put, List.setIfInBounds_toArray, List.set_cons_zero, List.set_cons_succ]))) | ((with_reducible show wpPlan _ _ _ ((_, 1, _) :: _) _ _ _); first | (refine wpPlan_read1d rfl ?hw rfl rfl (fun _ _ _ => ?_); case hw => ((conv => (lhs; whnf)); first | done | with_reducible rfl)) | (refine wpPlan_skip1d rfl ?hw ?_; (case hw => ((conv => (lhs; whnf)); first | done | with_reducible rfl)); (try simp only [List.getElem_toArray, List.getElem_cons_succ, List.getElem_cons_zero, Act.put, List.setIfInBounds_toArray, List.set_cons_zero, List.set_cons_succ])) | (refine wpPlan_read1 rfl ?hw rfl (fun _ _ _ => ?_); case hw => ((conv => (lhs; whnf)); first | done | with_reducible rfl))) | ((with_reducible show wpPlan _ _ _ ((_, 2, _) :: _) _ _ _); first | (refine wpPlan_eff rfl ?hw (fun _ _ => ?_); case hw => ((conv => (lhs; whnf)); first | done | with_reducible rfl)) | (refine wpPlan_skip2 rfl ?hw ?_; (case hw => ((conv => (lhs; whnf)); first | done | with_reducible rfl)); (try simp only [List.getElem_toArray, List.getElem_cons_succ, List.getElem_cons_zero, Act.put, List.setIfInBounds_toArray, List.set_cons_zero, List.set_cons_succ]))) | ((with_reducible show wpPlan _ _ _ _ _ _ _); refine wpPlan_fork ?_ ?_) | ((with_reducible show Owed _ _ _ [] _ _ _ _ _); refine Owed.none_ ?_) | ((with_reducible show Owed _ _ _ _ [] _ _ _ _); refine Owed.nil_ ?_) | ((with_reducible show Owed _ _ _ _ _ _ _ _ _); first | (refine Owed.miss rfl ?_) | (refine Owed.hit ?_ ?_)) | ((with_reducible show Same _ _ _ _ _); intro _; go_simp; done) | (with_reducible exact True.intro) | ((with_reducible show Code.wp _ (Code.region 6 _ true) _ _ _); refine wp_region_plan [(0, 0, []), (1, 0, []), (2, 1, []), (3, 1, []), (4, 0, []), (5, 0, []), (6, 1, []), (7, 1, []), (8, 1, [])] (by kernel_rfl) (by kernel_rfl) (by kernel_rfl) ?_))
      go_roundw
      case rel => exact ⟨k + 1, by omega, by go_num, HB.out.drew⟩
      case measure => simp [intOf]; omega
    · clear hb
      go_wp2_with (first | ((with_reducible show wpPlan _ _ _ [] _ _ _); refine wpPlan_nil ?_) | ((with_reducible show wpPlan _ _ _ ((_, 0, _) :: _) _ _ _); first | (refine wpPlan_read0 rfl ?hw rfl (fun _ _ _ => ?_); case hw => ((conv => (lhs; whnf)); first | done | with_reducible rfl)) | (refine wpPlan_skip0 rfl ?hw ?_; (case hw => ((conv => (lhs; whnf)); first | done | with_reducible rfl)); (try simp only [List.getElem_toArray, List.getElem_cons_succ, List.getElem_cons_zero, Act.put, List.setIfInBounds_toArray, List.set_cons_zero, List.set_cons_succ]))) | ((with_reducible show wpPlan _ _ _ ((_, 1, _) :: _) _ _ _); first | (refine wpPlan_read1d rfl ?hw rfl rfl (fun _ _ _ => ?_); case hw => ((conv => (lhs; whnf)); first | done | with_reducible rfl)) | (refine wpPlan_skip1d rfl ?hw ?_; (case hw => ((conv => (lhs; whnf)); first | done | with_reducible rfl)); (try simp only [List.getElem_toArray, List.getElem_cons_succ, List.getElem_cons_zero, Act.put, List.setIfInBounds_toArray, List.set_cons_zero, List.set_cons_succ])) | (refine wpPlan_read1 rfl ?hw rfl (fun _ _ _ => ?_); case hw => ((conv => (lhs; whnf)); first | done | with_reducible rfl))) | ((with_reducible show wpPlan _ _ _ ((_, 2, _) :: _) _ _ _); first | (refine wpPlan_eff rfl ?hw (fun _ _ => ?_); case hw => ((conv => (lhs; whnf)); first | done | with_reducible rfl)) | (refine wpPlan_skip2 rfl ?hw ?_; (case hw => ((conv => (lhs; whnf)); first | done | with_reducible rfl)); (try simp only [List.getElem_toArray, List.getElem_cons_succ, List.getElem_cons_zero, Act.put, List.setIfInBounds_toArray, List.set_cons_zero, List.set_cons_succ]))) | ((with_reducible show wpPlan _ _ _ _ _ _ _); refine wpPlan_fork ?_ ?_) | ((with_reducible show Owed _ _ _ [] _ _ _ _ _); refine Owed.none_ ?_) | ((with_reducible show Owed _ _ _ _ [] _ _ _ _); refine Owed.nil_ ?_) | ((with_reducible show Owed _ _ _ _ _ _ _ _ _); first | (refine Owed.miss rfl ?_) | (refine Owed.hit ?_ ?_)) | ((with_reducible show Same _ _ _ _ _); intro _; go_simp; done) | (with_reducible exact True.intro) | ((with_reducible show Code.wp _ (Code.region 6 _ true) _ _ _); refine wp_region_plan [(0, 0, []), (1, 0, []), (2, 1, []), (3, 1, []), (4, 0, []), (5, 0, []), (6, 1, []), (7, 1, []), (8, 1, [])] (by kernel_rfl) (by kernel_rfl) (by kernel_rfl) ?_))
      go_ret
      exact ⟨rfl, HB.out⟩

set_option maxRecDepth 100000 in
theorem lexerSymbols_law (w : World) (hG : GlobE w.heap.size w) :
    Calls Tryd.prog 9 #[] w fun e w' => e = .returned (.bool true) ∧ Below w.heap.size w w' := by
  have HG := Lib.hid hG
  clear hG
  go_enter Tryd.func9, Tryd.ntmps9
  go_wp2_with fail
  refine (lawake_any _ _ HG.out).mono ?_
  rintro e w1 ⟨rfl, hb1⟩
  have HB1 := Lib.hid hb1
  clear hb1
  go_wp2_with fail
  refine (lsymbols_any _ _ (HG.out.below HB1.out).g).mono ?_
  rintro e w2 ⟨v2, rfl, ho2, hb2⟩
  obtain ⟨A2, c2, rfl, _, _⟩ := own_form ho2
  have HB2 := Lib.hid (HB1.out.trans (hb2.mono HB1.out.size))
  have HR2 := Lib.hid (Rd.ofOwn ho2)
  clear hb2 ho2
  go_wp2_with fail
  refine (symbols_any _).mono ?_
  rintro e w3 ⟨rfl, rfl⟩
  have HR3 := Lib.hid ((Rd.ofBlk (k := 1) (n := 59) (Blk.new w2 9 (cellsOf scell syB).toArray) syC_len))
  have HR2b := Lib.hid ((HR2.out.alloc (Nat.le_refl _) (.cells (cellsOf scell syB).toArray 9)).more (Nat.le_succ _))
  have HB3 := Lib.hid (HB2.out.alloc HB2.out.size (.cells (cellsOf scell syB).toArray 9))
  go_wp2_with fail
  refine (equalS_any A2 (some ⟨w2.heap.size, 0, none⟩) 59 c2 59 (w2.heap.size + 1) syB _ HR2b.out HR3.out (by simp) (by decide)).mono ?_
  rintro e w4 ⟨rfl, hb4⟩
  have HB4 := Lib.hid (HB3.out.trans (hb4.mono HB3.out.size))
  clear hb4
  go_wp2_with fail
  go_ret
  exact ⟨rfl, HB4.out⟩

end Go.Proofs.YtafoahojdiglfaaDoor
