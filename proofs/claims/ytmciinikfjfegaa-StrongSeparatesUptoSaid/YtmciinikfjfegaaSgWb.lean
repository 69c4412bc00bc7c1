/- the formula that tells two states apart: finder.add, where an arc has no like -/
import Derived.Test.YtmciinikfjfegaaSgWa
namespace Go.Proofs.Ytmciinikfjfegaa
open Go Go.RowKit
set_option maxHeartbeats 8000000

inductive FOks (ls : List (List Arc)) (u : Nat) : List Nat → Forms → Prop where
  | nil : FOks ls u [] .nil
  | cons {v : Nat} {vs : List Nat} {g : Form} {gs : Forms} : v < ls.length → AddOk ls u v g → FOks ls u vs gs → FOks ls u (v :: vs) (.cons g gs)
theorem FOks.len {ls : List (List Arc)} {u : Nat} {vs : List Nat} {gs : Forms} (h : FOks ls u vs gs) : gs.len = vs.length := by
  induction h with
  | nil => rfl
  | cons _ _ _ ih => rw [Forms.len, ih]; rfl
/-- the targets of the arcs with an event, of the first j -/
def agK (l : List Arc) (e : Int) (j : Nat) : List Nat := ((l.take j).filter fun a => decide (a.ev = e)).map fun a => a.to.toNat
theorem agK_next {l : List Arc} {e : Int} {j : Nat} {x : Arc} (h : l[j]? = some x) : agK l e (j + 1) = if x.ev = e then agK l e j ++ [x.to.toNat] else agK l e j := by
  rw [agK, agK, List.take_add_one, h, List.filter_append, List.map_append]
  by_cases hx : x.ev = e
  · rw [if_pos hx]
    simp [hx]
  · rw [if_neg hx]
    simp [hx]
theorem agK_len (l : List Arc) (e : Int) (j : Nat) : (agK l e j).length ≤ j := by
  rw [agK, List.length_map]
  refine Nat.le_trans (List.length_filter_le _ _) ?_
  rw [List.length_take]
  omega

set_option maxRecDepth 100000 in
theorem add_may {ls : List (List Arc)} {s t k : Nat} {a : Arc} {gs : Forms} (hs : s < ls.length) (ht : t < ls.length) (hl : IsLast ls s t k) (hw : wit ls s t k = some a) (ih : FOks ls a.to.toNat (against ls t a.ev) gs) : AddOk ls s t (.may a.ev (.con gs)) := by
  intro f n K AL AR cL cR vO out w h ho hd hown hbase hlen
  have hfl := h.blk.lt
  have hfc := h.blk.cell
  have H := Lib.hid (And.intro h (And.intro ho (And.intro hd (And.intro hown hbase))))
  have HI := Lib.hid ih
  have HP := Lib.hid (And.intro hl hw)
  have hsn : s < n := by have := ho.len; omega
  have htn : t < n := by have := ho.len; omega
  have hK : K ≤ 100000 := by have := round_le hd.1; have := ho.len; have := ho.few; omega
  have hato := ho.tos.row s a (List.mem_of_find?_eq_some hw)
  obtain ⟨A1, c1, rfl, _, _⟩ := own_form hown
  obtain ⟨b3, o3, l3, A3, n3, c3, rfl, hb3, hl3, hln3, e3, hrow3⟩ := h.sys.row htn
  have hn3 : n3 ≤ 100000 := by have := ho.rows l3 (List.mem_of_getElem? hl3); omega
  have HL3 := Lib.hid (show rowAt ls t = l3 from rowAt_get hl3)
  have HTO := Lib.hid (show ∀ x ∈ l3, 0 ≤ x.to from fun x hx => (ho.tos l3 (List.mem_of_getElem? hl3) x hx).1)
  have HR3 := Lib.hid hrow3
  have HE3 := Lib.hid e3
  have HLN := Lib.hid hln3
  have HST := Lib.hid (And.intro hs ht)
  obtain ⟨ae, at_⟩ := a
  dsimp only at hato ih HI ⊢
  obtain ⟨p, rfl⟩ : ∃ p : Nat, at_ = p := ⟨at_.toNat, by omega⟩
  rw [Int.toNat_natCast] at ih HI
  clear h ho hd hown hbase ih hl hw hs ht hl3 hrow3 e3 hato
  go_enter Try.func54, Try.ntmps54
  by_cases hbig : 4096 ≤ out.length
  · go_wp2_with fail
    go_ret
    exact ⟨false, _, out, ret_bool rfl, H.out.1, H.out.2.2.2.1, fun g hg => .inl hg, Outside.refl _ _, hlen, (fun e => by cases e), fun _ => by have := enc_pos (.may ae (.con gs)); omega⟩
  · go_wp2_with fail
    refine (last_any f s t n K ls _ AR cL cR _ w H.out.1 H.out.2.1.len hsn htn hK).mono ?_
    rintro e w2 ⟨⟨k', rfl, hk1, hk2, hk3⟩, hb2⟩
    obtain rfl := last_is H.out.2.2.1 HST.out.1 HST.out.2 HP.out.1 hk1 hk2 hk3
    have HF2 := Lib.hid (H.out.1.below hb2)
    have HB2 := Lib.hid hb2
    clear hk2 hk3 hb2 hfc
    go_wp2_with fail
    refine (witness_any f s t k' n K ls _ AR cL cR _ w2 HF2.out H.out.2.1 hsn htn hk1).mono ?_
    rintro e w3 ⟨hres, hb3'⟩
    have hres2 : e = .returned (.tuple #[.agg #[.int .i64 ae, .int .i64 (p : Nat)], .bool true]) := by
      rcases hres with ⟨b, h1, h2⟩ | ⟨h1, _⟩
      · rw [HP.out.2] at h1
        obtain rfl := Option.some.inj h1
        exact h2
      · rw [HP.out.2] at h1
        cases h1
    subst hres2
    have hs3 : w.heap.size ≤ w3.heap.size := Nat.le_trans HB2.out.size hb3'.size
    have HB3 := Lib.hid ((HB2.out.trans (hb3'.mono HB2.out.size)).alloc hs3 (.cells #[.int .i64 ae, .int .i64 (p : Nat)] 23))
    have HA3 := Lib.hid (Blk.new w3 23 #[.int .i64 ae, .int .i64 (p : Nat)])
    have hf3 : f < w3.heap.size := by omega
    clear hres hb3'
    have f3c := (H.out.1.blk.below HB3.out hfl).cell 0
    have e3 := (HB3.out.cell (p := ⟨b3, o3 + t, none⟩) (by dsimp only; omega)).trans HE3.out
    have hf3l : f < (w3.alloc (.cells #[.int .i64 ae, .int .i64 (p : Nat)] 23)).heap.size := by simp; omega
    go_wp2_with fail
    go_loopw [9, 56] (fun va vj wr => ∃ j : Nat, j ≤ n3 ∧ vj = .int .i64 j ∧ Hid (wr.ownsRow 0 3 1 va (agK l3 ae j).length (cellsOf ncell (agK l3 ae j)) ∧ (∀ g, va.ownBlock = some g → w.heap.size ≤ g) ∧ Blk wr w3.heap.size 23 #[.int .i64 ae, .int .i64 (p : Nat)] ∧ Below w.heap.size w wr)) (fun _ vj _ => n3 - (intOf vj).toNat)
    case atStart => exact ⟨0, Nat.zero_le _, rfl, Lib.hid ⟨World.ownsRow_nil _ _ _ _, fun g hg => by simp [Value.ownBlock] at hg, HA3.out, HB3.out⟩⟩
    case round =>
      rename Value => va
      obtain ⟨j, hj, rfl, HW⟩ := hrel
      obtain ⟨A5, c5, rfl, _, _⟩ := own_form HW.out.1
      have hsz := HW.out.2.2.2.size
      have hagl := agK_len l3 ae j
      clear f3c e3 hf3l
      by_cases hlt : j < n3
      · obtain ⟨b5, o5, x, rfl, hb5, hx, d0, d1⟩ := (HR3.out.keep (w' := wr) (fun q hq => HW.out.2.2.2.cell (by omega))).arc hlt
        have hxto := HTO.out x (List.mem_of_getElem? hx)
        obtain ⟨xe, xt⟩ := x
        dsimp only at d0 d1 hxto
        obtain ⟨q, rfl⟩ : ∃ q : Nat, xt = q := ⟨xt.toNat, by omega⟩
        have HN := Lib.hid (agK_next (e := ae) hx)
        have hb5l : b5 < wr.heap.size := by omega
        have ha := HW.out.2.2.1.alloc (.cells #[.int .i64 xe, .int .i64 q] 23)
        have hac := ha.cell
        have hal := ha.lt
        have HA := Lib.hid ha
        have HBA := Lib.hid (HW.out.2.2.2.alloc hsz (.cells #[.int .i64 xe, .int .i64 q] 23))
        have HO := Lib.hid (HW.out.1.alloc (.cells #[.int .i64 xe, .int .i64 q] 23))
        clear hx ha
        by_cases hxe : xe = ae
        · subst hxe
          have HN2 := Lib.hid (show agK l3 xe (j + 1) = agK l3 xe j ++ [q] by rw [HN.out, if_pos rfl]; rfl)
          clear HN
          go_wp2_with (first | (at_builtin; go_must (refine appList_blk rfl slInt rfl (World.ownsRow.alloc HO.out _) rfl (news := [.int .i64 q]) ((heap_alloc_at (by simp)) : Blk _ (wr.heap.size + 1) _ _) rfl rfl (by simp [Value.oneCell']) (by decide) (by unfold maxLen; omega) (by omega) ?_); intro g8 c8 w8 hown8 hgrow8 hat8; refine Stop7.intro ?_))
          unfold Stop7
          have hg8 : ((wr.alloc (.cells #[.int .i64 xe, .int .i64 q] 23)).alloc (.cells #[.int .i64 q] 3)).grownBy w8 (Value.slice A5 (agK l3 xe j).length c5).ownBlock := hgrow8
          have hne : some w3.heap.size ≠ (Value.slice A5 (agK l3 xe j).length c5).ownBlock := fun e => own_apart HW.out.1 HW.out.2.2.1 (by decide) e.symm
          have HZ := Lib.hid (show w8.ownsRow 0 3 1 (.slice (some ⟨g8, 0, none⟩) ((agK l3 xe j).length + 1) c8) (agK l3 xe (j + 1)).length (cellsOf ncell (agK l3 xe (j + 1))) ∧ (∀ g, (Value.slice (some ⟨g8, 0, none⟩) ((agK l3 xe j).length + 1) c8).ownBlock = some g → w.heap.size ≤ g) ∧ Blk w8 w3.heap.size 23 #[.int .i64 xe, .int .i64 (p : Nat)] ∧ Below w.heap.size w w8 from by
            refine ⟨by rw [HN2.out, cellsOf_append, List.length_append]; exact hown8, fun g hg => ?_, (HA.out.alloc (.cells #[.int .i64 q] 3)).grown hg8 hne, (HBA.out.alloc (Nat.le_trans hsz (by simp)) (.cells #[.int .i64 q] 3)).grown hg8 (by simp; omega) (fun z hz => HW.out.2.1 z hz)⟩
            have h1 : g8 = g := by simpa [Value.ownBlock] using hg
            rcases hat8 with h | h
            · exact HW.out.2.1 g (by rw [← h1]; exact h)
            · simp at h
              omega)
          clear hown8 hgrow8 hat8 hg8 hne d0 d1 hac hal
          go_wp2_with fail
          go_roundw
          case rel => exact ⟨j + 1, by omega, by go_num, HZ⟩
          case measure => simp [intOf]; omega
        · have hee : (xe == ae) = false := by simp [hxe]
          have HN2 := Lib.hid (show agK l3 ae (j + 1) = agK l3 ae j by rw [HN.out, if_neg hxe])
          have HZ := Lib.hid (show (wr.alloc (.cells #[.int .i64 xe, .int .i64 q] 23)).ownsRow 0 3 1 (.slice A5 (agK l3 ae j).length c5) (agK l3 ae (j + 1)).length (cellsOf ncell (agK l3 ae (j + 1))) from by
            rw [HN2.out]
            exact HO.out)
          clear HN
          go_wp2_with fail
          go_roundw
          case rel => exact ⟨j + 1, by omega, by go_num, Lib.hid ⟨HZ.out, HW.out.2.1, HA.out, HBA.out⟩⟩
          case measure => simp [intOf]; omega
      · have HAG := Lib.hid (show agK l3 ae j = against ls t ae by
          rw [agK, List.take_of_length_le (by rw [HLN.out]; omega), against, HL3.out])
        obtain ⟨vs, hvs⟩ : ∃ vs, against ls t ae = vs := ⟨_, rfl⟩
        have HWO := Lib.hid (show wr.ownsRow 0 3 1 (.slice A5 (agK l3 ae j).length c5) vs.length (cellsOf ncell vs) from by
          rw [← hvs, ← HAG.out]
          exact HW.out.1)
        obtain ⟨m, hm⟩ : ∃ m, (agK l3 ae j).length = m := ⟨_, rfl⟩
        rw [hm] at HWO hagl
        have HVM := Lib.hid (show vs.length = m by rw [← hvs, ← HAG.out, hm])
        have HIH := Lib.hid (show FOks ls p vs gs from hvs ▸ HI.out)
        have hOW := HW.out.2.2.2
        have HFw := Lib.hid (H.out.1.below hOW)
        have hfc2 := HFw.out.blk.cell
        have hfl2 := HFw.out.blk.lt
        have hff2 := HFw.out.blk.frozen 2
        have hac := HW.out.2.2.1.cell
        have hal := HW.out.2.2.1.lt
        have HO0 := Lib.hid (own_out H.out.2.2.2.1 (Below.new hOW) (fun _ _ e => e))
        have HARC := Lib.hid HW.out.2.2.1
        have HBWR := Lib.hid hOW
        have HBAS := Lib.hid (show ∀ g, (Value.slice A5 m c5).ownBlock = some g → w.heap.size ≤ g from hm ▸ HW.out.2.1)
        have hm2 : m ≤ 100000 := by omega
        clear hvs hOW
        rw [hm]
        clear hm
        go_wp2_with (first | ((with_reducible show wpPlan _ _ _ ((12, 2, _) :: _) _ _ _); refine wpPlan_eff rfl rfl (fun _ hK => ?_); refine app_blk slFN rfl (World.ownsRow.alloc HO0.out _) rfl (news := [.int .i64 2, .int .i64 ae, .int .i64 1, .int .i64 4, .int .i64 0, .int .i64 m]) ((heap_alloc_at rfl) : Blk _ wr.heap.size _ _) rfl rfl (by simp [Value.oneCell']) (by decide) (by unfold maxLen; omega) (by omega) ?_; intro g8 c8 w8 hown8 hgrow8 hat8; refine hK _ _ ?_; refine Stop7.intro ?_) | ((with_reducible show wpPlan _ _ _ _ _ (Act.put _ _ _) _); simp only [List.getElem_toArray, List.getElem_cons_succ, List.getElem_cons_zero, Act.put, List.setIfInBounds_toArray, List.set_cons_zero, List.set_cons_succ]) | ((with_reducible show wpPlan _ _ _ _ _ _ _); first | refine wpPlan_nil ?_ | (refine wpPlan_read0 rfl ?hw rfl (fun _ _ _ => ?_); case hw => ((conv => (lhs; whnf)); first | done | with_reducible rfl)) | (refine wpPlan_read1d rfl ?hw rfl rfl (fun _ _ _ => ?_); case hw => ((conv => (lhs; whnf)); first | done | with_reducible rfl)) | (refine wpPlan_eff rfl ?hw (fun _ _ => ?_); case hw => ((conv => (lhs; whnf)); first | done | with_reducible rfl)) | (refine wpPlan_skip0 rfl ?hw ?_; case hw => ((conv => (lhs; whnf)); first | done | with_reducible rfl)) | (refine wpPlan_skip1d rfl ?hw ?_; case hw => ((conv => (lhs; whnf)); first | done | with_reducible rfl)) | (refine wpPlan_skip2 rfl ?hw ?_; case hw => ((conv => (lhs; whnf)); first | done | with_reducible rfl)) | (refine wpPlan_read1 rfl ?hw rfl (fun _ _ _ => ?_); case hw => ((conv => (lhs; whnf)); first | done | with_reducible rfl)) | refine wpPlan_fork ?_ ?_) | ((with_reducible show Owed _ _ _ _ _ _ _ _ _); first | refine Owed.none_ ?_ | refine Owed.nil_ ?_ | refine Owed.miss rfl ?_ | refine Owed.hit ?_ ?_) | ((with_reducible show Same _ _ _ _ _); intro _; go_simp; done) | (with_reducible exact True.intro) | ((with_reducible show Code.wp _ (Code.region 14 _ true) _ _ _); refine wp_region_plan [(0, 0, []), (1, 0, []), (2, 1, []), (3, 1, []), (4, 1, []), (5, 1, []), (6, 1, []), (7, 1, []), (8, 0, []), (9, 1, []), (10, 1, []), (11, 2, [2, 3, 4]), (12, 2, []), (13, 1, []), (14, 1, []), (15, 2, [])] (by kernel_rfl) (by kernel_rfl) (by kernel_rfl) ?_))
        unfold Stop7
        have hg8 : ((wr.alloc (.cells #[.int .i64 2, .int .i64 ae, .int .i64 1, .int .i64 4, .int .i64 0, .int .i64 m] 58)).drew).grownBy w8 (Value.slice A1 out.length c1).ownBlock := hgrow8
        have hO8 : Outside (fun x => (Value.slice A1 out.length c1).ownBlock = some x) wr w8 := (((Outside.refl (fun x => (Value.slice A1 out.length c1).ownBlock = some x) wr).alloc (.cells #[.int .i64 2, .int .i64 ae, .int .i64 1, .int .i64 4, .int .i64 0, .int .i64 m] 58)).drew).grown hg8 (fun z hz => .inl hz)
        have hfrom : ∀ x, (Value.slice (some ⟨g8, 0, none⟩) (out.length + 2) c8).ownBlock = some x → (Value.slice A1 out.length c1).ownBlock = some x ∨ w.heap.size ≤ x := fun x hx => by
          have h1 : g8 = x := by simpa [Value.ownBlock] using hx
          rcases hat8 with h | h
          · exact .inl (by rw [← h1]; exact h)
          · simp at h
            exact .inr (by have := HBWR.out.size; omega)
        have hbase8 : ∀ x, (Value.slice (some ⟨g8, 0, none⟩) (out.length + 2) c8).ownBlock = some x → f < x := fun x hx => by
          rcases hfrom x hx with h | h
          · exact H.out.2.2.2.2 x h
          · omega
        have ho8 : w8.ownsRow 0 58 3 (.slice (some ⟨g8, 0, none⟩) (out.length + 2) c8) (out ++ [FNode.mk 2 ae 1, FNode.mk 4 0 m]).length (cellsOf FNode.cells (out ++ [FNode.mk 2 ae 1, FNode.mk 4 0 m])) := by
          rw [cellsOf_append, List.length_append]
          exact hown8
        have hbk8 := HFw.out.blk.out hO8 (fun e => by have := H.out.2.2.2.2 f e; omega)
        have f8c := hbk8.cell 2
        have f8l := hbk8.lt
        have f8f := hbk8.frozen 2
        have hOs : Outside (fun k => k = f) w8 (w8.setCell ⟨f, 2, none⟩ (.slice (some ⟨g8, 0, none⟩) (out.length + 2) c8)) := (Outside.refl (fun k => k = f) _).setCell (p := ⟨f, 2, none⟩) (.inl rfl) _
        have HF8 := Lib.hid (HFw.out.put hO8 H.out.2.2.2.2 (.slice (some ⟨g8, 0, none⟩) (out.length + 2) c8))
        have HO9 := Lib.hid (own_setCell ho8 (p := ⟨f, 2, none⟩) (fun e => by have := hbase8 f e; omega) (.slice (some ⟨g8, 0, none⟩) (out.length + 2) c8))
        have HBS := Lib.hid hbase8
        have HFR := Lib.hid hfrom
        have HV8 := Lib.hid ((own_out (own_out HWO.out hO8 (fun x hx e => own_apart_own HWO.out HO0.out (by decide) hx e)) hOs (fun x hx e => by have := HBAS.out x hx; omega)))
        have ha8 := (HARC.out.out hO8 (fun e => own_apart HO0.out HARC.out (by decide) e)).out hOs (by omega)
        have HA8 := Lib.hid ha8
        have HOA := Lib.hid (show Outside (fun k => k = f ∨ (Value.slice A1 out.length c1).ownBlock = some k ∨ w.heap.size ≤ k) w (w8.setCell ⟨f, 2, none⟩ (.slice (some ⟨g8, 0, none⟩) (out.length + 2) c8)) from
          (((Below.new HBWR.out).mono (fun _ _ e => e.elim)).trans (hO8.mono (fun k _ e => .inr (.inl e)))).setCell (p := ⟨f, 2, none⟩) (.inl (.inl rfl)) _)
        clear hown8 hgrow8 hat8 hg8 hO8 hfrom hbase8 ho8 hbk8 hOs ha8 hfc2 hfl2 hff2 hac hal
        go_wp2_with (first | ((with_reducible show wpPlan _ _ _ _ _ (Act.put _ _ _) _); simp only [List.getElem_toArray, List.getElem_cons_succ, List.getElem_cons_zero, Act.put, List.setIfInBounds_toArray, List.set_cons_zero, List.set_cons_succ]) | ((with_reducible show wpPlan _ _ _ _ _ _ _); first | refine wpPlan_nil ?_ | (refine wpPlan_read0 rfl ?hw rfl (fun _ _ _ => ?_); case hw => ((conv => (lhs; whnf)); first | done | with_reducible rfl)) | (refine wpPlan_read1d rfl ?hw rfl rfl (fun _ _ _ => ?_); case hw => ((conv => (lhs; whnf)); first | done | with_reducible rfl)) | (refine wpPlan_eff rfl ?hw (fun _ _ => ?_); case hw => ((conv => (lhs; whnf)); first | done | with_reducible rfl)) | (refine wpPlan_skip0 rfl ?hw ?_; case hw => ((conv => (lhs; whnf)); first | done | with_reducible rfl)) | (refine wpPlan_skip1d rfl ?hw ?_; case hw => ((conv => (lhs; whnf)); first | done | with_reducible rfl)) | (refine wpPlan_skip2 rfl ?hw ?_; case hw => ((conv => (lhs; whnf)); first | done | with_reducible rfl)) | (refine wpPlan_read1 rfl ?hw rfl (fun _ _ _ => ?_); case hw => ((conv => (lhs; whnf)); first | done | with_reducible rfl)) | refine wpPlan_fork ?_ ?_) | ((with_reducible show Owed _ _ _ _ _ _ _ _ _); first | refine Owed.none_ ?_ | refine Owed.nil_ ?_ | refine Owed.miss rfl ?_ | refine Owed.hit ?_ ?_) | ((with_reducible show Same _ _ _ _ _); intro _; go_simp; done) | (with_reducible exact True.intro) | ((with_reducible show Code.wp _ (Code.region 14 _ true) _ _ _); refine wp_region_plan [(0, 0, []), (1, 0, []), (2, 1, []), (3, 1, []), (4, 1, []), (5, 1, []), (6, 1, []), (7, 1, []), (8, 0, []), (9, 1, []), (10, 1, []), (11, 2, [2, 3, 4]), (12, 2, []), (13, 1, []), (14, 1, []), (15, 2, [])] (by kernel_rfl) (by kernel_rfl) (by kernel_rfl) ?_))
        clear f8c f8l f8f
        obtain ⟨T, hT⟩ : ∃ T, (Form.may ae (.con gs)).enc = T := ⟨_, rfl⟩
        have hTe : T = FNode.mk 2 ae 1 :: FNode.mk 4 0 m :: gs.enc := by
          rw [← hT, Form.enc, Form.enc, HIH.out.len, HVM.out]
        have HTE := Lib.hid hTe
        have HT := Lib.hid hT
        have hm2' : m ≤ 100000 := hm2
        clear hT hTe
        go_loopw [88] (fun vi wz => ∃ (j : Nat) (vj : Value) (oj : List FNode) (gj : Forms), j ≤ m ∧ vi = .int .i64 j ∧ Hid (FOks ls p (vs.drop j) gj ∧ oj ++ gj.enc = out ++ T ∧ FinAt wz f (some ⟨b3, o3, none⟩) n cL ls AR K cR vj ∧ wz.ownsRow 0 58 3 vj oj.length (cellsOf FNode.cells oj) ∧ (∀ x, vj.ownBlock = some x → f < x) ∧ oj.length ≤ 4098 ∧
          (∀ x, vj.ownBlock = some x → (Value.slice A1 out.length c1).ownBlock = some x ∨ w.heap.size ≤ x) ∧ wz.ownsRow 0 3 1 (.slice A5 m c5) vs.length (cellsOf ncell vs) ∧ Blk wz w3.heap.size 23 #[.int .i64 ae, .int .i64 (p : Nat)] ∧
          Outside (fun k => k = f ∨ (Value.slice A1 out.length c1).ownBlock = some k ∨ w.heap.size ≤ k) w wz)) (fun vi _ => m - (intOf vi).toNat)
        case atStart => exact ⟨0, _, out ++ [FNode.mk 2 ae 1, FNode.mk 4 0 m], gs, Nat.zero_le _, rfl, Lib.hid ⟨by rw [List.drop_zero]; exact HIH.out, by rw [HTE.out, List.append_assoc]; rfl, HF8.out, HO9.out, HBS.out, by simp; omega, HFR.out, HV8.out, HA8.out, HOA.out⟩⟩
        case round =>
          rename World => wz
          obtain ⟨j, vj, oj, gj, hj, rfl, HZ⟩ := hrel
          obtain ⟨z1, z2, z3, z4, z5, z6, z7, z8, z9, z10⟩ := HZ.out
          have hac := z9.cell
          have hal := z9.lt
          have hws := z10.size
          by_cases hlt : j < m
          · obtain ⟨b6, o6, v, e6, hb6, hv, d0⟩ := (Rd.ofOwn (by rw [HVM.out] at z8; exact z8)).nat hlt
            subst e6
            have hdc : vs.drop j = v :: vs.drop (j + 1) := by
              obtain ⟨hk, he⟩ := List.getElem?_eq_some_iff.1 hv
              rw [List.drop_eq_getElem_cons hk, he]
            rw [hdc] at z1
            obtain ⟨g, gs', rfl, hvl, ihg, hrest⟩ : ∃ g gs', gj = .cons g gs' ∧ v < ls.length ∧ AddOk ls p v g ∧ FOks ls p (vs.drop (j + 1)) gs' := by
              cases z1 with
              | cons h1 h2 h3 => exact ⟨_, _, rfl, h1, h2, h3⟩
            have Z2 := Lib.hid z2
            have Z3 := Lib.hid z3
            have Z4 := Lib.hid z4
            have Z5 := Lib.hid z5
            have Z7 := Lib.hid z7
            have Z8 := Lib.hid z8
            have Z9 := Lib.hid z9
            have Z10 := Lib.hid z10
            have IHG := Lib.hid ihg
            have HRE := Lib.hid hrest
            clear z1 z2 z3 z4 z5 z7 z8 z9 z10 hv hdc hvl ihg hrest HZ
            go_wp2_with fail
            refine (IHG.out f n K _ AR cL cR vj oj wz Z3.out H.out.2.1 H.out.2.2.1 Z4.out Z5.out z6).mono ?_
            rintro e w9 ⟨q, v9, o9, rfl, hF9, ho9, hfr9, hO9, hl9, ht9, hff9⟩
            have hfrom : ∀ x, v9.ownBlock = some x → (Value.slice A1 out.length c1).ownBlock = some x ∨ w.heap.size ≤ x := fun x hx => by
              rcases hfr9 x hx with h | h
              · exact Z7.out x h
              · exact .inr (by omega)
            have HOZ := Lib.hid (Z10.out.trans (hO9.mono (fun k hk e => by
              rcases e with e | e
              · exact .inl e
              · rcases Z7.out k e with h | h
                · exact .inr (.inl h)
                · exact .inr (.inr h))))
            cases q
            · have HE := Lib.hid (show AddPost w f n K ls (some ⟨b3, o3, none⟩) AR cL cR (.slice A1 out.length c1) out T (.returned (.bool false)) w9 from by
                refine ⟨false, v9, o9, rfl, hF9, ho9, hfrom, HOZ.out.mono (fun k hk e => ?_), hl9, (fun e => by cases e), fun _ => ?_⟩
                · rcases e with e | e | e
                  · exact .inl e
                  · exact .inr e
                  · omega
                · have h1 := hff9 rfl
                  have h2 := congrArg List.length Z2.out
                  rw [List.length_append, List.length_append, Forms.enc, List.length_append] at h2
                  omega)
              clear hF9 ho9 hfr9 hO9 hl9 ht9 hff9 hfrom d0 hac hal
              go_wp2_with fail
              go_ret
              rw [HT.out]
              exact HE.out
            · obtain ⟨h1, h2⟩ := ht9 rfl
              have hbase9 : ∀ x, v9.ownBlock = some x → f < x := fun x hx => by
                rcases hfr9 x hx with h | h
                · exact Z5.out x h
                · omega
              have HN := Lib.hid (show FOks ls p (vs.drop (j + 1)) gs' ∧ o9 ++ gs'.enc = out ++ T ∧ FinAt w9 f (some ⟨b3, o3, none⟩) n cL ls AR K cR v9 ∧ w9.ownsRow 0 58 3 v9 o9.length (cellsOf FNode.cells o9) ∧ (∀ x, v9.ownBlock = some x → f < x) ∧ o9.length ≤ 4098 ∧
                  (∀ x, v9.ownBlock = some x → (Value.slice A1 out.length c1).ownBlock = some x ∨ w.heap.size ≤ x) ∧ w9.ownsRow 0 3 1 (.slice (some ⟨b6, o6, none⟩) m c5) vs.length (cellsOf ncell vs) ∧ Blk w9 w3.heap.size 23 #[.int .i64 ae, .int .i64 (p : Nat)] ∧
                  Outside (fun k => k = f ∨ (Value.slice A1 out.length c1).ownBlock = some k ∨ w.heap.size ≤ k) w w9 from by
                refine ⟨HRE.out, by rw [h1, List.append_assoc, ← Z2.out, Forms.enc], hF9, ho9, hbase9, hl9, hfrom, own_out Z8.out hO9 (fun x hx e => ?_), Z9.out.out hO9 (fun e => ?_), HOZ.out⟩
                · rcases e with e | e
                  · have := HBAS.out x hx
                    omega
                  · exact own_apart_own Z8.out Z4.out (by decide) hx e
                · rcases e with e | e
                  · omega
                  · exact own_apart Z4.out Z9.out (by decide) e)
              clear hF9 ho9 hfr9 hO9 hl9 ht9 hff9 hfrom d0 hac hal h1 h2 hbase9
              go_wp2_with fail
              go_roundw
              case rel => exact ⟨j + 1, v9, o9, gs', by omega, by go_num, HN⟩
              case measure => simp [intOf]; omega
          · have hjm : j = m := by omega
            subst hjm
            rw [List.drop_of_length_le (by rw [HVM.out]; exact Nat.le_refl _)] at z1
            have hgn : gj = .nil := by
              cases z1
              rfl
            subst hgn
            rw [Forms.enc, List.append_nil] at z2
            obtain ⟨A9, c9, e9, _, _⟩ := own_form z4
            subst e9
            have z3c := z3.blk.cell 2
            have z3l := z3.blk.lt
            obtain ⟨L, hL⟩ : ∃ L, oj.length = L := ⟨_, rfl⟩
            have HE := Lib.hid (show ∀ q : Bool, q = decide (oj.length ≤ 4096) → AddPost w f n K ls (some ⟨b3, o3, none⟩) AR cL cR (.slice A1 out.length c1) out T (.returned (.bool q)) wz from fun q hq => by
              refine ⟨q, _, oj, rfl, z3, z4, z7, z10.mono (fun k hk e => ?_), z6, fun e => ?_, fun e => ?_⟩
              · rcases e with e | e | e
                · exact .inl e
                · exact .inr e
                · omega
              · rw [e] at hq
                exact ⟨z2, of_decide_eq_true hq.symm⟩
              · rw [e] at hq
                have h1 := of_decide_eq_false hq.symm
                have h2 := congrArg List.length z2
                rw [List.length_append] at h2
                omega)
            rw [hL] at z3c z6
            have HLL := Lib.hid hL
            clear z1 z2 z3 z4 z5 z7 z8 z9 z10 hac hal HZ hL
            by_cases hle : L ≤ 4096
            · go_wp2_with fail
              go_ret
              rw [HT.out]
              exact HE.out _ (by rw [HLL.out]; simp [hle]; omega)
            · go_wp2_with fail
              go_ret
              rw [HT.out]
              exact HE.out _ (by rw [HLL.out]; simp [hle]; omega)

theorem FR.lts {ls : List (List Arc)} {s t : Nat} {F : Form} (h : FR ls s t F) : s < ls.length ∧ t < ls.length := by
  cases h with
  | neg h1 h2 => exact ⟨h1, h2⟩
  | may h1 h2 => exact ⟨h1, h2⟩
theorem add_any {ls : List (List Arc)} {s t : Nat} {F : Form} (h : FR ls s t F) : AddOk ls s t F :=
  FR.rec (motive_1 := fun s t F _ => AddOk ls s t F) (motive_2 := fun u vs gs _ => FOks ls u vs gs)
    (fun hs ht hl hw _ ih => add_neg hs ht hl hw ih) (fun hs ht hl hw _ ih => add_may hs ht hl hw ih) FOks.nil (fun h1 _ ih1 ih2 => FOks.cons h1.lts.2 ih1 ih2) h

end Go.Proofs.Ytmciinikfjfegaa
