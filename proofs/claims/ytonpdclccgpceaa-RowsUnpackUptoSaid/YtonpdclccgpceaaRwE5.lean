/- Sealed of any bytes; Bytes of an opened system; unpacks -/
import Derived.Test.YtonpdclccgpceaaRwE4
import Derived.Test.YtonpdclccgpceaaRwO2
import Derived.Test.YtonpdclccgpceaaRwSm
namespace Go.Proofs.Ytonpdclccgpceaa
open Go Go.RowKit
set_option maxHeartbeats 8000000

set_option maxRecDepth 100000 in
theorem sealedG_any (A : Option Addr) (n c B : Nat) (l : List Nat) (w : World) (h : Rd w B 1 A n (cellsOf ucell l)) (hB : B ≤ w.heap.size) (hb : ∀ b ∈ l, b < 256) (hn : n ≤ 1000000000) :
    Calls Try.prog 24 #[.slice A n c] w (NewPost w (sealB l)) := by
  have H := Lib.hid h
  have HB := Lib.hid hb
  have HN := Lib.hid (h.len ucell_len (by decide))
  clear h hb
  obtain ⟨x, hx⟩ : ∃ x, crcF l = x := ⟨_, rfl⟩
  have hxi := crcF_in l
  rw [hx] at hxi
  have HX := Lib.hid hx
  obtain ⟨hx0, hx1⟩ := hxi
  have HC := Lib.hid (sum4_cells hx0)
  clear hx
  go_enter Try.func24, Try.ntmps24
  go_wp2_with fail
  refine (rchecksum_any A n c B l _ H.out HB.out hn).mono ?_
  rw [HX.out]
  rintro e w1 ⟨rfl, rfl⟩
  have hown : (w.alloc (Obj.cells #[] 5)).ownsRow 0 5 1 (.slice (some ⟨w.heap.size, 0, none⟩) 0 0) 0 [] :=
    ⟨rfl, .inr ⟨w.heap.size, 0, #[], rfl, Nat.zero_le _, heap_alloc_new w _, Nat.le_refl _, by simp [maxLen], rfl, rfl⟩⟩
  have HOW := Lib.hid hown
  clear hown
  have HB0 := Lib.hid ((Below.refl w.heap.size w).alloc (Nat.le_refl _) (Obj.cells #[] 5))
  go_wp2_with (first
    | (at_builtin; refine appList_blk rfl slByte rfl (World.ownsRow.alloc hown7 _) rfl (news := [.int .u8 (x / 16777216), .int .u8 (x / 65536 % 256), .int .u8 (x / 256 % 256), .int .u8 (x % 256)]) ((heap_alloc_at rfl) : Blk _ w7.heap.size _ _) rfl rfl (by simp [Value.oneCell']) (by decide) (by unfold maxLen; omega) (by omega) ?_; intro g8 cap8 w8 hown8 hgrow8 hat8)
    | (at_builtin; refine appList_opt rfl slByte rfl HOW.out rfl (H.out.alloc hB (Obj.cells #[] 5)) (c := c) rfl (ucell_ones l) (by unfold maxLen; omega) (by omega) ?_; intro v7 w7 hown7 hgrow7 hat7; rw [Nat.zero_add] at hown7; obtain ⟨A7, c7, rfl, _, _⟩ := own_form hown7))
  have hln := HN.out
  have hO : Own w8 (.slice (some ⟨g8, 0, none⟩) (n + 4) cap8) (sealB l) := by
    unfold Own sealB
    rw [HX.out, cellsOf_append, List.length_append, hln, ← HC.out, show n + (sum4 x).length = n + 4 from by simp [sum4]]
    simpa using hown8
  have h7 : ∀ g, (Value.slice A7 n c7).ownBlock = some g → w.heap.size ≤ g := fun g hg => by
    rcases hat7 with h | h
    · have h1 : (Value.slice (some ⟨w.heap.size, 0, none⟩) 0 0).ownBlock = some g := h.symm.trans hg
      simp [Value.ownBlock] at h1
      omega
    · have h1 := h.symm.trans hg
      simp at h1
      omega
  have hb7 : Below w.heap.size w w7 := HB0.out.grown hgrow7 (by simp) (fun z hz => by simp [Value.ownBlock] at hz; omega)
  have hb8 : Below w.heap.size w w8 := (hb7.alloc hb7.size _).grown hgrow8 (Nat.le_trans hb7.size (by simp)) h7
  have hF : w.heap.size ≤ g8 := by
    rcases hat8 with h | h
    · exact h7 _ h
    · have := hb7.size
      simp at h
      omega
  have HF := Lib.hid (And.intro hO (And.intro hb8 hF))
  clear hO hb8 hF h7 hb7 hown7 hgrow7 hat7 hown8 hgrow8 hat8 hln
  go_ret
  exact ⟨_, rfl, HF.out.1, HF.out.2.1, fun g hg => by
    have h1 : g8 = g := by simpa [Value.ownBlock] using hg
    have := HF.out.2.2
    omega⟩

set_option maxRecDepth 100000 in
theorem obytes_any (W g : Nat) (vb vs : Value) (ls : List (List Arc)) (w : World) (h : OpAt w W g vb vs ls) (hp : (packB ls).length ≤ 1048576) :
    Calls Try.prog 53 #[.pointer (some ⟨g, 0, none⟩)] w (NewPost w (packB ls)) := by
  obtain ⟨A, c, rfl, _, _⟩ := h.own.form
  have hc := h.blk.cell
  have hl := h.blk.lt
  have hr := h.own.rd
  have hm := packB_min ls
  obtain ⟨b0, o0, rfl, _⟩ := hr.2 (by omega)
  have HR := Lib.hid hr
  clear h hr
  go_enter Try.func53, Try.ntmps53
  go_wp2_with fail
  refine (bclone_any _ _ c w.heap.size (packB ls) _ HR.out (Nat.le_refl _) (by omega) (by omega)).mono ?_
  rintro e w1 ⟨v, rfl, h1, h2, h3⟩
  have HZ := Lib.hid (And.intro h1 (And.intro h2 h3))
  clear h1 h2 h3
  go_wp2_with fail
  go_ret
  exact ⟨_, rfl, HZ.out⟩

set_option maxRecDepth 100000 in
theorem unpacks_any (A : Option Addr) (n c B : Nat) (b : List Nat) (w : World) (h : Rd w B 1 A n (cellsOf ucell b)) (hB : B ≤ w.heap.size) (hby : ∀ x ∈ b, x < 256) (hc : n ≤ c) (hn : n ≤ 1000000000) :
    Calls Try.prog 23 #[.slice A n c] w fun e w' => e = .returned (.bool true) ∧ Below w.heap.size w w' := by
  have HN := Lib.hid (h.len ucell_len (by decide))
  have H := Lib.hid h
  have HBY := Lib.hid hby
  clear h hby
  go_enter Try.func23, Try.ntmps23
  go_wp2_with fail
  refine (unpack_any A n c B b _ H.out hB HBY.out hc (by omega)).mono ?_
  rintro e w1 ⟨A1, n1, c1, ls, err, rfl, hR1, hb1, hn1, hl1, hU1⟩
  have HU1 := Lib.hid hU1
  have HB1 := Lib.hid (hb1.alloc hb1.size (.cells #[.slice A1 n1 c1] 25))
  have HR1 := Lib.hid (hR1.alloc (Nat.le_refl _) (.cells #[.slice A1 n1 c1] 25))
  have HN1 := Lib.hid (Blk.new w1 25 #[.slice A1 n1 c1])
  have HL1 := Lib.hid hl1
  clear hR1 hb1 hU1 hl1
  go_wp2_with fail
  refine (rfunpack_any A n c B b _ (H.out.below (HB1.out.mono hB)) (by have := HB1.out.size; omega) HBY.out hc (by omega)).mono ?_
  rintro e w2 ⟨A2, n2, c2, ls2, err2, rfl, hR2, hb2, hn2, _, hU2⟩
  obtain ⟨rfl, rfl⟩ := HU1.out.unique hU2
  have HB2 := Lib.hid ((HB1.out.trans (hb2.mono HB1.out.size)).alloc (Nat.le_trans HB1.out.size hb2.size) (.cells #[.slice A2 n2 c2] 25))
  have hlt2 : w1.heap.size + 1 ≤ w2.heap.size := Nat.le_trans (by simp) hb2.size
  have HR12 := Lib.hid (And.intro (((HR1.out.more (show w1.heap.size ≤ (w1.alloc (.cells #[.slice A1 n1 c1] 25)).heap.size by simp)).below hb2).more hb2.size |>.alloc (Nat.le_refl _) (.cells #[.slice A2 n2 c2] 25)) (hR2.alloc (Nat.le_refl _) (.cells #[.slice A2 n2 c2] 25)))
  have HN12 := Lib.hid (And.intro ((HN1.out.below hb2 HN1.out.lt).alloc (.cells #[.slice A2 n2 c2] 25)) (Blk.new w2 25 #[.slice A2 n2 c2]))
  have hl2 := hR2.len
  clear hR2 hb2 hU2
  go_wp2_with fail
  refine (open_any A n c B b _ (H.out.below (HB2.out.mono hB)) (by have := HB2.out.size; omega) HBY.out hc hn).mono ?_
  rintro e w3 ⟨ls3, err3, hU3, hb3, hres⟩
  obtain ⟨rfl, rfl⟩ := HU1.out.unique hU3
  have HB3 := Lib.hid (HB2.out.trans (hb3.mono HB2.out.size))
  have HR3 := Lib.hid (And.intro ((HR12.out.1.more (by simp)).below hb3 |>.more hb3.size) ((HR12.out.2.more (by simp)).below hb3 |>.more hb3.size))
  have HN3 := Lib.hid (And.intro (HN12.out.1.below hb3 HN12.out.1.lt) (HN12.out.2.below hb3 HN12.out.2.lt))
  have a3c := HN3.out.1.cell
  have a3l := HN3.out.1.lt
  have d3c := HN3.out.2.cell
  have d3l := HN3.out.2.lt
  have hs3 := hb3.size
  have HRES := Lib.hid hres
  obtain ⟨vr, herq⟩ : ∃ vr, e = .returned (.tuple #[vr, .int .i64 err]) := by
    rcases hres with ⟨_, rfl⟩ | ⟨h1, g, vb, vs, rfl, _⟩
    · exact ⟨_, rfl⟩
    · exact ⟨_, by rw [h1]; rfl⟩
  subst herq
  clear hb3 hU3 hres
  go_wp2_with fail
  refine (same_any A1 A2 n1 c1 n2 c2 w3.heap.size _ _ _ HR3.out.1 HR3.out.2 (Nat.le_refl _) (by omega) (fun l hl => Nat.le_trans (HL1.out l hl) (by omega))).mono ?_
  rintro e w4 ⟨rfl, hb4⟩
  rw [show decide (ls = ls) = true from decide_eq_true rfl]
  have HB4 := Lib.hid (HB3.out.trans (hb4.mono HB3.out.size))
  have HN4 := Lib.hid (And.intro (HN3.out.1.below hb4 HN3.out.1.lt) (HN3.out.2.below hb4 HN3.out.2.lt))
  have HB34 := Lib.hid hb4
  have d4c := HN4.out.2.cell
  have d4l := HN4.out.2.lt
  clear hb4 a3c a3l d3c d3l
  by_cases herr : err = 0
  · rcases HRES.out with ⟨h1, _⟩ | ⟨_, g, vb, vs, heq, hOp⟩
    · exact absurd herr h1
    subst herr
    obtain rfl : vr = .pointer (some ⟨g, 0, none⟩) := by
      have h1 := Ending.returned.inj heq
      simp only [Value.tuple.injEq] at h1
      have h2 := congrArg (fun a : Array Value => a[0]?) h1
      simpa using h2
    have hzz := HU1.out.zero rfl
    have HZ := Lib.hid hzz.2.1
    have hpl : (packB ls).length ≤ 1048576 := by rw [hzz.2.1]; exact hzz.2.2
    have HOP := Lib.hid (hOp.below HB34.out)
    clear heq hOp hzz HRES
    go_wp2_with (first | ((with_reducible show wpPlan _ _ _ [] _ _ _); refine wpPlan_nil ?_) | ((with_reducible show wpPlan _ _ _ ((_, 0, _) :: _) _ _ _); first | (refine wpPlan_read0 rfl ?hw rfl (fun _ _ _ => ?_); case hw => ((conv => (lhs; whnf)); first | done | with_reducible rfl)) | (refine wpPlan_skip0 rfl ?hw ?_; (case hw => ((conv => (lhs; whnf)); first | done | with_reducible rfl)); (try simp only [List.getElem_toArray, List.getElem_cons_succ, List.getElem_cons_zero, Act.put, List.setIfInBounds_toArray, List.set_cons_zero, List.set_cons_succ]))) | ((with_reducible show wpPlan _ _ _ ((_, 1, _) :: _) _ _ _); first | (refine wpPlan_read1d rfl ?hw rfl rfl (fun _ _ _ => ?_); case hw => ((conv => (lhs; whnf)); first | done | with_reducible rfl)) | (refine wpPlan_skip1d rfl ?hw ?_; (case hw => ((conv => (lhs; whnf)); first | done | with_reducible rfl)); (try simp only [List.getElem_toArray, List.getElem_cons_succ, List.getElem_cons_zero, Act.put, List.setIfInBounds_toArray, List.set_cons_zero, List.set_cons_succ])) | (refine wpPlan_read1 rfl ?hw rfl (fun _ _ _ => ?_); case hw => ((conv => (lhs; whnf)); first | done | with_reducible rfl))) | ((with_reducible show wpPlan _ _ _ ((_, 2, _) :: _) _ _ _); first | (refine wpPlan_eff rfl ?hw (fun _ _ => ?_); case hw => ((conv => (lhs; whnf)); first | done | with_reducible rfl)) | (refine wpPlan_skip2 rfl ?hw ?_; (case hw => ((conv => (lhs; whnf)); first | done | with_reducible rfl)); (try simp only [List.getElem_toArray, List.getElem_cons_succ, List.getElem_cons_zero, Act.put, List.setIfInBounds_toArray, List.set_cons_zero, List.set_cons_succ]))) | ((with_reducible show wpPlan _ _ _ _ _ _ _); refine wpPlan_fork ?_ ?_) | ((with_reducible show Owed _ _ _ [] _ _ _ _ _); refine Owed.none_ ?_) | ((with_reducible show Owed _ _ _ _ [] _ _ _ _); refine Owed.nil_ ?_) | ((with_reducible show Owed _ _ _ _ _ _ _ _ _); first | (refine Owed.miss rfl ?_) | (refine Owed.hit ?_ ?_)) | ((with_reducible show Same _ _ _ _ _); intro _; go_simp; done) | (with_reducible exact True.intro) | ((with_reducible show Code.wp _ (Code.region 6 _ true) _ _ _); refine wp_region_plan [(0, 0, []), (1, 1, []), (2, 0, []), (3, 0, []), (5, 1, []), (6, 1, []), (7, 1, []), (4, 2, [5, 6, 7]), (8, 1, []), (9, 0, []), (10, 0, []), (13, 0, []), (14, 1, []), (11, 2, [14]), (12, 1, []), (15, 1, []), (16, 0, []), (17, 0, []), (18, 0, [])] (by kernel_rfl) (by kernel_rfl) (by kernel_rfl) ?_))
    refine (states_any _ g vb vs _ _ (HOP.out.out (Outside.refl (fun _ => False) w4).drew (fun _ _ _ h => h))).mono ?_
    rintro e w5 ⟨rfl, rfl⟩
    rw [hl2]
    have hrb := H.out.below (w' := w4) (HB4.out.mono hB)
    have hpn : (packB ls).length = n := by rw [HZ.out, HN.out]
    have hpm := packB_min ls
    obtain ⟨b0, o0, rfl, _⟩ := hrb.2 (by omega)
    have k4 := conv_any (c := c) w4.drew (hrb.drewN 1) (by omega)
    have HRB := Lib.hid hrb
    clear hrb
    go_wp2_with (first | ((with_reducible show wpPlan _ _ _ [] _ _ _); refine wpPlan_nil ?_) | ((with_reducible show wpPlan _ _ _ ((_, 0, _) :: _) _ _ _); first | (refine wpPlan_read0 rfl ?hw rfl (fun _ _ _ => ?_); case hw => ((conv => (lhs; whnf)); first | done | with_reducible rfl)) | (refine wpPlan_skip0 rfl ?hw ?_; (case hw => ((conv => (lhs; whnf)); first | done | with_reducible rfl)); (try simp only [List.getElem_toArray, List.getElem_cons_succ, List.getElem_cons_zero, Act.put, List.setIfInBounds_toArray, List.set_cons_zero, List.set_cons_succ]))) | ((with_reducible show wpPlan _ _ _ ((_, 1, _) :: _) _ _ _); first | (refine wpPlan_read1d rfl ?hw rfl rfl (fun _ _ _ => ?_); case hw => ((conv => (lhs; whnf)); first | done | with_reducible rfl)) | (refine wpPlan_skip1d rfl ?hw ?_; (case hw => ((conv => (lhs; whnf)); first | done | with_reducible rfl)); (try simp only [List.getElem_toArray, List.getElem_cons_succ, List.getElem_cons_zero, Act.put, List.setIfInBounds_toArray, List.set_cons_zero, List.set_cons_succ])) | (refine wpPlan_read1 rfl ?hw rfl (fun _ _ _ => ?_); case hw => ((conv => (lhs; whnf)); first | done | with_reducible rfl))) | ((with_reducible show wpPlan _ _ _ ((_, 2, _) :: _) _ _ _); first | (refine wpPlan_eff rfl ?hw (fun _ _ => ?_); case hw => ((conv => (lhs; whnf)); first | done | with_reducible rfl)) | (refine wpPlan_skip2 rfl ?hw ?_; (case hw => ((conv => (lhs; whnf)); first | done | with_reducible rfl)); (try simp only [List.getElem_toArray, List.getElem_cons_succ, List.getElem_cons_zero, Act.put, List.setIfInBounds_toArray, List.set_cons_zero, List.set_cons_succ]))) | ((with_reducible show wpPlan _ _ _ _ _ _ _); refine wpPlan_fork ?_ ?_) | ((with_reducible show Owed _ _ _ [] _ _ _ _ _); refine Owed.none_ ?_) | ((with_reducible show Owed _ _ _ _ [] _ _ _ _); refine Owed.nil_ ?_) | ((with_reducible show Owed _ _ _ _ _ _ _ _ _); first | (refine Owed.miss rfl ?_) | (refine Owed.hit ?_ ?_)) | ((with_reducible show Same _ _ _ _ _); intro _; go_simp; done) | (with_reducible exact True.intro) | ((with_reducible show Code.wp _ (Code.region 6 _ true) _ _ _); refine wp_region_plan [(0, 0, []), (1, 1, []), (2, 0, []), (3, 0, []), (5, 1, []), (6, 1, []), (7, 1, []), (4, 2, [5, 6, 7]), (8, 1, []), (9, 0, []), (10, 0, []), (13, 0, []), (14, 1, []), (11, 2, [14]), (12, 1, []), (15, 1, []), (16, 0, []), (17, 0, []), (18, 0, [])] (by kernel_rfl) (by kernel_rfl) (by kernel_rfl) ?_))
    refine (obytes_any _ g vb vs ls _ (HOP.out.out (Outside.refl (fun _ => False) w4).drew (fun _ _ _ h => h)) hpl).mono ?_
    rintro e w6 ⟨v6, rfl, ho6, hb6, _⟩
    have hb6' : Below w4.heap.size w4 w6 := (Below.refl _ _).drew.trans hb6
    obtain ⟨A6, c6, rfl, _, _⟩ := ho6.form
    have hr6 := ho6.rd
    rw [hpn] at hr6 ⊢
    obtain ⟨b6, o6, rfl, _⟩ := hr6.2 (by omega)
    have k6 := conv_any (c := c6) w6 hr6 (by omega)
    have kb6 := conv_any (c := c) w6 (HRB.out.below (hb6'.mono (by have := HB4.out.size; omega))) (by omega)
    rw [HZ.out] at k6
    have HB6 := Lib.hid (HB4.out.trans (hb6'.mono HB4.out.size))
    clear ho6 hb6 hb6' hr6
    go_wp2_with (first | ((with_reducible show wpPlan _ _ _ [] _ _ _); refine wpPlan_nil ?_) | ((with_reducible show wpPlan _ _ _ ((_, 0, _) :: _) _ _ _); first | (refine wpPlan_read0 rfl ?hw rfl (fun _ _ _ => ?_); case hw => ((conv => (lhs; whnf)); first | done | with_reducible rfl)) | (refine wpPlan_skip0 rfl ?hw ?_; (case hw => ((conv => (lhs; whnf)); first | done | with_reducible rfl)); (try simp only [List.getElem_toArray, List.getElem_cons_succ, List.getElem_cons_zero, Act.put, List.setIfInBounds_toArray, List.set_cons_zero, List.set_cons_succ]))) | ((with_reducible show wpPlan _ _ _ ((_, 1, _) :: _) _ _ _); first | (refine wpPlan_read1d rfl ?hw rfl rfl (fun _ _ _ => ?_); case hw => ((conv => (lhs; whnf)); first | done | with_reducible rfl)) | (refine wpPlan_skip1d rfl ?hw ?_; (case hw => ((conv => (lhs; whnf)); first | done | with_reducible rfl)); (try simp only [List.getElem_toArray, List.getElem_cons_succ, List.getElem_cons_zero, Act.put, List.setIfInBounds_toArray, List.set_cons_zero, List.set_cons_succ])) | (refine wpPlan_read1 rfl ?hw rfl (fun _ _ _ => ?_); case hw => ((conv => (lhs; whnf)); first | done | with_reducible rfl))) | ((with_reducible show wpPlan _ _ _ ((_, 2, _) :: _) _ _ _); first | (refine wpPlan_eff rfl ?hw (fun _ _ => ?_); case hw => ((conv => (lhs; whnf)); first | done | with_reducible rfl)) | (refine wpPlan_skip2 rfl ?hw ?_; (case hw => ((conv => (lhs; whnf)); first | done | with_reducible rfl)); (try simp only [List.getElem_toArray, List.getElem_cons_succ, List.getElem_cons_zero, Act.put, List.setIfInBounds_toArray, List.set_cons_zero, List.set_cons_succ]))) | ((with_reducible show wpPlan _ _ _ _ _ _ _); refine wpPlan_fork ?_ ?_) | ((with_reducible show Owed _ _ _ [] _ _ _ _ _); refine Owed.none_ ?_) | ((with_reducible show Owed _ _ _ _ [] _ _ _ _); refine Owed.nil_ ?_) | ((with_reducible show Owed _ _ _ _ _ _ _ _ _); first | (refine Owed.miss rfl ?_) | (refine Owed.hit ?_ ?_)) | ((with_reducible show Same _ _ _ _ _); intro _; go_simp; done) | (with_reducible exact True.intro) | ((with_reducible show Code.wp _ (Code.region 6 _ true) _ _ _); refine wp_region_plan [(0, 0, []), (1, 1, []), (2, 0, []), (3, 0, []), (5, 1, []), (6, 1, []), (7, 1, []), (4, 2, [5, 6, 7]), (8, 1, []), (9, 0, []), (10, 0, []), (13, 0, []), (14, 1, []), (11, 2, [14]), (12, 1, []), (15, 1, []), (16, 0, []), (17, 0, []), (18, 0, [])] (by kernel_rfl) (by kernel_rfl) (by kernel_rfl) ?_))
    refine bodyPost_ret (v := .bool true) (by simp [results, Try.results23, go_sem]) rfl ?_
    exact ⟨rfl, HB6.out⟩
  · have herr2 : ((err : Int) != 0) = true := by simp; omega
    go_wp2_with (first | ((with_reducible show wpPlan _ _ _ [] _ _ _); refine wpPlan_nil ?_) | ((with_reducible show wpPlan _ _ _ ((_, 0, _) :: _) _ _ _); first | (refine wpPlan_read0 rfl ?hw rfl (fun _ _ _ => ?_); case hw => ((conv => (lhs; whnf)); first | done | with_reducible rfl)) | (refine wpPlan_skip0 rfl ?hw ?_; (case hw => ((conv => (lhs; whnf)); first | done | with_reducible rfl)); (try simp only [List.getElem_toArray, List.getElem_cons_succ, List.getElem_cons_zero, Act.put, List.setIfInBounds_toArray, List.set_cons_zero, List.set_cons_succ]))) | ((with_reducible show wpPlan _ _ _ ((_, 1, _) :: _) _ _ _); first | (refine wpPlan_read1d rfl ?hw rfl rfl (fun _ _ _ => ?_); case hw => ((conv => (lhs; whnf)); first | done | with_reducible rfl)) | (refine wpPlan_skip1d rfl ?hw ?_; (case hw => ((conv => (lhs; whnf)); first | done | with_reducible rfl)); (try simp only [List.getElem_toArray, List.getElem_cons_succ, List.getElem_cons_zero, Act.put, List.setIfInBounds_toArray, List.set_cons_zero, List.set_cons_succ])) | (refine wpPlan_read1 rfl ?hw rfl (fun _ _ _ => ?_); case hw => ((conv => (lhs; whnf)); first | done | with_reducible rfl))) | ((with_reducible show wpPlan _ _ _ ((_, 2, _) :: _) _ _ _); first | (refine wpPlan_eff rfl ?hw (fun _ _ => ?_); case hw => ((conv => (lhs; whnf)); first | done | with_reducible rfl)) | (refine wpPlan_skip2 rfl ?hw ?_; (case hw => ((conv => (lhs; whnf)); first | done | with_reducible rfl)); (try simp only [List.getElem_toArray, List.getElem_cons_succ, List.getElem_cons_zero, Act.put, List.setIfInBounds_toArray, List.set_cons_zero, List.set_cons_succ]))) | ((with_reducible show wpPlan _ _ _ _ _ _ _); refine wpPlan_fork ?_ ?_) | ((with_reducible show Owed _ _ _ [] _ _ _ _ _); refine Owed.none_ ?_) | ((with_reducible show Owed _ _ _ _ [] _ _ _ _); refine Owed.nil_ ?_) | ((with_reducible show Owed _ _ _ _ _ _ _ _ _); first | (refine Owed.miss rfl ?_) | (refine Owed.hit ?_ ?_)) | ((with_reducible show Same _ _ _ _ _); intro _; go_simp; done) | (with_reducible exact True.intro) | ((with_reducible show Code.wp _ (Code.region 6 _ true) _ _ _); refine wp_region_plan [(0, 0, []), (1, 1, []), (2, 0, []), (3, 0, []), (5, 1, []), (6, 1, []), (7, 1, []), (4, 2, [5, 6, 7]), (8, 1, []), (9, 0, []), (10, 0, []), (13, 0, []), (14, 1, []), (11, 2, [14]), (12, 1, []), (15, 1, []), (16, 0, []), (17, 0, []), (18, 0, [])] (by kernel_rfl) (by kernel_rfl) (by kernel_rfl) ?_))
    refine bodyPost_ret (v := .bool true) (by simp [results, Try.results23, go_sem]) rfl ?_
    exact ⟨rfl, HB4.out.drew⟩

end Go.Proofs.Ytonpdclccgpceaa
