/- Holds of the program, at a valid system and a formula -/
import Derived.Test.YtmciinikfjfegaaSgH6
namespace Go.Proofs.Ytmciinikfjfegaa
open Go Go.RowKit Go.Maps
set_option maxHeartbeats 8000000

/-- a test's block, new -/
theorem TsAt.newB {w : World} {n cL N cF g mb : Nat} {A AF : Option Addr} {ls : List (List Arc)} {F : Form} {E : List Nat} (h1 : RdL w w.heap.size A n ls) (h2 : Rd w w.heap.size 3 AF N (cellsOf FNode.cells F.enc)) (h3 : Rd w w.heap.size 1 (some ⟨g, 0, none⟩) N (cellsOf ncell E))
    (hm : w.ownsMap Try.prog 103 (plainElem (H := Unit) Try.prog 4) mb 0 (.map [])) :
    TsAt (w.alloc (.cells #[.slice A n cL, .slice AF N cF, .slice (some ⟨g, 0, none⟩) N N, .map (some mb)] 85)) w.heap.size A n cL ls AF N cF F g E mb (.map []) :=
  ⟨Blk.new w _ _, h1.alloc (Nat.le_refl _) _, h2.alloc (Nat.le_refl _) _, h3.alloc (Nat.le_refl _) _, by rw [cntM_nil]; exact hm.alloc _, Memo.nil ls F N n, hm.lt⟩
theorem TsAt.newA {w : World} {tb n cL N cF g : Nat} {A AF : Option Addr} {ls : List (List Arc)} {F : Form} {E : List Nat} (h1 : RdL w w.heap.size A n ls) (h2 : Rd w w.heap.size 3 AF N (cellsOf FNode.cells F.enc)) (h3 : Rd w w.heap.size 1 (some ⟨g, 0, none⟩) N (cellsOf ncell E)) (htb : tb = w.heap.size + 1) :
    TsAt ((w.alloc (.map #[] 0)).alloc (.cells #[.slice A n cL, .slice AF N cF, .slice (some ⟨g, 0, none⟩) N N, .map (some w.heap.size)] 85)) tb A n cL ls AF N cF F g E w.heap.size (.map []) := by
  have hz : (w.alloc (.map #[] 0)).heap.size = w.heap.size + 1 := by simp
  rw [htb, ← hz]
  exact TsAt.newB ((h1.alloc (Nat.le_refl _) _).more (by simp)) ((h2.alloc (Nat.le_refl _) _).more (by simp)) ((h3.alloc (Nat.le_refl _) _).more (by simp)) (World.ownsMap_made w Try.prog 103 (plainElem (H := Unit) Try.prog 4))

set_option maxRecDepth 100000 in
theorem holds_any (A : Option Addr) (n c : Nat) (ls : List (List Arc)) (s : Nat) (AF : Option Addr) (N cF : Nat) (F : Form) (B : Nat) (w : World) (h : RdL w B A n ls) (hf : Rd w B 3 AF N (cellsOf FNode.cells F.enc)) (hB : B ≤ w.heap.size) (hV : validB ls = true) (hs : s < n) (hrows : ∀ l ∈ ls, l.length ≤ 100000) (hN : N ≤ 4096) (hok : FormOk F) :
    Calls Try.prog 32 #[lts A n c, .int .i64 s, .slice AF N cF] w fun e w' => e = .returned (.bool (sat ls F s)) ∧ Below w.heap.size w w' := by
  have hmm := @run_makeMap Try.prog
  have HV := Lib.hid hV
  have HOK := Lib.hid hok
  have HRO := Lib.hid hrows
  have HL := Lib.hid h.len
  have HFL := Lib.hid (hf.len FNode.cells_len (by decide))
  obtain ⟨hT, h1, h2, _⟩ := loose_tos (valid_parts hV).1
  have HTO := Lib.hid hT
  have hn : n ≤ 16384 := by have := HL.out; omega
  have HR0 := Lib.hid (And.intro (h.alloc hB (.cells #[.slice A n c] 27)) (hf.alloc hB (.cells #[.slice A n c] 27)))
  have HN0 := Lib.hid (Blk.new w 27 #[.slice A n c])
  have HB0 := Lib.hid ((Below.refl w.heap.size w).alloc (Nat.le_refl _) (.cells #[.slice A n c] 27))
  clear h hf hV hok hrows hT h1 h2
  go_enter Try.func32, Try.ntmps32
  go_wp2_with fail
  refine (validL_any A n c B ls _ HR0.out.1 (by simp; omega) (by omega) (fun l hl => by have := HRO.out l hl; omega)).mono ?_
  rw [HV.out]
  rintro e w1 ⟨rfl, hb1⟩
  have hs1 : w.heap.size + 1 ≤ w1.heap.size := by have := hb1.size; simpa using this
  have HW1 := Lib.hid (And.intro (And.intro (HR0.out.1.below (hb1.mono (by simp; omega))) (HR0.out.2.below (hb1.mono (by simp; omega)))) (And.intro (HN0.out.below hb1 HN0.out.lt) (HB0.out.trans (hb1.mono (by simp)))))
  clear hb1
  have n1c := HW1.out.2.1.cell
  have n1l := HW1.out.2.1.lt
  go_wp2_with fail
  refine (vform_any AF N cF F B w1 HW1.out.1.2 (by omega) hN HOK.out).mono ?_
  rintro e w2 ⟨rfl, hb2⟩
  have hs2 := hb2.size
  have HW2 := Lib.hid (And.intro (And.intro (HW1.out.1.1.below (hb2.mono (by omega))) (HW1.out.1.2.below (hb2.mono (by omega)))) (And.intro (HW1.out.2.1.below hb2 n1l) (HW1.out.2.2.trans (hb2.mono (by omega)))))
  clear hb2 n1c n1l
  have n2c := HW2.out.2.1.cell
  have n2l := HW2.out.2.1.lt
  have n2m := (HW2.out.2.1.alloc (.map #[] 0)).cell
  go_wp2_with (first | ((with_reducible show wpPlan _ _ _ _ _ (Act.put _ _ _) _); simp only [List.getElem_toArray, List.getElem_cons_succ, List.getElem_cons_zero, Act.put, List.setIfInBounds_toArray, List.set_cons_zero, List.set_cons_succ]) | ((with_reducible show wpPlan _ _ _ _ _ _ _); first | refine wpPlan_nil ?_ | (refine wpPlan_read0 rfl ?hw rfl (fun _ _ _ => ?_); case hw => ((conv => (lhs; whnf)); first | done | with_reducible rfl)) | (refine wpPlan_read1d rfl ?hw rfl rfl (fun _ _ _ => ?_); case hw => ((conv => (lhs; whnf)); first | done | with_reducible rfl)) | (refine wpPlan_eff rfl ?hw (fun _ _ => ?_); case hw => ((conv => (lhs; whnf)); first | done | with_reducible rfl)) | (refine wpPlan_skip0 rfl ?hw ?_; case hw => ((conv => (lhs; whnf)); first | done | with_reducible rfl)) | (refine wpPlan_skip1d rfl ?hw ?_; case hw => ((conv => (lhs; whnf)); first | done | with_reducible rfl)) | (refine wpPlan_skip2 rfl ?hw ?_; case hw => ((conv => (lhs; whnf)); first | done | with_reducible rfl)) | (refine wpPlan_read1 rfl ?hw rfl (fun _ _ _ => ?_); case hw => ((conv => (lhs; whnf)); first | done | with_reducible rfl)) | refine wpPlan_fork ?_ ?_) | ((with_reducible show Owed _ _ _ _ _ _ _ _ _); first | refine Owed.none_ ?_ | refine Owed.nil_ ?_ | refine Owed.miss rfl ?_ | refine Owed.hit ?_ ?_) | ((with_reducible show Same _ _ _ _ _); intro _; go_simp; done) | (with_reducible exact True.intro) | ((with_reducible show Code.wp _ (Code.region 3 _ true) _ _ _); refine wp_region_plan [(0, 1, []), (1, 0, []), (2, 0, []), (3, 7, [0]), (5, 1, []), (6, 2, []), (7, 0, [])] (by kernel_rfl) (by kernel_rfl) (by kernel_rfl) ?_))
  · refine (ends_any AF N cF F B _ (HW2.out.1.2.drewN 1) (by simp; omega) (by omega)).mono ?_
    rintro e w3 ⟨⟨g, E, rfl, hE, hgood, hgb⟩, hb3⟩
    have hb3' := ((Below.refl w2.heap.size w2).drew).trans (hb3.mono (by simp))
    have hs3 := hb3'.size
    have hgl := own_lt hE (g := g) rfl
    have hTs := TsAt.newA (tb := w3.heap.size + 1) (cL := c) (cF := cF) ((HW2.out.1.1.below (hb3'.mono (by omega))).more (show B ≤ w3.heap.size by omega)) ((HW2.out.1.2.below (hb3'.mono (by omega))).more (show B ≤ w3.heap.size by omega)) (Rd.ofOwn hE)
    have HTS := Lib.hid (hTs (by omega))
    have HTK := Lib.hid (show TsOk ls F n N E from ⟨HL.out, HFL.out, hn, hN, HRO.out, HTO.out, hgood⟩)
    have HB3 := Lib.hid (((HW2.out.2.2.trans (hb3'.mono (by omega))).alloc (by omega) (.map #[] 0)).alloc (by simp; omega) (.cells #[.slice A n c, .slice AF N cF, .slice (some ⟨g, 0, none⟩) N N, .map (some w3.heap.size)] 85))
    have n3c := (HW2.out.2.1.below hb3' n2l).cell
    have n3m := ((HW2.out.2.1.below hb3' n2l).alloc (.map #[] 0)).cell
    clear hE hgood hTs hb3 hb3'
    go_wp2_with (first | ((with_reducible show wpPlan _ _ _ _ _ (Act.put _ _ _) _); simp only [List.getElem_toArray, List.getElem_cons_succ, List.getElem_cons_zero, Act.put, List.setIfInBounds_toArray, List.set_cons_zero, List.set_cons_succ]) | ((with_reducible show wpPlan _ _ _ _ _ _ _); first | refine wpPlan_nil ?_ | (refine wpPlan_read0 rfl ?hw rfl (fun _ _ _ => ?_); case hw => ((conv => (lhs; whnf)); first | done | with_reducible rfl)) | (refine wpPlan_read1d rfl ?hw rfl rfl (fun _ _ _ => ?_); case hw => ((conv => (lhs; whnf)); first | done | with_reducible rfl)) | (refine wpPlan_eff rfl ?hw (fun _ _ => ?_); case hw => ((conv => (lhs; whnf)); first | done | with_reducible rfl)) | (refine wpPlan_skip0 rfl ?hw ?_; case hw => ((conv => (lhs; whnf)); first | done | with_reducible rfl)) | (refine wpPlan_skip1d rfl ?hw ?_; case hw => ((conv => (lhs; whnf)); first | done | with_reducible rfl)) | (refine wpPlan_skip2 rfl ?hw ?_; case hw => ((conv => (lhs; whnf)); first | done | with_reducible rfl)) | (refine wpPlan_read1 rfl ?hw rfl (fun _ _ _ => ?_); case hw => ((conv => (lhs; whnf)); first | done | with_reducible rfl)) | refine wpPlan_fork ?_ ?_) | ((with_reducible show Owed _ _ _ _ _ _ _ _ _); first | refine Owed.none_ ?_ | refine Owed.nil_ ?_ | refine Owed.miss rfl ?_ | refine Owed.hit ?_ ?_) | ((with_reducible show Same _ _ _ _ _); intro _; go_simp; done) | (with_reducible exact True.intro) | ((with_reducible show Code.wp _ (Code.region 3 _ true) _ _ _); refine wp_region_plan [(0, 1, []), (1, 0, []), (2, 0, []), (3, 7, [0]), (5, 1, []), (6, 2, []), (7, 0, [])] (by kernel_rfl) (by kernel_rfl) (by kernel_rfl) ?_))
    refine (ho_any N F (by rw [HFL.out]; exact Nat.le_refl _) (w3.heap.size + 1) n c N cF g w3.heap.size 0 s A AF E (.map []) _ .self hs HTS.out HTK.out).mono ?_
    rintro e w4 ⟨rfl, _, hO4⟩
    have HB4 := Lib.hid (HB3.out.trans (hO4.below (by simp; omega) (fun k hk e => by omega)))
    clear hO4
    go_wp2_with (first | ((with_reducible show wpPlan _ _ _ _ _ (Act.put _ _ _) _); simp only [List.getElem_toArray, List.getElem_cons_succ, List.getElem_cons_zero, Act.put, List.setIfInBounds_toArray, List.set_cons_zero, List.set_cons_succ]) | ((with_reducible show wpPlan _ _ _ _ _ _ _); first | refine wpPlan_nil ?_ | (refine wpPlan_read0 rfl ?hw rfl (fun _ _ _ => ?_); case hw => ((conv => (lhs; whnf)); first | done | with_reducible rfl)) | (refine wpPlan_read1d rfl ?hw rfl rfl (fun _ _ _ => ?_); case hw => ((conv => (lhs; whnf)); first | done | with_reducible rfl)) | (refine wpPlan_eff rfl ?hw (fun _ _ => ?_); case hw => ((conv => (lhs; whnf)); first | done | with_reducible rfl)) | (refine wpPlan_skip0 rfl ?hw ?_; case hw => ((conv => (lhs; whnf)); first | done | with_reducible rfl)) | (refine wpPlan_skip1d rfl ?hw ?_; case hw => ((conv => (lhs; whnf)); first | done | with_reducible rfl)) | (refine wpPlan_skip2 rfl ?hw ?_; case hw => ((conv => (lhs; whnf)); first | done | with_reducible rfl)) | (refine wpPlan_read1 rfl ?hw rfl (fun _ _ _ => ?_); case hw => ((conv => (lhs; whnf)); first | done | with_reducible rfl)) | refine wpPlan_fork ?_ ?_) | ((with_reducible show Owed _ _ _ _ _ _ _ _ _); first | refine Owed.none_ ?_ | refine Owed.nil_ ?_ | refine Owed.miss rfl ?_ | refine Owed.hit ?_ ?_) | ((with_reducible show Same _ _ _ _ _); intro _; go_simp; done) | (with_reducible exact True.intro) | ((with_reducible show Code.wp _ (Code.region 3 _ true) _ _ _); refine wp_region_plan [(0, 1, []), (1, 0, []), (2, 0, []), (3, 7, [0]), (5, 1, []), (6, 2, []), (7, 0, [])] (by kernel_rfl) (by kernel_rfl) (by kernel_rfl) ?_))
    go_ret
    exact ⟨rfl, HB4.out⟩
  · refine (ends_any AF N cF F B _ ((HW2.out.1.2.alloc (by omega) (.map #[] 0)).drewN 1) (by simp; omega) (by omega)).mono ?_
    rintro e w3 ⟨⟨g, E, rfl, hE, hgood, hgb⟩, hb3⟩
    have hb3' := (((Below.refl w2.heap.size w2).alloc (Nat.le_refl _) (.map #[] 0)).drew).trans (hb3.mono (by simp))
    have hs3 := hb3.size
    simp at hs3
    have hgl := own_lt hE (g := g) rfl
    have hmap := ownsMap_below ((World.ownsMap_made w2 Try.prog 103 (plainElem (H := Unit) Try.prog 4)).drew) hb3 (by simp)
    have hTs := TsAt.newB (cL := c) (cF := cF) ((HW2.out.1.1.below (hb3'.mono (by omega))).more (show B ≤ w3.heap.size by omega)) ((HW2.out.1.2.below (hb3'.mono (by omega))).more (show B ≤ w3.heap.size by omega)) (Rd.ofOwn hE) hmap
    have HTS := Lib.hid hTs
    have HTK := Lib.hid (show TsOk ls F n N E from ⟨HL.out, HFL.out, hn, hN, HRO.out, HTO.out, hgood⟩)
    have HB3 := Lib.hid ((HW2.out.2.2.trans (hb3'.mono (by omega))).alloc (by omega) (.cells #[.slice A n c, .slice AF N cF, .slice (some ⟨g, 0, none⟩) N N, .map (some w2.heap.size)] 85))
    have n3c := (HW2.out.2.1.below hb3' n2l).cell
    clear hE hgood hTs hb3 hb3' hmap
    go_wp2_with (first | ((with_reducible show wpPlan _ _ _ _ _ (Act.put _ _ _) _); simp only [List.getElem_toArray, List.getElem_cons_succ, List.getElem_cons_zero, Act.put, List.setIfInBounds_toArray, List.set_cons_zero, List.set_cons_succ]) | ((with_reducible show wpPlan _ _ _ _ _ _ _); first | refine wpPlan_nil ?_ | (refine wpPlan_read0 rfl ?hw rfl (fun _ _ _ => ?_); case hw => ((conv => (lhs; whnf)); first | done | with_reducible rfl)) | (refine wpPlan_read1d rfl ?hw rfl rfl (fun _ _ _ => ?_); case hw => ((conv => (lhs; whnf)); first | done | with_reducible rfl)) | (refine wpPlan_eff rfl ?hw (fun _ _ => ?_); case hw => ((conv => (lhs; whnf)); first | done | with_reducible rfl)) | (refine wpPlan_skip0 rfl ?hw ?_; case hw => ((conv => (lhs; whnf)); first | done | with_reducible rfl)) | (refine wpPlan_skip1d rfl ?hw ?_; case hw => ((conv => (lhs; whnf)); first | done | with_reducible rfl)) | (refine wpPlan_skip2 rfl ?hw ?_; case hw => ((conv => (lhs; whnf)); first | done | with_reducible rfl)) | (refine wpPlan_read1 rfl ?hw rfl (fun _ _ _ => ?_); case hw => ((conv => (lhs; whnf)); first | done | with_reducible rfl)) | refine wpPlan_fork ?_ ?_) | ((with_reducible show Owed _ _ _ _ _ _ _ _ _); first | refine Owed.none_ ?_ | refine Owed.nil_ ?_ | refine Owed.miss rfl ?_ | refine Owed.hit ?_ ?_) | ((with_reducible show Same _ _ _ _ _); intro _; go_simp; done) | (with_reducible exact True.intro) | ((with_reducible show Code.wp _ (Code.region 3 _ true) _ _ _); refine wp_region_plan [(0, 1, []), (1, 0, []), (2, 0, []), (3, 7, [0]), (5, 1, []), (6, 2, []), (7, 0, [])] (by kernel_rfl) (by kernel_rfl) (by kernel_rfl) ?_))
    refine (ho_any N F (by rw [HFL.out]; exact Nat.le_refl _) w3.heap.size n c N cF g w2.heap.size 0 s A AF E (.map []) _ .self hs HTS.out HTK.out).mono ?_
    rintro e w4 ⟨rfl, _, hO4⟩
    have HB4 := Lib.hid (HB3.out.trans (hO4.below (by simp; omega) (fun k hk e => by omega)))
    clear hO4
    go_wp2_with (first | ((with_reducible show wpPlan _ _ _ _ _ (Act.put _ _ _) _); simp only [List.getElem_toArray, List.getElem_cons_succ, List.getElem_cons_zero, Act.put, List.setIfInBounds_toArray, List.set_cons_zero, List.set_cons_succ]) | ((with_reducible show wpPlan _ _ _ _ _ _ _); first | refine wpPlan_nil ?_ | (refine wpPlan_read0 rfl ?hw rfl (fun _ _ _ => ?_); case hw => ((conv => (lhs; whnf)); first | done | with_reducible rfl)) | (refine wpPlan_read1d rfl ?hw rfl rfl (fun _ _ _ => ?_); case hw => ((conv => (lhs; whnf)); first | done | with_reducible rfl)) | (refine wpPlan_eff rfl ?hw (fun _ _ => ?_); case hw => ((conv => (lhs; whnf)); first | done | with_reducible rfl)) | (refine wpPlan_skip0 rfl ?hw ?_; case hw => ((conv => (lhs; whnf)); first | done | with_reducible rfl)) | (refine wpPlan_skip1d rfl ?hw ?_; case hw => ((conv => (lhs; whnf)); first | done | with_reducible rfl)) | (refine wpPlan_skip2 rfl ?hw ?_; case hw => ((conv => (lhs; whnf)); first | done | with_reducible rfl)) | (refine wpPlan_read1 rfl ?hw rfl (fun _ _ _ => ?_); case hw => ((conv => (lhs; whnf)); first | done | with_reducible rfl)) | refine wpPlan_fork ?_ ?_) | ((with_reducible show Owed _ _ _ _ _ _ _ _ _); first | refine Owed.none_ ?_ | refine Owed.nil_ ?_ | refine Owed.miss rfl ?_ | refine Owed.hit ?_ ?_) | ((with_reducible show Same _ _ _ _ _); intro _; go_simp; done) | (with_reducible exact True.intro) | ((with_reducible show Code.wp _ (Code.region 3 _ true) _ _ _); refine wp_region_plan [(0, 1, []), (1, 0, []), (2, 0, []), (3, 7, [0]), (5, 1, []), (6, 2, []), (7, 0, [])] (by kernel_rfl) (by kernel_rfl) (by kernel_rfl) ?_))
    go_ret
    exact ⟨rfl, HB4.out⟩

end Go.Proofs.Ytmciinikfjfegaa
