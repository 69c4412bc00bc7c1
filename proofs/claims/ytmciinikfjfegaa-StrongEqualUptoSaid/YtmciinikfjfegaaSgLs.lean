/- StrongEqual: the law's walk -/
import Derived.Test.YtmciinikfjfegaaSgM1
import Derived.Test.YtmciinikfjfegaaSgE2
import Derived.Test.YtmciinikfjfegaaSgE3
import Derived.Test.YtmciinikfjfegaaSgQ2
import Derived.Test.YtmciinikfjfegaaSgLp
import Derived.Test.YtmciinikfjfegaaRwG8
import Derived.Test.YtmciinikfjfegaaTree
namespace Go.Proofs.Ytmciinikfjfegaa
open Go Go.RowKit
set_option maxHeartbeats 4000000

/-- both Equals at drawn systems -/
theorem equalL_gen {w : World} {A A' : Option Addr} {n c n' c' : Nat} {la lb : List (List Arc)} (h : RdL w w.heap.size A n la) (h' : RdL w w.heap.size A' n' lb) (hn : n ≤ 1000) (hn' : n' ≤ 1000) (hs : ∀ l ∈ la, l.length ≤ 1000) (hs' : ∀ l ∈ lb, l.length ≤ 1000) :
    Calls Try.prog 26 #[lts A n c, lts A' n' c'] w fun e w' => (∃ q, e = .returned (.bool q) ∧ EqIs la lb q) ∧ Below w.heap.size w w' :=
  equalL_any A A' n c n' c' w.heap.size la lb w h h' (Nat.le_refl _) (by omega) (by omega) (fun l hl => by have := hs l hl; omega) (fun l hl => by have := hs' l hl; omega)
theorem requal_gen {w : World} {A A' : Option Addr} {n c n' c' : Nat} {la lb : List (List Arc)} (h : RdL w w.heap.size A n la) (h' : RdL w w.heap.size A' n' lb) (hn : n ≤ 1000) (hn' : n' ≤ 1000) (hs : ∀ l ∈ la, l.length ≤ 1000) (hs' : ∀ l ∈ lb, l.length ≤ 1000) :
    Calls Try.prog 27 #[lts A n c, lts A' n' c'] w fun e w' => (∃ q, e = .returned (.bool q) ∧ EqIs la lb q) ∧ Below w.heap.size w w' :=
  requal_any A A' n c n' c' w.heap.size la lb w h h' (Nat.le_refl _) (by omega) (by omega) (fun l hl => by have := hs l hl; omega) (fun l hl => by have := hs' l hl; omega)
/-- the quotient by the classes -/
def IsQuo (ls out : List (List Arc)) : Prop := out.length ≤ ls.length ∧ (∀ l ∈ out, l.length ≤ total ls) ∧ ∀ q, EqIs ls out q → q = true
theorem quo_is {ls out : List (List Arc)} {cl : List Nat} {err : Nat} (hV : validB ls = true) (hcl : validB ls = false ∧ cl = [] ∨ validB ls = true ∧ ∃ K, DoneR ls K ∧ cl = clK ls K)
    (h : (validB ls && numB (intC cl) ls.length) = false ∧ err = 1 ∧ out = [] ∨ (validB ls && numB (intC cl) ls.length) = true ∧ err = 0 ∧ ∃ i, DoneC (quoK ls ((intC cl).map Int.toNat) (maxN ((intC cl).map Int.toNat) + 1) ls.length) i ∧ out = (canonK (quoK ls ((intC cl).map Int.toNat) (maxN ((intC cl).map Int.toNat) + 1) ls.length) i).out) : IsQuo ls out := by
  obtain ⟨K, hK, rfl⟩ : ∃ K, DoneR ls K ∧ cl = clK ls K := by
    rcases hcl with ⟨h1, _⟩ | ⟨_, h1⟩
    · rw [hV] at h1; cases h1
    · exact h1
  rcases h with ⟨h1, _⟩ | ⟨_, _, i, h3, h4⟩
  · rw [hV, cl_numB] at h1
    cases h1
  · rw [intC_nat, cl_max (loose_tos (valid_parts hV).1).2.1] at h3 h4
    obtain ⟨_, h5, h6, h7, _, _, h8⟩ := com_min hV (Nat.le_refl _) hK h3 h4
    exact ⟨by omega, h7, h8⟩
theorem rd_intC {w : World} {B n : Nat} {A : Option Addr} {cl : List Nat} (h : Rd w B 1 A n (cellsOf ncell cl)) : Rd w B 1 A n (cellsOf icell (intC cl)) := by
  have h1 : cellsOf icell (intC cl) = cellsOf ncell cl := by rw [nat_cells]; rfl
  rw [h1]
  exact h

/-- a block that came behind x is written -/
theorem SsAt.put {wr w9 : World} {X B b n c j n2 c2 QB : Nat} {A A2 : Option Addr} {zs : List Int} {l2 : List (List Arc)} (h : SsAt wr w9 X B b A n c zs j A2 n2 c2 l2) (hr : RdL w9 QB A2 n2 l2) (hX : X < QB) (hb : b < QB) (hB : B ≤ QB) (hw : wr.heap.size ≤ QB) (hq : QB < w9.heap.size) (v : Value) :
    SsAt wr (w9.setCell ⟨QB, 0, none⟩ v) X B b A n c zs j A2 n2 c2 l2 := by
  have hBl : Below QB w9 (w9.setCell ⟨QB, 0, none⟩ v) := (Below.refl QB w9).setCell (p := ⟨QB, 0, none⟩) (Nat.le_refl _) v
  exact ⟨⟨h.sr.sx.below hBl hX, ⟨h.sr.tp.blk.below hBl hb, h.sr.tp.rd.below (hBl.mono hB), h.sr.tp.lo⟩, h.sr.out.setCell (p := ⟨QB, 0, none⟩) (.inr hw) v, h.sr.neX⟩, (hr.below hBl).more (by simp; omega), h.off⟩

set_option maxRecDepth 100000 in
theorem strongEqual_law (w : World) (A : Option Addr) (n c : Nat) (zs : List Int) (h : Rd w w.heap.size 1 A n (cellsOf icell zs)) (hn : n ≤ 1048576)
    (Al : Option Addr) (m cl : Nat) (ls : List (List Arc)) (hl : RdL w w.heap.size Al m ls) (hm : m ≤ 1048576) (hs : ∀ l ∈ ls, l.length ≤ 1048576)
    (Ab : Option Addr) (mb cb : Nat) (lb : List (List Arc)) (hlb : RdL w w.heap.size Ab mb lb) (hmb : mb ≤ 1048576) (hsb : ∀ l ∈ lb, l.length ≤ 1048576) :
    Calls Try.prog 7 #[.slice A n c, lts Al m cl, lts Ab mb cb] w fun e w' => e = .returned (.bool true) ∧ Below w.heap.size w w' := by
  have HR0 := Lib.hid ((h.alloc (Nat.le_refl _) (.cells #[.slice Al m cl] 27)).alloc (by simp) (.cells #[.slice Ab mb cb] 27))
  have HL := Lib.hid (And.intro hl hlb)
  have HS := Lib.hid (And.intro hs hsb)
  have HB0 := Lib.hid (((Below.refl w.heap.size w).alloc (Nat.le_refl _) (.cells #[.slice Al m cl] 27)).alloc (by simp) (.cells #[.slice Ab mb cb] 27))
  have HN0 := Lib.hid (And.intro ((Blk.new w 27 #[.slice Al m cl]).alloc (.cells #[.slice Ab mb cb] 27)) (show Blk ((w.alloc (.cells #[.slice Al m cl] 27)).alloc (.cells #[.slice Ab mb cb] 27)) (w.heap.size + 1) 27 #[.slice Ab mb cb] from heap_alloc_at (by simp)))
  clear h hl hs hlb hsb
  go_enter Try.func7, Try.ntmps7
  go_wp2_with (first | ((with_reducible show wpPlan _ _ _ _ _ (Act.put _ _ _) _); simp only [List.getElem_toArray, List.getElem_cons_succ, List.getElem_cons_zero, Act.put, List.setIfInBounds_toArray, List.set_cons_zero, List.set_cons_succ]) | ((with_reducible show wpPlan _ _ _ _ _ _ _); first | refine wpPlan_nil ?_ | (refine wpPlan_read0 rfl ?hw rfl (fun _ _ _ => ?_); case hw => ((conv => (lhs; whnf)); first | done | with_reducible rfl)) | (refine wpPlan_read1d rfl ?hw rfl rfl (fun _ _ _ => ?_); case hw => ((conv => (lhs; whnf)); first | done | with_reducible rfl)) | (refine wpPlan_eff rfl ?hw (fun _ _ => ?_); case hw => ((conv => (lhs; whnf)); first | done | with_reducible rfl)) | (refine wpPlan_skip0 rfl ?hw ?_; case hw => ((conv => (lhs; whnf)); first | done | with_reducible rfl)) | (refine wpPlan_skip1d rfl ?hw ?_; case hw => ((conv => (lhs; whnf)); first | done | with_reducible rfl)) | (refine wpPlan_skip2 rfl ?hw ?_; case hw => ((conv => (lhs; whnf)); first | done | with_reducible rfl)) | (refine wpPlan_read1 rfl ?hw rfl (fun _ _ _ => ?_); case hw => ((conv => (lhs; whnf)); first | done | with_reducible rfl)) | refine wpPlan_fork ?_ ?_) | ((with_reducible show Owed _ _ _ _ _ _ _ _ _); first | refine Owed.none_ ?_ | refine Owed.nil_ ?_ | refine Owed.miss rfl ?_ | refine Owed.hit ?_ ?_) | ((with_reducible show Same _ _ _ _ _); intro _; go_simp; done) | (with_reducible exact True.intro))
  refine (tnew_any w.heap.size A n c zs _ HR0.out (by simp; omega)).mono ?_
  rintro e w1 ⟨rfl, hT1, hb1, hz1⟩
  have hz : ((w.alloc (.cells #[.slice Al m cl] 27)).alloc (.cells #[.slice Ab mb cb] 27)).heap.size = w.heap.size + 2 := by simp
  rw [hz] at hT1 hb1 hz1 ⊢
  have HX := Lib.hid (And.intro hT1 (And.intro (And.intro (HN0.out.1.below hb1 (by omega)) (HN0.out.2.below hb1 (by omega))) (HB0.out.trans (hb1.mono (by omega)))))
  have hsz : w.heap.size + 3 ≤ w1.heap.size := by omega
  clear hT1 hb1 hz hz1
  go_wp2_with (first | ((with_reducible show wpPlan _ _ _ _ _ (Act.put _ _ _) _); simp only [List.getElem_toArray, List.getElem_cons_succ, List.getElem_cons_zero, Act.put, List.setIfInBounds_toArray, List.set_cons_zero, List.set_cons_succ]) | ((with_reducible show wpPlan _ _ _ _ _ _ _); first | refine wpPlan_nil ?_ | (refine wpPlan_read0 rfl ?hw rfl (fun _ _ _ => ?_); case hw => ((conv => (lhs; whnf)); first | done | with_reducible rfl)) | (refine wpPlan_read1d rfl ?hw rfl rfl (fun _ _ _ => ?_); case hw => ((conv => (lhs; whnf)); first | done | with_reducible rfl)) | (refine wpPlan_eff rfl ?hw (fun _ _ => ?_); case hw => ((conv => (lhs; whnf)); first | done | with_reducible rfl)) | (refine wpPlan_skip0 rfl ?hw ?_; case hw => ((conv => (lhs; whnf)); first | done | with_reducible rfl)) | (refine wpPlan_skip1d rfl ?hw ?_; case hw => ((conv => (lhs; whnf)); first | done | with_reducible rfl)) | (refine wpPlan_skip2 rfl ?hw ?_; case hw => ((conv => (lhs; whnf)); first | done | with_reducible rfl)) | (refine wpPlan_read1 rfl ?hw rfl (fun _ _ _ => ?_); case hw => ((conv => (lhs; whnf)); first | done | with_reducible rfl)) | refine wpPlan_fork ?_ ?_) | ((with_reducible show Owed _ _ _ _ _ _ _ _ _); first | refine Owed.none_ ?_ | refine Owed.nil_ ?_ | refine Owed.miss rfl ?_ | refine Owed.hit ?_ ?_) | ((with_reducible show Same _ _ _ _ _); intro _; go_simp; done) | (with_reducible exact True.intro))
  go_loopw [8] (fun vi wr => ∃ (k j : Nat), k ≤ 4 ∧ vi = .int .i64 k ∧ j ≤ 1000 * k ∧ w.heap.size + 3 ≤ wr.heap.size ∧
    Hid (TpAt wr w.heap.size (w.heap.size + 2) A n c zs j ∧ (Blk wr w.heap.size 27 #[.slice Al m cl] ∧ Blk wr (w.heap.size + 1) 27 #[.slice Ab mb cb]) ∧ Below w.heap.size w wr)) (fun vi _ => 4 - (intOf vi).toNat)
  case atStart => exact ⟨0, 0, by decide, rfl, by decide, hsz, HX⟩
  case round =>
    obtain ⟨k, j, hk, rfl, hj, hsz, HW⟩ := hrel
    by_cases hlt : k < 4
    · go_wp2_with (first | ((with_reducible show wpPlan _ _ _ _ _ (Act.put _ _ _) _); simp only [List.getElem_toArray, List.getElem_cons_succ, List.getElem_cons_zero, Act.put, List.setIfInBounds_toArray, List.set_cons_zero, List.set_cons_succ]) | ((with_reducible show wpPlan _ _ _ _ _ _ _); first | refine wpPlan_nil ?_ | (refine wpPlan_read0 rfl ?hw rfl (fun _ _ _ => ?_); case hw => ((conv => (lhs; whnf)); first | done | with_reducible rfl)) | (refine wpPlan_read1d rfl ?hw rfl rfl (fun _ _ _ => ?_); case hw => ((conv => (lhs; whnf)); first | done | with_reducible rfl)) | (refine wpPlan_eff rfl ?hw (fun _ _ => ?_); case hw => ((conv => (lhs; whnf)); first | done | with_reducible rfl)) | (refine wpPlan_skip0 rfl ?hw ?_; case hw => ((conv => (lhs; whnf)); first | done | with_reducible rfl)) | (refine wpPlan_skip1d rfl ?hw ?_; case hw => ((conv => (lhs; whnf)); first | done | with_reducible rfl)) | (refine wpPlan_skip2 rfl ?hw ?_; case hw => ((conv => (lhs; whnf)); first | done | with_reducible rfl)) | (refine wpPlan_read1 rfl ?hw rfl (fun _ _ _ => ?_); case hw => ((conv => (lhs; whnf)); first | done | with_reducible rfl)) | refine wpPlan_fork ?_ ?_) | ((with_reducible show Owed _ _ _ _ _ _ _ _ _); first | refine Owed.none_ ?_ | refine Owed.nil_ ?_ | refine Owed.miss rfl ?_ | refine Owed.hit ?_ ?_) | ((with_reducible show Same _ _ _ _ _); intro _; go_simp; done) | (with_reducible exact True.intro))
      refine (ltsGenR_any w.heap.size (w.heap.size + 2) A n c j zs 6 _ HW.out.1 (by omega) (by omega) (by decide) (by decide)).mono ?_
      rintro e w2 ⟨⟨g2, cs2, bd2, n2, rfl, hRA2, hn2', hn2, hbd2, hg2⟩, ⟨j2, hj2, hT2⟩, hO2⟩
      obtain ⟨l2, hR2, hs2⟩ := hRA2.rdL
      have HS2 := Lib.hid (show ∀ l ∈ l2, l.length ≤ 27 from fun l hl => by have := (hs2 l hl).1; omega)
      have HL2 := Lib.hid hR2.len
      have HV2' := Lib.hid (show validB l2 = true from valid_of (bd := 27) (by rw [hR2.len]; exact hn2') (by rw [hR2.len]; omega) (fun l hl => by have := (hs2 l hl).1; omega) (by rw [hR2.len]; omega) (fun l hl => by rw [hR2.len]; exact (hs2 l hl).2))
      have HT2 := Lib.hid (show total l2 ≤ 243 by have := total_lb 27 l2 HS2.out; rw [HL2.out] at this; omega)
      have hz2 := hO2.size
      have HV2 := Lib.hid (SsAt.new (c2 := n2) hR2 hT2 hO2 (by omega) (by omega))
      clear hT2 hR2 hs2 hO2 hRA2
      have h2c := HV2.out.sr.sx.cell
      have h2l := HV2.out.sr.sx.lt
      go_wp2_with (first | ((with_reducible show wpPlan _ _ _ _ _ (Act.put _ _ _) _); simp only [List.getElem_toArray, List.getElem_cons_succ, List.getElem_cons_zero, Act.put, List.setIfInBounds_toArray, List.set_cons_zero, List.set_cons_succ]) | ((with_reducible show wpPlan _ _ _ _ _ _ _); first | refine wpPlan_nil ?_ | (refine wpPlan_read0 rfl ?hw rfl (fun _ _ _ => ?_); case hw => ((conv => (lhs; whnf)); first | done | with_reducible rfl)) | (refine wpPlan_read1d rfl ?hw rfl rfl (fun _ _ _ => ?_); case hw => ((conv => (lhs; whnf)); first | done | with_reducible rfl)) | (refine wpPlan_eff rfl ?hw (fun _ _ => ?_); case hw => ((conv => (lhs; whnf)); first | done | with_reducible rfl)) | (refine wpPlan_skip0 rfl ?hw ?_; case hw => ((conv => (lhs; whnf)); first | done | with_reducible rfl)) | (refine wpPlan_skip1d rfl ?hw ?_; case hw => ((conv => (lhs; whnf)); first | done | with_reducible rfl)) | (refine wpPlan_skip2 rfl ?hw ?_; case hw => ((conv => (lhs; whnf)); first | done | with_reducible rfl)) | (refine wpPlan_read1 rfl ?hw rfl (fun _ _ _ => ?_); case hw => ((conv => (lhs; whnf)); first | done | with_reducible rfl)) | refine wpPlan_fork ?_ ?_) | ((with_reducible show Owed _ _ _ _ _ _ _ _ _); first | refine Owed.none_ ?_ | refine Owed.nil_ ?_ | refine Owed.miss rfl ?_ | refine Owed.hit ?_ ?_) | ((with_reducible show Same _ _ _ _ _); intro _; go_simp; done) | (with_reducible exact True.intro))
      refine (variant_any w.heap.size (w.heap.size + 2) A n c j2 zs (some ⟨g2, 0, none⟩) n2 n2 27 l2 _ HV2.out.sr.tp HV2.out.rows (by omega) (by omega) HS2.out (by decide) (by omega) (by omega)).mono ?_
      rintro e w4 ⟨⟨A4, n4, c4, l4, rfl, hR4, hnc4, hn4, hs4⟩, ⟨j4, hj4, hT4⟩, hO4⟩
      have HV4 := Lib.hid ((HV2.out.step hT4 hO4).below ((Below.refl w4.heap.size w4).alloc (Nat.le_refl _) (.cells #[.slice A4 n4 c4] 27)))
      have HY4 := Lib.hid (And.intro (Blk.new w4 27 #[.slice A4 n4 c4]) ((hR4.alloc (Nat.le_refl _) (.cells #[.slice A4 n4 c4] 27)).more (show w4.heap.size ≤ (w4.alloc (.cells #[.slice A4 n4 c4] 27)).heap.size by simp)))
      have HS4 := Lib.hid hs4
      have hz4 := hO4.size
      clear hT4 hR4 hs4 hO4 h2c h2l
      have h4c := HV4.out.sr.sx.cell
      have h4l := HV4.out.sr.sx.lt
      have h4n := (HV4.out.sr.sx.alloc (.cells #[.slice none 0 0] 27)).cell
      go_wp2_with (first | ((with_reducible show wpTree _ _ _ _ _ (Act.put _ _ _) _); simp only [List.getElem_toArray, List.getElem_cons_succ, List.getElem_cons_zero, Act.put, List.setIfInBounds_toArray, List.set_cons_zero, List.set_cons_succ]) | ((with_reducible show wpTree _ _ _ _ _ _ _); first | refine wpTree_line ?_ | refine wpTree_alt ?_ ?_ | (refine wpTree_read0 rfl ?hw rfl (fun _ _ _ => ?_); case hw => ((conv => (lhs; whnf)); first | done | with_reducible rfl)) | (refine wpTree_read1 rfl ?hw rfl (fun _ _ _ => ?_); case hw => ((conv => (lhs; whnf)); first | done | with_reducible rfl)) | (refine wpTree_eff rfl ?hw (fun _ _ => ?_); case hw => ((conv => (lhs; whnf)); first | done | with_reducible rfl)) | (refine wpTree_skip0 rfl ?hw ?_; case hw => ((conv => (lhs; whnf)); first | done | with_reducible rfl)) | (refine wpTree_skip1 rfl ?hw ?_; case hw => ((conv => (lhs; whnf)); first | done | with_reducible rfl)) | (refine wpTree_skip2 rfl ?hw ?_; case hw => ((conv => (lhs; whnf)); first | done | with_reducible rfl))) | ((with_reducible show OwedT _ _ _ _ _ _ _ _ _); first | refine OwedT.none_ ?_ | refine OwedT.nil_ ?_ | refine OwedT.miss rfl ?_ | refine OwedT.hit ?_ ?_) | ((with_reducible show wpPlan _ _ _ _ _ (Act.put _ _ _) _); simp only [List.getElem_toArray, List.getElem_cons_succ, List.getElem_cons_zero, Act.put, List.setIfInBounds_toArray, List.set_cons_zero, List.set_cons_succ]) | ((with_reducible show wpPlan _ _ _ _ _ _ _); first | refine wpPlan_nil ?_ | (refine wpPlan_read0 rfl ?hw rfl (fun _ _ _ => ?_); case hw => ((conv => (lhs; whnf)); first | done | with_reducible rfl)) | (refine wpPlan_read1d rfl ?hw rfl rfl (fun _ _ _ => ?_); case hw => ((conv => (lhs; whnf)); first | done | with_reducible rfl)) | (refine wpPlan_eff rfl ?hw (fun _ _ => ?_); case hw => ((conv => (lhs; whnf)); first | done | with_reducible rfl)) | (refine wpPlan_skip0 rfl ?hw ?_; case hw => ((conv => (lhs; whnf)); first | done | with_reducible rfl)) | (refine wpPlan_skip1d rfl ?hw ?_; case hw => ((conv => (lhs; whnf)); first | done | with_reducible rfl)) | (refine wpPlan_skip2 rfl ?hw ?_; case hw => ((conv => (lhs; whnf)); first | done | with_reducible rfl)) | (refine wpPlan_read1 rfl ?hw rfl (fun _ _ _ => ?_); case hw => ((conv => (lhs; whnf)); first | done | with_reducible rfl)) | refine wpPlan_fork ?_ ?_) | ((with_reducible show Owed _ _ _ _ _ _ _ _ _); first | refine Owed.none_ ?_ | refine Owed.nil_ ?_ | refine Owed.miss rfl ?_ | refine Owed.hit ?_ ?_) | ((with_reducible show Same _ _ _ _ _); intro _; go_simp; done) | (with_reducible exact True.intro) | ((with_reducible show Code.wp _ (Code.region 7 _ true) _ _ _); refine wp_region_tree (Tree.read 0 1 (Tree.read 1 1 (Tree.alt (Tree.eff 2 [0] (Tree.alt (Tree.eff 3 [] (Tree.line [(4, 0, []), (5, 1, []), (6, 1, []), (7, 2, [0, 1, 5, 6]), (8, 2, [6]), (9, 0, [])])) (Tree.eff 7 [0, 1] (Tree.line [(3, 2, []), (4, 0, []), (5, 1, []), (6, 1, []), (8, 2, [6]), (9, 0, [])])))) (Tree.eff 7 [0, 1] (Tree.line [(2, 2, [0]), (3, 2, []), (4, 0, []), (5, 1, []), (6, 1, []), (8, 2, [6]), (9, 0, [])]))))) (by kernel_rfl) (by kernel_rfl) (by kernel_rfl) ?_))
      · have HV4d := Lib.hid HV4.out.drew
        have HY4d := Lib.hid (show Blk (w4.alloc (.cells #[.slice A4 n4 c4] 27)).drew w4.heap.size 27 #[.slice A4 n4 c4] ∧ RdL (w4.alloc (.cells #[.slice A4 n4 c4] 27)).drew (w4.alloc (.cells #[.slice A4 n4 c4] 27)).drew.heap.size A4 n4 l4 from HY4.out)
        refine (Strong_any (some ⟨g2, 0, none⟩) n2 n2 l2 _ _ HV4d.out.rows (Nat.le_refl _) (by omega) (fun l hl => by have := HS2.out l hl; omega)).mono ?_
        rintro e w5 ⟨⟨A5, n5, c5, cl5, rfl, hR5, hcl5⟩, hb5⟩
        have HV5 := Lib.hid (HV4d.out.below hb5)
        have HY5 := Lib.hid (And.intro (HY4d.out.1.below hb5 HY4d.out.1.lt) ((HY4d.out.2.below hb5).more hb5.size))
        have HC5 := Lib.hid hcl5
        have hn5 : n5 ≤ 1000 := by
          have h1 := hR5.len ncell_len (by decide)
          rcases hcl5 with ⟨_, rfl⟩ | ⟨_, K, _, rfl⟩
          · rw [← h1]; simp
          · rw [← h1, clK_len]; have := HL2.out; omega
        have HR5 := Lib.hid (rd_intC hR5)
        clear hb5 hR5 hcl5
        have h5c := HV5.out.sr.sx.cell
        have h5l := HV5.out.sr.sx.lt
        have h5n := (HV5.out.sr.sx.alloc (.cells #[.slice none 0 0] 27)).cell
        have hs5 : w4.heap.size + 1 ≤ w5.heap.size := by have := HY5.out.1.lt; omega
        go_wp2_with (first | ((with_reducible show wpTree _ _ _ _ _ (Act.put _ _ _) _); simp only [List.getElem_toArray, List.getElem_cons_succ, List.getElem_cons_zero, Act.put, List.setIfInBounds_toArray, List.set_cons_zero, List.set_cons_succ]) | ((with_reducible show wpTree _ _ _ _ _ _ _); first | refine wpTree_line ?_ | refine wpTree_alt ?_ ?_ | (refine wpTree_read0 rfl ?hw rfl (fun _ _ _ => ?_); case hw => ((conv => (lhs; whnf)); first | done | with_reducible rfl)) | (refine wpTree_read1 rfl ?hw rfl (fun _ _ _ => ?_); case hw => ((conv => (lhs; whnf)); first | done | with_reducible rfl)) | (refine wpTree_eff rfl ?hw (fun _ _ => ?_); case hw => ((conv => (lhs; whnf)); first | done | with_reducible rfl)) | (refine wpTree_skip0 rfl ?hw ?_; case hw => ((conv => (lhs; whnf)); first | done | with_reducible rfl)) | (refine wpTree_skip1 rfl ?hw ?_; case hw => ((conv => (lhs; whnf)); first | done | with_reducible rfl)) | (refine wpTree_skip2 rfl ?hw ?_; case hw => ((conv => (lhs; whnf)); first | done | with_reducible rfl))) | ((with_reducible show OwedT _ _ _ _ _ _ _ _ _); first | refine OwedT.none_ ?_ | refine OwedT.nil_ ?_ | refine OwedT.miss rfl ?_ | refine OwedT.hit ?_ ?_) | ((with_reducible show wpPlan _ _ _ _ _ (Act.put _ _ _) _); simp only [List.getElem_toArray, List.getElem_cons_succ, List.getElem_cons_zero, Act.put, List.setIfInBounds_toArray, List.set_cons_zero, List.set_cons_succ]) | ((with_reducible show wpPlan _ _ _ _ _ _ _); first | refine wpPlan_nil ?_ | (refine wpPlan_read0 rfl ?hw rfl (fun _ _ _ => ?_); case hw => ((conv => (lhs; whnf)); first | done | with_reducible rfl)) | (refine wpPlan_read1d rfl ?hw rfl rfl (fun _ _ _ => ?_); case hw => ((conv => (lhs; whnf)); first | done | with_reducible rfl)) | (refine wpPlan_eff rfl ?hw (fun _ _ => ?_); case hw => ((conv => (lhs; whnf)); first | done | with_reducible rfl)) | (refine wpPlan_skip0 rfl ?hw ?_; case hw => ((conv => (lhs; whnf)); first | done | with_reducible rfl)) | (refine wpPlan_skip1d rfl ?hw ?_; case hw => ((conv => (lhs; whnf)); first | done | with_reducible rfl)) | (refine wpPlan_skip2 rfl ?hw ?_; case hw => ((conv => (lhs; whnf)); first | done | with_reducible rfl)) | (refine wpPlan_read1 rfl ?hw rfl (fun _ _ _ => ?_); case hw => ((conv => (lhs; whnf)); first | done | with_reducible rfl)) | refine wpPlan_fork ?_ ?_) | ((with_reducible show Owed _ _ _ _ _ _ _ _ _); first | refine Owed.none_ ?_ | refine Owed.nil_ ?_ | refine Owed.miss rfl ?_ | refine Owed.hit ?_ ?_) | ((with_reducible show Same _ _ _ _ _); intro _; go_simp; done) | (with_reducible exact True.intro) | ((with_reducible show Code.wp _ (Code.region 7 _ true) _ _ _); refine wp_region_tree (Tree.read 0 1 (Tree.read 1 1 (Tree.alt (Tree.eff 2 [0] (Tree.alt (Tree.eff 3 [] (Tree.line [(4, 0, []), (5, 1, []), (6, 1, []), (7, 2, [0, 1, 5, 6]), (8, 2, [6]), (9, 0, [])])) (Tree.eff 7 [0, 1] (Tree.line [(3, 2, []), (4, 0, []), (5, 1, []), (6, 1, []), (8, 2, [6]), (9, 0, [])])))) (Tree.eff 7 [0, 1] (Tree.line [(2, 2, [0]), (3, 2, []), (4, 0, []), (5, 1, []), (6, 1, []), (8, 2, [6]), (9, 0, [])]))))) (by kernel_rfl) (by kernel_rfl) (by kernel_rfl) ?_))
        · refine (rquotient_any (some ⟨g2, 0, none⟩) n2 n2 l2 A5 n5 c5 (intC cl5) _ _ HV5.out.rows HR5.out (Nat.le_refl _) (by omega) (by omega) (fun l hl => by have := HS2.out l hl; omega)).mono ?_
          rintro e w9 ⟨A9, n9, c9, lq, e9, rfl, ⟨W9, x9, hW9, hX9⟩, hb9, hq9⟩
          have HIQ := Lib.hid (quo_is HV2'.out HC5.out hq9)
          have hn9 : n9 ≤ 6 := by have h1 := hX9.whole.len; have h2 := HIQ.out.1; have h3 := HL2.out; omega
          have HV9 := Lib.hid (HV5.out.below hb9)
          have HY9 := Lib.hid (And.intro (HY5.out.1.below hb9 HY5.out.1.lt) ((HY5.out.2.below hb9).more hb9.size))
          have HR9 := Lib.hid hX9
          have hbA := (Below.refl w9.heap.size w9).alloc (Nat.le_refl _) (.cells #[.slice A9 n9 c9] 27)
          have HV10 := Lib.hid (HV9.out.below hbA)
          have HY10 := Lib.hid (And.intro (HY9.out.1.below hbA HY9.out.1.lt) ((HY9.out.2.below hbA).more hbA.size))
          have HQ10 := Lib.hid (And.intro (Blk.new w9 27 #[.slice A9 n9 c9]) ((HR9.out.whole.below hbA).more hbA.size))
          have h9n := (HV9.out.sr.sx.alloc (.cells #[.slice none 0 0] 27)).cell
          clear hX9 hb9 hq9 hbA
          have h10c := HV10.out.sr.sx.cell
          have h10l := HV10.out.sr.sx.lt
          have y10c := HY10.out.1.cell
          have y10l := HY10.out.1.lt
          have q10c := HQ10.out.1.cell
          have q10l := HQ10.out.1.lt
          go_wp2_with (first | ((with_reducible show wpTree _ _ _ _ _ (Act.put _ _ _) _); simp only [List.getElem_toArray, List.getElem_cons_succ, List.getElem_cons_zero, Act.put, List.setIfInBounds_toArray, List.set_cons_zero, List.set_cons_succ]) | ((with_reducible show wpTree _ _ _ _ _ _ _); first | refine wpTree_line ?_ | refine wpTree_alt ?_ ?_ | (refine wpTree_read0 rfl ?hw rfl (fun _ _ _ => ?_); case hw => ((conv => (lhs; whnf)); first | done | with_reducible rfl)) | (refine wpTree_read1 rfl ?hw rfl (fun _ _ _ => ?_); case hw => ((conv => (lhs; whnf)); first | done | with_reducible rfl)) | (refine wpTree_eff rfl ?hw (fun _ _ => ?_); case hw => ((conv => (lhs; whnf)); first | done | with_reducible rfl)) | (refine wpTree_skip0 rfl ?hw ?_; case hw => ((conv => (lhs; whnf)); first | done | with_reducible rfl)) | (refine wpTree_skip1 rfl ?hw ?_; case hw => ((conv => (lhs; whnf)); first | done | with_reducible rfl)) | (refine wpTree_skip2 rfl ?hw ?_; case hw => ((conv => (lhs; whnf)); first | done | with_reducible rfl))) | ((with_reducible show OwedT _ _ _ _ _ _ _ _ _); first | refine OwedT.none_ ?_ | refine OwedT.nil_ ?_ | refine OwedT.miss rfl ?_ | refine OwedT.hit ?_ ?_) | ((with_reducible show wpPlan _ _ _ _ _ (Act.put _ _ _) _); simp only [List.getElem_toArray, List.getElem_cons_succ, List.getElem_cons_zero, Act.put, List.setIfInBounds_toArray, List.set_cons_zero, List.set_cons_succ]) | ((with_reducible show wpPlan _ _ _ _ _ _ _); first | refine wpPlan_nil ?_ | (refine wpPlan_read0 rfl ?hw rfl (fun _ _ _ => ?_); case hw => ((conv => (lhs; whnf)); first | done | with_reducible rfl)) | (refine wpPlan_read1d rfl ?hw rfl rfl (fun _ _ _ => ?_); case hw => ((conv => (lhs; whnf)); first | done | with_reducible rfl)) | (refine wpPlan_eff rfl ?hw (fun _ _ => ?_); case hw => ((conv => (lhs; whnf)); first | done | with_reducible rfl)) | (refine wpPlan_skip0 rfl ?hw ?_; case hw => ((conv => (lhs; whnf)); first | done | with_reducible rfl)) | (refine wpPlan_skip1d rfl ?hw ?_; case hw => ((conv => (lhs; whnf)); first | done | with_reducible rfl)) | (refine wpPlan_skip2 rfl ?hw ?_; case hw => ((conv => (lhs; whnf)); first | done | with_reducible rfl)) | (refine wpPlan_read1 rfl ?hw rfl (fun _ _ _ => ?_); case hw => ((conv => (lhs; whnf)); first | done | with_reducible rfl)) | refine wpPlan_fork ?_ ?_) | ((with_reducible show Owed _ _ _ _ _ _ _ _ _); first | refine Owed.none_ ?_ | refine Owed.nil_ ?_ | refine Owed.miss rfl ?_ | refine Owed.hit ?_ ?_) | ((with_reducible show Same _ _ _ _ _); intro _; go_simp; done) | (with_reducible exact True.intro) | ((with_reducible show Code.wp _ (Code.region 8 _ true) _ _ _); refine wp_region_plan [(0, 1, []), (1, 1, []), (3, 1, []), (4, 1, []), (2, 2, [3, 4]), (5, 2, []), (6, 1, []), (7, 0, []), (8, 1, []), (9, 1, []), (10, 2, []), (11, 1, []), (12, 0, [])] (by kernel_rfl) (by kernel_rfl) (by kernel_rfl) ?_) | ((with_reducible show Code.wp _ (Code.region 7 _ true) _ _ _); refine wp_region_tree (Tree.read 0 1 (Tree.read 1 1 (Tree.alt (Tree.eff 2 [0] (Tree.alt (Tree.eff 3 [] (Tree.line [(4, 0, []), (5, 1, []), (6, 1, []), (7, 2, [0, 1, 5, 6]), (8, 2, [6]), (9, 0, [])])) (Tree.eff 7 [0, 1] (Tree.line [(3, 2, []), (4, 0, []), (5, 1, []), (6, 1, []), (8, 2, [6]), (9, 0, [])])))) (Tree.eff 7 [0, 1] (Tree.line [(2, 2, [0]), (3, 2, []), (4, 0, []), (5, 1, []), (6, 1, []), (8, 2, [6]), (9, 0, [])]))))) (by kernel_rfl) (by kernel_rfl) (by kernel_rfl) ?_))
          refine (equalL_gen (HV10.out.rows.drewN 1) (HY10.out.2.drewN 1) (by omega) (by omega) (fun l hl => by have := HS2.out l hl; omega) (fun l hl => by have := HS4.out l hl; omega)).mono ?_
          rintro e w11 ⟨⟨q1, rfl, hq1⟩, hb11⟩
          have hbd11 := ((Below.refl _ (w9.alloc (.cells #[.slice A9 n9 c9] 27))).drew).trans hb11
          have HQ1 := Lib.hid hq1
          have HV11 := Lib.hid (HV10.out.below hbd11)
          have HY11 := Lib.hid (And.intro (HY10.out.1.below hbd11 HY10.out.1.lt) ((HY10.out.2.below hbd11).more hbd11.size))
          have HQ11 := Lib.hid (And.intro (HQ10.out.1.below hbd11 HQ10.out.1.lt) ((HQ10.out.2.below hbd11).more hbd11.size))
          clear hb11 hbd11 hq1
          have h11c := HV11.out.sr.sx.cell
          have h11l := HV11.out.sr.sx.lt
          have y11c := HY11.out.1.cell
          have y11l := HY11.out.1.lt
          go_wp2_with (first | ((with_reducible show wpPlan _ _ _ _ _ (Act.put _ _ _) _); simp only [List.getElem_toArray, List.getElem_cons_succ, List.getElem_cons_zero, Act.put, List.setIfInBounds_toArray, List.set_cons_zero, List.set_cons_succ]) | ((with_reducible show wpPlan _ _ _ _ _ _ _); first | refine wpPlan_nil ?_ | (refine wpPlan_read0 rfl ?hw rfl (fun _ _ _ => ?_); case hw => ((conv => (lhs; whnf)); first | done | with_reducible rfl)) | (refine wpPlan_read1d rfl ?hw rfl rfl (fun _ _ _ => ?_); case hw => ((conv => (lhs; whnf)); first | done | with_reducible rfl)) | (refine wpPlan_eff rfl ?hw (fun _ _ => ?_); case hw => ((conv => (lhs; whnf)); first | done | with_reducible rfl)) | (refine wpPlan_skip0 rfl ?hw ?_; case hw => ((conv => (lhs; whnf)); first | done | with_reducible rfl)) | (refine wpPlan_skip1d rfl ?hw ?_; case hw => ((conv => (lhs; whnf)); first | done | with_reducible rfl)) | (refine wpPlan_skip2 rfl ?hw ?_; case hw => ((conv => (lhs; whnf)); first | done | with_reducible rfl)) | (refine wpPlan_read1 rfl ?hw rfl (fun _ _ _ => ?_); case hw => ((conv => (lhs; whnf)); first | done | with_reducible rfl)) | refine wpPlan_fork ?_ ?_) | ((with_reducible show Owed _ _ _ _ _ _ _ _ _); first | refine Owed.none_ ?_ | refine Owed.nil_ ?_ | refine Owed.miss rfl ?_ | refine Owed.hit ?_ ?_) | ((with_reducible show Same _ _ _ _ _); intro _; go_simp; done) | (with_reducible exact True.intro))
          refine (requal_gen HV11.out.rows HY11.out.2 (by omega) (by omega) (fun l hl => by have := HS2.out l hl; omega) (fun l hl => by have := HS4.out l hl; omega)).mono ?_
          rintro e w12 ⟨⟨q2, rfl, hq2⟩, hb12⟩
          obtain rfl : q1 = q2 := HQ1.out.unique hq2
          have HV12 := Lib.hid (HV11.out.below hb12)
          have HY12 := Lib.hid (And.intro (HY11.out.1.below hb12 y11l) ((HY11.out.2.below hb12).more hb12.size))
          have HQ12 := Lib.hid (And.intro (HQ11.out.1.below hb12 HQ11.out.1.lt) ((HQ11.out.2.below hb12).more hb12.size))
          clear hb12 hq2 h10c h10l y10c y10l q10c q10l h11c h11l y11c y11l
          have h12c := HV12.out.sr.sx.cell
          have h12l := HV12.out.sr.sx.lt
          have q12c := HQ12.out.1.cell
          have q12l := HQ12.out.1.lt
          have hqq : (q1 == q1) = true := beq_self_eq_true q1
          go_wp2_with (first | ((with_reducible show wpPlan _ _ _ _ _ (Act.put _ _ _) _); simp only [List.getElem_toArray, List.getElem_cons_succ, List.getElem_cons_zero, Act.put, List.setIfInBounds_toArray, List.set_cons_zero, List.set_cons_succ]) | ((with_reducible show wpPlan _ _ _ _ _ _ _); first | refine wpPlan_nil ?_ | (refine wpPlan_read0 rfl ?hw rfl (fun _ _ _ => ?_); case hw => ((conv => (lhs; whnf)); first | done | with_reducible rfl)) | (refine wpPlan_read1d rfl ?hw rfl rfl (fun _ _ _ => ?_); case hw => ((conv => (lhs; whnf)); first | done | with_reducible rfl)) | (refine wpPlan_eff rfl ?hw (fun _ _ => ?_); case hw => ((conv => (lhs; whnf)); first | done | with_reducible rfl)) | (refine wpPlan_skip0 rfl ?hw ?_; case hw => ((conv => (lhs; whnf)); first | done | with_reducible rfl)) | (refine wpPlan_skip1d rfl ?hw ?_; case hw => ((conv => (lhs; whnf)); first | done | with_reducible rfl)) | (refine wpPlan_skip2 rfl ?hw ?_; case hw => ((conv => (lhs; whnf)); first | done | with_reducible rfl)) | (refine wpPlan_read1 rfl ?hw rfl (fun _ _ _ => ?_); case hw => ((conv => (lhs; whnf)); first | done | with_reducible rfl)) | refine wpPlan_fork ?_ ?_) | ((with_reducible show Owed _ _ _ _ _ _ _ _ _); first | refine Owed.none_ ?_ | refine Owed.nil_ ?_ | refine Owed.miss rfl ?_ | refine Owed.hit ?_ ?_) | ((with_reducible show Same _ _ _ _ _); intro _; go_simp; done) | (with_reducible exact True.intro))
          refine (equalL_gen HV12.out.rows HQ12.out.2 (by omega) (by omega) (fun l hl => by have := HS2.out l hl; omega) (fun l hl => by have := HIQ.out.2.1 l hl; have := HT2.out; omega)).mono ?_
          rintro e w13 ⟨⟨q3, rfl, hq3⟩, hb13⟩
          obtain rfl : q3 = true := HIQ.out.2.2 q3 hq3
          have HV13 := Lib.hid (HV12.out.below hb13)
          have HY13 := Lib.hid (And.intro (HY12.out.1.below hb13 HY12.out.1.lt) ((HY12.out.2.below hb13).more hb13.size))
          clear hb13 hq3 h12c h12l q12c q12l
          have y13c := HY13.out.1.cell
          have y13l := HY13.out.1.lt
          go_wp2_with (first | ((with_reducible show wpPlan _ _ _ _ _ (Act.put _ _ _) _); simp only [List.getElem_toArray, List.getElem_cons_succ, List.getElem_cons_zero, Act.put, List.setIfInBounds_toArray, List.set_cons_zero, List.set_cons_succ]) | ((with_reducible show wpPlan _ _ _ _ _ _ _); first | refine wpPlan_nil ?_ | (refine wpPlan_read0 rfl ?hw rfl (fun _ _ _ => ?_); case hw => ((conv => (lhs; whnf)); first | done | with_reducible rfl)) | (refine wpPlan_read1d rfl ?hw rfl rfl (fun _ _ _ => ?_); case hw => ((conv => (lhs; whnf)); first | done | with_reducible rfl)) | (refine wpPlan_eff rfl ?hw (fun _ _ => ?_); case hw => ((conv => (lhs; whnf)); first | done | with_reducible rfl)) | (refine wpPlan_skip0 rfl ?hw ?_; case hw => ((conv => (lhs; whnf)); first | done | with_reducible rfl)) | (refine wpPlan_skip1d rfl ?hw ?_; case hw => ((conv => (lhs; whnf)); first | done | with_reducible rfl)) | (refine wpPlan_skip2 rfl ?hw ?_; case hw => ((conv => (lhs; whnf)); first | done | with_reducible rfl)) | (refine wpPlan_read1 rfl ?hw rfl (fun _ _ _ => ?_); case hw => ((conv => (lhs; whnf)); first | done | with_reducible rfl)) | refine wpPlan_fork ?_ ?_) | ((with_reducible show Owed _ _ _ _ _ _ _ _ _); first | refine Owed.none_ ?_ | refine Owed.nil_ ?_ | refine Owed.miss rfl ?_ | refine Owed.hit ?_ ?_) | ((with_reducible show Same _ _ _ _ _); intro _; go_simp; done) | (with_reducible exact True.intro))
          refine (spoil_any w.heap.size (w.heap.size + 2) A n c j4 zs A4 n4 c4 55 l4 _ HV13.out.sr.tp HY13.out.2 (by omega) (fun l hl => by have := HS4.out l hl; omega) (by decide) (by omega) (by omega)).mono ?_
          rintro e w14 ⟨⟨A14, n14, c14, l14, rfl, hR14, hnc14, hn14, hs14⟩, ⟨j14, hj14, hT14⟩, hO14⟩
          have HV14 := Lib.hid ((HV13.out.step hT14 hO14).below ((Below.refl w14.heap.size w14).alloc (Nat.le_refl _) (.cells #[.slice A14 n14 c14] 27)))
          have HZ14 := Lib.hid (And.intro (Blk.new w14 27 #[.slice A14 n14 c14]) ((hR14.alloc (Nat.le_refl _) (.cells #[.slice A14 n14 c14] 27)).more (show w14.heap.size ≤ (w14.alloc (.cells #[.slice A14 n14 c14] 27)).heap.size by simp)))
          have HS14 := Lib.hid hs14
          clear hT14 hR14 hO14 hs14 y13c y13l
          have h14c := HV14.out.sr.sx.cell
          have h14l := HV14.out.sr.sx.lt
          have z14c := HZ14.out.1.cell
          have z14l := HZ14.out.1.lt
          go_wp2_with (first | ((with_reducible show wpPlan _ _ _ _ _ (Act.put _ _ _) _); simp only [List.getElem_toArray, List.getElem_cons_succ, List.getElem_cons_zero, Act.put, List.setIfInBounds_toArray, List.set_cons_zero, List.set_cons_succ]) | ((with_reducible show wpPlan _ _ _ _ _ _ _); first | refine wpPlan_nil ?_ | (refine wpPlan_read0 rfl ?hw rfl (fun _ _ _ => ?_); case hw => ((conv => (lhs; whnf)); first | done | with_reducible rfl)) | (refine wpPlan_read1d rfl ?hw rfl rfl (fun _ _ _ => ?_); case hw => ((conv => (lhs; whnf)); first | done | with_reducible rfl)) | (refine wpPlan_eff rfl ?hw (fun _ _ => ?_); case hw => ((conv => (lhs; whnf)); first | done | with_reducible rfl)) | (refine wpPlan_skip0 rfl ?hw ?_; case hw => ((conv => (lhs; whnf)); first | done | with_reducible rfl)) | (refine wpPlan_skip1d rfl ?hw ?_; case hw => ((conv => (lhs; whnf)); first | done | with_reducible rfl)) | (refine wpPlan_skip2 rfl ?hw ?_; case hw => ((conv => (lhs; whnf)); first | done | with_reducible rfl)) | (refine wpPlan_read1 rfl ?hw rfl (fun _ _ _ => ?_); case hw => ((conv => (lhs; whnf)); first | done | with_reducible rfl)) | refine wpPlan_fork ?_ ?_) | ((with_reducible show Owed _ _ _ _ _ _ _ _ _); first | refine Owed.none_ ?_ | refine Owed.nil_ ?_ | refine Owed.miss rfl ?_ | refine Owed.hit ?_ ?_) | ((with_reducible show Same _ _ _ _ _); intro _; go_simp; done) | (with_reducible exact True.intro) | ((with_reducible show Code.wp _ (Code.region 11 _ true) _ _ _); refine wp_region_plan [(0, 1, []), (1, 1, []), (3, 1, []), (4, 1, []), (2, 2, [3, 4]), (5, 2, []), (6, 1, [])] (by kernel_rfl) (by kernel_rfl) (by kernel_rfl) ?_))
          refine (equalL_gen (HV14.out.rows.drewN 1) (HZ14.out.2.drewN 1) (by omega) (by omega) (fun l hl => by have := HS2.out l hl; omega) (fun l hl => by have := HS14.out l hl; omega)).mono ?_
          rintro e w15 ⟨⟨q4, rfl, hq4⟩, hb15⟩
          have hbd15 := ((Below.refl _ (w14.alloc (.cells #[.slice A14 n14 c14] 27))).drew).trans hb15
          have HQ4 := Lib.hid hq4
          have HV15 := Lib.hid (HV14.out.below hbd15)
          have HZ15 := Lib.hid (And.intro (HZ14.out.1.below hbd15 HZ14.out.1.lt) ((HZ14.out.2.below hbd15).more hbd15.size))
          clear hb15 hbd15 hq4
          have h15c := HV15.out.sr.sx.cell
          have h15l := HV15.out.sr.sx.lt
          have z15c := HZ15.out.1.cell
          have z15l := HZ15.out.1.lt
          go_wp2_with (first | ((with_reducible show wpPlan _ _ _ _ _ (Act.put _ _ _) _); simp only [List.getElem_toArray, List.getElem_cons_succ, List.getElem_cons_zero, Act.put, List.setIfInBounds_toArray, List.set_cons_zero, List.set_cons_succ]) | ((with_reducible show wpPlan _ _ _ _ _ _ _); first | refine wpPlan_nil ?_ | (refine wpPlan_read0 rfl ?hw rfl (fun _ _ _ => ?_); case hw => ((conv => (lhs; whnf)); first | done | with_reducible rfl)) | (refine wpPlan_read1d rfl ?hw rfl rfl (fun _ _ _ => ?_); case hw => ((conv => (lhs; whnf)); first | done | with_reducible rfl)) | (refine wpPlan_eff rfl ?hw (fun _ _ => ?_); case hw => ((conv => (lhs; whnf)); first | done | with_reducible rfl)) | (refine wpPlan_skip0 rfl ?hw ?_; case hw => ((conv => (lhs; whnf)); first | done | with_reducible rfl)) | (refine wpPlan_skip1d rfl ?hw ?_; case hw => ((conv => (lhs; whnf)); first | done | with_reducible rfl)) | (refine wpPlan_skip2 rfl ?hw ?_; case hw => ((conv => (lhs; whnf)); first | done | with_reducible rfl)) | (refine wpPlan_read1 rfl ?hw rfl (fun _ _ _ => ?_); case hw => ((conv => (lhs; whnf)); first | done | with_reducible rfl)) | refine wpPlan_fork ?_ ?_) | ((with_reducible show Owed _ _ _ _ _ _ _ _ _); first | refine Owed.none_ ?_ | refine Owed.nil_ ?_ | refine Owed.miss rfl ?_ | refine Owed.hit ?_ ?_) | ((with_reducible show Same _ _ _ _ _); intro _; go_simp; done) | (with_reducible exact True.intro))
          refine (requal_gen HV15.out.rows HZ15.out.2 (by omega) (by omega) (fun l hl => by have := HS2.out l hl; omega) (fun l hl => by have := HS14.out l hl; omega)).mono ?_
          rintro e w16 ⟨⟨q5, rfl, hq5⟩, hb16⟩
          obtain rfl : q4 = q5 := HQ4.out.unique hq5
          have HV16 := Lib.hid (HV15.out.sr.below hb16)
          have HZ := Lib.hid (And.intro HV16.out.tp (And.intro (And.intro (HW.out.2.1.1.out HV16.out.out (by omega)) (HW.out.2.1.2.out HV16.out.out (by omega))) (HW.out.2.2.trans (HV16.out.out.below (Nat.le_trans (by omega) hsz) (fun k hk e => by omega)))))
          have hsz16 : w.heap.size + 3 ≤ w16.heap.size := Nat.le_trans hsz HV16.out.out.size
          have hqq4 : (q4 == q4) = true := beq_self_eq_true q4
          clear hb16 hq5 h14c h14l z14c z14l h15c h15l z15c z15l
          go_wp2_with (first | ((with_reducible show wpPlan _ _ _ _ _ (Act.put _ _ _) _); simp only [List.getElem_toArray, List.getElem_cons_succ, List.getElem_cons_zero, Act.put, List.setIfInBounds_toArray, List.set_cons_zero, List.set_cons_succ]) | ((with_reducible show wpPlan _ _ _ _ _ _ _); first | refine wpPlan_nil ?_ | (refine wpPlan_read0 rfl ?hw rfl (fun _ _ _ => ?_); case hw => ((conv => (lhs; whnf)); first | done | with_reducible rfl)) | (refine wpPlan_read1d rfl ?hw rfl rfl (fun _ _ _ => ?_); case hw => ((conv => (lhs; whnf)); first | done | with_reducible rfl)) | (refine wpPlan_eff rfl ?hw (fun _ _ => ?_); case hw => ((conv => (lhs; whnf)); first | done | with_reducible rfl)) | (refine wpPlan_skip0 rfl ?hw ?_; case hw => ((conv => (lhs; whnf)); first | done | with_reducible rfl)) | (refine wpPlan_skip1d rfl ?hw ?_; case hw => ((conv => (lhs; whnf)); first | done | with_reducible rfl)) | (refine wpPlan_skip2 rfl ?hw ?_; case hw => ((conv => (lhs; whnf)); first | done | with_reducible rfl)) | (refine wpPlan_read1 rfl ?hw rfl (fun _ _ _ => ?_); case hw => ((conv => (lhs; whnf)); first | done | with_reducible rfl)) | refine wpPlan_fork ?_ ?_) | ((with_reducible show Owed _ _ _ _ _ _ _ _ _); first | refine Owed.none_ ?_ | refine Owed.nil_ ?_ | refine Owed.miss rfl ?_ | refine Owed.hit ?_ ?_) | ((with_reducible show Same _ _ _ _ _); intro _; go_simp; done) | (with_reducible exact True.intro))
          go_roundw
          case rel => exact ⟨k + 1, j14, by omega, by go_num, by omega, hsz16, HZ⟩
          case measure => simp [intOf]; omega
        · have hb6 := (Below.refl w5.heap.size w5).alloc (Nat.le_refl _) (.cells #[.slice none 0 0] 27)
          have HV6 := Lib.hid (HV5.out.below hb6)
          have HY6 := Lib.hid (And.intro (HY5.out.1.below hb6 HY5.out.1.lt) ((HY5.out.2.below hb6).more hb6.size))
          have HR6 := Lib.hid ((HR5.out.below hb6).more hb6.size)
          have HF6 := Lib.hid (Blk.new w5 27 #[.slice none 0 0])
          have HXB6 := Lib.hid (And.intro (HV5.out.rows.below hb6) (HY5.out.2.below hb6))
          refine (rquotient_any (some ⟨g2, 0, none⟩) n2 n2 l2 A5 n5 c5 (intC cl5) _ _ HV6.out.rows HR6.out (Nat.le_refl _) (by omega) (by omega) (fun l hl => by have := HS2.out l hl; omega)).mono ?_
          rintro e w9 ⟨A9, n9, c9, lq, e9, rfl, ⟨W9, x9, hW9, hX9⟩, hb9, hq9⟩
          have HIQ := Lib.hid (quo_is HV2'.out HC5.out hq9)
          have hn9 : n9 ≤ 6 := by have h1 := hX9.whole.len; have h2 := HIQ.out.1; have h3 := HL2.out; omega
          have HV9 := Lib.hid (HV6.out.below hb9)
          have HY9 := Lib.hid (And.intro (HY6.out.1.below hb9 HY6.out.1.lt) ((HY6.out.2.below hb9).more hb9.size))
          have HR9 := Lib.hid hX9
          have HF9 := Lib.hid (HF6.out.below hb9 HF6.out.lt)
          have HXB := Lib.hid (And.intro (HXB6.out.1.below (hb9.mono (by simp))) (HXB6.out.2.below (hb9.mono (by simp))))
          have hW9' : w5.heap.size + 1 ≤ W9 := by simpa using hW9
          have HX10 := Lib.hid (SsAt.put HV9.out HXB.out.1 (by have := HV4.out.sr.sx.lt; omega) (by have := HV4.out.sr.tp.blk.lt; omega) (by have := HV4.out.sr.tp.blk.lt; have := HV4.out.sr.tp.lo; omega) (by have := HV4.out.sr.out.size; omega) HF9.out.lt (.slice A9 n9 c9))
          have HV10 := HX10
          have hbB : Below w5.heap.size w9 (w9.setCell ⟨w5.heap.size, 0, none⟩ (.slice A9 n9 c9)) := (Below.refl w5.heap.size w9).setCell (p := ⟨w5.heap.size, 0, none⟩) (Nat.le_refl _) _
          have HY10 := Lib.hid (And.intro (HY9.out.1.below hbB (by omega)) ((HXB.out.2.below hbB).more (show w5.heap.size ≤ (w9.setCell ⟨w5.heap.size, 0, none⟩ (.slice A9 n9 c9)).heap.size by have := HF9.out.lt; have := hbB.size; omega)))
          have HQ10 := Lib.hid (And.intro (HF9.out.put 0 (.slice A9 n9 c9)) ((HR9.out.out ((Outside.refl (fun x => x = w5.heap.size) w9).setCell (p := ⟨w5.heap.size, 0, none⟩) (.inl rfl) (.slice A9 n9 c9)) (fun g h1 _ e => by omega)).whole))
          have f9c := HF9.out.cell
          have f9l := HF9.out.lt
          have f9f := HF9.out.frozen
          clear hX9 hb9 hq9 hbB
          have h10c := HV10.out.sr.sx.cell
          have h10l := HV10.out.sr.sx.lt
          have y10c := HY10.out.1.cell
          have y10l := HY10.out.1.lt
          have q10c := HQ10.out.1.cell
          have q10l := HQ10.out.1.lt
          go_wp2_with (first | ((with_reducible show wpTree _ _ _ _ _ (Act.put _ _ _) _); simp only [List.getElem_toArray, List.getElem_cons_succ, List.getElem_cons_zero, Act.put, List.setIfInBounds_toArray, List.set_cons_zero, List.set_cons_succ]) | ((with_reducible show wpTree _ _ _ _ _ _ _); first | refine wpTree_line ?_ | refine wpTree_alt ?_ ?_ | (refine wpTree_read0 rfl ?hw rfl (fun _ _ _ => ?_); case hw => ((conv => (lhs; whnf)); first | done | with_reducible rfl)) | (refine wpTree_read1 rfl ?hw rfl (fun _ _ _ => ?_); case hw => ((conv => (lhs; whnf)); first | done | with_reducible rfl)) | (refine wpTree_eff rfl ?hw (fun _ _ => ?_); case hw => ((conv => (lhs; whnf)); first | done | with_reducible rfl)) | (refine wpTree_skip0 rfl ?hw ?_; case hw => ((conv => (lhs; whnf)); first | done | with_reducible rfl)) | (refine wpTree_skip1 rfl ?hw ?_; case hw => ((conv => (lhs; whnf)); first | done | with_reducible rfl)) | (refine wpTree_skip2 rfl ?hw ?_; case hw => ((conv => (lhs; whnf)); first | done | with_reducible rfl))) | ((with_reducible show OwedT _ _ _ _ _ _ _ _ _); first | refine OwedT.none_ ?_ | refine OwedT.nil_ ?_ | refine OwedT.miss rfl ?_ | refine OwedT.hit ?_ ?_) | ((with_reducible show wpPlan _ _ _ _ _ (Act.put _ _ _) _); simp only [List.getElem_toArray, List.getElem_cons_succ, List.getElem_cons_zero, Act.put, List.setIfInBounds_toArray, List.set_cons_zero, List.set_cons_succ]) | ((with_reducible show wpPlan _ _ _ _ _ _ _); first | refine wpPlan_nil ?_ | (refine wpPlan_read0 rfl ?hw rfl (fun _ _ _ => ?_); case hw => ((conv => (lhs; whnf)); first | done | with_reducible rfl)) | (refine wpPlan_read1d rfl ?hw rfl rfl (fun _ _ _ => ?_); case hw => ((conv => (lhs; whnf)); first | done | with_reducible rfl)) | (refine wpPlan_eff rfl ?hw (fun _ _ => ?_); case hw => ((conv => (lhs; whnf)); first | done | with_reducible rfl)) | (refine wpPlan_skip0 rfl ?hw ?_; case hw => ((conv => (lhs; whnf)); first | done | with_reducible rfl)) | (refine wpPlan_skip1d rfl ?hw ?_; case hw => ((conv => (lhs; whnf)); first | done | with_reducible rfl)) | (refine wpPlan_skip2 rfl ?hw ?_; case hw => ((conv => (lhs; whnf)); first | done | with_reducible rfl)) | (refine wpPlan_read1 rfl ?hw rfl (fun _ _ _ => ?_); case hw => ((conv => (lhs; whnf)); first | done | with_reducible rfl)) | refine wpPlan_fork ?_ ?_) | ((with_reducible show Owed _ _ _ _ _ _ _ _ _); first | refine Owed.none_ ?_ | refine Owed.nil_ ?_ | refine Owed.miss rfl ?_ | refine Owed.hit ?_ ?_) | ((with_reducible show Same _ _ _ _ _); intro _; go_simp; done) | (with_reducible exact True.intro) | ((with_reducible show Code.wp _ (Code.region 8 _ true) _ _ _); refine wp_region_plan [(0, 1, []), (1, 1, []), (3, 1, []), (4, 1, []), (2, 2, [3, 4]), (5, 2, []), (6, 1, []), (7, 0, []), (8, 1, []), (9, 1, []), (10, 2, []), (11, 1, []), (12, 0, [])] (by kernel_rfl) (by kernel_rfl) (by kernel_rfl) ?_) | ((with_reducible show Code.wp _ (Code.region 7 _ true) _ _ _); refine wp_region_tree (Tree.read 0 1 (Tree.read 1 1 (Tree.alt (Tree.eff 2 [0] (Tree.alt (Tree.eff 3 [] (Tree.line [(4, 0, []), (5, 1, []), (6, 1, []), (7, 2, [0, 1, 5, 6]), (8, 2, [6]), (9, 0, [])])) (Tree.eff 7 [0, 1] (Tree.line [(3, 2, []), (4, 0, []), (5, 1, []), (6, 1, []), (8, 2, [6]), (9, 0, [])])))) (Tree.eff 7 [0, 1] (Tree.line [(2, 2, [0]), (3, 2, []), (4, 0, []), (5, 1, []), (6, 1, []), (8, 2, [6]), (9, 0, [])]))))) (by kernel_rfl) (by kernel_rfl) (by kernel_rfl) ?_))
          refine (equalL_gen (HV10.out.rows.drewN 1) (HY10.out.2.drewN 1) (by omega) (by omega) (fun l hl => by have := HS2.out l hl; omega) (fun l hl => by have := HS4.out l hl; omega)).mono ?_
          rintro e w11 ⟨⟨q1, rfl, hq1⟩, hb11⟩
          have hbd11 := ((Below.refl _ (w9.setCell ⟨w5.heap.size, 0, none⟩ (.slice A9 n9 c9))).drew).trans hb11
          have HQ1 := Lib.hid hq1
          have HV11 := Lib.hid (HV10.out.below hbd11)
          have HY11 := Lib.hid (And.intro (HY10.out.1.below hbd11 HY10.out.1.lt) ((HY10.out.2.below hbd11).more hbd11.size))
          have HQ11 := Lib.hid (And.intro (HQ10.out.1.below hbd11 HQ10.out.1.lt) ((HQ10.out.2.below hbd11).more hbd11.size))
          clear hb11 hbd11 hq1
          have h11c := HV11.out.sr.sx.cell
          have h11l := HV11.out.sr.sx.lt
          have y11c := HY11.out.1.cell
          have y11l := HY11.out.1.lt
          go_wp2_with (first | ((with_reducible show wpPlan _ _ _ _ _ (Act.put _ _ _) _); simp only [List.getElem_toArray, List.getElem_cons_succ, List.getElem_cons_zero, Act.put, List.setIfInBounds_toArray, List.set_cons_zero, List.set_cons_succ]) | ((with_reducible show wpPlan _ _ _ _ _ _ _); first | refine wpPlan_nil ?_ | (refine wpPlan_read0 rfl ?hw rfl (fun _ _ _ => ?_); case hw => ((conv => (lhs; whnf)); first | done | with_reducible rfl)) | (refine wpPlan_read1d rfl ?hw rfl rfl (fun _ _ _ => ?_); case hw => ((conv => (lhs; whnf)); first | done | with_reducible rfl)) | (refine wpPlan_eff rfl ?hw (fun _ _ => ?_); case hw => ((conv => (lhs; whnf)); first | done | with_reducible rfl)) | (refine wpPlan_skip0 rfl ?hw ?_; case hw => ((conv => (lhs; whnf)); first | done | with_reducible rfl)) | (refine wpPlan_skip1d rfl ?hw ?_; case hw => ((conv => (lhs; whnf)); first | done | with_reducible rfl)) | (refine wpPlan_skip2 rfl ?hw ?_; case hw => ((conv => (lhs; whnf)); first | done | with_reducible rfl)) | (refine wpPlan_read1 rfl ?hw rfl (fun _ _ _ => ?_); case hw => ((conv => (lhs; whnf)); first | done | with_reducible rfl)) | refine wpPlan_fork ?_ ?_) | ((with_reducible show Owed _ _ _ _ _ _ _ _ _); first | refine Owed.none_ ?_ | refine Owed.nil_ ?_ | refine Owed.miss rfl ?_ | refine Owed.hit ?_ ?_) | ((with_reducible show Same _ _ _ _ _); intro _; go_simp; done) | (with_reducible exact True.intro))
          refine (requal_gen HV11.out.rows HY11.out.2 (by omega) (by omega) (fun l hl => by have := HS2.out l hl; omega) (fun l hl => by have := HS4.out l hl; omega)).mono ?_
          rintro e w12 ⟨⟨q2, rfl, hq2⟩, hb12⟩
          obtain rfl : q1 = q2 := HQ1.out.unique hq2
          have HV12 := Lib.hid (HV11.out.below hb12)
          have HY12 := Lib.hid (And.intro (HY11.out.1.below hb12 y11l) ((HY11.out.2.below hb12).more hb12.size))
          have HQ12 := Lib.hid (And.intro (HQ11.out.1.below hb12 HQ11.out.1.lt) ((HQ11.out.2.below hb12).more hb12.size))
          clear hb12 hq2 h10c h10l y10c y10l q10c q10l h11c h11l y11c y11l
          have h12c := HV12.out.sr.sx.cell
          have h12l := HV12.out.sr.sx.lt
          have q12c := HQ12.out.1.cell
          have q12l := HQ12.out.1.lt
          have hqq : (q1 == q1) = true := beq_self_eq_true q1
          go_wp2_with (first | ((with_reducible show wpPlan _ _ _ _ _ (Act.put _ _ _) _); simp only [List.getElem_toArray, List.getElem_cons_succ, List.getElem_cons_zero, Act.put, List.setIfInBounds_toArray, List.set_cons_zero, List.set_cons_succ]) | ((with_reducible show wpPlan _ _ _ _ _ _ _); first | refine wpPlan_nil ?_ | (refine wpPlan_read0 rfl ?hw rfl (fun _ _ _ => ?_); case hw => ((conv => (lhs; whnf)); first | done | with_reducible rfl)) | (refine wpPlan_read1d rfl ?hw rfl rfl (fun _ _ _ => ?_); case hw => ((conv => (lhs; whnf)); first | done | with_reducible rfl)) | (refine wpPlan_eff rfl ?hw (fun _ _ => ?_); case hw => ((conv => (lhs; whnf)); first | done | with_reducible rfl)) | (refine wpPlan_skip0 rfl ?hw ?_; case hw => ((conv => (lhs; whnf)); first | done | with_reducible rfl)) | (refine wpPlan_skip1d rfl ?hw ?_; case hw => ((conv => (lhs; whnf)); first | done | with_reducible rfl)) | (refine wpPlan_skip2 rfl ?hw ?_; case hw => ((conv => (lhs; whnf)); first | done | with_reducible rfl)) | (refine wpPlan_read1 rfl ?hw rfl (fun _ _ _ => ?_); case hw => ((conv => (lhs; whnf)); first | done | with_reducible rfl)) | refine wpPlan_fork ?_ ?_) | ((with_reducible show Owed _ _ _ _ _ _ _ _ _); first | refine Owed.none_ ?_ | refine Owed.nil_ ?_ | refine Owed.miss rfl ?_ | refine Owed.hit ?_ ?_) | ((with_reducible show Same _ _ _ _ _); intro _; go_simp; done) | (with_reducible exact True.intro))
          refine (equalL_gen HV12.out.rows HQ12.out.2 (by omega) (by omega) (fun l hl => by have := HS2.out l hl; omega) (fun l hl => by have := HIQ.out.2.1 l hl; have := HT2.out; omega)).mono ?_
          rintro e w13 ⟨⟨q3, rfl, hq3⟩, hb13⟩
          obtain rfl : q3 = true := HIQ.out.2.2 q3 hq3
          have HV13 := Lib.hid (HV12.out.below hb13)
          have HY13 := Lib.hid (And.intro (HY12.out.1.below hb13 HY12.out.1.lt) ((HY12.out.2.below hb13).more hb13.size))
          clear hb13 hq3 h12c h12l q12c q12l
          have y13c := HY13.out.1.cell
          have y13l := HY13.out.1.lt
          go_wp2_with (first | ((with_reducible show wpPlan _ _ _ _ _ (Act.put _ _ _) _); simp only [List.getElem_toArray, List.getElem_cons_succ, List.getElem_cons_zero, Act.put, List.setIfInBounds_toArray, List.set_cons_zero, List.set_cons_succ]) | ((with_reducible show wpPlan _ _ _ _ _ _ _); first | refine wpPlan_nil ?_ | (refine wpPlan_read0 rfl ?hw rfl (fun _ _ _ => ?_); case hw => ((conv => (lhs; whnf)); first | done | with_reducible rfl)) | (refine wpPlan_read1d rfl ?hw rfl rfl (fun _ _ _ => ?_); case hw => ((conv => (lhs; whnf)); first | done | with_reducible rfl)) | (refine wpPlan_eff rfl ?hw (fun _ _ => ?_); case hw => ((conv => (lhs; whnf)); first | done | with_reducible rfl)) | (refine wpPlan_skip0 rfl ?hw ?_; case hw => ((conv => (lhs; whnf)); first | done | with_reducible rfl)) | (refine wpPlan_skip1d rfl ?hw ?_; case hw => ((conv => (lhs; whnf)); first | done | with_reducible rfl)) | (refine wpPlan_skip2 rfl ?hw ?_; case hw => ((conv => (lhs; whnf)); first | done | with_reducible rfl)) | (refine wpPlan_read1 rfl ?hw rfl (fun _ _ _ => ?_); case hw => ((conv => (lhs; whnf)); first | done | with_reducible rfl)) | refine wpPlan_fork ?_ ?_) | ((with_reducible show Owed _ _ _ _ _ _ _ _ _); first | refine Owed.none_ ?_ | refine Owed.nil_ ?_ | refine Owed.miss rfl ?_ | refine Owed.hit ?_ ?_) | ((with_reducible show Same _ _ _ _ _); intro _; go_simp; done) | (with_reducible exact True.intro))
          refine (spoil_any w.heap.size (w.heap.size + 2) A n c j4 zs A4 n4 c4 55 l4 _ HV13.out.sr.tp HY13.out.2 (by omega) (fun l hl => by have := HS4.out l hl; omega) (by decide) (by omega) (by omega)).mono ?_
          rintro e w14 ⟨⟨A14, n14, c14, l14, rfl, hR14, hnc14, hn14, hs14⟩, ⟨j14, hj14, hT14⟩, hO14⟩
          have HV14 := Lib.hid ((HV13.out.step hT14 hO14).below ((Below.refl w14.heap.size w14).alloc (Nat.le_refl _) (.cells #[.slice A14 n14 c14] 27)))
          have HZ14 := Lib.hid (And.intro (Blk.new w14 27 #[.slice A14 n14 c14]) ((hR14.alloc (Nat.le_refl _) (.cells #[.slice A14 n14 c14] 27)).more (show w14.heap.size ≤ (w14.alloc (.cells #[.slice A14 n14 c14] 27)).heap.size by simp)))
          have HS14 := Lib.hid hs14
          clear hT14 hR14 hO14 hs14 y13c y13l
          have h14c := HV14.out.sr.sx.cell
          have h14l := HV14.out.sr.sx.lt
          have z14c := HZ14.out.1.cell
          have z14l := HZ14.out.1.lt
          go_wp2_with (first | ((with_reducible show wpPlan _ _ _ _ _ (Act.put _ _ _) _); simp only [List.getElem_toArray, List.getElem_cons_succ, List.getElem_cons_zero, Act.put, List.setIfInBounds_toArray, List.set_cons_zero, List.set_cons_succ]) | ((with_reducible show wpPlan _ _ _ _ _ _ _); first | refine wpPlan_nil ?_ | (refine wpPlan_read0 rfl ?hw rfl (fun _ _ _ => ?_); case hw => ((conv => (lhs; whnf)); first | done | with_reducible rfl)) | (refine wpPlan_read1d rfl ?hw rfl rfl (fun _ _ _ => ?_); case hw => ((conv => (lhs; whnf)); first | done | with_reducible rfl)) | (refine wpPlan_eff rfl ?hw (fun _ _ => ?_); case hw => ((conv => (lhs; whnf)); first | done | with_reducible rfl)) | (refine wpPlan_skip0 rfl ?hw ?_; case hw => ((conv => (lhs; whnf)); first | done | with_reducible rfl)) | (refine wpPlan_skip1d rfl ?hw ?_; case hw => ((conv => (lhs; whnf)); first | done | with_reducible rfl)) | (refine wpPlan_skip2 rfl ?hw ?_; case hw => ((conv => (lhs; whnf)); first | done | with_reducible rfl)) | (refine wpPlan_read1 rfl ?hw rfl (fun _ _ _ => ?_); case hw => ((conv => (lhs; whnf)); first | done | with_reducible rfl)) | refine wpPlan_fork ?_ ?_) | ((with_reducible show Owed _ _ _ _ _ _ _ _ _); first | refine Owed.none_ ?_ | refine Owed.nil_ ?_ | refine Owed.miss rfl ?_ | refine Owed.hit ?_ ?_) | ((with_reducible show Same _ _ _ _ _); intro _; go_simp; done) | (with_reducible exact True.intro) | ((with_reducible show Code.wp _ (Code.region 11 _ true) _ _ _); refine wp_region_plan [(0, 1, []), (1, 1, []), (3, 1, []), (4, 1, []), (2, 2, [3, 4]), (5, 2, []), (6, 1, [])] (by kernel_rfl) (by kernel_rfl) (by kernel_rfl) ?_))
          refine (equalL_gen (HV14.out.rows.drewN 1) (HZ14.out.2.drewN 1) (by omega) (by omega) (fun l hl => by have := HS2.out l hl; omega) (fun l hl => by have := HS14.out l hl; omega)).mono ?_
          rintro e w15 ⟨⟨q4, rfl, hq4⟩, hb15⟩
          have hbd15 := ((Below.refl _ (w14.alloc (.cells #[.slice A14 n14 c14] 27))).drew).trans hb15
          have HQ4 := Lib.hid hq4
          have HV15 := Lib.hid (HV14.out.below hbd15)
          have HZ15 := Lib.hid (And.intro (HZ14.out.1.below hbd15 HZ14.out.1.lt) ((HZ14.out.2.below hbd15).more hbd15.size))
          clear hb15 hbd15 hq4
          have h15c := HV15.out.sr.sx.cell
          have h15l := HV15.out.sr.sx.lt
          have z15c := HZ15.out.1.cell
          have z15l := HZ15.out.1.lt
          go_wp2_with (first | ((with_reducible show wpPlan _ _ _ _ _ (Act.put _ _ _) _); simp only [List.getElem_toArray, List.getElem_cons_succ, List.getElem_cons_zero, Act.put, List.setIfInBounds_toArray, List.set_cons_zero, List.set_cons_succ]) | ((with_reducible show wpPlan _ _ _ _ _ _ _); first | refine wpPlan_nil ?_ | (refine wpPlan_read0 rfl ?hw rfl (fun _ _ _ => ?_); case hw => ((conv => (lhs; whnf)); first | done | with_reducible rfl)) | (refine wpPlan_read1d rfl ?hw rfl rfl (fun _ _ _ => ?_); case hw => ((conv => (lhs; whnf)); first | done | with_reducible rfl)) | (refine wpPlan_eff rfl ?hw (fun _ _ => ?_); case hw => ((conv => (lhs; whnf)); first | done | with_reducible rfl)) | (refine wpPlan_skip0 rfl ?hw ?_; case hw => ((conv => (lhs; whnf)); first | done | with_reducible rfl)) | (refine wpPlan_skip1d rfl ?hw ?_; case hw => ((conv => (lhs; whnf)); first | done | with_reducible rfl)) | (refine wpPlan_skip2 rfl ?hw ?_; case hw => ((conv => (lhs; whnf)); first | done | with_reducible rfl)) | (refine wpPlan_read1 rfl ?hw rfl (fun _ _ _ => ?_); case hw => ((conv => (lhs; whnf)); first | done | with_reducible rfl)) | refine wpPlan_fork ?_ ?_) | ((with_reducible show Owed _ _ _ _ _ _ _ _ _); first | refine Owed.none_ ?_ | refine Owed.nil_ ?_ | refine Owed.miss rfl ?_ | refine Owed.hit ?_ ?_) | ((with_reducible show Same _ _ _ _ _); intro _; go_simp; done) | (with_reducible exact True.intro))
          refine (requal_gen HV15.out.rows HZ15.out.2 (by omega) (by omega) (fun l hl => by have := HS2.out l hl; omega) (fun l hl => by have := HS14.out l hl; omega)).mono ?_
          rintro e w16 ⟨⟨q5, rfl, hq5⟩, hb16⟩
          obtain rfl : q4 = q5 := HQ4.out.unique hq5
          have HV16 := Lib.hid (HV15.out.sr.below hb16)
          have HZ := Lib.hid (And.intro HV16.out.tp (And.intro (And.intro (HW.out.2.1.1.out HV16.out.out (by omega)) (HW.out.2.1.2.out HV16.out.out (by omega))) (HW.out.2.2.trans (HV16.out.out.below (Nat.le_trans (by omega) hsz) (fun k hk e => by omega)))))
          have hsz16 : w.heap.size + 3 ≤ w16.heap.size := Nat.le_trans hsz HV16.out.out.size
          have hqq4 : (q4 == q4) = true := beq_self_eq_true q4
          clear hb16 hq5 h14c h14l z14c z14l h15c h15l z15c z15l
          go_wp2_with (first | ((with_reducible show wpPlan _ _ _ _ _ (Act.put _ _ _) _); simp only [List.getElem_toArray, List.getElem_cons_succ, List.getElem_cons_zero, Act.put, List.setIfInBounds_toArray, List.set_cons_zero, List.set_cons_succ]) | ((with_reducible show wpPlan _ _ _ _ _ _ _); first | refine wpPlan_nil ?_ | (refine wpPlan_read0 rfl ?hw rfl (fun _ _ _ => ?_); case hw => ((conv => (lhs; whnf)); first | done | with_reducible rfl)) | (refine wpPlan_read1d rfl ?hw rfl rfl (fun _ _ _ => ?_); case hw => ((conv => (lhs; whnf)); first | done | with_reducible rfl)) | (refine wpPlan_eff rfl ?hw (fun _ _ => ?_); case hw => ((conv => (lhs; whnf)); first | done | with_reducible rfl)) | (refine wpPlan_skip0 rfl ?hw ?_; case hw => ((conv => (lhs; whnf)); first | done | with_reducible rfl)) | (refine wpPlan_skip1d rfl ?hw ?_; case hw => ((conv => (lhs; whnf)); first | done | with_reducible rfl)) | (refine wpPlan_skip2 rfl ?hw ?_; case hw => ((conv => (lhs; whnf)); first | done | with_reducible rfl)) | (refine wpPlan_read1 rfl ?hw rfl (fun _ _ _ => ?_); case hw => ((conv => (lhs; whnf)); first | done | with_reducible rfl)) | refine wpPlan_fork ?_ ?_) | ((with_reducible show Owed _ _ _ _ _ _ _ _ _); first | refine Owed.none_ ?_ | refine Owed.nil_ ?_ | refine Owed.miss rfl ?_ | refine Owed.hit ?_ ?_) | ((with_reducible show Same _ _ _ _ _); intro _; go_simp; done) | (with_reducible exact True.intro))
          go_roundw
          case rel => exact ⟨k + 1, j14, by omega, by go_num, by omega, hsz16, HZ⟩
          case measure => simp [intOf]; omega
      · have hb4 := ((Below.refl _ (w4.alloc (.cells #[.slice A4 n4 c4] 27))).alloc (Nat.le_refl _) (.cells #[.slice none 0 0] 27)).drew
        have HV4d := Lib.hid (HV4.out.below hb4)
        have HY4d := Lib.hid (And.intro (HY4.out.1.below hb4 HY4.out.1.lt) ((HY4.out.2.below hb4).more hb4.size))
        have HF4 := Lib.hid (show Blk ((w4.alloc (.cells #[.slice A4 n4 c4] 27)).alloc (.cells #[.slice none 0 0] 27)).drew (w4.heap.size + 1) 27 #[.slice none 0 0] from (show Blk ((w4.alloc (.cells #[.slice A4 n4 c4] 27)).alloc (.cells #[.slice none 0 0] 27)) (w4.heap.size + 1) 27 #[.slice none 0 0] from heap_alloc_at (by simp)).drew)
        have HXB4 := Lib.hid (And.intro (HV4.out.rows.below hb4) (HY4.out.2.below hb4))
        have hz4' : (w4.alloc (.cells #[.slice A4 n4 c4] 27)).heap.size = w4.heap.size + 1 := by simp
        rw [hz4'] at HXB4
        refine (Strong_any (some ⟨g2, 0, none⟩) n2 n2 l2 _ _ HV4d.out.rows (Nat.le_refl _) (by omega) (fun l hl => by have := HS2.out l hl; omega)).mono ?_
        rintro e w5 ⟨⟨A5, n5, c5, cl5, rfl, hR5, hcl5⟩, hb5⟩
        have HV5 := Lib.hid (HV4d.out.below hb5)
        have HY5 := Lib.hid (And.intro (HY4d.out.1.below hb5 HY4d.out.1.lt) ((HY4d.out.2.below hb5).more hb5.size))
        have HF5 := Lib.hid (HF4.out.below hb5 HF4.out.lt)
        have HC5 := Lib.hid hcl5
        have hn5 : n5 ≤ 1000 := by
          have h1 := hR5.len ncell_len (by decide)
          rcases hcl5 with ⟨_, rfl⟩ | ⟨_, K, _, rfl⟩
          · rw [← h1]; simp
          · rw [← h1, clK_len]; have := HL2.out; omega
        have HR5 := Lib.hid (rd_intC hR5)
        have hb5m := hb5
        clear hb5 hR5 hcl5
        have h5c := HV5.out.sr.sx.cell
        have h5l := HV5.out.sr.sx.lt
        have HXB5 := Lib.hid (And.intro (HXB4.out.1.below (hb5m.mono (by simp <;> omega))) (HXB4.out.2.below (hb5m.mono (by simp <;> omega))))
        have hs5 : w4.heap.size + 2 ≤ w5.heap.size := by have := HF5.out.lt; omega
        go_wp2_with (first | ((with_reducible show wpTree _ _ _ _ _ (Act.put _ _ _) _); simp only [List.getElem_toArray, List.getElem_cons_succ, List.getElem_cons_zero, Act.put, List.setIfInBounds_toArray, List.set_cons_zero, List.set_cons_succ]) | ((with_reducible show wpTree _ _ _ _ _ _ _); first | refine wpTree_line ?_ | refine wpTree_alt ?_ ?_ | (refine wpTree_read0 rfl ?hw rfl (fun _ _ _ => ?_); case hw => ((conv => (lhs; whnf)); first | done | with_reducible rfl)) | (refine wpTree_read1 rfl ?hw rfl (fun _ _ _ => ?_); case hw => ((conv => (lhs; whnf)); first | done | with_reducible rfl)) | (refine wpTree_eff rfl ?hw (fun _ _ => ?_); case hw => ((conv => (lhs; whnf)); first | done | with_reducible rfl)) | (refine wpTree_skip0 rfl ?hw ?_; case hw => ((conv => (lhs; whnf)); first | done | with_reducible rfl)) | (refine wpTree_skip1 rfl ?hw ?_; case hw => ((conv => (lhs; whnf)); first | done | with_reducible rfl)) | (refine wpTree_skip2 rfl ?hw ?_; case hw => ((conv => (lhs; whnf)); first | done | with_reducible rfl))) | ((with_reducible show OwedT _ _ _ _ _ _ _ _ _); first | refine OwedT.none_ ?_ | refine OwedT.nil_ ?_ | refine OwedT.miss rfl ?_ | refine OwedT.hit ?_ ?_) | ((with_reducible show wpPlan _ _ _ _ _ (Act.put _ _ _) _); simp only [List.getElem_toArray, List.getElem_cons_succ, List.getElem_cons_zero, Act.put, List.setIfInBounds_toArray, List.set_cons_zero, List.set_cons_succ]) | ((with_reducible show wpPlan _ _ _ _ _ _ _); first | refine wpPlan_nil ?_ | (refine wpPlan_read0 rfl ?hw rfl (fun _ _ _ => ?_); case hw => ((conv => (lhs; whnf)); first | done | with_reducible rfl)) | (refine wpPlan_read1d rfl ?hw rfl rfl (fun _ _ _ => ?_); case hw => ((conv => (lhs; whnf)); first | done | with_reducible rfl)) | (refine wpPlan_eff rfl ?hw (fun _ _ => ?_); case hw => ((conv => (lhs; whnf)); first | done | with_reducible rfl)) | (refine wpPlan_skip0 rfl ?hw ?_; case hw => ((conv => (lhs; whnf)); first | done | with_reducible rfl)) | (refine wpPlan_skip1d rfl ?hw ?_; case hw => ((conv => (lhs; whnf)); first | done | with_reducible rfl)) | (refine wpPlan_skip2 rfl ?hw ?_; case hw => ((conv => (lhs; whnf)); first | done | with_reducible rfl)) | (refine wpPlan_read1 rfl ?hw rfl (fun _ _ _ => ?_); case hw => ((conv => (lhs; whnf)); first | done | with_reducible rfl)) | refine wpPlan_fork ?_ ?_) | ((with_reducible show Owed _ _ _ _ _ _ _ _ _); first | refine Owed.none_ ?_ | refine Owed.nil_ ?_ | refine Owed.miss rfl ?_ | refine Owed.hit ?_ ?_) | ((with_reducible show Same _ _ _ _ _); intro _; go_simp; done) | (with_reducible exact True.intro) | ((with_reducible show Code.wp _ (Code.region 7 _ true) _ _ _); refine wp_region_tree (Tree.read 0 1 (Tree.read 1 1 (Tree.alt (Tree.eff 2 [0] (Tree.alt (Tree.eff 3 [] (Tree.line [(4, 0, []), (5, 1, []), (6, 1, []), (7, 2, [0, 1, 5, 6]), (8, 2, [6]), (9, 0, [])])) (Tree.eff 7 [0, 1] (Tree.line [(3, 2, []), (4, 0, []), (5, 1, []), (6, 1, []), (8, 2, [6]), (9, 0, [])])))) (Tree.eff 7 [0, 1] (Tree.line [(2, 2, [0]), (3, 2, []), (4, 0, []), (5, 1, []), (6, 1, []), (8, 2, [6]), (9, 0, [])]))))) (by kernel_rfl) (by kernel_rfl) (by kernel_rfl) ?_))
        refine (rquotient_any (some ⟨g2, 0, none⟩) n2 n2 l2 A5 n5 c5 (intC cl5) _ _ HV5.out.rows HR5.out (Nat.le_refl _) (by omega) (by omega) (fun l hl => by have := HS2.out l hl; omega)).mono ?_
        rintro e w9 ⟨A9, n9, c9, lq, e9, rfl, ⟨W9, x9, hW9, hX9⟩, hb9, hq9⟩
        have HIQ := Lib.hid (quo_is HV2'.out HC5.out hq9)
        have hn9 : n9 ≤ 6 := by have h1 := hX9.whole.len; have h2 := HIQ.out.1; have h3 := HL2.out; omega
        have HV9 := Lib.hid (HV5.out.below hb9)
        have HY9 := Lib.hid (And.intro (HY5.out.1.below hb9 HY5.out.1.lt) ((HY5.out.2.below hb9).more hb9.size))
        have HR9 := Lib.hid hX9
        have HF9 := Lib.hid (HF5.out.below hb9 HF5.out.lt)
        have HXB := Lib.hid (And.intro (HXB5.out.1.below (hb9.mono (by omega))) (HXB5.out.2.below (hb9.mono (by omega))))
        have hW9' : w4.heap.size + 2 ≤ W9 := by omega
        have HX10 := Lib.hid (SsAt.put HV9.out HXB.out.1 (by have := HV4.out.sr.sx.lt; omega) (by have := HV4.out.sr.tp.blk.lt; omega) (by have := HV4.out.sr.tp.blk.lt; have := HV4.out.sr.tp.lo; omega) (by have := HV4.out.sr.out.size; omega) HF9.out.lt (.slice A9 n9 c9))
        have HV10 := HX10
        have hbB : Below (w4.heap.size + 1) w9 (w9.setCell ⟨(w4.heap.size + 1), 0, none⟩ (.slice A9 n9 c9)) := (Below.refl (w4.heap.size + 1) w9).setCell (p := ⟨(w4.heap.size + 1), 0, none⟩) (Nat.le_refl _) _
        have HY10 := Lib.hid (And.intro (HY9.out.1.below hbB (by omega)) ((HXB.out.2.below hbB).more (show (w4.heap.size + 1) ≤ (w9.setCell ⟨(w4.heap.size + 1), 0, none⟩ (.slice A9 n9 c9)).heap.size by have := HF9.out.lt; have := hbB.size; omega)))
        have HQ10 := Lib.hid (And.intro (HF9.out.put 0 (.slice A9 n9 c9)) ((HR9.out.out ((Outside.refl (fun x => x = (w4.heap.size + 1)) w9).setCell (p := ⟨(w4.heap.size + 1), 0, none⟩) (.inl rfl) (.slice A9 n9 c9)) (fun g h1 _ e => by omega)).whole))
        have f9c := HF9.out.cell
        have f9l := HF9.out.lt
        have f9f := HF9.out.frozen
        clear hX9 hb9 hq9 hbB
        have h10c := HV10.out.sr.sx.cell
        have h10l := HV10.out.sr.sx.lt
        have y10c := HY10.out.1.cell
        have y10l := HY10.out.1.lt
        have q10c := HQ10.out.1.cell
        have q10l := HQ10.out.1.lt
        go_wp2_with (first | ((with_reducible show wpTree _ _ _ _ _ (Act.put _ _ _) _); simp only [List.getElem_toArray, List.getElem_cons_succ, List.getElem_cons_zero, Act.put, List.setIfInBounds_toArray, List.set_cons_zero, List.set_cons_succ]) | ((with_reducible show wpTree _ _ _ _ _ _ _); first | refine wpTree_line ?_ | refine wpTree_alt ?_ ?_ | (refine wpTree_read0 rfl ?hw rfl (fun _ _ _ => ?_); case hw => ((conv => (lhs; whnf)); first | done | with_reducible rfl)) | (refine wpTree_read1 rfl ?hw rfl (fun _ _ _ => ?_); case hw => ((conv => (lhs; whnf)); first | done | with_reducible rfl)) | (refine wpTree_eff rfl ?hw (fun _ _ => ?_); case hw => ((conv => (lhs; whnf)); first | done | with_reducible rfl)) | (refine wpTree_skip0 rfl ?hw ?_; case hw => ((conv => (lhs; whnf)); first | done | with_reducible rfl)) | (refine wpTree_skip1 rfl ?hw ?_; case hw => ((conv => (lhs; whnf)); first | done | with_reducible rfl)) | (refine wpTree_skip2 rfl ?hw ?_; case hw => ((conv => (lhs; whnf)); first | done | with_reducible rfl))) | ((with_reducible show OwedT _ _ _ _ _ _ _ _ _); first | refine OwedT.none_ ?_ | refine OwedT.nil_ ?_ | refine OwedT.miss rfl ?_ | refine OwedT.hit ?_ ?_) | ((with_reducible show wpPlan _ _ _ _ _ (Act.put _ _ _) _); simp only [List.getElem_toArray, List.getElem_cons_succ, List.getElem_cons_zero, Act.put, List.setIfInBounds_toArray, List.set_cons_zero, List.set_cons_succ]) | ((with_reducible show wpPlan _ _ _ _ _ _ _); first | refine wpPlan_nil ?_ | (refine wpPlan_read0 rfl ?hw rfl (fun _ _ _ => ?_); case hw => ((conv => (lhs; whnf)); first | done | with_reducible rfl)) | (refine wpPlan_read1d rfl ?hw rfl rfl (fun _ _ _ => ?_); case hw => ((conv => (lhs; whnf)); first | done | with_reducible rfl)) | (refine wpPlan_eff rfl ?hw (fun _ _ => ?_); case hw => ((conv => (lhs; whnf)); first | done | with_reducible rfl)) | (refine wpPlan_skip0 rfl ?hw ?_; case hw => ((conv => (lhs; whnf)); first | done | with_reducible rfl)) | (refine wpPlan_skip1d rfl ?hw ?_; case hw => ((conv => (lhs; whnf)); first | done | with_reducible rfl)) | (refine wpPlan_skip2 rfl ?hw ?_; case hw => ((conv => (lhs; whnf)); first | done | with_reducible rfl)) | (refine wpPlan_read1 rfl ?hw rfl (fun _ _ _ => ?_); case hw => ((conv => (lhs; whnf)); first | done | with_reducible rfl)) | refine wpPlan_fork ?_ ?_) | ((with_reducible show Owed _ _ _ _ _ _ _ _ _); first | refine Owed.none_ ?_ | refine Owed.nil_ ?_ | refine Owed.miss rfl ?_ | refine Owed.hit ?_ ?_) | ((with_reducible show Same _ _ _ _ _); intro _; go_simp; done) | (with_reducible exact True.intro) | ((with_reducible show Code.wp _ (Code.region 8 _ true) _ _ _); refine wp_region_plan [(0, 1, []), (1, 1, []), (3, 1, []), (4, 1, []), (2, 2, [3, 4]), (5, 2, []), (6, 1, []), (7, 0, []), (8, 1, []), (9, 1, []), (10, 2, []), (11, 1, []), (12, 0, [])] (by kernel_rfl) (by kernel_rfl) (by kernel_rfl) ?_) | ((with_reducible show Code.wp _ (Code.region 7 _ true) _ _ _); refine wp_region_tree (Tree.read 0 1 (Tree.read 1 1 (Tree.alt (Tree.eff 2 [0] (Tree.alt (Tree.eff 3 [] (Tree.line [(4, 0, []), (5, 1, []), (6, 1, []), (7, 2, [0, 1, 5, 6]), (8, 2, [6]), (9, 0, [])])) (Tree.eff 7 [0, 1] (Tree.line [(3, 2, []), (4, 0, []), (5, 1, []), (6, 1, []), (8, 2, [6]), (9, 0, [])])))) (Tree.eff 7 [0, 1] (Tree.line [(2, 2, [0]), (3, 2, []), (4, 0, []), (5, 1, []), (6, 1, []), (8, 2, [6]), (9, 0, [])]))))) (by kernel_rfl) (by kernel_rfl) (by kernel_rfl) ?_))
        refine (equalL_gen (HV10.out.rows.drewN 1) (HY10.out.2.drewN 1) (by omega) (by omega) (fun l hl => by have := HS2.out l hl; omega) (fun l hl => by have := HS4.out l hl; omega)).mono ?_
        rintro e w11 ⟨⟨q1, rfl, hq1⟩, hb11⟩
        have hbd11 := ((Below.refl _ (w9.setCell ⟨w4.heap.size + 1, 0, none⟩ (.slice A9 n9 c9))).drew).trans hb11
        have HQ1 := Lib.hid hq1
        have HV11 := Lib.hid (HV10.out.below hbd11)
        have HY11 := Lib.hid (And.intro (HY10.out.1.below hbd11 HY10.out.1.lt) ((HY10.out.2.below hbd11).more hbd11.size))
        have HQ11 := Lib.hid (And.intro (HQ10.out.1.below hbd11 HQ10.out.1.lt) ((HQ10.out.2.below hbd11).more hbd11.size))
        clear hb11 hbd11 hq1
        have h11c := HV11.out.sr.sx.cell
        have h11l := HV11.out.sr.sx.lt
        have y11c := HY11.out.1.cell
        have y11l := HY11.out.1.lt
        go_wp2_with (first | ((with_reducible show wpPlan _ _ _ _ _ (Act.put _ _ _) _); simp only [List.getElem_toArray, List.getElem_cons_succ, List.getElem_cons_zero, Act.put, List.setIfInBounds_toArray, List.set_cons_zero, List.set_cons_succ]) | ((with_reducible show wpPlan _ _ _ _ _ _ _); first | refine wpPlan_nil ?_ | (refine wpPlan_read0 rfl ?hw rfl (fun _ _ _ => ?_); case hw => ((conv => (lhs; whnf)); first | done | with_reducible rfl)) | (refine wpPlan_read1d rfl ?hw rfl rfl (fun _ _ _ => ?_); case hw => ((conv => (lhs; whnf)); first | done | with_reducible rfl)) | (refine wpPlan_eff rfl ?hw (fun _ _ => ?_); case hw => ((conv => (lhs; whnf)); first | done | with_reducible rfl)) | (refine wpPlan_skip0 rfl ?hw ?_; case hw => ((conv => (lhs; whnf)); first | done | with_reducible rfl)) | (refine wpPlan_skip1d rfl ?hw ?_; case hw => ((conv => (lhs; whnf)); first | done | with_reducible rfl)) | (refine wpPlan_skip2 rfl ?hw ?_; case hw => ((conv => (lhs; whnf)); first | done | with_reducible rfl)) | (refine wpPlan_read1 rfl ?hw rfl (fun _ _ _ => ?_); case hw => ((conv => (lhs; whnf)); first | done | with_reducible rfl)) | refine wpPlan_fork ?_ ?_) | ((with_reducible show Owed _ _ _ _ _ _ _ _ _); first | refine Owed.none_ ?_ | refine Owed.nil_ ?_ | refine Owed.miss rfl ?_ | refine Owed.hit ?_ ?_) | ((with_reducible show Same _ _ _ _ _); intro _; go_simp; done) | (with_reducible exact True.intro))
        refine (requal_gen HV11.out.rows HY11.out.2 (by omega) (by omega) (fun l hl => by have := HS2.out l hl; omega) (fun l hl => by have := HS4.out l hl; omega)).mono ?_
        rintro e w12 ⟨⟨q2, rfl, hq2⟩, hb12⟩
        obtain rfl : q1 = q2 := HQ1.out.unique hq2
        have HV12 := Lib.hid (HV11.out.below hb12)
        have HY12 := Lib.hid (And.intro (HY11.out.1.below hb12 y11l) ((HY11.out.2.below hb12).more hb12.size))
        have HQ12 := Lib.hid (And.intro (HQ11.out.1.below hb12 HQ11.out.1.lt) ((HQ11.out.2.below hb12).more hb12.size))
        clear hb12 hq2 h10c h10l y10c y10l q10c q10l h11c h11l y11c y11l
        have h12c := HV12.out.sr.sx.cell
        have h12l := HV12.out.sr.sx.lt
        have q12c := HQ12.out.1.cell
        have q12l := HQ12.out.1.lt
        have hqq : (q1 == q1) = true := beq_self_eq_true q1
        go_wp2_with (first | ((with_reducible show wpPlan _ _ _ _ _ (Act.put _ _ _) _); simp only [List.getElem_toArray, List.getElem_cons_succ, List.getElem_cons_zero, Act.put, List.setIfInBounds_toArray, List.set_cons_zero, List.set_cons_succ]) | ((with_reducible show wpPlan _ _ _ _ _ _ _); first | refine wpPlan_nil ?_ | (refine wpPlan_read0 rfl ?hw rfl (fun _ _ _ => ?_); case hw => ((conv => (lhs; whnf)); first | done | with_reducible rfl)) | (refine wpPlan_read1d rfl ?hw rfl rfl (fun _ _ _ => ?_); case hw => ((conv => (lhs; whnf)); first | done | with_reducible rfl)) | (refine wpPlan_eff rfl ?hw (fun _ _ => ?_); case hw => ((conv => (lhs; whnf)); first | done | with_reducible rfl)) | (refine wpPlan_skip0 rfl ?hw ?_; case hw => ((conv => (lhs; whnf)); first | done | with_reducible rfl)) | (refine wpPlan_skip1d rfl ?hw ?_; case hw => ((conv => (lhs; whnf)); first | done | with_reducible rfl)) | (refine wpPlan_skip2 rfl ?hw ?_; case hw => ((conv => (lhs; whnf)); first | done | with_reducible rfl)) | (refine wpPlan_read1 rfl ?hw rfl (fun _ _ _ => ?_); case hw => ((conv => (lhs; whnf)); first | done | with_reducible rfl)) | refine wpPlan_fork ?_ ?_) | ((with_reducible show Owed _ _ _ _ _ _ _ _ _); first | refine Owed.none_ ?_ | refine Owed.nil_ ?_ | refine Owed.miss rfl ?_ | refine Owed.hit ?_ ?_) | ((with_reducible show Same _ _ _ _ _); intro _; go_simp; done) | (with_reducible exact True.intro))
        refine (equalL_gen HV12.out.rows HQ12.out.2 (by omega) (by omega) (fun l hl => by have := HS2.out l hl; omega) (fun l hl => by have := HIQ.out.2.1 l hl; have := HT2.out; omega)).mono ?_
        rintro e w13 ⟨⟨q3, rfl, hq3⟩, hb13⟩
        obtain rfl : q3 = true := HIQ.out.2.2 q3 hq3
        have HV13 := Lib.hid (HV12.out.below hb13)
        have HY13 := Lib.hid (And.intro (HY12.out.1.below hb13 HY12.out.1.lt) ((HY12.out.2.below hb13).more hb13.size))
        clear hb13 hq3 h12c h12l q12c q12l
        have y13c := HY13.out.1.cell
        have y13l := HY13.out.1.lt
        go_wp2_with (first | ((with_reducible show wpPlan _ _ _ _ _ (Act.put _ _ _) _); simp only [List.getElem_toArray, List.getElem_cons_succ, List.getElem_cons_zero, Act.put, List.setIfInBounds_toArray, List.set_cons_zero, List.set_cons_succ]) | ((with_reducible show wpPlan _ _ _ _ _ _ _); first | refine wpPlan_nil ?_ | (refine wpPlan_read0 rfl ?hw rfl (fun _ _ _ => ?_); case hw => ((conv => (lhs; whnf)); first | done | with_reducible rfl)) | (refine wpPlan_read1d rfl ?hw rfl rfl (fun _ _ _ => ?_); case hw => ((conv => (lhs; whnf)); first | done | with_reducible rfl)) | (refine wpPlan_eff rfl ?hw (fun _ _ => ?_); case hw => ((conv => (lhs; whnf)); first | done | with_reducible rfl)) | (refine wpPlan_skip0 rfl ?hw ?_; case hw => ((conv => (lhs; whnf)); first | done | with_reducible rfl)) | (refine wpPlan_skip1d rfl ?hw ?_; case hw => ((conv => (lhs; whnf)); first | done | with_reducible rfl)) | (refine wpPlan_skip2 rfl ?hw ?_; case hw => ((conv => (lhs; whnf)); first | done | with_reducible rfl)) | (refine wpPlan_read1 rfl ?hw rfl (fun _ _ _ => ?_); case hw => ((conv => (lhs; whnf)); first | done | with_reducible rfl)) | refine wpPlan_fork ?_ ?_) | ((with_reducible show Owed _ _ _ _ _ _ _ _ _); first | refine Owed.none_ ?_ | refine Owed.nil_ ?_ | refine Owed.miss rfl ?_ | refine Owed.hit ?_ ?_) | ((with_reducible show Same _ _ _ _ _); intro _; go_simp; done) | (with_reducible exact True.intro))
        refine (spoil_any w.heap.size (w.heap.size + 2) A n c j4 zs A4 n4 c4 55 l4 _ HV13.out.sr.tp HY13.out.2 (by omega) (fun l hl => by have := HS4.out l hl; omega) (by decide) (by omega) (by omega)).mono ?_
        rintro e w14 ⟨⟨A14, n14, c14, l14, rfl, hR14, hnc14, hn14, hs14⟩, ⟨j14, hj14, hT14⟩, hO14⟩
        have HV14 := Lib.hid ((HV13.out.step hT14 hO14).below ((Below.refl w14.heap.size w14).alloc (Nat.le_refl _) (.cells #[.slice A14 n14 c14] 27)))
        have HZ14 := Lib.hid (And.intro (Blk.new w14 27 #[.slice A14 n14 c14]) ((hR14.alloc (Nat.le_refl _) (.cells #[.slice A14 n14 c14] 27)).more (show w14.heap.size ≤ (w14.alloc (.cells #[.slice A14 n14 c14] 27)).heap.size by simp)))
        have HS14 := Lib.hid hs14
        clear hT14 hR14 hO14 hs14 y13c y13l
        have h14c := HV14.out.sr.sx.cell
        have h14l := HV14.out.sr.sx.lt
        have z14c := HZ14.out.1.cell
        have z14l := HZ14.out.1.lt
        go_wp2_with (first | ((with_reducible show wpPlan _ _ _ _ _ (Act.put _ _ _) _); simp only [List.getElem_toArray, List.getElem_cons_succ, List.getElem_cons_zero, Act.put, List.setIfInBounds_toArray, List.set_cons_zero, List.set_cons_succ]) | ((with_reducible show wpPlan _ _ _ _ _ _ _); first | refine wpPlan_nil ?_ | (refine wpPlan_read0 rfl ?hw rfl (fun _ _ _ => ?_); case hw => ((conv => (lhs; whnf)); first | done | with_reducible rfl)) | (refine wpPlan_read1d rfl ?hw rfl rfl (fun _ _ _ => ?_); case hw => ((conv => (lhs; whnf)); first | done | with_reducible rfl)) | (refine wpPlan_eff rfl ?hw (fun _ _ => ?_); case hw => ((conv => (lhs; whnf)); first | done | with_reducible rfl)) | (refine wpPlan_skip0 rfl ?hw ?_; case hw => ((conv => (lhs; whnf)); first | done | with_reducible rfl)) | (refine wpPlan_skip1d rfl ?hw ?_; case hw => ((conv => (lhs; whnf)); first | done | with_reducible rfl)) | (refine wpPlan_skip2 rfl ?hw ?_; case hw => ((conv => (lhs; whnf)); first | done | with_reducible rfl)) | (refine wpPlan_read1 rfl ?hw rfl (fun _ _ _ => ?_); case hw => ((conv => (lhs; whnf)); first | done | with_reducible rfl)) | refine wpPlan_fork ?_ ?_) | ((with_reducible show Owed _ _ _ _ _ _ _ _ _); first | refine Owed.none_ ?_ | refine Owed.nil_ ?_ | refine Owed.miss rfl ?_ | refine Owed.hit ?_ ?_) | ((with_reducible show Same _ _ _ _ _); intro _; go_simp; done) | (with_reducible exact True.intro) | ((with_reducible show Code.wp _ (Code.region 11 _ true) _ _ _); refine wp_region_plan [(0, 1, []), (1, 1, []), (3, 1, []), (4, 1, []), (2, 2, [3, 4]), (5, 2, []), (6, 1, [])] (by kernel_rfl) (by kernel_rfl) (by kernel_rfl) ?_))
        refine (equalL_gen (HV14.out.rows.drewN 1) (HZ14.out.2.drewN 1) (by omega) (by omega) (fun l hl => by have := HS2.out l hl; omega) (fun l hl => by have := HS14.out l hl; omega)).mono ?_
        rintro e w15 ⟨⟨q4, rfl, hq4⟩, hb15⟩
        have hbd15 := ((Below.refl _ (w14.alloc (.cells #[.slice A14 n14 c14] 27))).drew).trans hb15
        have HQ4 := Lib.hid hq4
        have HV15 := Lib.hid (HV14.out.below hbd15)
        have HZ15 := Lib.hid (And.intro (HZ14.out.1.below hbd15 HZ14.out.1.lt) ((HZ14.out.2.below hbd15).more hbd15.size))
        clear hb15 hbd15 hq4
        have h15c := HV15.out.sr.sx.cell
        have h15l := HV15.out.sr.sx.lt
        have z15c := HZ15.out.1.cell
        have z15l := HZ15.out.1.lt
        go_wp2_with (first | ((with_reducible show wpPlan _ _ _ _ _ (Act.put _ _ _) _); simp only [List.getElem_toArray, List.getElem_cons_succ, List.getElem_cons_zero, Act.put, List.setIfInBounds_toArray, List.set_cons_zero, List.set_cons_succ]) | ((with_reducible show wpPlan _ _ _ _ _ _ _); first | refine wpPlan_nil ?_ | (refine wpPlan_read0 rfl ?hw rfl (fun _ _ _ => ?_); case hw => ((conv => (lhs; whnf)); first | done | with_reducible rfl)) | (refine wpPlan_read1d rfl ?hw rfl rfl (fun _ _ _ => ?_); case hw => ((conv => (lhs; whnf)); first | done | with_reducible rfl)) | (refine wpPlan_eff rfl ?hw (fun _ _ => ?_); case hw => ((conv => (lhs; whnf)); first | done | with_reducible rfl)) | (refine wpPlan_skip0 rfl ?hw ?_; case hw => ((conv => (lhs; whnf)); first | done | with_reducible rfl)) | (refine wpPlan_skip1d rfl ?hw ?_; case hw => ((conv => (lhs; whnf)); first | done | with_reducible rfl)) | (refine wpPlan_skip2 rfl ?hw ?_; case hw => ((conv => (lhs; whnf)); first | done | with_reducible rfl)) | (refine wpPlan_read1 rfl ?hw rfl (fun _ _ _ => ?_); case hw => ((conv => (lhs; whnf)); first | done | with_reducible rfl)) | refine wpPlan_fork ?_ ?_) | ((with_reducible show Owed _ _ _ _ _ _ _ _ _); first | refine Owed.none_ ?_ | refine Owed.nil_ ?_ | refine Owed.miss rfl ?_ | refine Owed.hit ?_ ?_) | ((with_reducible show Same _ _ _ _ _); intro _; go_simp; done) | (with_reducible exact True.intro))
        refine (requal_gen HV15.out.rows HZ15.out.2 (by omega) (by omega) (fun l hl => by have := HS2.out l hl; omega) (fun l hl => by have := HS14.out l hl; omega)).mono ?_
        rintro e w16 ⟨⟨q5, rfl, hq5⟩, hb16⟩
        obtain rfl : q4 = q5 := HQ4.out.unique hq5
        have HV16 := Lib.hid (HV15.out.sr.below hb16)
        have HZ := Lib.hid (And.intro HV16.out.tp (And.intro (And.intro (HW.out.2.1.1.out HV16.out.out (by omega)) (HW.out.2.1.2.out HV16.out.out (by omega))) (HW.out.2.2.trans (HV16.out.out.below (Nat.le_trans (by omega) hsz) (fun k hk e => by omega)))))
        have hsz16 : w.heap.size + 3 ≤ w16.heap.size := Nat.le_trans hsz HV16.out.out.size
        have hqq4 : (q4 == q4) = true := beq_self_eq_true q4
        clear hb16 hq5 h14c h14l z14c z14l h15c h15l z15c z15l
        go_wp2_with (first | ((with_reducible show wpPlan _ _ _ _ _ (Act.put _ _ _) _); simp only [List.getElem_toArray, List.getElem_cons_succ, List.getElem_cons_zero, Act.put, List.setIfInBounds_toArray, List.set_cons_zero, List.set_cons_succ]) | ((with_reducible show wpPlan _ _ _ _ _ _ _); first | refine wpPlan_nil ?_ | (refine wpPlan_read0 rfl ?hw rfl (fun _ _ _ => ?_); case hw => ((conv => (lhs; whnf)); first | done | with_reducible rfl)) | (refine wpPlan_read1d rfl ?hw rfl rfl (fun _ _ _ => ?_); case hw => ((conv => (lhs; whnf)); first | done | with_reducible rfl)) | (refine wpPlan_eff rfl ?hw (fun _ _ => ?_); case hw => ((conv => (lhs; whnf)); first | done | with_reducible rfl)) | (refine wpPlan_skip0 rfl ?hw ?_; case hw => ((conv => (lhs; whnf)); first | done | with_reducible rfl)) | (refine wpPlan_skip1d rfl ?hw ?_; case hw => ((conv => (lhs; whnf)); first | done | with_reducible rfl)) | (refine wpPlan_skip2 rfl ?hw ?_; case hw => ((conv => (lhs; whnf)); first | done | with_reducible rfl)) | (refine wpPlan_read1 rfl ?hw rfl (fun _ _ _ => ?_); case hw => ((conv => (lhs; whnf)); first | done | with_reducible rfl)) | refine wpPlan_fork ?_ ?_) | ((with_reducible show Owed _ _ _ _ _ _ _ _ _); first | refine Owed.none_ ?_ | refine Owed.nil_ ?_ | refine Owed.miss rfl ?_ | refine Owed.hit ?_ ?_) | ((with_reducible show Same _ _ _ _ _); intro _; go_simp; done) | (with_reducible exact True.intro))
        go_roundw
        case rel => exact ⟨k + 1, j14, by omega, by go_num, by omega, hsz16, HZ⟩
        case measure => simp [intOf]; omega
    · have h6c := HW.out.2.1.1.cell
      have h6l := HW.out.2.1.1.lt
      have h7c := HW.out.2.1.2.cell
      have h7l := HW.out.2.1.2.lt
      have HLN := Lib.hid (And.intro HL.out.1.len HL.out.2.len)
      have HBD := Lib.hid HW.out.2.2.drew
      go_wp2_with (first | ((with_reducible show wpPlan _ _ _ _ _ (Act.put _ _ _) _); simp only [List.getElem_toArray, List.getElem_cons_succ, List.getElem_cons_zero, Act.put, List.setIfInBounds_toArray, List.set_cons_zero, List.set_cons_succ]) | ((with_reducible show wpPlan _ _ _ _ _ _ _); first | refine wpPlan_nil ?_ | (refine wpPlan_read0 rfl ?hw rfl (fun _ _ _ => ?_); case hw => ((conv => (lhs; whnf)); first | done | with_reducible rfl)) | (refine wpPlan_read1d rfl ?hw rfl rfl (fun _ _ _ => ?_); case hw => ((conv => (lhs; whnf)); first | done | with_reducible rfl)) | (refine wpPlan_eff rfl ?hw (fun _ _ => ?_); case hw => ((conv => (lhs; whnf)); first | done | with_reducible rfl)) | (refine wpPlan_skip0 rfl ?hw ?_; case hw => ((conv => (lhs; whnf)); first | done | with_reducible rfl)) | (refine wpPlan_skip1d rfl ?hw ?_; case hw => ((conv => (lhs; whnf)); first | done | with_reducible rfl)) | (refine wpPlan_skip2 rfl ?hw ?_; case hw => ((conv => (lhs; whnf)); first | done | with_reducible rfl)) | (refine wpPlan_read1 rfl ?hw rfl (fun _ _ _ => ?_); case hw => ((conv => (lhs; whnf)); first | done | with_reducible rfl)) | refine wpPlan_fork ?_ ?_) | ((with_reducible show Owed _ _ _ _ _ _ _ _ _); first | refine Owed.none_ ?_ | refine Owed.nil_ ?_ | refine Owed.miss rfl ?_ | refine Owed.hit ?_ ?_) | ((with_reducible show Same _ _ _ _ _); intro _; go_simp; done) | (with_reducible exact True.intro) | ((with_reducible show Code.wp _ (Code.region 13 _ true) _ _ _); refine wp_region_plan [(0, 1, []), (1, 2, []), (2, 0, []), (3, 1, []), (4, 2, []), (5, 0, []), (6, 0, []), (7, 1, []), (8, 1, []), (10, 1, []), (11, 1, []), (9, 2, [10, 11]), (12, 2, []), (13, 1, []), (14, 0, []), (15, 2, []), (16, 0, []), (17, 0, []), (18, 0, [])] (by kernel_rfl) (by kernel_rfl) (by kernel_rfl) ?_))
      refine (huge_any Al m cl w.heap.size ls _ (HL.out.1.below HBD.out) HBD.out.size (by omega) (fun l hl => by have := HS.out.1 l hl; omega)).mono ?_
      rintro e w7 ⟨⟨q, rfl, hq⟩, hb7⟩
      have hb7' := ((Below.refl wr.heap.size wr).drew).trans (hb7.mono (by simp))
      have HB7 := Lib.hid (HW.out.2.2.trans (hb7'.mono HW.out.2.2.size))
      have HN7 := Lib.hid (And.intro (HW.out.2.1.1.below hb7' h6l) (HW.out.2.1.2.below hb7' h7l))
      have HQ := Lib.hid hq
      clear hb7 hb7' hq
      have a7c := HN7.out.1.cell
      have a7l := HN7.out.1.lt
      have b7c := HN7.out.2.cell
      have b7l := HN7.out.2.lt
      cases q
      · have HTA := Lib.hid (show ls.length ≤ 12 ∧ ∀ l ∈ ls, l.length ≤ 100000 from ⟨(HQ.out rfl).1, fun l hl => by have := mem_total hl; have := (HQ.out rfl).2; omega⟩)
        have hmA : m ≤ 12 := by have := HTA.out.1; have := HLN.out.1; omega
        clear HQ
        go_wp2_with (first | ((with_reducible show wpPlan _ _ _ _ _ (Act.put _ _ _) _); simp only [List.getElem_toArray, List.getElem_cons_succ, List.getElem_cons_zero, Act.put, List.setIfInBounds_toArray, List.set_cons_zero, List.set_cons_succ]) | ((with_reducible show wpPlan _ _ _ _ _ _ _); first | refine wpPlan_nil ?_ | (refine wpPlan_read0 rfl ?hw rfl (fun _ _ _ => ?_); case hw => ((conv => (lhs; whnf)); first | done | with_reducible rfl)) | (refine wpPlan_read1d rfl ?hw rfl rfl (fun _ _ _ => ?_); case hw => ((conv => (lhs; whnf)); first | done | with_reducible rfl)) | (refine wpPlan_eff rfl ?hw (fun _ _ => ?_); case hw => ((conv => (lhs; whnf)); first | done | with_reducible rfl)) | (refine wpPlan_skip0 rfl ?hw ?_; case hw => ((conv => (lhs; whnf)); first | done | with_reducible rfl)) | (refine wpPlan_skip1d rfl ?hw ?_; case hw => ((conv => (lhs; whnf)); first | done | with_reducible rfl)) | (refine wpPlan_skip2 rfl ?hw ?_; case hw => ((conv => (lhs; whnf)); first | done | with_reducible rfl)) | (refine wpPlan_read1 rfl ?hw rfl (fun _ _ _ => ?_); case hw => ((conv => (lhs; whnf)); first | done | with_reducible rfl)) | refine wpPlan_fork ?_ ?_) | ((with_reducible show Owed _ _ _ _ _ _ _ _ _); first | refine Owed.none_ ?_ | refine Owed.nil_ ?_ | refine Owed.miss rfl ?_ | refine Owed.hit ?_ ?_) | ((with_reducible show Same _ _ _ _ _); intro _; go_simp; done) | (with_reducible exact True.intro))
        refine (huge_any Ab mb cb w.heap.size lb w7 (HL.out.2.below HB7.out) HB7.out.size (by omega) (fun l hl => by have := HS.out.2 l hl; omega)).mono ?_
        rintro e w8 ⟨⟨q, rfl, hq⟩, hb8⟩
        have HB8 := Lib.hid (HB7.out.trans (hb8.mono HB7.out.size))
        have HN8 := Lib.hid (And.intro (HN7.out.1.below hb8 a7l) (HN7.out.2.below hb8 b7l))
        have HQ2 := Lib.hid hq
        clear hb8 hq
        have a8c := HN8.out.1.cell
        have a8l := HN8.out.1.lt
        have b8c := HN8.out.2.cell
        have b8l := HN8.out.2.lt
        cases q
        · have HTB := Lib.hid (show lb.length ≤ 12 ∧ ∀ l ∈ lb, l.length ≤ 100000 from ⟨(HQ2.out rfl).1, fun l hl => by have := mem_total hl; have := (HQ2.out rfl).2; omega⟩)
          have hmB : mb ≤ 12 := by have := HTB.out.1; have := HLN.out.2; omega
          clear HQ2
          go_wp2_with (first | ((with_reducible show wpPlan _ _ _ _ _ (Act.put _ _ _) _); simp only [List.getElem_toArray, List.getElem_cons_succ, List.getElem_cons_zero, Act.put, List.setIfInBounds_toArray, List.set_cons_zero, List.set_cons_succ]) | ((with_reducible show wpPlan _ _ _ _ _ _ _); first | refine wpPlan_nil ?_ | (refine wpPlan_read0 rfl ?hw rfl (fun _ _ _ => ?_); case hw => ((conv => (lhs; whnf)); first | done | with_reducible rfl)) | (refine wpPlan_read1d rfl ?hw rfl rfl (fun _ _ _ => ?_); case hw => ((conv => (lhs; whnf)); first | done | with_reducible rfl)) | (refine wpPlan_eff rfl ?hw (fun _ _ => ?_); case hw => ((conv => (lhs; whnf)); first | done | with_reducible rfl)) | (refine wpPlan_skip0 rfl ?hw ?_; case hw => ((conv => (lhs; whnf)); first | done | with_reducible rfl)) | (refine wpPlan_skip1d rfl ?hw ?_; case hw => ((conv => (lhs; whnf)); first | done | with_reducible rfl)) | (refine wpPlan_skip2 rfl ?hw ?_; case hw => ((conv => (lhs; whnf)); first | done | with_reducible rfl)) | (refine wpPlan_read1 rfl ?hw rfl (fun _ _ _ => ?_); case hw => ((conv => (lhs; whnf)); first | done | with_reducible rfl)) | refine wpPlan_fork ?_ ?_) | ((with_reducible show Owed _ _ _ _ _ _ _ _ _); first | refine Owed.none_ ?_ | refine Owed.nil_ ?_ | refine Owed.miss rfl ?_ | refine Owed.hit ?_ ?_) | ((with_reducible show Same _ _ _ _ _); intro _; go_simp; done) | (with_reducible exact True.intro))
          refine (equalL_any Al Ab m cl mb cb w.heap.size ls lb w8 (HL.out.1.below HB8.out) (HL.out.2.below HB8.out) HB8.out.size (by omega) (by omega) HTA.out.2 HTB.out.2).mono ?_
          rintro e w9 ⟨⟨q1, rfl, hq1⟩, hb9⟩
          have HB9 := Lib.hid (HB8.out.trans (hb9.mono HB8.out.size))
          have HN9 := Lib.hid (And.intro (HN8.out.1.below hb9 a8l) (HN8.out.2.below hb9 b8l))
          have HQ1 := Lib.hid hq1
          clear hb9 hq1
          have a9c := HN9.out.1.cell
          have a9l := HN9.out.1.lt
          have b9c := HN9.out.2.cell
          have b9l := HN9.out.2.lt
          go_wp2_with (first | ((with_reducible show wpPlan _ _ _ _ _ (Act.put _ _ _) _); simp only [List.getElem_toArray, List.getElem_cons_succ, List.getElem_cons_zero, Act.put, List.setIfInBounds_toArray, List.set_cons_zero, List.set_cons_succ]) | ((with_reducible show wpPlan _ _ _ _ _ _ _); first | refine wpPlan_nil ?_ | (refine wpPlan_read0 rfl ?hw rfl (fun _ _ _ => ?_); case hw => ((conv => (lhs; whnf)); first | done | with_reducible rfl)) | (refine wpPlan_read1d rfl ?hw rfl rfl (fun _ _ _ => ?_); case hw => ((conv => (lhs; whnf)); first | done | with_reducible rfl)) | (refine wpPlan_eff rfl ?hw (fun _ _ => ?_); case hw => ((conv => (lhs; whnf)); first | done | with_reducible rfl)) | (refine wpPlan_skip0 rfl ?hw ?_; case hw => ((conv => (lhs; whnf)); first | done | with_reducible rfl)) | (refine wpPlan_skip1d rfl ?hw ?_; case hw => ((conv => (lhs; whnf)); first | done | with_reducible rfl)) | (refine wpPlan_skip2 rfl ?hw ?_; case hw => ((conv => (lhs; whnf)); first | done | with_reducible rfl)) | (refine wpPlan_read1 rfl ?hw rfl (fun _ _ _ => ?_); case hw => ((conv => (lhs; whnf)); first | done | with_reducible rfl)) | refine wpPlan_fork ?_ ?_) | ((with_reducible show Owed _ _ _ _ _ _ _ _ _); first | refine Owed.none_ ?_ | refine Owed.nil_ ?_ | refine Owed.miss rfl ?_ | refine Owed.hit ?_ ?_) | ((with_reducible show Same _ _ _ _ _); intro _; go_simp; done) | (with_reducible exact True.intro))
          refine (requal_any Al Ab m cl mb cb w.heap.size ls lb w9 (HL.out.1.below HB9.out) (HL.out.2.below HB9.out) HB9.out.size (by omega) (by omega) HTA.out.2 HTB.out.2).mono ?_
          rintro e w10 ⟨⟨q2, rfl, hq2⟩, hb10⟩
          obtain rfl : q1 = q2 := HQ1.out.unique hq2
          have HB10 := Lib.hid (HB9.out.trans (hb10.mono HB9.out.size))
          have hqq : (q1 == q1) = true := beq_self_eq_true q1
          clear hb10 hq2
          go_wp2_with (first | ((with_reducible show wpPlan _ _ _ _ _ (Act.put _ _ _) _); simp only [List.getElem_toArray, List.getElem_cons_succ, List.getElem_cons_zero, Act.put, List.setIfInBounds_toArray, List.set_cons_zero, List.set_cons_succ]) | ((with_reducible show wpPlan _ _ _ _ _ _ _); first | refine wpPlan_nil ?_ | (refine wpPlan_read0 rfl ?hw rfl (fun _ _ _ => ?_); case hw => ((conv => (lhs; whnf)); first | done | with_reducible rfl)) | (refine wpPlan_read1d rfl ?hw rfl rfl (fun _ _ _ => ?_); case hw => ((conv => (lhs; whnf)); first | done | with_reducible rfl)) | (refine wpPlan_eff rfl ?hw (fun _ _ => ?_); case hw => ((conv => (lhs; whnf)); first | done | with_reducible rfl)) | (refine wpPlan_skip0 rfl ?hw ?_; case hw => ((conv => (lhs; whnf)); first | done | with_reducible rfl)) | (refine wpPlan_skip1d rfl ?hw ?_; case hw => ((conv => (lhs; whnf)); first | done | with_reducible rfl)) | (refine wpPlan_skip2 rfl ?hw ?_; case hw => ((conv => (lhs; whnf)); first | done | with_reducible rfl)) | (refine wpPlan_read1 rfl ?hw rfl (fun _ _ _ => ?_); case hw => ((conv => (lhs; whnf)); first | done | with_reducible rfl)) | refine wpPlan_fork ?_ ?_) | ((with_reducible show Owed _ _ _ _ _ _ _ _ _); first | refine Owed.none_ ?_ | refine Owed.nil_ ?_ | refine Owed.miss rfl ?_ | refine Owed.hit ?_ ?_) | ((with_reducible show Same _ _ _ _ _); intro _; go_simp; done) | (with_reducible exact True.intro))
          refine (sane25_any _).mono ?_
          rintro e w11 ⟨rfl, hb11⟩
          have HB11 := Lib.hid (HB10.out.trans (hb11.mono HB10.out.size))
          clear hb11
          go_wp2_with (first | ((with_reducible show wpPlan _ _ _ _ _ (Act.put _ _ _) _); simp only [List.getElem_toArray, List.getElem_cons_succ, List.getElem_cons_zero, Act.put, List.setIfInBounds_toArray, List.set_cons_zero, List.set_cons_succ]) | ((with_reducible show wpPlan _ _ _ _ _ _ _); first | refine wpPlan_nil ?_ | (refine wpPlan_read0 rfl ?hw rfl (fun _ _ _ => ?_); case hw => ((conv => (lhs; whnf)); first | done | with_reducible rfl)) | (refine wpPlan_read1d rfl ?hw rfl rfl (fun _ _ _ => ?_); case hw => ((conv => (lhs; whnf)); first | done | with_reducible rfl)) | (refine wpPlan_eff rfl ?hw (fun _ _ => ?_); case hw => ((conv => (lhs; whnf)); first | done | with_reducible rfl)) | (refine wpPlan_skip0 rfl ?hw ?_; case hw => ((conv => (lhs; whnf)); first | done | with_reducible rfl)) | (refine wpPlan_skip1d rfl ?hw ?_; case hw => ((conv => (lhs; whnf)); first | done | with_reducible rfl)) | (refine wpPlan_skip2 rfl ?hw ?_; case hw => ((conv => (lhs; whnf)); first | done | with_reducible rfl)) | (refine wpPlan_read1 rfl ?hw rfl (fun _ _ _ => ?_); case hw => ((conv => (lhs; whnf)); first | done | with_reducible rfl)) | refine wpPlan_fork ?_ ?_) | ((with_reducible show Owed _ _ _ _ _ _ _ _ _); first | refine Owed.none_ ?_ | refine Owed.nil_ ?_ | refine Owed.miss rfl ?_ | refine Owed.hit ?_ ?_) | ((with_reducible show Same _ _ _ _ _); intro _; go_simp; done) | (with_reducible exact True.intro))
          go_ret
          exact ⟨ret_bool (by simp), HB11.out⟩
        · go_wp2_with (first | ((with_reducible show wpPlan _ _ _ _ _ (Act.put _ _ _) _); simp only [List.getElem_toArray, List.getElem_cons_succ, List.getElem_cons_zero, Act.put, List.setIfInBounds_toArray, List.set_cons_zero, List.set_cons_succ]) | ((with_reducible show wpPlan _ _ _ _ _ _ _); first | refine wpPlan_nil ?_ | (refine wpPlan_read0 rfl ?hw rfl (fun _ _ _ => ?_); case hw => ((conv => (lhs; whnf)); first | done | with_reducible rfl)) | (refine wpPlan_read1d rfl ?hw rfl rfl (fun _ _ _ => ?_); case hw => ((conv => (lhs; whnf)); first | done | with_reducible rfl)) | (refine wpPlan_eff rfl ?hw (fun _ _ => ?_); case hw => ((conv => (lhs; whnf)); first | done | with_reducible rfl)) | (refine wpPlan_skip0 rfl ?hw ?_; case hw => ((conv => (lhs; whnf)); first | done | with_reducible rfl)) | (refine wpPlan_skip1d rfl ?hw ?_; case hw => ((conv => (lhs; whnf)); first | done | with_reducible rfl)) | (refine wpPlan_skip2 rfl ?hw ?_; case hw => ((conv => (lhs; whnf)); first | done | with_reducible rfl)) | (refine wpPlan_read1 rfl ?hw rfl (fun _ _ _ => ?_); case hw => ((conv => (lhs; whnf)); first | done | with_reducible rfl)) | refine wpPlan_fork ?_ ?_) | ((with_reducible show Owed _ _ _ _ _ _ _ _ _); first | refine Owed.none_ ?_ | refine Owed.nil_ ?_ | refine Owed.miss rfl ?_ | refine Owed.hit ?_ ?_) | ((with_reducible show Same _ _ _ _ _); intro _; go_simp; done) | (with_reducible exact True.intro))
          go_ret
          exact ⟨ret_bool (by simp), HB8.out⟩
      · go_wp2_with (first | ((with_reducible show wpPlan _ _ _ _ _ (Act.put _ _ _) _); simp only [List.getElem_toArray, List.getElem_cons_succ, List.getElem_cons_zero, Act.put, List.setIfInBounds_toArray, List.set_cons_zero, List.set_cons_succ]) | ((with_reducible show wpPlan _ _ _ _ _ _ _); first | refine wpPlan_nil ?_ | (refine wpPlan_read0 rfl ?hw rfl (fun _ _ _ => ?_); case hw => ((conv => (lhs; whnf)); first | done | with_reducible rfl)) | (refine wpPlan_read1d rfl ?hw rfl rfl (fun _ _ _ => ?_); case hw => ((conv => (lhs; whnf)); first | done | with_reducible rfl)) | (refine wpPlan_eff rfl ?hw (fun _ _ => ?_); case hw => ((conv => (lhs; whnf)); first | done | with_reducible rfl)) | (refine wpPlan_skip0 rfl ?hw ?_; case hw => ((conv => (lhs; whnf)); first | done | with_reducible rfl)) | (refine wpPlan_skip1d rfl ?hw ?_; case hw => ((conv => (lhs; whnf)); first | done | with_reducible rfl)) | (refine wpPlan_skip2 rfl ?hw ?_; case hw => ((conv => (lhs; whnf)); first | done | with_reducible rfl)) | (refine wpPlan_read1 rfl ?hw rfl (fun _ _ _ => ?_); case hw => ((conv => (lhs; whnf)); first | done | with_reducible rfl)) | refine wpPlan_fork ?_ ?_) | ((with_reducible show Owed _ _ _ _ _ _ _ _ _); first | refine Owed.none_ ?_ | refine Owed.nil_ ?_ | refine Owed.miss rfl ?_ | refine Owed.hit ?_ ?_) | ((with_reducible show Same _ _ _ _ _); intro _; go_simp; done) | (with_reducible exact True.intro))
        go_ret
        exact ⟨ret_bool (by simp), HB7.out⟩

end Go.Proofs.Ytmciinikfjfegaa
