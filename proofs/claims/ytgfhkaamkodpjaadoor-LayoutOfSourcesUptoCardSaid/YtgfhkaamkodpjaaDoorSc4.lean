/- the reference's scanner: the symbol at a place; the value of a word of digits -/
import Derived.Test.YtgfhkaamkodpjaaDoorSc1
namespace Go.Proofs.YtgfhkaamkodpjaaDoor
open Go Go.RowKit
set_option maxHeartbeats 8000000
theorem syB_small : ∀ x ∈ syB, x.size ≤ 4 := by decide
attribute [local irreducible] kwB syB clB

def symStep (r : List UInt8) (b k : ByteArray) : ByteArray := if startsW k.data.toList r && decide (b.size < k.size) then k else b
def symBest (r : List UInt8) (l : List ByteArray) : ByteArray := l.foldl (symStep r) ByteArray.empty
/-- the symbol with which a text begins; empty: none -/
def symS (r : List UInt8) : ByteArray :=
  if symBest r syB = bstr [40, 124] ∧ (r[2]? = some 126 ∨ r[2]? = some 124) then bstr [40] else symBest r syB

theorem symBest_snoc (r : List UInt8) (k : Nat) (x : ByteArray) (h : syB[k]? = some x) : symBest r (syB.take (k + 1)) = symStep r (symBest r (syB.take k)) x := by
  have e : syB.take (k + 1) = syB.take k ++ [x] := by
    obtain ⟨hk, he⟩ := List.getElem?_eq_some_iff.1 h
    rw [List.take_succ_eq_append_getElem hk, he]
  unfold symBest
  rw [e, List.foldl_append]
  rfl
theorem symBest_small (r : List UInt8) : ∀ k, (symBest r (syB.take k)).size ≤ 4 := by
  have key : ∀ (l : List ByteArray) (b : ByteArray), (∀ x ∈ l, x.size ≤ 4) → b.size ≤ 4 → (l.foldl (symStep r) b).size ≤ 4 := by
    intro l
    induction l with
    | nil => intro b _ hb; exact hb
    | cons x l ih =>
      intro b hl hb
      refine ih _ (fun y hy => hl y (List.mem_cons_of_mem _ hy)) ?_
      unfold symStep
      split
      · exact hl x List.mem_cons_self
      · exact hb
  exact fun k => key _ _ (fun x hx => syB_small x (List.mem_of_mem_take hx)) (by decide)

def SymRel (s : ByteArray) (i : Nat) (w : World) (vb vk : Value) (wr : World) : Prop :=
  ∃ k : Nat, k ≤ 59 ∧ vk = .int .i64 k ∧ vb = .string (symBest (s.data.toList.drop i) (syB.take k)) ∧ Blk wr w.heap.size 9 (cellsOf scell syB).toArray ∧ Below w.heap.size w wr

set_option maxRecDepth 100000 in
theorem symbolAt_any (s : ByteArray) (i : Nat) (w : World) (hi : i ≤ s.size) (hs : s.size ≤ 1000000000000) :
    Calls Tryd.prog 58 #[.string s, .int .i64 i] w fun e w' => e = .returned (.string (symS (s.data.toList.drop i))) ∧ Below w.heap.size w w' := by
  have HR := Lib.hid (show SymRel s i w (.string ByteArray.empty) (.int .i64 (0 : Nat)) (w.alloc (.cells (cellsOf scell syB).toArray 9)) from ⟨0, by omega, rfl, rfl, Blk.new _ _ _, (Below.refl _ _).alloc (Nat.le_refl _) _⟩)
  go_enter Tryd.func58, Tryd.ntmps58
  go_wp2_with (first | (go_at_call 79; refine (symbols_any _).mono ?_; rintro e w' ⟨rfl, rfl⟩))
  go_loopw [5, 7] (fun vb vk wr => SymRel s i w vb vk wr) (fun _ vk _ => 59 - (intOf vk).toNat)
  case atStart => exact HR.out
  case round =>
    obtain ⟨k, hk, rfl, rfl, hB, hbl⟩ := hrel
    have HB := Lib.hid hB
    have HBL := Lib.hid hbl
    obtain ⟨best, hbest⟩ : ∃ best, symBest (s.data.toList.drop i) (syB.take k) = best := ⟨_, rfl⟩
    have HBE := Lib.hid hbest
    have hb4 : best.size ≤ 4 := by rw [← hbest]; exact symBest_small _ _
    rw [hbest]
    clear hB hbl hbest
    by_cases hlt : k < 59
    · obtain ⟨b', off, x, hA, _, hx, hc⟩ := (Rd.ofBlk (n := 59) (k := 1) HB.out syC_len).str hlt
      have hA' : w.heap.size = b' ∧ 0 = off := by injection hA with hA; injection hA with h1 h2; exact ⟨h1, h2⟩
      obtain ⟨rfl, rfl⟩ := hA'
      rw [Nat.zero_add] at hc
      have hx4 := syB_small x (List.mem_of_getElem? hx)
      have HX := Lib.hid (symBest_snoc (s.data.toList.drop i) k x hx)
      have hbB := HB.out.lt
      clear hA hx
      by_cases hle : i + x.size ≤ s.size
      · obtain ⟨q, hq⟩ : ∃ q, ((s.extract i (i + x.size)).toList == x.toList) = q := ⟨_, rfl⟩
        have HQ : Hid (startsW x.data.toList (s.data.toList.drop i) = q) := Lib.hid (by rw [← hq]; exact (ext_eq s x i hle).symm)
        have hleb : decide ((i : Int) + (x.size : Int) ≤ (s.size : Int)) = true := decide_eq_true (by omega)
        cases q
        · go_wp2_with (first | ((with_reducible show wpPlan _ _ _ _ _ (Act.put _ _ _) _); simp only [List.getElem_toArray, List.getElem_cons_succ, List.getElem_cons_zero, Act.put, List.setIfInBounds_toArray, List.set_cons_zero, List.set_cons_succ]) | ((with_reducible show wpPlan _ _ _ _ _ _ _); first | refine wpPlan_nil ?_ | (refine wpPlan_read0 rfl ?hw rfl (fun _ _ _ => ?_); case hw => ((conv => (lhs; whnf)); first | done | with_reducible rfl)) | (refine wpPlan_read1d rfl ?hw rfl rfl (fun _ _ _ => ?_); case hw => ((conv => (lhs; whnf)); first | done | with_reducible rfl)) | (refine wpPlan_eff rfl ?hw (fun _ _ => ?_); case hw => ((conv => (lhs; whnf)); first | done | with_reducible rfl)) | (refine wpPlan_skip0 rfl ?hw ?_; case hw => ((conv => (lhs; whnf)); first | done | with_reducible rfl)) | (refine wpPlan_skip1d rfl ?hw ?_; case hw => ((conv => (lhs; whnf)); first | done | with_reducible rfl)) | (refine wpPlan_skip2 rfl ?hw ?_; case hw => ((conv => (lhs; whnf)); first | done | with_reducible rfl)) | (refine wpPlan_read1 rfl ?hw rfl (fun _ _ _ => ?_); case hw => ((conv => (lhs; whnf)); first | done | with_reducible rfl)) | refine wpPlan_fork ?_ ?_) | ((with_reducible show Owed _ _ _ _ _ _ _ _ _); first | refine Owed.none_ ?_ | refine Owed.nil_ ?_ | refine Owed.miss rfl ?_ | refine Owed.hit ?_ ?_) | ((with_reducible show Same _ _ _ _ _); intro _; go_simp; done) | (with_reducible exact True.intro) | ((with_reducible show Code.wp _ (Code.region 7 _ true) _ _ _); refine wp_region_plan [(0, 0, []), (1, 0, []), (2, 1, []), (3, 0, []), (4, 1, []), (5, 1, []), (6, 0, []), (7, 0, []), (8, 0, []), (9, 0, []), (10, 0, []), (11, 1, []), (12, 1, []), (13, 0, []), (14, 0, []), (15, 1, []), (16, 1, []), (17, 1, []), (18, 0, []), (19, 0, []), (20, 0, []), (21, 0, []), (22, 1, []), (23, 1, []), (24, 0, [])] (by kernel_rfl) (by kernel_rfl) (by kernel_rfl) ?_))
          go_roundw
          case rel => exact ⟨k + 1, by omega, by go_num, by rw [HX.out, HBE.out, symStep, HQ.out]; rfl, HB.out.drew, HBL.out.drew⟩
          case measure => simp [intOf]; omega
        · by_cases hgt : best.size < x.size
          · have hgtb : decide ((best.size : Int) < (x.size : Int)) = true := decide_eq_true (by omega)
            have HG := Lib.hid hgt
            clear hgt
            go_wp2_with (first | ((with_reducible show wpPlan _ _ _ _ _ (Act.put _ _ _) _); simp only [List.getElem_toArray, List.getElem_cons_succ, List.getElem_cons_zero, Act.put, List.setIfInBounds_toArray, List.set_cons_zero, List.set_cons_succ]) | ((with_reducible show wpPlan _ _ _ _ _ _ _); first | refine wpPlan_nil ?_ | (refine wpPlan_read0 rfl ?hw rfl (fun _ _ _ => ?_); case hw => ((conv => (lhs; whnf)); first | done | with_reducible rfl)) | (refine wpPlan_read1d rfl ?hw rfl rfl (fun _ _ _ => ?_); case hw => ((conv => (lhs; whnf)); first | done | with_reducible rfl)) | (refine wpPlan_eff rfl ?hw (fun _ _ => ?_); case hw => ((conv => (lhs; whnf)); first | done | with_reducible rfl)) | (refine wpPlan_skip0 rfl ?hw ?_; case hw => ((conv => (lhs; whnf)); first | done | with_reducible rfl)) | (refine wpPlan_skip1d rfl ?hw ?_; case hw => ((conv => (lhs; whnf)); first | done | with_reducible rfl)) | (refine wpPlan_skip2 rfl ?hw ?_; case hw => ((conv => (lhs; whnf)); first | done | with_reducible rfl)) | (refine wpPlan_read1 rfl ?hw rfl (fun _ _ _ => ?_); case hw => ((conv => (lhs; whnf)); first | done | with_reducible rfl)) | refine wpPlan_fork ?_ ?_) | ((with_reducible show Owed _ _ _ _ _ _ _ _ _); first | refine Owed.none_ ?_ | refine Owed.nil_ ?_ | refine Owed.miss rfl ?_ | refine Owed.hit ?_ ?_) | ((with_reducible show Same _ _ _ _ _); intro _; go_simp; done) | (with_reducible exact True.intro) | ((with_reducible show Code.wp _ (Code.region 7 _ true) _ _ _); refine wp_region_plan [(0, 0, []), (1, 0, []), (2, 1, []), (3, 0, []), (4, 1, []), (5, 1, []), (6, 0, []), (7, 0, []), (8, 0, []), (9, 0, []), (10, 0, []), (11, 1, []), (12, 1, []), (13, 0, []), (14, 0, []), (15, 1, []), (16, 1, []), (17, 1, []), (18, 0, []), (19, 0, []), (20, 0, []), (21, 0, []), (22, 1, []), (23, 1, []), (24, 0, [])] (by kernel_rfl) (by kernel_rfl) (by kernel_rfl) ?_))
            go_roundw
            case rel => exact ⟨k + 1, by omega, by go_num, by rw [HX.out, HBE.out, symStep, HQ.out, if_pos (by simp [HG.out])], HB.out.drew, HBL.out.drew⟩
            case measure => simp [intOf]; omega
          · have hgtb : decide ((best.size : Int) < (x.size : Int)) = false := decide_eq_false (by omega)
            have HG := Lib.hid hgt
            clear hgt
            go_wp2_with (first | ((with_reducible show wpPlan _ _ _ _ _ (Act.put _ _ _) _); simp only [List.getElem_toArray, List.getElem_cons_succ, List.getElem_cons_zero, Act.put, List.setIfInBounds_toArray, List.set_cons_zero, List.set_cons_succ]) | ((with_reducible show wpPlan _ _ _ _ _ _ _); first | refine wpPlan_nil ?_ | (refine wpPlan_read0 rfl ?hw rfl (fun _ _ _ => ?_); case hw => ((conv => (lhs; whnf)); first | done | with_reducible rfl)) | (refine wpPlan_read1d rfl ?hw rfl rfl (fun _ _ _ => ?_); case hw => ((conv => (lhs; whnf)); first | done | with_reducible rfl)) | (refine wpPlan_eff rfl ?hw (fun _ _ => ?_); case hw => ((conv => (lhs; whnf)); first | done | with_reducible rfl)) | (refine wpPlan_skip0 rfl ?hw ?_; case hw => ((conv => (lhs; whnf)); first | done | with_reducible rfl)) | (refine wpPlan_skip1d rfl ?hw ?_; case hw => ((conv => (lhs; whnf)); first | done | with_reducible rfl)) | (refine wpPlan_skip2 rfl ?hw ?_; case hw => ((conv => (lhs; whnf)); first | done | with_reducible rfl)) | (refine wpPlan_read1 rfl ?hw rfl (fun _ _ _ => ?_); case hw => ((conv => (lhs; whnf)); first | done | with_reducible rfl)) | refine wpPlan_fork ?_ ?_) | ((with_reducible show Owed _ _ _ _ _ _ _ _ _); first | refine Owed.none_ ?_ | refine Owed.nil_ ?_ | refine Owed.miss rfl ?_ | refine Owed.hit ?_ ?_) | ((with_reducible show Same _ _ _ _ _); intro _; go_simp; done) | (with_reducible exact True.intro) | ((with_reducible show Code.wp _ (Code.region 7 _ true) _ _ _); refine wp_region_plan [(0, 0, []), (1, 0, []), (2, 1, []), (3, 0, []), (4, 1, []), (5, 1, []), (6, 0, []), (7, 0, []), (8, 0, []), (9, 0, []), (10, 0, []), (11, 1, []), (12, 1, []), (13, 0, []), (14, 0, []), (15, 1, []), (16, 1, []), (17, 1, []), (18, 0, []), (19, 0, []), (20, 0, []), (21, 0, []), (22, 1, []), (23, 1, []), (24, 0, [])] (by kernel_rfl) (by kernel_rfl) (by kernel_rfl) ?_))
            go_roundw
            case rel => exact ⟨k + 1, by omega, by go_num, by rw [HX.out, HBE.out, symStep, HQ.out, if_neg (by have := HG.out; simp; omega)], HB.out.drew, HBL.out.drew⟩
            case measure => simp [intOf]; omega
      · have HQ : Hid (startsW x.data.toList (s.data.toList.drop i) = false) := Lib.hid (by
          unfold startsW
          rw [Bool.eq_false_iff]
          intro hh
          have := (List.isPrefixOf_iff_prefix.1 hh).length_le
          rw [List.length_drop, blen, blen] at this
          omega)
        have hleb : decide ((i : Int) + (x.size : Int) ≤ (s.size : Int)) = false := decide_eq_false (by omega)
        go_wp2_with (first | ((with_reducible show wpPlan _ _ _ _ _ (Act.put _ _ _) _); simp only [List.getElem_toArray, List.getElem_cons_succ, List.getElem_cons_zero, Act.put, List.setIfInBounds_toArray, List.set_cons_zero, List.set_cons_succ]) | ((with_reducible show wpPlan _ _ _ _ _ _ _); first | refine wpPlan_nil ?_ | (refine wpPlan_read0 rfl ?hw rfl (fun _ _ _ => ?_); case hw => ((conv => (lhs; whnf)); first | done | with_reducible rfl)) | (refine wpPlan_read1d rfl ?hw rfl rfl (fun _ _ _ => ?_); case hw => ((conv => (lhs; whnf)); first | done | with_reducible rfl)) | (refine wpPlan_eff rfl ?hw (fun _ _ => ?_); case hw => ((conv => (lhs; whnf)); first | done | with_reducible rfl)) | (refine wpPlan_skip0 rfl ?hw ?_; case hw => ((conv => (lhs; whnf)); first | done | with_reducible rfl)) | (refine wpPlan_skip1d rfl ?hw ?_; case hw => ((conv => (lhs; whnf)); first | done | with_reducible rfl)) | (refine wpPlan_skip2 rfl ?hw ?_; case hw => ((conv => (lhs; whnf)); first | done | with_reducible rfl)) | (refine wpPlan_read1 rfl ?hw rfl (fun _ _ _ => ?_); case hw => ((conv => (lhs; whnf)); first | done | with_reducible rfl)) | refine wpPlan_fork ?_ ?_) | ((with_reducible show Owed _ _ _ _ _ _ _ _ _); first | refine Owed.none_ ?_ | refine Owed.nil_ ?_ | refine Owed.miss rfl ?_ | refine Owed.hit ?_ ?_) | ((with_reducible show Same _ _ _ _ _); intro _; go_simp; done) | (with_reducible exact True.intro) | ((with_reducible show Code.wp _ (Code.region 7 _ true) _ _ _); refine wp_region_plan [(0, 0, []), (1, 0, []), (2, 1, []), (3, 0, []), (4, 1, []), (5, 1, []), (6, 0, []), (7, 0, []), (8, 0, []), (9, 0, []), (10, 0, []), (11, 1, []), (12, 1, []), (13, 0, []), (14, 0, []), (15, 1, []), (16, 1, []), (17, 1, []), (18, 0, []), (19, 0, []), (20, 0, []), (21, 0, []), (22, 1, []), (23, 1, []), (24, 0, [])] (by kernel_rfl) (by kernel_rfl) (by kernel_rfl) ?_))
        go_roundw
        case rel => exact ⟨k + 1, by omega, by go_num, by rw [HX.out, HBE.out, symStep, HQ.out]; rfl, HB.out.drew, HBL.out.drew⟩
        case measure => simp [intOf]; omega
    · have hk59 : k = 59 := by omega
      have HBE2 : Hid (symBest (s.data.toList.drop i) syB = best) := Lib.hid (by rw [← HBE.out, hk59, List.take_of_length_le (by rw [syB_len]; omega)])
      have HV : Hid (symS (s.data.toList.drop i) = if best = bstr [40, 124] ∧ (s.data.toList[i + 2]? = some 126 ∨ s.data.toList[i + 2]? = some 124) then bstr [40] else best) := Lib.hid (by unfold symS; rw [HBE2.out, List.getElem?_drop])
      clear hk59
      have strB : ∀ l : List UInt8, (best.toList == l) = decide (best = bstr l) := fun l => by
        rw [ByteArray.toList_eq, Bool.eq_iff_iff]
        simp only [decide_eq_true_eq, beq_iff_eq]
        constructor
        · intro h; subst h; obtain ⟨a⟩ := best; simp [bstr]
        · rintro rfl; simp [bstr]
      have HSB := Lib.hid (strB [40, 124])
      clear strB
      by_cases hbe : best = bstr [40, 124]
      · have hbb : (best.toList == [40, 124]) = true := by rw [HSB.out]; exact decide_eq_true hbe
        have HBB := Lib.hid hbe
        clear hbe
        by_cases hl : i + 2 < s.size
        · have hlb : decide ((i : Int) + 2 < (s.size : Int)) = true := decide_eq_true (by omega)
          have hg : s.data.toList[i + 2]? = some s[i + 2] := bget s (i + 2) hl
          have HG := Lib.hid hg
          clear hg
          by_cases h1 : s[i + 2] = 126
          · have h1b : (((s[i + 2]).toNat : Int) == 126) = true := by rw [h1]; rfl
            have H1 := Lib.hid h1
            clear h1
            go_wp2_with (first | ((with_reducible show wpPlan _ _ _ _ _ (Act.put _ _ _) _); simp only [List.getElem_toArray, List.getElem_cons_succ, List.getElem_cons_zero, Act.put, List.setIfInBounds_toArray, List.set_cons_zero, List.set_cons_succ]) | ((with_reducible show wpPlan _ _ _ _ _ _ _); first | refine wpPlan_nil ?_ | (refine wpPlan_read0 rfl ?hw rfl (fun _ _ _ => ?_); case hw => ((conv => (lhs; whnf)); first | done | with_reducible rfl)) | (refine wpPlan_read1d rfl ?hw rfl rfl (fun _ _ _ => ?_); case hw => ((conv => (lhs; whnf)); first | done | with_reducible rfl)) | (refine wpPlan_eff rfl ?hw (fun _ _ => ?_); case hw => ((conv => (lhs; whnf)); first | done | with_reducible rfl)) | (refine wpPlan_skip0 rfl ?hw ?_; case hw => ((conv => (lhs; whnf)); first | done | with_reducible rfl)) | (refine wpPlan_skip1d rfl ?hw ?_; case hw => ((conv => (lhs; whnf)); first | done | with_reducible rfl)) | (refine wpPlan_skip2 rfl ?hw ?_; case hw => ((conv => (lhs; whnf)); first | done | with_reducible rfl)) | (refine wpPlan_read1 rfl ?hw rfl (fun _ _ _ => ?_); case hw => ((conv => (lhs; whnf)); first | done | with_reducible rfl)) | refine wpPlan_fork ?_ ?_) | ((with_reducible show Owed _ _ _ _ _ _ _ _ _); first | refine Owed.none_ ?_ | refine Owed.nil_ ?_ | refine Owed.miss rfl ?_ | refine Owed.hit ?_ ?_) | ((with_reducible show Same _ _ _ _ _); intro _; go_simp; done) | (with_reducible exact True.intro) | ((with_reducible show Code.wp _ (Code.region 7 _ true) _ _ _); refine wp_region_plan [(0, 0, []), (1, 0, []), (2, 1, []), (3, 0, []), (4, 1, []), (5, 1, []), (6, 0, []), (7, 0, []), (8, 0, []), (9, 0, []), (10, 0, []), (11, 1, []), (12, 1, []), (13, 0, []), (14, 0, []), (15, 1, []), (16, 1, []), (17, 1, []), (18, 0, []), (19, 0, []), (20, 0, []), (21, 0, []), (22, 1, []), (23, 1, []), (24, 0, [])] (by kernel_rfl) (by kernel_rfl) (by kernel_rfl) ?_))
            go_ret
            exact ⟨ret_str (by rw [HV.out, if_pos ⟨HBB.out, .inl (by rw [HG.out, H1.out])⟩]; rfl), HBL.out⟩
          · have h1b : (((s[i + 2]).toNat : Int) == 126) = false := by rw [beq_eq_false_iff_ne]; exact fun e => h1 (UInt8.toNat_inj.1 (by show s[i + 2].toNat = 126; omega))
            have H1 := Lib.hid h1
            clear h1
            by_cases h2 : s[i + 2] = 124
            · have h2b : (((s[i + 2]).toNat : Int) == 124) = true := by rw [h2]; rfl
              have H2 := Lib.hid h2
              clear h2
              go_wp2_with (first | ((with_reducible show wpPlan _ _ _ _ _ (Act.put _ _ _) _); simp only [List.getElem_toArray, List.getElem_cons_succ, List.getElem_cons_zero, Act.put, List.setIfInBounds_toArray, List.set_cons_zero, List.set_cons_succ]) | ((with_reducible show wpPlan _ _ _ _ _ _ _); first | refine wpPlan_nil ?_ | (refine wpPlan_read0 rfl ?hw rfl (fun _ _ _ => ?_); case hw => ((conv => (lhs; whnf)); first | done | with_reducible rfl)) | (refine wpPlan_read1d rfl ?hw rfl rfl (fun _ _ _ => ?_); case hw => ((conv => (lhs; whnf)); first | done | with_reducible rfl)) | (refine wpPlan_eff rfl ?hw (fun _ _ => ?_); case hw => ((conv => (lhs; whnf)); first | done | with_reducible rfl)) | (refine wpPlan_skip0 rfl ?hw ?_; case hw => ((conv => (lhs; whnf)); first | done | with_reducible rfl)) | (refine wpPlan_skip1d rfl ?hw ?_; case hw => ((conv => (lhs; whnf)); first | done | with_reducible rfl)) | (refine wpPlan_skip2 rfl ?hw ?_; case hw => ((conv => (lhs; whnf)); first | done | with_reducible rfl)) | (refine wpPlan_read1 rfl ?hw rfl (fun _ _ _ => ?_); case hw => ((conv => (lhs; whnf)); first | done | with_reducible rfl)) | refine wpPlan_fork ?_ ?_) | ((with_reducible show Owed _ _ _ _ _ _ _ _ _); first | refine Owed.none_ ?_ | refine Owed.nil_ ?_ | refine Owed.miss rfl ?_ | refine Owed.hit ?_ ?_) | ((with_reducible show Same _ _ _ _ _); intro _; go_simp; done) | (with_reducible exact True.intro) | ((with_reducible show Code.wp _ (Code.region 7 _ true) _ _ _); refine wp_region_plan [(0, 0, []), (1, 0, []), (2, 1, []), (3, 0, []), (4, 1, []), (5, 1, []), (6, 0, []), (7, 0, []), (8, 0, []), (9, 0, []), (10, 0, []), (11, 1, []), (12, 1, []), (13, 0, []), (14, 0, []), (15, 1, []), (16, 1, []), (17, 1, []), (18, 0, []), (19, 0, []), (20, 0, []), (21, 0, []), (22, 1, []), (23, 1, []), (24, 0, [])] (by kernel_rfl) (by kernel_rfl) (by kernel_rfl) ?_))
              go_ret
              exact ⟨ret_str (by rw [HV.out, if_pos ⟨HBB.out, .inr (by rw [HG.out, H2.out])⟩]; rfl), HBL.out⟩
            · have h2b : (((s[i + 2]).toNat : Int) == 124) = false := by rw [beq_eq_false_iff_ne]; exact fun e => h2 (UInt8.toNat_inj.1 (by show s[i + 2].toNat = 124; omega))
              have H2 := Lib.hid h2
              clear h2
              go_wp2_with (first | ((with_reducible show wpPlan _ _ _ _ _ (Act.put _ _ _) _); simp only [List.getElem_toArray, List.getElem_cons_succ, List.getElem_cons_zero, Act.put, List.setIfInBounds_toArray, List.set_cons_zero, List.set_cons_succ]) | ((with_reducible show wpPlan _ _ _ _ _ _ _); first | refine wpPlan_nil ?_ | (refine wpPlan_read0 rfl ?hw rfl (fun _ _ _ => ?_); case hw => ((conv => (lhs; whnf)); first | done | with_reducible rfl)) | (refine wpPlan_read1d rfl ?hw rfl rfl (fun _ _ _ => ?_); case hw => ((conv => (lhs; whnf)); first | done | with_reducible rfl)) | (refine wpPlan_eff rfl ?hw (fun _ _ => ?_); case hw => ((conv => (lhs; whnf)); first | done | with_reducible rfl)) | (refine wpPlan_skip0 rfl ?hw ?_; case hw => ((conv => (lhs; whnf)); first | done | with_reducible rfl)) | (refine wpPlan_skip1d rfl ?hw ?_; case hw => ((conv => (lhs; whnf)); first | done | with_reducible rfl)) | (refine wpPlan_skip2 rfl ?hw ?_; case hw => ((conv => (lhs; whnf)); first | done | with_reducible rfl)) | (refine wpPlan_read1 rfl ?hw rfl (fun _ _ _ => ?_); case hw => ((conv => (lhs; whnf)); first | done | with_reducible rfl)) | refine wpPlan_fork ?_ ?_) | ((with_reducible show Owed _ _ _ _ _ _ _ _ _); first | refine Owed.none_ ?_ | refine Owed.nil_ ?_ | refine Owed.miss rfl ?_ | refine Owed.hit ?_ ?_) | ((with_reducible show Same _ _ _ _ _); intro _; go_simp; done) | (with_reducible exact True.intro) | ((with_reducible show Code.wp _ (Code.region 7 _ true) _ _ _); refine wp_region_plan [(0, 0, []), (1, 0, []), (2, 1, []), (3, 0, []), (4, 1, []), (5, 1, []), (6, 0, []), (7, 0, []), (8, 0, []), (9, 0, []), (10, 0, []), (11, 1, []), (12, 1, []), (13, 0, []), (14, 0, []), (15, 1, []), (16, 1, []), (17, 1, []), (18, 0, []), (19, 0, []), (20, 0, []), (21, 0, []), (22, 1, []), (23, 1, []), (24, 0, [])] (by kernel_rfl) (by kernel_rfl) (by kernel_rfl) ?_))
              go_ret
              exact ⟨ret_str (by rw [HV.out, if_neg (by rw [HG.out]; rintro ⟨_, e | e⟩; exact H1.out (by injection e); exact H2.out (by injection e))]), HBL.out⟩
        · have hlb : decide ((i : Int) + 2 < (s.size : Int)) = false := decide_eq_false (by omega)
          have HG : Hid (s.data.toList[i + 2]? = none) := Lib.hid (List.getElem?_eq_none (by rw [blen]; omega))
          go_wp2_with (first | ((with_reducible show wpPlan _ _ _ _ _ (Act.put _ _ _) _); simp only [List.getElem_toArray, List.getElem_cons_succ, List.getElem_cons_zero, Act.put, List.setIfInBounds_toArray, List.set_cons_zero, List.set_cons_succ]) | ((with_reducible show wpPlan _ _ _ _ _ _ _); first | refine wpPlan_nil ?_ | (refine wpPlan_read0 rfl ?hw rfl (fun _ _ _ => ?_); case hw => ((conv => (lhs; whnf)); first | done | with_reducible rfl)) | (refine wpPlan_read1d rfl ?hw rfl rfl (fun _ _ _ => ?_); case hw => ((conv => (lhs; whnf)); first | done | with_reducible rfl)) | (refine wpPlan_eff rfl ?hw (fun _ _ => ?_); case hw => ((conv => (lhs; whnf)); first | done | with_reducible rfl)) | (refine wpPlan_skip0 rfl ?hw ?_; case hw => ((conv => (lhs; whnf)); first | done | with_reducible rfl)) | (refine wpPlan_skip1d rfl ?hw ?_; case hw => ((conv => (lhs; whnf)); first | done | with_reducible rfl)) | (refine wpPlan_skip2 rfl ?hw ?_; case hw => ((conv => (lhs; whnf)); first | done | with_reducible rfl)) | (refine wpPlan_read1 rfl ?hw rfl (fun _ _ _ => ?_); case hw => ((conv => (lhs; whnf)); first | done | with_reducible rfl)) | refine wpPlan_fork ?_ ?_) | ((with_reducible show Owed _ _ _ _ _ _ _ _ _); first | refine Owed.none_ ?_ | refine Owed.nil_ ?_ | refine Owed.miss rfl ?_ | refine Owed.hit ?_ ?_) | ((with_reducible show Same _ _ _ _ _); intro _; go_simp; done) | (with_reducible exact True.intro) | ((with_reducible show Code.wp _ (Code.region 7 _ true) _ _ _); refine wp_region_plan [(0, 0, []), (1, 0, []), (2, 1, []), (3, 0, []), (4, 1, []), (5, 1, []), (6, 0, []), (7, 0, []), (8, 0, []), (9, 0, []), (10, 0, []), (11, 1, []), (12, 1, []), (13, 0, []), (14, 0, []), (15, 1, []), (16, 1, []), (17, 1, []), (18, 0, []), (19, 0, []), (20, 0, []), (21, 0, []), (22, 1, []), (23, 1, []), (24, 0, [])] (by kernel_rfl) (by kernel_rfl) (by kernel_rfl) ?_))
          go_ret
          exact ⟨ret_str (by rw [HV.out, if_neg (by rw [HG.out]; rintro ⟨_, e | e⟩ <;> cases e)]), HBL.out⟩
      · have hbb : (best.toList == [40, 124]) = false := by rw [HSB.out]; exact decide_eq_false hbe
        have HBB := Lib.hid hbe
        clear hbe
        go_wp2_with (first | ((with_reducible show wpPlan _ _ _ _ _ (Act.put _ _ _) _); simp only [List.getElem_toArray, List.getElem_cons_succ, List.getElem_cons_zero, Act.put, List.setIfInBounds_toArray, List.set_cons_zero, List.set_cons_succ]) | ((with_reducible show wpPlan _ _ _ _ _ _ _); first | refine wpPlan_nil ?_ | (refine wpPlan_read0 rfl ?hw rfl (fun _ _ _ => ?_); case hw => ((conv => (lhs; whnf)); first | done | with_reducible rfl)) | (refine wpPlan_read1d rfl ?hw rfl rfl (fun _ _ _ => ?_); case hw => ((conv => (lhs; whnf)); first | done | with_reducible rfl)) | (refine wpPlan_eff rfl ?hw (fun _ _ => ?_); case hw => ((conv => (lhs; whnf)); first | done | with_reducible rfl)) | (refine wpPlan_skip0 rfl ?hw ?_; case hw => ((conv => (lhs; whnf)); first | done | with_reducible rfl)) | (refine wpPlan_skip1d rfl ?hw ?_; case hw => ((conv => (lhs; whnf)); first | done | with_reducible rfl)) | (refine wpPlan_skip2 rfl ?hw ?_; case hw => ((conv => (lhs; whnf)); first | done | with_reducible rfl)) | (refine wpPlan_read1 rfl ?hw rfl (fun _ _ _ => ?_); case hw => ((conv => (lhs; whnf)); first | done | with_reducible rfl)) | refine wpPlan_fork ?_ ?_) | ((with_reducible show Owed _ _ _ _ _ _ _ _ _); first | refine Owed.none_ ?_ | refine Owed.nil_ ?_ | refine Owed.miss rfl ?_ | refine Owed.hit ?_ ?_) | ((with_reducible show Same _ _ _ _ _); intro _; go_simp; done) | (with_reducible exact True.intro) | ((with_reducible show Code.wp _ (Code.region 7 _ true) _ _ _); refine wp_region_plan [(0, 0, []), (1, 0, []), (2, 1, []), (3, 0, []), (4, 1, []), (5, 1, []), (6, 0, []), (7, 0, []), (8, 0, []), (9, 0, []), (10, 0, []), (11, 1, []), (12, 1, []), (13, 0, []), (14, 0, []), (15, 1, []), (16, 1, []), (17, 1, []), (18, 0, []), (19, 0, []), (20, 0, []), (21, 0, []), (22, 1, []), (23, 1, []), (24, 0, [])] (by kernel_rfl) (by kernel_rfl) (by kernel_rfl) ?_))
        go_ret
        exact ⟨ret_str (by rw [HV.out, if_neg (fun h => HBB.out h.1)]), HBL.out⟩

end Go.Proofs.YtgfhkaamkodpjaaDoor
