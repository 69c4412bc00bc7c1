/- Huge; the program's Pack; packs -/
import Derived.Test.YtonpdclccgpceaaRwPr
import Derived.Laws.BytesString
import Derived.Lib.SlBytesRow
namespace Go.Proofs.Ytonpdclccgpceaa
open Go Go.RowKit
set_option maxHeartbeats 4000000

/-- what Huge gives -/
def HugePost (ls : List (List Arc)) (e : Ending) : Prop := ∃ q, e = .returned (.bool q) ∧ (q = false → ls.length ≤ 12 ∧ total ls ≤ 60)
set_option maxRecDepth 100000 in
theorem huge_any (A : Option Addr) (n c B : Nat) (ls : List (List Arc)) (w : World) (h : RdL w B A n ls) (hB : B ≤ w.heap.size) (hn : n ≤ 9223372036854775807) (hs : ∀ l ∈ ls, l.length ≤ 1000000000000) :
    Calls Try.prog 16 #[lts A n c] w fun e w' => HugePost ls e ∧ Below w.heap.size w w' := by
  have HL := Lib.hid h.len
  have H := Lib.hid (h.alloc hB (.cells #[.slice A n c] 25))
  have HS := Lib.hid hs
  have HB0 := Lib.hid ((Below.refl w.heap.size w).alloc (Nat.le_refl _) (.cells #[.slice A n c] 25))
  clear h hs
  go_enter Try.func16, Try.ntmps16
  go_wp2
  go_loopw [3, 4] (fun vm vk wr => ∃ (k m : Nat), k ≤ n ∧ vk = .int .i64 k ∧ vm = .int .i64 m ∧ m ≤ 1000000000100 ∧ Hid (m = total (ls.take k)) ∧ wr = w.alloc (.cells #[.slice A n c] 25)) (fun _ vk _ => n - (intOf vk).toNat)
  case atStart => exact ⟨0, 0, Nat.zero_le _, rfl, rfl, by omega, Lib.hid (by simp [total]), rfl⟩
  case round =>
    obtain ⟨k, m, hk, rfl, rfl, hm, HM, rfl⟩ := hrel
    by_cases hlt : k < n
    · by_cases h60 : m ≤ 60
      · obtain ⟨b1, o1, l, A', n', c', rfl, hb1, hl, hln, e0, hrow⟩ := H.out.row hlt
        have hll := HS.out l (List.mem_of_getElem? hl)
        have HT := Lib.hid (show m + n' = total (ls.take (k + 1)) by rw [total_take ls k l hl, ← HM.out]; omega)
        have hb1l : b1 < w.heap.size := by omega
        clear hrow hl
        go_wp2
        go_roundw
        case rel => exact ⟨k + 1, m + n', by omega, by go_num, by go_num, by omega, HT, trivial⟩
        case measure => simp [intOf]; omega
      · go_wp2
        all_goals (go_ret; exact ⟨⟨_, rfl, fun h => by first | (cases h; done) | (simp at h; omega)⟩, HB0.out⟩)
    · have hkn : k = n := by omega
      subst hkn
      have hk2 : ls.take k = ls := List.take_of_length_le (by rw [HL.out]; exact Nat.le_refl _)
      have HT := Lib.hid (show m = total ls by rw [HM.out, hk2])
      clear hk2
      by_cases h12 : 12 < k
      · go_wp2
        all_goals (go_ret; exact ⟨⟨_, rfl, fun h => by first | (cases h; done) | (simp at h; omega)⟩, HB0.out⟩)
      · go_wp2
        all_goals (go_ret; exact ⟨⟨_, rfl, fun h => ⟨by rw [HL.out]; omega, by rw [← HT.out]; simp at h; omega⟩⟩, HB0.out⟩)

/-- what Pack gives -/
def PackPost (w : World) (ls : List (List Arc)) (e : Ending) (w' : World) : Prop :=
  (validB ls = false ∧ e = .returned (.tuple #[.slice none 0 0, .int .i64 1]) ∨ validB ls = true ∧ ∃ v', e = .returned (.tuple #[v', .int .i64 0]) ∧ Own w' v' (packB ls) ∧ ∀ g, v'.ownBlock = some g → w.heap.size ≤ g) ∧ Below w.heap.size w w'
set_option maxRecDepth 100000 in
theorem pkg_any (A : Option Addr) (n c B : Nat) (ls : List (List Arc)) (w : World) (h : RdL w B A n ls) (hB : B ≤ w.heap.size) (hn : n ≤ 9223372036854775807) (hs : ∀ l ∈ ls, l.length ≤ 1000000000000) (hp : validB ls = true → (packB ls).length ≤ 1048576) :
    Calls Try.prog 18 #[lts A n c] w (PackPost w ls) := by
  have H := Lib.hid h
  have HS := Lib.hid hs
  have HP := Lib.hid hp
  have HR0 := Lib.hid (h.alloc hB (.cells #[.slice A n c] 25))
  have HB0 := Lib.hid ((Below.refl w.heap.size w).alloc (Nat.le_refl _) (.cells #[.slice A n c] 25))
  have HN0 := Lib.hid (Blk.new w 25 #[.slice A n c])
  obtain ⟨q, hq⟩ : ∃ q, validB ls = q := ⟨_, rfl⟩
  have HQ := Lib.hid hq
  clear h hs hq hp
  go_enter Try.func18, Try.ntmps18
  go_wp2_with fail
  refine (validL_any A n c B ls _ HR0.out (by simp; omega) hn HS.out).mono ?_
  rw [HQ.out]
  rintro e w1 ⟨rfl, hb1⟩
  have HB1 := Lib.hid (HB0.out.trans (hb1.mono (by simp)))
  have hN1 := HN0.out.below hb1 HN0.out.lt
  have hN1c := hN1.cell
  have hN1l := hN1.lt
  have HR1 := Lib.hid (HR0.out.below (hb1.mono (by simp; omega)))
  clear hb1 hN1
  cases q
  · go_wp2_with fail
    refine bodyPost_ret (v := .tuple #[.slice none 0 0, .int .i64 1]) (by simp [results, Try.results18, go_sem]) rfl ?_
    exact ⟨.inl ⟨HQ.out, rfl⟩, HB1.out⟩
  · go_wp2_with fail
    refine (pack_any A n c B ls _ HR1.out (Nat.le_trans hB HB1.out.size) (Pk.of HQ.out)).mono ?_
    rintro e w2 ⟨v2, rfl, ho2, hb2, hf2⟩
    obtain ⟨bn, hbn⟩ : ∃ bn, (packB ls).length = bn := ⟨_, rfl⟩
    have hp := HP.out HQ.out
    have HZ := Lib.hid (And.intro ho2 (And.intro (HB1.out.trans (hb2.mono HB1.out.size)) (fun (g : Nat) (hg : v2.ownBlock = some g) => Nat.le_trans HB1.out.size (hf2 g hg))))
    obtain ⟨A2, c2, rfl, _, _⟩ := ho2.form
    rw [hbn] at hp HZ ⊢
    clear ho2 hb2 hf2 hbn hN1c hN1l
    go_wp2_with fail
    refine bodyPost_ret (v := .tuple #[.slice A2 bn c2, .int .i64 0]) (by simp [results, Try.results18, go_sem]) rfl ?_
    exact ⟨.inr ⟨HQ.out, _, rfl, HZ.out.1, HZ.out.2.2⟩, HZ.out.2.1⟩

/-- the string of bytes -/
def strN (l : List Nat) : ByteArray := strOfNums (l.map fun (x : Nat) => (x : Int))
theorem conv_any {B n c : Nat} {ad : Addr} {l : List Nat} (w : World) (h : Rd w B 1 (some ad) n (cellsOf ucell l)) (h0 : 0 < n) :
    (convert 33 9 (.slice (some ad) n c)).run Try.prog w = .ok (.string (strN l)) w := by
  have hl := h.len ucell_len (by decide)
  obtain ⟨b, o, e, _, hc⟩ := h.2 h0
  cases e
  refine run_convert_bytes_arg (P := Try.prog) w 33 5 Try.underlying33 Try.underlying5 b o n c (l.map fun (x : Nat) => (x : Int)) (by simp [hl]) (fun i hi => ?_) 9 Try.underlying9
  have hi2 : i < l.length := by omega
  rw [hc i (.int .u8 (l[i] : Nat)) (by
    have := cellsOf_get ucell_len l i 0 (by decide)
    simp only [Nat.mul_one, Nat.add_zero] at this
    rw [this, List.getElem?_eq_getElem hi2]
    rfl)]
  simp [List.getD, hi2]

set_option maxRecDepth 100000 in
theorem packs_any (A : Option Addr) (n c B : Nat) (ls : List (List Arc)) (w : World) (h : RdL w B A n ls) (hB : B ≤ w.heap.size) (hn : n ≤ 9223372036854775807) (hs : ∀ l ∈ ls, l.length ≤ 1000000000000) (hp : validB ls = true → (packB ls).length ≤ 1048576) :
    Calls Try.prog 14 #[lts A n c] w fun e w' => e = .returned (.bool true) ∧ Below w.heap.size w w' := by
  have HS := Lib.hid hs
  have HP := Lib.hid hp
  have HR0 := Lib.hid (h.alloc hB (.cells #[.slice A n c] 25))
  have HB0 := Lib.hid ((Below.refl w.heap.size w).alloc (Nat.le_refl _) (.cells #[.slice A n c] 25))
  have HN0 := Lib.hid (Blk.new w 25 #[.slice A n c])
  clear h hs hp
  go_enter Try.func14, Try.ntmps14
  go_wp2_with (first | ((with_reducible show wpPlan _ _ _ [] _ _ _); refine wpPlan_nil ?_) | ((with_reducible show wpPlan _ _ _ ((_, 0, _) :: _) _ _ _); first | (refine wpPlan_read0 rfl ?hw rfl (fun _ _ _ => ?_); case hw => ((conv => (lhs; whnf)); first | done | with_reducible rfl)) | (refine wpPlan_skip0 rfl ?hw ?_; (case hw => ((conv => (lhs; whnf)); first | done | with_reducible rfl)); (try simp only [List.getElem_toArray, List.getElem_cons_succ, List.getElem_cons_zero, Act.put, List.setIfInBounds_toArray, List.set_cons_zero, List.set_cons_succ]))) | ((with_reducible show wpPlan _ _ _ ((_, 1, _) :: _) _ _ _); first | (refine wpPlan_read1d rfl ?hw rfl rfl (fun _ _ _ => ?_); case hw => ((conv => (lhs; whnf)); first | done | with_reducible rfl)) | (refine wpPlan_skip1d rfl ?hw ?_; (case hw => ((conv => (lhs; whnf)); first | done | with_reducible rfl)); (try simp only [List.getElem_toArray, List.getElem_cons_succ, List.getElem_cons_zero, Act.put, List.setIfInBounds_toArray, List.set_cons_zero, List.set_cons_succ])) | (refine wpPlan_read1 rfl ?hw rfl (fun _ _ _ => ?_); case hw => ((conv => (lhs; whnf)); first | done | with_reducible rfl))) | ((with_reducible show wpPlan _ _ _ ((_, 2, _) :: _) _ _ _); first | (refine wpPlan_eff rfl ?hw (fun _ _ => ?_); case hw => ((conv => (lhs; whnf)); first | done | with_reducible rfl)) | (refine wpPlan_skip2 rfl ?hw ?_; (case hw => ((conv => (lhs; whnf)); first | done | with_reducible rfl)); (try simp only [List.getElem_toArray, List.getElem_cons_succ, List.getElem_cons_zero, Act.put, List.setIfInBounds_toArray, List.set_cons_zero, List.set_cons_succ]))) | ((with_reducible show wpPlan _ _ _ _ _ _ _); refine wpPlan_fork ?_ ?_) | ((with_reducible show Owed _ _ _ [] _ _ _ _ _); refine Owed.none_ ?_) | ((with_reducible show Owed _ _ _ _ [] _ _ _ _); refine Owed.nil_ ?_) | ((with_reducible show Owed _ _ _ _ _ _ _ _ _); first | (refine Owed.miss rfl ?_) | (refine Owed.hit ?_ ?_)) | ((with_reducible show Same _ _ _ _ _); intro _; go_simp; done) | (with_reducible exact True.intro) | ((with_reducible show Code.wp _ (Code.region 4 _ true) _ _ _); refine wp_region_plan [(0, 0, []), (1, 1, []), (2, 0, []), (3, 0, []), (4, 1, []), (5, 1, []), (6, 2, [4]), (7, 1, []), (8, 1, []), (9, 0, []), (10, 0, [])] (by kernel_rfl) (by kernel_rfl) (by kernel_rfl) ?_))
  refine (pkg_any A n c B ls _ HR0.out (by simp; omega) hn HS.out HP.out).mono ?_
  rintro e w1 ⟨hres, hb1⟩
  have HB1 := Lib.hid (HB0.out.trans (hb1.mono (by simp)))
  have HN1 := Lib.hid (HN0.out.below hb1 HN0.out.lt)
  have HR1 := Lib.hid (HR0.out.below (hb1.mono (by simp; omega)))
  have h1c := HN1.out.cell
  have h1l := HN1.out.lt
  clear hb1
  rcases hres with ⟨hq, rfl⟩ | ⟨hq, v1, rfl, ho1, hf1⟩
  · have HQ := Lib.hid hq
    clear hq
    go_wp2_with (first | ((with_reducible show wpPlan _ _ _ [] _ _ _); refine wpPlan_nil ?_) | ((with_reducible show wpPlan _ _ _ ((_, 0, _) :: _) _ _ _); first | (refine wpPlan_read0 rfl ?hw rfl (fun _ _ _ => ?_); case hw => ((conv => (lhs; whnf)); first | done | with_reducible rfl)) | (refine wpPlan_skip0 rfl ?hw ?_; (case hw => ((conv => (lhs; whnf)); first | done | with_reducible rfl)); (try simp only [List.getElem_toArray, List.getElem_cons_succ, List.getElem_cons_zero, Act.put, List.setIfInBounds_toArray, List.set_cons_zero, List.set_cons_succ]))) | ((with_reducible show wpPlan _ _ _ ((_, 1, _) :: _) _ _ _); first | (refine wpPlan_read1d rfl ?hw rfl rfl (fun _ _ _ => ?_); case hw => ((conv => (lhs; whnf)); first | done | with_reducible rfl)) | (refine wpPlan_skip1d rfl ?hw ?_; (case hw => ((conv => (lhs; whnf)); first | done | with_reducible rfl)); (try simp only [List.getElem_toArray, List.getElem_cons_succ, List.getElem_cons_zero, Act.put, List.setIfInBounds_toArray, List.set_cons_zero, List.set_cons_succ])) | (refine wpPlan_read1 rfl ?hw rfl (fun _ _ _ => ?_); case hw => ((conv => (lhs; whnf)); first | done | with_reducible rfl))) | ((with_reducible show wpPlan _ _ _ ((_, 2, _) :: _) _ _ _); first | (refine wpPlan_eff rfl ?hw (fun _ _ => ?_); case hw => ((conv => (lhs; whnf)); first | done | with_reducible rfl)) | (refine wpPlan_skip2 rfl ?hw ?_; (case hw => ((conv => (lhs; whnf)); first | done | with_reducible rfl)); (try simp only [List.getElem_toArray, List.getElem_cons_succ, List.getElem_cons_zero, Act.put, List.setIfInBounds_toArray, List.set_cons_zero, List.set_cons_succ]))) | ((with_reducible show wpPlan _ _ _ _ _ _ _); refine wpPlan_fork ?_ ?_) | ((with_reducible show Owed _ _ _ [] _ _ _ _ _); refine Owed.none_ ?_) | ((with_reducible show Owed _ _ _ _ [] _ _ _ _); refine Owed.nil_ ?_) | ((with_reducible show Owed _ _ _ _ _ _ _ _ _); first | (refine Owed.miss rfl ?_) | (refine Owed.hit ?_ ?_)) | ((with_reducible show Same _ _ _ _ _); intro _; go_simp; done) | (with_reducible exact True.intro) | ((with_reducible show Code.wp _ (Code.region 4 _ true) _ _ _); refine wp_region_plan [(0, 0, []), (1, 1, []), (2, 0, []), (3, 0, []), (4, 1, []), (5, 1, []), (6, 2, [4]), (7, 1, []), (8, 1, []), (9, 0, []), (10, 0, [])] (by kernel_rfl) (by kernel_rfl) (by kernel_rfl) ?_))
    refine (rvalidL_any A n c B ls _ HR1.out (Nat.le_trans hB HB1.out.size) hn HS.out).mono ?_
    rw [HQ.out]
    rintro e w2 ⟨rfl, hb2⟩
    have HB2 := Lib.hid (HB1.out.trans (hb2.mono HB1.out.size))
    clear hb2 h1c h1l
    go_wp2_with (first | ((with_reducible show wpPlan _ _ _ [] _ _ _); refine wpPlan_nil ?_) | ((with_reducible show wpPlan _ _ _ ((_, 0, _) :: _) _ _ _); first | (refine wpPlan_read0 rfl ?hw rfl (fun _ _ _ => ?_); case hw => ((conv => (lhs; whnf)); first | done | with_reducible rfl)) | (refine wpPlan_skip0 rfl ?hw ?_; (case hw => ((conv => (lhs; whnf)); first | done | with_reducible rfl)); (try simp only [List.getElem_toArray, List.getElem_cons_succ, List.getElem_cons_zero, Act.put, List.setIfInBounds_toArray, List.set_cons_zero, List.set_cons_succ]))) | ((with_reducible show wpPlan _ _ _ ((_, 1, _) :: _) _ _ _); first | (refine wpPlan_read1d rfl ?hw rfl rfl (fun _ _ _ => ?_); case hw => ((conv => (lhs; whnf)); first | done | with_reducible rfl)) | (refine wpPlan_skip1d rfl ?hw ?_; (case hw => ((conv => (lhs; whnf)); first | done | with_reducible rfl)); (try simp only [List.getElem_toArray, List.getElem_cons_succ, List.getElem_cons_zero, Act.put, List.setIfInBounds_toArray, List.set_cons_zero, List.set_cons_succ])) | (refine wpPlan_read1 rfl ?hw rfl (fun _ _ _ => ?_); case hw => ((conv => (lhs; whnf)); first | done | with_reducible rfl))) | ((with_reducible show wpPlan _ _ _ ((_, 2, _) :: _) _ _ _); first | (refine wpPlan_eff rfl ?hw (fun _ _ => ?_); case hw => ((conv => (lhs; whnf)); first | done | with_reducible rfl)) | (refine wpPlan_skip2 rfl ?hw ?_; (case hw => ((conv => (lhs; whnf)); first | done | with_reducible rfl)); (try simp only [List.getElem_toArray, List.getElem_cons_succ, List.getElem_cons_zero, Act.put, List.setIfInBounds_toArray, List.set_cons_zero, List.set_cons_succ]))) | ((with_reducible show wpPlan _ _ _ _ _ _ _); refine wpPlan_fork ?_ ?_) | ((with_reducible show Owed _ _ _ [] _ _ _ _ _); refine Owed.none_ ?_) | ((with_reducible show Owed _ _ _ _ [] _ _ _ _); refine Owed.nil_ ?_) | ((with_reducible show Owed _ _ _ _ _ _ _ _ _); first | (refine Owed.miss rfl ?_) | (refine Owed.hit ?_ ?_)) | ((with_reducible show Same _ _ _ _ _); intro _; go_simp; done) | (with_reducible exact True.intro) | ((with_reducible show Code.wp _ (Code.region 4 _ true) _ _ _); refine wp_region_plan [(0, 0, []), (1, 1, []), (2, 0, []), (3, 0, []), (4, 1, []), (5, 1, []), (6, 2, [4]), (7, 1, []), (8, 1, []), (9, 0, []), (10, 0, [])] (by kernel_rfl) (by kernel_rfl) (by kernel_rfl) ?_))
    go_ret
    exact ⟨rfl, HB2.out⟩
  · have HQ := Lib.hid hq
    have HO1 := Lib.hid ho1
    have hp := HP.out hq
    have HF1 := Lib.hid hf1
    have hlen : 0 < (packB ls).length := by
      unfold packB sealB
      rw [List.length_append]
      simp [sum4]
    obtain ⟨A1, c1, rfl, _, _⟩ := ho1.form
    have hR1 := ho1.rd
    obtain ⟨b1, o1, hA1, hb1, _⟩ := hR1.2 hlen
    subst hA1
    obtain ⟨bn, hbn⟩ : ∃ bn, (packB ls).length = bn := ⟨_, rfl⟩
    rw [hbn] at hlen hR1 hp ⊢
    have HRB := Lib.hid hR1
    have HBN := Lib.hid hbn
    clear hq ho1 hf1 hR1 hbn
    go_wp2_with (first | ((with_reducible show wpPlan _ _ _ [] _ _ _); refine wpPlan_nil ?_) | ((with_reducible show wpPlan _ _ _ ((_, 0, _) :: _) _ _ _); first | (refine wpPlan_read0 rfl ?hw rfl (fun _ _ _ => ?_); case hw => ((conv => (lhs; whnf)); first | done | with_reducible rfl)) | (refine wpPlan_skip0 rfl ?hw ?_; (case hw => ((conv => (lhs; whnf)); first | done | with_reducible rfl)); (try simp only [List.getElem_toArray, List.getElem_cons_succ, List.getElem_cons_zero, Act.put, List.setIfInBounds_toArray, List.set_cons_zero, List.set_cons_succ]))) | ((with_reducible show wpPlan _ _ _ ((_, 1, _) :: _) _ _ _); first | (refine wpPlan_read1d rfl ?hw rfl rfl (fun _ _ _ => ?_); case hw => ((conv => (lhs; whnf)); first | done | with_reducible rfl)) | (refine wpPlan_skip1d rfl ?hw ?_; (case hw => ((conv => (lhs; whnf)); first | done | with_reducible rfl)); (try simp only [List.getElem_toArray, List.getElem_cons_succ, List.getElem_cons_zero, Act.put, List.setIfInBounds_toArray, List.set_cons_zero, List.set_cons_succ])) | (refine wpPlan_read1 rfl ?hw rfl (fun _ _ _ => ?_); case hw => ((conv => (lhs; whnf)); first | done | with_reducible rfl))) | ((with_reducible show wpPlan _ _ _ ((_, 2, _) :: _) _ _ _); first | (refine wpPlan_eff rfl ?hw (fun _ _ => ?_); case hw => ((conv => (lhs; whnf)); first | done | with_reducible rfl)) | (refine wpPlan_skip2 rfl ?hw ?_; (case hw => ((conv => (lhs; whnf)); first | done | with_reducible rfl)); (try simp only [List.getElem_toArray, List.getElem_cons_succ, List.getElem_cons_zero, Act.put, List.setIfInBounds_toArray, List.set_cons_zero, List.set_cons_succ]))) | ((with_reducible show wpPlan _ _ _ _ _ _ _); refine wpPlan_fork ?_ ?_) | ((with_reducible show Owed _ _ _ [] _ _ _ _ _); refine Owed.none_ ?_) | ((with_reducible show Owed _ _ _ _ [] _ _ _ _); refine Owed.nil_ ?_) | ((with_reducible show Owed _ _ _ _ _ _ _ _ _); first | (refine Owed.miss rfl ?_) | (refine Owed.hit ?_ ?_)) | ((with_reducible show Same _ _ _ _ _); intro _; go_simp; done) | (with_reducible exact True.intro) | ((with_reducible show Code.wp _ (Code.region 4 _ true) _ _ _); refine wp_region_plan [(0, 0, []), (1, 1, []), (2, 0, []), (3, 0, []), (4, 1, []), (5, 1, []), (6, 2, [4]), (7, 1, []), (8, 1, []), (9, 0, []), (10, 0, [])] (by kernel_rfl) (by kernel_rfl) (by kernel_rfl) ?_))
    refine (rvalidL_any A n c B ls _ HR1.out (Nat.le_trans hB HB1.out.size) hn HS.out).mono ?_
    rw [HQ.out]
    rintro e w2 ⟨rfl, hb2⟩
    have HB2 := Lib.hid (HB1.out.trans (hb2.mono HB1.out.size))
    have HN2 := Lib.hid (HN1.out.below hb2 HN1.out.lt)
    have HR2 := Lib.hid (HR1.out.below (hb2.mono (Nat.le_trans hB HB1.out.size)))
    have HRB2 := Lib.hid (HRB.out.below hb2)
    have HS2 := Lib.hid hb2.size
    clear hb2 h1c h1l
    have h2c := HN2.out.cell
    have h2l := HN2.out.lt
    have k2 := conv_any (c := c1) w2.drew (HRB2.out.drewN 1) hlen
    go_wp2_with (first | ((with_reducible show wpPlan _ _ _ [] _ _ _); refine wpPlan_nil ?_) | ((with_reducible show wpPlan _ _ _ ((_, 0, _) :: _) _ _ _); first | (refine wpPlan_read0 rfl ?hw rfl (fun _ _ _ => ?_); case hw => ((conv => (lhs; whnf)); first | done | with_reducible rfl)) | (refine wpPlan_skip0 rfl ?hw ?_; (case hw => ((conv => (lhs; whnf)); first | done | with_reducible rfl)); (try simp only [List.getElem_toArray, List.getElem_cons_succ, List.getElem_cons_zero, Act.put, List.setIfInBounds_toArray, List.set_cons_zero, List.set_cons_succ]))) | ((with_reducible show wpPlan _ _ _ ((_, 1, _) :: _) _ _ _); first | (refine wpPlan_read1d rfl ?hw rfl rfl (fun _ _ _ => ?_); case hw => ((conv => (lhs; whnf)); first | done | with_reducible rfl)) | (refine wpPlan_skip1d rfl ?hw ?_; (case hw => ((conv => (lhs; whnf)); first | done | with_reducible rfl)); (try simp only [List.getElem_toArray, List.getElem_cons_succ, List.getElem_cons_zero, Act.put, List.setIfInBounds_toArray, List.set_cons_zero, List.set_cons_succ])) | (refine wpPlan_read1 rfl ?hw rfl (fun _ _ _ => ?_); case hw => ((conv => (lhs; whnf)); first | done | with_reducible rfl))) | ((with_reducible show wpPlan _ _ _ ((_, 2, _) :: _) _ _ _); first | (refine wpPlan_eff rfl ?hw (fun _ _ => ?_); case hw => ((conv => (lhs; whnf)); first | done | with_reducible rfl)) | (refine wpPlan_skip2 rfl ?hw ?_; (case hw => ((conv => (lhs; whnf)); first | done | with_reducible rfl)); (try simp only [List.getElem_toArray, List.getElem_cons_succ, List.getElem_cons_zero, Act.put, List.setIfInBounds_toArray, List.set_cons_zero, List.set_cons_succ]))) | ((with_reducible show wpPlan _ _ _ _ _ _ _); refine wpPlan_fork ?_ ?_) | ((with_reducible show Owed _ _ _ [] _ _ _ _ _); refine Owed.none_ ?_) | ((with_reducible show Owed _ _ _ _ [] _ _ _ _); refine Owed.nil_ ?_) | ((with_reducible show Owed _ _ _ _ _ _ _ _ _); first | (refine Owed.miss rfl ?_) | (refine Owed.hit ?_ ?_)) | ((with_reducible show Same _ _ _ _ _); intro _; go_simp; done) | (with_reducible exact True.intro) | ((with_reducible show Code.wp _ (Code.region 4 _ true) _ _ _); refine wp_region_plan [(0, 0, []), (1, 1, []), (2, 0, []), (3, 0, []), (4, 1, []), (5, 1, []), (6, 2, [4]), (7, 1, []), (8, 1, []), (9, 0, []), (10, 0, [])] (by kernel_rfl) (by kernel_rfl) (by kernel_rfl) ?_))
    refine (rpack_any A n c B ls _ (HR2.out.drewN 1) (Nat.le_trans hB HB2.out.size) (Pk.of HQ.out)).mono ?_
    rintro e w3 ⟨v3, rfl, ho3, hb3, hf3⟩
    have hb3' : Below w2.heap.size w2 w3 := ((Below.refl w2.heap.size w2).drew).trans hb3
    have HB3 := Lib.hid (HB2.out.trans (hb3'.mono HB2.out.size))
    have HRB3 := Lib.hid (HRB2.out.below (hb3'.mono HS2.out))
    obtain ⟨A3, c3, rfl, _, _⟩ := ho3.form
    have hR3 := ho3.rd
    rw [HBN.out] at hR3
    obtain ⟨b3, o3, hA3, _, _⟩ := hR3.2 hlen
    subst hA3
    have k3 := conv_any (c := c1) w3 HRB3.out hlen
    have k4 := conv_any (c := c3) w3 hR3 hlen
    rw [HBN.out]
    clear ho3 hb3 hf3 hb3' hR3
    go_wp2_with (first | ((with_reducible show wpPlan _ _ _ [] _ _ _); refine wpPlan_nil ?_) | ((with_reducible show wpPlan _ _ _ ((_, 0, _) :: _) _ _ _); first | (refine wpPlan_read0 rfl ?hw rfl (fun _ _ _ => ?_); case hw => ((conv => (lhs; whnf)); first | done | with_reducible rfl)) | (refine wpPlan_skip0 rfl ?hw ?_; (case hw => ((conv => (lhs; whnf)); first | done | with_reducible rfl)); (try simp only [List.getElem_toArray, List.getElem_cons_succ, List.getElem_cons_zero, Act.put, List.setIfInBounds_toArray, List.set_cons_zero, List.set_cons_succ]))) | ((with_reducible show wpPlan _ _ _ ((_, 1, _) :: _) _ _ _); first | (refine wpPlan_read1d rfl ?hw rfl rfl (fun _ _ _ => ?_); case hw => ((conv => (lhs; whnf)); first | done | with_reducible rfl)) | (refine wpPlan_skip1d rfl ?hw ?_; (case hw => ((conv => (lhs; whnf)); first | done | with_reducible rfl)); (try simp only [List.getElem_toArray, List.getElem_cons_succ, List.getElem_cons_zero, Act.put, List.setIfInBounds_toArray, List.set_cons_zero, List.set_cons_succ])) | (refine wpPlan_read1 rfl ?hw rfl (fun _ _ _ => ?_); case hw => ((conv => (lhs; whnf)); first | done | with_reducible rfl))) | ((with_reducible show wpPlan _ _ _ ((_, 2, _) :: _) _ _ _); first | (refine wpPlan_eff rfl ?hw (fun _ _ => ?_); case hw => ((conv => (lhs; whnf)); first | done | with_reducible rfl)) | (refine wpPlan_skip2 rfl ?hw ?_; (case hw => ((conv => (lhs; whnf)); first | done | with_reducible rfl)); (try simp only [List.getElem_toArray, List.getElem_cons_succ, List.getElem_cons_zero, Act.put, List.setIfInBounds_toArray, List.set_cons_zero, List.set_cons_succ]))) | ((with_reducible show wpPlan _ _ _ _ _ _ _); refine wpPlan_fork ?_ ?_) | ((with_reducible show Owed _ _ _ [] _ _ _ _ _); refine Owed.none_ ?_) | ((with_reducible show Owed _ _ _ _ [] _ _ _ _); refine Owed.nil_ ?_) | ((with_reducible show Owed _ _ _ _ _ _ _ _ _); first | (refine Owed.miss rfl ?_) | (refine Owed.hit ?_ ?_)) | ((with_reducible show Same _ _ _ _ _); intro _; go_simp; done) | (with_reducible exact True.intro) | ((with_reducible show Code.wp _ (Code.region 4 _ true) _ _ _); refine wp_region_plan [(0, 0, []), (1, 1, []), (2, 0, []), (3, 0, []), (4, 1, []), (5, 1, []), (6, 2, [4]), (7, 1, []), (8, 1, []), (9, 0, []), (10, 0, [])] (by kernel_rfl) (by kernel_rfl) (by kernel_rfl) ?_))
    go_ret
    exact ⟨ret_bool (by simp), HB3.out⟩

end Go.Proofs.Ytonpdclccgpceaa
