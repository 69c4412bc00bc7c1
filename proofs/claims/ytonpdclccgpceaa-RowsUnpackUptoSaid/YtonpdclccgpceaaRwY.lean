/- bytes that are changed: the tape's Bytes -/
import Derived.Test.YtonpdclccgpceaaRwG3
import Derived.Test.YtonpdclccgpceaaRwX
namespace Go.Proofs.Ytonpdclccgpceaa
open Go Go.RowKit
set_option maxHeartbeats 8000000

theorem own_cut {w : World} {base : Nat} {e : TypeId} {size g cap n k : Nat} {xs : List Value} (h : w.ownsRow base e size (.slice (some ⟨g, 0, none⟩) n cap) n xs) (hk : k ≤ n) :
    w.ownsRow base e size (.slice (some ⟨g, 0, none⟩) k cap) k (xs.take (k * size)) := by
  obtain ⟨h1, h2⟩ := h
  rcases h2 with ⟨h0, _⟩ | ⟨g', cap', cur, hv, hg, hh, hn, hcap, hsz, htake⟩
  · cases h0
  · cases hv
    refine ⟨by rw [List.length_take, h1]; exact Nat.min_eq_left (Nat.mul_le_mul_right _ hk), .inr ⟨g, cap, cur, rfl, hg, hh, by omega, hcap, hsz, ?_⟩⟩
    rw [← htake, List.take_take, Nat.min_eq_left (Nat.mul_le_mul_right _ hk)]
theorem Rd.udrop {w : World} {B n b o : Nat} {l : List Nat} (h : Rd w B 1 (some ⟨b, o, none⟩) n (cellsOf ucell l)) {i : Nat} (hi : i ≤ n) : Rd w B 1 (some ⟨b, o + i, none⟩) (n - i) (cellsOf ucell (l.drop i)) := by
  have hl := h.len ucell_len (by decide)
  refine ⟨by rw [cellsOf_length ucell_len, List.length_drop, hl], fun hi0 => ?_⟩
  obtain ⟨b', o', e, hb, hc⟩ := h.2 (by omega)
  obtain ⟨rfl, rfl⟩ : b = b' ∧ o = o' := by simpa using e
  refine ⟨b, o + i, rfl, hb, fun j u hu => ?_⟩
  rw [Nat.add_assoc]
  refine hc (i + j) u ?_
  have e1 : cellsOf ucell l = cellsOf ucell (l.take i) ++ cellsOf ucell (l.drop i) := by rw [← cellsOf_append, List.take_append_drop]
  rw [e1, List.getElem?_append_right (by rw [cellsOf_length ucell_len, List.length_take, hl]; omega), cellsOf_length ucell_len, List.length_take, hl, Nat.min_eq_left hi, show i + j - i * 1 = j by omega]
  exact hu
theorem cellsOf_utake (l : List Nat) (i : Nat) (hi : i ≤ l.length) : (cellsOf ucell l).take (i * 1) = cellsOf ucell (l.take i) := by
  have e1 : cellsOf ucell l = cellsOf ucell (l.take i) ++ cellsOf ucell (l.drop i) := by rw [← cellsOf_append, List.take_append_drop]
  rw [e1]
  exact List.take_left' (by rw [cellsOf_length ucell_len, List.length_take]; omega)
theorem cells_set (l : List Nat) (i c : Nat) : (cellsOf ucell l).set i (.int .u8 c) = cellsOf ucell (l.set i c) := by
  induction l generalizing i with
  | nil => rfl
  | cons a l ih =>
    cases i with
    | zero => rfl
    | succ i =>
      have := ih i
      simp only [cellsOf, List.flatMap_cons, ucell, List.cons_append, List.nil_append, List.set_cons_succ] at this ⊢
      rw [this]
theorem cells_get (l : List Nat) (i : Nat) : (cellsOf ucell l)[i]? = (l[i]?).map fun b => Value.int .u8 b := by
  induction l generalizing i with
  | nil => simp [cellsOf]
  | cons a l ih =>
    cases i with
    | zero => rfl
    | succ i =>
      have := ih i
      simp only [cellsOf, List.flatMap_cons, ucell, List.cons_append, List.nil_append, List.getElem?_cons_succ] at this ⊢
      rw [this]
theorem xor8 {a b : Nat} (ha : a < 256) (hb : b < 255) : ∃ x : Nat, bits .xor .u8 (a : Nat) (1 + (b : Nat)) = (x : Int) ∧ x < 256 ∧ x ≠ a := by
  refine ⟨a ^^^ (b + 1), ?_, Nat.xor_lt_two_pow (n := 8) ha (by omega), fun e => ?_⟩
  · have h3 : (2 : Nat) ^ IntKind.u8.bits = 256 := by decide
    have h4 : a ^^^ (b + 1) < 256 := Nat.xor_lt_two_pow (n := 8) ha (by omega)
    rw [show (1 : Int) + (b : Nat) = ((b + 1 : Nat) : Int) by omega]
    obtain ⟨c, hc⟩ : ∃ c, b + 1 = c := ⟨_, rfl⟩
    rw [hc] at h4 ⊢
    unfold bits
    simp
    rw [h3, Nat.mod_eq_of_lt ha, Nat.mod_eq_of_lt (by omega)]
    show ((a ^^^ c : Nat) : Int) % 256 = _
    omega
  · have h1 : (b + 1) ^^^ a = 0 ^^^ a := by rw [Nat.xor_comm, e, Nat.zero_xor]
    have := xor_undo h1
    omega

/-- what Bytes gives -/
def BytesPost (w : World) (B b : Nat) (A : Option Addr) (n c i : Nat) (zs : List Int) (nb : Nat) (e : Ending) (w' : World) : Prop :=
  (∃ (A' : Option Addr) (n' c' : Nat) (l' : List Nat), e = .returned (.slice A' n' c') ∧ Rd w' w'.heap.size 1 A' n' (cellsOf ucell l') ∧ n' ≤ c' ∧ n' ≤ nb + 1 ∧ (∀ y ∈ l', y < 256) ∧ ∀ a, A' = some a → w.heap.size ≤ a.block) ∧ (∃ j, j ≤ i + 3 ∧ TpAt w' B b A n c zs j) ∧ Outside (fun k => k = b) w w'

set_option maxRecDepth 100000 in
theorem bytes_any (B b : Nat) (A : Option Addr) (n c i : Nat) (zs : List Int) (Ab : Option Addr) (nb cb Bb : Nat) (lb : List Nat) (w : World) (h : TpAt w B b A n c zs i) (hn : n ≤ 1000000000000) (hi : i ≤ 100000000)
    (hb : Rd w Bb 1 Ab nb (cellsOf ucell lb)) (hBb : Bb ≤ w.heap.size) (hby : ∀ y ∈ lb, y < 256) (hnb : nb ≤ 100000) :
    Calls Try.prog 22 #[.pointer (some ⟨b, 0, none⟩), .slice Ab nb cb] w (BytesPost w B b A n c i zs nb) := by
  have HL := Lib.hid (hb.len ucell_len (by decide))
  have HS := Lib.hid hb
  have HT := Lib.hid h
  have HBY := Lib.hid hby
  have hbw : b < w.heap.size := h.blk.lt
  have hown : (w.alloc (Obj.cells #[] 5)).ownsRow 0 5 1 (.slice (some ⟨w.heap.size, 0, none⟩) 0 0) 0 [] :=
    ⟨rfl, .inr ⟨w.heap.size, 0, #[], rfl, Nat.zero_le _, heap_alloc_new w _, Nat.le_refl _, by simp [maxLen], rfl, rfl⟩⟩
  have HOW := Lib.hid hown
  clear h hb hby hown
  go_enter Try.func22, Try.ntmps22
  go_wp2_with (first
    | (at_builtin; refine appList_opt rfl slByte rfl HOW.out rfl (HS.out.alloc hBb (Obj.cells #[] 5)) (c := cb) rfl (ucell_ones lb) (by unfold maxLen; omega) (by omega) ?_; intro v7 w7 hown7 hgrow7 hat7; rw [Nat.zero_add, List.nil_append] at hown7; obtain ⟨A7, c7, rfl, hc7, _⟩ := own_form hown7; refine Stop7.intro ?_))
  unfold Stop7
  have hO7 : Outside (fun k => k = w.heap.size) w w7 := ((Outside.refl (fun k => k = w.heap.size) w).alloc (.cells #[] 5)).grown hgrow7 (fun z hz => by
    have h1 : w.heap.size = z := by simpa [Value.ownBlock] using hz
    exact .inl h1.symm)
  have hb7 := hO7.below (B := w.heap.size) (Nat.le_refl _) (fun k hk e => by omega)
  have HB7 := Lib.hid hb7
  have HT7 := Lib.hid (HT.out.below hb7)
  have HF7 := Lib.hid (show ∀ g, (Value.slice A7 nb c7).ownBlock = some g → w.heap.size ≤ g from fun g hg => by
    rcases hat7 with h1 | h1
    · rw [h1] at hg
      have h2 : w.heap.size = g := by simpa [Value.ownBlock] using hg
      omega
    · rw [h1] at hg
      simp at hg
      omega)
  have HW7 := Lib.hid hown7
  clear hO7 hb7 hown7 hgrow7 hat7
  by_cases h0 : nb = 0
  · subst h0
    go_wp2_with (first | ((with_reducible show wpPlan _ _ _ [] _ _ _); refine wpPlan_nil ?_) | ((with_reducible show wpPlan _ _ _ ((_, 0, _) :: _) _ _ _); first | (refine wpPlan_read0 rfl ?hw rfl (fun _ _ _ => ?_); case hw => ((conv => (lhs; whnf)); first | done | with_reducible rfl)) | (refine wpPlan_skip0 rfl ?hw ?_; (case hw => ((conv => (lhs; whnf)); first | done | with_reducible rfl)); (try simp only [List.getElem_toArray, List.getElem_cons_succ, List.getElem_cons_zero, Act.put, List.setIfInBounds_toArray, List.set_cons_zero, List.set_cons_succ]))) | ((with_reducible show wpPlan _ _ _ ((_, 1, _) :: _) _ _ _); first | (refine wpPlan_read1d rfl ?hw rfl rfl (fun _ _ _ => ?_); case hw => ((conv => (lhs; whnf)); first | done | with_reducible rfl)) | (refine wpPlan_skip1d rfl ?hw ?_; (case hw => ((conv => (lhs; whnf)); first | done | with_reducible rfl)); (try simp only [List.getElem_toArray, List.getElem_cons_succ, List.getElem_cons_zero, Act.put, List.setIfInBounds_toArray, List.set_cons_zero, List.set_cons_succ])) | (refine wpPlan_read1 rfl ?hw rfl (fun _ _ _ => ?_); case hw => ((conv => (lhs; whnf)); first | done | with_reducible rfl))) | ((with_reducible show wpPlan _ _ _ ((_, 2, _) :: _) _ _ _); first | (refine wpPlan_eff rfl ?hw (fun _ _ => ?_); case hw => ((conv => (lhs; whnf)); first | done | with_reducible rfl)) | (refine wpPlan_skip2 rfl ?hw ?_; (case hw => ((conv => (lhs; whnf)); first | done | with_reducible rfl)); (try simp only [List.getElem_toArray, List.getElem_cons_succ, List.getElem_cons_zero, Act.put, List.setIfInBounds_toArray, List.set_cons_zero, List.set_cons_succ]))) | ((with_reducible show wpPlan _ _ _ _ _ _ _); refine wpPlan_fork ?_ ?_) | ((with_reducible show Owed _ _ _ [] _ _ _ _ _); refine Owed.none_ ?_) | ((with_reducible show Owed _ _ _ _ [] _ _ _ _); refine Owed.nil_ ?_) | ((with_reducible show Owed _ _ _ _ _ _ _ _ _); first | (refine Owed.miss rfl ?_) | (refine Owed.hit ?_ ?_)) | ((with_reducible show Same _ _ _ _ _); intro _; go_simp; done) | (with_reducible exact True.intro) | ((with_reducible show Code.wp _ (Code.region 8 _ true) _ _ _); refine wp_region_plan [(0, 0, []), (1, 0, []), (2, 1, []), (3, 1, []), (4, 0, []), (5, 2, [2, 3]), (6, 1, []), (7, 1, []), (8, 1, []), (9, 1, []), (10, 2, [])] (by kernel_rfl) (by kernel_rfl) (by kernel_rfl) ?_) | ((with_reducible show Code.wp _ (Code.region 6 _ true) _ _ _); refine wp_region_plan [(0, 0, []), (1, 0, []), (2, 1, []), (3, 0, []), (4, 0, []), (5, 1, []), (6, 1, []), (7, 2, []), (8, 0, [])] (by kernel_rfl) (by kernel_rfl) (by kernel_rfl) ?_))
    refine (tnext_any B b A n c i zs 256 _ HT7.out hn (by omega) (by omega) (by omega)).mono ?_
    rintro e w8 ⟨⟨r, rfl, hr0, hr1⟩, hT8, hO8⟩
    obtain ⟨v, rfl⟩ : ∃ v : Nat, r = v := ⟨r.toNat, by omega⟩
    have HZ := Lib.hid (And.intro (hT8.alloc (.cells #[.int .u8 v] 5)) (((Below.new HB7.out).mono (R' := fun k => k = b) (fun _ _ e => e.elim)).trans hO8 |>.alloc (.cells #[.int .u8 v] 5)))
    have HS8 := Lib.hid (Nat.le_trans HB7.out.size hO8.size)
    have HR := Lib.hid (Rd.ofBlk (k := 1) (n := 1) (cs := cellsOf ucell [v]) (Blk.new w8 5 #[.int .u8 v]) rfl)
    clear hT8 hO8
    go_wp2_with (first | ((with_reducible show wpPlan _ _ _ [] _ _ _); refine wpPlan_nil ?_) | ((with_reducible show wpPlan _ _ _ ((_, 0, _) :: _) _ _ _); first | (refine wpPlan_read0 rfl ?hw rfl (fun _ _ _ => ?_); case hw => ((conv => (lhs; whnf)); first | done | with_reducible rfl)) | (refine wpPlan_skip0 rfl ?hw ?_; (case hw => ((conv => (lhs; whnf)); first | done | with_reducible rfl)); (try simp only [List.getElem_toArray, List.getElem_cons_succ, List.getElem_cons_zero, Act.put, List.setIfInBounds_toArray, List.set_cons_zero, List.set_cons_succ]))) | ((with_reducible show wpPlan _ _ _ ((_, 1, _) :: _) _ _ _); first | (refine wpPlan_read1d rfl ?hw rfl rfl (fun _ _ _ => ?_); case hw => ((conv => (lhs; whnf)); first | done | with_reducible rfl)) | (refine wpPlan_skip1d rfl ?hw ?_; (case hw => ((conv => (lhs; whnf)); first | done | with_reducible rfl)); (try simp only [List.getElem_toArray, List.getElem_cons_succ, List.getElem_cons_zero, Act.put, List.setIfInBounds_toArray, List.set_cons_zero, List.set_cons_succ])) | (refine wpPlan_read1 rfl ?hw rfl (fun _ _ _ => ?_); case hw => ((conv => (lhs; whnf)); first | done | with_reducible rfl))) | ((with_reducible show wpPlan _ _ _ ((_, 2, _) :: _) _ _ _); first | (refine wpPlan_eff rfl ?hw (fun _ _ => ?_); case hw => ((conv => (lhs; whnf)); first | done | with_reducible rfl)) | (refine wpPlan_skip2 rfl ?hw ?_; (case hw => ((conv => (lhs; whnf)); first | done | with_reducible rfl)); (try simp only [List.getElem_toArray, List.getElem_cons_succ, List.getElem_cons_zero, Act.put, List.setIfInBounds_toArray, List.set_cons_zero, List.set_cons_succ]))) | ((with_reducible show wpPlan _ _ _ _ _ _ _); refine wpPlan_fork ?_ ?_) | ((with_reducible show Owed _ _ _ [] _ _ _ _ _); refine Owed.none_ ?_) | ((with_reducible show Owed _ _ _ _ [] _ _ _ _); refine Owed.nil_ ?_) | ((with_reducible show Owed _ _ _ _ _ _ _ _ _); first | (refine Owed.miss rfl ?_) | (refine Owed.hit ?_ ?_)) | ((with_reducible show Same _ _ _ _ _); intro _; go_simp; done) | (with_reducible exact True.intro) | ((with_reducible show Code.wp _ (Code.region 8 _ true) _ _ _); refine wp_region_plan [(0, 0, []), (1, 0, []), (2, 1, []), (3, 1, []), (4, 0, []), (5, 2, [2, 3]), (6, 1, []), (7, 1, []), (8, 1, []), (9, 1, []), (10, 2, [])] (by kernel_rfl) (by kernel_rfl) (by kernel_rfl) ?_) | ((with_reducible show Code.wp _ (Code.region 6 _ true) _ _ _); refine wp_region_plan [(0, 0, []), (1, 0, []), (2, 1, []), (3, 0, []), (4, 0, []), (5, 1, []), (6, 1, []), (7, 2, []), (8, 0, [])] (by kernel_rfl) (by kernel_rfl) (by kernel_rfl) ?_))
    go_ret
    exact ⟨⟨_, 1, 1, [v], rfl, HR.out.more (by simp), Nat.le_refl _, by omega, fun y hy => by rw [List.mem_singleton.1 hy]; omega, fun a ha => by cases ha; exact HS8.out⟩, ⟨i + 1, by omega, HZ.out.1⟩, HZ.out.2⟩
  · obtain ⟨g, c7', e7, _, hg7⟩ := HW7.out.form (by omega)
    simp only [Value.slice.injEq, true_and] at e7
    obtain ⟨rfl, rfl⟩ := e7
    have hgw := HF7.out g rfl
    go_wp2_with (first | ((with_reducible show wpPlan _ _ _ [] _ _ _); refine wpPlan_nil ?_) | ((with_reducible show wpPlan _ _ _ ((_, 0, _) :: _) _ _ _); first | (refine wpPlan_read0 rfl ?hw rfl (fun _ _ _ => ?_); case hw => ((conv => (lhs; whnf)); first | done | with_reducible rfl)) | (refine wpPlan_skip0 rfl ?hw ?_; (case hw => ((conv => (lhs; whnf)); first | done | with_reducible rfl)); (try simp only [List.getElem_toArray, List.getElem_cons_succ, List.getElem_cons_zero, Act.put, List.setIfInBounds_toArray, List.set_cons_zero, List.set_cons_succ]))) | ((with_reducible show wpPlan _ _ _ ((_, 1, _) :: _) _ _ _); first | (refine wpPlan_read1d rfl ?hw rfl rfl (fun _ _ _ => ?_); case hw => ((conv => (lhs; whnf)); first | done | with_reducible rfl)) | (refine wpPlan_skip1d rfl ?hw ?_; (case hw => ((conv => (lhs; whnf)); first | done | with_reducible rfl)); (try simp only [List.getElem_toArray, List.getElem_cons_succ, List.getElem_cons_zero, Act.put, List.setIfInBounds_toArray, List.set_cons_zero, List.set_cons_succ])) | (refine wpPlan_read1 rfl ?hw rfl (fun _ _ _ => ?_); case hw => ((conv => (lhs; whnf)); first | done | with_reducible rfl))) | ((with_reducible show wpPlan _ _ _ ((_, 2, _) :: _) _ _ _); first | (refine wpPlan_eff rfl ?hw (fun _ _ => ?_); case hw => ((conv => (lhs; whnf)); first | done | with_reducible rfl)) | (refine wpPlan_skip2 rfl ?hw ?_; (case hw => ((conv => (lhs; whnf)); first | done | with_reducible rfl)); (try simp only [List.getElem_toArray, List.getElem_cons_succ, List.getElem_cons_zero, Act.put, List.setIfInBounds_toArray, List.set_cons_zero, List.set_cons_succ]))) | ((with_reducible show wpPlan _ _ _ _ _ _ _); refine wpPlan_fork ?_ ?_) | ((with_reducible show Owed _ _ _ [] _ _ _ _ _); refine Owed.none_ ?_) | ((with_reducible show Owed _ _ _ _ [] _ _ _ _); refine Owed.nil_ ?_) | ((with_reducible show Owed _ _ _ _ _ _ _ _ _); first | (refine Owed.miss rfl ?_) | (refine Owed.hit ?_ ?_)) | ((with_reducible show Same _ _ _ _ _); intro _; go_simp; done) | (with_reducible exact True.intro) | ((with_reducible show Code.wp _ (Code.region 8 _ true) _ _ _); refine wp_region_plan [(0, 0, []), (1, 0, []), (2, 1, []), (3, 1, []), (4, 0, []), (5, 2, [2, 3]), (6, 1, []), (7, 1, []), (8, 1, []), (9, 1, []), (10, 2, [])] (by kernel_rfl) (by kernel_rfl) (by kernel_rfl) ?_) | ((with_reducible show Code.wp _ (Code.region 6 _ true) _ _ _); refine wp_region_plan [(0, 0, []), (1, 0, []), (2, 1, []), (3, 0, []), (4, 0, []), (5, 1, []), (6, 1, []), (7, 2, []), (8, 0, [])] (by kernel_rfl) (by kernel_rfl) (by kernel_rfl) ?_))
    refine (tnext_any B b A n c i zs nb _ HT7.out hn (by omega) (by omega) (by omega)).mono ?_
    rintro e w8 ⟨⟨r, rfl, hr0, hr1⟩, hT8, hO8⟩
    obtain ⟨x, rfl⟩ : ∃ x : Nat, r = x := ⟨r.toNat, by omega⟩
    have HT8 := Lib.hid hT8
    have HO8 := Lib.hid hO8
    clear hT8 hO8
    go_wp2_with (first | ((with_reducible show wpPlan _ _ _ [] _ _ _); refine wpPlan_nil ?_) | ((with_reducible show wpPlan _ _ _ ((_, 0, _) :: _) _ _ _); first | (refine wpPlan_read0 rfl ?hw rfl (fun _ _ _ => ?_); case hw => ((conv => (lhs; whnf)); first | done | with_reducible rfl)) | (refine wpPlan_skip0 rfl ?hw ?_; (case hw => ((conv => (lhs; whnf)); first | done | with_reducible rfl)); (try simp only [List.getElem_toArray, List.getElem_cons_succ, List.getElem_cons_zero, Act.put, List.setIfInBounds_toArray, List.set_cons_zero, List.set_cons_succ]))) | ((with_reducible show wpPlan _ _ _ ((_, 1, _) :: _) _ _ _); first | (refine wpPlan_read1d rfl ?hw rfl rfl (fun _ _ _ => ?_); case hw => ((conv => (lhs; whnf)); first | done | with_reducible rfl)) | (refine wpPlan_skip1d rfl ?hw ?_; (case hw => ((conv => (lhs; whnf)); first | done | with_reducible rfl)); (try simp only [List.getElem_toArray, List.getElem_cons_succ, List.getElem_cons_zero, Act.put, List.setIfInBounds_toArray, List.set_cons_zero, List.set_cons_succ])) | (refine wpPlan_read1 rfl ?hw rfl (fun _ _ _ => ?_); case hw => ((conv => (lhs; whnf)); first | done | with_reducible rfl))) | ((with_reducible show wpPlan _ _ _ ((_, 2, _) :: _) _ _ _); first | (refine wpPlan_eff rfl ?hw (fun _ _ => ?_); case hw => ((conv => (lhs; whnf)); first | done | with_reducible rfl)) | (refine wpPlan_skip2 rfl ?hw ?_; (case hw => ((conv => (lhs; whnf)); first | done | with_reducible rfl)); (try simp only [List.getElem_toArray, List.getElem_cons_succ, List.getElem_cons_zero, Act.put, List.setIfInBounds_toArray, List.set_cons_zero, List.set_cons_succ]))) | ((with_reducible show wpPlan _ _ _ _ _ _ _); refine wpPlan_fork ?_ ?_) | ((with_reducible show Owed _ _ _ [] _ _ _ _ _); refine Owed.none_ ?_) | ((with_reducible show Owed _ _ _ _ [] _ _ _ _); refine Owed.nil_ ?_) | ((with_reducible show Owed _ _ _ _ _ _ _ _ _); first | (refine Owed.miss rfl ?_) | (refine Owed.hit ?_ ?_)) | ((with_reducible show Same _ _ _ _ _); intro _; go_simp; done) | (with_reducible exact True.intro) | ((with_reducible show Code.wp _ (Code.region 8 _ true) _ _ _); refine wp_region_plan [(0, 0, []), (1, 0, []), (2, 1, []), (3, 1, []), (4, 0, []), (5, 2, [2, 3]), (6, 1, []), (7, 1, []), (8, 1, []), (9, 1, []), (10, 2, [])] (by kernel_rfl) (by kernel_rfl) (by kernel_rfl) ?_) | ((with_reducible show Code.wp _ (Code.region 6 _ true) _ _ _); refine wp_region_plan [(0, 0, []), (1, 0, []), (2, 1, []), (3, 0, []), (4, 0, []), (5, 1, []), (6, 1, []), (7, 2, []), (8, 0, [])] (by kernel_rfl) (by kernel_rfl) (by kernel_rfl) ?_))
    refine (tnext_any B b A n c (i + 1) zs 4 _ HT8.out hn (by omega) (by omega) (by omega)).mono ?_
    rintro e w9 ⟨⟨r, rfl, hr2, hr3⟩, hT9, hO9⟩
    have HT9 := Lib.hid hT9
    have HW9 := Lib.hid (own_out HW7.out (HO8.out.trans hO9) (fun z hz e => by have := HF7.out z hz; omega))
    have HO9 := Lib.hid (((Below.new HB7.out).mono (R' := fun k => k = b) (fun _ _ e => e.elim)).trans (HO8.out.trans hO9))
    have hs9 : g < w9.heap.size := by have := (HO8.out.trans hO9).size; omega
    have hx : x < nb := by omega
    clear hT9 hO9 hr0 hr1
    rcases (by omega : r = 0 ∨ r = 1 ∨ r = 2 ∨ r = 3) with rfl | rfl | rfl | rfl
    · obtain ⟨y, hy⟩ : ∃ y, lb[x]? = some y := ⟨_, List.getElem?_eq_getElem (by rw [HL.out]; exact hx)⟩
      have hy256 := HBY.out y (List.mem_of_getElem? hy)
      have p9c : w9.cell? ⟨g, x, none⟩ = some (.int .u8 (y : Nat)) := by
        rw [HW9.out.cellAt x (by omega), cells_get, hy]
        rfl
      have p9l := hs9
      clear hy
      go_wp2_with (first | ((with_reducible show wpPlan _ _ _ [] _ _ _); refine wpPlan_nil ?_) | ((with_reducible show wpPlan _ _ _ ((_, 0, _) :: _) _ _ _); first | (refine wpPlan_read0 rfl ?hw rfl (fun _ _ _ => ?_); case hw => ((conv => (lhs; whnf)); first | done | with_reducible rfl)) | (refine wpPlan_skip0 rfl ?hw ?_; (case hw => ((conv => (lhs; whnf)); first | done | with_reducible rfl)); (try simp only [List.getElem_toArray, List.getElem_cons_succ, List.getElem_cons_zero, Act.put, List.setIfInBounds_toArray, List.set_cons_zero, List.set_cons_succ]))) | ((with_reducible show wpPlan _ _ _ ((_, 1, _) :: _) _ _ _); first | (refine wpPlan_read1d rfl ?hw rfl rfl (fun _ _ _ => ?_); case hw => ((conv => (lhs; whnf)); first | done | with_reducible rfl)) | (refine wpPlan_skip1d rfl ?hw ?_; (case hw => ((conv => (lhs; whnf)); first | done | with_reducible rfl)); (try simp only [List.getElem_toArray, List.getElem_cons_succ, List.getElem_cons_zero, Act.put, List.setIfInBounds_toArray, List.set_cons_zero, List.set_cons_succ])) | (refine wpPlan_read1 rfl ?hw rfl (fun _ _ _ => ?_); case hw => ((conv => (lhs; whnf)); first | done | with_reducible rfl))) | ((with_reducible show wpPlan _ _ _ ((_, 2, _) :: _) _ _ _); first | (refine wpPlan_eff rfl ?hw (fun _ _ => ?_); case hw => ((conv => (lhs; whnf)); first | done | with_reducible rfl)) | (refine wpPlan_skip2 rfl ?hw ?_; (case hw => ((conv => (lhs; whnf)); first | done | with_reducible rfl)); (try simp only [List.getElem_toArray, List.getElem_cons_succ, List.getElem_cons_zero, Act.put, List.setIfInBounds_toArray, List.set_cons_zero, List.set_cons_succ]))) | ((with_reducible show wpPlan _ _ _ _ _ _ _); refine wpPlan_fork ?_ ?_) | ((with_reducible show Owed _ _ _ [] _ _ _ _ _); refine Owed.none_ ?_) | ((with_reducible show Owed _ _ _ _ [] _ _ _ _); refine Owed.nil_ ?_) | ((with_reducible show Owed _ _ _ _ _ _ _ _ _); first | (refine Owed.miss rfl ?_) | (refine Owed.hit ?_ ?_)) | ((with_reducible show Same _ _ _ _ _); intro _; go_simp; done) | (with_reducible exact True.intro) | ((with_reducible show Code.wp _ (Code.region 8 _ true) _ _ _); refine wp_region_plan [(0, 0, []), (1, 0, []), (2, 1, []), (3, 1, []), (4, 0, []), (5, 2, [2, 3]), (6, 1, []), (7, 1, []), (8, 1, []), (9, 1, []), (10, 2, [])] (by kernel_rfl) (by kernel_rfl) (by kernel_rfl) ?_) | ((with_reducible show Code.wp _ (Code.region 6 _ true) _ _ _); refine wp_region_plan [(0, 0, []), (1, 0, []), (2, 1, []), (3, 0, []), (4, 0, []), (5, 1, []), (6, 1, []), (7, 2, []), (8, 0, [])] (by kernel_rfl) (by kernel_rfl) (by kernel_rfl) ?_))
      refine (tnext_any B b A n c (i + 2) zs 255 _ HT9.out.drew hn (by omega) (by omega) (by omega)).mono ?_
      rintro e w10 ⟨⟨r, rfl, hr0, hr1⟩, hT10, hO10⟩
      obtain ⟨v, rfl⟩ : ∃ v : Nat, r = v := ⟨r.toNat, by omega⟩
      have hO10' : Outside (fun k => k = b) w9 w10 := (Outside.refl _ w9).drew.trans hO10
      have hW10 := own_out HW9.out hO10' (fun z hz e => by have := HF7.out z hz; omega)
      have HW10 := Lib.hid hW10
      have HT10 := Lib.hid hT10
      have HO10 := Lib.hid (HO9.out.trans hO10')
      have p10c : w10.cell? ⟨g, x, none⟩ = some (.int .u8 (y : Nat)) := hO10'.cell p9c (by dsimp only; omega)
      have p10l : g < w10.heap.size := by have := hO10'.size; omega
      have p10f := hW10.frozenAt x
      clear hT10 hO10 hO10' hW10 hr0
      go_wp2_with (first | ((with_reducible show wpPlan _ _ _ [] _ _ _); refine wpPlan_nil ?_) | ((with_reducible show wpPlan _ _ _ ((_, 0, _) :: _) _ _ _); first | (refine wpPlan_read0 rfl ?hw rfl (fun _ _ _ => ?_); case hw => ((conv => (lhs; whnf)); first | done | with_reducible rfl)) | (refine wpPlan_skip0 rfl ?hw ?_; (case hw => ((conv => (lhs; whnf)); first | done | with_reducible rfl)); (try simp only [List.getElem_toArray, List.getElem_cons_succ, List.getElem_cons_zero, Act.put, List.setIfInBounds_toArray, List.set_cons_zero, List.set_cons_succ]))) | ((with_reducible show wpPlan _ _ _ ((_, 1, _) :: _) _ _ _); first | (refine wpPlan_read1d rfl ?hw rfl rfl (fun _ _ _ => ?_); case hw => ((conv => (lhs; whnf)); first | done | with_reducible rfl)) | (refine wpPlan_skip1d rfl ?hw ?_; (case hw => ((conv => (lhs; whnf)); first | done | with_reducible rfl)); (try simp only [List.getElem_toArray, List.getElem_cons_succ, List.getElem_cons_zero, Act.put, List.setIfInBounds_toArray, List.set_cons_zero, List.set_cons_succ])) | (refine wpPlan_read1 rfl ?hw rfl (fun _ _ _ => ?_); case hw => ((conv => (lhs; whnf)); first | done | with_reducible rfl))) | ((with_reducible show wpPlan _ _ _ ((_, 2, _) :: _) _ _ _); first | (refine wpPlan_eff rfl ?hw (fun _ _ => ?_); case hw => ((conv => (lhs; whnf)); first | done | with_reducible rfl)) | (refine wpPlan_skip2 rfl ?hw ?_; (case hw => ((conv => (lhs; whnf)); first | done | with_reducible rfl)); (try simp only [List.getElem_toArray, List.getElem_cons_succ, List.getElem_cons_zero, Act.put, List.setIfInBounds_toArray, List.set_cons_zero, List.set_cons_succ]))) | ((with_reducible show wpPlan _ _ _ _ _ _ _); refine wpPlan_fork ?_ ?_) | ((with_reducible show Owed _ _ _ [] _ _ _ _ _); refine Owed.none_ ?_) | ((with_reducible show Owed _ _ _ _ [] _ _ _ _); refine Owed.nil_ ?_) | ((with_reducible show Owed _ _ _ _ _ _ _ _ _); first | (refine Owed.miss rfl ?_) | (refine Owed.hit ?_ ?_)) | ((with_reducible show Same _ _ _ _ _); intro _; go_simp; done) | (with_reducible exact True.intro) | ((with_reducible show Code.wp _ (Code.region 8 _ true) _ _ _); refine wp_region_plan [(0, 0, []), (1, 0, []), (2, 1, []), (3, 1, []), (4, 0, []), (5, 2, [2, 3]), (6, 1, []), (7, 1, []), (8, 1, []), (9, 1, []), (10, 2, [])] (by kernel_rfl) (by kernel_rfl) (by kernel_rfl) ?_) | ((with_reducible show Code.wp _ (Code.region 6 _ true) _ _ _); refine wp_region_plan [(0, 0, []), (1, 0, []), (2, 1, []), (3, 0, []), (4, 0, []), (5, 1, []), (6, 1, []), (7, 2, []), (8, 0, [])] (by kernel_rfl) (by kernel_rfl) (by kernel_rfl) ?_))
      obtain ⟨cc, hcc, hcc1, _⟩ := xor8 hy256 (show v < 255 by omega)
      rw [hcc]
      have hW11 : (w10.setCell ⟨g, x, none⟩ (.int .u8 cc)).ownsRow 0 5 1 (.slice (some ⟨g, 0, none⟩) nb c7) nb (cellsOf ucell (lb.set x cc)) := by
        rw [← cells_set]
        exact (HW10.out.stored x (.int .u8 cc)).1
      have HR := Lib.hid (Rd.ofOwn hW11)
      have HO11 := Lib.hid ((Outside.refl (fun k => k = g) w10).setCell (p := ⟨g, x, none⟩) (.inl rfl) (.int .u8 cc))
      have hlo := HT10.out.lo
      have HT11 := Lib.hid (HT10.out.out HO11.out (by omega) (fun k hk => by omega))
      have HOZ := Lib.hid (HO10.out.setCell (p := ⟨g, x, none⟩) (.inr hgw) (.int .u8 cc))
      clear hcc hW11
      go_ret
      refine ⟨⟨_, nb, c7, lb.set x cc, rfl, HR.out, hc7, by omega, fun z hz => ?_, fun a ha => by cases ha; exact hgw⟩, ⟨i + 3, Nat.le_refl _, HT11.out⟩, HOZ.out⟩
      rcases List.mem_or_eq_of_mem_set hz with h | h
      · exact HBY.out z h
      · omega
    · have HR := Lib.hid ((Rd.ofOwn HW9.out).utake (i := x) (by omega))
      go_wp2_with (first | ((with_reducible show wpPlan _ _ _ [] _ _ _); refine wpPlan_nil ?_) | ((with_reducible show wpPlan _ _ _ ((_, 0, _) :: _) _ _ _); first | (refine wpPlan_read0 rfl ?hw rfl (fun _ _ _ => ?_); case hw => ((conv => (lhs; whnf)); first | done | with_reducible rfl)) | (refine wpPlan_skip0 rfl ?hw ?_; (case hw => ((conv => (lhs; whnf)); first | done | with_reducible rfl)); (try simp only [List.getElem_toArray, List.getElem_cons_succ, List.getElem_cons_zero, Act.put, List.setIfInBounds_toArray, List.set_cons_zero, List.set_cons_succ]))) | ((with_reducible show wpPlan _ _ _ ((_, 1, _) :: _) _ _ _); first | (refine wpPlan_read1d rfl ?hw rfl rfl (fun _ _ _ => ?_); case hw => ((conv => (lhs; whnf)); first | done | with_reducible rfl)) | (refine wpPlan_skip1d rfl ?hw ?_; (case hw => ((conv => (lhs; whnf)); first | done | with_reducible rfl)); (try simp only [List.getElem_toArray, List.getElem_cons_succ, List.getElem_cons_zero, Act.put, List.setIfInBounds_toArray, List.set_cons_zero, List.set_cons_succ])) | (refine wpPlan_read1 rfl ?hw rfl (fun _ _ _ => ?_); case hw => ((conv => (lhs; whnf)); first | done | with_reducible rfl))) | ((with_reducible show wpPlan _ _ _ ((_, 2, _) :: _) _ _ _); first | (refine wpPlan_eff rfl ?hw (fun _ _ => ?_); case hw => ((conv => (lhs; whnf)); first | done | with_reducible rfl)) | (refine wpPlan_skip2 rfl ?hw ?_; (case hw => ((conv => (lhs; whnf)); first | done | with_reducible rfl)); (try simp only [List.getElem_toArray, List.getElem_cons_succ, List.getElem_cons_zero, Act.put, List.setIfInBounds_toArray, List.set_cons_zero, List.set_cons_succ]))) | ((with_reducible show wpPlan _ _ _ _ _ _ _); refine wpPlan_fork ?_ ?_) | ((with_reducible show Owed _ _ _ [] _ _ _ _ _); refine Owed.none_ ?_) | ((with_reducible show Owed _ _ _ _ [] _ _ _ _); refine Owed.nil_ ?_) | ((with_reducible show Owed _ _ _ _ _ _ _ _ _); first | (refine Owed.miss rfl ?_) | (refine Owed.hit ?_ ?_)) | ((with_reducible show Same _ _ _ _ _); intro _; go_simp; done) | (with_reducible exact True.intro) | ((with_reducible show Code.wp _ (Code.region 8 _ true) _ _ _); refine wp_region_plan [(0, 0, []), (1, 0, []), (2, 1, []), (3, 1, []), (4, 0, []), (5, 2, [2, 3]), (6, 1, []), (7, 1, []), (8, 1, []), (9, 1, []), (10, 2, [])] (by kernel_rfl) (by kernel_rfl) (by kernel_rfl) ?_) | ((with_reducible show Code.wp _ (Code.region 6 _ true) _ _ _); refine wp_region_plan [(0, 0, []), (1, 0, []), (2, 1, []), (3, 0, []), (4, 0, []), (5, 1, []), (6, 1, []), (7, 2, []), (8, 0, [])] (by kernel_rfl) (by kernel_rfl) (by kernel_rfl) ?_))
      go_ret
      exact ⟨⟨_, x, c7, lb.take x, rfl, HR.out, by omega, by omega, fun z hz => HBY.out z (List.mem_of_mem_take hz), fun a ha => by cases ha; exact hgw⟩, ⟨i + 2, by omega, HT9.out⟩, HO9.out⟩
    · go_wp2_with (first | ((with_reducible show wpPlan _ _ _ [] _ _ _); refine wpPlan_nil ?_) | ((with_reducible show wpPlan _ _ _ ((_, 0, _) :: _) _ _ _); first | (refine wpPlan_read0 rfl ?hw rfl (fun _ _ _ => ?_); case hw => ((conv => (lhs; whnf)); first | done | with_reducible rfl)) | (refine wpPlan_skip0 rfl ?hw ?_; (case hw => ((conv => (lhs; whnf)); first | done | with_reducible rfl)); (try simp only [List.getElem_toArray, List.getElem_cons_succ, List.getElem_cons_zero, Act.put, List.setIfInBounds_toArray, List.set_cons_zero, List.set_cons_succ]))) | ((with_reducible show wpPlan _ _ _ ((_, 1, _) :: _) _ _ _); first | (refine wpPlan_read1d rfl ?hw rfl rfl (fun _ _ _ => ?_); case hw => ((conv => (lhs; whnf)); first | done | with_reducible rfl)) | (refine wpPlan_skip1d rfl ?hw ?_; (case hw => ((conv => (lhs; whnf)); first | done | with_reducible rfl)); (try simp only [List.getElem_toArray, List.getElem_cons_succ, List.getElem_cons_zero, Act.put, List.setIfInBounds_toArray, List.set_cons_zero, List.set_cons_succ])) | (refine wpPlan_read1 rfl ?hw rfl (fun _ _ _ => ?_); case hw => ((conv => (lhs; whnf)); first | done | with_reducible rfl))) | ((with_reducible show wpPlan _ _ _ ((_, 2, _) :: _) _ _ _); first | (refine wpPlan_eff rfl ?hw (fun _ _ => ?_); case hw => ((conv => (lhs; whnf)); first | done | with_reducible rfl)) | (refine wpPlan_skip2 rfl ?hw ?_; (case hw => ((conv => (lhs; whnf)); first | done | with_reducible rfl)); (try simp only [List.getElem_toArray, List.getElem_cons_succ, List.getElem_cons_zero, Act.put, List.setIfInBounds_toArray, List.set_cons_zero, List.set_cons_succ]))) | ((with_reducible show wpPlan _ _ _ _ _ _ _); refine wpPlan_fork ?_ ?_) | ((with_reducible show Owed _ _ _ [] _ _ _ _ _); refine Owed.none_ ?_) | ((with_reducible show Owed _ _ _ _ [] _ _ _ _); refine Owed.nil_ ?_) | ((with_reducible show Owed _ _ _ _ _ _ _ _ _); first | (refine Owed.miss rfl ?_) | (refine Owed.hit ?_ ?_)) | ((with_reducible show Same _ _ _ _ _); intro _; go_simp; done) | (with_reducible exact True.intro) | ((with_reducible show Code.wp _ (Code.region 8 _ true) _ _ _); refine wp_region_plan [(0, 0, []), (1, 0, []), (2, 1, []), (3, 1, []), (4, 0, []), (5, 2, [2, 3]), (6, 1, []), (7, 1, []), (8, 1, []), (9, 1, []), (10, 2, [])] (by kernel_rfl) (by kernel_rfl) (by kernel_rfl) ?_) | ((with_reducible show Code.wp _ (Code.region 6 _ true) _ _ _); refine wp_region_plan [(0, 0, []), (1, 0, []), (2, 1, []), (3, 0, []), (4, 0, []), (5, 1, []), (6, 1, []), (7, 2, []), (8, 0, [])] (by kernel_rfl) (by kernel_rfl) (by kernel_rfl) ?_))
      refine (tnext_any B b A n c (i + 2) zs 256 _ HT9.out hn (by omega) (by omega) (by omega)).mono ?_
      rintro e w10 ⟨⟨r, rfl, hr0, hr1⟩, hT10, hO10⟩
      obtain ⟨v, rfl⟩ : ∃ v : Nat, r = v := ⟨r.toNat, by omega⟩
      have HT10 := Lib.hid hT10
      have HW10 := Lib.hid (own_out HW9.out hO10 (fun z hz e => by have := HF7.out z hz; omega))
      have HO10 := Lib.hid (HO9.out.trans hO10)
      have hs10 : g < w10.heap.size := by have := hO10.size; omega
      clear hT10 hO10 hr0
      go_wp2_with (first | ((with_reducible show wpPlan _ _ _ [] _ _ _); refine wpPlan_nil ?_) | ((with_reducible show wpPlan _ _ _ ((_, 0, _) :: _) _ _ _); first | (refine wpPlan_read0 rfl ?hw rfl (fun _ _ _ => ?_); case hw => ((conv => (lhs; whnf)); first | done | with_reducible rfl)) | (refine wpPlan_skip0 rfl ?hw ?_; (case hw => ((conv => (lhs; whnf)); first | done | with_reducible rfl)); (try simp only [List.getElem_toArray, List.getElem_cons_succ, List.getElem_cons_zero, Act.put, List.setIfInBounds_toArray, List.set_cons_zero, List.set_cons_succ]))) | ((with_reducible show wpPlan _ _ _ ((_, 1, _) :: _) _ _ _); first | (refine wpPlan_read1d rfl ?hw rfl rfl (fun _ _ _ => ?_); case hw => ((conv => (lhs; whnf)); first | done | with_reducible rfl)) | (refine wpPlan_skip1d rfl ?hw ?_; (case hw => ((conv => (lhs; whnf)); first | done | with_reducible rfl)); (try simp only [List.getElem_toArray, List.getElem_cons_succ, List.getElem_cons_zero, Act.put, List.setIfInBounds_toArray, List.set_cons_zero, List.set_cons_succ])) | (refine wpPlan_read1 rfl ?hw rfl (fun _ _ _ => ?_); case hw => ((conv => (lhs; whnf)); first | done | with_reducible rfl))) | ((with_reducible show wpPlan _ _ _ ((_, 2, _) :: _) _ _ _); first | (refine wpPlan_eff rfl ?hw (fun _ _ => ?_); case hw => ((conv => (lhs; whnf)); first | done | with_reducible rfl)) | (refine wpPlan_skip2 rfl ?hw ?_; (case hw => ((conv => (lhs; whnf)); first | done | with_reducible rfl)); (try simp only [List.getElem_toArray, List.getElem_cons_succ, List.getElem_cons_zero, Act.put, List.setIfInBounds_toArray, List.set_cons_zero, List.set_cons_succ]))) | ((with_reducible show wpPlan _ _ _ _ _ _ _); refine wpPlan_fork ?_ ?_) | ((with_reducible show Owed _ _ _ [] _ _ _ _ _); refine Owed.none_ ?_) | ((with_reducible show Owed _ _ _ _ [] _ _ _ _); refine Owed.nil_ ?_) | ((with_reducible show Owed _ _ _ _ _ _ _ _ _); first | (refine Owed.miss rfl ?_) | (refine Owed.hit ?_ ?_)) | ((with_reducible show Same _ _ _ _ _); intro _; go_simp; done) | (with_reducible exact True.intro) | ((with_reducible show Code.wp _ (Code.region 8 _ true) _ _ _); refine wp_region_plan [(0, 0, []), (1, 0, []), (2, 1, []), (3, 1, []), (4, 0, []), (5, 2, [2, 3]), (6, 1, []), (7, 1, []), (8, 1, []), (9, 1, []), (10, 2, [])] (by kernel_rfl) (by kernel_rfl) (by kernel_rfl) ?_) | ((with_reducible show Code.wp _ (Code.region 6 _ true) _ _ _); refine wp_region_plan [(0, 0, []), (1, 0, []), (2, 1, []), (3, 0, []), (4, 0, []), (5, 1, []), (6, 1, []), (7, 2, []), (8, 0, [])] (by kernel_rfl) (by kernel_rfl) (by kernel_rfl) ?_) | (at_builtin; refine appList_blk rfl slByte rfl (World.ownsRow.alloc HW10.out _) rfl (news := [.int .u8 v]) ((heap_alloc_at rfl) : Blk _ w10.heap.size _ _) rfl rfl (by simp [Value.oneCell']) (by decide) (by unfold maxLen; omega) (by omega) ?_; intro g8 c8 w8 hown8 hgrow8 hat8; refine Stop7.intro ?_))
      unfold Stop7
      have hO8 : Outside (fun z => (Value.slice (some ⟨g, 0, none⟩) nb c7).ownBlock = some z) w10 w8 := ((Outside.refl (fun z => (Value.slice (some ⟨g, 0, none⟩) nb c7).ownBlock = some z) w10).alloc (.cells #[.int .u8 v] 5)).grown hgrow8 (fun z hz => .inl hz)
      have hg : ∀ z, (Value.slice (some ⟨g, 0, none⟩) nb c7).ownBlock = some z → g = z := fun z hz => by simpa [Value.ownBlock] using hz
      have hO8' : Outside (fun z => z = g) w10 w8 := hO8.mono (fun z _ hz => (hg z hz).symm)
      have hR : Rd w8 w8.heap.size 1 (some ⟨g8, 0, none⟩) (nb + 1) (cellsOf ucell (lb ++ [v])) := by
        rw [cellsOf_append]
        exact Rd.ofOwn hown8
      have hcap : nb + 1 ≤ c8 := by
        obtain ⟨_, c9, e9, h9, _⟩ := own_form hown8
        cases e9
        exact h9
      have hlo := HT10.out.lo
      have HG8 := Lib.hid (show w.heap.size ≤ g8 from by
        rcases hat8 with h | h
        · have := hg g8 h
          omega
        · simp at h
          omega)
      have HZ := Lib.hid (And.intro hR (And.intro (HT10.out.out hO8' (by omega) (fun k hk => by omega)) ((HO10.out.mono (R' := fun k => k = b ∨ w.heap.size ≤ k) (fun _ _ e => .inl e)).trans ((Outside.ofBelow (R := fun k => k = b ∨ w.heap.size ≤ k) (hO8'.below (B := w.heap.size) (by omega) (fun k hk e => by omega)) (fun _ h => .inr h))) |>.mono (fun k hk e => by
        rcases e with e | e
        · exact e
        · omega))))
      clear hown8 hgrow8 hat8 hO8 hg hO8' hR
      go_wp2_with (first | ((with_reducible show wpPlan _ _ _ [] _ _ _); refine wpPlan_nil ?_) | ((with_reducible show wpPlan _ _ _ ((_, 0, _) :: _) _ _ _); first | (refine wpPlan_read0 rfl ?hw rfl (fun _ _ _ => ?_); case hw => ((conv => (lhs; whnf)); first | done | with_reducible rfl)) | (refine wpPlan_skip0 rfl ?hw ?_; (case hw => ((conv => (lhs; whnf)); first | done | with_reducible rfl)); (try simp only [List.getElem_toArray, List.getElem_cons_succ, List.getElem_cons_zero, Act.put, List.setIfInBounds_toArray, List.set_cons_zero, List.set_cons_succ]))) | ((with_reducible show wpPlan _ _ _ ((_, 1, _) :: _) _ _ _); first | (refine wpPlan_read1d rfl ?hw rfl rfl (fun _ _ _ => ?_); case hw => ((conv => (lhs; whnf)); first | done | with_reducible rfl)) | (refine wpPlan_skip1d rfl ?hw ?_; (case hw => ((conv => (lhs; whnf)); first | done | with_reducible rfl)); (try simp only [List.getElem_toArray, List.getElem_cons_succ, List.getElem_cons_zero, Act.put, List.setIfInBounds_toArray, List.set_cons_zero, List.set_cons_succ])) | (refine wpPlan_read1 rfl ?hw rfl (fun _ _ _ => ?_); case hw => ((conv => (lhs; whnf)); first | done | with_reducible rfl))) | ((with_reducible show wpPlan _ _ _ ((_, 2, _) :: _) _ _ _); first | (refine wpPlan_eff rfl ?hw (fun _ _ => ?_); case hw => ((conv => (lhs; whnf)); first | done | with_reducible rfl)) | (refine wpPlan_skip2 rfl ?hw ?_; (case hw => ((conv => (lhs; whnf)); first | done | with_reducible rfl)); (try simp only [List.getElem_toArray, List.getElem_cons_succ, List.getElem_cons_zero, Act.put, List.setIfInBounds_toArray, List.set_cons_zero, List.set_cons_succ]))) | ((with_reducible show wpPlan _ _ _ _ _ _ _); refine wpPlan_fork ?_ ?_) | ((with_reducible show Owed _ _ _ [] _ _ _ _ _); refine Owed.none_ ?_) | ((with_reducible show Owed _ _ _ _ [] _ _ _ _); refine Owed.nil_ ?_) | ((with_reducible show Owed _ _ _ _ _ _ _ _ _); first | (refine Owed.miss rfl ?_) | (refine Owed.hit ?_ ?_)) | ((with_reducible show Same _ _ _ _ _); intro _; go_simp; done) | (with_reducible exact True.intro) | ((with_reducible show Code.wp _ (Code.region 8 _ true) _ _ _); refine wp_region_plan [(0, 0, []), (1, 0, []), (2, 1, []), (3, 1, []), (4, 0, []), (5, 2, [2, 3]), (6, 1, []), (7, 1, []), (8, 1, []), (9, 1, []), (10, 2, [])] (by kernel_rfl) (by kernel_rfl) (by kernel_rfl) ?_) | ((with_reducible show Code.wp _ (Code.region 6 _ true) _ _ _); refine wp_region_plan [(0, 0, []), (1, 0, []), (2, 1, []), (3, 0, []), (4, 0, []), (5, 1, []), (6, 1, []), (7, 2, []), (8, 0, [])] (by kernel_rfl) (by kernel_rfl) (by kernel_rfl) ?_))
      go_ret
      exact ⟨⟨_, nb + 1, c8, lb ++ [v], rfl, HZ.out.1, hcap, by omega, fun z hz => by
        rcases List.mem_append.1 hz with h | h
        · exact HBY.out z h
        · rw [List.mem_singleton.1 h]; omega, fun a ha => by cases ha; exact HG8.out⟩, ⟨i + 3, Nat.le_refl _, HZ.out.2.1⟩, HZ.out.2.2⟩
    · rcases (by omega : x + 1 < c7 ∨ c7 = x + 1) with hcx | hcx
      · have hne : ¬ c7 = x + 1 := by omega
        have HCUT := Lib.hid (show w9.drew.ownsRow 0 5 1 (.slice (some ⟨g, 0, none⟩) x c7) x (cellsOf ucell (lb.take x)) from by
          rw [← cellsOf_utake lb x (by rw [HL.out]; omega)]
          exact (own_cut HW9.out (by omega)).drew)
        have HDR := Lib.hid (show Rd w9.drew w9.heap.size 1 (some ⟨g, x + 1, none⟩) (nb - (x + 1)) (cellsOf ucell (lb.drop (x + 1))) from by
          have h1 := (Rd.ofOwn HW9.out).udrop (i := x + 1) (by omega)
          rw [Nat.zero_add] at h1
          exact h1)
        go_wp2_with (first | ((with_reducible show wpPlan _ _ _ ((7, 2, _) :: _) _ _ _); (refine wpPlan_eff rfl rfl (fun _ hK => ?_); refine app_opt slByte rfl HCUT.out rfl HDR.out (c := c7 - (x + 1)) rfl (ucell_ones _) (by unfold maxLen; omega) (by omega) ?_; intro v8 w8 hown8 hgrow8 hat8; obtain ⟨A8, c8, rfl, hc8, _⟩ := own_form hown8; refine hK _ _ ?_; refine Stop7.intro ?_)) | ((with_reducible show wpPlan _ _ _ [] _ _ _); refine wpPlan_nil ?_) | ((with_reducible show wpPlan _ _ _ ((_, 0, _) :: _) _ _ _); first | (refine wpPlan_read0 rfl ?hw rfl (fun _ _ _ => ?_); case hw => ((conv => (lhs; whnf)); first | done | with_reducible rfl)) | (refine wpPlan_skip0 rfl ?hw ?_; (case hw => ((conv => (lhs; whnf)); first | done | with_reducible rfl)); (try simp only [List.getElem_toArray, List.getElem_cons_succ, List.getElem_cons_zero, Act.put, List.setIfInBounds_toArray, List.set_cons_zero, List.set_cons_succ]))) | ((with_reducible show wpPlan _ _ _ ((_, 1, _) :: _) _ _ _); first | (refine wpPlan_read1d rfl ?hw rfl rfl (fun _ _ _ => ?_); case hw => ((conv => (lhs; whnf)); first | done | with_reducible rfl)) | (refine wpPlan_skip1d rfl ?hw ?_; (case hw => ((conv => (lhs; whnf)); first | done | with_reducible rfl)); (try simp only [List.getElem_toArray, List.getElem_cons_succ, List.getElem_cons_zero, Act.put, List.setIfInBounds_toArray, List.set_cons_zero, List.set_cons_succ])) | (refine wpPlan_read1 rfl ?hw rfl (fun _ _ _ => ?_); case hw => ((conv => (lhs; whnf)); first | done | with_reducible rfl))) | ((with_reducible show wpPlan _ _ _ ((_, 2, _) :: _) _ _ _); first | (refine wpPlan_eff rfl ?hw (fun _ _ => ?_); case hw => ((conv => (lhs; whnf)); first | done | with_reducible rfl)) | (refine wpPlan_skip2 rfl ?hw ?_; (case hw => ((conv => (lhs; whnf)); first | done | with_reducible rfl)); (try simp only [List.getElem_toArray, List.getElem_cons_succ, List.getElem_cons_zero, Act.put, List.setIfInBounds_toArray, List.set_cons_zero, List.set_cons_succ]))) | ((with_reducible show wpPlan _ _ _ _ _ _ _); refine wpPlan_fork ?_ ?_) | ((with_reducible show Owed _ _ _ [] _ _ _ _ _); refine Owed.none_ ?_) | ((with_reducible show Owed _ _ _ _ [] _ _ _ _); refine Owed.nil_ ?_) | ((with_reducible show Owed _ _ _ _ _ _ _ _ _); first | (refine Owed.miss rfl ?_) | (refine Owed.hit ?_ ?_)) | ((with_reducible show Same _ _ _ _ _); intro _; go_simp; done) | (with_reducible exact True.intro) | ((with_reducible show Code.wp _ (Code.region 8 _ true) _ _ _); refine wp_region_plan [(0, 0, []), (1, 0, []), (2, 1, []), (3, 1, []), (4, 0, []), (5, 2, [2, 3]), (6, 1, []), (7, 1, []), (8, 1, []), (9, 1, []), (10, 2, [])] (by kernel_rfl) (by kernel_rfl) (by kernel_rfl) ?_) | ((with_reducible show Code.wp _ (Code.region 6 _ true) _ _ _); refine wp_region_plan [(0, 0, []), (1, 0, []), (2, 1, []), (3, 0, []), (4, 0, []), (5, 1, []), (6, 1, []), (7, 2, []), (8, 0, [])] (by kernel_rfl) (by kernel_rfl) (by kernel_rfl) ?_))
        unfold Stop7
        have hO8 : Outside (fun z => z = g) w9 w8 := (Outside.refl (fun z => z = g) w9).drew.grown hgrow8 (fun z hz => by
          have h1 : g = z := by simpa [Value.ownBlock] using hz
          exact .inl h1.symm)
        have hR : Rd w8 w8.heap.size 1 A8 (x + (nb - (x + 1))) (cellsOf ucell (lb.take x ++ lb.drop (x + 1))) := by
          rw [cellsOf_append]
          exact Rd.ofOwn hown8
        have hlo := HT9.out.lo
        have HG8 := Lib.hid (show ∀ a, A8 = some a → w.heap.size ≤ a.block from fun a ha => by
          subst ha
          rcases hat8 with h | h
          · have h1 : a.block = g := by
              rcases hown8.2 with ⟨e, _⟩ | ⟨g', _, _, e, _⟩
              · cases e
              · cases e
                simpa [Value.ownBlock] using h
            omega
          · have h1 : a.block = w9.heap.size := by
              rcases hown8.2 with ⟨e, _⟩ | ⟨g', _, _, e, _⟩
              · cases e
              · cases e
                simpa [Value.ownBlock] using h
            omega)
        have HZ := Lib.hid (And.intro hR (And.intro (HT9.out.out hO8 (by omega) (fun k hk => by omega)) ((HO9.out.mono (R' := fun k => k = b ∨ w.heap.size ≤ k) (fun _ _ e => .inl e)).trans ((Outside.ofBelow (R := fun k => k = b ∨ w.heap.size ≤ k) (hO8.below (B := w.heap.size) (by omega) (fun k hk e => by omega)) (fun _ h => .inr h))) |>.mono (fun k hk e => by
          rcases e with e | e
          · exact e
          · omega))))
        clear hown8 hgrow8 hat8 hO8 hR
        go_wp2_with (first | ((with_reducible show wpPlan _ _ _ [] _ _ _); refine wpPlan_nil ?_) | ((with_reducible show wpPlan _ _ _ ((_, 0, _) :: _) _ _ _); first | (refine wpPlan_read0 rfl ?hw rfl (fun _ _ _ => ?_); case hw => ((conv => (lhs; whnf)); first | done | with_reducible rfl)) | (refine wpPlan_skip0 rfl ?hw ?_; (case hw => ((conv => (lhs; whnf)); first | done | with_reducible rfl)); (try simp only [List.getElem_toArray, List.getElem_cons_succ, List.getElem_cons_zero, Act.put, List.setIfInBounds_toArray, List.set_cons_zero, List.set_cons_succ]))) | ((with_reducible show wpPlan _ _ _ ((_, 1, _) :: _) _ _ _); first | (refine wpPlan_read1d rfl ?hw rfl rfl (fun _ _ _ => ?_); case hw => ((conv => (lhs; whnf)); first | done | with_reducible rfl)) | (refine wpPlan_skip1d rfl ?hw ?_; (case hw => ((conv => (lhs; whnf)); first | done | with_reducible rfl)); (try simp only [List.getElem_toArray, List.getElem_cons_succ, List.getElem_cons_zero, Act.put, List.setIfInBounds_toArray, List.set_cons_zero, List.set_cons_succ])) | (refine wpPlan_read1 rfl ?hw rfl (fun _ _ _ => ?_); case hw => ((conv => (lhs; whnf)); first | done | with_reducible rfl))) | ((with_reducible show wpPlan _ _ _ ((_, 2, _) :: _) _ _ _); first | (refine wpPlan_eff rfl ?hw (fun _ _ => ?_); case hw => ((conv => (lhs; whnf)); first | done | with_reducible rfl)) | (refine wpPlan_skip2 rfl ?hw ?_; (case hw => ((conv => (lhs; whnf)); first | done | with_reducible rfl)); (try simp only [List.getElem_toArray, List.getElem_cons_succ, List.getElem_cons_zero, Act.put, List.setIfInBounds_toArray, List.set_cons_zero, List.set_cons_succ]))) | ((with_reducible show wpPlan _ _ _ _ _ _ _); refine wpPlan_fork ?_ ?_) | ((with_reducible show Owed _ _ _ [] _ _ _ _ _); refine Owed.none_ ?_) | ((with_reducible show Owed _ _ _ _ [] _ _ _ _); refine Owed.nil_ ?_) | ((with_reducible show Owed _ _ _ _ _ _ _ _ _); first | (refine Owed.miss rfl ?_) | (refine Owed.hit ?_ ?_)) | ((with_reducible show Same _ _ _ _ _); intro _; go_simp; done) | (with_reducible exact True.intro) | ((with_reducible show Code.wp _ (Code.region 8 _ true) _ _ _); refine wp_region_plan [(0, 0, []), (1, 0, []), (2, 1, []), (3, 1, []), (4, 0, []), (5, 2, [2, 3]), (6, 1, []), (7, 1, []), (8, 1, []), (9, 1, []), (10, 2, [])] (by kernel_rfl) (by kernel_rfl) (by kernel_rfl) ?_) | ((with_reducible show Code.wp _ (Code.region 6 _ true) _ _ _); refine wp_region_plan [(0, 0, []), (1, 0, []), (2, 1, []), (3, 0, []), (4, 0, []), (5, 1, []), (6, 1, []), (7, 2, []), (8, 0, [])] (by kernel_rfl) (by kernel_rfl) (by kernel_rfl) ?_))
        go_ret
        exact ⟨⟨_, _, c8, _, rfl, HZ.out.1, hc8, by omega, fun z hz => by
          rcases List.mem_append.1 hz with h | h
          · exact HBY.out z (List.mem_of_mem_take h)
          · exact HBY.out z (List.mem_of_mem_drop h), HG8.out⟩, ⟨i + 2, by omega, HZ.out.2.1⟩, HZ.out.2.2⟩
      · obtain rfl : nb = x + 1 := by omega
        subst hcx
        have HR := Lib.hid ((Rd.ofOwn HW9.out).utake (i := x) (by omega))
        go_wp2_with (first | ((with_reducible show wpPlan _ _ _ [] _ _ _); refine wpPlan_nil ?_) | ((with_reducible show wpPlan _ _ _ ((_, 0, _) :: _) _ _ _); first | (refine wpPlan_read0 rfl ?hw rfl (fun _ _ _ => ?_); case hw => ((conv => (lhs; whnf)); first | done | with_reducible rfl)) | (refine wpPlan_skip0 rfl ?hw ?_; (case hw => ((conv => (lhs; whnf)); first | done | with_reducible rfl)); (try simp only [List.getElem_toArray, List.getElem_cons_succ, List.getElem_cons_zero, Act.put, List.setIfInBounds_toArray, List.set_cons_zero, List.set_cons_succ]))) | ((with_reducible show wpPlan _ _ _ ((_, 1, _) :: _) _ _ _); first | (refine wpPlan_read1d rfl ?hw rfl rfl (fun _ _ _ => ?_); case hw => ((conv => (lhs; whnf)); first | done | with_reducible rfl)) | (refine wpPlan_skip1d rfl ?hw ?_; (case hw => ((conv => (lhs; whnf)); first | done | with_reducible rfl)); (try simp only [List.getElem_toArray, List.getElem_cons_succ, List.getElem_cons_zero, Act.put, List.setIfInBounds_toArray, List.set_cons_zero, List.set_cons_succ])) | (refine wpPlan_read1 rfl ?hw rfl (fun _ _ _ => ?_); case hw => ((conv => (lhs; whnf)); first | done | with_reducible rfl))) | ((with_reducible show wpPlan _ _ _ ((_, 2, _) :: _) _ _ _); first | (refine wpPlan_eff rfl ?hw (fun _ _ => ?_); case hw => ((conv => (lhs; whnf)); first | done | with_reducible rfl)) | (refine wpPlan_skip2 rfl ?hw ?_; (case hw => ((conv => (lhs; whnf)); first | done | with_reducible rfl)); (try simp only [List.getElem_toArray, List.getElem_cons_succ, List.getElem_cons_zero, Act.put, List.setIfInBounds_toArray, List.set_cons_zero, List.set_cons_succ]))) | ((with_reducible show wpPlan _ _ _ _ _ _ _); refine wpPlan_fork ?_ ?_) | ((with_reducible show Owed _ _ _ [] _ _ _ _ _); refine Owed.none_ ?_) | ((with_reducible show Owed _ _ _ _ [] _ _ _ _); refine Owed.nil_ ?_) | ((with_reducible show Owed _ _ _ _ _ _ _ _ _); first | (refine Owed.miss rfl ?_) | (refine Owed.hit ?_ ?_)) | ((with_reducible show Same _ _ _ _ _); intro _; go_simp; done) | (with_reducible exact True.intro) | ((with_reducible show Code.wp _ (Code.region 8 _ true) _ _ _); refine wp_region_plan [(0, 0, []), (1, 0, []), (2, 1, []), (3, 1, []), (4, 0, []), (5, 2, [2, 3]), (6, 1, []), (7, 1, []), (8, 1, []), (9, 1, []), (10, 2, [])] (by kernel_rfl) (by kernel_rfl) (by kernel_rfl) ?_) | ((with_reducible show Code.wp _ (Code.region 6 _ true) _ _ _); refine wp_region_plan [(0, 0, []), (1, 0, []), (2, 1, []), (3, 0, []), (4, 0, []), (5, 1, []), (6, 1, []), (7, 2, []), (8, 0, [])] (by kernel_rfl) (by kernel_rfl) (by kernel_rfl) ?_))
        go_ret
        exact ⟨⟨_, x, x + 1, lb.take x, rfl, HR.out, by omega, by omega, fun z hz => HBY.out z (List.mem_of_mem_take hz), fun a ha => by cases ha; exact hgw⟩, ⟨i + 2, by omega, HT9.out.drew⟩, HO9.out.drew⟩

end Go.Proofs.Ytonpdclccgpceaa
