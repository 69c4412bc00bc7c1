/- readers of packed bytes: the program's Byte, Uvarint, Zigzag; readers of packed bytes: the program's Zigzag; rows are read: plain laws -/
import Derived.Test.YtonpdclccgpceaaRwB
import Derived.Deep.DeepCutAuto
import Derived.Test.YtonpdclccgpceaaRwR
namespace Go.Proofs.Ytonpdclccgpceaa
open Go Go.RowKit
set_option maxHeartbeats 4000000

/-- a reader: it stands behind 'p' bytes of l -/
structure RdrAt (w : World) (B g : Nat) (A : Option Addr) (n c : Nat) (l : List Nat) (p : Nat) (bad : Bool) : Prop where
  blk : Blk w g 66 #[.slice A n c, .int .i64 p, .bool bad]
  rd : Rd w B 1 A n (cellsOf ucell l)
  lo : B ≤ g
  le : p ≤ n
  byte : ∀ b ∈ l, b < 256
section
variable {w w' : World} {B g n c p : Nat} {A : Option Addr} {l : List Nat} {bad : Bool} {R : Nat → Prop}
theorem RdrAt.out (h : RdrAt w B g A n c l p bad) (hO : Outside R w w') (hR : ¬ R g) (hB : ∀ k, k < B → ¬ R k) : RdrAt w' B g A n c l p bad :=
  ⟨h.blk.out hO hR, h.rd.keep (fun q hq => by
    have := h.blk.lt
    have := h.lo
    exact (hO.below (B := B) (by omega) hB).cell hq), h.lo, h.le, h.byte⟩
theorem RdrAt.below (h : RdrAt w B g A n c l p bad) (hb : Below w.heap.size w w') : RdrAt w' B g A n c l p bad :=
  h.out (Below.new hb) (fun h => h) (fun _ _ h => h)
theorem RdrAt.alloc (h : RdrAt w B g A n c l p bad) (o : Obj) : RdrAt (w.alloc o) B g A n c l p bad := h.below ((Below.refl _ _).alloc (Nat.le_refl _) _)
theorem RdrAt.drew (h : RdrAt w B g A n c l p bad) : RdrAt w.drew B g A n c l p bad := h.below (Below.refl _ _).drew
theorem RdrAt.len (h : RdrAt w B g A n c l p bad) : l.length = n := h.rd.len ucell_len (by decide)
theorem RdrAt.step {p' : Nat} {bad' : Bool} (h : RdrAt w B g A n c l p bad) (hb : Blk w' g 66 #[.slice A n c, .int .i64 p', .bool bad']) (hO : Outside (fun k => k = g) w w') (hp : p' ≤ n) : RdrAt w' B g A n c l p' bad' :=
  ⟨hb, h.rd.keep (fun q hq => by
    have := h.blk.lt
    have := h.lo
    exact (hO.below (B := B) (by omega) (fun k hk e => by omega)).cell hq), h.lo, hp, h.byte⟩
theorem RdrAt.put1 (h : RdrAt w B g A n c l p bad) {p' : Nat} (hp : p' ≤ n) (x : Int) (hx : x = p') : RdrAt (w.setCell ⟨g, 1, none⟩ (.int .i64 x)) B g A n c l p' bad := by
  subst hx
  exact h.step (by simpa using h.blk.put 1 (.int .i64 p')) ((Outside.refl (fun k => k = g) _).setCell (p := ⟨g, 1, none⟩) (.inl rfl) _) hp
theorem RdrAt.put2 (h : RdrAt w B g A n c l p bad) (bad' : Bool) : RdrAt (w.setCell ⟨g, 2, none⟩ (.bool bad')) B g A n c l p bad' :=
  h.step (by simpa using h.blk.put 2 (.bool bad')) ((Outside.refl (fun k => k = g) _).setCell (p := ⟨g, 2, none⟩) (.inl rfl) _) h.le
end

set_option maxRecDepth 100000 in
theorem rleft_any (B g : Nat) (A : Option Addr) (n c p : Nat) (l : List Nat) (bad : Bool) (w : World) (h : RdrAt w B g A n c l p bad) (hn : n ≤ 1000000000) :
    Calls Try.prog 80 #[.pointer (some ⟨g, 0, none⟩)] w fun e w' => e = .returned (.int .i64 ((n : Int) - p)) ∧ w' = w.drew := by
  have hc := h.blk.cell
  have hl := h.blk.lt
  have hp := h.le
  clear h
  go_enter Try.func80, Try.ntmps80
  go_wp2_with (first | ((with_reducible show wpPlan _ _ _ [] _ _ _); refine wpPlan_nil ?_) | ((with_reducible show wpPlan _ _ _ ((_, 0, _) :: _) _ _ _); first | (refine wpPlan_read0 rfl ?hw rfl (fun _ _ _ => ?_); case hw => ((conv => (lhs; whnf)); first | done | with_reducible rfl)) | (refine wpPlan_skip0 rfl ?hw ?_; (case hw => ((conv => (lhs; whnf)); first | done | with_reducible rfl)); (try simp only [List.getElem_toArray, List.getElem_cons_succ, List.getElem_cons_zero, Act.put, List.setIfInBounds_toArray, List.set_cons_zero, List.set_cons_succ]))) | ((with_reducible show wpPlan _ _ _ ((_, 1, _) :: _) _ _ _); first | (refine wpPlan_read1d rfl ?hw rfl rfl (fun _ _ _ => ?_); case hw => ((conv => (lhs; whnf)); first | done | with_reducible rfl)) | (refine wpPlan_skip1d rfl ?hw ?_; (case hw => ((conv => (lhs; whnf)); first | done | with_reducible rfl)); (try simp only [List.getElem_toArray, List.getElem_cons_succ, List.getElem_cons_zero, Act.put, List.setIfInBounds_toArray, List.set_cons_zero, List.set_cons_succ])) | (refine wpPlan_read1 rfl ?hw rfl (fun _ _ _ => ?_); case hw => ((conv => (lhs; whnf)); first | done | with_reducible rfl))) | ((with_reducible show wpPlan _ _ _ ((_, 2, _) :: _) _ _ _); first | (refine wpPlan_eff rfl ?hw (fun _ _ => ?_); case hw => ((conv => (lhs; whnf)); first | done | with_reducible rfl)) | (refine wpPlan_skip2 rfl ?hw ?_; (case hw => ((conv => (lhs; whnf)); first | done | with_reducible rfl)); (try simp only [List.getElem_toArray, List.getElem_cons_succ, List.getElem_cons_zero, Act.put, List.setIfInBounds_toArray, List.set_cons_zero, List.set_cons_succ]))) | ((with_reducible show wpPlan _ _ _ _ _ _ _); refine wpPlan_fork ?_ ?_) | ((with_reducible show Owed _ _ _ [] _ _ _ _ _); refine Owed.none_ ?_) | ((with_reducible show Owed _ _ _ _ [] _ _ _ _); refine Owed.nil_ ?_) | ((with_reducible show Owed _ _ _ _ _ _ _ _ _); first | (refine Owed.miss rfl ?_) | (refine Owed.hit ?_ ?_)) | ((with_reducible show Same _ _ _ _ _); intro _; go_simp; done) | (with_reducible exact True.intro) | ((with_reducible show Code.wp _ (Code.region 1 _ true) _ _ _); refine wp_region_plan [(0, 0, []), (1, 1, []), (2, 1, []), (3, 1, []), (4, 1, []), (5, 0, []), (6, 1, []), (7, 1, []), (8, 1, []), (9, 1, []), (10, 0, [])] (by kernel_rfl) (by kernel_rfl) (by kernel_rfl) ?_))
  go_ret
  exact ⟨by go_num, rfl⟩

/-- what Byte gives -/
def BytePost (w : World) (B g : Nat) (A : Option Addr) (n c : Nat) (l : List Nat) (p : Nat) (bad : Bool) (e : Ending) (w' : World) : Prop :=
  ∃ (x p' : Nat) (bad' : Bool), e = .returned (.int .u8 x) ∧ x < 256 ∧ RdrAt w' B g A n c l p' bad' ∧ Outside (fun k => k = g) w w' ∧
    (bad = true ∨ n ≤ p → bad' = true ∧ x = 0 ∧ p' = p) ∧ (bad = false → p < n → bad' = false ∧ l[p]? = some x ∧ p' = p + 1)
set_option maxRecDepth 100000 in
theorem rbyte_any (B g : Nat) (A : Option Addr) (n c p : Nat) (l : List Nat) (bad : Bool) (w : World) (h : RdrAt w B g A n c l p bad) (hn : n ≤ 1000000000) :
    Calls Try.prog 69 #[.pointer (some ⟨g, 0, none⟩)] w (BytePost w B g A n c l p bad) := by
  have H := Lib.hid h
  have hc := h.blk.cell
  have hl := h.blk.lt
  have hf := h.blk.frozen
  have hp := h.le
  clear h
  go_enter Try.func69, Try.ntmps69
  cases bad
  · go_wp2_with fail
    refine (rleft_any B g A n c p l false _ H.out hn).mono ?_
    rintro e w1 ⟨rfl, rfl⟩
    by_cases hlt : p < n
    · obtain ⟨b, o, t, rfl, hb, hlt2, hcell⟩ := H.out.rd.ubyte hlt
      have hb256 := H.out.byte t (List.mem_of_getElem? hlt2)
      have H1 := Lib.hid (H.out.put1 (p' := p + 1) (by omega) ((p : Int) + 1) (by omega))
      have hO1 := Lib.hid ((Outside.refl (fun k => k = g) w).setCell (p := ⟨g, 1, none⟩) (.inl rfl) (.int .i64 ((p : Int) + 1)))
      have h1c := H1.out.blk.cell
      have h1l := H1.out.blk.lt
      have hne : b ≠ g := by have := H.out.lo; omega
      have hcell1 := (hO1.out.cell (p := ⟨b, o + p, none⟩) hcell hne)
      have HT := Lib.hid hlt2
      clear hcell hlt2
      go_wp2_with (first | ((with_reducible show wpPlan _ _ _ [] _ _ _); refine wpPlan_nil ?_) | ((with_reducible show wpPlan _ _ _ ((_, 0, _) :: _) _ _ _); first | (refine wpPlan_read0 rfl ?hw rfl (fun _ _ _ => ?_); case hw => ((conv => (lhs; whnf)); first | done | with_reducible rfl)) | (refine wpPlan_skip0 rfl ?hw ?_; (case hw => ((conv => (lhs; whnf)); first | done | with_reducible rfl)); (try simp only [List.getElem_toArray, List.getElem_cons_succ, List.getElem_cons_zero, Act.put, List.setIfInBounds_toArray, List.set_cons_zero, List.set_cons_succ]))) | ((with_reducible show wpPlan _ _ _ ((_, 1, _) :: _) _ _ _); first | (refine wpPlan_read1d rfl ?hw rfl rfl (fun _ _ _ => ?_); case hw => ((conv => (lhs; whnf)); first | done | with_reducible rfl)) | (refine wpPlan_skip1d rfl ?hw ?_; (case hw => ((conv => (lhs; whnf)); first | done | with_reducible rfl)); (try simp only [List.getElem_toArray, List.getElem_cons_succ, List.getElem_cons_zero, Act.put, List.setIfInBounds_toArray, List.set_cons_zero, List.set_cons_succ])) | (refine wpPlan_read1 rfl ?hw rfl (fun _ _ _ => ?_); case hw => ((conv => (lhs; whnf)); first | done | with_reducible rfl))) | ((with_reducible show wpPlan _ _ _ ((_, 2, _) :: _) _ _ _); first | (refine wpPlan_eff rfl ?hw (fun _ _ => ?_); case hw => ((conv => (lhs; whnf)); first | done | with_reducible rfl)) | (refine wpPlan_skip2 rfl ?hw ?_; (case hw => ((conv => (lhs; whnf)); first | done | with_reducible rfl)); (try simp only [List.getElem_toArray, List.getElem_cons_succ, List.getElem_cons_zero, Act.put, List.setIfInBounds_toArray, List.set_cons_zero, List.set_cons_succ]))) | ((with_reducible show wpPlan _ _ _ _ _ _ _); refine wpPlan_fork ?_ ?_) | ((with_reducible show Owed _ _ _ [] _ _ _ _ _); refine Owed.none_ ?_) | ((with_reducible show Owed _ _ _ _ [] _ _ _ _); refine Owed.nil_ ?_) | ((with_reducible show Owed _ _ _ _ _ _ _ _ _); first | (refine Owed.miss rfl ?_) | (refine Owed.hit ?_ ?_)) | ((with_reducible show Same _ _ _ _ _); intro _; go_simp; done) | (with_reducible exact True.intro) | ((with_reducible show Code.wp _ (Code.region 5 _ true) _ _ _); refine wp_region_plan [(0, 0, []), (1, 1, []), (2, 1, []), (3, 1, []), (4, 0, []), (5, 1, []), (6, 1, []), (7, 1, []), (8, 1, []), (9, 1, []), (10, 1, []), (11, 0, [])] (by kernel_rfl) (by kernel_rfl) (by kernel_rfl) ?_))
      go_ret
      exact ⟨t, p + 1, false, rfl, hb256, H1.out.drew.drew, hO1.out.drew.drew, fun h => absurd h (by simp; omega), fun _ _ => ⟨rfl, HT.out, rfl⟩⟩
    · have H1 := Lib.hid (H.out.put2 true)
      have hO1 := Lib.hid ((Outside.refl (fun k => k = g) w).setCell (p := ⟨g, 2, none⟩) (.inl rfl) (.bool true))
      go_wp2_with (first | ((with_reducible show wpPlan _ _ _ [] _ _ _); refine wpPlan_nil ?_) | ((with_reducible show wpPlan _ _ _ ((_, 0, _) :: _) _ _ _); first | (refine wpPlan_read0 rfl ?hw rfl (fun _ _ _ => ?_); case hw => ((conv => (lhs; whnf)); first | done | with_reducible rfl)) | (refine wpPlan_skip0 rfl ?hw ?_; (case hw => ((conv => (lhs; whnf)); first | done | with_reducible rfl)); (try simp only [List.getElem_toArray, List.getElem_cons_succ, List.getElem_cons_zero, Act.put, List.setIfInBounds_toArray, List.set_cons_zero, List.set_cons_succ]))) | ((with_reducible show wpPlan _ _ _ ((_, 1, _) :: _) _ _ _); first | (refine wpPlan_read1d rfl ?hw rfl rfl (fun _ _ _ => ?_); case hw => ((conv => (lhs; whnf)); first | done | with_reducible rfl)) | (refine wpPlan_skip1d rfl ?hw ?_; (case hw => ((conv => (lhs; whnf)); first | done | with_reducible rfl)); (try simp only [List.getElem_toArray, List.getElem_cons_succ, List.getElem_cons_zero, Act.put, List.setIfInBounds_toArray, List.set_cons_zero, List.set_cons_succ])) | (refine wpPlan_read1 rfl ?hw rfl (fun _ _ _ => ?_); case hw => ((conv => (lhs; whnf)); first | done | with_reducible rfl))) | ((with_reducible show wpPlan _ _ _ ((_, 2, _) :: _) _ _ _); first | (refine wpPlan_eff rfl ?hw (fun _ _ => ?_); case hw => ((conv => (lhs; whnf)); first | done | with_reducible rfl)) | (refine wpPlan_skip2 rfl ?hw ?_; (case hw => ((conv => (lhs; whnf)); first | done | with_reducible rfl)); (try simp only [List.getElem_toArray, List.getElem_cons_succ, List.getElem_cons_zero, Act.put, List.setIfInBounds_toArray, List.set_cons_zero, List.set_cons_succ]))) | ((with_reducible show wpPlan _ _ _ _ _ _ _); refine wpPlan_fork ?_ ?_) | ((with_reducible show Owed _ _ _ [] _ _ _ _ _); refine Owed.none_ ?_) | ((with_reducible show Owed _ _ _ _ [] _ _ _ _); refine Owed.nil_ ?_) | ((with_reducible show Owed _ _ _ _ _ _ _ _ _); first | (refine Owed.miss rfl ?_) | (refine Owed.hit ?_ ?_)) | ((with_reducible show Same _ _ _ _ _); intro _; go_simp; done) | (with_reducible exact True.intro) | ((with_reducible show Code.wp _ (Code.region 5 _ true) _ _ _); refine wp_region_plan [(0, 0, []), (1, 1, []), (2, 1, []), (3, 1, []), (4, 0, []), (5, 1, []), (6, 1, []), (7, 1, []), (8, 1, []), (9, 1, []), (10, 1, []), (11, 0, [])] (by kernel_rfl) (by kernel_rfl) (by kernel_rfl) ?_))
      go_ret
      exact ⟨0, p, true, rfl, by decide, H1.out.drew, hO1.out.drew, fun _ => ⟨rfl, rfl, rfl⟩, fun _ h => absurd h hlt⟩
  · have H1 := Lib.hid (H.out.put2 true)
    have hO1 := Lib.hid ((Outside.refl (fun k => k = g) w).setCell (p := ⟨g, 2, none⟩) (.inl rfl) (.bool true))
    go_wp2_with (first | ((with_reducible show wpPlan _ _ _ [] _ _ _); refine wpPlan_nil ?_) | ((with_reducible show wpPlan _ _ _ ((_, 0, _) :: _) _ _ _); first | (refine wpPlan_read0 rfl ?hw rfl (fun _ _ _ => ?_); case hw => ((conv => (lhs; whnf)); first | done | with_reducible rfl)) | (refine wpPlan_skip0 rfl ?hw ?_; (case hw => ((conv => (lhs; whnf)); first | done | with_reducible rfl)); (try simp only [List.getElem_toArray, List.getElem_cons_succ, List.getElem_cons_zero, Act.put, List.setIfInBounds_toArray, List.set_cons_zero, List.set_cons_succ]))) | ((with_reducible show wpPlan _ _ _ ((_, 1, _) :: _) _ _ _); first | (refine wpPlan_read1d rfl ?hw rfl rfl (fun _ _ _ => ?_); case hw => ((conv => (lhs; whnf)); first | done | with_reducible rfl)) | (refine wpPlan_skip1d rfl ?hw ?_; (case hw => ((conv => (lhs; whnf)); first | done | with_reducible rfl)); (try simp only [List.getElem_toArray, List.getElem_cons_succ, List.getElem_cons_zero, Act.put, List.setIfInBounds_toArray, List.set_cons_zero, List.set_cons_succ])) | (refine wpPlan_read1 rfl ?hw rfl (fun _ _ _ => ?_); case hw => ((conv => (lhs; whnf)); first | done | with_reducible rfl))) | ((with_reducible show wpPlan _ _ _ ((_, 2, _) :: _) _ _ _); first | (refine wpPlan_eff rfl ?hw (fun _ _ => ?_); case hw => ((conv => (lhs; whnf)); first | done | with_reducible rfl)) | (refine wpPlan_skip2 rfl ?hw ?_; (case hw => ((conv => (lhs; whnf)); first | done | with_reducible rfl)); (try simp only [List.getElem_toArray, List.getElem_cons_succ, List.getElem_cons_zero, Act.put, List.setIfInBounds_toArray, List.set_cons_zero, List.set_cons_succ]))) | ((with_reducible show wpPlan _ _ _ _ _ _ _); refine wpPlan_fork ?_ ?_) | ((with_reducible show Owed _ _ _ [] _ _ _ _ _); refine Owed.none_ ?_) | ((with_reducible show Owed _ _ _ _ [] _ _ _ _); refine Owed.nil_ ?_) | ((with_reducible show Owed _ _ _ _ _ _ _ _ _); first | (refine Owed.miss rfl ?_) | (refine Owed.hit ?_ ?_)) | ((with_reducible show Same _ _ _ _ _); intro _; go_simp; done) | (with_reducible exact True.intro) | ((with_reducible show Code.wp _ (Code.region 5 _ true) _ _ _); refine wp_region_plan [(0, 0, []), (1, 1, []), (2, 1, []), (3, 1, []), (4, 0, []), (5, 1, []), (6, 1, []), (7, 1, []), (8, 1, []), (9, 1, []), (10, 1, []), (11, 0, [])] (by kernel_rfl) (by kernel_rfl) (by kernel_rfl) ?_))
    go_ret
    exact ⟨0, p, true, rfl, by decide, H1.out, hO1.out, fun _ => ⟨rfl, rfl, rfl⟩, fun h => by cases h⟩

theorem uv_ne (k : Nat) : ∃ x r, uv k = x :: r := by
  by_cases h : k < 128
  · exact ⟨_, _, uv_small h⟩
  · exact ⟨_, _, uv_big h⟩
theorem drop_get {l : List Nat} {p x : Nat} {r : List Nat} (h : l.drop p = x :: r) : l[p]? = some x ∧ l.drop (p + 1) = r := by
  refine ⟨?_, ?_⟩
  · have := congrArg (·[0]?) h
    simpa using this
  · rw [← List.drop_drop, h]
    rfl
theorem wrap64_id {z : Int} (h : 0 ≤ z ∧ z < 9223372036854775808) : wrap64 z = z := by unfold wrap64; omega
theorem uv_head {m q x : Nat} {rest l : List Nat} (h : l.drop q = uv m ++ rest) (hx : l[q]? = some x) :
    (x < 128 → m = x ∧ (uv m).length = 1 ∧ l.drop (q + 1) = rest) ∧ (128 ≤ x → m % 128 + 128 = x ∧ l.drop (q + 1) = uv (m / 128) ++ rest ∧ (uv m).length = 1 + (uv (m / 128)).length ∧ 128 ≤ m) := by
  by_cases hm : m < 128
  · rw [uv_small hm] at h
    obtain ⟨h1, h2⟩ := drop_get (r := rest) h
    rw [hx] at h1
    cases h1
    exact ⟨fun _ => ⟨rfl, by rw [uv_small hm]; rfl, h2⟩, fun h => by omega⟩
  · rw [uv_big hm] at h
    obtain ⟨h1, h2⟩ := drop_get (r := uv (m / 128) ++ rest) h
    rw [hx] at h1
    cases h1
    exact ⟨fun h => by omega, fun _ => ⟨rfl, h2, by rw [uv_big hm, List.length_cons]; omega, by omega⟩⟩
theorem and127b (m : Nat) (hm : m < 256) : bits .and .u8 m 127 = ((m % 128 : Nat) : Int) := by
  have h : (m &&& 127 : Nat) = m % 128 := Nat.and_two_pow_sub_one_eq_mod m 7
  have h3 : (2 : Nat) ^ IntKind.u8.bits = 256 := by decide
  unfold bits
  simp
  rw [h3, show (127 : Nat) % 256 = 127 by decide, show m % 256 = m by omega, h]
  show (((m % 128 : Nat) : Int)) % 256 = _
  omega
theorem or_add (a b i : Nat) (h : a < 2 ^ i) : a ||| b * 2 ^ i = a + b * 2 ^ i := by
  have := Nat.two_pow_add_eq_or_of_lt h b
  rw [Nat.mul_comm, Nat.or_comm, ← this, Nat.add_comm]
theorem orN (a b : Nat) (ha : a < 4611686018427387904) (hb : b < 4611686018427387904) (hab : (a ||| b : Nat) < 4611686018427387904) : bits .or .i64 a b = ((a ||| b : Nat) : Int) := by
  have h3 : (2 : Nat) ^ IntKind.i64.bits = 18446744073709551616 := by decide
  unfold bits
  simp
  rw [h3, show a % 18446744073709551616 = a by omega, show b % 18446744073709551616 = b by omega, IntKind.wrap_i64]
  omega
theorem pow_le (k : Nat) (hk : k < 6) : (128 : Nat) ^ k ≤ 34359738368 := Nat.le_trans (Nat.pow_le_pow_right (by decide) (show k ≤ 5 by omega)) (by decide)
theorem dig_lt (x k : Nat) (_hk : k < 6) : x % 128 * 128 ^ k + 128 ^ k ≤ 128 ^ (k + 1) := by
  have h1 : x % 128 + 1 ≤ 128 := by omega
  have h2 := Nat.mul_le_mul_right (128 ^ k) h1
  rw [Nat.add_mul, Nat.one_mul] at h2
  rw [Nat.pow_succ, Nat.mul_comm (128 ^ k) 128]
  exact h2
/-- the value behind one byte more -/
theorem uv_val (acc x k : Nat) (hx : x < 256) (hk : k < 6) (ha : acc < 128 ^ k) :
    bits .or .i64 (acc : Int) (wrap64 (wrap64 (bits .and .u8 (x : Int) 127) * 2 ^ (7 * k))) = ((acc + x % 128 * 128 ^ k : Nat) : Int) := by
  have e2 : (2 : Nat) ^ (7 * k) = 128 ^ k := by rw [Nat.pow_mul]
  have h1 := pow_le k hk
  have h2 : x % 128 * 128 ^ k ≤ 127 * 34359738368 := Nat.mul_le_mul (by omega) h1
  have e3 : ((2 : Int) ^ (7 * k)) = ((128 ^ k : Nat) : Int) := by rw [← e2]; simp
  rw [and127b x hx, wrap64_id (z := ((x % 128 : Nat) : Int)) (by omega), e3, ← Int.natCast_mul, wrap64_id (by omega)]
  have h3 := or_add acc (x % 128) (7 * k) (by rw [e2]; exact ha)
  rw [e2] at h3
  rw [orN _ _ (by omega) (by omega) (by rw [h3]; omega), h3]
/-- what Uvarint gives -/
def UvPost (w : World) (B g : Nat) (A : Option Addr) (n c : Nat) (l : List Nat) (p : Nat) (bad : Bool) (most : Nat) (e : Ending) (w' : World) : Prop :=
  ∃ (v p' : Nat) (bad' : Bool), e = .returned (.int .i64 v) ∧ v ≤ most ∧ RdrAt w' B g A n c l p' bad' ∧ Outside (fun k => k = g) w w' ∧ p ≤ p' ∧ (bad = true → bad' = true) ∧ (bad' = true → v = 0) ∧
    (∀ k rest, bad = false → l.drop p = uv k ++ rest → k ≤ most → v = k ∧ p' = p + (uv k).length ∧ bad' = false)
set_option maxRecDepth 100000 in
theorem ruv_any (B g : Nat) (A : Option Addr) (n c p : Nat) (l : List Nat) (bad : Bool) (most : Nat) (w : World) (h : RdrAt w B g A n c l p bad) (hn : n ≤ 1000000000) (hm : most ≤ 1000000000) :
    Calls Try.prog 70 #[.pointer (some ⟨g, 0, none⟩), .int .i64 most] w (UvPost w B g A n c l p bad most) := by
  have H := Lib.hid h
  clear h
  go_enter Try.func70, Try.ntmps70
  go_wp2
  go_loopw [5, 6] (fun va vk wr => ∃ (k acc q : Nat) (bk : Bool), k ≤ 6 ∧ vk = .int .i64 k ∧ va = .int .i64 acc ∧ p ≤ q ∧ acc < 4398046511104 ∧ (0 < k → bk = false ∧ bad = false) ∧ (k = 0 → acc = 0 ∧ q = p ∧ bk = bad) ∧
    Hid (RdrAt wr B g A n c l q bk ∧ Outside (fun k => k = g) w wr ∧ acc < 128 ^ k ∧ ∀ m rest, l.drop p = uv m ++ rest → m ≤ most → ∃ m', l.drop q = uv m' ++ rest ∧ m = acc + m' * 128 ^ k ∧ p + (uv m).length = q + (uv m').length ∧ (k = 0 ∨ 0 < m'))) (fun _ vk _ => 6 - (intOf vk).toNat)
  case atStart => exact ⟨0, 0, p, bad, by decide, rfl, rfl, Nat.le_refl _, by decide, fun h => absurd h (by decide), fun _ => ⟨rfl, rfl, rfl⟩, Lib.hid ⟨H.out, Outside.refl _ _, by decide, fun m rest h1 _ => ⟨m, h1, by omega, rfl, .inl rfl⟩⟩⟩
  case round =>
    obtain ⟨k, acc, q, bk, hk, rfl, rfl, hpq, hacc, hbk, hk0, HW⟩ := hrel
    by_cases hlt : k < 6
    · go_wp2_with fail
      refine (rbyte_any B g A n c q l bk _ HW.out.1 hn).mono ?_
      rintro e w1 ⟨x, p1, b1, rfl, hx, hR1, hO1, hbad1, hgood1⟩
      have h1c := hR1.blk.cell
      have h1l := hR1.blk.lt
      have h1f := hR1.blk.frozen
      have HR1 := Lib.hid hR1
      have HO1 := Lib.hid (HW.out.2.1.trans hO1)
      clear hR1 hO1
      cases b1
      · have hbf : bk = false := by
          cases bk
          · rfl
          · exact absurd (hbad1 (.inl rfl)).1 (by decide)
        have hqn : q < n := Nat.lt_of_not_le fun h => absurd (hbad1 (.inr h)).1 (by decide)
        obtain ⟨_, hxq, rfl⟩ := hgood1 hbf hqn
        have hbf2 : bad = false := by
          rcases Nat.eq_zero_or_pos k with h | h
          · rw [← (hk0 h).2.2]; exact hbf
          · exact (hbk h).2
        have hV := uv_val acc x k hx hlt HW.out.2.2.1
        have hdl := dig_lt x k hlt
        have hpl := pow_le k hlt
        have ha0 := HW.out.2.2.1
        have hp1 : 128 ^ (k + 1) ≤ 4398046511104 := Nat.le_trans (Nat.pow_le_pow_right (by decide) (show k + 1 ≤ 6 by omega)) (by decide)
        have ha1 : acc + x % 128 * 128 ^ k < 128 ^ (k + 1) := by omega
        obtain ⟨a1, hae⟩ : ∃ a1, acc + x % 128 * 128 ^ k = a1 := ⟨_, rfl⟩
        rw [hae] at hV ha1
        have HA1 := Lib.hid ha1
        have hlt1 : a1 < 4398046511104 := by omega
        have HAE := Lib.hid hae
        have HXQ := Lib.hid hxq
        have HF := Lib.hid hbf2
        clear hbad1 hgood1 hdl hpl hp1 ha0 ha1 hae hxq hbk hk0 hbf hbf2
        go_upto_region 9 with (fail)
        clear hV
        by_cases hx128 : x < 128
        · have HEX := Lib.hid (show ∀ m rest, l.drop p = uv m ++ rest → m ≤ most → a1 = m ∧ q + 1 = p + (uv m).length ∧ (0 < k → 0 < x) from fun m rest h1 h2 => by
            obtain ⟨m', h3, h4, h5, h6⟩ := HW.out.2.2.2 m rest h1 h2
            obtain ⟨h7, h8, _⟩ := (uv_head h3 HXQ.out).1 hx128
            subst h7
            have h9 : m' % 128 = m' := by omega
            have h10 := HAE.out
            rw [h9] at h10
            exact ⟨by omega, by omega, fun h => by omega⟩)
          have HB := Lib.hid (HR1.out.put2 true)
          have HO2 := Lib.hid (HO1.out.setCell (p := ⟨g, 2, none⟩) (.inl rfl) (.bool true))
          rcases (by omega : k < 1 ∨ 0 < k) with hk1 | hk1
          · go_wp2_with fail
            · go_ret
              exact ⟨a1, q + 1, false, rfl, by assumption, HR1.out, HO1.out, by omega, fun h => absurd (HF.out.symm.trans h) (by decide), fun h => absurd h (by decide), fun m rest _ h1 h2 => ⟨(HEX.out m rest h1 h2).1, (HEX.out m rest h1 h2).2.1, rfl⟩⟩
            · go_ret
              exact ⟨0, q + 1, true, rfl, Nat.zero_le _, HB.out, HO2.out, by omega, fun _ => rfl, fun _ => rfl, fun m rest _ h1 h2 => absurd (HEX.out m rest h1 h2).1 (by omega)⟩
          · go_wp2_with fail
            · rename_i _ hor
              have hx0 : x = 0 := by
                rcases hor with h | h
                · omega
                · have : (x : Int) = 0 := by simpa using h
                  omega
              go_ret
              exact ⟨0, q + 1, true, rfl, Nat.zero_le _, HB.out, HO2.out, by omega, fun _ => rfl, fun _ => rfl, fun m rest _ h1 h2 => absurd ((HEX.out m rest h1 h2).2.2 hk1) (by omega)⟩
            · go_ret
              exact ⟨a1, q + 1, false, rfl, by assumption, HR1.out, HO1.out, by omega, fun h => absurd (HF.out.symm.trans h) (by decide), fun h => absurd h (by decide), fun m rest _ h1 h2 => ⟨(HEX.out m rest h1 h2).1, (HEX.out m rest h1 h2).2.1, rfl⟩⟩
            · go_ret
              exact ⟨0, q + 1, true, rfl, Nat.zero_le _, HB.out, HO2.out, by omega, fun _ => rfl, fun _ => rfl, fun m rest _ h1 h2 => absurd (HEX.out m rest h1 h2).1 (by omega)⟩
        · have HEX := Lib.hid (show ∀ m rest, l.drop p = uv m ++ rest → m ≤ most → ∃ m', l.drop (q + 1) = uv m' ++ rest ∧ m = a1 + m' * 128 ^ (k + 1) ∧ p + (uv m).length = q + 1 + (uv m').length ∧ (k + 1 = 0 ∨ 0 < m') from fun m rest h1 h2 => by
            obtain ⟨m', h3, h4, h5, h6⟩ := HW.out.2.2.2 m rest h1 h2
            obtain ⟨h7, h8, h9, h10⟩ := (uv_head h3 HXQ.out).2 (by omega)
            refine ⟨m' / 128, h8, ?_, by omega, .inr (by omega)⟩
            have e1 : x % 128 = m' % 128 := by omega
            have e2 : m' = m' % 128 + m' / 128 * 128 := by omega
            have h11 := HAE.out
            rw [e1] at h11
            rw [h4, Nat.pow_succ, ← h11, Nat.mul_comm (128 ^ k) 128, ← Nat.mul_assoc, Nat.add_assoc, ← Nat.add_mul, ← e2])
          go_wp2_with fail
          go_roundw
          case rel => exact ⟨k + 1, a1, q + 1, false, by omega, by go_num, rfl, by omega, hlt1, fun _ => ⟨rfl, HF.out⟩, fun h => by omega, Lib.hid ⟨HR1.out, HO1.out, HA1.out, HEX.out⟩⟩
          case measure => simp [intOf]; omega
      · have HEX := Lib.hid (show ∀ m rest, bad = false → l.drop p = uv m ++ rest → m ≤ most → False from fun m rest h0 h1 h2 => by
          obtain ⟨m', h3, _⟩ := HW.out.2.2.2 m rest h1 h2
          obtain ⟨y, r, h4⟩ := uv_ne m'
          have h5 := h3
          rw [h4] at h5
          have h6 := (drop_get (r := r ++ rest) h5).1
          have h7 : q < n := by rw [← HW.out.1.len]; exact (List.getElem?_eq_some_iff.1 h6).1
          have h8 : bk = false := by
            rcases Nat.eq_zero_or_pos k with h | h
            · rw [(hk0 h).2.2]; exact h0
            · exact (hbk h).1
          exact absurd (hgood1 h8 h7).1 (by decide))
        have hp1 : q ≤ p1 := by
          by_cases h : bk = true ∨ n ≤ q
          · rw [(hbad1 h).2.2]; exact Nat.le_refl _
          · rw [(hgood1 (by cases bk <;> simp_all) (by omega)).2.2]; omega
        clear hbad1 hgood1 hbk hk0
        go_wp2_with fail
        go_ret
        exact ⟨0, p1, true, rfl, Nat.zero_le _, HR1.out, HO1.out, by omega, fun _ => rfl, fun _ => rfl, fun m rest h0 h1 h2 => (HEX.out m rest h0 h1 h2).elim⟩
    · have hk6 : k = 6 := by omega
      subst hk6
      have h1c := HW.out.1.blk.cell
      have h1l := HW.out.1.blk.lt
      have h1f := HW.out.1.blk.frozen
      have HB := Lib.hid (HW.out.1.put2 true)
      have HO2 := Lib.hid (HW.out.2.1.setCell (p := ⟨g, 2, none⟩) (.inl rfl) (.bool true))
      have HEX := Lib.hid (show ∀ m rest, l.drop p = uv m ++ rest → m ≤ most → False from fun m rest h1 h2 => by
        obtain ⟨m', _, h4, _, h6⟩ := HW.out.2.2.2 m rest h1 h2
        have e6 : (128 : Nat) ^ 6 = 4398046511104 := by decide
        rw [e6] at h4
        omega)
      clear hbk hk0
      go_wp2_with fail
      go_ret
      exact ⟨0, q, true, rfl, Nat.zero_le _, HB.out, HO2.out, hpq, fun _ => rfl, fun _ => rfl, fun m rest _ h1 h2 => (HEX.out m rest h1 h2).elim⟩

end Go.Proofs.Ytonpdclccgpceaa
namespace Go.Proofs.Ytonpdclccgpceaa
open Go Go.RowKit
set_option maxHeartbeats 4000000

/-- what Zigzag gives -/
def ZzPost (w : World) (B g : Nat) (A : Option Addr) (n c : Nat) (l : List Nat) (p : Nat) (bad : Bool) (most : Nat) (e : Ending) (w' : World) : Prop :=
  ∃ (v : Int) (p' : Nat) (bad' : Bool), e = .returned (.int .i64 v) ∧ -(most : Int) ≤ v ∧ v ≤ most ∧ RdrAt w' B g A n c l p' bad' ∧ Outside (fun k => k = g) w w' ∧ p ≤ p' ∧ (bad = true → bad' = true) ∧
    (∀ (k : Int) rest, bad = false → l.drop p = zz k ++ rest → -(most : Int) ≤ k → k ≤ most → v = k ∧ p' = p + (zz k).length ∧ bad' = false)
set_option maxRecDepth 100000 in
theorem rzz_any (B g : Nat) (A : Option Addr) (n c p : Nat) (l : List Nat) (bad : Bool) (most : Nat) (w : World) (h : RdrAt w B g A n c l p bad) (hn : n ≤ 1000000000) (hm : most ≤ 100000000) :
    Calls Try.prog 71 #[.pointer (some ⟨g, 0, none⟩), .int .i64 most] w (ZzPost w B g A n c l p bad most) := by
  have H := Lib.hid h
  clear h
  go_enter Try.func71, Try.ntmps71
  go_wp2_with fail
  refine (ruv_any B g A n c p l bad (2 * most) w H.out hn (by omega)).mono ?_
  rintro e w1 ⟨v, p1, b1, rfl, hv, hR1, hO1, hp1, hb1, _, hex⟩
  have HR := Lib.hid hR1
  have HO := Lib.hid hO1
  have HB := Lib.hid hb1
  have HEX := Lib.hid (show ∀ (k : Int) rest, bad = false → l.drop p = zz k ++ rest → -(most : Int) ≤ k → k ≤ most → (k < 0 ∧ (v : Int) = -2 * k - 1 ∨ 0 ≤ k ∧ (v : Int) = 2 * k) ∧ p1 = p + (zz k).length ∧ b1 = false from fun k rest h0 h1 h2 h3 => by
    unfold zz at h1 ⊢
    by_cases hk : k < 0
    · rw [if_pos hk] at h1 ⊢
      obtain ⟨e1, e2, e3⟩ := hex _ rest h0 h1 (by omega)
      exact ⟨.inl ⟨hk, by omega⟩, e2, e3⟩
    · rw [if_neg hk] at h1 ⊢
      obtain ⟨e1, e2, e3⟩ := hex _ rest h0 h1 (by omega)
      exact ⟨.inr ⟨by omega, by omega⟩, e2, e3⟩)
  clear hR1 hO1 hb1 hex
  rcases (by omega : v % 2 = 1 ∨ v % 2 = 0) with h2 | h2
  · obtain ⟨u, rfl⟩ : ∃ u, v = 2 * u + 1 := ⟨v / 2, by omega⟩
    clear h2
    have hV : wrap64 (-(2 * (u : Int) + 1 + 1).tdiv 2) = -((u : Int) + 1) := by
      rw [Int.tdiv_eq_ediv_of_nonneg (by omega)]
      unfold wrap64
      omega
    go_wp2_with fail
    all_goals (go_ret; exact ⟨-((u : Int) + 1), p1, b1, by go_num, by omega, by omega, HR.out, HO.out, hp1, HB.out, fun k rest h0 h1 h2 h3 => by
      obtain ⟨e1, e2, e3⟩ := HEX.out k rest h0 h1 h2 h3
      exact ⟨by omega, e2, e3⟩⟩)
  · obtain ⟨u, rfl⟩ : ∃ u, v = 2 * u := ⟨v / 2, by omega⟩
    clear h2
    go_wp2_with fail
    all_goals (go_ret; exact ⟨(u : Int), p1, b1, by go_num, by omega, by omega, HR.out, HO.out, hp1, HB.out, fun k rest h0 h1 h2 h3 => by
      obtain ⟨e1, e2, e3⟩ := HEX.out k rest h0 h1 h2 h3
      exact ⟨by omega, e2, e3⟩⟩)

end Go.Proofs.Ytonpdclccgpceaa
namespace Go.Proofs.Ytonpdclccgpceaa
open Go Go.RowKit
set_option maxHeartbeats 4000000

theorem drop_app {l a t : List Nat} {p : Nat} (h : l.drop p = a ++ t) : l.drop (p + a.length) = t := by
  rw [← List.drop_drop, h]
  simp
def prevA (r : List Arc) (k : Nat) : Option Arc := if k = 0 then none else r[k - 1]?
/-- the bytes at p are the row r of state s, then the rest -/
structure RowG (bad : Bool) (l : List Nat) (p : Nat) (s : Int) (n : Nat) (r : List Arc) (rest : List Nat) : Prop where
  good : bad = false
  at_ : l.drop p = rowF s r ++ rest
  ok : ∀ a ∈ r, 0 ≤ a.ev ∧ a.ev ≤ 1025 ∧ 0 ≤ a.to ∧ a.to < n
  asc : ascB r = true
  few : r.length ≤ 262144
theorem row_step {s : Int} {n k q : Nat} {r : List Arc} {l rest : List Nat} {le lt : Int} (hk : k < r.length) (hok : ∀ a ∈ r, 0 ≤ a.ev ∧ a.ev ≤ 1025 ∧ 0 ≤ a.to ∧ a.to < n) (hasc : ascB r = true) (hs : 0 ≤ s ∧ s ≤ n)
    (h : l.drop q = rowB s (prevA r k) (r.drop k) ++ rest) (h0 : k = 0 → le = 0) (h1 : 0 < k → r[k - 1]? = some ⟨le, lt⟩) :
    ∃ (a : Arc) (st : Nat) (body : List Nat), r[k]? = some a ∧ l.drop q = uv st ++ (body ++ (rowB s (prevA r (k + 1)) (r.drop (k + 1)) ++ rest)) ∧ (st : Int) = a.ev - le ∧ st ≤ 1025 ∧
      (rowB s (prevA r k) (r.drop k)).length = (uv st).length + body.length + (rowB s (prevA r (k + 1)) (r.drop (k + 1))).length ∧
      (0 < k → st = 0 → ∃ d : Nat, body = uv d ∧ a.to = lt + 1 + d ∧ d ≤ n) ∧ (k = 0 ∨ 0 < st → body = zz (a.to - s) ∧ -(n : Int) ≤ a.to - s ∧ a.to - s ≤ n) := by
  have hg : r[k]? = some r[k] := List.getElem?_eq_getElem hk
  obtain ⟨a, ha⟩ : ∃ a, r[k] = a := ⟨_, rfl⟩
  rw [ha] at hg
  obtain ⟨k1, k2, k3, k4⟩ := hok a (List.mem_of_getElem? hg)
  have hd : r.drop k = a :: r.drop (k + 1) := by rw [List.drop_eq_getElem_cons hk, ha]
  have hp : prevA r (k + 1) = some a := by simp only [prevA, Nat.succ_ne_zero, if_false, Nat.add_sub_cancel]; exact hg
  rw [hd, rowB_cons] at h ⊢
  rw [hp]
  by_cases hz : k = 0
  · have e0 : prevA r k = none := by rw [prevA, if_pos hz]
    have e1 := h0 hz
    subst e1
    rw [e0] at h ⊢
    refine ⟨a, a.ev.toNat, zz (a.to - s), hg, ?_, by omega, by omega, ?_, fun h => by omega, fun _ => ⟨rfl, by omega, by omega⟩⟩
    · rw [h, oneB]; simp only [List.append_assoc]
    · rw [oneB]; simp only [List.length_append]
  · have hq := h1 (by omega)
    obtain ⟨j1, j2, j3, j4⟩ := hok _ (List.mem_of_getElem? hq)
    dsimp only at j1 j2 j3 j4
    have hl := asc_at hasc (by omega) hq hg
    dsimp only at hl
    have e0 : prevA r k = some ⟨le, lt⟩ := by rw [prevA, if_neg hz]; exact hq
    rw [e0] at h ⊢
    by_cases he : a.ev = le
    · rw [oneB, if_pos he] at h ⊢
      refine ⟨a, 0, uv (a.to - lt - 1).toNat, hg, ?_, by omega, by omega, ?_, fun _ _ => ⟨_, rfl, by omega, by omega⟩, fun h => by omega⟩
      · rw [h]; simp only [List.append_assoc]
      · simp only [List.length_append]
    · rw [oneB, if_neg he] at h ⊢
      refine ⟨a, (a.ev - le).toNat, zz (a.to - s), hg, ?_, by omega, by omega, ?_, fun _ h => by omega, fun _ => ⟨rfl, by omega, by omega⟩⟩
      · rw [h]; simp only [List.append_assoc]
      · simp only [List.length_append]
/-- the first number of a row -/
theorem row_first {bad : Bool} {l rest : List Nat} {p n : Nat} {s : Int} {r : List Arc} (h : RowG bad l p s n r rest) : l.drop p = uv r.length ++ (rowB s (prevA r 0) (r.drop 0) ++ rest) := by
  rw [h.at_, rowF]
  simp [prevA, List.append_assoc]

end Go.Proofs.Ytonpdclccgpceaa
