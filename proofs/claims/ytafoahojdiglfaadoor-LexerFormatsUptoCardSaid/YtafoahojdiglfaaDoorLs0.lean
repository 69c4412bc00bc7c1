/- the program's scanner: white space -/
import Derived.Test.YtafoahojdiglfaaDoorLs1
import Derived.Lib.Strings
import Derived.Lib.Slices
import Derived.Lib.Walk
import Derived.Lib.Bytealg
import Derived.Scope
namespace Go.Proofs.YtafoahojdiglfaaDoor
open Go Go.RowKit
set_option maxHeartbeats 40000000

theorem sp_small (k : Nat) (h : k < 128) : decide (0 ≤ Lib.indexByte [32, 9, 13, 10] (UInt8.ofNat k)) = isSp (UInt8.ofNat k) := by
  have : ∀ k < 128, decide (0 ≤ Lib.indexByte [32, 9, 13, 10] (UInt8.ofNat k)) = isSp (UInt8.ofNat k) := by decide +kernel
  exact this k h
theorem sp_big (k : Nat) (h : 128 ≤ k) (h2 : k < 256) : isSp (UInt8.ofNat k) = false := by
  have : ∀ k < 256, 128 ≤ k → isSp (UInt8.ofNat k) = false := by decide +kernel
  exact this k h2 h

theorem enc_big (k : Nat) (h : 128 ≤ k) (h2 : k < 256) : ∃ x y : UInt8, Utf8.encode k = ⟨#[x, y]⟩ ∧ 128 ≤ y.toNat := by
  have : ∀ k < 256, 128 ≤ k → Utf8.encode (k : Nat) = ⟨#[UInt8.ofNat (192 + k / 64), UInt8.ofNat (128 + k % 64)]⟩ ∧ 128 ≤ (UInt8.ofNat (128 + k % 64)).toNat := by decide +kernel
  exact ⟨_, _, this k h2 h⟩

set_option maxRecDepth 1000000 in
theorem rune_any (c : UInt8) (w : World) : Calls Tryd.prog 53 #[.string ⟨#[32, 9, 13, 10]⟩, .int .i32 c.toNat] w fun e w' => e = .returned (.bool (isSp c)) ∧ Below w.heap.size w w' := by
  have hc : c.toNat < 256 := c.toNat_lt
  have hcc : UInt8.ofNat c.toNat = c := UInt8.ofNat_toNat
  by_cases h : c.toNat < 128
  · have HS := Lib.hid (sp_small c.toNat h)
    replace HS := HS.out
    rw [hcc] at HS
    have HS := Lib.hid HS
    clear hcc
    obtain ⟨k, hk⟩ : ∃ k, c.toNat = k := ⟨_, rfl⟩
    rw [hk] at h hc ⊢
    have HK := Lib.hid hk
    clear hk
    go_enter Tryd.func53, Tryd.ntmps53
    go_wp2_with (first | (go_at_call 55; refine (sidx_any _ _ _).mono ?_; rintro e w' ⟨rfl, rfl⟩) | go_in)
    go_ret
    refine ⟨ret_bool ?_, Below.refl _ _⟩
    rw [← HS.out, ← HK.out, UInt8.ofNat_toNat]
  · have HS := Lib.hid (sp_big c.toNat (by omega) hc)
    replace HS := HS.out
    rw [hcc] at HS
    have HS := Lib.hid HS
    clear hcc
    obtain ⟨k, hk⟩ : ∃ k, c.toNat = k := ⟨_, rfl⟩
    rw [hk] at h hc ⊢
    have HK := Lib.hid hk
    clear hk
    go_enter Tryd.func53, Tryd.ntmps53
    obtain ⟨x, y, he, hy⟩ := enc_big k (by omega) hc
    go_wp2_with (first | go_in)
    refine wp_scope_straight ?_
    go_wp2_with (first | (go_at_call 55; refine (sidx_any _ _ _).mono ?_; rintro e w' ⟨rfl, rfl⟩) | go_in)
    have hnone : ∀ z : UInt8, z = y → ∀ l : List UInt8, (∀ x ∈ l, x.toNat < 128) → Lib.indexByte l ((z.toNat : Int).toNat.toUInt8) = -1 := by
      rintro z rfl
      have e : ((z.toNat : Int).toNat.toUInt8) = z := UInt8.ofNat_toNat
      rw [e]
      intro l
      induction l with
      | nil => intro _; rfl
      | cons a l ih =>
        intro h
        have h1 : ¬ a = z := by
          rintro rfl
          have := h a List.mem_cons_self
          omega
        have h2 := ih (fun x hx => h x (List.mem_cons_of_mem _ hx))
        simp [Lib.indexByte, h1, h2]
    have hy9 : ((((⟨#[32, 9, 13, 10]⟩ : ByteArray)[1]'(by decide)).toNat : Int) != (((⟨#[x, y]⟩ : ByteArray)[1]'(by show 1 < 2; decide)).toNat : Int)) = true := by
      show ((9 : Int) != (y.toNat : Int)) = true
      rw [bne, beq_eq_false_iff_ne.2 (by omega)]
      rfl
    refine wp_loop_rounds 1 ?_
    rw [rounds_succ]
    go_wp2_with (first | (go_at_call 55; refine (sidx_any _ _ _).mono ?_; rw [hnone ((⟨#[x, y]⟩ : ByteArray)[1]'(by show 1 < 2; decide)) rfl _ (by decide)]; rintro e w' ⟨rfl, rfl⟩) | (refine wp_scope_straight ?_) | ((with_reducible show wpPlan _ _ _ [] _ _ _); refine wpPlan_nil ?_) | ((with_reducible show wpPlan _ _ _ ((_, 0, _) :: _) _ _ _); first | (refine wpPlan_read0 rfl ?hw rfl (fun _ _ _ => ?_); case hw => ((conv => (lhs; whnf)); first | done | with_reducible rfl)) | (refine wpPlan_skip0 rfl ?hw ?_; (case hw => ((conv => (lhs; whnf)); first | done | with_reducible rfl)); (try simp only [List.getElem_toArray, List.getElem_cons_succ, List.getElem_cons_zero, Act.put, List.setIfInBounds_toArray, List.set_cons_zero, List.set_cons_succ]))) | ((with_reducible show wpPlan _ _ _ ((_, 1, _) :: _) _ _ _); first | (refine wpPlan_read1d rfl ?hw rfl rfl (fun _ _ _ => ?_); case hw => ((conv => (lhs; whnf)); first | done | with_reducible rfl)) | (refine wpPlan_skip1d rfl ?hw ?_; (case hw => ((conv => (lhs; whnf)); first | done | with_reducible rfl)); (try simp only [List.getElem_toArray, List.getElem_cons_succ, List.getElem_cons_zero, Act.put, List.setIfInBounds_toArray, List.set_cons_zero, List.set_cons_succ])) | (refine wpPlan_read1 rfl ?hw rfl (fun _ _ _ => ?_); case hw => ((conv => (lhs; whnf)); first | done | with_reducible rfl))) | ((with_reducible show wpPlan _ _ _ ((_, 2, _) :: _) _ _ _); first | (refine wpPlan_eff rfl ?hw (fun _ _ => ?_); case hw => ((conv => (lhs; whnf)); first | done | with_reducible rfl)) | (refine wpPlan_skip2 rfl ?hw ?_; (case hw => ((conv => (lhs; whnf)); first | done | with_reducible rfl)); (try simp only [List.getElem_toArray, List.getElem_cons_succ, List.getElem_cons_zero, Act.put, List.setIfInBounds_toArray, List.set_cons_zero, List.set_cons_succ]))) | ((with_reducible show wpPlan _ _ _ _ _ _ _); refine wpPlan_fork ?_ ?_) | ((with_reducible show Owed _ _ _ [] _ _ _ _ _); refine Owed.none_ ?_) | ((with_reducible show Owed _ _ _ _ [] _ _ _ _); refine Owed.nil_ ?_) | ((with_reducible show Owed _ _ _ _ _ _ _ _ _); first | (refine Owed.miss rfl ?_) | (refine Owed.hit ?_ ?_)) | ((with_reducible show Same _ _ _ _ _); intro _; go_simp; done) | (with_reducible exact True.intro) | ((with_reducible show Code.wp _ (Code.region 6 _ true) _ _ _); refine wp_region_plan [(0, 0, []), (1, 0, []), (2, 1, []), (3, 0, []), (4, 0, []), (5, 1, []), (6, 1, [])] (by kernel_rfl) (by kernel_rfl) (by kernel_rfl) ?_) | ((with_reducible show Code.wp _ (Code.region 7 _ true) _ _ _); refine wp_region_plan [(0, 0, []), (1, 0, []), (2, 1, []), (3, 1, []), (4, 0, []), (5, 0, []), (6, 1, []), (7, 2, []), (8, 0, [])] (by kernel_rfl) (by kernel_rfl) (by kernel_rfl) ?_) | ((with_reducible show Code.wp _ (Code.region 14 _ true) _ _ _); refine wp_region_plan [(0, 0, []), (1, 0, []), (2, 0, []), (3, 1, []), (4, 1, []), (5, 0, []), (6, 0, []), (7, 0, []), (8, 1, []), (9, 1, []), (10, 1, [])] (by kernel_rfl) (by kernel_rfl) (by kernel_rfl) ?_) | ((with_reducible show Code.wp _ (Code.region 31 _ true) _ _ _); refine wp_region_plan [(0, 0, []), (1, 0, []), (2, 0, []), (3, 1, []), (4, 1, []), (5, 0, []), (6, 0, []), (7, 0, []), (8, 1, []), (9, 1, []), (10, 1, [])] (by kernel_rfl) (by kernel_rfl) (by kernel_rfl) ?_) | go_in)
    simp only [Exit.noGoto, Exit.inBlock, Exit.then]
    go_wp2_with (first | go_in)
    go_ret
    exact ⟨ret_bool (by rw [HS.out]), (Below.refl _ _).drew.drew⟩

end Go.Proofs.YtafoahojdiglfaaDoor
