/- sane; packed systems: how many bytes; and sane -/
import Derived.Test.YtonpdclccgpceaaRwP
namespace Go.Proofs.Ytonpdclccgpceaa
open Go Go.RowKit
set_option maxHeartbeats 8000000

def oneL : List (List Arc) := [[⟨2, 0⟩]]
theorem one_valid : validB oneL = true := by decide
theorem one_body : bodyB oneL = [67, 82, 1, 1, 3, 1, 2, 0] := by
  have h0 : uv 0 = [0] := uv_small (by decide)
  have h1 : uv 1 = [1] := uv_small (by decide)
  have h2 : uv 2 = [2] := uv_small (by decide)
  have h3 : uv 3 = [3] := uv_small (by decide)
  have hr : rowsOf oneL = [[1, 2, 0]] := by
    simp [rowsOf, oneL, rowF, rowB, zz, h0, h1, h2]
  have hg : gsz oneL 0 = 3 := by rw [gsz, hr]; rfl
  have hs : sizesB oneL 1 = [3] := by
    rw [sizesB_next, hg, h3]
    rfl
  rw [bodyB, hr, show (oneL.length + 15) / 16 = 1 from rfl, hs, headB, show total oneL = 1 from rfl, show oneL.length = 1 from rfl, h1]
  rfl
theorem one_pack : packB oneL = [67, 82, 1, 1, 3, 1, 2, 0] ++ sum4 (crcF [67, 82, 1, 1, 3, 1, 2, 0]) := by rw [packB, sealB, one_body]
theorem one_str : strN [67, 82, 1, 1, 3, 1, 2, 0] = ⟨#[67, 82, 1, 1, 3, 1, 2, 0]⟩ := by decide

set_option maxRecDepth 100000 in
theorem unpackNil_any (w : World) : Calls Try.prog 19 #[.slice none 0 0] w fun e w' => e = .returned (.tuple #[lts none 0 0, .int .i64 23]) ∧ Below w.heap.size w w' := by
  have HB0 := Lib.hid ((Below.refl w.heap.size w).alloc (Nat.le_refl _) (.cells #[.slice none 0 0] 25))
  go_enter Try.func19, Try.ntmps19
  go_wp2_with (first | ((with_reducible show wpPlan _ _ _ [] _ _ _); refine wpPlan_nil ?_) | ((with_reducible show wpPlan _ _ _ ((_, 0, _) :: _) _ _ _); first | (refine wpPlan_read0 rfl ?hw rfl (fun _ _ _ => ?_); case hw => ((conv => (lhs; whnf)); first | done | with_reducible rfl)) | (refine wpPlan_skip0 rfl ?hw ?_; (case hw => ((conv => (lhs; whnf)); first | done | with_reducible rfl)); (try simp only [List.getElem_toArray, List.getElem_cons_succ, List.getElem_cons_zero, Act.put, List.setIfInBounds_toArray, List.set_cons_zero, List.set_cons_succ]))) | ((with_reducible show wpPlan _ _ _ ((_, 1, _) :: _) _ _ _); first | (refine wpPlan_read1d rfl ?hw rfl rfl (fun _ _ _ => ?_); case hw => ((conv => (lhs; whnf)); first | done | with_reducible rfl)) | (refine wpPlan_skip1d rfl ?hw ?_; (case hw => ((conv => (lhs; whnf)); first | done | with_reducible rfl)); (try simp only [List.getElem_toArray, List.getElem_cons_succ, List.getElem_cons_zero, Act.put, List.setIfInBounds_toArray, List.set_cons_zero, List.set_cons_succ])) | (refine wpPlan_read1 rfl ?hw rfl (fun _ _ _ => ?_); case hw => ((conv => (lhs; whnf)); first | done | with_reducible rfl))) | ((with_reducible show wpPlan _ _ _ ((_, 2, _) :: _) _ _ _); first | (refine wpPlan_eff rfl ?hw (fun _ _ => ?_); case hw => ((conv => (lhs; whnf)); first | done | with_reducible rfl)) | (refine wpPlan_skip2 rfl ?hw ?_; (case hw => ((conv => (lhs; whnf)); first | done | with_reducible rfl)); (try simp only [List.getElem_toArray, List.getElem_cons_succ, List.getElem_cons_zero, Act.put, List.setIfInBounds_toArray, List.set_cons_zero, List.set_cons_succ]))) | ((with_reducible show wpPlan _ _ _ _ _ _ _); refine wpPlan_fork ?_ ?_) | ((with_reducible show Owed _ _ _ [] _ _ _ _ _); refine Owed.none_ ?_) | ((with_reducible show Owed _ _ _ _ [] _ _ _ _); refine Owed.nil_ ?_) | ((with_reducible show Owed _ _ _ _ _ _ _ _ _); first | (refine Owed.miss rfl ?_) | (refine Owed.hit ?_ ?_)) | ((with_reducible show Same _ _ _ _ _); intro _; go_simp; done) | (with_reducible exact True.intro) | ((with_reducible show Code.wp _ (Code.region 13 _ true) _ _ _); refine wp_region_plan [(0, 1, []), (1, 1, []), (2, 0, []), (3, 0, []), (4, 0, []), (5, 2, [0, 1]), (6, 2, [0, 1]), (7, 2, []), (8, 1, []), (9, 2, [])] (by kernel_rfl) (by kernel_rfl) (by kernel_rfl) ?_))
  refine bodyPost_ret (v := .tuple #[lts none 0 0, .int .i64 23]) (by simp [results, Try.results19, go_sem]) rfl ?_
  exact ⟨rfl, HB0.out⟩

end Go.Proofs.Ytonpdclccgpceaa
namespace Go.Proofs.Ytonpdclccgpceaa
open Go Go.RowKit
set_option maxHeartbeats 4000000

theorem total_bound (ls : List (List Arc)) (b : Nat) (h : ∀ l ∈ ls, l.length ≤ b) : ∀ k, k ≤ ls.length → total (ls.take k) ≤ k * b
  | 0, _ => by simp [total]
  | k + 1, hk => by
    have h1 := total_bound ls b h k (by omega)
    have hg : ls[k]? = some (ls[k]'(by omega)) := List.getElem?_eq_getElem (by omega)
    have h2 := h _ (List.getElem_mem (l := ls) (n := k) (by omega))
    rw [total_take ls k _ hg, Nat.succ_mul]
    omega
theorem total_all (ls : List (List Arc)) (n b : Nat) (h : ∀ l ∈ ls, l.length ≤ b) (hn : ls.length ≤ n) : total ls ≤ n * b := by
  have h1 := total_bound ls b h ls.length (Nat.le_refl _)
  rw [List.take_length] at h1
  exact Nat.le_trans h1 (Nat.mul_le_mul_right b hn)
theorem sizesB_len (ls : List (List Arc)) (h : ∀ g, (gsz ls g : Int) ≤ 9223372036854775807) : ∀ m, (sizesB ls m).length ≤ 9 * m
  | 0 => by simp [sizesB]
  | m + 1 => by
    have h1 := sizesB_len ls h m
    have h2 := uv_le (gsz ls m) (h m)
    rw [sizesB_next, List.length_append]
    omega
theorem pack_few {ls : List (List Arc)} (h : Pk ls) : (packB ls).length ≤ 24 + 9 * ((ls.length + 15) / 16) + 9 * ls.length + 18 * total ls := by
  have h1 := rows_few h ls.length (Nat.le_refl _)
  have e1 : (rowsOf ls).take ls.length = rowsOf ls := List.take_of_length_le (by rw [rows_len]; exact Nat.le_refl _)
  rw [e1, List.take_length] at h1
  have n2 := h.n2
  have n3 := h.tot
  have hg : ∀ g, (gsz ls g : Int) ≤ 9223372036854775807 := fun g => by
    have h2 := gszK_le ls g ls.length (Nat.le_refl _)
    rw [gszK_all ls _ g (Nat.le_refl _), e1] at h2
    omega
  have h3 := sizesB_len ls hg ((ls.length + 15) / 16)
  have h4 := uv_le ls.length (by omega)
  have h5 := uv_le (total ls) (by omega)
  have e2 : (sum4 (crcF (bodyB ls))).length = 4 := rfl
  rw [packB, sealB, List.length_append, e2, bodyB, headB]
  simp only [List.length_append, List.length_cons, List.length_nil]
  omega
theorem packs_small {ls : List (List Arc)} (hn : ls.length ≤ 100) (ht : total ls ≤ 30000) (hv : validB ls = true) : (packB ls).length ≤ 1048576 := by
  have := pack_few (Pk.of hv)
  omega

end Go.Proofs.Ytonpdclccgpceaa
