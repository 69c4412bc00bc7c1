/- packed systems: how many bytes; and sane -/
import Derived.Test.YtonpdclccgpceaaRwSn
namespace Go.Proofs.Ytonpdclccgpceaa
open Go Go.RowKit
set_option maxHeartbeats 4000000

theorem total_bound (ls : List (List Arc)) (b : Nat) (h : ∀ l ∈ ls, l.length ≤ b) : ∀ k, k ≤ ls.length → total (ls.take k) ≤ k * b
  | 0, _ => by simp [total]
  | k + 1, hk => by
    have h1 := total_bound ls b h k (by omega)
    have hg : ls[k]? = some (ls[k]'(by omega)) := List.getElem?_eq_getElem (by omega)
    have h2 := h _ (List.getElem_mem (l := ls) (n := k) (by omega))
    rw [total_take ls k _ hg, Nat.succ_mul]
    omega
theorem total_all (ls : List (List Arc)) (n b : Nat) (h : ∀ l ∈ ls, l.length ≤ b) (hn : ls.length ≤ n) : total ls ≤ n * b := by
  have h1 := total_bound ls b h ls.length (Nat.le_refl _)
  rw [List.take_length] at h1
  exact Nat.le_trans h1 (Nat.mul_le_mul_right b hn)
theorem sizesB_len (ls : List (List Arc)) (h : ∀ g, (gsz ls g : Int) ≤ 9223372036854775807) : ∀ m, (sizesB ls m).length ≤ 9 * m
  | 0 => by simp [sizesB]
  | m + 1 => by
    have h1 := sizesB_len ls h m
    have h2 := uv_le (gsz ls m) (h m)
    rw [sizesB_next, List.length_append]
    omega
theorem pack_few {ls : List (List Arc)} (h : Pk ls) : (packB ls).length ≤ 24 + 9 * ((ls.length + 15) / 16) + 9 * ls.length + 18 * total ls := by
  have h1 := rows_few h ls.length (Nat.le_refl _)
  have e1 : (rowsOf ls).take ls.length = rowsOf ls := List.take_of_length_le (by rw [rows_len]; exact Nat.le_refl _)
  rw [e1, List.take_length] at h1
  have n2 := h.n2
  have n3 := h.tot
  have hg : ∀ g, (gsz ls g : Int) ≤ 9223372036854775807 := fun g => by
    have h2 := gszK_le ls g ls.length (Nat.le_refl _)
    rw [gszK_all ls _ g (Nat.le_refl _), e1] at h2
    omega
  have h3 := sizesB_len ls hg ((ls.length + 15) / 16)
  have h4 := uv_le ls.length (by omega)
  have h5 := uv_le (total ls) (by omega)
  have e2 : (sum4 (crcF (bodyB ls))).length = 4 := rfl
  rw [packB, sealB, List.length_append, e2, bodyB, headB]
  simp only [List.length_append, List.length_cons, List.length_nil]
  omega
theorem packs_small {ls : List (List Arc)} (hn : ls.length ≤ 100) (ht : total ls ≤ 30000) (hv : validB ls = true) : (packB ls).length ≤ 1048576 := by
  have := pack_few (Pk.of hv)
  omega

end Go.Proofs.Ytonpdclccgpceaa
