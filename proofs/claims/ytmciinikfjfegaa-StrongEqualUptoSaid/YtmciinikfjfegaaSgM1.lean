/- the compressed system is minimal: what Compress, Equal and Classes give of it -/
import Derived.Test.YtmciinikfjfegaaSgE1
import Derived.Test.YtmciinikfjfegaaSgW7
import Derived.Test.YtmciinikfjfegaaSgN4
namespace Go.Proofs.Ytmciinikfjfegaa
open Go Go.RowKit
set_option maxHeartbeats 4000000

theorem quoE_loose {ls : List (List Arc)} {K : Nat} (hV : validB ls = true) : looseB (quoE ls K) = true := by
  have hlo := (valid_parts hV).1
  obtain ⟨_, h1, _, _⟩ := loose_tos hlo
  exact quo_loose hlo (clK_len ls K) (fun x hx => cl_all_lt hx) (ct_pos h1 K) (ctK_le ls K)
theorem quoE_rows {ls : List (List Arc)} {K N : Nat} (h : total ls ≤ N) : ∀ l ∈ quoE ls K, l.length ≤ N := fun l hl => by
  obtain ⟨c, _, rfl⟩ := List.mem_map.1 hl
  have h1 := rowQ_len ls (clK ls K) c ls.length (Nat.le_refl _)
  rw [List.take_length] at h1
  exact Nat.le_trans h1 h
theorem com_min {ls C : List (List Arc)} {K i N : Nat} (hV : validB ls = true) (hN : total ls ≤ N) (hR : DoneR ls K) (hd : DoneC (quoE ls K) i) (hC : C = (canonK (quoE ls K) i).out) :
    validB C = true ∧ C.length = i ∧ i ≤ ls.length ∧ (∀ l ∈ C, l.length ≤ N) ∧ (∀ K', DoneR C K' → clK C K' = List.range i) ∧ (∀ K' i', DoneR C K' → DoneC (quoE C K') i' → (canonK (quoE C K') i').out = C) ∧ (∀ q, EqIs ls C q → q = true) := by
  obtain ⟨hT, h1, h2, _⟩ := loose_tos (valid_parts hV).1
  have hlo := quoE_loose (K := K) hV
  have hq := quoE_tos (K := K) hT
  have hq0 : 0 < (quoE ls K).length := by rw [quoK_len]; exact ct_pos h1 K
  have hVC : validB C = true := by rw [hC]; exact out_valid hq hq0 hlo hd
  have hlen : C.length = i := by rw [hC]; exact canon_out _ _
  have hcl : ∀ K', DoneR C K' → clK C K' = List.range i := fun K' h => by
    subst hC
    exact quo_classes hT h1 hR hd h
  obtain ⟨hTC, hC1, _, _⟩ := loose_tos (valid_parts hVC).1
  obtain ⟨s1, _, s3⟩ := stable_done hq hq0 hd
  rw [← hC] at s1 s3
  have hi := done_le hq hq0 hd
  rw [quoK_len] at hi
  have hct := ctK_le ls K
  refine ⟨hVC, hlen, by omega, by rw [hC]; exact canon_rows (quoE_rows hN) i, hcl, fun K' i' hR' hd' => ?_, fun q hq' => ?_⟩
  · have h3 := hcl K' hR'
    have h4 : ctK C K' = i := by
      have h5 := ctK_le C K'
      have h6 : i - 1 ∈ clK C K' := by rw [h3, List.mem_range]; omega
      have h7 := cl_all_lt h6
      omega
    have h8 : quoE C K' = C := by
      show quoK C (clK C K') (ctK C K') C.length = C
      rw [h3, h4, hlen]
      have h9 := quo_range hTC
      rw [hlen] at h9
      exact h9
    rw [h8] at hd' ⊢
    obtain rfl := hd'.unique s1
    rw [hC] at s3 ⊢
    exact s3
  · rcases hq' with ⟨h3, _⟩ | ⟨_, K', _, h4⟩
    · rw [hV, hVC] at h3
      cases h3
    · refine h4.2 ?_
      rw [hC]
      exact quo_both hT h1 hR hd K'

end Go.Proofs.Ytmciinikfjfegaa
