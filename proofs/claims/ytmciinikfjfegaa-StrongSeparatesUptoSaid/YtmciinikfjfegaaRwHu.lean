/- Huge's walk -/
import Derived.Test.YtmciinikfjfegaaRwA
import Derived.Test.YtmciinikfjfegaaRwV
namespace Go.Proofs.Ytmciinikfjfegaa
open Go Go.RowKit
set_option maxHeartbeats 8000000

/-- what Huge gives -/
def HugePost (ls : List (List Arc)) (e : Ending) : Prop := ∃ q, e = .returned (.bool q) ∧ (q = false → ls.length ≤ 12 ∧ total ls ≤ 60)
set_option maxRecDepth 100000 in
theorem huge_any (A : Option Addr) (n c B : Nat) (ls : List (List Arc)) (w : World) (h : RdL w B A n ls) (hB : B ≤ w.heap.size) (hn : n ≤ 9223372036854775807) (hs : ∀ l ∈ ls, l.length ≤ 1000000000000) :
    Calls Try.prog 19 #[lts A n c] w fun e w' => HugePost ls e ∧ Below w.heap.size w w' := by
  have HL := Lib.hid h.len
  have H := Lib.hid (h.alloc hB (.cells #[.slice A n c] 27))
  have HS := Lib.hid hs
  have HB0 := Lib.hid ((Below.refl w.heap.size w).alloc (Nat.le_refl _) (.cells #[.slice A n c] 27))
  clear h hs
  go_enter Try.func19, Try.ntmps19
  go_wp2
  go_loopw [3, 4] (fun vm vk wr => ∃ (k m : Nat), k ≤ n ∧ vk = .int .i64 k ∧ vm = .int .i64 m ∧ m ≤ 1000000000100 ∧ Hid (m = total (ls.take k)) ∧ wr = w.alloc (.cells #[.slice A n c] 27)) (fun _ vk _ => n - (intOf vk).toNat)
  case atStart => exact ⟨0, 0, Nat.zero_le _, rfl, rfl, by omega, Lib.hid (by simp [total]), rfl⟩
  case round =>
    obtain ⟨k, m, hk, rfl, rfl, hm, HM, rfl⟩ := hrel
    by_cases hlt : k < n
    · by_cases h60 : m ≤ 60
      · obtain ⟨b1, o1, l, A', n', c', rfl, hb1, hl, hln, e0, hrow⟩ := H.out.row hlt
        have hll := HS.out l (List.mem_of_getElem? hl)
        have HT := Lib.hid (show m + n' = total (ls.take (k + 1)) by rw [total_take ls k l hl, ← HM.out]; omega)
        have hb1l : b1 < w.heap.size := by omega
        clear hrow hl
        go_wp2
        go_roundw
        case rel => exact ⟨k + 1, m + n', by omega, by go_num, by go_num, by omega, HT, trivial⟩
        case measure => simp [intOf]; omega
      · go_wp2
        all_goals (go_ret; exact ⟨⟨_, rfl, fun h => by first | (cases h; done) | (simp at h; omega)⟩, HB0.out⟩)
    · have hkn : k = n := by omega
      subst hkn
      have hk2 : ls.take k = ls := List.take_of_length_le (by rw [HL.out]; exact Nat.le_refl _)
      have HT := Lib.hid (show m = total ls by rw [HM.out, hk2])
      clear hk2
      by_cases h12 : 12 < k
      · go_wp2
        all_goals (go_ret; exact ⟨⟨_, rfl, fun h => by first | (cases h; done) | (simp at h; omega)⟩, HB0.out⟩)
      · go_wp2
        all_goals (go_ret; exact ⟨⟨_, rfl, fun h => ⟨by rw [HL.out]; omega, by rw [← HT.out]; simp at h; omega⟩⟩, HB0.out⟩)

end Go.Proofs.Ytmciinikfjfegaa
