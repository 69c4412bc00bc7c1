/- the laws' helpers: Equal, kinds; the sizes of what Scan makes -/
import Derived.Test.YtafoahojdiglfaaDoorSc7
namespace Go.Proofs.YtafoahojdiglfaaDoor
open Go Go.RowKit
set_option maxHeartbeats 8000000
attribute [local irreducible] kwB syB clB

theorem equal_same (A A' : Option Addr) (n c c' B : Nat) (l : List Tok) (w : World) (h : Rd w B 5 A n (cellsOf Tok.cells l)) (h' : Rd w B 5 A' n (cellsOf Tok.cells l)) (hB : B ≤ w.heap.size) (hn : n ≤ 1000000000) :
    Calls Tryd.prog 31 #[.slice A n c, .slice A' n c'] w fun e w' => e = .returned (.bool true) ∧ Below w.heap.size w w' := by
  have H := Lib.hid h
  have H' := Lib.hid h'
  clear h h'
  go_enter Tryd.func31, Tryd.ntmps31
  go_wp2
  go_loopw [5] (fun vk wr => ∃ k : Nat, k ≤ n ∧ vk = .int .i64 k ∧ Below w.heap.size w wr) (fun vk _ => n - (intOf vk).toNat)
  case atStart => exact ⟨0, Nat.zero_le _, rfl, Below.refl _ _⟩
  case round =>
    obtain ⟨k, hk, rfl, hb⟩ := hrel
    have HB := Lib.hid hb
    by_cases hlt : k < n
    · obtain ⟨b1, o1, t, rfl, _, ht, c0, c1, c2, c3, c4⟩ := (H.out.keep (w' := wr) (fun p hp => hb.cell (by omega))).tok hlt
      obtain ⟨b2, o2, t2, rfl, _, ht2, d0, d1, d2, d3, d4⟩ := (H'.out.keep (w' := wr) (fun p hp => hb.cell (by omega))).tok hlt
      rw [ht] at ht2
      obtain rfl : t = t2 := by injection ht2
      clear ht ht2 hb
      go_wp2_with (first | ((with_reducible show wpPlan _ _ _ [] _ _ _); refine wpPlan_nil ?_) | ((with_reducible show wpPlan _ _ _ ((_, 0, _) :: _) _ _ _); first | (refine wpPlan_read0 rfl ?hw rfl (fun _ _ _ => ?_); case hw => ((conv => (lhs; whnf)); first | done | with_reducible rfl)) | (refine wpPlan_skip0 rfl ?hw ?_; (case hw => ((conv => (lhs; whnf)); first | done | with_reducible rfl)); (try simp only [List.getElem_toArray, List.getElem_cons_succ, List.getElem_cons_zero, Act.put, List.setIfInBounds_toArray, List.set_cons_zero, List.set_cons_succ]))) | ((with_reducible show wpPlan _ _ _ ((_, 1, _) :: _) _ _ _); first | (refine wpPlan_read1d rfl ?hw rfl rfl (fun _ _ _ => ?_); case hw => ((conv => (lhs; whnf)); first | done | with_reducible rfl)) | (refine wpPlan_skip1d rfl ?hw ?_; (case hw => ((conv => (lhs; whnf)); first | done | with_reducible rfl)); (try simp only [List.getElem_toArray, List.getElem_cons_succ, List.getElem_cons_zero, Act.put, List.setIfInBounds_toArray, List.set_cons_zero, List.set_cons_succ])) | (refine wpPlan_read1 rfl ?hw rfl (fun _ _ _ => ?_); case hw => ((conv => (lhs; whnf)); first | done | with_reducible rfl))) | ((with_reducible show wpPlan _ _ _ ((_, 2, _) :: _) _ _ _); first | (refine wpPlan_eff rfl ?hw (fun _ _ => ?_); case hw => ((conv => (lhs; whnf)); first | done | with_reducible rfl)) | (refine wpPlan_skip2 rfl ?hw ?_; (case hw => ((conv => (lhs; whnf)); first | done | with_reducible rfl)); (try simp only [List.getElem_toArray, List.getElem_cons_succ, List.getElem_cons_zero, Act.put, List.setIfInBounds_toArray, List.set_cons_zero, List.set_cons_succ]))) | ((with_reducible show wpPlan _ _ _ _ _ _ _); refine wpPlan_fork ?_ ?_) | ((with_reducible show Owed _ _ _ [] _ _ _ _ _); refine Owed.none_ ?_) | ((with_reducible show Owed _ _ _ _ [] _ _ _ _); refine Owed.nil_ ?_) | ((with_reducible show Owed _ _ _ _ _ _ _ _ _); first | (refine Owed.miss rfl ?_) | (refine Owed.hit ?_ ?_)) | ((with_reducible show Same _ _ _ _ _); intro _; go_simp; done) | (with_reducible exact True.intro) | ((with_reducible show Code.wp _ (Code.region 6 _ true) _ _ _); refine wp_region_plan [(0, 0, []), (1, 0, []), (2, 1, []), (3, 1, []), (4, 0, []), (5, 0, []), (6, 1, []), (7, 1, []), (8, 1, [])] (by kernel_rfl) (by kernel_rfl) (by kernel_rfl) ?_))
      go_roundw
      case rel => exact ⟨k + 1, by omega, by go_num, HB.out.drew⟩
      case measure => simp [intOf]; omega
    · clear hb
      go_wp2_with (first | ((with_reducible show wpPlan _ _ _ [] _ _ _); refine wpPlan_nil ?_) | ((with_reducible show wpPlan _ _ _ ((_, 0, _) :: _) _ _ _); first | (refine wpPlan_read0 rfl ?hw rfl (fun _ _ _ => ?_); case hw => ((conv => (lhs; whnf)); first | done | with_reducible rfl)) | (refine wpPlan_skip0 rfl ?hw ?_; (case hw => ((conv => (lhs; whnf)); first | done | with_reducible rfl)); (try simp only [List.getElem_toArray, List.getElem_cons_succ, List.getElem_cons_zero, Act.put, List.setIfInBounds_toArray, List.set_cons_zero, List.set_cons_succ]))) | ((with_reducible show wpPlan _ _ _ ((_, 1, _) :: _) _ _ _); first | (refine wpPlan_read1d rfl ?hw rfl rfl (fun _ _ _ => ?_); case hw => ((conv => (lhs; whnf)); first | done | with_reducible rfl)) | (refine wpPlan_skip1d rfl ?hw ?_; (case hw => ((conv => (lhs; whnf)); first | done | with_reducible rfl)); (try simp only [List.getElem_toArray, List.getElem_cons_succ, List.getElem_cons_zero, Act.put, List.setIfInBounds_toArray, List.set_cons_zero, List.set_cons_succ])) | (refine wpPlan_read1 rfl ?hw rfl (fun _ _ _ => ?_); case hw => ((conv => (lhs; whnf)); first | done | with_reducible rfl))) | ((with_reducible show wpPlan _ _ _ ((_, 2, _) :: _) _ _ _); first | (refine wpPlan_eff rfl ?hw (fun _ _ => ?_); case hw => ((conv => (lhs; whnf)); first | done | with_reducible rfl)) | (refine wpPlan_skip2 rfl ?hw ?_; (case hw => ((conv => (lhs; whnf)); first | done | with_reducible rfl)); (try simp only [List.getElem_toArray, List.getElem_cons_succ, List.getElem_cons_zero, Act.put, List.setIfInBounds_toArray, List.set_cons_zero, List.set_cons_succ]))) | ((with_reducible show wpPlan _ _ _ _ _ _ _); refine wpPlan_fork ?_ ?_) | ((with_reducible show Owed _ _ _ [] _ _ _ _ _); refine Owed.none_ ?_) | ((with_reducible show Owed _ _ _ _ [] _ _ _ _); refine Owed.nil_ ?_) | ((with_reducible show Owed _ _ _ _ _ _ _ _ _); first | (refine Owed.miss rfl ?_) | (refine Owed.hit ?_ ?_)) | ((with_reducible show Same _ _ _ _ _); intro _; go_simp; done) | (with_reducible exact True.intro) | ((with_reducible show Code.wp _ (Code.region 6 _ true) _ _ _); refine wp_region_plan [(0, 0, []), (1, 0, []), (2, 1, []), (3, 1, []), (4, 0, []), (5, 0, []), (6, 1, []), (7, 1, []), (8, 1, [])] (by kernel_rfl) (by kernel_rfl) (by kernel_rfl) ?_))
      go_ret
      exact ⟨rfl, HB.out⟩

def kindB (t : Tok) : UInt8 := if t.kind = 5 then 79 else if t.kind = 6 then 83 else if t.kind = 7 then 67 else 46
theorem bstr_snoc (l : List UInt8) (c : UInt8) : (bstr l ++ ⟨#[c]⟩ : ByteArray) = bstr (l ++ [c]) := by
  apply ByteArray.ext
  simp [bstr]
theorem take_snoc' {α β : Type} (f : α → β) (l : List α) (k : Nat) (x : α) (h : l[k]? = some x) : (l.take (k + 1)).map f = (l.take k).map f ++ [f x] := by
  obtain ⟨hk, he⟩ := List.getElem?_eq_some_iff.1 h
  rw [List.take_succ_eq_append_getElem hk, he]
  simp

theorem skipF_len : ∀ (n : Nat) (r : List UInt8) (p : Pos), (skipF n r p).2.1.length ≤ r.length
  | 0, r, p => Nat.le_refl _
  | n + 1, [], p => Nat.le_refl _
  | n + 1, c :: r, p => by
    rw [skipF]
    split
    · exact Nat.le_trans (skipF_len n _ _) (by simp)
    · split
      · exact Nat.le_trans (skipF_len n _ _) (List.Sublist.length_le (List.dropWhile_sublist notNl))
      · split
        · split
          · exact Nat.le_trans (skipF_len n _ _) (commentS_len _ _ _)
          · exact Nat.le_refl _
        · exact Nat.le_refl _
theorem itemS_str (r : List UInt8) (p : Pos) : (itemS r p).1.str.size ≤ r.length + 4 := by
  have ht : ∀ l : List UInt8, (bstr (l.takeWhile partB)).size ≤ l.length + 4 := fun l => by
    have := List.Sublist.length_le (List.takeWhile_sublist partB (l := l))
    show (l.takeWhile partB).length ≤ _
    omega
  have hz : (0 : Nat) ≤ r.length + 4 := Nat.zero_le _
  cases r with
  | nil => exact hz
  | cons c r =>
    have hs : (symS (c :: r)).size ≤ (c :: r).length + 4 := by
      have h1 := starts_len (symBest_pre (c :: r) syB ByteArray.empty (by simp [startsW]))
      rw [blen] at h1
      unfold symS
      split
      · show 1 ≤ _; simp
      · exact Nat.le_trans h1 (by omega)
    cases hl : letterB c
    · cases hd : digitB c
      · rw [itemS_sym hl hd]
        split
        · exact hz
        · exact hs
      · rw [itemS_num hd]
        split <;> exact hz
    · cases hd : digitB c
      · rw [itemS_word hl hd]
        split
        · exact ht _
        · split
          · exact ht _
          · exact hz
      · rw [itemS_num hd]
        split <;> exact hz
theorem scanF_small (N : Nat) : ∀ (n : Nat) (r : List UInt8) (p : Pos) (acc : List Tok), (∀ t ∈ acc, t.str.size ≤ N) → acc.length ≤ 16384 → r.length + 4 ≤ N → (∀ t ∈ (scanF n r p acc).1, t.str.size ≤ N) ∧ (scanF n r p acc).1.length ≤ 16384
  | 0, r, p, acc, h, hl, _ => ⟨h, hl⟩
  | n + 1, r, p, acc, h, hl, hr => by
    have hk : (skipS r p).2.1.length ≤ r.length := skipF_len _ _ _
    rw [scanF]
    split
    · exact ⟨fun t ht => by simp at ht, by simp⟩
    · split
      · exact ⟨h, hl⟩
      · split
        · exact ⟨fun t ht => by simp at ht, by simp⟩
        · split
          · exact ⟨fun t ht => by simp at ht, by simp⟩
          · refine scanF_small N n _ _ _ (fun t ht => ?_) (by simp; omega) (by rw [List.length_drop]; omega)
            rcases List.mem_append.1 ht with h1 | h1
            · exact h t h1
            · rw [List.mem_singleton.1 h1]
              exact Nat.le_trans (itemS_str _ _) (by omega)
theorem scanS_small (l : List UInt8) : (∀ t ∈ (scanS l).1, t.str.size ≤ l.length + 4) ∧ (scanS l).1.length ≤ 16384 := by
  unfold scanS
  split
  · exact ⟨fun t ht => by simp at ht, by simp⟩
  · exact scanF_small _ _ _ _ _ (fun t ht => by simp at ht) (by simp) (Nat.le_refl _)

end Go.Proofs.YtafoahojdiglfaaDoor
