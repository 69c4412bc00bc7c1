/- the laws' helpers: Equal, kinds; the sizes of what Scan makes -/
import Derived.Test.YtgfhkaamkodpjaaDoorSc7
namespace Go.Proofs.YtgfhkaamkodpjaaDoor
open Go Go.RowKit
set_option maxHeartbeats 8000000
attribute [local irreducible] kwB syB clB

theorem equal_same (A A' : Option Addr) (n c c' B : Nat) (l : List Tok) (w : World) (h : Rd w B 5 A n (cellsOf Tok.cells l)) (h' : Rd w B 5 A' n (cellsOf Tok.cells l)) (hB : B ≤ w.heap.size) (hn : n ≤ 1000000000) :
    Calls Tryd.prog 21 #[.slice A n c, .slice A' n c'] w fun e w' => e = .returned (.bool true) ∧ Below w.heap.size w w' := by
  have H := Lib.hid h
  have H' := Lib.hid h'
  clear h h'
  go_enter Tryd.func21, Tryd.ntmps21
  go_wp2
  go_loopw [5] (fun vk wr => ∃ k : Nat, k ≤ n ∧ vk = .int .i64 k ∧ Below w.heap.size w wr) (fun vk _ => n - (intOf vk).toNat)
  case atStart => exact ⟨0, Nat.zero_le _, rfl, Below.refl _ _⟩
  case round =>
    obtain ⟨k, hk, rfl, hb⟩ := hrel
    have HB := Lib.hid hb
    by_cases hlt : k < n
    · obtain ⟨b1, o1, t, rfl, _, ht, c0, c1, c2, c3, c4⟩ := (H.out.keep (w' := wr) (fun p hp => hb.cell (by omega))).tok hlt
      obtain ⟨b2, o2, t2, rfl, _, ht2, d0, d1, d2, d3, d4⟩ := (H'.out.keep (w' := wr) (fun p hp => hb.cell (by omega))).tok hlt
      rw [ht] at ht2
      obtain rfl : t = t2 := by injection ht2
      clear ht ht2 hb
      go_wp2_with (first | ((with_reducible show wpPlan _ _ _ _ _ (Act.put _ _ _) _); simp only [List.getElem_toArray, List.getElem_cons_succ, List.getElem_cons_zero, Act.put, List.setIfInBounds_toArray, List.set_cons_zero, List.set_cons_succ]) | ((with_reducible show wpPlan _ _ _ _ _ _ _); first | refine wpPlan_nil ?_ | (refine wpPlan_read0 rfl ?hw rfl (fun _ _ _ => ?_); case hw => ((conv => (lhs; whnf)); first | done | with_reducible rfl)) | (refine wpPlan_read1d rfl ?hw rfl rfl (fun _ _ _ => ?_); case hw => ((conv => (lhs; whnf)); first | done | with_reducible rfl)) | (refine wpPlan_eff rfl ?hw (fun _ _ => ?_); case hw => ((conv => (lhs; whnf)); first | done | with_reducible rfl)) | (refine wpPlan_skip0 rfl ?hw ?_; case hw => ((conv => (lhs; whnf)); first | done | with_reducible rfl)) | (refine wpPlan_skip1d rfl ?hw ?_; case hw => ((conv => (lhs; whnf)); first | done | with_reducible rfl)) | (refine wpPlan_skip2 rfl ?hw ?_; case hw => ((conv => (lhs; whnf)); first | done | with_reducible rfl)) | (refine wpPlan_read1 rfl ?hw rfl (fun _ _ _ => ?_); case hw => ((conv => (lhs; whnf)); first | done | with_reducible rfl)) | refine wpPlan_fork ?_ ?_) | ((with_reducible show Owed _ _ _ _ _ _ _ _ _); first | refine Owed.none_ ?_ | refine Owed.nil_ ?_ | refine Owed.miss rfl ?_ | refine Owed.hit ?_ ?_) | ((with_reducible show Same _ _ _ _ _); intro _; go_simp; done) | (with_reducible exact True.intro) | ((with_reducible show Code.wp _ (Code.region 6 _ true) _ _ _); refine wp_region_plan [(0, 0, []), (1, 0, []), (2, 1, []), (3, 1, []), (4, 0, []), (5, 0, []), (6, 1, []), (7, 1, []), (8, 1, [])] (by kernel_rfl) (by kernel_rfl) (by kernel_rfl) ?_))
      go_roundw
      case rel => exact ⟨k + 1, by omega, by go_num, HB.out.drew⟩
      case measure => simp [intOf]; omega
    · clear hb
      go_wp2_with (first | ((with_reducible show wpPlan _ _ _ _ _ (Act.put _ _ _) _); simp only [List.getElem_toArray, List.getElem_cons_succ, List.getElem_cons_zero, Act.put, List.setIfInBounds_toArray, List.set_cons_zero, List.set_cons_succ]) | ((with_reducible show wpPlan _ _ _ _ _ _ _); first | refine wpPlan_nil ?_ | (refine wpPlan_read0 rfl ?hw rfl (fun _ _ _ => ?_); case hw => ((conv => (lhs; whnf)); first | done | with_reducible rfl)) | (refine wpPlan_read1d rfl ?hw rfl rfl (fun _ _ _ => ?_); case hw => ((conv => (lhs; whnf)); first | done | with_reducible rfl)) | (refine wpPlan_eff rfl ?hw (fun _ _ => ?_); case hw => ((conv => (lhs; whnf)); first | done | with_reducible rfl)) | (refine wpPlan_skip0 rfl ?hw ?_; case hw => ((conv => (lhs; whnf)); first | done | with_reducible rfl)) | (refine wpPlan_skip1d rfl ?hw ?_; case hw => ((conv => (lhs; whnf)); first | done | with_reducible rfl)) | (refine wpPlan_skip2 rfl ?hw ?_; case hw => ((conv => (lhs; whnf)); first | done | with_reducible rfl)) | (refine wpPlan_read1 rfl ?hw rfl (fun _ _ _ => ?_); case hw => ((conv => (lhs; whnf)); first | done | with_reducible rfl)) | refine wpPlan_fork ?_ ?_) | ((with_reducible show Owed _ _ _ _ _ _ _ _ _); first | refine Owed.none_ ?_ | refine Owed.nil_ ?_ | refine Owed.miss rfl ?_ | refine Owed.hit ?_ ?_) | ((with_reducible show Same _ _ _ _ _); intro _; go_simp; done) | (with_reducible exact True.intro) | ((with_reducible show Code.wp _ (Code.region 6 _ true) _ _ _); refine wp_region_plan [(0, 0, []), (1, 0, []), (2, 1, []), (3, 1, []), (4, 0, []), (5, 0, []), (6, 1, []), (7, 1, []), (8, 1, [])] (by kernel_rfl) (by kernel_rfl) (by kernel_rfl) ?_))
      go_ret
      exact ⟨rfl, HB.out⟩

def kindB (t : Tok) : UInt8 := if t.kind = 5 then 79 else if t.kind = 6 then 83 else if t.kind = 7 then 67 else 46
theorem bstr_snoc (l : List UInt8) (c : UInt8) : (bstr l ++ ⟨#[c]⟩ : ByteArray) = bstr (l ++ [c]) := by
  apply ByteArray.ext
  simp [bstr]
theorem take_snoc' {α β : Type} (f : α → β) (l : List α) (k : Nat) (x : α) (h : l[k]? = some x) : (l.take (k + 1)).map f = (l.take k).map f ++ [f x] := by
  obtain ⟨hk, he⟩ := List.getElem?_eq_some_iff.1 h
  rw [List.take_succ_eq_append_getElem hk, he]
  simp

theorem kinds_any (A : Option Addr) (n c B : Nat) (l : List Tok) (w : World) (h : Rd w B 5 A n (cellsOf Tok.cells l)) (hn : n ≤ 1000000000) :
    Calls Tryd.prog 18 #[.slice A n c] w fun e w' => e = .returned (.string (bstr (l.map kindB))) ∧ w = w' := by
  have hl := h.len Tok.cells_len (by decide)
  have H := Lib.hid h
  have HL := Lib.hid hl
  clear h hl
  go_enter Tryd.func18, Tryd.ntmps18
  go_wp2
  go_loop [3, 4] (fun vs vk => ∃ k : Nat, k ≤ n ∧ vk = .int .i64 k ∧ vs = .string (bstr ((l.take k).map kindB))) (fun _ vk => n - (intOf vk).toNat)
  case atStart => exact ⟨0, Nat.zero_le _, rfl, rfl⟩
  case round =>
    obtain ⟨k, hk, rfl, rfl⟩ := hrel
    have HZ : Hid ((bstr ((l.take k).map kindB)).size ≤ k) := Lib.hid (by show ((l.take k).map kindB).length ≤ k; simp; omega)
    obtain ⟨sk, hsk⟩ : ∃ x, bstr ((l.take k).map kindB) = x := ⟨_, rfl⟩
    have HS := Lib.hid hsk
    have hz := HZ.out
    rw [hsk] at hz ⊢
    clear hsk
    by_cases hlt : k < n
    · obtain ⟨b1, o1, t, rfl, _, ht, c0, _, _, _, _⟩ := H.out.tok hlt
      have HT := Lib.hid (take_snoc' kindB l k t ht)
      clear ht
      obtain ⟨kd, hkd⟩ : ∃ x, t.kind = x := ⟨_, rfl⟩
      have HKD : Hid (kindB t = if kd = 5 then 79 else if kd = 6 then 83 else if kd = 7 then 67 else 46) := Lib.hid (by unfold kindB; rw [hkd])
      rw [hkd] at c0
      clear hkd
      by_cases h5 : kd = 5
      · have h5b : (kd == 5) = true := by simpa using h5
        have HX : Hid (sk ++ ⟨#[79]⟩ = bstr ((l.take (k + 1)).map kindB)) := Lib.hid (by rw [← HS.out, bstr_snoc, HT.out, HKD.out, if_pos h5])
        clear h5
        go_wp2
        go_round
        case rel => exact ⟨k + 1, by omega, by go_num, by rw [← HX.out]⟩
        case measure => simp [intOf]; omega
      have h5b : (kd == 5) = false := by simpa using h5
      by_cases h6 : kd = 6
      · have h6b : (kd == 6) = true := by simpa using h6
        have HX : Hid (sk ++ ⟨#[83]⟩ = bstr ((l.take (k + 1)).map kindB)) := Lib.hid (by rw [← HS.out, bstr_snoc, HT.out, HKD.out, if_neg h5, if_pos h6])
        clear h5 h6
        go_wp2
        go_round
        case rel => exact ⟨k + 1, by omega, by go_num, by rw [← HX.out]⟩
        case measure => simp [intOf]; omega
      have h6b : (kd == 6) = false := by simpa using h6
      by_cases h7 : kd = 7
      · have h7b : (kd == 7) = true := by simpa using h7
        have HX : Hid (sk ++ ⟨#[67]⟩ = bstr ((l.take (k + 1)).map kindB)) := Lib.hid (by rw [← HS.out, bstr_snoc, HT.out, HKD.out, if_neg h5, if_neg h6, if_pos h7])
        clear h5 h6 h7
        go_wp2
        go_round
        case rel => exact ⟨k + 1, by omega, by go_num, by rw [← HX.out]⟩
        case measure => simp [intOf]; omega
      have h7b : (kd == 7) = false := by simpa using h7
      have HX : Hid (sk ++ ⟨#[46]⟩ = bstr ((l.take (k + 1)).map kindB)) := Lib.hid (by rw [← HS.out, bstr_snoc, HT.out, HKD.out, if_neg h5, if_neg h6, if_neg h7])
      clear h5 h6 h7
      go_wp2
      go_round
      case rel => exact ⟨k + 1, by omega, by go_num, by rw [← HX.out]⟩
      case measure => simp [intOf]; omega
    · have HE : Hid (sk = bstr (l.map kindB)) := Lib.hid (by rw [← HS.out, List.take_of_length_le (by have := HL.out; omega)])
      go_wp2
      go_ret
      exact ⟨ret_str HE.out, rfl⟩
theorem skipF_len : ∀ (n : Nat) (r : List UInt8) (p : Pos), (skipF n r p).2.1.length ≤ r.length
  | 0, r, p => Nat.le_refl _
  | n + 1, [], p => Nat.le_refl _
  | n + 1, c :: r, p => by
    rw [skipF]
    split
    · exact Nat.le_trans (skipF_len n _ _) (by simp)
    · split
      · exact Nat.le_trans (skipF_len n _ _) (List.Sublist.length_le (List.dropWhile_sublist notNl))
      · split
        · split
          · exact Nat.le_trans (skipF_len n _ _) (commentS_len _ _ _)
          · exact Nat.le_refl _
        · exact Nat.le_refl _
theorem itemS_str (r : List UInt8) (p : Pos) : (itemS r p).1.str.size ≤ r.length + 4 := by
  have ht : ∀ l : List UInt8, (bstr (l.takeWhile partB)).size ≤ l.length + 4 := fun l => by
    have := List.Sublist.length_le (List.takeWhile_sublist partB (l := l))
    show (l.takeWhile partB).length ≤ _
    omega
  have hz : (0 : Nat) ≤ r.length + 4 := Nat.zero_le _
  cases r with
  | nil => exact hz
  | cons c r =>
    have hs : (symS (c :: r)).size ≤ (c :: r).length + 4 := by
      have h1 := starts_len (symBest_pre (c :: r) syB ByteArray.empty (by simp [startsW]))
      rw [blen] at h1
      unfold symS
      split
      · show 1 ≤ _; simp
      · exact Nat.le_trans h1 (by omega)
    cases hl : letterB c
    · cases hd : digitB c
      · rw [itemS_sym hl hd]
        split
        · exact hz
        · exact hs
      · rw [itemS_num hd]
        split <;> exact hz
    · cases hd : digitB c
      · rw [itemS_word hl hd]
        split
        · exact ht _
        · split
          · exact ht _
          · exact hz
      · rw [itemS_num hd]
        split <;> exact hz
theorem scanF_small (N : Nat) : ∀ (n : Nat) (r : List UInt8) (p : Pos) (acc : List Tok), (∀ t ∈ acc, t.str.size ≤ N) → acc.length ≤ 16384 → r.length + 4 ≤ N → (∀ t ∈ (scanF n r p acc).1, t.str.size ≤ N) ∧ (scanF n r p acc).1.length ≤ 16384
  | 0, r, p, acc, h, hl, _ => ⟨h, hl⟩
  | n + 1, r, p, acc, h, hl, hr => by
    have hk : (skipS r p).2.1.length ≤ r.length := skipF_len _ _ _
    rw [scanF]
    split
    · exact ⟨fun t ht => by simp at ht, by simp⟩
    · split
      · exact ⟨h, hl⟩
      · split
        · exact ⟨fun t ht => by simp at ht, by simp⟩
        · split
          · exact ⟨fun t ht => by simp at ht, by simp⟩
          · refine scanF_small N n _ _ _ (fun t ht => ?_) (by simp; omega) (by rw [List.length_drop]; omega)
            rcases List.mem_append.1 ht with h1 | h1
            · exact h t h1
            · rw [List.mem_singleton.1 h1]
              exact Nat.le_trans (itemS_str _ _) (by omega)
theorem scanS_small (l : List UInt8) : (∀ t ∈ (scanS l).1, t.str.size ≤ l.length + 4) ∧ (scanS l).1.length ≤ 16384 := by
  unfold scanS
  split
  · exact ⟨fun t ht => by simp at ht, by simp⟩
  · exact scanF_small _ _ _ _ _ (fun t ht => by simp at ht) (by simp) (Nat.le_refl _)

end Go.Proofs.YtgfhkaamkodpjaaDoor
