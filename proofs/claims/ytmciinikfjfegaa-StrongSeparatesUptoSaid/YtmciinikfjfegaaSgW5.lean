/- classes that are numbered; the greatest number of a list -/
import Derived.Test.YtmciinikfjfegaaSgW4
namespace Go.Proofs.Ytmciinikfjfegaa
open Go Go.RowKit
set_option maxHeartbeats 8000000

/-- are the classes numbered in order, and as many as n? -/
def numB (l : List Int) (N : Int) : Bool := (nbd l 0).isSome && decide ((l.length : Int) = N)
theorem nbd_cons_ok {c m : Int} {l : List Int} (h : ¬ (c < 0 ∨ m < c)) : nbd (c :: l) m = nbd l (if c = m then m + 1 else m) := by rw [nbd, if_neg h]
theorem nbd_cons_no {c m : Int} {l : List Int} (h : c < 0 ∨ m < c) : nbd (c :: l) m = none := by rw [nbd, if_pos h]
theorem drop_cons {l : List Int} {k : Nat} {x : Int} (h : l[k]? = some x) : l.drop k = x :: l.drop (k + 1) := by
  obtain ⟨hk, he⟩ := List.getElem?_eq_some_iff.1 h
  rw [List.drop_eq_getElem_cons hk, he]

set_option maxRecDepth 100000 in
theorem numbered_any (A : Option Addr) (n c : Nat) (l : List Int) (N : Nat) (B : Nat) (w : World) (h : Rd w B 1 A n (cellsOf icell l)) (hB : B ≤ w.heap.size) (hn : n ≤ 1000000000000) (hN : N ≤ 1000000000000) :
    Calls Try.prog 63 #[.slice A n c, .int .i64 N] w fun e w' => e = .returned (.bool (numB l N)) ∧ Below w.heap.size w w' := by
  have HL := Lib.hid (h.len icell_len (by decide))
  have H := Lib.hid h
  clear h
  go_enter Try.func63, Try.ntmps63
  go_wp2_with fail
  go_loopw [5, 10] (fun vm vk wr => ∃ k m : Nat, k ≤ n ∧ m ≤ k ∧ vk = .int .i64 k ∧ vm = .int .i64 m ∧ Hid (nbd l 0 = nbd (l.drop k) m ∧ Below w.heap.size w wr)) (fun _ vk _ => n - (intOf vk).toNat)
  case atStart => exact ⟨0, 0, Nat.zero_le _, Nat.le_refl _, rfl, rfl, Lib.hid ⟨by rw [List.drop_zero]; rfl, Below.refl _ _⟩⟩
  case round =>
    obtain ⟨k, m, hk, hm, rfl, rfl, HW⟩ := hrel
    by_cases hlt : k < n
    · obtain ⟨b1, o1, x, rfl, _, hx, c0⟩ := (H.out.keep (w' := wr) (fun p hp => HW.out.2.cell (by omega))).int hlt
      have HD := Lib.hid (drop_cons hx)
      clear hx
      by_cases h1 : x < 0 ∨ (m : Int) < x
      · have HF := Lib.hid (show numB l N = false by rw [numB, HW.out.1, HD.out, nbd_cons_no h1]; rfl)
        rcases h1 with h1 | h1
        · go_wp2_with fail
          go_ret
          exact ⟨ret_bool HF.out.symm, HW.out.2⟩
        · have h2 : ¬ x < 0 := by omega
          have h3 : x > (m : Int) := h1
          go_wp2_with fail
          go_ret
          exact ⟨ret_bool HF.out.symm, HW.out.2⟩
      · have h2 : ¬ x < 0 := by omega
        have h3 : ¬ (m : Int) < x := by omega
        have h4 : ¬ x > (m : Int) := by omega
        have HS := Lib.hid (show nbd l 0 = nbd (l.drop (k + 1)) (if x = m then (m : Int) + 1 else m) by rw [HW.out.1, HD.out, nbd_cons_ok h1])
        clear h1
        by_cases hxm : x = m
        · subst hxm
          have HS2 := Lib.hid (show nbd l 0 = nbd (l.drop (k + 1)) ((m + 1 : Nat) : Int) by rw [HS.out, if_pos rfl]; rfl)
          clear HS
          go_wp2_with fail
          go_roundw
          case rel => exact ⟨k + 1, m + 1, by omega, by omega, by go_num, by go_num, Lib.hid ⟨HS2.out, HW.out.2⟩⟩
          case measure => simp [intOf]; omega
        · have HS2 := Lib.hid (show nbd l 0 = nbd (l.drop (k + 1)) (m : Nat) by rw [HS.out, if_neg hxm])
          clear HS
          go_wp2_with fail
          go_roundw
          case rel => exact ⟨k + 1, m, by omega, by omega, by go_num, by go_num, Lib.hid ⟨HS2.out, HW.out.2⟩⟩
          case measure => simp [intOf]; omega
    · have hkn : k = n := by omega
      subst hkn
      have HE := Lib.hid (show nbd l 0 = some (m : Int) by rw [HW.out.1, List.drop_of_length_le (by rw [HL.out]; exact Nat.le_refl _)]; rfl)
      have HF := Lib.hid (show numB l N = decide ((k : Int) = N) by rw [numB, HE.out, HL.out]; rfl)
      by_cases e : k = N
      · subst e
        go_wp2_with fail
        go_ret
        exact ⟨ret_bool (by rw [HF.out]; first | rfl | exact (decide_eq_true rfl).symm | simp), HW.out.2⟩
      · have e2 : ¬ (k : Int) = (N : Int) := by omega
        go_wp2_with fail
        go_ret
        exact ⟨ret_bool (by rw [HF.out]; rfl), HW.out.2⟩

/-- the greatest number of the first k + 1 -/
def maxN (l : List Nat) : Nat := l.foldl max 0
theorem maxN_snoc (l : List Nat) (x : Nat) : maxN (l ++ [x]) = max (maxN l) x := by simp [maxN, List.foldl_append]
theorem nbd_last : ∀ {l : List Int} {m k : Int}, nbd l m = some k → k = m ∨ k - 1 ∈ l
  | [], m, k, h => .inl (Option.some.inj h).symm
  | c :: l, m, k, h => by
    rw [nbd] at h
    split at h
    · cases h
    · rcases nbd_last h with e | e
      · split at e
        · rename_i hcm
          exact .inr (List.mem_cons.2 (.inl (by omega)))
        · exact .inl e
      · exact .inr (List.mem_cons_of_mem _ e)
theorem max_fold : ∀ (l : List Nat) (a : Nat), a ≤ l.foldl max a ∧ (∀ x ∈ l, x ≤ l.foldl max a) ∧ (l.foldl max a = a ∨ l.foldl max a ∈ l)
  | [], a => ⟨Nat.le_refl _, fun x h => (by cases h), .inl rfl⟩
  | y :: l, a => by
    obtain ⟨h1, h2, h3⟩ := max_fold l (max a y)
    rw [List.foldl_cons]
    refine ⟨by omega, fun x hx => ?_, ?_⟩
    · rcases List.mem_cons.1 hx with rfl | hx
      · omega
      · exact h2 x hx
    · rcases h3 with h3 | h3
      · rcases Nat.le_total a y with h | h
        · rw [Nat.max_eq_right h] at h3 ⊢
          exact .inr (List.mem_cons.2 (.inl h3))
        · rw [Nat.max_eq_left h] at h3 ⊢
          exact .inl h3
      · exact .inr (List.mem_cons_of_mem _ h3)
theorem maxN_le (l : List Nat) (x : Nat) (h : x ∈ l) : x ≤ maxN l := (max_fold l 0).2.1 x h
theorem maxN_mem {l : List Nat} (h : l ≠ []) : maxN l ∈ l := by
  rcases (max_fold l 0).2.2 with h1 | h1
  · cases l with
    | nil => exact absurd rfl h
    | cons y l =>
      have h2 := (max_fold (y :: l) 0).2.1 y (List.mem_cons_self ..)
      rw [h1] at h2
      have h3 : maxN (y :: l) = 0 := h1
      rw [h3]
      exact List.mem_cons.2 (.inl (by omega))
  · exact h1
/-- classes that are numbered: there are one more than the greatest number -/
theorem nbd_max {l : List Int} {k : Int} (h : nbd l 0 = some k) (h0 : l ≠ []) : k = (maxN (l.map Int.toNat) : Nat) + 1 := by
  obtain ⟨h1, h2, h3⟩ := nbd_bound (Int.le_refl 0) h
  have hne : l.map Int.toNat ≠ [] := fun e => h0 (List.map_eq_nil_iff.1 e)
  obtain ⟨y, hy, e⟩ := List.mem_map.1 (maxN_mem hne)
  have h4 := h3 y hy
  rcases nbd_last h with e2 | e2
  · omega
  · have h5 := maxN_le (l.map Int.toNat) (k - 1).toNat (List.mem_map_of_mem e2)
    omega
theorem icell_nats {l : List Int} (h : ∀ x ∈ l, 0 ≤ x) : cellsOf icell l = cellsOf ncell (l.map Int.toNat) := by
  rw [nat_cells, List.map_map]
  congr 1
  conv => lhs; rw [← List.map_id l]
  apply List.map_congr_left
  intro x hx
  have := h x hx
  show x = ((x.toNat : Nat) : Int)
  omega

set_option maxRecDepth 100000 in
theorem max_any (A : Option Addr) (n c : Nat) (l : List Nat) (B : Nat) (w : World) (h : Rd w B 1 A n (cellsOf ncell l)) (hB : B ≤ w.heap.size) (hn : n ≤ 1000000000000) (h0 : 1 ≤ n) (hl : ∀ x ∈ l, x ≤ 1000000) :
    Calls Try.prog 64 #[.slice A n c] w fun e w' => e = .returned (.int .i64 (maxN l)) ∧ Below w.heap.size w w' := by
  have HL := Lib.hid (h.len ncell_len (by decide))
  have H := Lib.hid h
  have HX := Lib.hid hl
  obtain ⟨b0, o0, x0, rfl, _, hx0, c0⟩ := h.nat (show 0 < n by omega)
  rw [Nat.add_zero] at c0
  have HX0 := Lib.hid hx0
  clear h hl hx0
  go_enter Try.func64, Try.ntmps64
  go_wp2_with fail
  go_loopw [3, 4] (fun vm vk wr => ∃ k m : Nat, 1 ≤ k ∧ k ≤ n ∧ m ≤ 1000000 ∧ vk = .int .i64 k ∧ vm = .int .i64 m ∧ Hid (m = maxN (l.take k) ∧ Below w.heap.size w wr)) (fun _ vk _ => n - (intOf vk).toNat)
  case atStart => exact ⟨1, x0, Nat.le_refl _, h0, HX.out _ (List.mem_of_getElem? HX0.out), rfl, rfl, Lib.hid ⟨by rw [List.take_add_one, HX0.out]; simp [maxN], Below.refl _ _⟩⟩
  case round =>
    obtain ⟨k, m, hk1, hk, hm, rfl, rfl, HW⟩ := hrel
    by_cases hlt : k < n
    · obtain ⟨b1, o1, x, hab, _, hx, c1⟩ := (H.out.keep (w' := wr) (fun p hp => HW.out.2.cell (by omega))).nat hlt
      obtain ⟨rfl, rfl⟩ : b0 = b1 ∧ o0 = o1 := by simpa using hab
      have hx1 := HX.out x (List.mem_of_getElem? hx)
      have HS := Lib.hid (show max m x = maxN (l.take (k + 1)) by rw [List.take_add_one, hx, HW.out.1]; exact (maxN_snoc _ _).symm)
      clear hx hab c0
      by_cases hmx : m ≤ x
      · have HS2 := Lib.hid (show x = maxN (l.take (k + 1)) by rw [← HS.out]; omega)
        have hmx2 : (m : Int) ≤ x := by omega
        go_wp2_with fail
        go_roundw
        case rel => exact ⟨k + 1, x, by omega, by omega, by omega, by go_num, by first | go_num | (simp; omega), Lib.hid ⟨HS2.out, HW.out.2⟩⟩
        case measure => simp [intOf]; omega
      · have HS2 := Lib.hid (show m = maxN (l.take (k + 1)) by rw [← HS.out]; omega)
        have hmx2 : (x : Int) ≤ m := by omega
        go_wp2_with fail
        go_roundw
        case rel => exact ⟨k + 1, m, by omega, by omega, by omega, by go_num, by first | go_num | (simp; omega), Lib.hid ⟨HS2.out, HW.out.2⟩⟩
        case measure => simp [intOf]; omega
    · have hkn : k = n := by omega
      subst hkn
      have HE := Lib.hid (show m = maxN l by rw [HW.out.1, List.take_of_length_le (by rw [HL.out]; exact Nat.le_refl _)])
      go_wp2_with fail
      go_ret
      exact ⟨by rw [← HE.out]; rfl, HW.out.2⟩

end Go.Proofs.Ytmciinikfjfegaa
