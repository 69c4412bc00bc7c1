/- one packed row: the program's; one packed row: the reference's -/
import Derived.Test.YtonpdclccgpceaaRwC
import Derived.Test.YtonpdclccgpceaaRwV
namespace Go.Proofs.Ytonpdclccgpceaa
open Go Go.RowKit
set_option maxHeartbeats 4000000

/-- what one arc adds; 'p': the arc before -/
def oneB (s : Int) : Option Arc → Arc → List Nat
  | none, a => uv a.ev.toNat ++ zz (a.to - s)
  | some p, a => if a.ev = p.ev then uv 0 ++ uv (a.to - p.to - 1).toNat else uv (a.ev - p.ev).toNat ++ zz (a.to - s)
theorem rowB_cons (s : Int) (p : Option Arc) (a : Arc) (r : List Arc) : rowB s p (a :: r) = oneB s p a ++ rowB s (some a) r := by
  cases p <;> rfl
theorem rowB_snoc (s : Int) (a : Arc) : ∀ (l : List Arc) (p : Option Arc), rowB s p (l ++ [a]) = rowB s p l ++ oneB s (l.getLast?.or p) a
  | [], p => by
    rw [List.nil_append, rowB_cons]
    cases p <;> simp [rowB]
  | b :: r, p => by
    rw [List.cons_append, rowB_cons, rowB_cons, rowB_snoc s a r (some b), List.append_assoc]
    congr 3
    cases r with
    | nil => rfl
    | cons c r => simp [List.getLast?_cons]
theorem rowB_next (s : Int) {l : List Arc} {k : Nat} {a : Arc} (h : l[k]? = some a) : rowB s none (l.take (k + 1)) = rowB s none (l.take k) ++ oneB s (if k = 0 then none else l[k - 1]?) a := by
  obtain ⟨hk, he⟩ := List.getElem?_eq_some_iff.1 h
  rw [List.take_succ_eq_append_getElem hk, he, rowB_snoc]
  congr 2
  rw [List.getLast?_eq_getElem?, List.length_take, Nat.min_eq_left (by omega)]
  by_cases h0 : k = 0
  · subst h0; simp
  · rw [if_neg h0, List.getElem?_take_of_lt (by omega)]
    cases l[k - 1]? <;> rfl
theorem asc_at {l : List Arc} {i : Nat} {a b : Arc} (h : ascB l = true) (hi : 1 ≤ i) (ha : l[i - 1]? = some a) (hb : l[i]? = some b) : a.ev < b.ev ∨ a.ev = b.ev ∧ a.to < b.to := by
  cases hq : lessB a b with
  | false =>
    rw [asc_bad hi ha hb hq] at h
    cases h
  | true => exact of_decide_eq_true hq
theorem uv_le (n : Nat) (h : (n : Int) ≤ 9223372036854775807) : (uv n).length ≤ 9 := uv_len 8 n (by omega)
theorem zz_le (k : Int) (h : -1000000000000 ≤ k ∧ k ≤ 1000000000000) : (zz k).length ≤ 9 := by
  unfold zz
  split
  · exact uv_le _ (by omega)
  · exact uv_le _ (by omega)
theorem own_ne {w : World} {v : Value} {l : List Nat} {g : Nat} {cs : Array Value} (h : Own w v l) (hg : Blk w g 55 cs) : ∀ k, v.ownBlock = some k → ¬ k = g := fun k hk e => own_apart h hg (by decide) (e ▸ hk)

/-- an arc that can be packed -/
def okR (a : Arc) : Prop := 0 ≤ a.ev ∧ a.ev ≤ 1025 ∧ 0 ≤ a.to ∧ a.to ≤ 16384
set_option maxRecDepth 100000 in
theorem row_any (v : Value) (l : List Nat) (s : Int) (A : Option Addr) (n c B : Nat) (ar : List Arc) (w : World) (h : Own w v l) (hR : Rd w B 2 A n (cellsOf Arc.cells ar)) (hB : B ≤ w.heap.size) (hv : ∀ g, v.ownBlock = some g → B ≤ g)
    (hok : ∀ a ∈ ar, okR a) (hasc : ascB ar = true) (hs : 0 ≤ s ∧ s ≤ 16384) (hn : n ≤ 1000000) (hl : l.length ≤ 100000000) :
    Calls Try.prog 65 #[v, .int .i64 s, .slice A n c] w (AppPost w v l (rowF s ar)) := by
  have HN := Lib.hid (hR.len Arc.cells_len (by decide))
  have H := Lib.hid hR
  have HO := Lib.hid h
  have HV := Lib.hid hv
  have HOK := Lib.hid hok
  have HASC := Lib.hid hasc
  obtain ⟨hs0, hs1⟩ := hs
  clear h hR hv hok hasc
  go_enter Try.func65, Try.ntmps65
  go_wp2_with fail
  refine (uvarint_any v l n _ HO.out (by omega) (by omega)).mono ?_
  rintro e w1 ⟨v1, rfl, ho1, hO1, hF1⟩
  obtain ⟨l1, hl1⟩ : ∃ l1, l ++ uv n = l1 := ⟨_, rfl⟩
  have hlu := uv_le n (by omega)
  have hl1n : l1.length ≤ l.length + 9 := by rw [← hl1, List.length_append]; omega
  rw [hl1] at ho1
  have HL1 := Lib.hid hl1
  clear hl1 hlu
  have HO1 := Lib.hid (ho1.alloc (.cells #[.int .i64 0, .int .i64 0] 55))
  have HOO1 := Lib.hid (hO1.alloc (.cells #[.int .i64 0, .int .i64 0] 55))
  have HF1 := Lib.hid hF1
  have HBl := Lib.hid (Blk.new w1 55 #[.int .i64 0, .int .i64 0])
  have HW1 := Lib.hid hO1.size
  obtain ⟨A1, c1, rfl, _, _⟩ := ho1.form
  clear ho1 hO1 hF1
  go_wp2_with fail
  go_loopw [0, 18] (fun vb vk wr => ∃ (k : Nat) (l' : List Nat) (le lt : Int), k ≤ n ∧ vk = .int .i64 k ∧ l'.length ≤ l.length + 9 + 18 * k ∧ Hid (l' = l ++ (uv n ++ rowB s none (ar.take k)) ∧ (if k = 0 then le = 0 ∧ lt = 0 else ar[k - 1]? = some ⟨le, lt⟩)) ∧
    Hid (Own wr vb l' ∧ Blk wr w1.heap.size 55 #[.int .i64 le, .int .i64 lt] ∧ Outside (fun k => v.ownBlock = some k) w wr ∧ From w v vb)) (fun _ vk _ => n - (intOf vk).toNat)
  case atStart => exact ⟨0, l1, 0, 0, Nat.zero_le _, rfl, by omega, Lib.hid ⟨by rw [← HL1.out]; simp [rowB], by simp⟩, Lib.hid ⟨HO1.out, HBl.out, HOO1.out, HF1.out⟩⟩
  case round =>
    obtain ⟨k, l', le, lt, hk, rfl, hl', HE, HW⟩ := hrel
    obtain ⟨Ao, capo, rfl, hcap, _⟩ := HW.out.1.form
    by_cases hlt : k < n
    · obtain ⟨b1, o1, a, rfl, hb1, ha, c0, d0⟩ := (H.out.keep (w' := wr) (fun p hp => (HW.out.2.2.1.below (B := B) hB (fun k hk e => by have := HV.out k e; omega)).cell hp)).arc hlt
      obtain ⟨ae, at_⟩ := a
      obtain ⟨q1, q2, q3, q4⟩ := HOK.out _ (List.mem_of_getElem? ha)
      dsimp only at q1 q2 q3 q4 c0 d0
      have HA := Lib.hid ha
      have HNX := Lib.hid (rowB_next s ha)
      have hbl := HW.out.2.1.cell
      have hbll := HW.out.2.1.lt
      have hb1l : b1 < wr.heap.size := by have := HW.out.2.2.1.size; omega
      have HNb := Lib.hid (Blk.new wr 55 #[.int .i64 ae, .int .i64 at_])
      have HBlA := Lib.hid (HW.out.2.1.alloc (.cells #[.int .i64 ae, .int .i64 at_] 55))
      have HOA := Lib.hid (HW.out.1.alloc (.cells #[.int .i64 ae, .int .i64 at_] 55))
      have HOutA := Lib.hid (HW.out.2.2.1.alloc (.cells #[.int .i64 ae, .int .i64 at_] 55))
      have hprev : (k = 0 ∧ le = 0 ∧ lt = 0) ∨ (0 < k ∧ (le < ae ∨ le = ae ∧ lt < at_) ∧ ar[k - 1]? = some ⟨le, lt⟩ ∧ 0 ≤ le ∧ 0 ≤ lt ∧ lt ≤ 16384) := by
        have h1 := HE.out.2
        by_cases h0 : k = 0
        · rw [if_pos h0] at h1
          exact .inl ⟨h0, h1⟩
        · rw [if_neg h0] at h1
          have h2 := HOK.out _ (List.mem_of_getElem? h1)
          exact .inr ⟨by omega, asc_at HASC.out (by omega) h1 HA.out, h1, h2.1, h2.2.2.1, h2.2.2.2⟩
      obtain ⟨m, hm⟩ : ∃ m : Nat, ae - le = m := ⟨(ae - le).toNat, by omega⟩
      have hm2 : (m : Int) ≤ 1025 := by omega
      have hle0 : 0 ≤ le := by omega
      have hle1 : le ≤ 1025 := by omega
      have hlt0 : 0 ≤ lt := by omega
      have hlt1 : lt ≤ 16384 := by omega
      have HM := Lib.hid hm
      have HP := Lib.hid hprev
      have hum := uv_le m (by omega)
      clear hm hprev ha
      go_wp2_with fail
      rw [HM.out]
      refine (uvarint_any _ l' m _ HOA.out (by omega) (by omega)).mono ?_
      rintro e w3 ⟨v3, rfl, ho3, hO3, hF3⟩
      obtain ⟨l3, hl3⟩ : ∃ l3, l' ++ uv m = l3 := ⟨_, rfl⟩
      have hl3n : l3.length ≤ l.length + 18 + 18 * k := by rw [← hl3, List.length_append]; omega
      rw [hl3] at ho3
      have HL3 := Lib.hid hl3
      have HO3 := Lib.hid ho3
      have HOut3 := Lib.hid (HOutA.out.from HW.out.2.2.2 hO3)
      have HF3 := Lib.hid (HW.out.2.2.2.trans hF3 HOutA.out.size)
      have hBl3 := HBlA.out.out hO3 (fun h => own_ne HOA.out HBlA.out _ h rfl)
      have hNb3 := HNb.out.out hO3 (fun h => own_ne HOA.out HNb.out _ h rfl)
      have HBl3 := Lib.hid hBl3
      have HNb3 := Lib.hid hNb3
      have e3c := hBl3.cell
      have e3l := hBl3.lt
      have f3c := hNb3.cell
      have f3l := hNb3.lt
      obtain ⟨A3, c3, rfl, _, _⟩ := ho3.form
      clear ho3 hO3 hF3 hl3 hBl3 hNb3 hum hbl hbll c0 d0 hb1l
      by_cases hz : 0 < k ∧ m = 0
      · obtain ⟨hk0, rfl⟩ := hz
        obtain ⟨m2, hm2⟩ : ∃ m2 : Nat, at_ - lt - 1 = m2 := ⟨(at_ - lt - 1).toNat, by
          have h1 := HM.out
          rcases HP.out with h2 | h2 <;> omega⟩
        have HM2 := Lib.hid hm2
        have hm2b : (m2 : Int) ≤ 16384 := by rcases HP.out with h2 | h2 <;> omega
        have hum := uv_le m2 (by omega)
        have HNB := Lib.hid (show rowB s none (ar.take (k + 1)) = rowB s none (ar.take k) ++ (uv 0 ++ uv m2) by
          rw [HNX.out, if_neg (by omega)]
          rcases HP.out with h2 | ⟨_, _, h2, _⟩
          · omega
          · rw [h2]
            unfold oneB
            dsimp only
            rw [if_pos (by have := HM.out; omega), HM2.out]
            rfl)
        clear hm2
        go_wp2_with fail
        rw [HM2.out]
        refine (uvarint_any _ l3 m2 _ HO3.out (by omega) (by omega)).mono ?_
        rintro e w4 ⟨v4, rfl, ho4, hO4, hF4⟩
        obtain ⟨l4, hl4⟩ : ∃ l4, l3 ++ uv m2 = l4 := ⟨_, rfl⟩
        have hl4n : l4.length ≤ l.length + 9 + 18 * (k + 1) := by rw [← hl4, List.length_append]; omega
        rw [hl4] at ho4
        have HE4 := Lib.hid (show l4 = l ++ (uv n ++ rowB s none (ar.take (k + 1))) by rw [← hl4, ← HL3.out, HE.out.1, HNB.out]; simp)
        have HO4 := Lib.hid ho4
        have HOut4 := Lib.hid (HOut3.out.from HF3.out hO4)
        have HF4 := Lib.hid (HF3.out.trans hF4 HOut3.out.size)
        have hBl4 := HBl3.out.out hO4 (fun h => own_ne HO3.out HBl3.out _ h rfl)
        have hNb4 := HNb3.out.out hO4 (fun h => own_ne HO3.out HNb3.out _ h rfl)
        have HBl4 := Lib.hid hBl4
        have HOX := Lib.hid (((HO4.out.out (R := fun z => z = w1.heap.size) ((Outside.refl (fun z => z = w1.heap.size) w4).setCell (p := ⟨w1.heap.size, 0, none⟩) (.inl rfl) (.int .i64 ae)) (own_ne HO4.out HBl4.out))))
        have HBX := Lib.hid ((HBl4.out.put 0 (.int .i64 ae)).put 1 (.int .i64 at_))
        have HOY := Lib.hid (HOX.out.out (R := fun z => z = w1.heap.size) ((Outside.refl (fun z => z = w1.heap.size) _).setCell (p := ⟨w1.heap.size, 1, none⟩) (.inl rfl) (.int .i64 at_)) (own_ne HO4.out HBl4.out))
        have HOutX := Lib.hid ((HOut4.out.setCell (p := ⟨w1.heap.size, 0, none⟩) (.inr HW1.out) (.int .i64 ae)).setCell (p := ⟨w1.heap.size, 1, none⟩) (.inr HW1.out) (.int .i64 at_))
        have e4c := hBl4.cell
        have e4l := hBl4.lt
        have e4f := hBl4.frozen
        have f4c := hNb4.cell
        have f4l := hNb4.lt
        obtain ⟨A4, c4, rfl, _, _⟩ := ho4.form
        clear ho4 hO4 hF4 hl4 hBl4 hNb4 e3c e3l f3c f3l
        go_wp2_with fail
        go_roundw
        case rel => exact ⟨k + 1, l4, ae, at_, by omega, by go_num, by omega, Lib.hid ⟨HE4.out, by rw [if_neg (by omega)]; exact HA.out⟩, Lib.hid ⟨HOY.out, HBX.out, HOutX.out, HF4.out⟩⟩
        case measure => simp [intOf]; omega
      · have HNB := Lib.hid (show rowB s none (ar.take (k + 1)) = rowB s none (ar.take k) ++ (uv m ++ zz (at_ - s)) by
          rw [HNX.out]
          rcases HP.out with ⟨h2, h3, _⟩ | ⟨h2, _, h3, _⟩
          · rw [if_pos h2]
            unfold oneB
            dsimp only
            rw [show ae.toNat = m by have := HM.out; omega]
          · rw [if_neg (by omega), h3]
            unfold oneB
            dsimp only
            rw [if_neg (by have := HM.out; omega), HM.out]
            rfl)
        have hcond : k = 0 ∨ (0 < k ∧ ((m : Int) == 0) = false) := by
          by_cases h1 : k = 0
          · exact .inl h1
          · exact .inr ⟨by omega, beq_eq_false_iff_ne.2 (by omega)⟩
        have huz := zz_le (at_ - s) (by omega)
        have hkz : -1000000000000 ≤ at_ - s ∧ at_ - s ≤ 1000000000000 := by omega
        have HKZ := Lib.hid hkz
        clear hz hkz
        rcases hcond with rfl | ⟨hk0, hm0⟩
        all_goals go_wp2_with fail
        all_goals refine (zigzag_any _ l3 (at_ - s) _ HO3.out HKZ.out (by omega)).mono ?_
        all_goals rintro e w4 ⟨v4, rfl, ho4, hO4, hF4⟩
        all_goals obtain ⟨l4, hl4⟩ : ∃ l4, l3 ++ zz (at_ - s) = l4 := ⟨_, rfl⟩
        · have hl4n : l4.length ≤ l.length + 9 + 18 * (0 + 1) := by rw [← hl4, List.length_append]; omega
          rw [hl4] at ho4
          have HE4 := Lib.hid (show l4 = l ++ (uv n ++ rowB s none (ar.take (0 + 1))) by rw [← hl4, ← HL3.out, HE.out.1, HNB.out]; simp)
          have HO4 := Lib.hid ho4
          have HOut4 := Lib.hid (HOut3.out.from HF3.out hO4)
          have HF4 := Lib.hid (HF3.out.trans hF4 HOut3.out.size)
          have hBl4 := HBl3.out.out hO4 (fun h => own_ne HO3.out HBl3.out _ h rfl)
          have hNb4 := HNb3.out.out hO4 (fun h => own_ne HO3.out HNb3.out _ h rfl)
          have HBl4 := Lib.hid hBl4
          have HOX := Lib.hid (((HO4.out.out (R := fun z => z = w1.heap.size) ((Outside.refl (fun z => z = w1.heap.size) w4).setCell (p := ⟨w1.heap.size, 0, none⟩) (.inl rfl) (.int .i64 ae)) (own_ne HO4.out HBl4.out))))
          have HBX := Lib.hid ((HBl4.out.put 0 (.int .i64 ae)).put 1 (.int .i64 at_))
          have HOY := Lib.hid (HOX.out.out (R := fun z => z = w1.heap.size) ((Outside.refl (fun z => z = w1.heap.size) _).setCell (p := ⟨w1.heap.size, 1, none⟩) (.inl rfl) (.int .i64 at_)) (own_ne HO4.out HBl4.out))
          have HOutX := Lib.hid ((HOut4.out.setCell (p := ⟨w1.heap.size, 0, none⟩) (.inr HW1.out) (.int .i64 ae)).setCell (p := ⟨w1.heap.size, 1, none⟩) (.inr HW1.out) (.int .i64 at_))
          have e4c := hBl4.cell
          have e4l := hBl4.lt
          have e4f := hBl4.frozen
          have f4c := hNb4.cell
          have f4l := hNb4.lt
          obtain ⟨A4, c4, rfl, _, _⟩ := ho4.form
          clear ho4 hO4 hF4 hl4 hBl4 hNb4 e3c e3l f3c f3l
          go_wp2_with fail
          go_roundw
          case rel => exact ⟨1, l4, ae, at_, by omega, by go_num, by omega, Lib.hid ⟨HE4.out, by rw [if_neg (by omega)]; exact HA.out⟩, Lib.hid ⟨HOY.out, HBX.out, HOutX.out, HF4.out⟩⟩
          case measure => simp [intOf]; omega
        · have hl4n : l4.length ≤ l.length + 9 + 18 * (k + 1) := by rw [← hl4, List.length_append]; omega
          rw [hl4] at ho4
          have HE4 := Lib.hid (show l4 = l ++ (uv n ++ rowB s none (ar.take (k + 1))) by rw [← hl4, ← HL3.out, HE.out.1, HNB.out]; simp)
          have HO4 := Lib.hid ho4
          have HOut4 := Lib.hid (HOut3.out.from HF3.out hO4)
          have HF4 := Lib.hid (HF3.out.trans hF4 HOut3.out.size)
          have hBl4 := HBl3.out.out hO4 (fun h => own_ne HO3.out HBl3.out _ h rfl)
          have hNb4 := HNb3.out.out hO4 (fun h => own_ne HO3.out HNb3.out _ h rfl)
          have HBl4 := Lib.hid hBl4
          have HOX := Lib.hid (((HO4.out.out (R := fun z => z = w1.heap.size) ((Outside.refl (fun z => z = w1.heap.size) w4).setCell (p := ⟨w1.heap.size, 0, none⟩) (.inl rfl) (.int .i64 ae)) (own_ne HO4.out HBl4.out))))
          have HBX := Lib.hid ((HBl4.out.put 0 (.int .i64 ae)).put 1 (.int .i64 at_))
          have HOY := Lib.hid (HOX.out.out (R := fun z => z = w1.heap.size) ((Outside.refl (fun z => z = w1.heap.size) _).setCell (p := ⟨w1.heap.size, 1, none⟩) (.inl rfl) (.int .i64 at_)) (own_ne HO4.out HBl4.out))
          have HOutX := Lib.hid ((HOut4.out.setCell (p := ⟨w1.heap.size, 0, none⟩) (.inr HW1.out) (.int .i64 ae)).setCell (p := ⟨w1.heap.size, 1, none⟩) (.inr HW1.out) (.int .i64 at_))
          have e4c := hBl4.cell
          have e4l := hBl4.lt
          have e4f := hBl4.frozen
          have f4c := hNb4.cell
          have f4l := hNb4.lt
          obtain ⟨A4, c4, rfl, _, _⟩ := ho4.form
          clear ho4 hO4 hF4 hl4 hBl4 hNb4 e3c e3l f3c f3l
          go_wp2_with fail
          go_roundw
          case rel => exact ⟨k + 1, l4, ae, at_, by omega, by go_num, by omega, Lib.hid ⟨HE4.out, by rw [if_neg (by omega)]; exact HA.out⟩, Lib.hid ⟨HOY.out, HBX.out, HOutX.out, HF4.out⟩⟩
          case measure => simp [intOf]; omega
    · have hk2 : ar.take k = ar := List.take_of_length_le (by rw [HN.out]; omega)
      have HF := Lib.hid (show l' = l ++ rowF s ar by rw [HE.out.1, hk2, rowF, HN.out])
      clear hk2
      go_wp2_with fail
      go_ret
      exact ⟨_, rfl, by rw [← HF.out]; exact HW.out.1, HW.out.2.2.1, HW.out.2.2.2⟩

end Go.Proofs.Ytonpdclccgpceaa
namespace Go.Proofs.Ytonpdclccgpceaa
open Go Go.RowKit
set_option maxHeartbeats 4000000

theorem fresh_post {W : Nat} {w0 w' : World} {v v' : Value} (hv : ∀ g, v.ownBlock = some g → W ≤ g) (hW : W ≤ w0.heap.size) (hO : Outside (fun k => v.ownBlock = some k) w0 w') (hF : From w0 v v') : Below W w0 w' ∧ ∀ g, v'.ownBlock = some g → W ≤ g := by
  refine ⟨hO.below hW fun k hk e => by have := hv k e; omega, fun g hg => ?_⟩
  rcases hF with h | ⟨g', h, h1⟩
  · exact hv g (h.symm.trans hg)
  · have : g' = g := by simpa using h.symm.trans hg
    omega
/-- what a function gives that makes bytes of its own -/
def NewPost (w : World) (l : List Nat) (e : Ending) (w' : World) : Prop := ∃ v', e = .returned v' ∧ Own w' v' l ∧ Below w.heap.size w w' ∧ ∀ g, v'.ownBlock = some g → w.heap.size ≤ g

theorem Own.drew {w : World} {v : Value} {l : List Nat} (h : Own w v l) : Own w.drew v l := h.out ((Outside.refl (fun _ => False) w).drew) (fun _ _ h => h)
theorem ruvarint0_any (v : Value) (l : List Nat) (w : World) (h : Own w v l) (hl : l.length ≤ 1000000000) : Calls Try.prog 50 #[v, .int .i64 0] w (AppPost w v l (uv 0)) := ruvarint_any v l 0 w h (by decide) hl

set_option maxRecDepth 100000 in
theorem rrow_any (A : Option Addr) (n c B : Nat) (ls : List (List Arc)) (s : Nat) (ar : List Arc) (w : World) (h : RdL w B A n ls) (hB : B ≤ w.heap.size) (hs : ls[s]? = some ar)
    (hok : ∀ a ∈ ar, okR a) (hasc : ascB ar = true) (hs1 : s ≤ 16384) (hn : ar.length ≤ 1000000) :
    Calls Try.prog 51 #[lts A n c, .int .i64 s] w (NewPost w (rowF s ar)) := by
  have hsn : s < n := by
    have h1 := (List.getElem?_eq_some_iff.1 hs).1
    rw [h.len] at h1
    exact h1
  obtain ⟨b0, o0, l0, A', m, c', rfl, hb0, hl0, hlm, e0, hR⟩ := (h.alloc hB (.cells #[.slice A n c] 25)).row hsn
  obtain rfl : ar = l0 := by
    rw [hs] at hl0
    injection hl0
  have H := Lib.hid hR
  have HN := Lib.hid hlm
  have HOK := Lib.hid hok
  have HASC := Lib.hid hasc
  have HB0 := Lib.hid ((Below.refl w.heap.size w).alloc (Nat.le_refl _) (.cells #[.slice (some ⟨b0, o0, none⟩) n c] 25))
  have hm : m ≤ 1000000 := by omega
  have hb0l : b0 < w.heap.size := by omega
  clear h hR hl0 hok hasc hs hn hlm
  go_enter Try.func51, Try.ntmps51
  go_wp2_with fail
  refine (ruvarint_any (.slice none 0 0) [] m _ (Own.nil _) (by omega) (by simp)).mono ?_
  rintro e w1 ⟨v1, rfl, ho1, hO1, hF1⟩
  obtain ⟨hb1, hf1⟩ := fresh_post (W := w.heap.size) (fun g hg => by simp [Value.ownBlock] at hg) (by simp) hO1 hF1
  have HB1 := Lib.hid (HB0.out.trans hb1)
  have HF1 := Lib.hid hf1
  have hlu := uv_le m (by omega)
  rw [List.nil_append] at ho1
  obtain ⟨l1, hl1⟩ : ∃ l1, uv m = l1 := ⟨_, rfl⟩
  rw [hl1] at ho1 hlu
  have HL1 := Lib.hid hl1
  have HO1 := Lib.hid ho1
  obtain ⟨A1, c1, rfl, _, _⟩ := ho1.form
  clear ho1 hO1 hF1 hb1 hf1 hl1 e0
  go_wp2_with fail
  go_loopw [6, 7] (fun vb vk wr => ∃ (k : Nat) (l' : List Nat), k ≤ m ∧ vk = .int .i64 k ∧ l'.length ≤ 9 + 18 * k ∧ Hid (l' = uv m ++ rowB s none (ar.take k)) ∧ Hid (Own wr vb l' ∧ (∀ g, vb.ownBlock = some g → w.heap.size ≤ g) ∧ Below w.heap.size w wr)) (fun _ vk _ => m - (intOf vk).toNat)
  case atStart => exact ⟨0, l1, Nat.zero_le _, rfl, by omega, Lib.hid (by rw [← HL1.out]; simp [rowB]), Lib.hid ⟨HO1.out, HF1.out, HB1.out⟩⟩
  case round =>
    obtain ⟨k, l', hk, rfl, hl', HE, HW⟩ := hrel
    obtain ⟨Ao, capo, rfl, hcap, _⟩ := HW.out.1.form
    by_cases hlt : k < m
    · have HRW := Lib.hid (H.out.keep (w' := wr) (fun p hp => (HW.out.2.2.cell (by omega)).trans (World.cell?_alloc_lt w _ p (by omega)).symm))
      obtain ⟨b2, o2, a, rfl, hb2, ha, c0, d0⟩ := HRW.out.arc hlt
      obtain ⟨ae, at_⟩ := a
      obtain ⟨q1, q2, q3, q4⟩ := HOK.out _ (List.mem_of_getElem? ha)
      dsimp only at q1 q2 q3 q4 c0 d0
      have HA := Lib.hid ha
      have HNX := Lib.hid (rowB_next (s : Int) ha)
      have hb2l : b2 < wr.heap.size := by have := HW.out.2.2.size; omega
      have hds := HW.out.2.2.size
      have HDS := Lib.hid hds
      clear hds
      have HCC := Lib.hid (fun (j : Nat) (u : Value) (w5 : World) (hc : wr.cell? ⟨b2, j, none⟩ = some u) (hb : Below w.heap.size wr w5) => (hb.cell (p := ⟨b2, j, none⟩) (by dsimp only; omega)).trans hc)
      by_cases hk0 : k = 0
      · subst hk0
        obtain ⟨x, hx⟩ : ∃ x : Nat, ae = x := ⟨ae.toNat, by omega⟩
        subst hx
        have HNB := Lib.hid (show rowB s none (ar.take (0 + 1)) = rowB s none (ar.take 0) ++ (uv x ++ zz (at_ - s)) by
          rw [HNX.out, if_pos rfl]
          rfl)
        have hum := uv_le x (by omega)
        have huz := zz_le (at_ - s) (by omega)
        (try simp only [Nat.zero_mul, Nat.add_zero] at c0 d0)
        go_wp2_with (first | ((with_reducible show wpPlan _ _ _ [] _ _ _); refine wpPlan_nil ?_) | ((with_reducible show wpPlan _ _ _ ((_, 0, _) :: _) _ _ _); first | (refine wpPlan_read0 rfl ?hw rfl (fun _ _ _ => ?_); case hw => ((conv => (lhs; whnf)); first | done | with_reducible rfl)) | (refine wpPlan_skip0 rfl ?hw ?_; (case hw => ((conv => (lhs; whnf)); first | done | with_reducible rfl)); (try simp only [List.getElem_toArray, List.getElem_cons_succ, List.getElem_cons_zero, Act.put, List.setIfInBounds_toArray, List.set_cons_zero, List.set_cons_succ]))) | ((with_reducible show wpPlan _ _ _ ((_, 1, _) :: _) _ _ _); first | (refine wpPlan_read1d rfl ?hw rfl rfl (fun _ _ _ => ?_); case hw => ((conv => (lhs; whnf)); first | done | with_reducible rfl)) | (refine wpPlan_skip1d rfl ?hw ?_; (case hw => ((conv => (lhs; whnf)); first | done | with_reducible rfl)); (try simp only [List.getElem_toArray, List.getElem_cons_succ, List.getElem_cons_zero, Act.put, List.setIfInBounds_toArray, List.set_cons_zero, List.set_cons_succ])) | (refine wpPlan_read1 rfl ?hw rfl (fun _ _ _ => ?_); case hw => ((conv => (lhs; whnf)); first | done | with_reducible rfl))) | ((with_reducible show wpPlan _ _ _ ((_, 2, _) :: _) _ _ _); first | (refine wpPlan_eff rfl ?hw (fun _ _ => ?_); case hw => ((conv => (lhs; whnf)); first | done | with_reducible rfl)) | (refine wpPlan_skip2 rfl ?hw ?_; (case hw => ((conv => (lhs; whnf)); first | done | with_reducible rfl)); (try simp only [List.getElem_toArray, List.getElem_cons_succ, List.getElem_cons_zero, Act.put, List.setIfInBounds_toArray, List.set_cons_zero, List.set_cons_succ]))) | ((with_reducible show wpPlan _ _ _ _ _ _ _); refine wpPlan_fork ?_ ?_) | ((with_reducible show Owed _ _ _ [] _ _ _ _ _); refine Owed.none_ ?_) | ((with_reducible show Owed _ _ _ _ [] _ _ _ _); refine Owed.nil_ ?_) | ((with_reducible show Owed _ _ _ _ _ _ _ _ _); first | (refine Owed.miss rfl ?_) | (refine Owed.hit ?_ ?_)) | ((with_reducible show Same _ _ _ _ _); intro _; go_simp; done) | (with_reducible exact True.intro) | ((with_reducible show Code.wp _ (Code.region 8 _ true) _ _ _); refine wp_region_plan [(0, 0, []), (1, 0, []), (2, 1, []), (3, 1, []), (4, 1, []), (6, 0, []), (7, 1, []), (8, 1, []), (9, 1, []), (10, 0, []), (11, 1, []), (5, 2, [7, 8, 9, 11]), (12, 2, []), (13, 0, [])] (by kernel_rfl) (by kernel_rfl) (by kernel_rfl) ?_) | ((with_reducible show Code.wp _ (Code.region 9 _ true) _ _ _); refine wp_region_plan [(0, 0, []), (1, 0, []), (2, 1, []), (3, 1, []), (4, 1, []), (5, 0, []), (6, 0, []), (7, 1, []), (8, 1, []), (9, 1, []), (10, 1, []), (11, 1, []), (12, 0, [])] (by kernel_rfl) (by kernel_rfl) (by kernel_rfl) ?_) | ((with_reducible show Code.wp _ (Code.region 10 _ true) _ _ _); refine wp_region_plan [(0, 0, []), (2, 0, []), (3, 0, []), (4, 1, []), (5, 1, []), (6, 1, []), (7, 0, []), (8, 0, []), (9, 1, []), (10, 1, []), (11, 1, []), (12, 1, []), (13, 1, []), (14, 1, []), (1, 2, [4, 5, 6, 9, 10, 11, 12, 13, 14]), (15, 2, []), (16, 0, [])] (by kernel_rfl) (by kernel_rfl) (by kernel_rfl) ?_) | ((with_reducible show Code.wp _ (Code.region 6 _ true) _ _ _); refine wp_region_plan [(0, 0, []), (1, 0, []), (2, 0, []), (3, 1, []), (4, 1, []), (5, 1, []), (6, 0, []), (7, 0, []), (8, 1, []), (9, 1, []), (10, 1, []), (11, 1, []), (12, 1, []), (14, 0, []), (15, 0, []), (16, 1, []), (17, 1, []), (18, 1, []), (19, 0, []), (20, 1, []), (13, 2, [16, 17, 18, 20]), (21, 2, []), (22, 0, [])] (by kernel_rfl) (by kernel_rfl) (by kernel_rfl) ?_))
        refine (ruvarint_any _ l' x _ HW.out.1.drew (by omega) (by omega)).mono ?_
        rintro e w3 ⟨v3, rfl, ho3, hO3, hF3⟩
        have hO3 : Outside (fun k => (Value.slice Ao l'.length capo).ownBlock = some k) wr w3 := (Outside.refl _ wr).drew.trans hO3
        have hF3 : From wr (Value.slice Ao l'.length capo) v3 := hF3
        obtain ⟨hb3, hf3⟩ := fresh_post (W := w.heap.size) HW.out.2.1 HDS.out hO3 hF3
        have HB3 := Lib.hid (HW.out.2.2.trans hb3)
        have HF3 := Lib.hid hf3
        obtain ⟨l3, hl3⟩ : ∃ l3, l' ++ uv x = l3 := ⟨_, rfl⟩
        have hl3n : l3.length ≤ l'.length + 9 := by rw [← hl3, List.length_append]; omega
        rw [hl3] at ho3
        have HL3 := Lib.hid hl3
        have HO3 := Lib.hid ho3
        have c3 := HCC.out _ _ w3 c0 hb3
        have d3 := HCC.out _ _ w3 d0 hb3
        have hb3l : b2 < w3.heap.size := Nat.lt_of_lt_of_le hb2l hb3.size
        obtain ⟨A3, c3', rfl, _, _⟩ := ho3.form
        clear ho3 hO3 hF3 hl3 hb3 hf3 hum
        go_wp2_with (first | ((with_reducible show wpPlan _ _ _ [] _ _ _); refine wpPlan_nil ?_) | ((with_reducible show wpPlan _ _ _ ((_, 0, _) :: _) _ _ _); first | (refine wpPlan_read0 rfl ?hw rfl (fun _ _ _ => ?_); case hw => ((conv => (lhs; whnf)); first | done | with_reducible rfl)) | (refine wpPlan_skip0 rfl ?hw ?_; (case hw => ((conv => (lhs; whnf)); first | done | with_reducible rfl)); (try simp only [List.getElem_toArray, List.getElem_cons_succ, List.getElem_cons_zero, Act.put, List.setIfInBounds_toArray, List.set_cons_zero, List.set_cons_succ]))) | ((with_reducible show wpPlan _ _ _ ((_, 1, _) :: _) _ _ _); first | (refine wpPlan_read1d rfl ?hw rfl rfl (fun _ _ _ => ?_); case hw => ((conv => (lhs; whnf)); first | done | with_reducible rfl)) | (refine wpPlan_skip1d rfl ?hw ?_; (case hw => ((conv => (lhs; whnf)); first | done | with_reducible rfl)); (try simp only [List.getElem_toArray, List.getElem_cons_succ, List.getElem_cons_zero, Act.put, List.setIfInBounds_toArray, List.set_cons_zero, List.set_cons_succ])) | (refine wpPlan_read1 rfl ?hw rfl (fun _ _ _ => ?_); case hw => ((conv => (lhs; whnf)); first | done | with_reducible rfl))) | ((with_reducible show wpPlan _ _ _ ((_, 2, _) :: _) _ _ _); first | (refine wpPlan_eff rfl ?hw (fun _ _ => ?_); case hw => ((conv => (lhs; whnf)); first | done | with_reducible rfl)) | (refine wpPlan_skip2 rfl ?hw ?_; (case hw => ((conv => (lhs; whnf)); first | done | with_reducible rfl)); (try simp only [List.getElem_toArray, List.getElem_cons_succ, List.getElem_cons_zero, Act.put, List.setIfInBounds_toArray, List.set_cons_zero, List.set_cons_succ]))) | ((with_reducible show wpPlan _ _ _ _ _ _ _); refine wpPlan_fork ?_ ?_) | ((with_reducible show Owed _ _ _ [] _ _ _ _ _); refine Owed.none_ ?_) | ((with_reducible show Owed _ _ _ _ [] _ _ _ _); refine Owed.nil_ ?_) | ((with_reducible show Owed _ _ _ _ _ _ _ _ _); first | (refine Owed.miss rfl ?_) | (refine Owed.hit ?_ ?_)) | ((with_reducible show Same _ _ _ _ _); intro _; go_simp; done) | (with_reducible exact True.intro) | ((with_reducible show Code.wp _ (Code.region 8 _ true) _ _ _); refine wp_region_plan [(0, 0, []), (1, 0, []), (2, 1, []), (3, 1, []), (4, 1, []), (6, 0, []), (7, 1, []), (8, 1, []), (9, 1, []), (10, 0, []), (11, 1, []), (5, 2, [7, 8, 9, 11]), (12, 2, []), (13, 0, [])] (by kernel_rfl) (by kernel_rfl) (by kernel_rfl) ?_) | ((with_reducible show Code.wp _ (Code.region 9 _ true) _ _ _); refine wp_region_plan [(0, 0, []), (1, 0, []), (2, 1, []), (3, 1, []), (4, 1, []), (5, 0, []), (6, 0, []), (7, 1, []), (8, 1, []), (9, 1, []), (10, 1, []), (11, 1, []), (12, 0, [])] (by kernel_rfl) (by kernel_rfl) (by kernel_rfl) ?_) | ((with_reducible show Code.wp _ (Code.region 10 _ true) _ _ _); refine wp_region_plan [(0, 0, []), (2, 0, []), (3, 0, []), (4, 1, []), (5, 1, []), (6, 1, []), (7, 0, []), (8, 0, []), (9, 1, []), (10, 1, []), (11, 1, []), (12, 1, []), (13, 1, []), (14, 1, []), (1, 2, [4, 5, 6, 9, 10, 11, 12, 13, 14]), (15, 2, []), (16, 0, [])] (by kernel_rfl) (by kernel_rfl) (by kernel_rfl) ?_) | ((with_reducible show Code.wp _ (Code.region 6 _ true) _ _ _); refine wp_region_plan [(0, 0, []), (1, 0, []), (2, 0, []), (3, 1, []), (4, 1, []), (5, 1, []), (6, 0, []), (7, 0, []), (8, 1, []), (9, 1, []), (10, 1, []), (11, 1, []), (12, 1, []), (14, 0, []), (15, 0, []), (16, 1, []), (17, 1, []), (18, 1, []), (19, 0, []), (20, 1, []), (13, 2, [16, 17, 18, 20]), (21, 2, []), (22, 0, [])] (by kernel_rfl) (by kernel_rfl) (by kernel_rfl) ?_))
        refine (rzigzag_any _ l3 (at_ - s) _ HO3.out (by omega) (by omega)).mono ?_
        rintro e w4 ⟨v4, rfl, ho4, hO4, hF4⟩
        obtain ⟨hb4, hf4⟩ := fresh_post (W := w.heap.size) HF3.out HB3.out.size hO4 hF4
        have HB4 := Lib.hid (HB3.out.trans hb4)
        have HF4 := Lib.hid hf4
        obtain ⟨l4, hl4⟩ : ∃ l4, l3 ++ zz (at_ - s) = l4 := ⟨_, rfl⟩
        have hl4n : l4.length ≤ 9 + 18 * (0 + 1) := by rw [← hl4, List.length_append]; omega
        rw [hl4] at ho4
        have HE4 := Lib.hid (show l4 = uv m ++ rowB s none (ar.take (0 + 1)) by rw [← hl4, ← HL3.out, HE.out, HNB.out]; simp)
        have HO4 := Lib.hid ho4
        obtain ⟨A4, c4', rfl, _, _⟩ := ho4.form
        clear ho4 hO4 hF4 hl4 hb4 hf4 huz
        go_wp2_with (first | ((with_reducible show wpPlan _ _ _ [] _ _ _); refine wpPlan_nil ?_) | ((with_reducible show wpPlan _ _ _ ((_, 0, _) :: _) _ _ _); first | (refine wpPlan_read0 rfl ?hw rfl (fun _ _ _ => ?_); case hw => ((conv => (lhs; whnf)); first | done | with_reducible rfl)) | (refine wpPlan_skip0 rfl ?hw ?_; (case hw => ((conv => (lhs; whnf)); first | done | with_reducible rfl)); (try simp only [List.getElem_toArray, List.getElem_cons_succ, List.getElem_cons_zero, Act.put, List.setIfInBounds_toArray, List.set_cons_zero, List.set_cons_succ]))) | ((with_reducible show wpPlan _ _ _ ((_, 1, _) :: _) _ _ _); first | (refine wpPlan_read1d rfl ?hw rfl rfl (fun _ _ _ => ?_); case hw => ((conv => (lhs; whnf)); first | done | with_reducible rfl)) | (refine wpPlan_skip1d rfl ?hw ?_; (case hw => ((conv => (lhs; whnf)); first | done | with_reducible rfl)); (try simp only [List.getElem_toArray, List.getElem_cons_succ, List.getElem_cons_zero, Act.put, List.setIfInBounds_toArray, List.set_cons_zero, List.set_cons_succ])) | (refine wpPlan_read1 rfl ?hw rfl (fun _ _ _ => ?_); case hw => ((conv => (lhs; whnf)); first | done | with_reducible rfl))) | ((with_reducible show wpPlan _ _ _ ((_, 2, _) :: _) _ _ _); first | (refine wpPlan_eff rfl ?hw (fun _ _ => ?_); case hw => ((conv => (lhs; whnf)); first | done | with_reducible rfl)) | (refine wpPlan_skip2 rfl ?hw ?_; (case hw => ((conv => (lhs; whnf)); first | done | with_reducible rfl)); (try simp only [List.getElem_toArray, List.getElem_cons_succ, List.getElem_cons_zero, Act.put, List.setIfInBounds_toArray, List.set_cons_zero, List.set_cons_succ]))) | ((with_reducible show wpPlan _ _ _ _ _ _ _); refine wpPlan_fork ?_ ?_) | ((with_reducible show Owed _ _ _ [] _ _ _ _ _); refine Owed.none_ ?_) | ((with_reducible show Owed _ _ _ _ [] _ _ _ _); refine Owed.nil_ ?_) | ((with_reducible show Owed _ _ _ _ _ _ _ _ _); first | (refine Owed.miss rfl ?_) | (refine Owed.hit ?_ ?_)) | ((with_reducible show Same _ _ _ _ _); intro _; go_simp; done) | (with_reducible exact True.intro) | ((with_reducible show Code.wp _ (Code.region 8 _ true) _ _ _); refine wp_region_plan [(0, 0, []), (1, 0, []), (2, 1, []), (3, 1, []), (4, 1, []), (6, 0, []), (7, 1, []), (8, 1, []), (9, 1, []), (10, 0, []), (11, 1, []), (5, 2, [7, 8, 9, 11]), (12, 2, []), (13, 0, [])] (by kernel_rfl) (by kernel_rfl) (by kernel_rfl) ?_) | ((with_reducible show Code.wp _ (Code.region 9 _ true) _ _ _); refine wp_region_plan [(0, 0, []), (1, 0, []), (2, 1, []), (3, 1, []), (4, 1, []), (5, 0, []), (6, 0, []), (7, 1, []), (8, 1, []), (9, 1, []), (10, 1, []), (11, 1, []), (12, 0, [])] (by kernel_rfl) (by kernel_rfl) (by kernel_rfl) ?_) | ((with_reducible show Code.wp _ (Code.region 10 _ true) _ _ _); refine wp_region_plan [(0, 0, []), (2, 0, []), (3, 0, []), (4, 1, []), (5, 1, []), (6, 1, []), (7, 0, []), (8, 0, []), (9, 1, []), (10, 1, []), (11, 1, []), (12, 1, []), (13, 1, []), (14, 1, []), (1, 2, [4, 5, 6, 9, 10, 11, 12, 13, 14]), (15, 2, []), (16, 0, [])] (by kernel_rfl) (by kernel_rfl) (by kernel_rfl) ?_) | ((with_reducible show Code.wp _ (Code.region 6 _ true) _ _ _); refine wp_region_plan [(0, 0, []), (1, 0, []), (2, 0, []), (3, 1, []), (4, 1, []), (5, 1, []), (6, 0, []), (7, 0, []), (8, 1, []), (9, 1, []), (10, 1, []), (11, 1, []), (12, 1, []), (14, 0, []), (15, 0, []), (16, 1, []), (17, 1, []), (18, 1, []), (19, 0, []), (20, 1, []), (13, 2, [16, 17, 18, 20]), (21, 2, []), (22, 0, [])] (by kernel_rfl) (by kernel_rfl) (by kernel_rfl) ?_))
        go_roundw
        case rel => exact ⟨0 + 1, l4, by omega, by go_num, by omega, HE4, Lib.hid ⟨HO4.out, HF4.out, HB4.out⟩⟩
        case measure => simp [intOf]; omega
      · obtain ⟨b4, o4, p, hab, hb4, hp, f0, g0⟩ := HRW.out.arc (i := k - 1) (by omega)
        obtain ⟨rfl, rfl⟩ : b2 = b4 ∧ o2 = o4 := by simpa using hab
        obtain ⟨pe, pt⟩ := p
        obtain ⟨r1, r2, r3, r4⟩ := HOK.out _ (List.mem_of_getElem? hp)
        dsimp only at r1 r2 r3 r4 f0 g0
        have hasc := asc_at HASC.out (by omega) hp HA.out
        dsimp only at hasc
        have HPP := Lib.hid hp
        obtain ⟨j, rfl⟩ : ∃ j, k = j + 1 := ⟨k - 1, by omega⟩
        simp only [Nat.add_sub_cancel] at f0 g0
        clear hab hp hk0
        by_cases heq : ae = pe
        · subst heq
          obtain ⟨x, hx⟩ : ∃ x : Nat, at_ - pt - 1 = x := ⟨(at_ - pt - 1).toNat, by omega⟩
          have HX := Lib.hid hx
          have hxb : (x : Int) ≤ 16384 := by omega
          have HNB := Lib.hid (show rowB s none (ar.take (j + 1 + 1)) = rowB s none (ar.take (j + 1)) ++ (uv 0 ++ uv x) by
            rw [HNX.out, if_neg (by omega), HPP.out]
            unfold oneB
            dsimp only
            rw [if_pos rfl, hx]
            rfl)
          have hum := uv_le 0 (by omega)
          have huz := uv_le x (by omega)
          clear hx
          go_wp2_with (first | ((with_reducible show wpPlan _ _ _ [] _ _ _); refine wpPlan_nil ?_) | ((with_reducible show wpPlan _ _ _ ((_, 0, _) :: _) _ _ _); first | (refine wpPlan_read0 rfl ?hw rfl (fun _ _ _ => ?_); case hw => ((conv => (lhs; whnf)); first | done | with_reducible rfl)) | (refine wpPlan_skip0 rfl ?hw ?_; (case hw => ((conv => (lhs; whnf)); first | done | with_reducible rfl)); (try simp only [List.getElem_toArray, List.getElem_cons_succ, List.getElem_cons_zero, Act.put, List.setIfInBounds_toArray, List.set_cons_zero, List.set_cons_succ]))) | ((with_reducible show wpPlan _ _ _ ((_, 1, _) :: _) _ _ _); first | (refine wpPlan_read1d rfl ?hw rfl rfl (fun _ _ _ => ?_); case hw => ((conv => (lhs; whnf)); first | done | with_reducible rfl)) | (refine wpPlan_skip1d rfl ?hw ?_; (case hw => ((conv => (lhs; whnf)); first | done | with_reducible rfl)); (try simp only [List.getElem_toArray, List.getElem_cons_succ, List.getElem_cons_zero, Act.put, List.setIfInBounds_toArray, List.set_cons_zero, List.set_cons_succ])) | (refine wpPlan_read1 rfl ?hw rfl (fun _ _ _ => ?_); case hw => ((conv => (lhs; whnf)); first | done | with_reducible rfl))) | ((with_reducible show wpPlan _ _ _ ((_, 2, _) :: _) _ _ _); first | (refine wpPlan_eff rfl ?hw (fun _ _ => ?_); case hw => ((conv => (lhs; whnf)); first | done | with_reducible rfl)) | (refine wpPlan_skip2 rfl ?hw ?_; (case hw => ((conv => (lhs; whnf)); first | done | with_reducible rfl)); (try simp only [List.getElem_toArray, List.getElem_cons_succ, List.getElem_cons_zero, Act.put, List.setIfInBounds_toArray, List.set_cons_zero, List.set_cons_succ]))) | ((with_reducible show wpPlan _ _ _ _ _ _ _); refine wpPlan_fork ?_ ?_) | ((with_reducible show Owed _ _ _ [] _ _ _ _ _); refine Owed.none_ ?_) | ((with_reducible show Owed _ _ _ _ [] _ _ _ _); refine Owed.nil_ ?_) | ((with_reducible show Owed _ _ _ _ _ _ _ _ _); first | (refine Owed.miss rfl ?_) | (refine Owed.hit ?_ ?_)) | ((with_reducible show Same _ _ _ _ _); intro _; go_simp; done) | (with_reducible exact True.intro) | ((with_reducible show Code.wp _ (Code.region 8 _ true) _ _ _); refine wp_region_plan [(0, 0, []), (1, 0, []), (2, 1, []), (3, 1, []), (4, 1, []), (6, 0, []), (7, 1, []), (8, 1, []), (9, 1, []), (10, 0, []), (11, 1, []), (5, 2, [7, 8, 9, 11]), (12, 2, []), (13, 0, [])] (by kernel_rfl) (by kernel_rfl) (by kernel_rfl) ?_) | ((with_reducible show Code.wp _ (Code.region 9 _ true) _ _ _); refine wp_region_plan [(0, 0, []), (1, 0, []), (2, 1, []), (3, 1, []), (4, 1, []), (5, 0, []), (6, 0, []), (7, 1, []), (8, 1, []), (9, 1, []), (10, 1, []), (11, 1, []), (12, 0, [])] (by kernel_rfl) (by kernel_rfl) (by kernel_rfl) ?_) | ((with_reducible show Code.wp _ (Code.region 10 _ true) _ _ _); refine wp_region_plan [(0, 0, []), (2, 0, []), (3, 0, []), (4, 1, []), (5, 1, []), (6, 1, []), (7, 0, []), (8, 0, []), (9, 1, []), (10, 1, []), (11, 1, []), (12, 1, []), (13, 1, []), (14, 1, []), (1, 2, [4, 5, 6, 9, 10, 11, 12, 13, 14]), (15, 2, []), (16, 0, [])] (by kernel_rfl) (by kernel_rfl) (by kernel_rfl) ?_) | ((with_reducible show Code.wp _ (Code.region 6 _ true) _ _ _); refine wp_region_plan [(0, 0, []), (1, 0, []), (2, 0, []), (3, 1, []), (4, 1, []), (5, 1, []), (6, 0, []), (7, 0, []), (8, 1, []), (9, 1, []), (10, 1, []), (11, 1, []), (12, 1, []), (14, 0, []), (15, 0, []), (16, 1, []), (17, 1, []), (18, 1, []), (19, 0, []), (20, 1, []), (13, 2, [16, 17, 18, 20]), (21, 2, []), (22, 0, [])] (by kernel_rfl) (by kernel_rfl) (by kernel_rfl) ?_))
          refine (ruvarint0_any _ l' _ HW.out.1.drew.drew (by omega)).mono ?_
          rintro e w3 ⟨v3, rfl, ho3, hO3, hF3⟩
          have hO3 : Outside (fun k => (Value.slice Ao l'.length capo).ownBlock = some k) wr w3 := (Outside.refl _ wr).drew.drew.trans hO3
          have hF3 : From wr (Value.slice Ao l'.length capo) v3 := hF3
          obtain ⟨hb3, hf3⟩ := fresh_post (W := w.heap.size) HW.out.2.1 HDS.out hO3 hF3
          have HB3 := Lib.hid (HW.out.2.2.trans hb3)
          have HF3 := Lib.hid hf3
          obtain ⟨l3, hl3⟩ : ∃ l3, l' ++ uv 0 = l3 := ⟨_, rfl⟩
          have hl3n : l3.length ≤ l'.length + 9 := by rw [← hl3, List.length_append]; omega
          rw [hl3] at ho3
          have HL3 := Lib.hid hl3
          have HO3 := Lib.hid ho3
          have c3 := HCC.out _ _ w3 c0 hb3
          have d3 := HCC.out _ _ w3 d0 hb3
          have f3 := HCC.out _ _ w3 f0 hb3
          have g3 := HCC.out _ _ w3 g0 hb3
          have hb3l : b2 < w3.heap.size := Nat.lt_of_lt_of_le hb2l hb3.size
          obtain ⟨A3, c3', rfl, _, _⟩ := ho3.form
          clear ho3 hO3 hF3 hl3 hb3 hf3 hum
          go_wp2_with (first | ((with_reducible show wpPlan _ _ _ [] _ _ _); refine wpPlan_nil ?_) | ((with_reducible show wpPlan _ _ _ ((_, 0, _) :: _) _ _ _); first | (refine wpPlan_read0 rfl ?hw rfl (fun _ _ _ => ?_); case hw => ((conv => (lhs; whnf)); first | done | with_reducible rfl)) | (refine wpPlan_skip0 rfl ?hw ?_; (case hw => ((conv => (lhs; whnf)); first | done | with_reducible rfl)); (try simp only [List.getElem_toArray, List.getElem_cons_succ, List.getElem_cons_zero, Act.put, List.setIfInBounds_toArray, List.set_cons_zero, List.set_cons_succ]))) | ((with_reducible show wpPlan _ _ _ ((_, 1, _) :: _) _ _ _); first | (refine wpPlan_read1d rfl ?hw rfl rfl (fun _ _ _ => ?_); case hw => ((conv => (lhs; whnf)); first | done | with_reducible rfl)) | (refine wpPlan_skip1d rfl ?hw ?_; (case hw => ((conv => (lhs; whnf)); first | done | with_reducible rfl)); (try simp only [List.getElem_toArray, List.getElem_cons_succ, List.getElem_cons_zero, Act.put, List.setIfInBounds_toArray, List.set_cons_zero, List.set_cons_succ])) | (refine wpPlan_read1 rfl ?hw rfl (fun _ _ _ => ?_); case hw => ((conv => (lhs; whnf)); first | done | with_reducible rfl))) | ((with_reducible show wpPlan _ _ _ ((_, 2, _) :: _) _ _ _); first | (refine wpPlan_eff rfl ?hw (fun _ _ => ?_); case hw => ((conv => (lhs; whnf)); first | done | with_reducible rfl)) | (refine wpPlan_skip2 rfl ?hw ?_; (case hw => ((conv => (lhs; whnf)); first | done | with_reducible rfl)); (try simp only [List.getElem_toArray, List.getElem_cons_succ, List.getElem_cons_zero, Act.put, List.setIfInBounds_toArray, List.set_cons_zero, List.set_cons_succ]))) | ((with_reducible show wpPlan _ _ _ _ _ _ _); refine wpPlan_fork ?_ ?_) | ((with_reducible show Owed _ _ _ [] _ _ _ _ _); refine Owed.none_ ?_) | ((with_reducible show Owed _ _ _ _ [] _ _ _ _); refine Owed.nil_ ?_) | ((with_reducible show Owed _ _ _ _ _ _ _ _ _); first | (refine Owed.miss rfl ?_) | (refine Owed.hit ?_ ?_)) | ((with_reducible show Same _ _ _ _ _); intro _; go_simp; done) | (with_reducible exact True.intro) | ((with_reducible show Code.wp _ (Code.region 8 _ true) _ _ _); refine wp_region_plan [(0, 0, []), (1, 0, []), (2, 1, []), (3, 1, []), (4, 1, []), (6, 0, []), (7, 1, []), (8, 1, []), (9, 1, []), (10, 0, []), (11, 1, []), (5, 2, [7, 8, 9, 11]), (12, 2, []), (13, 0, [])] (by kernel_rfl) (by kernel_rfl) (by kernel_rfl) ?_) | ((with_reducible show Code.wp _ (Code.region 9 _ true) _ _ _); refine wp_region_plan [(0, 0, []), (1, 0, []), (2, 1, []), (3, 1, []), (4, 1, []), (5, 0, []), (6, 0, []), (7, 1, []), (8, 1, []), (9, 1, []), (10, 1, []), (11, 1, []), (12, 0, [])] (by kernel_rfl) (by kernel_rfl) (by kernel_rfl) ?_) | ((with_reducible show Code.wp _ (Code.region 10 _ true) _ _ _); refine wp_region_plan [(0, 0, []), (2, 0, []), (3, 0, []), (4, 1, []), (5, 1, []), (6, 1, []), (7, 0, []), (8, 0, []), (9, 1, []), (10, 1, []), (11, 1, []), (12, 1, []), (13, 1, []), (14, 1, []), (1, 2, [4, 5, 6, 9, 10, 11, 12, 13, 14]), (15, 2, []), (16, 0, [])] (by kernel_rfl) (by kernel_rfl) (by kernel_rfl) ?_) | ((with_reducible show Code.wp _ (Code.region 6 _ true) _ _ _); refine wp_region_plan [(0, 0, []), (1, 0, []), (2, 0, []), (3, 1, []), (4, 1, []), (5, 1, []), (6, 0, []), (7, 0, []), (8, 1, []), (9, 1, []), (10, 1, []), (11, 1, []), (12, 1, []), (14, 0, []), (15, 0, []), (16, 1, []), (17, 1, []), (18, 1, []), (19, 0, []), (20, 1, []), (13, 2, [16, 17, 18, 20]), (21, 2, []), (22, 0, [])] (by kernel_rfl) (by kernel_rfl) (by kernel_rfl) ?_))
          rw [HX.out]
          refine (ruvarint_any _ l3 x _ HO3.out (by omega) (by omega)).mono ?_
          rintro e w4 ⟨v4, rfl, ho4, hO4, hF4⟩
          obtain ⟨hb4, hf4⟩ := fresh_post (W := w.heap.size) HF3.out HB3.out.size hO4 hF4
          have HB4 := Lib.hid (HB3.out.trans hb4)
          have HF4 := Lib.hid hf4
          obtain ⟨l4, hl4⟩ : ∃ l4, l3 ++ uv x = l4 := ⟨_, rfl⟩
          have hl4n : l4.length ≤ 9 + 18 * (j + 1 + 1) := by rw [← hl4, List.length_append]; omega
          rw [hl4] at ho4
          have HE4 := Lib.hid (show l4 = uv m ++ rowB s none (ar.take (j + 1 + 1)) by rw [← hl4, ← HL3.out, HE.out, HNB.out]; simp)
          have HO4 := Lib.hid ho4
          obtain ⟨A4, c4', rfl, _, _⟩ := ho4.form
          clear ho4 hO4 hF4 hl4 hb4 hf4 huz
          go_wp2_with (first | ((with_reducible show wpPlan _ _ _ [] _ _ _); refine wpPlan_nil ?_) | ((with_reducible show wpPlan _ _ _ ((_, 0, _) :: _) _ _ _); first | (refine wpPlan_read0 rfl ?hw rfl (fun _ _ _ => ?_); case hw => ((conv => (lhs; whnf)); first | done | with_reducible rfl)) | (refine wpPlan_skip0 rfl ?hw ?_; (case hw => ((conv => (lhs; whnf)); first | done | with_reducible rfl)); (try simp only [List.getElem_toArray, List.getElem_cons_succ, List.getElem_cons_zero, Act.put, List.setIfInBounds_toArray, List.set_cons_zero, List.set_cons_succ]))) | ((with_reducible show wpPlan _ _ _ ((_, 1, _) :: _) _ _ _); first | (refine wpPlan_read1d rfl ?hw rfl rfl (fun _ _ _ => ?_); case hw => ((conv => (lhs; whnf)); first | done | with_reducible rfl)) | (refine wpPlan_skip1d rfl ?hw ?_; (case hw => ((conv => (lhs; whnf)); first | done | with_reducible rfl)); (try simp only [List.getElem_toArray, List.getElem_cons_succ, List.getElem_cons_zero, Act.put, List.setIfInBounds_toArray, List.set_cons_zero, List.set_cons_succ])) | (refine wpPlan_read1 rfl ?hw rfl (fun _ _ _ => ?_); case hw => ((conv => (lhs; whnf)); first | done | with_reducible rfl))) | ((with_reducible show wpPlan _ _ _ ((_, 2, _) :: _) _ _ _); first | (refine wpPlan_eff rfl ?hw (fun _ _ => ?_); case hw => ((conv => (lhs; whnf)); first | done | with_reducible rfl)) | (refine wpPlan_skip2 rfl ?hw ?_; (case hw => ((conv => (lhs; whnf)); first | done | with_reducible rfl)); (try simp only [List.getElem_toArray, List.getElem_cons_succ, List.getElem_cons_zero, Act.put, List.setIfInBounds_toArray, List.set_cons_zero, List.set_cons_succ]))) | ((with_reducible show wpPlan _ _ _ _ _ _ _); refine wpPlan_fork ?_ ?_) | ((with_reducible show Owed _ _ _ [] _ _ _ _ _); refine Owed.none_ ?_) | ((with_reducible show Owed _ _ _ _ [] _ _ _ _); refine Owed.nil_ ?_) | ((with_reducible show Owed _ _ _ _ _ _ _ _ _); first | (refine Owed.miss rfl ?_) | (refine Owed.hit ?_ ?_)) | ((with_reducible show Same _ _ _ _ _); intro _; go_simp; done) | (with_reducible exact True.intro) | ((with_reducible show Code.wp _ (Code.region 8 _ true) _ _ _); refine wp_region_plan [(0, 0, []), (1, 0, []), (2, 1, []), (3, 1, []), (4, 1, []), (6, 0, []), (7, 1, []), (8, 1, []), (9, 1, []), (10, 0, []), (11, 1, []), (5, 2, [7, 8, 9, 11]), (12, 2, []), (13, 0, [])] (by kernel_rfl) (by kernel_rfl) (by kernel_rfl) ?_) | ((with_reducible show Code.wp _ (Code.region 9 _ true) _ _ _); refine wp_region_plan [(0, 0, []), (1, 0, []), (2, 1, []), (3, 1, []), (4, 1, []), (5, 0, []), (6, 0, []), (7, 1, []), (8, 1, []), (9, 1, []), (10, 1, []), (11, 1, []), (12, 0, [])] (by kernel_rfl) (by kernel_rfl) (by kernel_rfl) ?_) | ((with_reducible show Code.wp _ (Code.region 10 _ true) _ _ _); refine wp_region_plan [(0, 0, []), (2, 0, []), (3, 0, []), (4, 1, []), (5, 1, []), (6, 1, []), (7, 0, []), (8, 0, []), (9, 1, []), (10, 1, []), (11, 1, []), (12, 1, []), (13, 1, []), (14, 1, []), (1, 2, [4, 5, 6, 9, 10, 11, 12, 13, 14]), (15, 2, []), (16, 0, [])] (by kernel_rfl) (by kernel_rfl) (by kernel_rfl) ?_) | ((with_reducible show Code.wp _ (Code.region 6 _ true) _ _ _); refine wp_region_plan [(0, 0, []), (1, 0, []), (2, 0, []), (3, 1, []), (4, 1, []), (5, 1, []), (6, 0, []), (7, 0, []), (8, 1, []), (9, 1, []), (10, 1, []), (11, 1, []), (12, 1, []), (14, 0, []), (15, 0, []), (16, 1, []), (17, 1, []), (18, 1, []), (19, 0, []), (20, 1, []), (13, 2, [16, 17, 18, 20]), (21, 2, []), (22, 0, [])] (by kernel_rfl) (by kernel_rfl) (by kernel_rfl) ?_))
          go_roundw
          case rel => exact ⟨j + 1 + 1, l4, by omega, by go_num, by omega, HE4, Lib.hid ⟨HO4.out, HF4.out, HB4.out⟩⟩
          case measure => simp [intOf]; omega
        · have heqb : (ae == pe) = false := beq_eq_false_iff_ne.2 heq
          obtain ⟨x, hx⟩ : ∃ x : Nat, ae - pe = x := ⟨(ae - pe).toNat, by omega⟩
          have HX := Lib.hid hx
          have hxb : (x : Int) ≤ 1025 := by omega
          have HNB := Lib.hid (show rowB s none (ar.take (j + 1 + 1)) = rowB s none (ar.take (j + 1)) ++ (uv x ++ zz (at_ - s)) by
            rw [HNX.out, if_neg (by omega), HPP.out]
            unfold oneB
            dsimp only
            rw [if_neg heq, hx]
            rfl)
          have hum := uv_le x (by omega)
          have huz := zz_le (at_ - s) (by omega)
          have hkz : -1000000000000 ≤ at_ - s ∧ at_ - s ≤ 1000000000000 := by omega
          have HKZ := Lib.hid hkz
          clear hx heq hkz
          go_wp2_with (first | ((with_reducible show wpPlan _ _ _ [] _ _ _); refine wpPlan_nil ?_) | ((with_reducible show wpPlan _ _ _ ((_, 0, _) :: _) _ _ _); first | (refine wpPlan_read0 rfl ?hw rfl (fun _ _ _ => ?_); case hw => ((conv => (lhs; whnf)); first | done | with_reducible rfl)) | (refine wpPlan_skip0 rfl ?hw ?_; (case hw => ((conv => (lhs; whnf)); first | done | with_reducible rfl)); (try simp only [List.getElem_toArray, List.getElem_cons_succ, List.getElem_cons_zero, Act.put, List.setIfInBounds_toArray, List.set_cons_zero, List.set_cons_succ]))) | ((with_reducible show wpPlan _ _ _ ((_, 1, _) :: _) _ _ _); first | (refine wpPlan_read1d rfl ?hw rfl rfl (fun _ _ _ => ?_); case hw => ((conv => (lhs; whnf)); first | done | with_reducible rfl)) | (refine wpPlan_skip1d rfl ?hw ?_; (case hw => ((conv => (lhs; whnf)); first | done | with_reducible rfl)); (try simp only [List.getElem_toArray, List.getElem_cons_succ, List.getElem_cons_zero, Act.put, List.setIfInBounds_toArray, List.set_cons_zero, List.set_cons_succ])) | (refine wpPlan_read1 rfl ?hw rfl (fun _ _ _ => ?_); case hw => ((conv => (lhs; whnf)); first | done | with_reducible rfl))) | ((with_reducible show wpPlan _ _ _ ((_, 2, _) :: _) _ _ _); first | (refine wpPlan_eff rfl ?hw (fun _ _ => ?_); case hw => ((conv => (lhs; whnf)); first | done | with_reducible rfl)) | (refine wpPlan_skip2 rfl ?hw ?_; (case hw => ((conv => (lhs; whnf)); first | done | with_reducible rfl)); (try simp only [List.getElem_toArray, List.getElem_cons_succ, List.getElem_cons_zero, Act.put, List.setIfInBounds_toArray, List.set_cons_zero, List.set_cons_succ]))) | ((with_reducible show wpPlan _ _ _ _ _ _ _); refine wpPlan_fork ?_ ?_) | ((with_reducible show Owed _ _ _ [] _ _ _ _ _); refine Owed.none_ ?_) | ((with_reducible show Owed _ _ _ _ [] _ _ _ _); refine Owed.nil_ ?_) | ((with_reducible show Owed _ _ _ _ _ _ _ _ _); first | (refine Owed.miss rfl ?_) | (refine Owed.hit ?_ ?_)) | ((with_reducible show Same _ _ _ _ _); intro _; go_simp; done) | (with_reducible exact True.intro) | ((with_reducible show Code.wp _ (Code.region 8 _ true) _ _ _); refine wp_region_plan [(0, 0, []), (1, 0, []), (2, 1, []), (3, 1, []), (4, 1, []), (6, 0, []), (7, 1, []), (8, 1, []), (9, 1, []), (10, 0, []), (11, 1, []), (5, 2, [7, 8, 9, 11]), (12, 2, []), (13, 0, [])] (by kernel_rfl) (by kernel_rfl) (by kernel_rfl) ?_) | ((with_reducible show Code.wp _ (Code.region 9 _ true) _ _ _); refine wp_region_plan [(0, 0, []), (1, 0, []), (2, 1, []), (3, 1, []), (4, 1, []), (5, 0, []), (6, 0, []), (7, 1, []), (8, 1, []), (9, 1, []), (10, 1, []), (11, 1, []), (12, 0, [])] (by kernel_rfl) (by kernel_rfl) (by kernel_rfl) ?_) | ((with_reducible show Code.wp _ (Code.region 10 _ true) _ _ _); refine wp_region_plan [(0, 0, []), (2, 0, []), (3, 0, []), (4, 1, []), (5, 1, []), (6, 1, []), (7, 0, []), (8, 0, []), (9, 1, []), (10, 1, []), (11, 1, []), (12, 1, []), (13, 1, []), (14, 1, []), (1, 2, [4, 5, 6, 9, 10, 11, 12, 13, 14]), (15, 2, []), (16, 0, [])] (by kernel_rfl) (by kernel_rfl) (by kernel_rfl) ?_) | ((with_reducible show Code.wp _ (Code.region 6 _ true) _ _ _); refine wp_region_plan [(0, 0, []), (1, 0, []), (2, 0, []), (3, 1, []), (4, 1, []), (5, 1, []), (6, 0, []), (7, 0, []), (8, 1, []), (9, 1, []), (10, 1, []), (11, 1, []), (12, 1, []), (14, 0, []), (15, 0, []), (16, 1, []), (17, 1, []), (18, 1, []), (19, 0, []), (20, 1, []), (13, 2, [16, 17, 18, 20]), (21, 2, []), (22, 0, [])] (by kernel_rfl) (by kernel_rfl) (by kernel_rfl) ?_))
          rw [HX.out]
          refine (ruvarint_any _ l' x _ HW.out.1.drew.drew (by omega) (by omega)).mono ?_
          rintro e w3 ⟨v3, rfl, ho3, hO3, hF3⟩
          have hO3 : Outside (fun k => (Value.slice Ao l'.length capo).ownBlock = some k) wr w3 := (Outside.refl _ wr).drew.drew.trans hO3
          have hF3 : From wr (Value.slice Ao l'.length capo) v3 := hF3
          obtain ⟨hb3, hf3⟩ := fresh_post (W := w.heap.size) HW.out.2.1 HDS.out hO3 hF3
          have HB3 := Lib.hid (HW.out.2.2.trans hb3)
          have HF3 := Lib.hid hf3
          obtain ⟨l3, hl3⟩ : ∃ l3, l' ++ uv x = l3 := ⟨_, rfl⟩
          have hl3n : l3.length ≤ l'.length + 9 := by rw [← hl3, List.length_append]; omega
          rw [hl3] at ho3
          have HL3 := Lib.hid hl3
          have HO3 := Lib.hid ho3
          have c3 := HCC.out _ _ w3 c0 hb3
          have d3 := HCC.out _ _ w3 d0 hb3
          have f3 := HCC.out _ _ w3 f0 hb3
          have g3 := HCC.out _ _ w3 g0 hb3
          have hb3l : b2 < w3.heap.size := Nat.lt_of_lt_of_le hb2l hb3.size
          obtain ⟨A3, c3', rfl, _, _⟩ := ho3.form
          clear ho3 hO3 hF3 hl3 hb3 hf3 hum
          go_wp2_with (first | ((with_reducible show wpPlan _ _ _ [] _ _ _); refine wpPlan_nil ?_) | ((with_reducible show wpPlan _ _ _ ((_, 0, _) :: _) _ _ _); first | (refine wpPlan_read0 rfl ?hw rfl (fun _ _ _ => ?_); case hw => ((conv => (lhs; whnf)); first | done | with_reducible rfl)) | (refine wpPlan_skip0 rfl ?hw ?_; (case hw => ((conv => (lhs; whnf)); first | done | with_reducible rfl)); (try simp only [List.getElem_toArray, List.getElem_cons_succ, List.getElem_cons_zero, Act.put, List.setIfInBounds_toArray, List.set_cons_zero, List.set_cons_succ]))) | ((with_reducible show wpPlan _ _ _ ((_, 1, _) :: _) _ _ _); first | (refine wpPlan_read1d rfl ?hw rfl rfl (fun _ _ _ => ?_); case hw => ((conv => (lhs; whnf)); first | done | with_reducible rfl)) | (refine wpPlan_skip1d rfl ?hw ?_; (case hw => ((conv => (lhs; whnf)); first | done | with_reducible rfl)); (try simp only [List.getElem_toArray, List.getElem_cons_succ, List.getElem_cons_zero, Act.put, List.setIfInBounds_toArray, List.set_cons_zero, List.set_cons_succ])) | (refine wpPlan_read1 rfl ?hw rfl (fun _ _ _ => ?_); case hw => ((conv => (lhs; whnf)); first | done | with_reducible rfl))) | ((with_reducible show wpPlan _ _ _ ((_, 2, _) :: _) _ _ _); first | (refine wpPlan_eff rfl ?hw (fun _ _ => ?_); case hw => ((conv => (lhs; whnf)); first | done | with_reducible rfl)) | (refine wpPlan_skip2 rfl ?hw ?_; (case hw => ((conv => (lhs; whnf)); first | done | with_reducible rfl)); (try simp only [List.getElem_toArray, List.getElem_cons_succ, List.getElem_cons_zero, Act.put, List.setIfInBounds_toArray, List.set_cons_zero, List.set_cons_succ]))) | ((with_reducible show wpPlan _ _ _ _ _ _ _); refine wpPlan_fork ?_ ?_) | ((with_reducible show Owed _ _ _ [] _ _ _ _ _); refine Owed.none_ ?_) | ((with_reducible show Owed _ _ _ _ [] _ _ _ _); refine Owed.nil_ ?_) | ((with_reducible show Owed _ _ _ _ _ _ _ _ _); first | (refine Owed.miss rfl ?_) | (refine Owed.hit ?_ ?_)) | ((with_reducible show Same _ _ _ _ _); intro _; go_simp; done) | (with_reducible exact True.intro) | ((with_reducible show Code.wp _ (Code.region 8 _ true) _ _ _); refine wp_region_plan [(0, 0, []), (1, 0, []), (2, 1, []), (3, 1, []), (4, 1, []), (6, 0, []), (7, 1, []), (8, 1, []), (9, 1, []), (10, 0, []), (11, 1, []), (5, 2, [7, 8, 9, 11]), (12, 2, []), (13, 0, [])] (by kernel_rfl) (by kernel_rfl) (by kernel_rfl) ?_) | ((with_reducible show Code.wp _ (Code.region 9 _ true) _ _ _); refine wp_region_plan [(0, 0, []), (1, 0, []), (2, 1, []), (3, 1, []), (4, 1, []), (5, 0, []), (6, 0, []), (7, 1, []), (8, 1, []), (9, 1, []), (10, 1, []), (11, 1, []), (12, 0, [])] (by kernel_rfl) (by kernel_rfl) (by kernel_rfl) ?_) | ((with_reducible show Code.wp _ (Code.region 10 _ true) _ _ _); refine wp_region_plan [(0, 0, []), (2, 0, []), (3, 0, []), (4, 1, []), (5, 1, []), (6, 1, []), (7, 0, []), (8, 0, []), (9, 1, []), (10, 1, []), (11, 1, []), (12, 1, []), (13, 1, []), (14, 1, []), (1, 2, [4, 5, 6, 9, 10, 11, 12, 13, 14]), (15, 2, []), (16, 0, [])] (by kernel_rfl) (by kernel_rfl) (by kernel_rfl) ?_) | ((with_reducible show Code.wp _ (Code.region 6 _ true) _ _ _); refine wp_region_plan [(0, 0, []), (1, 0, []), (2, 0, []), (3, 1, []), (4, 1, []), (5, 1, []), (6, 0, []), (7, 0, []), (8, 1, []), (9, 1, []), (10, 1, []), (11, 1, []), (12, 1, []), (14, 0, []), (15, 0, []), (16, 1, []), (17, 1, []), (18, 1, []), (19, 0, []), (20, 1, []), (13, 2, [16, 17, 18, 20]), (21, 2, []), (22, 0, [])] (by kernel_rfl) (by kernel_rfl) (by kernel_rfl) ?_))
          refine (rzigzag_any _ l3 (at_ - s) _ HO3.out HKZ.out (by omega)).mono ?_
          rintro e w4 ⟨v4, rfl, ho4, hO4, hF4⟩
          obtain ⟨hb4, hf4⟩ := fresh_post (W := w.heap.size) HF3.out HB3.out.size hO4 hF4
          have HB4 := Lib.hid (HB3.out.trans hb4)
          have HF4 := Lib.hid hf4
          obtain ⟨l4, hl4⟩ : ∃ l4, l3 ++ zz (at_ - s) = l4 := ⟨_, rfl⟩
          have hl4n : l4.length ≤ 9 + 18 * (j + 1 + 1) := by rw [← hl4, List.length_append]; omega
          rw [hl4] at ho4
          have HE4 := Lib.hid (show l4 = uv m ++ rowB s none (ar.take (j + 1 + 1)) by rw [← hl4, ← HL3.out, HE.out, HNB.out]; simp)
          have HO4 := Lib.hid ho4
          obtain ⟨A4, c4', rfl, _, _⟩ := ho4.form
          clear ho4 hO4 hF4 hl4 hb4 hf4 huz
          go_wp2_with (first | ((with_reducible show wpPlan _ _ _ [] _ _ _); refine wpPlan_nil ?_) | ((with_reducible show wpPlan _ _ _ ((_, 0, _) :: _) _ _ _); first | (refine wpPlan_read0 rfl ?hw rfl (fun _ _ _ => ?_); case hw => ((conv => (lhs; whnf)); first | done | with_reducible rfl)) | (refine wpPlan_skip0 rfl ?hw ?_; (case hw => ((conv => (lhs; whnf)); first | done | with_reducible rfl)); (try simp only [List.getElem_toArray, List.getElem_cons_succ, List.getElem_cons_zero, Act.put, List.setIfInBounds_toArray, List.set_cons_zero, List.set_cons_succ]))) | ((with_reducible show wpPlan _ _ _ ((_, 1, _) :: _) _ _ _); first | (refine wpPlan_read1d rfl ?hw rfl rfl (fun _ _ _ => ?_); case hw => ((conv => (lhs; whnf)); first | done | with_reducible rfl)) | (refine wpPlan_skip1d rfl ?hw ?_; (case hw => ((conv => (lhs; whnf)); first | done | with_reducible rfl)); (try simp only [List.getElem_toArray, List.getElem_cons_succ, List.getElem_cons_zero, Act.put, List.setIfInBounds_toArray, List.set_cons_zero, List.set_cons_succ])) | (refine wpPlan_read1 rfl ?hw rfl (fun _ _ _ => ?_); case hw => ((conv => (lhs; whnf)); first | done | with_reducible rfl))) | ((with_reducible show wpPlan _ _ _ ((_, 2, _) :: _) _ _ _); first | (refine wpPlan_eff rfl ?hw (fun _ _ => ?_); case hw => ((conv => (lhs; whnf)); first | done | with_reducible rfl)) | (refine wpPlan_skip2 rfl ?hw ?_; (case hw => ((conv => (lhs; whnf)); first | done | with_reducible rfl)); (try simp only [List.getElem_toArray, List.getElem_cons_succ, List.getElem_cons_zero, Act.put, List.setIfInBounds_toArray, List.set_cons_zero, List.set_cons_succ]))) | ((with_reducible show wpPlan _ _ _ _ _ _ _); refine wpPlan_fork ?_ ?_) | ((with_reducible show Owed _ _ _ [] _ _ _ _ _); refine Owed.none_ ?_) | ((with_reducible show Owed _ _ _ _ [] _ _ _ _); refine Owed.nil_ ?_) | ((with_reducible show Owed _ _ _ _ _ _ _ _ _); first | (refine Owed.miss rfl ?_) | (refine Owed.hit ?_ ?_)) | ((with_reducible show Same _ _ _ _ _); intro _; go_simp; done) | (with_reducible exact True.intro) | ((with_reducible show Code.wp _ (Code.region 8 _ true) _ _ _); refine wp_region_plan [(0, 0, []), (1, 0, []), (2, 1, []), (3, 1, []), (4, 1, []), (6, 0, []), (7, 1, []), (8, 1, []), (9, 1, []), (10, 0, []), (11, 1, []), (5, 2, [7, 8, 9, 11]), (12, 2, []), (13, 0, [])] (by kernel_rfl) (by kernel_rfl) (by kernel_rfl) ?_) | ((with_reducible show Code.wp _ (Code.region 9 _ true) _ _ _); refine wp_region_plan [(0, 0, []), (1, 0, []), (2, 1, []), (3, 1, []), (4, 1, []), (5, 0, []), (6, 0, []), (7, 1, []), (8, 1, []), (9, 1, []), (10, 1, []), (11, 1, []), (12, 0, [])] (by kernel_rfl) (by kernel_rfl) (by kernel_rfl) ?_) | ((with_reducible show Code.wp _ (Code.region 10 _ true) _ _ _); refine wp_region_plan [(0, 0, []), (2, 0, []), (3, 0, []), (4, 1, []), (5, 1, []), (6, 1, []), (7, 0, []), (8, 0, []), (9, 1, []), (10, 1, []), (11, 1, []), (12, 1, []), (13, 1, []), (14, 1, []), (1, 2, [4, 5, 6, 9, 10, 11, 12, 13, 14]), (15, 2, []), (16, 0, [])] (by kernel_rfl) (by kernel_rfl) (by kernel_rfl) ?_) | ((with_reducible show Code.wp _ (Code.region 6 _ true) _ _ _); refine wp_region_plan [(0, 0, []), (1, 0, []), (2, 0, []), (3, 1, []), (4, 1, []), (5, 1, []), (6, 0, []), (7, 0, []), (8, 1, []), (9, 1, []), (10, 1, []), (11, 1, []), (12, 1, []), (14, 0, []), (15, 0, []), (16, 1, []), (17, 1, []), (18, 1, []), (19, 0, []), (20, 1, []), (13, 2, [16, 17, 18, 20]), (21, 2, []), (22, 0, [])] (by kernel_rfl) (by kernel_rfl) (by kernel_rfl) ?_))
          go_roundw
          case rel => exact ⟨j + 1 + 1, l4, by omega, by go_num, by omega, HE4, Lib.hid ⟨HO4.out, HF4.out, HB4.out⟩⟩
          case measure => simp [intOf]; omega
    · have hk2 : ar.take k = ar := List.take_of_length_le (by rw [HN.out]; omega)
      have HF := Lib.hid (show l' = rowF s ar by rw [HE.out, hk2, rowF, HN.out])
      clear hk2
      go_wp2_with fail
      go_ret
      exact ⟨_, rfl, by rw [← HF.out]; exact HW.out.1, HW.out.2.2, HW.out.2.1⟩

end Go.Proofs.Ytonpdclccgpceaa
