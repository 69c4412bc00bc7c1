/- the program's scanner: item -/
import Derived.Test.YtafoahojdiglfaaDoorLs5
namespace Go.Proofs.YtafoahojdiglfaaDoor
open Go Go.RowKit
set_option maxHeartbeats 4000000
attribute [local irreducible] kwB syB clB

theorem symS_le (r : List UInt8) : (symS r).size ≤ 4 := by
  unfold symS
  split
  · decide
  · have := symBest_small r syB.length
    rwa [List.take_length] at this

theorem tok_put2 {w : World} {N : Nat} {t : TypeId} {a b c d e : Value} (h : Blk w N t #[a, b, c, d, e]) (o : Obj) (x0 x1 x2 x3 x4 : Value) :
    ((((((w.setCell ⟨N, 0, none⟩ x0).setCell ⟨N, 1, none⟩ x1).setCell ⟨N, 2, none⟩ x2).setCell ⟨N, 3, none⟩ x3).setCell ⟨N, 4, none⟩ x4).alloc o).cell? ⟨N, 0, none⟩ = some x0 ∧
    ((((((w.setCell ⟨N, 0, none⟩ x0).setCell ⟨N, 1, none⟩ x1).setCell ⟨N, 2, none⟩ x2).setCell ⟨N, 3, none⟩ x3).setCell ⟨N, 4, none⟩ x4).alloc o).cell? ⟨N, 1, none⟩ = some x1 ∧
    ((((((w.setCell ⟨N, 0, none⟩ x0).setCell ⟨N, 1, none⟩ x1).setCell ⟨N, 2, none⟩ x2).setCell ⟨N, 3, none⟩ x3).setCell ⟨N, 4, none⟩ x4).alloc o).cell? ⟨N, 2, none⟩ = some x2 ∧
    ((((((w.setCell ⟨N, 0, none⟩ x0).setCell ⟨N, 1, none⟩ x1).setCell ⟨N, 2, none⟩ x2).setCell ⟨N, 3, none⟩ x3).setCell ⟨N, 4, none⟩ x4).alloc o).cell? ⟨N, 3, none⟩ = some x3 ∧
    ((((((w.setCell ⟨N, 0, none⟩ x0).setCell ⟨N, 1, none⟩ x1).setCell ⟨N, 2, none⟩ x2).setCell ⟨N, 3, none⟩ x3).setCell ⟨N, 4, none⟩ x4).alloc o).cell? ⟨N, 4, none⟩ = some x4 := by
  have hz := (((((h.put 0 x0).put 1 x1).put 2 x2).put 3 x3).put 4 x4).alloc o
  exact ⟨hz.cell 0, hz.cell 1, hz.cell 2, hz.cell 3, hz.cell 4⟩
def LiPost (l : List UInt8) (w : World) (e : Ending) (w' : World) : Prop :=
  ((itemS l ⟨0, 0⟩).2.2 = 0 ∧ e = .returned (.tuple #[(itemS l ⟨0, 0⟩).1.v, .int .i64 (itemS l ⟨0, 0⟩).2.1, .int .i64 0]) ∨ (itemS l ⟨0, 0⟩).2.2 ≠ 0 ∧ ∃ (t : Tok) (n : Int), e = .returned (.tuple #[t.v, .int .i64 n, .int .i64 (itemS l ⟨0, 0⟩).2.2])) ∧ Below w.heap.size w w'


set_option maxRecDepth 100000 in
theorem litem_any (B : Nat) (s : ByteArray) (w : World) (hG : GlobE B w) (h0 : 0 < s.size) (hs : s.size ≤ 1000000000000) :
    Calls Tryd.prog 34 #[.string s] w (LiPost s.data.toList w) := by
  obtain ⟨c, r, hcr⟩ : ∃ c r, s.data.toList = c :: r := by
    cases h : s.data.toList with
    | nil => have := blen s; rw [h] at this; simp at this; omega
    | cons c r => exact ⟨c, r, rfl⟩
  have hc0 : s[0] = c := by
    have := bget s 0 h0
    rw [hcr] at this
    simpa using this.symm
  have HG := Lib.hid hG
  have HN := Lib.hid (Blk.new w 37 #[.int .i64 0, .int .i64 0, .string ⟨#[]⟩, .int .i64 0, .int .i64 0])
  have HB := Lib.hid ((Below.refl w.heap.size w).alloc (Nat.le_refl _) (.cells #[.int .i64 0, .int .i64 0, .string ⟨#[]⟩, .int .i64 0, .int .i64 0] 37))
  have HGA := Lib.hid (hG.alloc (.cells #[.int .i64 0, .int .i64 0, .string ⟨#[]⟩, .int .i64 0, .int .i64 0] 37))
  have hN := HN.out.cell
  have hf := HN.out.frozen
  have hl := HN.out.lt
  clear hG
  by_cases hld : letterB c = true ∨ digitB c = true
  · have hcp : partB c = true := by
      unfold partB isPart
      rcases hld with h | h
      · have h' : isLetter c.toNat = true := h
        rw [h']; rfl
      · have h' : isDigit c.toNat = true := h
        rw [h']; simp
    have htw := word_takeWhile hcr hcp
    obtain ⟨r', hr'⟩ : ∃ r', s.data.toList.takeWhile partB = c :: r' := by rw [hcr, List.takeWhile_cons, if_pos hcp]; exact ⟨_, rfl⟩
    have hwl : wordLen s.data.toList ≤ s.size := wordLen_le s h0
    have hex : (s.extract 0 (wordLen s.data.toList)).data.toList = s.data.toList.takeWhile partB := by
      rw [htw, ByteArray.data_extract]
      simp [Array.toList_extract, List.extract]
    have hall : (s.data.toList.takeWhile partB).all partB = true := List.all_takeWhile
    have hit : itemS (s.data.toList.takeWhile partB) ⟨0, 0⟩ = itemS s.data.toList ⟨0, 0⟩ := by
      have h2 : (c :: r').takeWhile partB = c :: r' := by
        rw [← hr']
        have := List.takeWhile_append_of_pos (p := partB) (l₁ := s.data.toList.takeWhile partB) (l₂ := []) (List.all_eq_true.1 hall)
        simpa using this
      have h3 : (c :: r).takeWhile partB = c :: r' := by rw [← hcr]; exact hr'
      rw [hr', hcr]
      cases hd : digitB c
      · have hlt := hld.resolve_right (by rw [hd]; simp)
        rw [itemS_word hlt hd, itemS_word hlt hd, h2, h3]
      · rw [itemS_num hd, itemS_num hd, h2, h3]
    have hlen : (itemS s.data.toList ⟨0, 0⟩).2.2 = 0 → (itemS s.data.toList ⟨0, 0⟩).2.1 = (wordLen s.data.toList : Nat) := by
      have h5 : (s.data.toList.takeWhile partB).length = wordLen s.data.toList := by rw [htw, List.length_take, blen]; omega
      rw [← hit, hr', ← h5, hr']
      have h2 : (c :: r').takeWhile partB = c :: r' := by
        rw [← hr']
        have := List.takeWhile_append_of_pos (p := partB) (l₁ := s.data.toList.takeWhile partB) (l₂ := []) (List.all_eq_true.1 hall)
        simpa using this
      cases hd : digitB c
      · have hlt := hld.resolve_right (by rw [hd]; simp)
        rw [itemS_word hlt hd, h2]
        split
        · intro _; rfl
        · split
          · intro _; rfl
          · intro h; cases h
      · rw [itemS_num hd, h2]
        split
        · intro _; rfl
        · rename_i h9; intro h; exact absurd h h9
    have HW : Hid ((s.extract 0 (wordLen s.data.toList)).data.toList = c :: r' ∧ (s.extract 0 (wordLen s.data.toList)).data.toList.all partB = true ∧ (s.extract 0 (wordLen s.data.toList)).size ≤ 1000000000000 ∧ itemS (s.extract 0 (wordLen s.data.toList)).data.toList ⟨0, 0⟩ = itemS s.data.toList ⟨0, 0⟩ ∧ (s.extract 0 (wordLen s.data.toList)).size = wordLen s.data.toList) :=
      Lib.hid ⟨hex.trans hr', by rw [hex]; exact hall, by rw [ByteArray.size_extract]; omega, by rw [hex]; exact hit, by rw [ByteArray.size_extract]; omega⟩
    have HLEN := Lib.hid hlen
    clear hcp htw hex hall hit hlen hr' hcr
    unfold LiPost
    cases hlt : letterB c
    · have hdg : digitB c = true := hld.resolve_left (by rw [hlt]; simp)
      have hl1 : isLetter (s[0].toNat : Int) = false := by rw [hc0]; exact hlt
      have hd1 : isDigit (s[0].toNat : Int) = true := by rw [hc0]; exact hdg
      have H1 := Lib.hid hl1
      have H2 := Lib.hid hd1
      clear hl1 hd1 hc0 hlt hdg
      go_enter Tryd.func34, Tryd.ntmps34
      go_wp2_with fail
      refine (letter_any _ _).mono ?_
      rw [H1.out]
      rintro e w1 ⟨rfl, rfl⟩
      go_wp2_with fail
      refine (digit_any _ _).mono ?_
      rw [H2.out]
      rintro e w1 ⟨rfl, rfl⟩
      go_wp2_with fail
      refine (word_any s _ h0 hs).mono ?_; rintro e w1 ⟨rfl, rfl⟩; go_wp2_with fail; refine (lclassify_any B _ _ HGA.out c r' HW.out.1 HW.out.2.1 hld HW.out.2.2.1).mono ?_; unfold ClPost; rw [HW.out.2.2.2.1]; obtain ⟨⟨it, il, ie⟩, hie⟩ : ∃ x, itemS s.data.toList ⟨0, 0⟩ = x := ⟨_, rfl⟩; rw [hie]; have HIE := Lib.hid hie; clear hie; rintro e w2 ⟨hr, hb2⟩; have HB2 := Lib.hid (HB.out.trans (hb2.mono (by simp))); have hN2 := HN.out.below hb2 HN.out.lt; have HN2 := Lib.hid hN2; have hN2c := hN2.cell; have hN2f := hN2.frozen; have hN2l := hN2.lt; clear hb2 hN hf hl hN2; dsimp only at hr
      rcases hr with ⟨h1, rfl⟩ | ⟨h1, ⟨tk, ti, ts, tl, tc⟩, rfl⟩
      · subst h1
        have HL := Lib.hid (HLEN.out (by rw [HIE.out]))
        obtain ⟨tk, ti, ts, tl, tc⟩ := it
        dsimp only [Pos.v]
        go_wp2_with fail
        obtain ⟨q0, q1, q2, q3, q4⟩ := tok_put2 HN2.out (.cells #[.int .i64 tk, .int .i64 ti, .string ts, .int .i64 tl, .int .i64 tc] 37) (.int .i64 tk) (.int .i64 ti) (.string ts) (.int .i64 tl) (.int .i64 tc)
        refine bodyPost_ret (v := .tuple #[(Tok.mk tk ti ts ⟨tl, tc⟩).v, .int .i64 ((s.extract 0 (wordLen s.data.toList)).size : Nat), .int .i64 0]) (by simp [results, Tryd.results34, go_sem, q0, q1, q2, q3, q4]; omega) rfl ⟨.inl ⟨by rw [HIE.out], ?_⟩, (tok_below HB2.out (Nat.le_refl _) ⟨tk, ti, ts, ⟨tl, tc⟩⟩).alloc (tok_below HB2.out (Nat.le_refl _) ⟨tk, ti, ts, ⟨tl, tc⟩⟩).size _⟩
        have hl9 := HL.out
        rw [HIE.out] at hl9
        dsimp only at hl9
        rw [HW.out.2.2.2.2, HIE.out]
        dsimp only
        rw [hl9]
      · have H9 := Lib.hid h1
        clear h1
        dsimp only [Pos.v]
        go_wp2_with fail
        obtain ⟨q0, q1, q2, q3, q4⟩ := tok_put2 HN2.out (.cells #[.int .i64 tk, .int .i64 ti, .string ts, .int .i64 tl, .int .i64 tc] 37) (.int .i64 tk) (.int .i64 ti) (.string ts) (.int .i64 tl) (.int .i64 tc)
        refine bodyPost_ret (v := .tuple #[(Tok.mk tk ti ts ⟨tl, tc⟩).v, .int .i64 ((s.extract 0 (wordLen s.data.toList)).size : Nat), .int .i64 ie]) (by simp [results, Tryd.results34, go_sem, q0, q1, q2, q3, q4]; omega) rfl ⟨.inr ⟨by rw [HIE.out]; exact H9.out, ⟨tk, ti, ts, tl, tc⟩, _, by rw [HIE.out]⟩, (tok_below HB2.out (Nat.le_refl _) ⟨tk, ti, ts, ⟨tl, tc⟩⟩).alloc (tok_below HB2.out (Nat.le_refl _) ⟨tk, ti, ts, ⟨tl, tc⟩⟩).size _⟩
    · have hl1 : isLetter (s[0].toNat : Int) = true := by rw [hc0]; exact hlt
      have H1 := Lib.hid hl1
      clear hl1 hc0 hlt
      go_enter Tryd.func34, Tryd.ntmps34
      go_wp2_with fail
      refine (letter_any _ _).mono ?_
      rw [H1.out]
      rintro e w1 ⟨rfl, rfl⟩
      go_wp2_with fail
      refine (word_any s _ h0 hs).mono ?_; rintro e w1 ⟨rfl, rfl⟩; go_wp2_with fail; refine (lclassify_any B _ _ HGA.out c r' HW.out.1 HW.out.2.1 hld HW.out.2.2.1).mono ?_; unfold ClPost; rw [HW.out.2.2.2.1]; obtain ⟨⟨it, il, ie⟩, hie⟩ : ∃ x, itemS s.data.toList ⟨0, 0⟩ = x := ⟨_, rfl⟩; rw [hie]; have HIE := Lib.hid hie; clear hie; rintro e w2 ⟨hr, hb2⟩; have HB2 := Lib.hid (HB.out.trans (hb2.mono (by simp))); have hN2 := HN.out.below hb2 HN.out.lt; have HN2 := Lib.hid hN2; have hN2c := hN2.cell; have hN2f := hN2.frozen; have hN2l := hN2.lt; clear hb2 hN hf hl hN2; dsimp only at hr
      rcases hr with ⟨h1, rfl⟩ | ⟨h1, ⟨tk, ti, ts, tl, tc⟩, rfl⟩
      · subst h1
        have HL := Lib.hid (HLEN.out (by rw [HIE.out]))
        obtain ⟨tk, ti, ts, tl, tc⟩ := it
        dsimp only [Pos.v]
        go_wp2_with fail
        obtain ⟨q0, q1, q2, q3, q4⟩ := tok_put2 HN2.out (.cells #[.int .i64 tk, .int .i64 ti, .string ts, .int .i64 tl, .int .i64 tc] 37) (.int .i64 tk) (.int .i64 ti) (.string ts) (.int .i64 tl) (.int .i64 tc)
        refine bodyPost_ret (v := .tuple #[(Tok.mk tk ti ts ⟨tl, tc⟩).v, .int .i64 ((s.extract 0 (wordLen s.data.toList)).size : Nat), .int .i64 0]) (by simp [results, Tryd.results34, go_sem, q0, q1, q2, q3, q4]; omega) rfl ⟨.inl ⟨by rw [HIE.out], ?_⟩, (tok_below HB2.out (Nat.le_refl _) ⟨tk, ti, ts, ⟨tl, tc⟩⟩).alloc (tok_below HB2.out (Nat.le_refl _) ⟨tk, ti, ts, ⟨tl, tc⟩⟩).size _⟩
        have hl9 := HL.out
        rw [HIE.out] at hl9
        dsimp only at hl9
        rw [HW.out.2.2.2.2, HIE.out]
        dsimp only
        rw [hl9]
      · have H9 := Lib.hid h1
        clear h1
        dsimp only [Pos.v]
        go_wp2_with fail
        obtain ⟨q0, q1, q2, q3, q4⟩ := tok_put2 HN2.out (.cells #[.int .i64 tk, .int .i64 ti, .string ts, .int .i64 tl, .int .i64 tc] 37) (.int .i64 tk) (.int .i64 ti) (.string ts) (.int .i64 tl) (.int .i64 tc)
        refine bodyPost_ret (v := .tuple #[(Tok.mk tk ti ts ⟨tl, tc⟩).v, .int .i64 ((s.extract 0 (wordLen s.data.toList)).size : Nat), .int .i64 ie]) (by simp [results, Tryd.results34, go_sem, q0, q1, q2, q3, q4]; omega) rfl ⟨.inr ⟨by rw [HIE.out]; exact H9.out, ⟨tk, ti, ts, tl, tc⟩, _, by rw [HIE.out]⟩, (tok_below HB2.out (Nat.le_refl _) ⟨tk, ti, ts, ⟨tl, tc⟩⟩).alloc (tok_below HB2.out (Nat.le_refl _) ⟨tk, ti, ts, ⟨tl, tc⟩⟩).size _⟩
  · have hlt : letterB c = false := by cases h : letterB c; rfl; exact absurd (.inl h) hld
    have hdg : digitB c = false := by cases h : digitB c; rfl; exact absurd (.inr h) hld
    have H1 : Hid (isLetter (s[0].toNat : Int) = false) := Lib.hid (by rw [hc0]; exact hlt)
    have H2 : Hid (isDigit (s[0].toNat : Int) = false) := Lib.hid (by rw [hc0]; exact hdg)
    have HI : Hid (itemS s.data.toList ⟨0, 0⟩ = if (symS s.data.toList).size = 0 then (zTok, 0, 2) else (⟨4, 0, symS s.data.toList, ⟨0, 0⟩⟩, ((symS s.data.toList).size : Int), 0)) := Lib.hid (by rw [hcr]; exact itemS_sym hlt hdg)
    have h4 := symS_le s.data.toList
    clear hlt hdg hc0 hld hcr
    unfold LiPost
    go_enter Tryd.func34, Tryd.ntmps34
    go_wp2_with fail
    refine (letter_any _ _).mono ?_
    rw [H1.out]
    rintro e w1 ⟨rfl, rfl⟩
    go_wp2_with fail
    refine (digit_any _ _).mono ?_
    rw [H2.out]
    rintro e w1 ⟨rfl, rfl⟩
    go_wp2_with fail
    refine (lsymbol_any B s _ HGA.out.g hs).mono ?_
    obtain ⟨sy, hsy⟩ : ∃ x, symS s.data.toList = x := ⟨_, rfl⟩
    rw [hsy] at h4 ⊢
    have HSY := Lib.hid hsy
    clear hsy
    rintro e w1 ⟨rfl, rfl⟩
    by_cases hz : sy.size = 0
    · have hzb : sy.toList.isEmpty = true := empty_size hz
      have hzl : sy.toList = [] := (toList_nil_iff sy).2 hz
      have HZ := Lib.hid hz
      clear hz
      go_wp2_with fail
      refine bodyPost_ret (v := .tuple #[(Tok.mk 0 0 ⟨#[]⟩ ⟨0, 0⟩).v, .int .i64 0, .int .i64 2]) (by simp [results, Tryd.results34, go_sem]) rfl ⟨?_, HB.out⟩
      rw [HI.out, HSY.out, if_pos HZ.out]
      exact .inr ⟨by decide, ⟨0, 0, ⟨#[]⟩, ⟨0, 0⟩⟩, _, rfl⟩
    · have hzb : sy.toList.isEmpty = false := nonempty_size (by omega)
      have hzl : ¬ sy.toList = [] := fun h => hz ((toList_nil_iff sy).1 h)
      have HZ := Lib.hid hz
      clear hz
      go_wp2_with fail
      refine bodyPost_ret (v := .tuple #[(Tok.mk 4 0 sy ⟨0, 0⟩).v, .int .i64 sy.size, .int .i64 0]) (by simp [results, Tryd.results34, go_sem]) rfl ⟨?_, (Below.refl w.heap.size w).alloc (Nat.le_refl _) _⟩
      rw [HI.out, HSY.out, if_neg HZ.out]
      exact .inl ⟨rfl, rfl⟩

end Go.Proofs.YtafoahojdiglfaaDoor
