/- the program's scanner: classify, item -/
import Derived.Test.YtafoahojdiglfaaDoorLs4
namespace Go.Proofs.YtafoahojdiglfaaDoor
open Go Go.RowKit
set_option maxHeartbeats 4000000
attribute [local irreducible] kwB syB clB

theorem word_takeWhile {l : List UInt8} {c : UInt8} {r : List UInt8} (h : l = c :: r) (hc : partB c = true) : l.takeWhile partB = l.take (wordLen l) := by
  subst h
  rw [takeWhile_pre, List.takeWhile_cons, if_pos hc]
  unfold wordLen
  rw [List.drop_succ_cons, List.drop_zero, List.length_cons, Nat.add_comm]
theorem nameOk_word {s : ByteArray} {c : UInt8} {r : List UInt8} (h : s.data.toList = c :: r) (hl : letterB c = true) (ha : s.data.toList.all partB = true) (hk : memS kwB s = false) : nameOk s = decide (s.size ≤ 64) := by
  have hw : wordLen s.data.toList = s.size := by
    rw [h] at ha
    rw [List.all_cons, Bool.and_eq_true] at ha
    rw [h]
    unfold wordLen
    rw [List.drop_succ_cons, List.drop_zero]
    have := List.takeWhile_append_of_pos (p := partB) (l₁ := r) (l₂ := []) (by simpa using ha.2)
    rw [List.append_nil, List.takeWhile_nil, List.append_nil] at this
    rw [this, ← blen, h, List.length_cons]
    omega
  unfold nameOk
  rw [h]
  dsimp only
  rw [hl, hk, ← h, hw]
  simp

def ClPost (l : List UInt8) (w : World) (e : Ending) (w' : World) : Prop :=
  ((itemS l ⟨0, 0⟩).2.2 = 0 ∧ e = .returned (.tuple #[(itemS l ⟨0, 0⟩).1.v, .int .i64 0]) ∨ (itemS l ⟨0, 0⟩).2.2 ≠ 0 ∧ ∃ t : Tok, e = .returned (.tuple #[t.v, .int .i64 (itemS l ⟨0, 0⟩).2.2])) ∧ Below w.heap.size w w'

set_option maxRecDepth 100000 in
theorem lclassify_any (B : Nat) (s : ByteArray) (w : World) (hG : GlobE B w) (c : UInt8) (r : List UInt8) (hcr : s.data.toList = c :: r) (ha : s.data.toList.all partB = true) (hld : letterB c = true ∨ digitB c = true) (hs : s.size ≤ 1000000000000) :
    Calls Tryd.prog 60 #[.string s] w (ClPost s.data.toList w) := by
  have h0 : 0 < s.size := by rw [← blen, hcr]; simp
  have hc0 : s[0] = c := by
    have := bget s 0 h0
    rw [hcr] at this
    simpa using this.symm
  have htw : s.data.toList.takeWhile partB = s.data.toList := by
    have := List.takeWhile_append_of_pos (p := partB) (l₁ := s.data.toList) (l₂ := []) (List.all_eq_true.1 ha)
    simpa using this
  have hbs : bstr s.data.toList = s := by apply ByteArray.ext; simp [bstr]
  have HG := Lib.hid hG
  have HN := Lib.hid (Blk.new w 37 #[.int .i64 0, .int .i64 0, .string ⟨#[]⟩, .int .i64 0, .int .i64 0])
  have HB := Lib.hid ((Below.refl w.heap.size w).alloc (Nat.le_refl _) (.cells #[.int .i64 0, .int .i64 0, .string ⟨#[]⟩, .int .i64 0, .int .i64 0] 37))
  have HGA := Lib.hid (hG.alloc (.cells #[.int .i64 0, .int .i64 0, .string ⟨#[]⟩, .int .i64 0, .int .i64 0] 37))
  have hN := HN.out.cell
  have hf := HN.out.frozen
  have hl := HN.out.lt
  clear hG
  cases hd : digitB c
  · have hlet : letterB c = true := hld.resolve_right (by rw [hd]; simp)
    have hdb : isDigit (s[0].toNat : Int) = false := by rw [hc0]; exact hd
    have HI : Hid (itemS s.data.toList ⟨0, 0⟩ = if memS kwB s then (⟨3, 0, s, ⟨0, 0⟩⟩, (s.data.toList.length : Int), 0) else if nameOk s then (⟨1, 0, s, ⟨0, 0⟩⟩, (s.data.toList.length : Int), 0) else (zTok, 0, 2)) := Lib.hid (by
      have := itemS_word (r := r) (p := ⟨0, 0⟩) hlet hd
      rw [← hcr, htw, hbs] at this
      exact this)
    have HNO := Lib.hid (fun hk => nameOk_word hcr hlet ha hk)
    have HDB := Lib.hid hdb
    clear hc0 htw hbs hcr hd hlet hld ha hdb
    obtain ⟨hgl, A, c9, hk0, hRk⟩ := HGA.out.g.kw
    rw [show kwB.length = 25 from by rw [kwB, List.length_map]; rfl] at hk0 hRk
    have HRK := Lib.hid hRk
    clear hRk
    unfold ClPost
    go_enter Tryd.func60, Tryd.ntmps60
    go_wp2_with fail
    refine (digit_any _ _).mono ?_
    rw [HDB.out]
    rintro e w1 ⟨rfl, rfl⟩
    go_wp2_with fail
    refine (contains_any A 25 c9 _ kwB s _ HRK.out (by decide)).mono ?_
    obtain ⟨q, hq⟩ : ∃ q, memS kwB s = q := ⟨_, rfl⟩
    rw [hq]
    have HQ := Lib.hid hq
    clear hq
    rintro e w1 ⟨rfl, rfl⟩
    cases q
    · by_cases h64 : s.size ≤ 64
      · have HN2 : Hid (nameOk s = true) := Lib.hid (by rw [HNO.out HQ.out]; exact decide_eq_true h64)
        go_wp2_with fail
        refine bodyPost_ret (v := .tuple #[(Tok.mk 1 0 s ⟨0, 0⟩).v, .int .i64 0]) (by simp [results, Tryd.results60, go_sem]) rfl ⟨?_, (Below.refl w.heap.size w).alloc (Nat.le_refl _) _⟩
        rw [HI.out, HQ.out, HN2.out]
        exact .inl ⟨rfl, rfl⟩
      · have HN2 : Hid (nameOk s = false) := Lib.hid (by rw [HNO.out HQ.out]; exact decide_eq_false h64)
        go_wp2_with fail
        refine bodyPost_ret (v := .tuple #[(Tok.mk 0 0 ⟨#[]⟩ ⟨0, 0⟩).v, .int .i64 2]) (by simp [results, Tryd.results60, go_sem]) rfl ⟨?_, (Below.refl w.heap.size w).alloc (Nat.le_refl _) _⟩
        rw [HI.out, HQ.out, HN2.out]
        exact .inr ⟨by simp, ⟨0, 0, ⟨#[]⟩, ⟨0, 0⟩⟩, rfl⟩
    · go_wp2_with fail
      refine bodyPost_ret (v := .tuple #[(Tok.mk 3 0 s ⟨0, 0⟩).v, .int .i64 0]) (by simp [results, Tryd.results60, go_sem]) rfl ⟨?_, (Below.refl w.heap.size w).alloc (Nat.le_refl _) _⟩
      rw [HI.out, HQ.out]
      exact .inl ⟨rfl, rfl⟩
  · have hdb : isDigit (s[0].toNat : Int) = true := by rw [hc0]; exact hd
    have HI : Hid (itemS s.data.toList ⟨0, 0⟩ = if (integerS s.data.toList).2 = 0 then (⟨2, (integerS s.data.toList).1, ⟨#[]⟩, ⟨0, 0⟩⟩, (s.data.toList.length : Int), 0) else (zTok, 0, (integerS s.data.toList).2)) := Lib.hid (by
      have := itemS_num (r := r) (p := ⟨0, 0⟩) hd
      rw [← hcr, htw] at this
      exact this)
    have HDB := Lib.hid hdb
    clear hc0 htw hbs hcr hd hld ha hdb
    unfold ClPost
    go_enter Tryd.func60, Tryd.ntmps60
    go_wp2_with fail
    refine (digit_any _ _).mono ?_
    rw [HDB.out]
    rintro e w1 ⟨rfl, rfl⟩
    go_wp2_with fail
    refine (linteger_any B s _ HGA.out h0 hs).mono ?_
    obtain ⟨⟨iv, ie⟩, hie⟩ : ∃ x, integerS s.data.toList = x := ⟨_, rfl⟩
    rw [hie]
    have HIE := Lib.hid hie
    clear hie
    rintro e w2 ⟨hr, hb2⟩
    have HB2 := Lib.hid (HB.out.trans (hb2.mono (by simp)))
    have hN2 := HN.out.below hb2 HN.out.lt
    have HN2 := Lib.hid hN2
    have hN2c := hN2.cell
    have hN2f := hN2.frozen
    have hN2l := hN2.lt
    clear hb2 hN hf hl hN2
    dsimp only at hr
    rcases hr with ⟨h1, rfl⟩ | ⟨h1, ⟨tk, ti, ts, tl, tc⟩, rfl⟩
    · subst h1
      go_wp2_with fail
      obtain ⟨q0, q1, q2, q3, q4⟩ := tok_put HN2.out ⟨2, iv, ⟨#[]⟩, ⟨0, 0⟩⟩
      dsimp only at q0 q1 q2 q3 q4
      refine bodyPost_ret (v := .tuple #[(Tok.mk 2 iv ⟨#[]⟩ ⟨0, 0⟩).v, .int .i64 0]) (by simp [results, Tryd.results60, go_sem, q0, q1, q2, q3, q4]) rfl ⟨?_, tok_below HB2.out (Nat.le_refl _) ⟨2, iv, ⟨#[]⟩, ⟨0, 0⟩⟩⟩
      rw [HI.out, HIE.out]
      exact .inl ⟨rfl, rfl⟩
    · have H1 := Lib.hid h1
      clear h1
      dsimp only [Pos.v]
      go_wp2_with fail
      obtain ⟨q0, q1, q2, q3, q4⟩ := tok_put HN2.out ⟨tk, ti, ts, tl, tc⟩
      dsimp only at q0 q1 q2 q3 q4
      refine bodyPost_ret (v := .tuple #[(Tok.mk tk ti ts ⟨tl, tc⟩).v, .int .i64 ie]) (by simp [results, Tryd.results60, go_sem, q0, q1, q2, q3, q4]) rfl ⟨?_, tok_below HB2.out (Nat.le_refl _) ⟨tk, ti, ts, tl, tc⟩⟩
      rw [HI.out, HIE.out]
      dsimp only
      rw [if_neg H1.out]
      exact .inr ⟨H1.out, ⟨tk, ti, ts, tl, tc⟩, rfl⟩

end Go.Proofs.YtafoahojdiglfaaDoor
