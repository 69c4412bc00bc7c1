/- walks of what is asked of one token: a name, a valid token, a keyword of a list -/
import Derived.Test.YtgfhkaamkodpjaaDoorRef
import Derived.Test.YtgfhkaamkodpjaaDoorPlan
namespace Go.Proofs.YtgfhkaamkodpjaaDoor
open Go Go.RowKit
set_option maxHeartbeats 400000
attribute [local irreducible] kwB syB clB

theorem wordLen_end (s : ByteArray) (h : 0 < s.size) (hl : isLetter (s[0].toNat : Int) = true) : wordEndS s.data.toList 0 = wordLen s.data.toList := by
  have h0 := bget s 0 h
  unfold wordEndS wordLen
  cases hs : s.data.toList with
  | nil => rw [hs] at h0; cases h0
  | cons x r =>
    rw [hs] at h0
    have hx : x = s[0] := by simpa using h0
    have hp : partB x = true := by rw [hx]; simp [partB, isPart, hl]
    simp [hp]
    omega

theorem nameOk_eq (s : ByteArray) (h : 0 < s.size) : nameOk s = (decide (s.size ≤ 64) && isLetter (s[0].toNat : Int) && decide (wordEndS s.data.toList 0 = s.size) && !memS kwB s) := by
  have h0 := bget s 0 h
  have e : nameOk s = (decide (s.size ≤ 64) && letterB s[0] && !memS kwB s && decide (wordLen s.data.toList = s.size)) := by
    unfold nameOk
    cases hl : s.data.toList with
    | nil => rw [hl] at h0; cases h0
    | cons x r => rw [hl] at h0; cases h0; rfl
  rw [e]
  by_cases hl : isLetter (s[0].toNat : Int) = true
  · rw [wordLen_end s h hl]
    simp only [letterB, hl]
    cases decide (s.size ≤ 64) <;> cases memS kwB s <;> simp
  · simp only [letterB, Bool.eq_false_iff.2 hl]
    simp

theorem name_any (s : ByteArray) (w : World) (hs : s.size ≤ 1000000000000) :
    Calls Tryd.prog 63 #[.string s] w fun e w' => e = .returned (.bool (nameOk s)) ∧ Below w.heap.size w w' := by
  have HB := Lib.hid (Below.refl w.heap.size w)
  by_cases h0 : s.size = 0
  · have he := empty_size h0
    have HN : Hid (nameOk s = false) := by
      unfold nameOk
      rw [List.eq_nil_of_length_eq_zero (by rw [blen, h0] : s.data.toList.length = 0)]
      rfl
    go_enter Tryd.func63, Tryd.ntmps63
    go_wp2
    go_ret
    exact ⟨ret_bool HN.out.symm, HB.out⟩
  · have hp : 0 < s.size := by omega
    have he := nonempty_size hp
    have HN := Lib.hid (nameOk_eq s hp)
    have hz : (0 : Nat) ≤ s.size := by omega
    by_cases h64 : s.size ≤ 64
    · by_cases hL : isLetter (s[0].toNat : Int) = true
      · by_cases hW : wordEndS s.data.toList 0 = s.size
        · have hWb : ((wordEndS s.data.toList 0 : Int) == (s.size : Int)) = true := by simp [hW]
          have HW := Lib.hid hW
          have H64 := Lib.hid h64
          have HL := Lib.hid hL
          clear hW
          go_enter Tryd.func63, Tryd.ntmps63
          go_wp2_with (first | (go_at_call 56; refine (rletter_any _ _).mono ?_; rintro e w' ⟨rfl, rfl⟩) | (go_at_call 59; refine (wordEnd_any _ 0 _ hz hs).mono ?_; rintro e w' ⟨rfl, rfl⟩) | (go_at_call 62; refine (keywords_any _).mono ?_; rintro e w' ⟨rfl, rfl⟩; have HR := Lib.hid (Rd.ofBlk (n := 25) (k := 1) (Blk.new w 9 (cellsOf scell kwB).toArray) kwC_len)) | (go_at_call 61; refine (in_any _ 25 25 _ kwB _ _ HR.out (by decide)).mono ?_; rintro e w' ⟨rfl, rfl⟩))
          go_ret
          exact ⟨ret_bool (by rw [HN.out]; simp [HW.out, HL.out, H64.out]), HB.out.alloc (Nat.le_refl _) _⟩
        · have hWb : ((wordEndS s.data.toList 0 : Int) == (s.size : Int)) = false := by simp; omega
          have HW := Lib.hid hW
          clear hW
          go_enter Tryd.func63, Tryd.ntmps63
          go_wp2_with (first | (go_at_call 56; refine (rletter_any _ _).mono ?_; rintro e w' ⟨rfl, rfl⟩) | (go_at_call 59; refine (wordEnd_any _ 0 _ hz hs).mono ?_; rintro e w' ⟨rfl, rfl⟩) | (go_at_call 62; refine (keywords_any _).mono ?_; rintro e w' ⟨rfl, rfl⟩; have HR := Lib.hid (Rd.ofBlk (n := 25) (k := 1) (Blk.new w 9 (cellsOf scell kwB).toArray) kwC_len)) | (go_at_call 61; refine (in_any _ 25 25 _ kwB _ _ HR.out (by decide)).mono ?_; rintro e w' ⟨rfl, rfl⟩))
          go_ret
          exact ⟨ret_bool (by rw [HN.out]; simp [HW.out]), HB.out⟩
      · have HL := Lib.hid hL
        have hLb : isLetter (s[0].toNat : Int) = false := by simpa using hL
        clear hL
        go_enter Tryd.func63, Tryd.ntmps63
        go_wp2_with (first | (go_at_call 56; refine (rletter_any _ _).mono ?_; rintro e w' ⟨rfl, rfl⟩) | (go_at_call 59; refine (wordEnd_any _ 0 _ hz hs).mono ?_; rintro e w' ⟨rfl, rfl⟩) | (go_at_call 62; refine (keywords_any _).mono ?_; rintro e w' ⟨rfl, rfl⟩; have HR := Lib.hid (Rd.ofBlk (n := 25) (k := 1) (Blk.new w 9 (cellsOf scell kwB).toArray) kwC_len)) | (go_at_call 61; refine (in_any _ 25 25 _ kwB _ _ HR.out (by decide)).mono ?_; rintro e w' ⟨rfl, rfl⟩))
        go_ret
        exact ⟨ret_bool (by rw [HN.out]; simp [HL.out]), HB.out⟩
    · go_enter Tryd.func63, Tryd.ntmps63
      go_wp2_with (first | (go_at_call 56; refine (rletter_any _ _).mono ?_; rintro e w' ⟨rfl, rfl⟩) | (go_at_call 59; refine (wordEnd_any _ 0 _ hz hs).mono ?_; rintro e w' ⟨rfl, rfl⟩) | (go_at_call 62; refine (keywords_any _).mono ?_; rintro e w' ⟨rfl, rfl⟩; have HR := Lib.hid (Rd.ofBlk (n := 25) (k := 1) (Blk.new w 9 (cellsOf scell kwB).toArray) kwC_len)) | (go_at_call 61; refine (in_any _ 25 25 _ kwB _ _ HR.out (by decide)).mono ?_; rintro e w' ⟨rfl, rfl⟩))
      go_ret
      exact ⟨ret_bool (by rw [HN.out]; simp; omega), HB.out⟩

/-- a token that the scanner can make, its place aside -/
def validTok (t : Tok) : Bool :=
  if t.kind = 1 then decide (t.int = 0) && nameOk t.str
  else if t.kind = 2 then decide (0 ≤ t.int) && decide (t.str.size = 0)
  else if t.kind = 3 then decide (t.int = 0) && memS kwB t.str
  else if t.kind = 4 then decide (t.int = 0) && memS syB t.str
  else false

theorem isEmpty_iff_size (s : ByteArray) : s.toList.isEmpty = decide (s.size = 0) := by
  by_cases h : s.size = 0
  · rw [empty_size h]; simp [h]
  · rw [nonempty_size (by omega)]; simp [h]
theorem toList_nil_iff (s : ByteArray) : s.toList = [] ↔ s.size = 0 := by
  have := isEmpty_iff_size s
  rw [← List.isEmpty_iff, this]
  simp

theorem rvalid_3 (ti tl tc : Int) (ts : ByteArray) (w : World) : Calls Tryd.prog 48 #[(Tok.mk 3 ti ts ⟨tl, tc⟩).v] w fun e w' => e = .returned (.bool (decide (ti = 0) && memS kwB ts)) ∧ Below w.heap.size w w' := by
  have HB := Lib.hid ((Below.refl w.heap.size w).alloc (Nat.le_refl _) (.cells #[.int .i64 3, .int .i64 ti, .string ts, .int .i64 tl, .int .i64 tc] 40))
  by_cases hi : ti = 0
  · subst hi
    go_enter Tryd.func48, Tryd.ntmps48
    go_wp2
    refine wp_region_plan [(0, 1, []), (1, 1, []), (2, 1, []), (3, 0, []), (5, 1, []), (6, 1, []), (4, 2, [5, 6]), (7, 2, []), (8, 0, []), (9, 0, [])] (by kernel_rfl) (by kernel_rfl) (by kernel_rfl) ?_
    go_wp2_with (first | ((with_reducible show wpPlan _ _ _ [] _ _ _); refine wpPlan_nil ?_) | ((with_reducible show wpPlan _ _ _ ((_, 0, _) :: _) _ _ _); first | (refine wpPlan_read0 rfl ?hw rfl (fun _ _ _ => ?_); case hw => ((conv => (lhs; whnf)); first | done | with_reducible rfl)) | (refine wpPlan_skip0 rfl ?hw ?_; case hw => ((conv => (lhs; whnf)); first | done | with_reducible rfl))) | ((with_reducible show wpPlan _ _ _ ((_, 1, _) :: _) _ _ _); first | (refine wpPlan_read1 rfl ?hw rfl (fun _ _ _ => ?_); case hw => ((conv => (lhs; whnf)); first | done | with_reducible rfl)) | (refine wpPlan_skip1 rfl ?hw ?_; case hw => ((conv => (lhs; whnf)); first | done | with_reducible rfl))) | ((with_reducible show wpPlan _ _ _ ((_, 2, _) :: _) _ _ _); first | (refine wpPlan_eff rfl ?hw (fun _ _ => ?_); case hw => ((conv => (lhs; whnf)); first | done | with_reducible rfl)) | (refine wpPlan_skip2 rfl ?hw ?_; case hw => ((conv => (lhs; whnf)); first | done | with_reducible rfl))) | ((with_reducible show wpPlan _ _ _ _ _ _ _); refine wpPlan_fork ?_ ?_) | ((with_reducible show Owed _ _ _ [] _ _ _ _ _); refine Owed.none_ ?_) | ((with_reducible show Owed _ _ _ _ [] _ _ _ _); refine Owed.nil_ ?_) | ((with_reducible show Owed _ _ _ _ _ _ _ _ _); first | (refine Owed.miss rfl ?_) | (refine Owed.hit ?_ ?_)) | ((with_reducible show Same _ _ _ _ _); intro _; go_simp; done) | (with_reducible exact True.intro) | (go_at_call 62; refine (keywords_any _).mono ?_; rintro e w' ⟨rfl, rfl⟩; have HR := Lib.hid (Rd.ofBlk (n := 25) (k := 1) (show Blk ((w.alloc (.cells #[.int .i64 3, .int .i64 0, .string ts, .int .i64 tl, .int .i64 tc] 40)).alloc (.cells (cellsOf scell kwB).toArray 9)).drew (w.heap.size + 1) 9 (cellsOf scell kwB).toArray from heap_alloc_at (by simp)) kwC_len)) | (go_at_call 61; refine (in_any _ 25 25 _ kwB _ _ HR.out (by decide)).mono ?_; rintro e w' ⟨rfl, rfl⟩))
    go_ret
    exact ⟨ret_bool (by simp), ((HB.out.drew).alloc (by simp) _)⟩
  · have hib : (ti == 0) = false := by simpa using hi
    have HI := Lib.hid hi
    clear hi
    go_enter Tryd.func48, Tryd.ntmps48
    go_wp2
    refine wp_region_plan [(0, 1, []), (1, 1, []), (2, 1, []), (3, 0, []), (5, 1, []), (6, 1, []), (4, 2, [5, 6]), (7, 2, []), (8, 0, []), (9, 0, [])] (by kernel_rfl) (by kernel_rfl) (by kernel_rfl) ?_
    go_wp2_with (first | ((with_reducible show wpPlan _ _ _ [] _ _ _); refine wpPlan_nil ?_) | ((with_reducible show wpPlan _ _ _ ((_, 0, _) :: _) _ _ _); first | (refine wpPlan_read0 rfl ?hw rfl (fun _ _ _ => ?_); case hw => ((conv => (lhs; whnf)); first | done | with_reducible rfl)) | (refine wpPlan_skip0 rfl ?hw ?_; case hw => ((conv => (lhs; whnf)); first | done | with_reducible rfl))) | ((with_reducible show wpPlan _ _ _ ((_, 1, _) :: _) _ _ _); first | (refine wpPlan_read1 rfl ?hw rfl (fun _ _ _ => ?_); case hw => ((conv => (lhs; whnf)); first | done | with_reducible rfl)) | (refine wpPlan_skip1 rfl ?hw ?_; case hw => ((conv => (lhs; whnf)); first | done | with_reducible rfl))) | ((with_reducible show wpPlan _ _ _ ((_, 2, _) :: _) _ _ _); first | (refine wpPlan_eff rfl ?hw (fun _ _ => ?_); case hw => ((conv => (lhs; whnf)); first | done | with_reducible rfl)) | (refine wpPlan_skip2 rfl ?hw ?_; case hw => ((conv => (lhs; whnf)); first | done | with_reducible rfl))) | ((with_reducible show wpPlan _ _ _ _ _ _ _); refine wpPlan_fork ?_ ?_) | ((with_reducible show Owed _ _ _ [] _ _ _ _ _); refine Owed.none_ ?_) | ((with_reducible show Owed _ _ _ _ [] _ _ _ _); refine Owed.nil_ ?_) | ((with_reducible show Owed _ _ _ _ _ _ _ _ _); first | (refine Owed.miss rfl ?_) | (refine Owed.hit ?_ ?_)) | ((with_reducible show Same _ _ _ _ _); intro _; go_simp; done) | (with_reducible exact True.intro))
    go_ret
    exact ⟨ret_bool (by simp [HI.out]), HB.out.drew⟩

theorem rvalid_4 (ti tl tc : Int) (ts : ByteArray) (w : World) : Calls Tryd.prog 48 #[(Tok.mk 4 ti ts ⟨tl, tc⟩).v] w fun e w' => e = .returned (.bool (decide (ti = 0) && memS syB ts)) ∧ Below w.heap.size w w' := by
  have HB := Lib.hid ((Below.refl w.heap.size w).alloc (Nat.le_refl _) (.cells #[.int .i64 4, .int .i64 ti, .string ts, .int .i64 tl, .int .i64 tc] 40))
  by_cases hi : ti = 0
  · subst hi
    go_enter Tryd.func48, Tryd.ntmps48
    go_wp2
    refine wp_region_plan [(0, 1, []), (1, 1, []), (2, 1, []), (3, 0, []), (5, 1, []), (6, 1, []), (4, 2, [5, 6]), (7, 2, []), (8, 0, []), (9, 0, [])] (by kernel_rfl) (by kernel_rfl) (by kernel_rfl) ?_
    go_wp2_with (first | ((with_reducible show wpPlan _ _ _ [] _ _ _); refine wpPlan_nil ?_) | ((with_reducible show wpPlan _ _ _ ((_, 0, _) :: _) _ _ _); first | (refine wpPlan_read0 rfl ?hw rfl (fun _ _ _ => ?_); case hw => ((conv => (lhs; whnf)); first | done | with_reducible rfl)) | (refine wpPlan_skip0 rfl ?hw ?_; case hw => ((conv => (lhs; whnf)); first | done | with_reducible rfl))) | ((with_reducible show wpPlan _ _ _ ((_, 1, _) :: _) _ _ _); first | (refine wpPlan_read1 rfl ?hw rfl (fun _ _ _ => ?_); case hw => ((conv => (lhs; whnf)); first | done | with_reducible rfl)) | (refine wpPlan_skip1 rfl ?hw ?_; case hw => ((conv => (lhs; whnf)); first | done | with_reducible rfl))) | ((with_reducible show wpPlan _ _ _ ((_, 2, _) :: _) _ _ _); first | (refine wpPlan_eff rfl ?hw (fun _ _ => ?_); case hw => ((conv => (lhs; whnf)); first | done | with_reducible rfl)) | (refine wpPlan_skip2 rfl ?hw ?_; case hw => ((conv => (lhs; whnf)); first | done | with_reducible rfl))) | ((with_reducible show wpPlan _ _ _ _ _ _ _); refine wpPlan_fork ?_ ?_) | ((with_reducible show Owed _ _ _ [] _ _ _ _ _); refine Owed.none_ ?_) | ((with_reducible show Owed _ _ _ _ [] _ _ _ _); refine Owed.nil_ ?_) | ((with_reducible show Owed _ _ _ _ _ _ _ _ _); first | (refine Owed.miss rfl ?_) | (refine Owed.hit ?_ ?_)) | ((with_reducible show Same _ _ _ _ _); intro _; go_simp; done) | (with_reducible exact True.intro) | (go_at_call 79; refine (symbols_any _).mono ?_; rintro e w' ⟨rfl, rfl⟩; have HR := Lib.hid (Rd.ofBlk (n := 59) (k := 1) (show Blk ((w.alloc (.cells #[.int .i64 4, .int .i64 0, .string ts, .int .i64 tl, .int .i64 tc] 40)).alloc (.cells (cellsOf scell syB).toArray 9)).drew (w.heap.size + 1) 9 (cellsOf scell syB).toArray from heap_alloc_at (by simp)) syC_len)) | (go_at_call 61; refine (in_any _ 59 59 _ syB _ _ HR.out (by decide)).mono ?_; rintro e w' ⟨rfl, rfl⟩))
    go_ret
    exact ⟨ret_bool (by simp), ((HB.out.drew).alloc (by simp) _)⟩
  · have hib : (ti == 0) = false := by simpa using hi
    have HI := Lib.hid hi
    clear hi
    go_enter Tryd.func48, Tryd.ntmps48
    go_wp2
    refine wp_region_plan [(0, 1, []), (1, 1, []), (2, 1, []), (3, 0, []), (5, 1, []), (6, 1, []), (4, 2, [5, 6]), (7, 2, []), (8, 0, []), (9, 0, [])] (by kernel_rfl) (by kernel_rfl) (by kernel_rfl) ?_
    go_wp2_with (first | ((with_reducible show wpPlan _ _ _ [] _ _ _); refine wpPlan_nil ?_) | ((with_reducible show wpPlan _ _ _ ((_, 0, _) :: _) _ _ _); first | (refine wpPlan_read0 rfl ?hw rfl (fun _ _ _ => ?_); case hw => ((conv => (lhs; whnf)); first | done | with_reducible rfl)) | (refine wpPlan_skip0 rfl ?hw ?_; case hw => ((conv => (lhs; whnf)); first | done | with_reducible rfl))) | ((with_reducible show wpPlan _ _ _ ((_, 1, _) :: _) _ _ _); first | (refine wpPlan_read1 rfl ?hw rfl (fun _ _ _ => ?_); case hw => ((conv => (lhs; whnf)); first | done | with_reducible rfl)) | (refine wpPlan_skip1 rfl ?hw ?_; case hw => ((conv => (lhs; whnf)); first | done | with_reducible rfl))) | ((with_reducible show wpPlan _ _ _ ((_, 2, _) :: _) _ _ _); first | (refine wpPlan_eff rfl ?hw (fun _ _ => ?_); case hw => ((conv => (lhs; whnf)); first | done | with_reducible rfl)) | (refine wpPlan_skip2 rfl ?hw ?_; case hw => ((conv => (lhs; whnf)); first | done | with_reducible rfl))) | ((with_reducible show wpPlan _ _ _ _ _ _ _); refine wpPlan_fork ?_ ?_) | ((with_reducible show Owed _ _ _ [] _ _ _ _ _); refine Owed.none_ ?_) | ((with_reducible show Owed _ _ _ _ [] _ _ _ _); refine Owed.nil_ ?_) | ((with_reducible show Owed _ _ _ _ _ _ _ _ _); first | (refine Owed.miss rfl ?_) | (refine Owed.hit ?_ ?_)) | ((with_reducible show Same _ _ _ _ _); intro _; go_simp; done) | (with_reducible exact True.intro))
    go_ret
    exact ⟨ret_bool (by simp [HI.out]), HB.out.drew⟩

theorem rvalid_any (t : Tok) (w : World) (hs : t.str.size ≤ 1000000000000) : Calls Tryd.prog 48 #[t.v] w fun e w' => e = .returned (.bool (validTok t)) ∧ Below w.heap.size w w' := by
  obtain ⟨tk, ti, ts, tl, tc⟩ := t
  have HV : Hid (validTok ⟨tk, ti, ts, ⟨tl, tc⟩⟩ = if tk = 1 then decide (ti = 0) && nameOk ts
    else if tk = 2 then decide (0 ≤ ti) && decide (ts.size = 0)
    else if tk = 3 then decide (ti = 0) && memS kwB ts
    else if tk = 4 then decide (ti = 0) && memS syB ts
    else false) := rfl
  dsimp only at hs
  by_cases h3 : tk = 3
  · subst h3
    refine (rvalid_3 ti tl tc ts w).mono fun e w' ⟨he, hb⟩ => ⟨?_, hb⟩
    rw [he, HV.out]; simp
  by_cases h4 : tk = 4
  · subst h4
    refine (rvalid_4 ti tl tc ts w).mono fun e w' ⟨he, hb⟩ => ⟨?_, hb⟩
    rw [he, HV.out]; simp
  have HB := Lib.hid ((Below.refl w.heap.size w).alloc (Nat.le_refl _) (.cells #[.int .i64 tk, .int .i64 ti, .string ts, .int .i64 tl, .int .i64 tc] 40))
  by_cases h1 : tk = 1
  · subst h1
    by_cases hi : ti = 0
    · subst hi
      go_enter Tryd.func48, Tryd.ntmps48
      go_wp2_with (first | (go_at_call 63; refine (name_any _ _ hs).mono ?_; rintro e w' ⟨rfl, hb⟩; have HB2 := Lib.hid hb; clear hb))
      go_ret
      exact ⟨ret_bool (by rw [HV.out]; simp), HB.out.trans (HB2.out.mono (by simp))⟩
    · have hib : (ti == 0) = false := by simpa using hi
      have HI := Lib.hid hi
      clear hi
      go_enter Tryd.func48, Tryd.ntmps48
      go_wp2
      go_ret
      exact ⟨ret_bool (by rw [HV.out]; simp [HI.out]), HB.out⟩
  by_cases h2 : tk = 2
  · subst h2
    go_enter Tryd.func48, Tryd.ntmps48
    go_wp2
    all_goals go_ret
    all_goals refine ⟨ret_bool ?_, HB.out⟩
    all_goals rw [HV.out]
    all_goals first | (simp_all [isEmpty_iff_size]; done) | (simp_all; omega)
  have a1 : (tk == 1) = false := by simpa using h1
  have a2 : (tk == 2) = false := by simpa using h2
  have a3 : (tk == 3) = false := by simpa using h3
  have a4 : (tk == 4) = false := by simpa using h4
  have h0 : validTok ⟨tk, ti, ts, ⟨tl, tc⟩⟩ = false := by rw [HV.out]; simp [h1, h2, h3, h4]
  have H0 := Lib.hid h0
  clear h0
  clear h1 h2 h3 h4
  go_enter Tryd.func48, Tryd.ntmps48
  go_wp2
  go_ret
  exact ⟨ret_bool H0.out.symm, HB.out⟩

end Go.Proofs.YtgfhkaamkodpjaaDoor
