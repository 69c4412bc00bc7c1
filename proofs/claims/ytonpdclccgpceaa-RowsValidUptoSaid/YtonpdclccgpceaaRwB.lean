/- bytes: numbers of seven bits a byte, with a sign; the program's and the reference's; bytes behind a constant's row: the first append copies it -/
import Derived.Test.YtonpdclccgpceaaRows
import Derived.Test.YtonpdclccgpceaaRwMem
import Derived.Test.YtonpdclccgpceaaPlan2
import Derived.Laws.BitsLemmas
namespace Go.Proofs.Ytonpdclccgpceaa
open Go Go.RowKit
set_option maxHeartbeats 4000000

theorem infoByte : (Try.prog.info? 5).map (fun i => (i.zero, i.size, i.bytes)) = some (some (.int .u8 0), 1, 1) := by kernel_rfl
theorem slByte : SlT Try.prog 33 5 1 1 := SlT.of Try.underlying33 infoByte rfl (by decide)
/-- append of what lies in a block that is known whole, in a plain region -/
theorem appList_blk {P : Program} {ops : Array Oper} {rest : List Oper} {w : World} {o : Oper} {a : Act} {Q : Exit → Act → World → Prop} {s x : Operand} {t e : TypeId} {size bytes : Nat} (hgd : o.guard = none)
    (hT : SlT P t e size bytes) (ho : o.op = .call { callee := .builtin .append, args := #[s, x], argTypes := #[t, t] })
    {v : Value} {n : Nat} {xs : List Value} (hown : w.ownsRow 0 e size v n xs) (hs : a.eval s = v)
    {B m c : Nat} {news : List Value} (hB : Blk w B e news.toArray) (hx : a.eval x = .slice (some ⟨B, 0, none⟩) m c) (hl : news.length = m * size) (h1 : ∀ u ∈ news, u.oneCell' = true)
    (hm : 0 < m) (h63 : n + m ≤ maxLen) (hbytes : (n + m) * bytes ≤ 140737488355328)
    (h : ∀ g cap w', w'.ownsRow 0 e size (.slice (some ⟨g, 0, none⟩) (n + m) cap) (n + m) (xs ++ news) → w.grownBy w' v.ownBlock → (v.ownBlock = some g ∨ w.heap.size ≤ g) → wpList P ops Q rest (a.put o.dst (.slice (some ⟨g, 0, none⟩) (n + m) cap)) w') : wpList P ops Q (o :: rest) a w :=
  wpList_plain hgd fun _ hK => app_blk hT ho hown hs hB hx hl h1 hm h63 hbytes fun g cap w' h2 h3 h4 => hK _ _ (h g cap w' h2 h3 h4)

/-- a slice of bytes that is the caller's own -/
def Own (w : World) (v : Value) (l : List Nat) : Prop := w.ownsRow 0 5 1 v l.length (cellsOf ucell l)
/-- where a slice lies that came of v by appending -/
def From (w : World) (v v' : Value) : Prop := v'.ownBlock = v.ownBlock ∨ ∃ g, v'.ownBlock = some g ∧ w.heap.size ≤ g
/-- what a function that appends the bytes m gives -/
def AppPost (w : World) (v : Value) (l m : List Nat) (e : Ending) (w' : World) : Prop :=
  ∃ v', e = .returned v' ∧ Own w' v' (l ++ m) ∧ Outside (fun k => v.ownBlock = some k) w w' ∧ From w v v'
theorem Own.nil (w : World) : Own w (.slice none 0 0) [] := World.ownsRow_nil _ _ _ _
theorem Own.alloc {w : World} {v : Value} {l : List Nat} (h : Own w v l) (o : Obj) : Own (w.alloc o) v l := World.ownsRow.alloc h o
theorem Own.out {R : Nat → Prop} {w w' : World} {v : Value} {l : List Nat} (h : Own w v l) (hb : Outside R w w') (hg : ∀ g, v.ownBlock = some g → ¬ R g) : Own w' v l := own_out h hb hg
theorem Own.form {w : World} {v : Value} {l : List Nat} (h : Own w v l) : ∃ (A : Option Addr) (cap : Nat), v = .slice A l.length cap ∧ l.length ≤ cap ∧ cap ≤ maxLen := own_form h
theorem Own.lt {w : World} {v : Value} {l : List Nat} (h : Own w v l) {g : Nat} (hg : v.ownBlock = some g) : g < w.heap.size := own_lt h hg
theorem From.refl (w : World) (v : Value) : From w v v := .inl rfl
theorem From.trans {w w1 : World} {v v1 v2 : Value} (h : From w v v1) (h2 : From w1 v1 v2) (hw : w.heap.size ≤ w1.heap.size) : From w v v2 := by
  rcases h2 with h2 | ⟨g, h2, h3⟩
  · rcases h with h | ⟨g, h, h1⟩
    · exact .inl (h2.trans h)
    · exact .inr ⟨g, h2.trans h, h1⟩
  · exact .inr ⟨g, h2, by omega⟩
/-- a frame that the place of v1 bounds is one that the place of v bounds -/
theorem Outside.from {w w1 w2 : World} {v v1 : Value} (h : Outside (fun k => v.ownBlock = some k) w w1) (hf : From w v v1) (h2 : Outside (fun k => v1.ownBlock = some k) w1 w2) : Outside (fun k => v.ownBlock = some k) w w2 := by
  refine ⟨h2.os.trans h.os, h2.tape.trans h.tape, h2.output.trans h.output, Nat.le_trans h.size h2.size, fun k hk hR => ?_⟩
  have h3 := h.block k hk hR
  refine (h2.block k (Nat.lt_of_lt_of_le hk h.size) fun h4 => ?_).trans h3
  rcases hf with h5 | ⟨g, h5, h6⟩
  · exact hR (h5.symm.trans h4)
  · have : g = k := by
      have h7 := h5.symm.trans h4
      simpa using h7
    omega

/-- what an append gives -/
theorem app_post {w wr w7 : World} {v vb : Value} {l m : List Nat} {o : Obj} {k g c : Nat} {cs : List Value} (hO : Outside (fun k => v.ownBlock = some k) w wr) (hF : From w v vb)
    (hown : w7.ownsRow 0 5 1 (.slice (some ⟨g, 0, none⟩) (l.length + k) c) (l.length + k) (cellsOf ucell l ++ cs)) (hk : k = m.length) (hcs : cs = cellsOf ucell m)
    (hgrow : (wr.alloc o).grownBy w7 vb.ownBlock) (hat : vb.ownBlock = some g ∨ (wr.alloc o).heap.size ≤ g) :
    Own w7 (.slice (some ⟨g, 0, none⟩) (l.length + k) c) (l ++ m) ∧ Outside (fun k => v.ownBlock = some k) w w7 ∧ From w v (.slice (some ⟨g, 0, none⟩) (l.length + k) c) := by
  subst hk hcs
  refine ⟨by unfold Own; rw [List.length_append, cellsOf_append]; exact hown, (hO.alloc o).grown hgrow fun z hz => ?_, ?_⟩
  · rcases hF with h | ⟨g', h, h1⟩
    · exact .inl (h.symm.trans hz)
    · have : g' = z := by simpa using h.symm.trans hz
      exact .inr (by omega)
  · rcases hat with h | h
    · rcases hF with h2 | ⟨g', h2, h1⟩
      · exact .inl (h.symm.trans h2)
      · have : g' = g := by simpa using h2.symm.trans h
        exact .inr ⟨g, rfl, by omega⟩
    · have := hO.size
      simp at h
      exact .inr ⟨g, rfl, by omega⟩

theorem and127 (m : Nat) (hm : (m : Int) ≤ 9223372036854775807) : bits .and .i64 m 127 = ((m % 128 : Nat) : Int) := by
  have h : (m &&& 127 : Nat) = m % 128 := Nat.and_two_pow_sub_one_eq_mod m 7
  unfold bits
  simp
  rw [show (127 : Nat) % 2 ^ IntKind.i64.bits = 127 by decide, show m % 2 ^ IntKind.i64.bits = m by
    have : (2 : Nat) ^ IntKind.i64.bits = 18446744073709551616 := by decide
    rw [this]; omega, h, IntKind.wrap_i64]
  omega
theorem or128 (m : Nat) (h : m < 128) : bits .or .i64 m 128 = ((m + 128 : Nat) : Int) := by
  have h2 : (m ||| 128 : Nat) = m + 128 := (by decide : ∀ d : Fin 128, (d.val ||| 128 : Nat) = d.val + 128) ⟨m, h⟩
  unfold bits
  simp
  rw [show (128 : Nat) % 2 ^ IntKind.i64.bits = 128 by decide, show m % 2 ^ IntKind.i64.bits = m by
    have : (2 : Nat) ^ IntKind.i64.bits = 18446744073709551616 := by decide
    rw [this]; omega, h2, IntKind.wrap_i64]
  omega
theorem byteV (m : Nat) (hm : (m : Int) ≤ 9223372036854775807) : bits .or .i64 (bits .and .i64 m 127) 128 % 256 = ((m % 128 + 128 : Nat) : Int) := by
  rw [and127 m hm, or128 _ (by omega)]
  omega

set_option maxRecDepth 100000 in
theorem uvarint_any (v : Value) (l : List Nat) (n : Nat) (w : World) (h : Own w v l) (hn : (n : Int) ≤ 9223372036854775807) (hl : l.length ≤ 1000000000) :
    Calls Try.prog 66 #[v, .int .i64 n] w (AppPost w v l (uv n)) := by
  have HL := Lib.hid (uv_len 8 n (by omega))
  have HO0 := Lib.hid h
  clear h
  go_enter Try.func66, Try.ntmps66
  go_wp2
  go_loopw [0, 1] (fun vb vn wr => ∃ (m : Nat) (l' : List Nat), vn = .int .i64 m ∧ (m : Int) ≤ 9223372036854775807 ∧ l'.length ≤ l.length + 9 ∧ Hid (l' ++ uv m = l ++ uv n) ∧ Hid (Own wr vb l' ∧ Outside (fun k => v.ownBlock = some k) w wr ∧ From w v vb)) (fun _ vn _ => (intOf vn).toNat)
  case atStart => exact ⟨n, l, rfl, hn, by omega, Lib.hid rfl, Lib.hid ⟨HO0.out, Outside.refl _ _, From.refl _ _⟩⟩
  case round =>
    obtain ⟨m, l', rfl, hm, hl', HE, HW⟩ := hrel
    obtain ⟨Ao, capo, rfl, hcap, _⟩ := HW.out.1.form
    by_cases hge : 128 ≤ m
    · have HV := Lib.hid (byteV m hm)
      go_wp2_with (first | (at_builtin; go_must (refine appList_blk rfl slByte rfl (HW.out.1.alloc _) rfl (news := [.int .u8 (bits .or .i64 (bits .and .i64 m 127) 128 % 256)]) ((heap_alloc_at rfl) : Blk _ wr.heap.size _ _) rfl rfl (by simp [Value.oneCell']) (by decide) (by unfold maxLen; omega) (by omega) ?_); intro g7 cap7 w7 hown7 hgrow7 hat7))
      obtain ⟨h1, h2, h3⟩ := app_post (m := [m % 128 + 128]) HW.out.2.1 HW.out.2.2 hown7 rfl (by rw [HV.out]; rfl) hgrow7 hat7
      have HN := Lib.hid (And.intro h1 (And.intro h2 h3))
      have hlen : l'.length + 1 ≤ l.length + 9 := by
        have h4 := congrArg List.length HE.out
        have h5 := HL.out
        rw [uv_big (by omega), List.length_append, List.length_append, List.length_cons] at h4
        omega
      clear h1 h2 h3 hown7 hgrow7 hat7
      go_roundw
      case rel => exact ⟨m / 128, l' ++ [m % 128 + 128], by go_num, by omega, by simpa using hlen, Lib.hid (by rw [← HE.out, uv_big (n := m) (by omega)]; simp), HN.out⟩
      case measure => simp [intOf]; omega
    · have HE2 := Lib.hid (show l' ++ [m] = l ++ uv n by rw [← HE.out, uv_small (by omega)])
      go_wp2_with (first | (at_builtin; go_must (refine appList_blk rfl slByte rfl (HW.out.1.alloc _) rfl (news := [.int .u8 m]) ((heap_alloc_at rfl) : Blk _ wr.heap.size _ _) rfl rfl (by simp [Value.oneCell']) (by decide) (by unfold maxLen; omega) (by omega) ?_); intro g7 cap7 w7 hown7 hgrow7 hat7))
      obtain ⟨h1, h2, h3⟩ := app_post (m := [m]) HW.out.2.1 HW.out.2.2 hown7 rfl rfl hgrow7 hat7
      rw [HE2.out] at h1
      have HN := Lib.hid (And.intro h1 (And.intro h2 h3))
      clear h1 h2 h3 hown7 hgrow7 hat7
      go_ret
      exact ⟨_, rfl, HN.out⟩

set_option maxRecDepth 100000 in
theorem ruvarint_any (v : Value) (l : List Nat) (n : Nat) (w : World) (h : Own w v l) (hn : (n : Int) ≤ 9223372036854775807) (hl : l.length ≤ 1000000000) :
    Calls Try.prog 50 #[v, .int .i64 n] w (AppPost w v l (uv n)) := by
  have HL := Lib.hid (uv_len 8 n (by omega))
  have HO0 := Lib.hid h
  clear h
  go_enter Try.func50, Try.ntmps50
  go_wp2
  go_loopw [0, 1] (fun vb vn wr => ∃ (m : Nat) (l' : List Nat), vn = .int .i64 m ∧ (m : Int) ≤ 9223372036854775807 ∧ l'.length ≤ l.length + 9 ∧ Hid (l' ++ uv m = l ++ uv n) ∧ Hid (Own wr vb l' ∧ Outside (fun k => v.ownBlock = some k) w wr ∧ From w v vb)) (fun _ vn _ => (intOf vn).toNat)
  case atStart => exact ⟨n, l, rfl, hn, by omega, Lib.hid rfl, Lib.hid ⟨HO0.out, Outside.refl _ _, From.refl _ _⟩⟩
  case round =>
    obtain ⟨m, l', rfl, hm, hl', HE, HW⟩ := hrel
    obtain ⟨Ao, capo, rfl, hcap, _⟩ := HW.out.1.form
    by_cases hge : 128 ≤ m
    · go_wp2_with (first | (at_builtin; go_must (refine appList_blk rfl slByte rfl (HW.out.1.alloc _) rfl (news := [.int .u8 ((m : Int) % 128 + 128)]) ((heap_alloc_at rfl) : Blk _ wr.heap.size _ _) rfl rfl (by simp [Value.oneCell']) (by decide) (by unfold maxLen; omega) (by omega) ?_); intro g7 cap7 w7 hown7 hgrow7 hat7))
      obtain ⟨h1, h2, h3⟩ := app_post (m := [m % 128 + 128]) HW.out.2.1 HW.out.2.2 hown7 rfl (by simp [cellsOf, ucell]) hgrow7 hat7
      have HN := Lib.hid (And.intro h1 (And.intro h2 h3))
      have hlen : l'.length + 1 ≤ l.length + 9 := by
        have h4 := congrArg List.length HE.out
        have h5 := HL.out
        rw [uv_big (by omega), List.length_append, List.length_append, List.length_cons] at h4
        omega
      clear h1 h2 h3 hown7 hgrow7 hat7
      go_roundw
      case rel => exact ⟨m / 128, l' ++ [m % 128 + 128], by go_num, by omega, by simpa using hlen, Lib.hid (by rw [← HE.out, uv_big (n := m) (by omega)]; simp), HN.out⟩
      case measure => simp [intOf]; omega
    · have HE2 := Lib.hid (show l' ++ [m] = l ++ uv n by rw [← HE.out, uv_small (by omega)])
      go_wp2_with (first | (at_builtin; go_must (refine appList_blk rfl slByte rfl (HW.out.1.alloc _) rfl (news := [.int .u8 m]) ((heap_alloc_at rfl) : Blk _ wr.heap.size _ _) rfl rfl (by simp [Value.oneCell']) (by decide) (by unfold maxLen; omega) (by omega) ?_); intro g7 cap7 w7 hown7 hgrow7 hat7))
      obtain ⟨h1, h2, h3⟩ := app_post (m := [m]) HW.out.2.1 HW.out.2.2 hown7 rfl rfl hgrow7 hat7
      rw [HE2.out] at h1
      have HN := Lib.hid (And.intro h1 (And.intro h2 h3))
      clear h1 h2 h3 hown7 hgrow7 hat7
      go_ret
      exact ⟨_, rfl, HN.out⟩

set_option maxRecDepth 100000 in
theorem zigzag_any (v : Value) (l : List Nat) (k : Int) (w : World) (h : Own w v l) (hk : -1000000000000 ≤ k ∧ k ≤ 1000000000000) (hl : l.length ≤ 1000000000) :
    Calls Try.prog 79 #[v, .int .i64 k] w (AppPost w v l (zz k)) := by
  have HO := Lib.hid h
  clear h
  obtain ⟨hk1, hk2⟩ := hk
  by_cases h0 : k < 0
  · obtain ⟨m, hm⟩ : ∃ m : Nat, -2 * k - 1 = m := ⟨(-2 * k - 1).toNat, by omega⟩
    have HZ := Lib.hid (show zz k = uv m by rw [zz, if_pos h0, hm]; rfl)
    have HM := Lib.hid hm
    clear hm
    go_enter Try.func79, Try.ntmps79
    go_wp2_with fail
    rw [HM.out]
    refine (uvarint_any v l m _ HO.out (by have := HM.out; omega) hl).mono ?_
    rintro e w1 ⟨v', rfl, h1⟩
    have H1 := Lib.hid h1
    clear h1
    go_wp2_with fail
    go_ret
    exact ⟨v', rfl, by rw [HZ.out]; exact H1.out⟩
  · obtain ⟨m, hm⟩ : ∃ m : Nat, 2 * k = m := ⟨(2 * k).toNat, by omega⟩
    have HZ := Lib.hid (show zz k = uv m by rw [zz, if_neg h0, hm]; rfl)
    have HM := Lib.hid hm
    clear hm
    go_enter Try.func79, Try.ntmps79
    go_wp2_with fail
    rw [HM.out]
    refine (uvarint_any v l m _ HO.out (by have := HM.out; omega) hl).mono ?_
    rintro e w1 ⟨v', rfl, h1⟩
    have H1 := Lib.hid h1
    clear h1
    go_wp2_with fail
    go_ret
    exact ⟨v', rfl, by rw [HZ.out]; exact H1.out⟩
set_option maxRecDepth 100000 in
theorem rzigzag_any (v : Value) (l : List Nat) (k : Int) (w : World) (h : Own w v l) (hk : -1000000000000 ≤ k ∧ k ≤ 1000000000000) (hl : l.length ≤ 1000000000) :
    Calls Try.prog 72 #[v, .int .i64 k] w (AppPost w v l (zz k)) := by
  have HO := Lib.hid h
  clear h
  obtain ⟨hk1, hk2⟩ := hk
  by_cases h0 : k < 0
  · obtain ⟨m, hm⟩ : ∃ m : Nat, -2 * k - 1 = m := ⟨(-2 * k - 1).toNat, by omega⟩
    have HZ := Lib.hid (show zz k = uv m by rw [zz, if_pos h0, hm]; rfl)
    have HM := Lib.hid hm
    clear hm
    go_enter Try.func72, Try.ntmps72
    go_wp2_with fail
    rw [HM.out]
    refine (ruvarint_any v l m _ HO.out (by have := HM.out; omega) hl).mono ?_
    rintro e w1 ⟨v', rfl, h1⟩
    have H1 := Lib.hid h1
    clear h1
    go_wp2_with fail
    go_ret
    exact ⟨v', rfl, by rw [HZ.out]; exact H1.out⟩
  · obtain ⟨m, hm⟩ : ∃ m : Nat, 2 * k = m := ⟨(2 * k).toNat, by omega⟩
    have HZ := Lib.hid (show zz k = uv m by rw [zz, if_neg h0, hm]; rfl)
    have HM := Lib.hid hm
    clear hm
    go_enter Try.func72, Try.ntmps72
    go_wp2_with fail
    rw [HM.out]
    refine (ruvarint_any v l m _ HO.out (by have := HM.out; omega) hl).mono ?_
    rintro e w1 ⟨v', rfl, h1⟩
    have H1 := Lib.hid h1
    clear h1
    go_wp2_with fail
    go_ret
    exact ⟨v', rfl, by rw [HZ.out]; exact H1.out⟩

end Go.Proofs.Ytonpdclccgpceaa
namespace Go.Proofs.Ytonpdclccgpceaa
open Go Go.RowKit
set_option maxHeartbeats 4000000

/-- a slice of bytes that is the caller's own, or one without room -/
def OwnX (w : World) (v : Value) (l : List Nat) : Prop :=
  Own w v l ∨ ∃ g fz, v = .slice (some ⟨g, 0, none⟩) l.length l.length ∧ w.heap[g]? = some (.cells (cellsOf ucell l).toArray 5 fz)
theorem OwnX.alloc {w : World} {v : Value} {l : List Nat} (h : OwnX w v l) (o : Obj) : OwnX (w.alloc o) v l := by
  rcases h with h | ⟨g, fz, h1, h2⟩
  · exact .inl (h.alloc o)
  · exact .inr ⟨g, fz, h1, (Below.heap_alloc w o g (Array.getElem?_eq_some_iff.1 h2).1).trans h2⟩
theorem OwnX.form {w : World} {v : Value} {l : List Nat} (h : OwnX w v l) : ∃ (A : Option Addr) (cap : Nat), v = .slice A l.length cap ∧ l.length ≤ cap := by
  rcases h with h | ⟨g, fz, h1, h2⟩
  · obtain ⟨A, cap, h1, h2, _⟩ := h.form
    exact ⟨A, cap, h1, h2⟩
  · exact ⟨_, _, h1, Nat.le_refl _⟩
theorem appX_blk {ops : Array Oper} {rest : List Oper} {w : World} {o : Oper} {a : Act} {Q : Exit → Act → World → Prop} {s x : Operand} (hgd : o.guard = none)
    (ho : o.op = .call { callee := .builtin .append, args := #[s, x], argTypes := #[33, 33] })
    {v : Value} {l : List Nat} (hown : OwnX w v l) (hs : a.eval s = v)
    {B m c : Nat} {news : List Value} (hB : Blk w B 5 news.toArray) (hx : a.eval x = .slice (some ⟨B, 0, none⟩) m c) (hl : news.length = m * 1) (h1 : ∀ u ∈ news, u.oneCell' = true)
    (hm : 0 < m) (h63 : l.length + m ≤ maxLen) (hbytes : (l.length + m) * 1 ≤ 140737488355328)
    (h : ∀ g cap w', w'.ownsRow 0 5 1 (.slice (some ⟨g, 0, none⟩) (l.length + m) cap) (l.length + m) (cellsOf ucell l ++ news) → w.grownBy w' v.ownBlock → (v.ownBlock = some g ∨ w.heap.size ≤ g) → wpList Try.prog ops Q rest (a.put o.dst (.slice (some ⟨g, 0, none⟩) (l.length + m) cap)) w') : wpList Try.prog ops Q (o :: rest) a w := by
  rcases hown with hown | ⟨g, fz, rfl, hg⟩
  · exact appList_blk hgd slByte ho hown hs hB hx hl h1 hm h63 hbytes h
  · refine wpList_plain hgd fun K hK => ?_
    obtain ⟨i, z, ht, hi, hz, h4, h5, h6, h7⟩ := slByte
    have hlx : (cellsOf ucell l).length = l.length * 1 := cellsOf_length ucell_len l
    have holds : ∀ j u, (cellsOf ucell l)[j]? = some u → w.cell? ((⟨g, 0, none⟩ : Addr).add j) = some u := fun j u hu => by
      rw [show (⟨g, 0, none⟩ : Addr).add j = ⟨g, 0 + j, none⟩ from by simp [Addr.add]; try (intro h0; subst h0; rfl)]
      simp only [World.cell?, hg]
      simpa using hu
    have hsmall : l.length + m ≤ 9223372036854775807 := by simp only [maxLen] at h63; omega
    have hr := run_append_grow (P := Try.prog) w 33 o.type 5 i z ht hi hz ⟨g, 0, none⟩ l.length l.length (cellsOf ucell l) (by rw [h4]; exact hlx) holds ⟨B, 0, none⟩ m c news (by rw [h4]; exact hl) hB.news (by omega) (by omega) (growslice_fits (by omega) (by rw [h5]; exact hbytes))
    have hge := grownCap_ge w (l.length + m) l.length 5
    have hcm2 : grownCap w (l.length + m) l.length 5 ≤ maxLen := grownCap_le_maxLen w (l.length + m) l.length 5 h63
    have hlen : (cellsOf ucell l ++ news).length = (l.length + m) * 1 := by rw [List.length_append, hlx, hl]; omega
    unfold Oper.wp execOp
    simp only [ho, resolve, invoke, builtin, Sem.run_bind, Sem.run_pure, Result.andThen_ok, List.map_toArray, List.map_cons, List.map_nil, hs, hx, hr]
    refine hK _ _ (h w.heap.size _ _ ⟨hlen, .inr ⟨w.heap.size, _, _, rfl, Nat.zero_le _, heap_alloc_new w.drew _, hge, hcm2, ?_, ?_⟩⟩ ⟨rfl, rfl, rfl, by simp, fun k hk _ => Below.heap_alloc w.drew _ k hk⟩ (.inr (Nat.le_refl _)))
    · simp only [Array.size_append, List.size_toArray, size_zeroCells, h6]
      omega
    · simp only [Array.toList_append, List.append_assoc]
      rw [← List.append_assoc, ← hlen]
      exact List.take_left

set_option maxRecDepth 100000 in
theorem uvarintX_any (v : Value) (l : List Nat) (n : Nat) (w : World) (h : OwnX w v l) (hn : (n : Int) ≤ 9223372036854775807) (hl : l.length ≤ 1000000000) :
    Calls Try.prog 66 #[v, .int .i64 n] w (AppPost w v l (uv n)) := by
  have HL := Lib.hid (uv_len 8 n (by omega))
  have HO0 := Lib.hid h
  clear h
  go_enter Try.func66, Try.ntmps66
  go_wp2
  go_loopw [0, 1] (fun vb vn wr => ∃ (m : Nat) (l' : List Nat), vn = .int .i64 m ∧ (m : Int) ≤ 9223372036854775807 ∧ l'.length ≤ l.length + 9 ∧ Hid (l' ++ uv m = l ++ uv n) ∧ Hid (OwnX wr vb l' ∧ Outside (fun k => v.ownBlock = some k) w wr ∧ From w v vb)) (fun _ vn _ => (intOf vn).toNat)
  case atStart => exact ⟨n, l, rfl, hn, by omega, Lib.hid rfl, Lib.hid ⟨HO0.out, Outside.refl _ _, From.refl _ _⟩⟩
  case round =>
    obtain ⟨m, l', rfl, hm, hl', HE, HW⟩ := hrel
    obtain ⟨Ao, capo, rfl, hcap⟩ := HW.out.1.form
    by_cases hge : 128 ≤ m
    · have HV := Lib.hid (byteV m hm)
      go_wp2_with (first | (at_builtin; go_must (refine appX_blk rfl rfl (HW.out.1.alloc _) rfl (news := [.int .u8 (bits .or .i64 (bits .and .i64 m 127) 128 % 256)]) ((heap_alloc_at rfl) : Blk _ wr.heap.size _ _) rfl rfl (by simp [Value.oneCell']) (by decide) (by unfold maxLen; omega) (by omega) ?_); intro g7 cap7 w7 hown7 hgrow7 hat7))
      obtain ⟨h1, h2, h3⟩ := app_post (m := [m % 128 + 128]) HW.out.2.1 HW.out.2.2 hown7 rfl (by rw [HV.out]; rfl) hgrow7 hat7
      have HN := Lib.hid (And.intro h1 (And.intro h2 h3))
      have hlen : l'.length + 1 ≤ l.length + 9 := by
        have h4 := congrArg List.length HE.out
        have h5 := HL.out
        rw [uv_big (by omega), List.length_append, List.length_append, List.length_cons] at h4
        omega
      clear h1 h2 h3 hown7 hgrow7 hat7
      go_roundw
      case rel => exact ⟨m / 128, l' ++ [m % 128 + 128], by go_num, by omega, by simpa using hlen, Lib.hid (by rw [← HE.out, uv_big (n := m) (by omega)]; simp), Lib.hid ⟨.inl HN.out.1, HN.out.2⟩⟩
      case measure => simp [intOf]; omega
    · have HE2 := Lib.hid (show l' ++ [m] = l ++ uv n by rw [← HE.out, uv_small (by omega)])
      go_wp2_with (first | (at_builtin; go_must (refine appX_blk rfl rfl (HW.out.1.alloc _) rfl (news := [.int .u8 m]) ((heap_alloc_at rfl) : Blk _ wr.heap.size _ _) rfl rfl (by simp [Value.oneCell']) (by decide) (by unfold maxLen; omega) (by omega) ?_); intro g7 cap7 w7 hown7 hgrow7 hat7))
      obtain ⟨h1, h2, h3⟩ := app_post (m := [m]) HW.out.2.1 HW.out.2.2 hown7 rfl rfl hgrow7 hat7
      rw [HE2.out] at h1
      have HN := Lib.hid (And.intro h1 (And.intro h2 h3))
      clear h1 h2 h3 hown7 hgrow7 hat7
      go_ret
      exact ⟨_, rfl, HN.out⟩


end Go.Proofs.Ytonpdclccgpceaa
