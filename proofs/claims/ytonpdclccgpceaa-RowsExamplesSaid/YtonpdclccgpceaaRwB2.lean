/- bytes behind a constant's row: the first append copies it -/
import Derived.Test.YtonpdclccgpceaaRwB
namespace Go.Proofs.Ytonpdclccgpceaa
open Go Go.RowKit
set_option maxHeartbeats 4000000

/-- a slice of bytes that is the caller's own, or one without room -/
def OwnX (w : World) (v : Value) (l : List Nat) : Prop :=
  Own w v l ∨ ∃ g fz, v = .slice (some ⟨g, 0, none⟩) l.length l.length ∧ w.heap[g]? = some (.cells (cellsOf ucell l).toArray 5 fz)
theorem OwnX.alloc {w : World} {v : Value} {l : List Nat} (h : OwnX w v l) (o : Obj) : OwnX (w.alloc o) v l := by
  rcases h with h | ⟨g, fz, h1, h2⟩
  · exact .inl (h.alloc o)
  · exact .inr ⟨g, fz, h1, (Below.heap_alloc w o g (Array.getElem?_eq_some_iff.1 h2).1).trans h2⟩
theorem OwnX.form {w : World} {v : Value} {l : List Nat} (h : OwnX w v l) : ∃ (A : Option Addr) (cap : Nat), v = .slice A l.length cap ∧ l.length ≤ cap := by
  rcases h with h | ⟨g, fz, h1, h2⟩
  · obtain ⟨A, cap, h1, h2, _⟩ := h.form
    exact ⟨A, cap, h1, h2⟩
  · exact ⟨_, _, h1, Nat.le_refl _⟩
theorem appX_blk {ops : Array Oper} {rest : List Oper} {w : World} {o : Oper} {a : Act} {Q : Exit → Act → World → Prop} {s x : Operand} (hgd : o.guard = none)
    (ho : o.op = .call { callee := .builtin .append, args := #[s, x], argTypes := #[33, 33] })
    {v : Value} {l : List Nat} (hown : OwnX w v l) (hs : a.eval s = v)
    {B m c : Nat} {news : List Value} (hB : Blk w B 5 news.toArray) (hx : a.eval x = .slice (some ⟨B, 0, none⟩) m c) (hl : news.length = m * 1) (h1 : ∀ u ∈ news, u.oneCell' = true)
    (hm : 0 < m) (h63 : l.length + m ≤ maxLen) (hbytes : (l.length + m) * 1 ≤ 140737488355328)
    (h : ∀ g cap w', w'.ownsRow 0 5 1 (.slice (some ⟨g, 0, none⟩) (l.length + m) cap) (l.length + m) (cellsOf ucell l ++ news) → w.grownBy w' v.ownBlock → (v.ownBlock = some g ∨ w.heap.size ≤ g) → wpList Try.prog ops Q rest (a.put o.dst (.slice (some ⟨g, 0, none⟩) (l.length + m) cap)) w') : wpList Try.prog ops Q (o :: rest) a w := by
  rcases hown with hown | ⟨g, fz, rfl, hg⟩
  · exact appList_blk hgd slByte ho hown hs hB hx hl h1 hm h63 hbytes h
  · refine wpList_plain hgd fun K hK => ?_
    obtain ⟨i, z, ht, hi, hz, h4, h5, h6, h7⟩ := slByte
    have hlx : (cellsOf ucell l).length = l.length * 1 := cellsOf_length ucell_len l
    have holds : ∀ j u, (cellsOf ucell l)[j]? = some u → w.cell? ((⟨g, 0, none⟩ : Addr).add j) = some u := fun j u hu => by
      rw [show (⟨g, 0, none⟩ : Addr).add j = ⟨g, 0 + j, none⟩ from by simp [Addr.add]; try (intro h0; subst h0; rfl)]
      simp only [World.cell?, hg]
      simpa using hu
    have hsmall : l.length + m ≤ 9223372036854775807 := by simp only [maxLen] at h63; omega
    have hr := run_append_grow (P := Try.prog) w 33 o.type 5 i z ht hi hz ⟨g, 0, none⟩ l.length l.length (cellsOf ucell l) (by rw [h4]; exact hlx) holds ⟨B, 0, none⟩ m c news (by rw [h4]; exact hl) hB.news (by omega) (by omega) (growslice_fits (by omega) (by rw [h5]; exact hbytes))
    have hge := grownCap_ge w (l.length + m) l.length 5
    have hcm2 : grownCap w (l.length + m) l.length 5 ≤ maxLen := grownCap_le_maxLen w (l.length + m) l.length 5 h63
    have hlen : (cellsOf ucell l ++ news).length = (l.length + m) * 1 := by rw [List.length_append, hlx, hl]; omega
    unfold Oper.wp execOp
    simp only [ho, resolve, invoke, builtin, Sem.run_bind, Sem.run_pure, Result.andThen_ok, List.map_toArray, List.map_cons, List.map_nil, hs, hx, hr]
    refine hK _ _ (h w.heap.size _ _ ⟨hlen, .inr ⟨w.heap.size, _, _, rfl, Nat.zero_le _, heap_alloc_new w.drew _, hge, hcm2, ?_, ?_⟩⟩ ⟨rfl, rfl, rfl, by simp, fun k hk _ => Below.heap_alloc w.drew _ k hk⟩ (.inr (Nat.le_refl _)))
    · simp only [Array.size_append, List.size_toArray, size_zeroCells, h6]
      omega
    · simp only [Array.toList_append, List.append_assoc]
      rw [← List.append_assoc, ← hlen]
      exact List.take_left

set_option maxRecDepth 100000 in
theorem uvarintX_any (v : Value) (l : List Nat) (n : Nat) (w : World) (h : OwnX w v l) (hn : (n : Int) ≤ 9223372036854775807) (hl : l.length ≤ 1000000000) :
    Calls Try.prog 66 #[v, .int .i64 n] w (AppPost w v l (uv n)) := by
  have HL := Lib.hid (uv_len 8 n (by omega))
  have HO0 := Lib.hid h
  clear h
  go_enter Try.func66, Try.ntmps66
  go_wp2
  go_loopw [0, 1] (fun vb vn wr => ∃ (m : Nat) (l' : List Nat), vn = .int .i64 m ∧ (m : Int) ≤ 9223372036854775807 ∧ l'.length ≤ l.length + 9 ∧ Hid (l' ++ uv m = l ++ uv n) ∧ Hid (OwnX wr vb l' ∧ Outside (fun k => v.ownBlock = some k) w wr ∧ From w v vb)) (fun _ vn _ => (intOf vn).toNat)
  case atStart => exact ⟨n, l, rfl, hn, by omega, Lib.hid rfl, Lib.hid ⟨HO0.out, Outside.refl _ _, From.refl _ _⟩⟩
  case round =>
    obtain ⟨m, l', rfl, hm, hl', HE, HW⟩ := hrel
    obtain ⟨Ao, capo, rfl, hcap⟩ := HW.out.1.form
    by_cases hge : 128 ≤ m
    · have HV := Lib.hid (byteV m hm)
      go_wp2_with (first | (at_builtin; go_must (refine appX_blk rfl rfl (HW.out.1.alloc _) rfl (news := [.int .u8 (bits .or .i64 (bits .and .i64 m 127) 128 % 256)]) ((heap_alloc_at rfl) : Blk _ wr.heap.size _ _) rfl rfl (by simp [Value.oneCell']) (by decide) (by unfold maxLen; omega) (by omega) ?_); intro g7 cap7 w7 hown7 hgrow7 hat7))
      obtain ⟨h1, h2, h3⟩ := app_post (m := [m % 128 + 128]) HW.out.2.1 HW.out.2.2 hown7 rfl (by rw [HV.out]; rfl) hgrow7 hat7
      have HN := Lib.hid (And.intro h1 (And.intro h2 h3))
      have hlen : l'.length + 1 ≤ l.length + 9 := by
        have h4 := congrArg List.length HE.out
        have h5 := HL.out
        rw [uv_big (by omega), List.length_append, List.length_append, List.length_cons] at h4
        omega
      clear h1 h2 h3 hown7 hgrow7 hat7
      go_roundw
      case rel => exact ⟨m / 128, l' ++ [m % 128 + 128], by go_num, by omega, by simpa using hlen, Lib.hid (by rw [← HE.out, uv_big (n := m) (by omega)]; simp), Lib.hid ⟨.inl HN.out.1, HN.out.2⟩⟩
      case measure => simp [intOf]; omega
    · have HE2 := Lib.hid (show l' ++ [m] = l ++ uv n by rw [← HE.out, uv_small (by omega)])
      go_wp2_with (first | (at_builtin; go_must (refine appX_blk rfl rfl (HW.out.1.alloc _) rfl (news := [.int .u8 m]) ((heap_alloc_at rfl) : Blk _ wr.heap.size _ _) rfl rfl (by simp [Value.oneCell']) (by decide) (by unfold maxLen; omega) (by omega) ?_); intro g7 cap7 w7 hown7 hgrow7 hat7))
      obtain ⟨h1, h2, h3⟩ := app_post (m := [m]) HW.out.2.1 HW.out.2.2 hown7 rfl rfl hgrow7 hat7
      rw [HE2.out] at h1
      have HN := Lib.hid (And.intro h1 (And.intro h2 h3))
      clear h1 h2 h3 hown7 hgrow7 hat7
      go_ret
      exact ⟨_, rfl, HN.out⟩


end Go.Proofs.Ytonpdclccgpceaa
