/- nodes that are valid: validNode, ContainsFunc of its contrary -/
import Derived.Test.YtmciinikfjfegaaSgH1
import Derived.Test.YtmciinikfjfegaaSgR1
namespace Go.Proofs.Ytmciinikfjfegaa
open Go Go.RowKit
set_option maxHeartbeats 8000000

abbrev FNode.v (x : FNode) : Value := .agg #[.int .i64 x.op, .int .i64 x.ev, .int .i64 x.kids]
theorem vN_cases {x : FNode} (h : vN x = true) : x = ⟨1, 0, 0⟩ ∨ (∃ e, 0 ≤ e ∧ e ≤ 1025 ∧ x = ⟨2, e, 1⟩) ∨ x = ⟨3, 0, 1⟩ ∨ ∃ k, x = ⟨4, 0, k⟩ := by
  obtain ⟨o, e, k⟩ := x
  simp [vN] at h
  rcases h with ((⟨⟨rfl, rfl⟩, rfl⟩ | ⟨⟨⟨rfl, rfl⟩, h1⟩, h2⟩) | ⟨⟨rfl, rfl⟩, rfl⟩) | ⟨rfl, rfl⟩
  · exact .inl rfl
  · exact .inr (.inl ⟨e, h1, h2, rfl⟩)
  · exact .inr (.inr (.inl rfl))
  · exact .inr (.inr (.inr ⟨k, rfl⟩))

set_option maxRecDepth 100000 in
theorem validNode_any (x : FNode) (w : World) (h : vN x = true) : Calls Try.prog 74 #[x.v] w fun e w' => e = .returned (.bool true) ∧ Below w.heap.size w w' := by
  have HB0 := Lib.hid ((Below.refl w.heap.size w).alloc (Nat.le_refl _) (.cells #[.int .i64 x.op, .int .i64 x.ev, .int .i64 x.kids] 58))
  rcases vN_cases h with rfl | ⟨e, h1, h2, rfl⟩ | rfl | ⟨k, rfl⟩
  · clear h
    dsimp only at HB0
    go_enter Try.func74, Try.ntmps74
    go_wp2_with fail
    go_ret
    exact ⟨ret_bool (by simp), HB0.out⟩
  · clear h
    dsimp only at HB0
    have h3 : e ≥ 0 := h1
    go_enter Try.func74, Try.ntmps74
    go_wp2_with fail
    go_ret
    exact ⟨ret_bool (by simp <;> omega), HB0.out⟩
  · clear h
    dsimp only at HB0
    go_enter Try.func74, Try.ntmps74
    go_wp2_with fail
    go_ret
    exact ⟨ret_bool (by simp), HB0.out⟩
  · clear h
    dsimp only at HB0
    go_enter Try.func74, Try.ntmps74
    go_wp2_with fail
    go_ret
    exact ⟨ret_bool (by simp), HB0.out⟩

set_option maxRecDepth 100000 in
theorem vform1_any (x : FNode) (w : World) (h : vN x = true) : Calls Try.prog 73 #[x.v] w fun e w' => e = .returned (.bool false) ∧ Below w.heap.size w w' := by
  have HB0 := Lib.hid ((Below.refl w.heap.size w).alloc (Nat.le_refl _) (.cells #[.int .i64 x.op, .int .i64 x.ev, .int .i64 x.kids] 58))
  have H := Lib.hid h
  obtain ⟨o, ev, k⟩ := x
  dsimp only at HB0
  clear h
  go_enter Try.func73, Try.ntmps73
  go_wp2_with fail
  refine (validNode_any ⟨o, ev, k⟩ _ H.out).mono ?_
  rintro e w2 ⟨rfl, hb2⟩
  have HB2 := Lib.hid (HB0.out.trans (hb2.mono (by simp)))
  clear hb2
  go_wp2_with fail
  go_ret
  exact ⟨ret_bool (by simp), HB2.out⟩

set_option maxRecDepth 100000 in
theorem nindex_any (A : Option Addr) (n c : Nat) (l : List FNode) (B : Nat) (w : World) (h : Rd w B 3 A n (cellsOf FNode.cells l)) (hB : B ≤ w.heap.size) (hn : n ≤ 1000000000) (hx : ∀ x ∈ l, vN x = true) :
    Calls Try.prog 86 #[.slice A n c, .func (.func 73) #[] #[]] w fun e w' => e = .returned (.int .i64 (-1)) ∧ Below w.heap.size w w' := by
  have H := Lib.hid h
  have HX := Lib.hid hx
  clear h hx
  go_enter Try.func86, Try.ntmps86
  go_wp2_with fail
  go_loopw [8] (fun vk wr => ∃ k : Nat, k ≤ n ∧ vk = .int .i64 k ∧ Hid (Below w.heap.size w wr)) (fun vk _ => n - (intOf vk).toNat)
  case atStart => exact ⟨0, Nat.zero_le _, rfl, Lib.hid (Below.refl _ _)⟩
  case round =>
    obtain ⟨k, hk, rfl, HW⟩ := hrel
    have hsz := HW.out.size
    by_cases hlt : k < n
    · obtain ⟨b1, o1, x, rfl, hb1, hx, c0, c1, c2⟩ := (H.out.keep (w' := wr) (fun p hp => HW.out.cell (by omega))).node hlt
      have HXV := Lib.hid (HX.out x (List.mem_of_getElem? hx))
      clear hx
      go_wp2_with fail
      refine (vform1_any x wr HXV.out).mono ?_
      rintro e w3 ⟨rfl, hb3⟩
      have HB3 := Lib.hid (HW.out.trans (hb3.mono hsz))
      clear hb3 c0 c1 c2
      go_wp2_with fail
      go_roundw
      case rel => exact ⟨k + 1, by omega, by go_num, HB3⟩
      case measure => simp [intOf]; omega
    · go_wp2_with fail
      go_ret
      exact ⟨rfl, HW.out⟩

set_option maxRecDepth 100000 in
theorem ncontains_any (A : Option Addr) (n c : Nat) (l : List FNode) (B : Nat) (w : World) (h : Rd w B 3 A n (cellsOf FNode.cells l)) (hB : B ≤ w.heap.size) (hn : n ≤ 1000000000) (hx : ∀ x ∈ l, vN x = true) :
    Calls Try.prog 72 #[.slice A n c, .func (.func 73) #[] #[]] w fun e w' => e = .returned (.bool false) ∧ Below w.heap.size w w' := by
  have HI := Lib.hid (nindex_any A n c l B w h hB hn hx)
  clear h hx
  go_enter Try.func72, Try.ntmps72
  go_wp2_with fail
  refine HI.out.mono ?_
  rintro e w2 ⟨rfl, hb2⟩
  have HB2 := Lib.hid hb2
  clear hb2
  go_wp2_with fail
  go_ret
  exact ⟨ret_bool (by simp), HB2.out⟩

end Go.Proofs.Ytmciinikfjfegaa
