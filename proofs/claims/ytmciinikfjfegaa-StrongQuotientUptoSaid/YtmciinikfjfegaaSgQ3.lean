/- quotients: the program's and the reference's quotient are the same -/
import Derived.Test.YtmciinikfjfegaaSgQ2
import Derived.Test.YtmciinikfjfegaaSgN4
namespace Go.Proofs.Ytmciinikfjfegaa
open Go Go.RowKit
set_option maxHeartbeats 4000000

def QuoIs (ls : List (List Arc)) (cl : List Int) (err : Nat) (out : List (List Arc)) : Prop :=
  (validB ls && numB cl ls.length) = false ∧ err = 1 ∧ out = [] ∨ (validB ls && numB cl ls.length) = true ∧ err = 0 ∧ ∃ i, DoneC (quoK ls (cl.map Int.toNat) (maxN (cl.map Int.toNat) + 1) ls.length) i ∧ out = (canonK (quoK ls (cl.map Int.toNat) (maxN (cl.map Int.toNat) + 1) ls.length) i).out
theorem QuoIs.unique {ls : List (List Arc)} {cl : List Int} {err err' : Nat} {out out' : List (List Arc)} (h : QuoIs ls cl err out) (h' : QuoIs ls cl err' out') : err = err' ∧ out = out' := by
  rcases h with ⟨h1, h2, h3⟩ | ⟨h1, h2, i, h3, h4⟩ <;> rcases h' with ⟨k1, k2, k3⟩ | ⟨k1, k2, j, k3, k4⟩
  · exact ⟨by rw [h2, k2], by rw [h3, k3]⟩
  · rw [h1] at k1; cases k1
  · rw [h1] at k1; cases k1
  · obtain rfl := h3.unique k3
    exact ⟨by rw [h2, k2], by rw [h4, k4]⟩
theorem QuoIs.small {ls : List (List Arc)} {cl : List Int} {err : Nat} {out : List (List Arc)} (h : QuoIs ls cl err out) : err ≤ 1 ∧ out.length ≤ 16384 ∧ ∀ l ∈ out, l.length ≤ 262144 := by
  rcases h with ⟨_, rfl, rfl⟩ | ⟨h1, rfl, i, h3, rfl⟩
  · exact ⟨Nat.le_refl _, by simp, fun l hl => by cases hl⟩
  · rw [Bool.and_eq_true] at h1
    obtain ⟨hV, hU⟩ := h1
    rw [numB, Bool.and_eq_true, decide_eq_true_eq] at hU
    obtain ⟨k0, hk0⟩ := Option.isSome_iff_exists.1 hU.1
    have hn1 := (loose_tos (valid_parts hV).1).2.1
    have hne : cl ≠ [] := fun e => by
      have := hU.2
      rw [e] at this
      simp at this
      omega
    obtain ⟨_, hb2, hb3⟩ := nbd_bound (Int.le_refl 0) hk0
    have hkm := nbd_max hk0 hne
    have hq : looseB (quoK ls (cl.map Int.toNat) (maxN (cl.map Int.toNat) + 1) ls.length) = true :=
      quo_loose (valid_parts hV).1 (by rw [List.length_map]; omega) (fun x hx => by have := maxN_le _ x hx; omega) (by omega) (by omega)
    obtain ⟨q1, q2, q3, q4⟩ := loose_tos hq
    refine ⟨Nat.zero_le _, ?_, canon_rows q4 i⟩
    rw [canon_out]
    exact Nat.le_trans (done_le q1 q2 h3) q3

set_option maxRecDepth 100000 in
theorem quotients_any (A : Option Addr) (n c : Nat) (ls : List (List Arc)) (A' : Option Addr) (n' c' : Nat) (cl : List Int) (B : Nat) (w : World) (h : RdL w B A n ls) (h' : Rd w B 1 A' n' (cellsOf icell cl)) (hB : B ≤ w.heap.size) (hn : n ≤ 100000) (hn' : n' ≤ 1000000000000) (hs : ∀ l ∈ ls, l.length ≤ 100000) :
    Calls Try.prog 15 #[lts A n c, .slice A' n' c'] w fun e w' => e = .returned (.bool true) ∧ Below w.heap.size w w' := by
  have HS := Lib.hid hs
  have HN0 := Lib.hid (Blk.new w 27 #[.slice A n c])
  have HB0 := Lib.hid ((Below.refl w.heap.size w).alloc (Nat.le_refl _) (.cells #[.slice A n c] 27))
  have HR0 := Lib.hid (And.intro (h.alloc hB (.cells #[.slice A n c] 27)) (h'.alloc hB (.cells #[.slice A n c] 27)))
  clear h h' hs
  go_enter Try.func15, Try.ntmps15
  go_wp2_with fail
  refine (quotient_any A n c ls A' n' c' cl B _ HR0.out.1 HR0.out.2 (by simp; omega) hn hn' HS.out).mono ?_
  rintro e w2 ⟨A2, n2, c2, o2, e2, rfl, ⟨W2, x2, hW2, hX2⟩, hb2, hq2⟩
  have hz : w.heap.size + 1 ≤ w2.heap.size := by have := hb2.size; simpa using this
  have HQ2 := Lib.hid (show QuoIs ls cl e2 o2 from hq2)
  have HR2 := Lib.hid (hX2.whole.alloc (Nat.le_refl _) (.cells #[.slice A2 n2 c2] 27))
  have HL2 := Lib.hid hX2.whole.len
  have HX2 := Lib.hid (And.intro ((HN0.out.below hb2 HN0.out.lt).alloc (.cells #[.slice A2 n2 c2] 27)) (And.intro (Blk.new w2 27 #[.slice A2 n2 c2]) ((HB0.out.trans (hb2.mono (by simp))).alloc (by omega) (.cells #[.slice A2 n2 c2] 27))))
  have HP2 := Lib.hid (And.intro ((HR0.out.1.below (hb2.mono (by simp; omega))).alloc (by omega) (.cells #[.slice A2 n2 c2] 27)) ((HR0.out.2.below (hb2.mono (by simp; omega))).alloc (by omega) (.cells #[.slice A2 n2 c2] 27)))
  clear hX2 hb2 hq2
  have n2c := HX2.out.1.cell
  have n2l := HX2.out.1.lt
  go_wp2_with fail
  refine (rquotient_any A n c ls A' n' c' cl B _ HP2.out.1 HP2.out.2 (by simp; omega) hn hn' HS.out).mono ?_
  rintro e w3 ⟨A3, n3, c3, o3, e3, rfl, ⟨W3, x3, hW3, hX3⟩, hb3, hq3⟩
  obtain ⟨rfl, rfl⟩ := HQ2.out.unique (show QuoIs ls cl e3 o3 from hq3)
  obtain ⟨herr, hlen, hrow⟩ := HQ2.out.small
  have HRW := Lib.hid hrow
  have hz3 : w2.heap.size + 1 ≤ w3.heap.size := by have := hb3.size; simpa using this
  have HR3 := Lib.hid (hX3.whole.alloc (Nat.le_refl _) (.cells #[.slice A3 n3 c3] 27))
  have HX3 := Lib.hid (And.intro ((HX2.out.2.1.below hb3 HX2.out.2.1.lt).alloc (.cells #[.slice A3 n3 c3] 27)) (And.intro (Blk.new w3 27 #[.slice A3 n3 c3]) ((HX2.out.2.2.trans (hb3.mono (by simp; omega))).alloc (by omega) (.cells #[.slice A3 n3 c3] 27))))
  have HP3 := Lib.hid (((HR2.out.below (hb3.mono (by simp))).alloc (by omega) (.cells #[.slice A3 n3 c3] 27)).more (show w2.heap.size ≤ w3.heap.size by omega))
  have hL2 := HL2.out
  clear hX3 hb3 hq3 n2c n2l hrow
  have p3c := HX3.out.1.cell
  have p3l := HX3.out.1.lt
  have q3c := HX3.out.2.1.cell
  have q3l := HX3.out.2.1.lt
  have hee : ((e2 : Int) == (e2 : Int)) = true := by simp
  go_wp2_with fail
  refine (same_any A2 A3 n2 c2 n3 c3 w3.heap.size o2 o2 _ HP3.out HR3.out (by simp) (by omega) (fun l hl => by have := HRW.out l hl; omega)).mono ?_
  rintro e w4 ⟨rfl, hb4⟩
  have hdd : decide (o2 = o2) = true := decide_eq_true rfl
  have HB4 := Lib.hid (HX3.out.2.2.trans (hb4.mono (by simp; omega)))
  clear hb4
  go_wp2_with fail
  go_ret
  exact ⟨ret_bool (by simp), HB4.out⟩

end Go.Proofs.Ytmciinikfjfegaa
