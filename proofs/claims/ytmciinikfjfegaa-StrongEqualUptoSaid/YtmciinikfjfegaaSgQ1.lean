/- the reference's Numbered and count; a drawn partition -/
import Derived.Test.YtmciinikfjfegaaSgW5
import Derived.Test.YtmciinikfjfegaaTp
namespace Go.Proofs.Ytmciinikfjfegaa
open Go Go.RowKit
set_option maxHeartbeats 8000000

set_option maxRecDepth 100000 in
theorem rnumbered_any (A : Option Addr) (n c : Nat) (l : List Int) (N : Nat) (B : Nat) (w : World) (h : Rd w B 1 A n (cellsOf icell l)) (hB : B ≤ w.heap.size) (hn : n ≤ 1000000000000) (hN : N ≤ 1000000000000) :
    Calls Try.prog 45 #[.slice A n c, .int .i64 N] w fun e w' => e = .returned (.bool (numB l N)) ∧ Below w.heap.size w w' := by
  have HL := Lib.hid (h.len icell_len (by decide))
  have H := Lib.hid h
  clear h
  go_enter Try.func45, Try.ntmps45
  go_wp2_with fail
  go_loopw [5, 6] (fun vm vk wr => ∃ k m : Nat, k ≤ n ∧ m ≤ k ∧ vk = .int .i64 k ∧ vm = .int .i64 m ∧ Hid (nbd l 0 = nbd (l.drop k) m ∧ Below w.heap.size w wr)) (fun _ vk _ => n - (intOf vk).toNat)
  case atStart => exact ⟨0, 0, Nat.zero_le _, Nat.le_refl _, rfl, rfl, Lib.hid ⟨by rw [List.drop_zero]; rfl, Below.refl _ _⟩⟩
  case round =>
    obtain ⟨k, m, hk, hm, rfl, rfl, HW⟩ := hrel
    by_cases hlt : k < n
    · obtain ⟨b1, o1, x, rfl, _, hx, c0⟩ := (H.out.keep (w' := wr) (fun p hp => HW.out.2.cell (by omega))).int hlt
      have HD := Lib.hid (drop_cons hx)
      clear hx
      by_cases h1 : x < 0 ∨ (m : Int) < x
      · have HF := Lib.hid (show numB l N = false by rw [numB, HW.out.1, HD.out, nbd_cons_no h1]; rfl)
        rcases h1 with h1 | h1
        · go_wp2_with fail
          go_ret
          exact ⟨ret_bool HF.out.symm, HW.out.2⟩
        · have h2 : ¬ x < 0 := by omega
          have h3 : x > (m : Int) := h1
          go_wp2_with fail
          go_ret
          exact ⟨ret_bool HF.out.symm, HW.out.2⟩
      · have h2 : ¬ x < 0 := by omega
        have h3 : ¬ (m : Int) < x := by omega
        have h4 : ¬ x > (m : Int) := by omega
        have HS := Lib.hid (show nbd l 0 = nbd (l.drop (k + 1)) (if x = m then (m : Int) + 1 else m) by rw [HW.out.1, HD.out, nbd_cons_ok h1])
        clear h1
        by_cases hxm : x = m
        · subst hxm
          have HS2 := Lib.hid (show nbd l 0 = nbd (l.drop (k + 1)) ((m + 1 : Nat) : Int) by rw [HS.out, if_pos rfl]; rfl)
          clear HS
          go_wp2_with fail
          go_roundw
          case rel => exact ⟨k + 1, m + 1, by omega, by omega, by go_num, by go_num, Lib.hid ⟨HS2.out, HW.out.2⟩⟩
          case measure => simp [intOf]; omega
        · have HS2 := Lib.hid (show nbd l 0 = nbd (l.drop (k + 1)) (m : Nat) by rw [HS.out, if_neg hxm])
          clear HS
          go_wp2_with fail
          go_roundw
          case rel => exact ⟨k + 1, m, by omega, by omega, by go_num, by go_num, Lib.hid ⟨HS2.out, HW.out.2⟩⟩
          case measure => simp [intOf]; omega
    · have hkn : k = n := by omega
      subst hkn
      have HE := Lib.hid (show nbd l 0 = some (m : Int) by rw [HW.out.1, List.drop_of_length_le (by rw [HL.out]; exact Nat.le_refl _)]; rfl)
      have HF := Lib.hid (show numB l N = decide ((k : Int) = N) by rw [numB, HE.out, HL.out]; rfl)
      by_cases e : k = N
      · subst e
        go_wp2_with fail
        go_ret
        exact ⟨ret_bool (by rw [HF.out]; first | rfl | exact (decide_eq_true rfl).symm | simp), HW.out.2⟩
      · have e2 : ¬ (k : Int) = (N : Int) := by omega
        go_wp2_with fail
        go_ret
        exact ⟨ret_bool (by rw [HF.out]; rfl), HW.out.2⟩

set_option maxRecDepth 100000 in
theorem count_any (A : Option Addr) (n c : Nat) (l : List Nat) (B : Nat) (w : World) (h : Rd w B 1 A n (cellsOf ncell l)) (hB : B ≤ w.heap.size) (hn : n ≤ 1000000000000) (h0 : 1 ≤ n) (hl : ∀ x ∈ l, x ≤ 1000000) :
    Calls Try.prog 46 #[.slice A n c] w fun e w' => e = .returned (.int .i64 (maxN l + 1 : Nat)) ∧ Below w.heap.size w w' := by
  have HL := Lib.hid (h.len ncell_len (by decide))
  have H := Lib.hid h
  have HX := Lib.hid hl
  clear h hl
  go_enter Try.func46, Try.ntmps46
  go_wp2_with fail
  go_loopw [3, 4] (fun vm vk wr => ∃ k m : Nat, k ≤ n ∧ m ≤ 1000001 ∧ vk = .int .i64 k ∧ vm = .int .i64 m ∧ Hid ((k = 0 ∧ m = 0 ∨ 1 ≤ k ∧ m = maxN (l.take k) + 1) ∧ Below w.heap.size w wr)) (fun _ vk _ => n - (intOf vk).toNat)
  case atStart => exact ⟨0, 0, Nat.zero_le _, Nat.zero_le _, rfl, rfl, Lib.hid ⟨.inl ⟨rfl, rfl⟩, Below.refl _ _⟩⟩
  case round =>
    obtain ⟨k, m, hk, hm, rfl, rfl, HW⟩ := hrel
    by_cases hlt : k < n
    · obtain ⟨b1, o1, x, rfl, _, hx, c1⟩ := (H.out.keep (w' := wr) (fun p hp => HW.out.2.cell (by omega))).nat hlt
      have hx1 := HX.out x (List.mem_of_getElem? hx)
      have HS := Lib.hid (show max m (x + 1) = maxN (l.take (k + 1)) + 1 by
        rw [List.take_add_one, hx]
        have h2 := maxN_snoc (l.take k) x
        show _ = maxN (l.take k ++ [x]) + 1
        rw [h2]
        rcases HW.out.1 with ⟨rfl, rfl⟩ | ⟨_, rfl⟩
        · rw [List.take_zero]
          show max 0 (x + 1) = max 0 x + 1
          omega
        · omega)
      clear hx
      by_cases hmx : m ≤ x + 1
      · have HS2 := Lib.hid (show x + 1 = maxN (l.take (k + 1)) + 1 by rw [← HS.out]; omega)
        have hmx2 : (m : Int) ≤ x + 1 := by omega
        go_wp2_with fail
        go_roundw
        case rel => exact ⟨k + 1, x + 1, by omega, by omega, by go_num, by first | go_num | (simp; omega), Lib.hid ⟨.inr ⟨by omega, HS2.out⟩, HW.out.2⟩⟩
        case measure => simp [intOf]; omega
      · have HS2 := Lib.hid (show m = maxN (l.take (k + 1)) + 1 by rw [← HS.out]; omega)
        have hmx2 : (x : Int) + 1 ≤ m := by omega
        go_wp2_with fail
        go_roundw
        case rel => exact ⟨k + 1, m, by omega, by omega, by go_num, by first | go_num | (simp; omega), Lib.hid ⟨.inr ⟨by omega, HS2.out⟩, HW.out.2⟩⟩
        case measure => simp [intOf]; omega
    · have hkn : k = n := by omega
      subst hkn
      have HE := Lib.hid (show m = maxN l + 1 by
        have h1 := HW.out.1
        rw [List.take_of_length_le (by rw [HL.out]; exact Nat.le_refl _)] at h1
        omega)
      go_wp2_with fail
      go_ret
      exact ⟨by rw [← HE.out]; rfl, HW.out.2⟩

/-- a drawn partition under way -/
structure ClsAt (w wr : World) (B b : Nat) (A : Option Addr) (n c i : Nat) (zs : List Int) (v : Value) (k : Nat) : Prop where
  base : ∀ g, v.ownBlock = some g → w.heap.size ≤ g
  tp : TpAt wr B b A n c zs (i + (k + 1))
  out : Outside (fun k => k = b) w wr
theorem ClsAt.snoc {w w2 w8 : World} {B b : Nat} {A : Option Addr} {n c i : Nat} {zs : List Int} {v : Value} {k g8 c8 : Nat} {out : List Int} {r : Int} (h : ClsAt w w2 B b A n c i zs v k)
    (hown : w8.ownsRow 0 3 1 (.slice (some ⟨g8, 0, none⟩) (k + 1) c8) (k + 1) (cellsOf icell out ++ [.int .i64 r])) (hg : (w2.alloc (.cells #[.int .i64 r] 3)).grownBy w8 v.ownBlock) (hat : v.ownBlock = some g8 ∨ (w2.alloc (.cells #[.int .i64 r] 3)).heap.size ≤ g8) (hb : b < w.heap.size) :
    w8.ownsRow 0 3 1 (.slice (some ⟨g8, 0, none⟩) (k + 1) c8) (k + 1) (cellsOf icell (out ++ [r])) ∧ (∀ g, (Value.slice (some ⟨g8, 0, none⟩) (k + 1) c8).ownBlock = some g → w.heap.size ≤ g) ∧ TpAt w8 B b A n c zs (i + (k + 1)) ∧ Outside (fun k => k = b) w w8 := by
  have hO : Outside (fun x => v.ownBlock = some x) w2 w8 := ((Outside.refl (fun x => v.ownBlock = some x) w2).alloc (.cells #[.int .i64 r] 3)).grown hg (fun z hz => .inl hz)
  have hsz := h.out.size
  refine ⟨by rw [cellsOf_append]; exact hown, fun g hg => ?_, h.tp.out hO (fun e => by have := h.base b e; omega) (fun k hk e => by have := h.base k e; have := h.tp.lo; omega),
    ((h.out.mono fun k _ e => .inl e).trans (hO.mono fun k _ e => .inr (h.base k e)) : Outside (fun k => k = b ∨ w.heap.size ≤ k) w w8).mono fun k hk e => e.resolve_right (by omega)⟩
  have h1 : g8 = g := by simpa [Value.ownBlock] using hg
  rcases hat with h2 | h2
  · exact h.base g (by rw [← h1]; exact h2)
  · simp at h2
    omega
/-- what a drawn partition is -/
def ClsPost (w : World) (B b : Nat) (A : Option Addr) (n c i : Nat) (zs : List Int) (m : Nat) (e : Ending) (w' : World) : Prop :=
  (∃ (A2 : Option Addr) (c2 : Nat) (cl : List Int), e = .returned (.slice A2 m c2) ∧ Rd w' w'.heap.size 1 A2 m (cellsOf icell cl)) ∧ TpAt w' B b A n c zs (i + m) ∧ Outside (fun k => k = b) w w'

set_option maxRecDepth 100000 in
theorem tclasses_any (B b : Nat) (A : Option Addr) (n c i : Nat) (zs : List Int) (m : Nat) (w : World) (h : TpAt w B b A n c zs i) (hn : n ≤ 1000000000000) (hi : i ≤ 100000000) (hm : m ≤ 1000) :
    Calls Try.prog 16 #[.pointer (some ⟨b, 0, none⟩), .int .i64 m] w (ClsPost w B b A n c i zs m) := by
  have H := Lib.hid h
  have hbw : b < w.heap.size := h.blk.lt
  clear h
  go_enter Try.func16, Try.ntmps16
  go_wp2_with fail
  go_loopw [5, 6, 7] (fun vo vm vk wr => ∃ (k q : Nat) (out : List Int), k ≤ m ∧ q ≤ k ∧ vk = .int .i64 k ∧ vm = .int .i64 q ∧ Hid (wr.ownsRow 0 3 1 vo k (cellsOf icell out) ∧ (∀ g, vo.ownBlock = some g → w.heap.size ≤ g) ∧ TpAt wr B b A n c zs (i + k) ∧ Outside (fun k => k = b) w wr)) (fun _ _ vk _ => m - (intOf vk).toNat)
  case atStart => exact ⟨0, 0, [], Nat.zero_le _, Nat.le_refl _, rfl, rfl, Lib.hid ⟨World.ownsRow_nil _ _ _ _, fun g hg => by simp [Value.ownBlock] at hg, H.out, Outside.refl _ _⟩⟩
  case round =>
    obtain ⟨k, q, out, hk, hq, rfl, rfl, HW⟩ := hrel
    by_cases hlt : k < m
    · go_wp2_with fail
      refine (tnext_any B b A n c (i + k) zs (q + 1 : Nat) _ HW.out.2.2.1 hn (by omega) (by omega) (by omega)).mono ?_
      rintro e w2 ⟨⟨r, rfl, hr0, hr1⟩, hT2, hO2⟩
      obtain ⟨A1, c1, rfl, hkc, _⟩ := own_form HW.out.1
      have HO := Lib.hid (own_out HW.out.1 hO2 (fun g hg e => by have := HW.out.2.1 g hg; omega))
      have HW2 := Lib.hid (show ClsAt w w2 B b A n c i zs (.slice A1 k c1) k from ⟨HW.out.2.1, hT2, HW.out.2.2.2.trans hO2⟩)
      have hb2 := hT2.blk.lt
      clear hT2 hO2
      by_cases hrq : r = (q : Int)
      · subst hrq
        go_wp2_with (first | (at_builtin; go_must (refine appList_blk rfl slInt rfl (World.ownsRow.alloc HO.out _) rfl (news := [.int .i64 (q : Nat)]) ((heap_alloc_at rfl) : Blk _ w2.heap.size _ _) rfl rfl (by simp [Value.oneCell']) (by decide) (by unfold maxLen; omega) (by omega) ?_); intro g8 c8 w8 hown8 hgrow8 hat8; refine Stop7.intro ?_))
        unfold Stop7
        have HW8 := Lib.hid (HW2.out.snoc hown8 hgrow8 hat8 hbw)
        clear hown8 hgrow8 hat8
        go_wp2_with fail
        go_roundw
        case rel => exact ⟨k + 1, q + 1, out ++ [((q : Nat) : Int)], by omega, by omega, by go_num, by first | rfl | go_num, HW8⟩
        case measure => simp [intOf]; omega
      · have hrb : (r == (q : Int)) = false := beq_eq_false_iff_ne.2 hrq
        go_wp2_with (first | (at_builtin; go_must (refine appList_blk rfl slInt rfl (World.ownsRow.alloc HO.out _) rfl (news := [.int .i64 r]) ((heap_alloc_at rfl) : Blk _ w2.heap.size _ _) rfl rfl (by simp [Value.oneCell']) (by decide) (by unfold maxLen; omega) (by omega) ?_); intro g8 c8 w8 hown8 hgrow8 hat8; refine Stop7.intro ?_))
        unfold Stop7
        have HW8 := Lib.hid (HW2.out.snoc hown8 hgrow8 hat8 hbw)
        clear hown8 hgrow8 hat8
        go_wp2_with fail
        go_roundw
        case rel => exact ⟨k + 1, q, out ++ [(r : Int)], by omega, by omega, by go_num, by first | rfl | go_num, HW8⟩
        case measure => simp [intOf]; omega
    · have hkm : k = m := by omega
      subst hkm
      obtain ⟨A1, c1, rfl, hkc, _⟩ := own_form HW.out.1
      go_wp2_with fail
      go_ret
      exact ⟨⟨A1, c1, out, rfl, Rd.ofOwn HW.out.1⟩, HW.out.2.2.1, HW.out.2.2.2⟩

theorem tclassesI_any (B b : Nat) (A : Option Addr) (n c i : Nat) (zs : List Int) (m : Nat) (mi : Int) (w : World) (h : TpAt w B b A n c zs i) (hn : n ≤ 1000000000000) (hi : i ≤ 100000000) (hm : m ≤ 1000) (hmi : mi = (m : Int)) :
    Calls Try.prog 16 #[.pointer (some ⟨b, 0, none⟩), .int .i64 mi] w (ClsPost w B b A n c i zs m) := by
  subst hmi
  exact tclasses_any B b A n c i zs m w h hn hi hm

end Go.Proofs.Ytmciinikfjfegaa
