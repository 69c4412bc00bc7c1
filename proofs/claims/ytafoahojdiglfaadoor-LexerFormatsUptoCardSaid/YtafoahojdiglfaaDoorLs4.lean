/- the program's scanner: integer, classify, item -/
import Derived.Test.YtafoahojdiglfaaDoorLs3
import Derived.Test.YtafoahojdiglfaaDoorPi
import Derived.Test.YtafoahojdiglfaaDoorTok2
namespace Go.Proofs.YtafoahojdiglfaaDoor
open Go Go.RowKit
set_option maxHeartbeats 4000000
attribute [local irreducible] kwB syB clB

/-- the lexer's variables, and the error that ParseInt reads -/
structure GlobE (B : Nat) (w : World) : Prop where
  g : Glob B w
  lt : 7 < B
  er : ∃ te pe, w.cell? ⟨7, 0, none⟩ = some (.iface te pe)
theorem GlobE.below {B : Nat} {w w' : World} (h : GlobE B w) (hb : Below B w w') : GlobE B w' :=
  ⟨h.g.below hb, h.lt, by obtain ⟨te, pe, h1⟩ := h.er; exact ⟨te, pe, (hb.cell (p := ⟨7, 0, none⟩) h.lt).trans h1⟩⟩
theorem GlobE.alloc {B : Nat} {w : World} (h : GlobE B w) (o : Obj) : GlobE B (w.alloc o) := h.below ((Below.refl _ _).alloc h.g.size o)

theorem linteger_any (B : Nat) (s : ByteArray) (w : World) (hG : GlobE B w) (h0 : 0 < s.size) (hs : s.size ≤ 1000000000000) :
    Calls Tryd.prog 78 #[.string s] w fun e w' =>
      ((integerS s.data.toList).2 = 0 ∧ e = .returned (.tuple #[(Tok.mk 2 (integerS s.data.toList).1 ⟨#[]⟩ ⟨0, 0⟩).v, .int .i64 0]) ∨ (integerS s.data.toList).2 ≠ 0 ∧ ∃ t : Tok, e = .returned (.tuple #[t.v, .int .i64 (integerS s.data.toList).2])) ∧ Below w.heap.size w w' := by
  have HG := Lib.hid hG
  clear hG
  go_enter Tryd.func78, Tryd.ntmps78
  go_wp2
  go_loopw [4, 9] (fun _ vk wr => ∃ k : Nat, k ≤ s.size ∧ vk = .int .i64 k ∧ Hid ((s.data.toList.take k).all digitB = true) ∧ wr = (w.alloc (.cells #[.int .i64 0, .int .i64 0, .string ⟨#[]⟩, .int .i64 0, .int .i64 0] 37))) (fun _ vk _ => s.size - (intOf vk).toNat)
  case atStart => exact ⟨0, Nat.zero_le _, rfl, rfl, rfl⟩
  case round =>
    obtain ⟨k, hk, rfl, HA, rfl⟩ := hrel
    have HN := Lib.hid (Blk.new w 37 #[.int .i64 0, .int .i64 0, .string ⟨#[]⟩, .int .i64 0, .int .i64 0])
    have HB := Lib.hid ((Below.refl w.heap.size w).alloc (Nat.le_refl _) (.cells #[.int .i64 0, .int .i64 0, .string ⟨#[]⟩, .int .i64 0, .int .i64 0] 37))
    by_cases hlt : k < s.size
    · have HT : Hid (s.data.toList.take (k + 1) = s.data.toList.take k ++ [s[k]]) := Lib.hid (by rw [List.take_add_one, bget s k hlt]; rfl)
      go_wp2_with fail
      refine (digit_any _ _).mono ?_
      obtain ⟨q, hq⟩ : ∃ q, isDigit (s[k].toNat : Int) = q := ⟨_, rfl⟩
      have HQ : Hid (digitB s[k] = q) := Lib.hid hq
      rw [hq]
      clear hq
      rintro e w1 ⟨rfl, rfl⟩
      cases q
      · have hall : s.data.toList.all digitB = false := by
          rw [List.all_eq_false]
          refine ⟨s[k], List.mem_of_getElem? (bget s k hlt), ?_⟩
          rw [HQ.out]; simp
        have HI : Hid (integerS s.data.toList = (0, 2)) := Lib.hid (by unfold integerS; rw [if_pos hall])
        have hN := HN.out.cell
        have hf := HN.out.frozen
        have hl := HN.out.lt
        clear hall
        go_wp2_with fail
        refine bodyPost_ret (v := .tuple #[(Tok.mk 0 0 ⟨#[]⟩ ⟨0, 0⟩).v, .int .i64 2]) (by simp [results, Tryd.results78, go_sem]) rfl ⟨.inr ⟨by rw [HI.out]; decide, ⟨0, 0, ⟨#[]⟩, ⟨0, 0⟩⟩, by rw [HI.out]⟩, ?_⟩
        exact HB.out
      · go_wp2_with fail
        go_roundw
        case rel => exact ⟨k + 1, by omega, by go_num, (by show _ = true; rw [HT.out, List.all_append, HA.out]; simp [HQ.out]), by first | rfl | trivial⟩
        case measure => simp [intOf]; omega
    · have hks : k = s.size := by omega
      have hall : s.data.toList.all digitB = true := by
        have := HA.out
        rwa [List.take_of_length_le (by rw [blen]; omega)] at this
      have HALL := Lib.hid hall
      clear hall
      have hN := HN.out.cell
      have hf := HN.out.frozen
      have hl := HN.out.lt
      by_cases hz : 1 < s.size ∧ s[0] = 48
      · obtain ⟨hz1, hz2⟩ := hz
        have hzb : (((s[0]).toNat : Int) == 48) = true := by rw [hz2]; rfl
        have HI : Hid (integerS s.data.toList = (0, 2)) := Lib.hid (by
          unfold integerS
          rw [if_neg (by rw [HALL.out]; simp), if_pos ⟨by rw [blen]; exact hz1, by rw [bget s 0 h0, hz2]⟩])
        clear hz2
        go_wp2_with fail
        refine bodyPost_ret (v := .tuple #[(Tok.mk 0 0 ⟨#[]⟩ ⟨0, 0⟩).v, .int .i64 2]) (by simp [results, Tryd.results78, go_sem]) rfl ⟨.inr ⟨by rw [HI.out]; decide, ⟨0, 0, ⟨#[]⟩, ⟨0, 0⟩⟩, by rw [HI.out]⟩, ?_⟩
        exact HB.out
      · have HI : Hid (integerS s.data.toList = decF s.data.toList 0) := Lib.hid (by
          unfold integerS
          rw [if_neg (by rw [HALL.out]; simp), if_neg (fun h => hz ⟨by have := h.1; rw [blen] at this; exact this, by have := h.2; rw [bget s 0 h0] at this; injection this⟩)])
        have HGA := Lib.hid (HG.out.alloc (.cells #[.int .i64 0, .int .i64 0, .string ⟨#[]⟩, .int .i64 0, .int .i64 0] 37))
        obtain ⟨te, pe, her⟩ := HGA.out.er
        have HER := Lib.hid her
        clear her
        by_cases h1 : 1 < s.size
        · have hzb : (((s[0]).toNat : Int) == 48) = false := by
            rw [beq_eq_false_iff_ne]
            exact fun e => hz ⟨h1, UInt8.toNat_inj.1 (by show s[0].toNat = 48; omega)⟩
          clear hz
          go_wp2_with fail
          refine (parse_any s _ HALL.out h0 hs _ HER.out ⟨te, pe, rfl⟩).mono ?_; rintro e w2 ⟨hr, hb2⟩; have HB2 := Lib.hid (HB.out.trans (hb2.mono (by simp))); have hN2 := HN.out.below hb2 HN.out.lt; have HN2 := Lib.hid hN2; have hN2c := hN2.cell; have hN2f := hN2.frozen; have hN2l := hN2.lt; clear hb2 hN hf hl hN2
          rcases hr with ⟨v, hv, rfl⟩ | ⟨hv, n, t9, q9, rfl⟩
          · have HV := Lib.hid hv; clear hv; go_wp2_with fail; obtain ⟨q0, q1, q2, q3, q4⟩ := tok_put HN2.out ⟨2, v, ⟨#[]⟩, ⟨0, 0⟩⟩; dsimp only at q0 q1 q2 q3 q4; refine bodyPost_ret (v := .tuple #[(Tok.mk 2 v ⟨#[]⟩ ⟨0, 0⟩).v, .int .i64 0]) (by simp [results, Tryd.results78, go_sem, q0, q1, q2, q3, q4]) rfl ⟨.inl ⟨by rw [HI.out, HV.out], by rw [HI.out, HV.out]⟩, ?_⟩; exact tok_below HB2.out (Nat.le_refl _) ⟨2, v, ⟨#[]⟩, ⟨0, 0⟩⟩
          · have HV := Lib.hid hv; clear hv; go_wp2_with fail; obtain ⟨q0, q1, q2, q3, q4⟩ := tok_put HN2.out ⟨0, 0, ⟨#[]⟩, ⟨0, 0⟩⟩; dsimp only at q0 q1 q2 q3 q4; refine bodyPost_ret (v := .tuple #[(Tok.mk 0 0 ⟨#[]⟩ ⟨0, 0⟩).v, .int .i64 9]) (by simp [results, Tryd.results78, go_sem, q0, q1, q2, q3, q4]) rfl ⟨.inr ⟨by rw [HI.out, HV.out]; decide, ⟨0, 0, ⟨#[]⟩, ⟨0, 0⟩⟩, by rw [HI.out, HV.out]⟩, ?_⟩; exact tok_below HB2.out (Nat.le_refl _) ⟨0, 0, ⟨#[]⟩, ⟨0, 0⟩⟩
        · clear hz
          go_wp2_with fail
          refine (parse_any s _ HALL.out h0 hs _ HER.out ⟨te, pe, rfl⟩).mono ?_; rintro e w2 ⟨hr, hb2⟩; have HB2 := Lib.hid (HB.out.trans (hb2.mono (by simp))); have hN2 := HN.out.below hb2 HN.out.lt; have HN2 := Lib.hid hN2; have hN2c := hN2.cell; have hN2f := hN2.frozen; have hN2l := hN2.lt; clear hb2 hN hf hl hN2
          rcases hr with ⟨v, hv, rfl⟩ | ⟨hv, n, t9, q9, rfl⟩
          · have HV := Lib.hid hv; clear hv; go_wp2_with fail; obtain ⟨q0, q1, q2, q3, q4⟩ := tok_put HN2.out ⟨2, v, ⟨#[]⟩, ⟨0, 0⟩⟩; dsimp only at q0 q1 q2 q3 q4; refine bodyPost_ret (v := .tuple #[(Tok.mk 2 v ⟨#[]⟩ ⟨0, 0⟩).v, .int .i64 0]) (by simp [results, Tryd.results78, go_sem, q0, q1, q2, q3, q4]) rfl ⟨.inl ⟨by rw [HI.out, HV.out], by rw [HI.out, HV.out]⟩, ?_⟩; exact tok_below HB2.out (Nat.le_refl _) ⟨2, v, ⟨#[]⟩, ⟨0, 0⟩⟩
          · have HV := Lib.hid hv; clear hv; go_wp2_with fail; obtain ⟨q0, q1, q2, q3, q4⟩ := tok_put HN2.out ⟨0, 0, ⟨#[]⟩, ⟨0, 0⟩⟩; dsimp only at q0 q1 q2 q3 q4; refine bodyPost_ret (v := .tuple #[(Tok.mk 0 0 ⟨#[]⟩ ⟨0, 0⟩).v, .int .i64 9]) (by simp [results, Tryd.results78, go_sem, q0, q1, q2, q3, q4]) rfl ⟨.inr ⟨by rw [HI.out, HV.out]; decide, ⟨0, 0, ⟨#[]⟩, ⟨0, 0⟩⟩, by rw [HI.out, HV.out]⟩, ?_⟩; exact tok_below HB2.out (Nat.le_refl _) ⟨0, 0, ⟨#[]⟩, ⟨0, 0⟩⟩

end Go.Proofs.YtafoahojdiglfaaDoor
