/- the key of a class and a signature: flow.Key, strong.key -/
import Derived.Test.YtmciinikfjfegaaRwQ3
import Derived.Test.YtmciinikfjfegaaSgN2
namespace Go.Proofs.Ytmciinikfjfegaa
open Go Go.RowKit
set_option maxHeartbeats 8000000

theorem wpList_makeCap {P : Program} (w : World) {ops : Array Oper} {rest : List Oper} {o : Oper} {a : Act} {Q : Exit → Act → World → Prop} (hg : o.guard = none) (l c : Operand) (t : TypeId) (hop : o.op = Op.makeSlice t l c)
    (e : TypeId) (i : TypeInfo) (z : Value) (h1 : P.underlying t = some (.slice e)) (h2 : P.info? e = some i) (h3 : i.zero = some z) (h4 : i.size = 1)
    (kl kc : IntKind) (m n : Nat) (C D : Int) (hl : a.eval l = .int kl D) (hc : a.eval c = .int kc C) (hC : C = (n : Int)) (hD : D = (m : Int)) (hm : m ≤ n) (b2 : i.bytes * n ≤ 281474976710656) (b3 : n ≤ 1000000000)
    (hK : wpList P ops Q rest (a.put o.dst (.slice (some ⟨w.heap.size, 0, none⟩) m n)) (w.alloc (.cells (madeCells z.cells n) e))) : wpList P ops Q (o :: rest) a w := by
  subst hC hD
  refine wpList_plain hg fun K hK' => ?_
  have hb : (i.bytes : Int) * (n : Int) ≤ 281474976710656 := by
    have : ((i.bytes * n : Nat) : Int) ≤ 281474976710656 := by omega
    rwa [Int.natCast_mul] at this
  have hrun := run_make (P := P) w t e i z h1 h2 h3 kl kc m n (by omega) (by omega) hb (by omega)
  rw [h4] at hrun
  simp only [Int.toNat_natCast, Nat.mul_one] at hrun
  unfold Oper.wp
  simp [execOp, hop, hl, hc, hrun, Result.andThen]
  exact hK' _ _ hK
theorem infoU8 : (Try.prog.info? 5).map (fun i => (i.zero, i.size, i.bytes)) = some (some (.int .u8 0), 1, 1) := by kernel_rfl
theorem slU8 : SlT Try.prog 129 5 1 1 := SlT.of Try.underlying129 infoU8 rfl (by decide)

set_option maxRecDepth 100000 in
theorem fkey_any (A : Option Addr) (n c : Nat) (l : List Nat) (B : Nat) (w : World) (h : Rd w B 1 A n (cellsOf ncell l)) (hB : B ≤ w.heap.size) (hn : n ≤ 1000000) (h0 : 0 < n) (hl : ∀ x ∈ l, x < 4294967296) :
    Calls Try.prog 88 #[.slice A n c] w fun e w' => e = .returned (.string (strN (keyN l))) ∧ Below w.heap.size w w' := by
  have H := Lib.hid h
  have HX := Lib.hid hl
  have HL := Lib.hid (h.len ncell_len (by decide))
  obtain ⟨i0, hi0, hz0, hz1, hz2⟩ := info_parts infoU8
  clear h hl
  go_enter Try.func88, Try.ntmps88
  go_wp2_with (at_make; refine wpList_makeCap _ rfl _ _ 129 rfl 5 i0 (.int .u8 0) Try.underlying129 hi0 hz0 hz1 _ _ 0 (4 * n) _ _ rfl rfl (by omega) rfl (by omega) (by rw [hz2]; omega) (by omega) ?_)
  have hown : (w.alloc (.cells (madeCells (Value.int .u8 0).cells (4 * n)) 5)).ownsRow 0 5 1 (.slice (some ⟨w.heap.size, 0, none⟩) 0 (4 * n)) 0 [] :=
    ⟨rfl, .inr ⟨w.heap.size, 4 * n, madeCells (Value.int .u8 0).cells (4 * n), rfl, Nat.zero_le _, heap_alloc_new w _, Nat.zero_le _, by unfold maxLen; omega, by rw [size_madeCells]; omega, by simp⟩⟩
  have HOW := Lib.hid hown
  have HB0 := Lib.hid ((Below.refl w.heap.size w).alloc (Nat.le_refl _) (.cells (madeCells (Value.int .u8 0).cells (4 * n)) 5))
  clear hown
  go_loopw [3, 12] (fun vb vk wr => ∃ k : Nat, k ≤ n ∧ vk = .int .i64 k ∧ Hid (wr.ownsRow 0 5 1 vb (4 * k) (cellsOf ucell (keyN (l.take k))) ∧ (∃ g c9, vb = .slice (some ⟨g, 0, none⟩) (4 * k) c9 ∧ w.heap.size ≤ g) ∧ Below w.heap.size w wr)) (fun _ vk _ => n - (intOf vk).toNat)
  case atStart => exact ⟨0, Nat.zero_le _, rfl, Lib.hid ⟨HOW.out, ⟨w.heap.size, 4 * n, rfl, Nat.le_refl _⟩, HB0.out⟩⟩
  case round =>
    obtain ⟨k, hk, rfl, HW⟩ := hrel
    obtain ⟨g, c9, rfl, hg⟩ := HW.out.2.1
    have hsz := HW.out.2.2.size
    by_cases hlt : k < n
    · obtain ⟨b1, o1, x, rfl, hb1, hx, c0⟩ := (H.out.keep (w' := wr) (fun p hp => HW.out.2.2.cell (by omega))).nat hlt
      have hxs := HX.out x (List.mem_of_getElem? hx)
      have HTK := Lib.hid (show keyN (l.take (k + 1)) = keyN (l.take k) ++ be4 x by rw [List.take_add_one, hx]; exact keyN_snoc _ _)
      clear hx
      have HC := Lib.hid (show [Value.int .u8 ((x : Int) / 16777216), .int .u8 ((x : Int) / 65536 % 256), .int .u8 ((x : Int) / 256 % 256), .int .u8 ((x : Int) % 256)] = cellsOf ucell (be4 x) by
        simp only [cellsOf, ucell, be4, List.flatMap_cons, List.flatMap_nil, List.append_nil, List.cons_append, List.nil_append, List.cons.injEq, Value.int.injEq, true_and, and_true]
        omega)
      go_wp2_with (first | (at_builtin; go_must (refine appList_blk rfl slU8 rfl (HW.out.1.alloc _) rfl (news := [.int .u8 ((x : Int) / 16777216), .int .u8 ((x : Int) / 65536 % 256), .int .u8 ((x : Int) / 256 % 256), .int .u8 ((x : Int) % 256)]) ((heap_alloc_at rfl) : Blk _ wr.heap.size _ _) rfl rfl (by simp [Value.oneCell']) (by decide) (by unfold maxLen; omega) (by omega) ?_); intro g8 c8 w8 hown8 hgrow8 hat8; refine Stop7.intro ?_))
      unfold Stop7
      have HZ := Lib.hid (show w8.ownsRow 0 5 1 (.slice (some ⟨g8, 0, none⟩) (4 * (k + 1)) c8) (4 * (k + 1)) (cellsOf ucell (keyN (l.take (k + 1)))) ∧ (∃ g c9, Value.slice (some ⟨g8, 0, none⟩) (4 * (k + 1)) c8 = .slice (some ⟨g, 0, none⟩) (4 * (k + 1)) c9 ∧ w.heap.size ≤ g) ∧ Below w.heap.size w w8 from by
        refine ⟨?_, ⟨g8, c8, rfl, ?_⟩, (HW.out.2.2.alloc hsz _).grown hgrow8 (Nat.le_trans hsz (by simp)) (fun z hz => ?_)⟩
        · rw [HTK.out, cellsOf_append, ← HC.out]
          exact hown8
        · rcases hat8 with h | h
          · have h1 : g = g8 := by simpa [Value.ownBlock] using h
            omega
          · simp at h
            omega
        · have h1 : g = z := by simpa [Value.ownBlock] using hz
          omega)
      rw [show 4 * k + 4 = 4 * (k + 1) by omega]
      clear hown8 hgrow8 hat8 c0
      go_wp2_with fail
      go_roundw
      case rel => exact ⟨k + 1, by omega, by go_num, HZ⟩
      case measure => simp [intOf]; omega
    · have hkn : k = n := by omega
      subst hkn
      have C1 := conv_any (c := c9) wr (Rd.ofOwn HW.out.1) (by omega)
      have HK := Lib.hid (show l.take k = l from List.take_of_length_le (by rw [HL.out]; exact Nat.le_refl _))
      go_wp2_with fail
      go_ret
      exact ⟨by rw [HK.out]; rfl, HW.out.2.2⟩

set_option maxRecDepth 100000 in
theorem key_any (C : Nat) (A : Option Addr) (n c : Nat) (l : List Arc) (B : Nat) (w : World) (h : Rd w B 2 A n (cellsOf Arc.cells l)) (hB : B ≤ w.heap.size) (hn : n ≤ 100000) (hC : C < 4294967296) (hl : Small l) :
    Calls Try.prog 77 #[.int .i64 C, .slice A n c] w fun e w' => e = .returned (.string (strN (keyB C l))) ∧ Below w.heap.size w w' := by
  have H := Lib.hid h
  have HX := Lib.hid hl
  have HL := Lib.hid (h.len Arc.cells_len (by decide))
  have hown : (w.alloc (.cells #[.int .i64 C] 3)).ownsRow 0 3 1 (.slice (some ⟨w.heap.size, 0, none⟩) 1 1) 1 (cellsOf ncell [C]) :=
    ⟨rfl, .inr ⟨w.heap.size, 1, #[.int .i64 C], rfl, Nat.zero_le _, heap_alloc_new w _, Nat.le_refl _, by simp [maxLen], rfl, rfl⟩⟩
  have HOW := Lib.hid hown
  have HB0 := Lib.hid ((Below.refl w.heap.size w).alloc (Nat.le_refl _) (.cells #[.int .i64 C] 3))
  clear h hl hown
  go_enter Try.func77, Try.ntmps77
  go_wp2_with fail
  go_loopw [5, 12] (fun vb vk wr => ∃ k : Nat, k ≤ n ∧ vk = .int .i64 k ∧ Hid (wr.ownsRow 0 3 1 vb (2 * k + 1) (cellsOf ncell (C :: arcN (l.take k))) ∧ (∃ g c9, vb = .slice (some ⟨g, 0, none⟩) (2 * k + 1) c9 ∧ w.heap.size ≤ g) ∧ Below w.heap.size w wr)) (fun _ vk _ => n - (intOf vk).toNat)
  case atStart => exact ⟨0, Nat.zero_le _, rfl, Lib.hid ⟨HOW.out, ⟨w.heap.size, 1, rfl, Nat.le_refl _⟩, HB0.out⟩⟩
  case round =>
    obtain ⟨k, hk, rfl, HW⟩ := hrel
    obtain ⟨g, c9, rfl, hg⟩ := HW.out.2.1
    have hsz := HW.out.2.2.size
    by_cases hlt : k < n
    · obtain ⟨b1, o1, x, rfl, hb1, hx, c0, c1⟩ := (H.out.keep (w' := wr) (fun p hp => HW.out.2.2.cell (by omega))).arc hlt
      obtain ⟨xe, xt⟩ := x
      have hxs := HX.out _ (List.mem_of_getElem? hx)
      dsimp only at c0 c1 hxs
      obtain ⟨p, rfl⟩ : ∃ p : Nat, xe = p := ⟨xe.toNat, by omega⟩
      obtain ⟨q, rfl⟩ : ∃ q : Nat, xt = q := ⟨xt.toNat, by omega⟩
      have HTK := Lib.hid (show C :: arcN (l.take (k + 1)) = (C :: arcN (l.take k)) ++ [p, q] by rw [List.take_add_one, hx]; exact congrArg (C :: ·) (arcN_snoc _ _))
      have HC := Lib.hid (show [Value.int .i64 (p : Int), .int .i64 (q : Int)] = cellsOf ncell [p, q] from rfl)
      have HO := Lib.hid (HW.out.1.alloc (.cells #[.int .i64 p, .int .i64 q] 120))
      have HBW := Lib.hid ((HW.out.2.2.alloc hsz (.cells #[.int .i64 p, .int .i64 q] 120)).alloc (Nat.le_trans hsz (by simp)) (.cells #[.int .i64 p, .int .i64 q] 3))
      have hb1l : b1 < wr.heap.size := by omega
      clear hx hxs
      go_wp2_with (first | (at_builtin; go_must (refine appList_blk rfl slInt rfl (World.ownsRow.alloc HO.out _) rfl (news := [.int .i64 p, .int .i64 q]) ((heap_alloc_at (by simp)) : Blk _ (wr.heap.size + 1) _ _) rfl rfl (by simp [Value.oneCell']) (by decide) (by unfold maxLen; omega) (by omega) ?_); intro g8 c8 w8 hown8 hgrow8 hat8; refine Stop7.intro ?_))
      unfold Stop7
      have HZ := Lib.hid (show w8.ownsRow 0 3 1 (.slice (some ⟨g8, 0, none⟩) (2 * (k + 1) + 1) c8) (2 * (k + 1) + 1) (cellsOf ncell (C :: arcN (l.take (k + 1)))) ∧ (∃ g c9, Value.slice (some ⟨g8, 0, none⟩) (2 * (k + 1) + 1) c8 = .slice (some ⟨g, 0, none⟩) (2 * (k + 1) + 1) c9 ∧ w.heap.size ≤ g) ∧ Below w.heap.size w w8 from by
        refine ⟨?_, ⟨g8, c8, rfl, ?_⟩, HBW.out.grown hgrow8 HBW.out.size (fun z hz => ?_)⟩
        · rw [HTK.out, cellsOf_append, ← HC.out]
          exact hown8
        · rcases hat8 with h | h
          · have h1 : g = g8 := by simpa [Value.ownBlock] using h
            omega
          · simp at h
            omega
        · have h1 : g = z := by simpa [Value.ownBlock] using hz
          omega)
      rw [show 2 * k + 1 + 2 = 2 * (k + 1) + 1 by omega]
      clear hown8 hgrow8 hat8 c0 c1
      go_wp2_with fail
      go_roundw
      case rel => exact ⟨k + 1, by omega, by go_num, HZ⟩
      case measure => simp [intOf]; omega
    · have hkn : k = n := by omega
      subst hkn
      have HK := Lib.hid (show l.take k = l from List.take_of_length_le (by rw [HL.out]; exact Nat.le_refl _))
      have HR := Lib.hid (Rd.ofOwn HW.out.1)
      have HSM := Lib.hid (show ∀ x ∈ C :: arcN (l.take k), x < 4294967296 from by
        rw [HK.out]
        intro x hx
        rcases List.mem_cons.1 hx with rfl | hx
        · exact hC
        · exact arcN_small HX.out x hx)
      go_wp2_with fail
      refine (fkey_any (some ⟨g, 0, none⟩) (2 * k + 1) c9 (C :: arcN (l.take k)) wr.heap.size wr HR.out (Nat.le_refl _) (by omega) (by omega) HSM.out).mono ?_
      rintro e w9 ⟨rfl, hb9⟩
      have HB9 := Lib.hid (HW.out.2.2.trans (hb9.mono hsz))
      clear hb9
      go_wp2_with fail
      go_ret
      exact ⟨by rw [HK.out]; rfl, HB9.out⟩

end Go.Proofs.Ytmciinikfjfegaa
