/- the reference's unpack: a packed system is read without checks -/
import Derived.Test.YtonpdclccgpceaaRwE2
import Derived.Test.YtonpdclccgpceaaRwH4
namespace Go.Proofs.Ytonpdclccgpceaa
open Go Go.RowKit
set_option maxHeartbeats 16000000

/-- what stands while the arcs of a row are read -/
structure RuAt (w wr : World) (B g : Nat) (A : Option Addr) (n c : Nat) (l : List Nat) (q : Nat) (bk : Bool) (va : Value) (k : Nat) (acc : List Arc) : Prop where
  own : wr.ownsRow 0 55 2 va k (cellsOf Arc.cells acc)
  base : ∀ x, va.ownBlock = some x → w.heap.size ≤ x
  rd : RfAt wr B g A n c l q bk
  out : Outside (fun k => k = g) w wr
  ltg : g < w.heap.size
section
variable {w wr w' : World} {B g n c q q' k : Nat} {A : Option Addr} {l : List Nat} {bk bk' : Bool} {va : Value} {acc : List Arc}
theorem RuAt.step (h : RuAt w wr B g A n c l q bk va k acc) (hR : RfAt w' B g A n c l q' bk') (hO : Outside (fun k => k = g) wr w') : RuAt w w' B g A n c l q' bk' va k acc :=
  ⟨own_out h.own hO (fun x hx e => by have := h.base x hx; have := h.ltg; omega), h.base, hR, h.out.trans hO, h.ltg⟩
theorem RuAt.app {va' : Value} {k' : Nat} {acc' : List Arc} (h : RuAt w wr B g A n c l q bk va k acc) (hO : Outside (fun x => va.ownBlock = some x) wr w') (hown : w'.ownsRow 0 55 2 va' k' (cellsOf Arc.cells acc'))
    (hb : ∀ x, va'.ownBlock = some x → va.ownBlock = some x ∨ wr.heap.size ≤ x) : RuAt w w' B g A n c l q bk va' k' acc' := by
  have hg := h.ltg
  have hlo := h.rd.lo
  have hsz := h.out.size
  refine ⟨hown, fun x hx => ?_, h.rd.out hO (fun e => by have := h.base _ e; omega) (fun k hk e => by have := h.base _ e; omega), ?_, h.ltg⟩
  · rcases hb x hx with h1 | h1
    · exact h.base x h1
    · omega
  · exact ((h.out.mono (R' := fun k => k = g ∨ w.heap.size ≤ k) fun k _ e => Or.inl e).trans (hO.mono fun k _ e => Or.inr (h.base _ e))).mono fun k hk e => by
      rcases e with e | e
      · exact e
      · omega
end

/-- the bytes are the body of a packed system -/
def BodyOf (l : List Nat) (ls : List (List Arc)) : Prop := validB ls = true ∧ l = bodyB ls ∧ (packB ls).length ≤ 1048576
theorem BodyOf.head {l : List Nat} {ls : List (List Arc)} (h : BodyOf l ls) : HeadG false l 0 ls ((rowsOf ls).flatten ++ []) := headG_of h.1 h.2.2 (by rw [h.2.1, List.append_nil])
theorem RowsX.lower {w : World} {W W' k : Nat} {v : Value} {xs : List Value} {ls : List (List Arc)} (h : RowsX w W v k xs ls) (hW : W' ≤ W) : RowsX w W' v k xs ls :=
  ⟨h.own, fun g hg => Nat.le_trans hW (h.base g hg), h.len, fun j l hl => by
    obtain ⟨u, h1, h2, h3⟩ := h.rows j l hl
    exact ⟨u, h1, h2, fun g hg => Nat.le_trans hW (h3 g hg)⟩⟩
/-- what unpack gives -/
def UpkPost (w : World) (l : List Nat) (e : Ending) (w' : World) : Prop :=
  ∃ (A : Option Addr) (n c : Nat) (ls : List (List Arc)) (ok : Bool), e = .returned (.tuple #[lts A n c, .bool ok]) ∧ (∃ xs, RowsX w' w.heap.size (.slice A n c) n xs ls) ∧ Below w.heap.size w w' ∧ n ≤ 16384 ∧ (∀ l ∈ ls, l.length ≤ 2000000) ∧ (∀ ls', BodyOf l ls' → ok = true ∧ ls = ls')
theorem upk_bad {w w' : World} {l : List Nat} (h : Below w.heap.size w w') (hr : ∀ ls', BodyOf l ls' → False) : UpkPost w l (.returned (.tuple #[.agg #[.slice none 0 0], .bool false])) w' :=
  ⟨none, 0, 0, [], false, rfl, ⟨_, RowsX.nil w' _⟩, h, by omega, fun l hl => absurd hl (by simp), fun ls' h => (hr ls' h).elim⟩
theorem row_done {r : List Arc} {s : Int} : rowB s (prevA r r.length) (r.drop r.length) = [] := by
  rw [List.drop_length]
  cases prevA r r.length <;> rfl
/-- the rows that were read so far -/
def UpkAt (l : List Nat) (st q : Nat) (bk : Bool) (s : Nat) (ls : List (List Arc)) : Prop :=
  ∀ ls', BodyOf l ls' → bk = false ∧ ls = ls'.take s ∧ l.drop q = ((rowsOf ls').drop s).flatten ++ [] ∧ st = ls'.length ∧ (s = ls'.length → q = l.length)

set_option maxRecDepth 100000 in
theorem upk_any (A : Option Addr) (n c B : Nat) (l : List Nat) (w : World) (h : Rd w B 1 A n (cellsOf ucell l)) (hB : B ≤ w.heap.size) (hby : ∀ x ∈ l, x < 256) (h4 : 4 ≤ n) (hn : n ≤ 1048576) :
    Calls Try.prog 73 #[.slice A n c] w (UpkPost w l) := by
  have HBY := Lib.hid hby
  have HL := Lib.hid (h.len ucell_len (by decide))
  obtain ⟨b0, o0, x0, rfl, hb0, hx0, c0⟩ := h.ubyte (i := 0) (by omega)
  obtain ⟨b1, o1, x1, e1, hb1, hx1, c1⟩ := h.ubyte (i := 1) (by omega)
  obtain ⟨rfl, rfl⟩ : b0 = b1 ∧ o0 = o1 := by simpa using e1
  rw [Nat.add_zero] at c0
  have HRF := Lib.hid (show RfAt ((w.alloc (.cells #[.slice none 0 0] 25)).alloc (.cells #[.slice (some ⟨b0, o0, none⟩) n c, .int .i64 2, .bool false] 95)) B (w.heap.size + 1) (some ⟨b0, o0, none⟩) n c l 2 false from
    ⟨heap_alloc_at (by simp), (h.alloc hB _).alloc (by simp; omega) _, by omega, by omega, hby⟩)
  have HT2 := Lib.hid ((Blk.new w 25 #[.slice none 0 0]).alloc (.cells #[.slice (some ⟨b0, o0, none⟩) n c, .int .i64 2, .bool false] 95))
  have HB2 := Lib.hid (((Below.refl w.heap.size w).alloc (Nat.le_refl _) (.cells #[.slice none 0 0] 25)).alloc (by simp) (.cells #[.slice (some ⟨b0, o0, none⟩) n c, .int .i64 2, .bool false] 95))
  have HX := Lib.hid (show ∀ ls', BodyOf l ls' → x0 = 67 ∧ x1 = 82 ∧ l.drop 2 = uv ls'.length ++ (uv (total ls') ++ (sizesB ls' ((ls'.length + 15) / 16) ++ ((rowsOf ls').flatten ++ []))) from fun ls' hb => by
    obtain ⟨t, h1, h2⟩ := hb.head.two
    obtain ⟨h3, h4⟩ := drop_get h1
    obtain ⟨h5, h6⟩ := drop_get h4
    rw [hx0] at h3
    rw [hx1] at h5
    exact ⟨Option.some.inj h3, Option.some.inj h5, by rw [← h2]; exact h6⟩)
  have hb0w : b0 < w.heap.size := by omega
  clear h hby hx0 hx1 e1
  go_enter Try.func73, Try.ntmps73
  by_cases hh : (x0 : Int) = 67 ∧ (x1 : Int) = 82
  · obtain ⟨hh0, hh1⟩ := hh
    go_wp2_with fail
    refine (rfuv_any B (w.heap.size + 1) _ n c 2 l false _ HRF.out (by omega)).mono ?_
    rintro e w3 ⟨ns, q3, b3, rfl, hns, hR3, hO3, hq3, _, hl3, hex3⟩
    have HR3 := Lib.hid hR3
    have HO3 := Lib.hid hO3
    have HX3 := Lib.hid (show ∀ ls', BodyOf l ls' → ns = ls'.length ∧ b3 = false ∧ q3 = 2 + (uv ls'.length).length ∧ l.drop q3 = uv (total ls') ++ (sizesB ls' ((ls'.length + 15) / 16) ++ ((rowsOf ls').flatten ++ [])) from fun ls' hb => by
      obtain ⟨_, _, h1⟩ := HX.out ls' hb
      have hn2 := (Pk.of hb.1).n2
      obtain ⟨f1, f2, f3⟩ := hex3 _ _ rfl h1 (by omega)
      exact ⟨f1, f3, f2, by rw [f2]; exact drop_app h1⟩)
    clear hR3 hO3 hex3 hq3 hl3 c0 c1
    go_wp2_with fail
    refine (rfuv_any B (w.heap.size + 1) _ n c q3 l b3 _ HR3.out (by omega)).mono ?_
    rintro e w4 ⟨ar, q4, b4, rfl, _, hR4, hO4, hq4, _, hl4, hex4⟩
    have HR4 := Lib.hid hR4
    have HO4 := Lib.hid (HO3.out.trans hO4)
    have HX4 := Lib.hid (show ∀ ls', BodyOf l ls' → ns = ls'.length ∧ b4 = false ∧ q4 = (headB ls').length + (sizesB ls' 0).length from fun ls' hb => by
      obtain ⟨h1, h2, h3, h5⟩ := HX3.out ls' hb
      have hn2 := (Pk.of hb.1).tot
      obtain ⟨f1, f2, f3⟩ := hex4 _ _ h2 h5 (by omega)
      have h6 := hb.head.len
      have h7 : (sizesB ls' 0).length = 0 := rfl
      exact ⟨h1, f3, by omega⟩)
    have hs4 : w.heap.size + 2 ≤ w4.heap.size := Nat.le_trans (by simp) HO4.out.size
    have HT4 := Lib.hid (HT2.out.out HO4.out (by omega))
    have HB4 := Lib.hid (HB2.out.trans (HO4.out.below (by simp; omega) (fun k hk e => by omega)))
    have r4c := HR4.out.blk.cell
    have r4l := HR4.out.blk.lt
    clear hR4 hO4 hex4 hq4 hl4
    by_cases hgood : b4 = false ∧ 1 ≤ ns ∧ ns ≤ 16384
    · obtain ⟨rfl, hns1, hns2⟩ := hgood
      go_wp2_with fail
      clear r4c r4l
      go_loopw [6] (fun vs wr => ∃ (k q : Nat) (bk : Bool), 16 * k < ns + 16 ∧ vs = .int .i64 (16 * k : Nat) ∧ w4.heap.size ≤ wr.heap.size ∧ Hid (RfAt wr B (w.heap.size + 1) (some ⟨b0, o0, none⟩) n c l q bk ∧ Outside (fun k => k = w.heap.size + 1) w4 wr ∧
        ∀ ls', BodyOf l ls' → bk = false ∧ q = (headB ls').length + (sizesB ls' k).length)) (fun vs _ => ns + 16 - (intOf vs).toNat)
      case atStart => exact ⟨0, q4, false, by omega, rfl, Nat.le_refl _, Lib.hid ⟨HR4.out, Outside.refl _ _, fun ls' hb => ⟨rfl, (HX4.out ls' hb).2.2⟩⟩⟩
      case round =>
        obtain ⟨k, q, bk, hk, rfl, hwz, HW⟩ := hrel
        by_cases hlt : 16 * k < ns
        · go_wp2_with fail
          refine (rfuv_any B (w.heap.size + 1) _ n c q l bk _ HW.out.1 (by omega)).mono ?_
          rintro e w5 ⟨z, q5, b5, rfl, _, hR5, hO5, _, _, _, hex5⟩
          have HZ := Lib.hid (show RfAt w5 B (w.heap.size + 1) (some ⟨b0, o0, none⟩) n c l q5 b5 ∧ Outside (fun k => k = w.heap.size + 1) w4 w5 ∧ ∀ ls', BodyOf l ls' → b5 = false ∧ q5 = (headB ls').length + (sizesB ls' (k + 1)).length from
            ⟨hR5, HW.out.2.1.trans hO5, fun ls' hb => by
              obtain ⟨g1, g2⟩ := HW.out.2.2 ls' hb
              have g3 := (HX4.out ls' hb).1
              obtain ⟨t, ht⟩ := hb.head.size (k := k) (by omega)
              rw [Nat.zero_add, ← g2] at ht
              have g4 := gsz_le ls' k
              have g5 := hb.2.2
              obtain ⟨f1, f2, f3⟩ := hex5 _ _ g1 ht (by omega)
              refine ⟨f3, ?_⟩
              rw [sizesB_next, List.length_append]
              omega⟩)
          have hwz5 := hO5.size
          clear hR5 hO5 hex5
          go_wp2_with fail
          go_roundw
          case rel => exact ⟨k + 1, q5, b5, by omega, by go_num, by omega, HZ⟩
          case measure => simp [intOf]; omega
        · have HQ := Lib.hid (show UpkAt l ns q bk 0 [] from fun ls' hb => by
            obtain ⟨g1, g2⟩ := HW.out.2.2 ls' hb
            have g3 := (HX4.out ls' hb).1
            have g4 : k = (ls'.length + 15) / 16 := by omega
            have e1 : l = bodyB ls' ++ [] := by rw [hb.2.1, List.append_nil]
            have g5 := headG_rows e1
            rw [Nat.zero_add, ← g4, ← g2] at g5
            have hv := (Pk.of hb.1).n1
            exact ⟨g1, by simp, g5, g3, fun h => by omega⟩)
          have HN5 := Lib.hid (Blk.new wr 25 #[.slice none 0 0])
          have HT5 := Lib.hid ((HT4.out.out HW.out.2.1 (by omega)).alloc (.cells #[.slice none 0 0] 25))
          have HB5 := Lib.hid ((HB4.out.trans (HW.out.2.1.below (by omega) (fun k hk e => by omega))).alloc (by omega) (.cells #[.slice none 0 0] 25))
          have HR5 := Lib.hid (HW.out.1.below ((Below.refl _ _).alloc (Nat.le_refl _) (.cells #[.slice none 0 0] 25)))
          obtain ⟨T, hT⟩ : ∃ T, wr.heap.size = T := ⟨_, rfl⟩
          have HTT := Lib.hid hT
          rw [hT] at hwz HN5
          have hTz : (wr.alloc (.cells #[.slice none 0 0] 25)).heap.size = T + 1 := by simp; omega
          have HTZ := Lib.hid hTz
          clear hTz
          go_wp2_with fail
          clear hT
          go_loopw [8] (fun vs w2 => ∃ (s q : Nat) (bk : Bool) (vq : Value) (xs : List Value) (ls : List (List Arc)), s ≤ ns ∧ vs = .int .i64 s ∧ T + 1 ≤ w2.heap.size ∧
            Hid (RowsX w2 (T + 1) vq s xs ls ∧ Blk w2 T 25 #[vq] ∧ Blk w2 w.heap.size 25 #[.slice none 0 0] ∧ RfAt w2 B (w.heap.size + 1) (some ⟨b0, o0, none⟩) n c l q bk ∧ Below w.heap.size w w2) ∧
            Hid ((∀ l ∈ ls, l.length ≤ 2000000) ∧ UpkAt l ns q bk s ls)) (fun vs _ => ns - (intOf vs).toNat)
          case atStart => exact ⟨0, q, bk, _, [], [], Nat.zero_le _, rfl, by rw [HTZ.out]; exact Nat.le_refl _, Lib.hid ⟨RowsX.nil _ _, HN5.out, HT5.out, HR5.out, HB5.out⟩, Lib.hid ⟨fun l hl => absurd hl (by simp), HQ.out⟩⟩
          case round =>
            clear hk hlt HW HQ HR5 HB5 HT5 HN5 HTT HTZ
            rename World => w2
            obtain ⟨s, q, bk, vq, xs, ls, hs, rfl, hsz, HW2, HS⟩ := hrel
            obtain ⟨Aq, cq, rfl, hcq, _⟩ := own_form HW2.out.1.own
            by_cases hgo : bk = false ∧ s < ns
            · obtain ⟨rfl, hlt⟩ := hgo
              have rc := HW2.out.2.2.2.1.blk.cell
              have rl := HW2.out.2.2.2.1.blk.lt
              go_wp2_with (first | ((with_reducible show wpPlan _ _ _ [] _ _ _); refine wpPlan_nil ?_) | ((with_reducible show wpPlan _ _ _ ((_, 0, _) :: _) _ _ _); first | (refine wpPlan_read0 rfl ?hw rfl (fun _ _ _ => ?_); case hw => ((conv => (lhs; whnf)); first | done | with_reducible rfl)) | (refine wpPlan_skip0 rfl ?hw ?_; (case hw => ((conv => (lhs; whnf)); first | done | with_reducible rfl)); (try simp only [List.getElem_toArray, List.getElem_cons_succ, List.getElem_cons_zero, Act.put, List.setIfInBounds_toArray, List.set_cons_zero, List.set_cons_succ]))) | ((with_reducible show wpPlan _ _ _ ((_, 1, _) :: _) _ _ _); first | (refine wpPlan_read1d rfl ?hw rfl rfl (fun _ _ _ => ?_); case hw => ((conv => (lhs; whnf)); first | done | with_reducible rfl)) | (refine wpPlan_skip1d rfl ?hw ?_; (case hw => ((conv => (lhs; whnf)); first | done | with_reducible rfl)); (try simp only [List.getElem_toArray, List.getElem_cons_succ, List.getElem_cons_zero, Act.put, List.setIfInBounds_toArray, List.set_cons_zero, List.set_cons_succ])) | (refine wpPlan_read1 rfl ?hw rfl (fun _ _ _ => ?_); case hw => ((conv => (lhs; whnf)); first | done | with_reducible rfl))) | ((with_reducible show wpPlan _ _ _ ((_, 2, _) :: _) _ _ _); first | (refine wpPlan_eff rfl ?hw (fun _ _ => ?_); case hw => ((conv => (lhs; whnf)); first | done | with_reducible rfl)) | (refine wpPlan_skip2 rfl ?hw ?_; (case hw => ((conv => (lhs; whnf)); first | done | with_reducible rfl)); (try simp only [List.getElem_toArray, List.getElem_cons_succ, List.getElem_cons_zero, Act.put, List.setIfInBounds_toArray, List.set_cons_zero, List.set_cons_succ]))) | ((with_reducible show wpPlan _ _ _ _ _ _ _); refine wpPlan_fork ?_ ?_) | ((with_reducible show Owed _ _ _ [] _ _ _ _ _); refine Owed.none_ ?_) | ((with_reducible show Owed _ _ _ _ [] _ _ _ _); refine Owed.nil_ ?_) | ((with_reducible show Owed _ _ _ _ _ _ _ _ _); first | (refine Owed.miss rfl ?_) | (refine Owed.hit ?_ ?_)) | ((with_reducible show Same _ _ _ _ _); intro _; go_simp; done) | (with_reducible exact True.intro) | ((with_reducible show Code.wp _ (Code.region 29 _ true) _ _ _); refine wp_region_plan [(0, 1, []), (1, 0, []), (2, 1, []), (3, 1, []), (4, 1, []), (5, 1, []), (6, 0, []), (7, 0, []), (8, 1, []), (9, 1, []), (10, 1, []), (11, 0, []), (12, 1, []), (13, 1, []), (14, 0, []), (15, 2, [8, 9, 10, 12, 13]), (16, 0, [])] (by kernel_rfl) (by kernel_rfl) (by kernel_rfl) ?_))
              refine (rfuv_any B (w.heap.size + 1) _ n c q l false _ HW2.out.2.2.2.1 (by omega)).mono ?_
              rintro e w6 ⟨m, q6, b6, rfl, hm, hR6, hO6, _, _, _, hex6⟩
              have hOw := hO6
              have hs66 := hO6.size
              have HA := Lib.hid (show RuAt w6 w6 B (w.heap.size + 1) (some ⟨b0, o0, none⟩) n c l q6 b6 (.slice none 0 0) 0 [] from
                ⟨World.ownsRow_nil _ _ _ _, fun x hx => absurd hx (by simp [Value.ownBlock]), hR6, Outside.refl _ _, by omega⟩)
              have HEX := Lib.hid (show ∀ r rest, RowG false l q s ns r rest → m = r.length ∧ b6 = false ∧ [] = r.take 0 ∧ l.drop q6 = rowB s (prevA r 0) (r.drop 0) ++ rest ∧ q6 + (rowB s (prevA r 0) (r.drop 0)).length = q + (rowF s r).length from fun r rest hG => by
                have h1 := row_first hG
                have h2 := hG.few
                obtain ⟨e1, e2, e3⟩ := hex6 _ _ rfl h1 (by omega)
                refine ⟨e1, e3, rfl, by rw [e2]; exact drop_app h1, ?_⟩
                rw [e2, rowF, List.length_append]
                simp [prevA]
                omega)
              clear hR6 hO6 hex6 rc rl
              go_wp2_with (first | ((with_reducible show wpPlan _ _ _ [] _ _ _); refine wpPlan_nil ?_) | ((with_reducible show wpPlan _ _ _ ((_, 0, _) :: _) _ _ _); first | (refine wpPlan_read0 rfl ?hw rfl (fun _ _ _ => ?_); case hw => ((conv => (lhs; whnf)); first | done | with_reducible rfl)) | (refine wpPlan_skip0 rfl ?hw ?_; (case hw => ((conv => (lhs; whnf)); first | done | with_reducible rfl)); (try simp only [List.getElem_toArray, List.getElem_cons_succ, List.getElem_cons_zero, Act.put, List.setIfInBounds_toArray, List.set_cons_zero, List.set_cons_succ]))) | ((with_reducible show wpPlan _ _ _ ((_, 1, _) :: _) _ _ _); first | (refine wpPlan_read1d rfl ?hw rfl rfl (fun _ _ _ => ?_); case hw => ((conv => (lhs; whnf)); first | done | with_reducible rfl)) | (refine wpPlan_skip1d rfl ?hw ?_; (case hw => ((conv => (lhs; whnf)); first | done | with_reducible rfl)); (try simp only [List.getElem_toArray, List.getElem_cons_succ, List.getElem_cons_zero, Act.put, List.setIfInBounds_toArray, List.set_cons_zero, List.set_cons_succ])) | (refine wpPlan_read1 rfl ?hw rfl (fun _ _ _ => ?_); case hw => ((conv => (lhs; whnf)); first | done | with_reducible rfl))) | ((with_reducible show wpPlan _ _ _ ((_, 2, _) :: _) _ _ _); first | (refine wpPlan_eff rfl ?hw (fun _ _ => ?_); case hw => ((conv => (lhs; whnf)); first | done | with_reducible rfl)) | (refine wpPlan_skip2 rfl ?hw ?_; (case hw => ((conv => (lhs; whnf)); first | done | with_reducible rfl)); (try simp only [List.getElem_toArray, List.getElem_cons_succ, List.getElem_cons_zero, Act.put, List.setIfInBounds_toArray, List.set_cons_zero, List.set_cons_succ]))) | ((with_reducible show wpPlan _ _ _ _ _ _ _); refine wpPlan_fork ?_ ?_) | ((with_reducible show Owed _ _ _ [] _ _ _ _ _); refine Owed.none_ ?_) | ((with_reducible show Owed _ _ _ _ [] _ _ _ _); refine Owed.nil_ ?_) | ((with_reducible show Owed _ _ _ _ _ _ _ _ _); first | (refine Owed.miss rfl ?_) | (refine Owed.hit ?_ ?_)) | ((with_reducible show Same _ _ _ _ _); intro _; go_simp; done) | (with_reducible exact True.intro) | ((with_reducible show Code.wp _ (Code.region 29 _ true) _ _ _); refine wp_region_plan [(0, 1, []), (1, 0, []), (2, 1, []), (3, 1, []), (4, 1, []), (5, 1, []), (6, 0, []), (7, 0, []), (8, 1, []), (9, 1, []), (10, 1, []), (11, 0, []), (12, 1, []), (13, 1, []), (14, 0, []), (15, 2, [8, 9, 10, 12, 13]), (16, 0, [])] (by kernel_rfl) (by kernel_rfl) (by kernel_rfl) ?_))
              go_loopw [10, 11, 12, 13] (fun va ve vt vi wr2 => ∃ (k q' : Nat) (bk' : Bool) (acc : List Arc) (le lt : Int), k ≤ m ∧ vi = .int .i64 k ∧ ve = .int .i64 le ∧ vt = .int .i64 lt ∧ 0 ≤ le ∧ le ≤ 34359738368 * k ∧ -17179869184 ≤ lt ∧ lt ≤ 34359738368 * k + 34359738368 ∧ k ≤ n + 1 ∧ (bk' = false → k ≤ q') ∧
                Hid (RuAt w6 wr2 B (w.heap.size + 1) (some ⟨b0, o0, none⟩) n c l q' bk' va k acc) ∧ Hid (acc.length = k ∧ (k = 0 → le = 0) ∧ (0 < k → acc[k - 1]? = some ⟨le, lt⟩) ∧
                  ∀ r rest, RowG false l q s ns r rest → m = r.length ∧ bk' = false ∧ acc = r.take k ∧ l.drop q' = rowB s (prevA r k) (r.drop k) ++ rest ∧ q' + (rowB s (prevA r k) (r.drop k)).length = q + (rowF s r).length)) (fun _ _ _ vi _ => m - (intOf vi).toNat)
              case atStart => exact ⟨0, q6, b6, [], 0, 0, Nat.zero_le _, rfl, rfl, rfl, by decide, by decide, by decide, by decide, Nat.zero_le _, fun _ => Nat.zero_le _, HA, Lib.hid ⟨rfl, fun _ => rfl, fun h => absurd h (by decide), HEX.out⟩⟩
              case round =>
                rename World => wr2
                obtain ⟨k, q', bk', acc, le, lt, hk, rfl, rfl, rfl, hle0, hle1, hlt0, hlt1, hkn, hkq0, HU, HG⟩ := hrel
                obtain ⟨Av, cv, rfl, hcv, _⟩ := own_form HU.out.own
                have hqn := HU.out.rd.le
                by_cases hgo2 : bk' = false ∧ k < m
                · obtain ⟨rfl, hlt2⟩ := hgo2
                  have hkq1 := hkq0 rfl
                  clear hkq0
                  have rc := HU.out.rd.blk.cell
                  have rl := HU.out.rd.blk.lt
                  go_wp2_with (first | ((with_reducible show wpPlan _ _ _ [] _ _ _); refine wpPlan_nil ?_) | ((with_reducible show wpPlan _ _ _ ((_, 0, _) :: _) _ _ _); first | (refine wpPlan_read0 rfl ?hw rfl (fun _ _ _ => ?_); case hw => ((conv => (lhs; whnf)); first | done | with_reducible rfl)) | (refine wpPlan_skip0 rfl ?hw ?_; (case hw => ((conv => (lhs; whnf)); first | done | with_reducible rfl)); (try simp only [List.getElem_toArray, List.getElem_cons_succ, List.getElem_cons_zero, Act.put, List.setIfInBounds_toArray, List.set_cons_zero, List.set_cons_succ]))) | ((with_reducible show wpPlan _ _ _ ((_, 1, _) :: _) _ _ _); first | (refine wpPlan_read1d rfl ?hw rfl rfl (fun _ _ _ => ?_); case hw => ((conv => (lhs; whnf)); first | done | with_reducible rfl)) | (refine wpPlan_skip1d rfl ?hw ?_; (case hw => ((conv => (lhs; whnf)); first | done | with_reducible rfl)); (try simp only [List.getElem_toArray, List.getElem_cons_succ, List.getElem_cons_zero, Act.put, List.setIfInBounds_toArray, List.set_cons_zero, List.set_cons_succ])) | (refine wpPlan_read1 rfl ?hw rfl (fun _ _ _ => ?_); case hw => ((conv => (lhs; whnf)); first | done | with_reducible rfl))) | ((with_reducible show wpPlan _ _ _ ((_, 2, _) :: _) _ _ _); first | (refine wpPlan_eff rfl ?hw (fun _ _ => ?_); case hw => ((conv => (lhs; whnf)); first | done | with_reducible rfl)) | (refine wpPlan_skip2 rfl ?hw ?_; (case hw => ((conv => (lhs; whnf)); first | done | with_reducible rfl)); (try simp only [List.getElem_toArray, List.getElem_cons_succ, List.getElem_cons_zero, Act.put, List.setIfInBounds_toArray, List.set_cons_zero, List.set_cons_succ]))) | ((with_reducible show wpPlan _ _ _ _ _ _ _); refine wpPlan_fork ?_ ?_) | ((with_reducible show Owed _ _ _ [] _ _ _ _ _); refine Owed.none_ ?_) | ((with_reducible show Owed _ _ _ _ [] _ _ _ _); refine Owed.nil_ ?_) | ((with_reducible show Owed _ _ _ _ _ _ _ _ _); first | (refine Owed.miss rfl ?_) | (refine Owed.hit ?_ ?_)) | ((with_reducible show Same _ _ _ _ _); intro _; go_simp; done) | (with_reducible exact True.intro) | ((with_reducible show Code.wp _ (Code.region 29 _ true) _ _ _); refine wp_region_plan [(0, 1, []), (1, 0, []), (2, 1, []), (3, 1, []), (4, 1, []), (5, 1, []), (6, 0, []), (7, 0, []), (8, 1, []), (9, 1, []), (10, 1, []), (11, 0, []), (12, 1, []), (13, 1, []), (14, 0, []), (15, 2, [8, 9, 10, 12, 13]), (16, 0, [])] (by kernel_rfl) (by kernel_rfl) (by kernel_rfl) ?_))
                  refine (rfuv_any B (w.heap.size + 1) _ n c q' l false _ HU.out.rd (by omega)).mono ?_
                  rintro e w7 ⟨st, q4', b4, rfl, hst, hR4, hO4, hq4, _, hl4, hex4⟩
                  have HX4 := Lib.hid (HU.out.step hR4 hO4)
                  have HC1 := Lib.hid (show ∀ r rest, RowG false l q s ns r rest → ∃ (a : Arc) (body : List Nat), r[k]? = some a ∧ (st : Int) = a.ev - le ∧ b4 = false ∧ l.drop q4' = body ++ (rowB s (prevA r (k + 1)) (r.drop (k + 1)) ++ rest) ∧
                      q4' + body.length + (rowB s (prevA r (k + 1)) (r.drop (k + 1))).length = q + (rowF s r).length ∧ (0 < k → st = 0 → ∃ d : Nat, body = uv d ∧ a.to = lt + 1 + d ∧ d ≤ ns) ∧ (k = 0 ∨ 0 < st → body = zz (a.to - s) ∧ -(ns : Int) ≤ a.to - s ∧ a.to - s ≤ ns) from fun r rest hG => by
                    obtain ⟨e1, _, e3, e4, e5⟩ := HG.out.2.2.2 r rest hG
                    have hkr : k < r.length := by omega
                    obtain ⟨a, st', body, f1, f2, f3, f4, f5, f6, f7⟩ := row_step (s := s) (n := ns) (le := le) (lt := lt) hkr hG.ok hG.asc ⟨by omega, by omega⟩ e4 HG.out.2.1 (fun h => by
                      have h1 := HG.out.2.2.1 h
                      rw [e3] at h1
                      rw [List.getElem?_take] at h1
                      split at h1
                      · exact h1
                      · cases h1)
                    obtain ⟨g1, g2, g3⟩ := hex4 _ _ rfl f2 (by omega)
                    subst g1
                    refine ⟨a, body, f1, f3, g3, by rw [g2]; exact drop_app f2, by omega, f6, f7⟩)
                  clear hR4 hO4 hex4 rc rl
                  rcases (by omega : (0 < k ∧ st < 1) ∨ (k < 1) ∨ (0 < k ∧ 0 < st)) with ⟨hk0, hst0⟩ | hk0 | ⟨hk0, hst0⟩
                  · skip
                    go_wp2_with (first | ((with_reducible show wpPlan _ _ _ [] _ _ _); refine wpPlan_nil ?_) | ((with_reducible show wpPlan _ _ _ ((_, 0, _) :: _) _ _ _); first | (refine wpPlan_read0 rfl ?hw rfl (fun _ _ _ => ?_); case hw => ((conv => (lhs; whnf)); first | done | with_reducible rfl)) | (refine wpPlan_skip0 rfl ?hw ?_; (case hw => ((conv => (lhs; whnf)); first | done | with_reducible rfl)); (try simp only [List.getElem_toArray, List.getElem_cons_succ, List.getElem_cons_zero, Act.put, List.setIfInBounds_toArray, List.set_cons_zero, List.set_cons_succ]))) | ((with_reducible show wpPlan _ _ _ ((_, 1, _) :: _) _ _ _); first | (refine wpPlan_read1d rfl ?hw rfl rfl (fun _ _ _ => ?_); case hw => ((conv => (lhs; whnf)); first | done | with_reducible rfl)) | (refine wpPlan_skip1d rfl ?hw ?_; (case hw => ((conv => (lhs; whnf)); first | done | with_reducible rfl)); (try simp only [List.getElem_toArray, List.getElem_cons_succ, List.getElem_cons_zero, Act.put, List.setIfInBounds_toArray, List.set_cons_zero, List.set_cons_succ])) | (refine wpPlan_read1 rfl ?hw rfl (fun _ _ _ => ?_); case hw => ((conv => (lhs; whnf)); first | done | with_reducible rfl))) | ((with_reducible show wpPlan _ _ _ ((_, 2, _) :: _) _ _ _); first | (refine wpPlan_eff rfl ?hw (fun _ _ => ?_); case hw => ((conv => (lhs; whnf)); first | done | with_reducible rfl)) | (refine wpPlan_skip2 rfl ?hw ?_; (case hw => ((conv => (lhs; whnf)); first | done | with_reducible rfl)); (try simp only [List.getElem_toArray, List.getElem_cons_succ, List.getElem_cons_zero, Act.put, List.setIfInBounds_toArray, List.set_cons_zero, List.set_cons_succ]))) | ((with_reducible show wpPlan _ _ _ _ _ _ _); refine wpPlan_fork ?_ ?_) | ((with_reducible show Owed _ _ _ [] _ _ _ _ _); refine Owed.none_ ?_) | ((with_reducible show Owed _ _ _ _ [] _ _ _ _); refine Owed.nil_ ?_) | ((with_reducible show Owed _ _ _ _ _ _ _ _ _); first | (refine Owed.miss rfl ?_) | (refine Owed.hit ?_ ?_)) | ((with_reducible show Same _ _ _ _ _); intro _; go_simp; done) | (with_reducible exact True.intro) | ((with_reducible show Code.wp _ (Code.region 29 _ true) _ _ _); refine wp_region_plan [(0, 1, []), (1, 0, []), (2, 1, []), (3, 1, []), (4, 1, []), (5, 1, []), (6, 0, []), (7, 0, []), (8, 1, []), (9, 1, []), (10, 1, []), (11, 0, []), (12, 1, []), (13, 1, []), (14, 0, []), (15, 2, [8, 9, 10, 12, 13]), (16, 0, [])] (by kernel_rfl) (by kernel_rfl) (by kernel_rfl) ?_))
                    refine (rfuv_any B (w.heap.size + 1) _ n c q4' l b4 _ HX4.out.rd (by omega)).mono ?_
                    rintro e w8 ⟨d5, q5, b5, rfl, hd5, hR5, hO5, hq5, hbb5, hl5, hex5⟩

                    have HC2 := Lib.hid (show ∀ r rest, RowG false l q s ns r rest → b5 = false ∧ r[k]? = some ⟨le + st, lt + 1 + (d5 : Int)⟩ ∧ l.drop q5 = rowB s (prevA r (k + 1)) (r.drop (k + 1)) ++ rest ∧ q5 + (rowB s (prevA r (k + 1)) (r.drop (k + 1))).length = q + (rowF s r).length from fun r rest hG => by
                      obtain ⟨a, body, f1, f2, f3, f4, f5, f6, f7⟩ := HC1.out r rest hG
                      obtain ⟨ae, at_⟩ := a
                      dsimp only at f2 f6 f7
                      obtain ⟨d, rfl, f8, f9⟩ := f6 hk0 (by omega)
                      obtain ⟨g1, g2, g3⟩ := hex5 _ _ f3 f4 (by omega)
                      refine ⟨g3, ?_, by rw [g2]; exact drop_app f4, by omega⟩
                      rw [f1]
                      congr 2 <;> omega)
                    have HX5 := Lib.hid (HX4.out.step hR5 hO5)
                    have hto0 : -17179869184 ≤ lt + 1 + (d5 : Int) := by omega
                    have hto1 : lt + 1 + (d5 : Int) ≤ 34359738368 * ((k + 1 : Nat) : Int) + 34359738368 := by omega
                    have hkq : b5 = false → k + 1 ≤ q5 := fun h => by
                      have h1 : b4 = false := by
                        cases b4
                        · rfl
                        · rw [hbb5 rfl] at h; cases h
                      have := hl4 h1
                      have := hl5 h
                      omega
                    clear hR5 hO5 hex5 hbb5 hl5 hl4
                    go_wp2_with (first | ((with_reducible show wpPlan _ _ _ [] _ _ _); refine wpPlan_nil ?_) | ((with_reducible show wpPlan _ _ _ ((_, 0, _) :: _) _ _ _); first | (refine wpPlan_read0 rfl ?hw rfl (fun _ _ _ => ?_); case hw => ((conv => (lhs; whnf)); first | done | with_reducible rfl)) | (refine wpPlan_skip0 rfl ?hw ?_; (case hw => ((conv => (lhs; whnf)); first | done | with_reducible rfl)); (try simp only [List.getElem_toArray, List.getElem_cons_succ, List.getElem_cons_zero, Act.put, List.setIfInBounds_toArray, List.set_cons_zero, List.set_cons_succ]))) | ((with_reducible show wpPlan _ _ _ ((_, 1, _) :: _) _ _ _); first | (refine wpPlan_read1d rfl ?hw rfl rfl (fun _ _ _ => ?_); case hw => ((conv => (lhs; whnf)); first | done | with_reducible rfl)) | (refine wpPlan_skip1d rfl ?hw ?_; (case hw => ((conv => (lhs; whnf)); first | done | with_reducible rfl)); (try simp only [List.getElem_toArray, List.getElem_cons_succ, List.getElem_cons_zero, Act.put, List.setIfInBounds_toArray, List.set_cons_zero, List.set_cons_succ])) | (refine wpPlan_read1 rfl ?hw rfl (fun _ _ _ => ?_); case hw => ((conv => (lhs; whnf)); first | done | with_reducible rfl))) | ((with_reducible show wpPlan _ _ _ ((_, 2, _) :: _) _ _ _); first | (refine wpPlan_eff rfl ?hw (fun _ _ => ?_); case hw => ((conv => (lhs; whnf)); first | done | with_reducible rfl)) | (refine wpPlan_skip2 rfl ?hw ?_; (case hw => ((conv => (lhs; whnf)); first | done | with_reducible rfl)); (try simp only [List.getElem_toArray, List.getElem_cons_succ, List.getElem_cons_zero, Act.put, List.setIfInBounds_toArray, List.set_cons_zero, List.set_cons_succ]))) | ((with_reducible show wpPlan _ _ _ _ _ _ _); refine wpPlan_fork ?_ ?_) | ((with_reducible show Owed _ _ _ [] _ _ _ _ _); refine Owed.none_ ?_) | ((with_reducible show Owed _ _ _ _ [] _ _ _ _); refine Owed.nil_ ?_) | ((with_reducible show Owed _ _ _ _ _ _ _ _ _); first | (refine Owed.miss rfl ?_) | (refine Owed.hit ?_ ?_)) | ((with_reducible show Same _ _ _ _ _); intro _; go_simp; done) | (with_reducible exact True.intro) | ((with_reducible show Code.wp _ (Code.region 29 _ true) _ _ _); refine wp_region_plan [(0, 1, []), (1, 0, []), (2, 1, []), (3, 1, []), (4, 1, []), (5, 1, []), (6, 0, []), (7, 0, []), (8, 1, []), (9, 1, []), (10, 1, []), (11, 0, []), (12, 1, []), (13, 1, []), (14, 0, []), (15, 2, [8, 9, 10, 12, 13]), (16, 0, [])] (by kernel_rfl) (by kernel_rfl) (by kernel_rfl) ?_) | (at_builtin; refine appList_blk rfl slArc rfl (World.ownsRow.alloc HX5.out.own _) rfl (news := [.int .i64 (le + st), .int .i64 (lt + 1 + (d5 : Int))]) ((heap_alloc_at (by simp)) : Blk _ w8.heap.size _ _) rfl rfl (by simp [Value.oneCell']) (by decide) (by unfold maxLen; omega) (by omega) ?_; intro g9 c9 w9 hown9 hgrow9 hat9; refine Stop7.intro ?_))
                    unfold Stop7
                    have hO9 : Outside (fun x => (Value.slice Av k cv).ownBlock = some x) w8 w9 := ((Outside.refl (fun x => (Value.slice Av k cv).ownBlock = some x) w8).alloc (.cells #[.int .i64 (le + st), .int .i64 (lt + 1 + (d5 : Int))] 55)).grown hgrow9 (fun z hz => .inl hz)
                    have hown10 : w9.ownsRow 0 55 2 (.slice (some ⟨g9, 0, none⟩) (k + 1) c9) (k + 1) (cellsOf Arc.cells (acc ++ [⟨le + st, lt + 1 + (d5 : Int)⟩])) := by
                      rw [cellsOf_append]
                      exact hown9
                    have HX9 := Lib.hid (HX5.out.app hO9 hown10 (fun x hx => by
                      have h1 : g9 = x := by simpa [Value.ownBlock] using hx
                      subst h1
                      rcases hat9 with h | h
                      · exact .inl h
                      · refine .inr (Nat.le_trans ?_ h)
                        simp))
                    clear hO9 hown9 hown10 hgrow9 hat9
                    go_wp2_with (first | ((with_reducible show wpPlan _ _ _ [] _ _ _); refine wpPlan_nil ?_) | ((with_reducible show wpPlan _ _ _ ((_, 0, _) :: _) _ _ _); first | (refine wpPlan_read0 rfl ?hw rfl (fun _ _ _ => ?_); case hw => ((conv => (lhs; whnf)); first | done | with_reducible rfl)) | (refine wpPlan_skip0 rfl ?hw ?_; (case hw => ((conv => (lhs; whnf)); first | done | with_reducible rfl)); (try simp only [List.getElem_toArray, List.getElem_cons_succ, List.getElem_cons_zero, Act.put, List.setIfInBounds_toArray, List.set_cons_zero, List.set_cons_succ]))) | ((with_reducible show wpPlan _ _ _ ((_, 1, _) :: _) _ _ _); first | (refine wpPlan_read1d rfl ?hw rfl rfl (fun _ _ _ => ?_); case hw => ((conv => (lhs; whnf)); first | done | with_reducible rfl)) | (refine wpPlan_skip1d rfl ?hw ?_; (case hw => ((conv => (lhs; whnf)); first | done | with_reducible rfl)); (try simp only [List.getElem_toArray, List.getElem_cons_succ, List.getElem_cons_zero, Act.put, List.setIfInBounds_toArray, List.set_cons_zero, List.set_cons_succ])) | (refine wpPlan_read1 rfl ?hw rfl (fun _ _ _ => ?_); case hw => ((conv => (lhs; whnf)); first | done | with_reducible rfl))) | ((with_reducible show wpPlan _ _ _ ((_, 2, _) :: _) _ _ _); first | (refine wpPlan_eff rfl ?hw (fun _ _ => ?_); case hw => ((conv => (lhs; whnf)); first | done | with_reducible rfl)) | (refine wpPlan_skip2 rfl ?hw ?_; (case hw => ((conv => (lhs; whnf)); first | done | with_reducible rfl)); (try simp only [List.getElem_toArray, List.getElem_cons_succ, List.getElem_cons_zero, Act.put, List.setIfInBounds_toArray, List.set_cons_zero, List.set_cons_succ]))) | ((with_reducible show wpPlan _ _ _ _ _ _ _); refine wpPlan_fork ?_ ?_) | ((with_reducible show Owed _ _ _ [] _ _ _ _ _); refine Owed.none_ ?_) | ((with_reducible show Owed _ _ _ _ [] _ _ _ _); refine Owed.nil_ ?_) | ((with_reducible show Owed _ _ _ _ _ _ _ _ _); first | (refine Owed.miss rfl ?_) | (refine Owed.hit ?_ ?_)) | ((with_reducible show Same _ _ _ _ _); intro _; go_simp; done) | (with_reducible exact True.intro) | ((with_reducible show Code.wp _ (Code.region 29 _ true) _ _ _); refine wp_region_plan [(0, 1, []), (1, 0, []), (2, 1, []), (3, 1, []), (4, 1, []), (5, 1, []), (6, 0, []), (7, 0, []), (8, 1, []), (9, 1, []), (10, 1, []), (11, 0, []), (12, 1, []), (13, 1, []), (14, 0, []), (15, 2, [8, 9, 10, 12, 13]), (16, 0, [])] (by kernel_rfl) (by kernel_rfl) (by kernel_rfl) ?_))
                    go_roundw
                    case rel => exact ⟨k + 1, q5, b5, acc ++ [⟨le + st, lt + 1 + (d5 : Int)⟩], le + st, lt + 1 + (d5 : Int), by omega, by go_num, rfl, rfl, by omega, by omega, hto0, hto1, by omega, hkq, HX9, Lib.hid ⟨by rw [List.length_append, HG.out.1]; rfl, fun h => by omega, fun _ => by
                        rw [Nat.add_sub_cancel, List.getElem?_append_right (by rw [HG.out.1]; exact Nat.le_refl _), HG.out.1, Nat.sub_self]; rfl, fun r rest hG => by
                        obtain ⟨e1, _, e3, _⟩ := HG.out.2.2.2 r rest hG
                        obtain ⟨f1, f2, f3, f4⟩ := HC2.out r rest hG
                        obtain ⟨hk2, f5⟩ := List.getElem?_eq_some_iff.1 f2
                        refine ⟨e1, f1, ?_, f3, f4⟩
                        rw [List.take_succ_eq_append_getElem hk2, f5, e3]⟩⟩
                    case measure => simp [intOf]; omega
                  · skip
                    go_wp2_with (first | ((with_reducible show wpPlan _ _ _ [] _ _ _); refine wpPlan_nil ?_) | ((with_reducible show wpPlan _ _ _ ((_, 0, _) :: _) _ _ _); first | (refine wpPlan_read0 rfl ?hw rfl (fun _ _ _ => ?_); case hw => ((conv => (lhs; whnf)); first | done | with_reducible rfl)) | (refine wpPlan_skip0 rfl ?hw ?_; (case hw => ((conv => (lhs; whnf)); first | done | with_reducible rfl)); (try simp only [List.getElem_toArray, List.getElem_cons_succ, List.getElem_cons_zero, Act.put, List.setIfInBounds_toArray, List.set_cons_zero, List.set_cons_succ]))) | ((with_reducible show wpPlan _ _ _ ((_, 1, _) :: _) _ _ _); first | (refine wpPlan_read1d rfl ?hw rfl rfl (fun _ _ _ => ?_); case hw => ((conv => (lhs; whnf)); first | done | with_reducible rfl)) | (refine wpPlan_skip1d rfl ?hw ?_; (case hw => ((conv => (lhs; whnf)); first | done | with_reducible rfl)); (try simp only [List.getElem_toArray, List.getElem_cons_succ, List.getElem_cons_zero, Act.put, List.setIfInBounds_toArray, List.set_cons_zero, List.set_cons_succ])) | (refine wpPlan_read1 rfl ?hw rfl (fun _ _ _ => ?_); case hw => ((conv => (lhs; whnf)); first | done | with_reducible rfl))) | ((with_reducible show wpPlan _ _ _ ((_, 2, _) :: _) _ _ _); first | (refine wpPlan_eff rfl ?hw (fun _ _ => ?_); case hw => ((conv => (lhs; whnf)); first | done | with_reducible rfl)) | (refine wpPlan_skip2 rfl ?hw ?_; (case hw => ((conv => (lhs; whnf)); first | done | with_reducible rfl)); (try simp only [List.getElem_toArray, List.getElem_cons_succ, List.getElem_cons_zero, Act.put, List.setIfInBounds_toArray, List.set_cons_zero, List.set_cons_succ]))) | ((with_reducible show wpPlan _ _ _ _ _ _ _); refine wpPlan_fork ?_ ?_) | ((with_reducible show Owed _ _ _ [] _ _ _ _ _); refine Owed.none_ ?_) | ((with_reducible show Owed _ _ _ _ [] _ _ _ _); refine Owed.nil_ ?_) | ((with_reducible show Owed _ _ _ _ _ _ _ _ _); first | (refine Owed.miss rfl ?_) | (refine Owed.hit ?_ ?_)) | ((with_reducible show Same _ _ _ _ _); intro _; go_simp; done) | (with_reducible exact True.intro) | ((with_reducible show Code.wp _ (Code.region 29 _ true) _ _ _); refine wp_region_plan [(0, 1, []), (1, 0, []), (2, 1, []), (3, 1, []), (4, 1, []), (5, 1, []), (6, 0, []), (7, 0, []), (8, 1, []), (9, 1, []), (10, 1, []), (11, 0, []), (12, 1, []), (13, 1, []), (14, 0, []), (15, 2, [8, 9, 10, 12, 13]), (16, 0, [])] (by kernel_rfl) (by kernel_rfl) (by kernel_rfl) ?_))
                    refine (rfzz_any B (w.heap.size + 1) _ n c q4' l b4 _ HX4.out.rd (by omega)).mono ?_
                    rintro e w8 ⟨d5, q5, b5, rfl, hd5, hd5', hR5, hO5, hq5, hbb5, hl5, hex5⟩

                    have HC2 := Lib.hid (show ∀ r rest, RowG false l q s ns r rest → b5 = false ∧ r[k]? = some ⟨le + st, (s : Int) + d5⟩ ∧ l.drop q5 = rowB s (prevA r (k + 1)) (r.drop (k + 1)) ++ rest ∧ q5 + (rowB s (prevA r (k + 1)) (r.drop (k + 1))).length = q + (rowF s r).length from fun r rest hG => by
                      obtain ⟨a, body, f1, f2, f3, f4, f5, f6, f7⟩ := HC1.out r rest hG
                      obtain ⟨ae, at_⟩ := a
                      dsimp only at f2 f6 f7
                      obtain ⟨rfl, f8, f9⟩ := f7 (by omega)
                      obtain ⟨g1, g2, g3⟩ := hex5 _ _ f3 f4 (by omega) (by omega)
                      refine ⟨g3, ?_, by rw [g2]; exact drop_app f4, by omega⟩
                      rw [f1]
                      congr 2 <;> omega)
                    have HX5 := Lib.hid (HX4.out.step hR5 hO5)
                    have hto0 : -17179869184 ≤ (s : Int) + d5 := by omega
                    have hto1 : (s : Int) + d5 ≤ 34359738368 * ((k + 1 : Nat) : Int) + 34359738368 := by omega
                    have hkq : b5 = false → k + 1 ≤ q5 := fun h => by
                      have h1 : b4 = false := by
                        cases b4
                        · rfl
                        · rw [hbb5 rfl] at h; cases h
                      have := hl4 h1
                      have := hl5 h
                      omega
                    clear hR5 hO5 hex5 hbb5 hl5 hl4
                    go_wp2_with (first | ((with_reducible show wpPlan _ _ _ [] _ _ _); refine wpPlan_nil ?_) | ((with_reducible show wpPlan _ _ _ ((_, 0, _) :: _) _ _ _); first | (refine wpPlan_read0 rfl ?hw rfl (fun _ _ _ => ?_); case hw => ((conv => (lhs; whnf)); first | done | with_reducible rfl)) | (refine wpPlan_skip0 rfl ?hw ?_; (case hw => ((conv => (lhs; whnf)); first | done | with_reducible rfl)); (try simp only [List.getElem_toArray, List.getElem_cons_succ, List.getElem_cons_zero, Act.put, List.setIfInBounds_toArray, List.set_cons_zero, List.set_cons_succ]))) | ((with_reducible show wpPlan _ _ _ ((_, 1, _) :: _) _ _ _); first | (refine wpPlan_read1d rfl ?hw rfl rfl (fun _ _ _ => ?_); case hw => ((conv => (lhs; whnf)); first | done | with_reducible rfl)) | (refine wpPlan_skip1d rfl ?hw ?_; (case hw => ((conv => (lhs; whnf)); first | done | with_reducible rfl)); (try simp only [List.getElem_toArray, List.getElem_cons_succ, List.getElem_cons_zero, Act.put, List.setIfInBounds_toArray, List.set_cons_zero, List.set_cons_succ])) | (refine wpPlan_read1 rfl ?hw rfl (fun _ _ _ => ?_); case hw => ((conv => (lhs; whnf)); first | done | with_reducible rfl))) | ((with_reducible show wpPlan _ _ _ ((_, 2, _) :: _) _ _ _); first | (refine wpPlan_eff rfl ?hw (fun _ _ => ?_); case hw => ((conv => (lhs; whnf)); first | done | with_reducible rfl)) | (refine wpPlan_skip2 rfl ?hw ?_; (case hw => ((conv => (lhs; whnf)); first | done | with_reducible rfl)); (try simp only [List.getElem_toArray, List.getElem_cons_succ, List.getElem_cons_zero, Act.put, List.setIfInBounds_toArray, List.set_cons_zero, List.set_cons_succ]))) | ((with_reducible show wpPlan _ _ _ _ _ _ _); refine wpPlan_fork ?_ ?_) | ((with_reducible show Owed _ _ _ [] _ _ _ _ _); refine Owed.none_ ?_) | ((with_reducible show Owed _ _ _ _ [] _ _ _ _); refine Owed.nil_ ?_) | ((with_reducible show Owed _ _ _ _ _ _ _ _ _); first | (refine Owed.miss rfl ?_) | (refine Owed.hit ?_ ?_)) | ((with_reducible show Same _ _ _ _ _); intro _; go_simp; done) | (with_reducible exact True.intro) | ((with_reducible show Code.wp _ (Code.region 29 _ true) _ _ _); refine wp_region_plan [(0, 1, []), (1, 0, []), (2, 1, []), (3, 1, []), (4, 1, []), (5, 1, []), (6, 0, []), (7, 0, []), (8, 1, []), (9, 1, []), (10, 1, []), (11, 0, []), (12, 1, []), (13, 1, []), (14, 0, []), (15, 2, [8, 9, 10, 12, 13]), (16, 0, [])] (by kernel_rfl) (by kernel_rfl) (by kernel_rfl) ?_) | (at_builtin; refine appList_blk rfl slArc rfl (World.ownsRow.alloc HX5.out.own _) rfl (news := [.int .i64 (le + st), .int .i64 ((s : Int) + d5)]) ((heap_alloc_at (by simp)) : Blk _ w8.heap.size _ _) rfl rfl (by simp [Value.oneCell']) (by decide) (by unfold maxLen; omega) (by omega) ?_; intro g9 c9 w9 hown9 hgrow9 hat9; refine Stop7.intro ?_))
                    unfold Stop7
                    have hO9 : Outside (fun x => (Value.slice Av k cv).ownBlock = some x) w8 w9 := ((Outside.refl (fun x => (Value.slice Av k cv).ownBlock = some x) w8).alloc (.cells #[.int .i64 (le + st), .int .i64 ((s : Int) + d5)] 55)).grown hgrow9 (fun z hz => .inl hz)
                    have hown10 : w9.ownsRow 0 55 2 (.slice (some ⟨g9, 0, none⟩) (k + 1) c9) (k + 1) (cellsOf Arc.cells (acc ++ [⟨le + st, (s : Int) + d5⟩])) := by
                      rw [cellsOf_append]
                      exact hown9
                    have HX9 := Lib.hid (HX5.out.app hO9 hown10 (fun x hx => by
                      have h1 : g9 = x := by simpa [Value.ownBlock] using hx
                      subst h1
                      rcases hat9 with h | h
                      · exact .inl h
                      · refine .inr (Nat.le_trans ?_ h)
                        simp))
                    clear hO9 hown9 hown10 hgrow9 hat9
                    go_wp2_with (first | ((with_reducible show wpPlan _ _ _ [] _ _ _); refine wpPlan_nil ?_) | ((with_reducible show wpPlan _ _ _ ((_, 0, _) :: _) _ _ _); first | (refine wpPlan_read0 rfl ?hw rfl (fun _ _ _ => ?_); case hw => ((conv => (lhs; whnf)); first | done | with_reducible rfl)) | (refine wpPlan_skip0 rfl ?hw ?_; (case hw => ((conv => (lhs; whnf)); first | done | with_reducible rfl)); (try simp only [List.getElem_toArray, List.getElem_cons_succ, List.getElem_cons_zero, Act.put, List.setIfInBounds_toArray, List.set_cons_zero, List.set_cons_succ]))) | ((with_reducible show wpPlan _ _ _ ((_, 1, _) :: _) _ _ _); first | (refine wpPlan_read1d rfl ?hw rfl rfl (fun _ _ _ => ?_); case hw => ((conv => (lhs; whnf)); first | done | with_reducible rfl)) | (refine wpPlan_skip1d rfl ?hw ?_; (case hw => ((conv => (lhs; whnf)); first | done | with_reducible rfl)); (try simp only [List.getElem_toArray, List.getElem_cons_succ, List.getElem_cons_zero, Act.put, List.setIfInBounds_toArray, List.set_cons_zero, List.set_cons_succ])) | (refine wpPlan_read1 rfl ?hw rfl (fun _ _ _ => ?_); case hw => ((conv => (lhs; whnf)); first | done | with_reducible rfl))) | ((with_reducible show wpPlan _ _ _ ((_, 2, _) :: _) _ _ _); first | (refine wpPlan_eff rfl ?hw (fun _ _ => ?_); case hw => ((conv => (lhs; whnf)); first | done | with_reducible rfl)) | (refine wpPlan_skip2 rfl ?hw ?_; (case hw => ((conv => (lhs; whnf)); first | done | with_reducible rfl)); (try simp only [List.getElem_toArray, List.getElem_cons_succ, List.getElem_cons_zero, Act.put, List.setIfInBounds_toArray, List.set_cons_zero, List.set_cons_succ]))) | ((with_reducible show wpPlan _ _ _ _ _ _ _); refine wpPlan_fork ?_ ?_) | ((with_reducible show Owed _ _ _ [] _ _ _ _ _); refine Owed.none_ ?_) | ((with_reducible show Owed _ _ _ _ [] _ _ _ _); refine Owed.nil_ ?_) | ((with_reducible show Owed _ _ _ _ _ _ _ _ _); first | (refine Owed.miss rfl ?_) | (refine Owed.hit ?_ ?_)) | ((with_reducible show Same _ _ _ _ _); intro _; go_simp; done) | (with_reducible exact True.intro) | ((with_reducible show Code.wp _ (Code.region 29 _ true) _ _ _); refine wp_region_plan [(0, 1, []), (1, 0, []), (2, 1, []), (3, 1, []), (4, 1, []), (5, 1, []), (6, 0, []), (7, 0, []), (8, 1, []), (9, 1, []), (10, 1, []), (11, 0, []), (12, 1, []), (13, 1, []), (14, 0, []), (15, 2, [8, 9, 10, 12, 13]), (16, 0, [])] (by kernel_rfl) (by kernel_rfl) (by kernel_rfl) ?_))
                    go_roundw
                    case rel => exact ⟨k + 1, q5, b5, acc ++ [⟨le + st, (s : Int) + d5⟩], le + st, (s : Int) + d5, by omega, by go_num, rfl, rfl, by omega, by omega, hto0, hto1, by omega, hkq, HX9, Lib.hid ⟨by rw [List.length_append, HG.out.1]; rfl, fun h => by omega, fun _ => by
                        rw [Nat.add_sub_cancel, List.getElem?_append_right (by rw [HG.out.1]; exact Nat.le_refl _), HG.out.1, Nat.sub_self]; rfl, fun r rest hG => by
                        obtain ⟨e1, _, e3, _⟩ := HG.out.2.2.2 r rest hG
                        obtain ⟨f1, f2, f3, f4⟩ := HC2.out r rest hG
                        obtain ⟨hk2, f5⟩ := List.getElem?_eq_some_iff.1 f2
                        refine ⟨e1, f1, ?_, f3, f4⟩
                        rw [List.take_succ_eq_append_getElem hk2, f5, e3]⟩⟩
                    case measure => simp [intOf]; omega
                  · skip
                    go_wp2_with (first | ((with_reducible show wpPlan _ _ _ [] _ _ _); refine wpPlan_nil ?_) | ((with_reducible show wpPlan _ _ _ ((_, 0, _) :: _) _ _ _); first | (refine wpPlan_read0 rfl ?hw rfl (fun _ _ _ => ?_); case hw => ((conv => (lhs; whnf)); first | done | with_reducible rfl)) | (refine wpPlan_skip0 rfl ?hw ?_; (case hw => ((conv => (lhs; whnf)); first | done | with_reducible rfl)); (try simp only [List.getElem_toArray, List.getElem_cons_succ, List.getElem_cons_zero, Act.put, List.setIfInBounds_toArray, List.set_cons_zero, List.set_cons_succ]))) | ((with_reducible show wpPlan _ _ _ ((_, 1, _) :: _) _ _ _); first | (refine wpPlan_read1d rfl ?hw rfl rfl (fun _ _ _ => ?_); case hw => ((conv => (lhs; whnf)); first | done | with_reducible rfl)) | (refine wpPlan_skip1d rfl ?hw ?_; (case hw => ((conv => (lhs; whnf)); first | done | with_reducible rfl)); (try simp only [List.getElem_toArray, List.getElem_cons_succ, List.getElem_cons_zero, Act.put, List.setIfInBounds_toArray, List.set_cons_zero, List.set_cons_succ])) | (refine wpPlan_read1 rfl ?hw rfl (fun _ _ _ => ?_); case hw => ((conv => (lhs; whnf)); first | done | with_reducible rfl))) | ((with_reducible show wpPlan _ _ _ ((_, 2, _) :: _) _ _ _); first | (refine wpPlan_eff rfl ?hw (fun _ _ => ?_); case hw => ((conv => (lhs; whnf)); first | done | with_reducible rfl)) | (refine wpPlan_skip2 rfl ?hw ?_; (case hw => ((conv => (lhs; whnf)); first | done | with_reducible rfl)); (try simp only [List.getElem_toArray, List.getElem_cons_succ, List.getElem_cons_zero, Act.put, List.setIfInBounds_toArray, List.set_cons_zero, List.set_cons_succ]))) | ((with_reducible show wpPlan _ _ _ _ _ _ _); refine wpPlan_fork ?_ ?_) | ((with_reducible show Owed _ _ _ [] _ _ _ _ _); refine Owed.none_ ?_) | ((with_reducible show Owed _ _ _ _ [] _ _ _ _); refine Owed.nil_ ?_) | ((with_reducible show Owed _ _ _ _ _ _ _ _ _); first | (refine Owed.miss rfl ?_) | (refine Owed.hit ?_ ?_)) | ((with_reducible show Same _ _ _ _ _); intro _; go_simp; done) | (with_reducible exact True.intro) | ((with_reducible show Code.wp _ (Code.region 29 _ true) _ _ _); refine wp_region_plan [(0, 1, []), (1, 0, []), (2, 1, []), (3, 1, []), (4, 1, []), (5, 1, []), (6, 0, []), (7, 0, []), (8, 1, []), (9, 1, []), (10, 1, []), (11, 0, []), (12, 1, []), (13, 1, []), (14, 0, []), (15, 2, [8, 9, 10, 12, 13]), (16, 0, [])] (by kernel_rfl) (by kernel_rfl) (by kernel_rfl) ?_))
                    refine (rfzz_any B (w.heap.size + 1) _ n c q4' l b4 _ HX4.out.rd (by omega)).mono ?_
                    rintro e w8 ⟨d5, q5, b5, rfl, hd5, hd5', hR5, hO5, hq5, hbb5, hl5, hex5⟩

                    have HC2 := Lib.hid (show ∀ r rest, RowG false l q s ns r rest → b5 = false ∧ r[k]? = some ⟨le + st, (s : Int) + d5⟩ ∧ l.drop q5 = rowB s (prevA r (k + 1)) (r.drop (k + 1)) ++ rest ∧ q5 + (rowB s (prevA r (k + 1)) (r.drop (k + 1))).length = q + (rowF s r).length from fun r rest hG => by
                      obtain ⟨a, body, f1, f2, f3, f4, f5, f6, f7⟩ := HC1.out r rest hG
                      obtain ⟨ae, at_⟩ := a
                      dsimp only at f2 f6 f7
                      obtain ⟨rfl, f8, f9⟩ := f7 (by omega)
                      obtain ⟨g1, g2, g3⟩ := hex5 _ _ f3 f4 (by omega) (by omega)
                      refine ⟨g3, ?_, by rw [g2]; exact drop_app f4, by omega⟩
                      rw [f1]
                      congr 2 <;> omega)
                    have HX5 := Lib.hid (HX4.out.step hR5 hO5)
                    have hto0 : -17179869184 ≤ (s : Int) + d5 := by omega
                    have hto1 : (s : Int) + d5 ≤ 34359738368 * ((k + 1 : Nat) : Int) + 34359738368 := by omega
                    have hkq : b5 = false → k + 1 ≤ q5 := fun h => by
                      have h1 : b4 = false := by
                        cases b4
                        · rfl
                        · rw [hbb5 rfl] at h; cases h
                      have := hl4 h1
                      have := hl5 h
                      omega
                    clear hR5 hO5 hex5 hbb5 hl5 hl4
                    go_wp2_with (first | ((with_reducible show wpPlan _ _ _ [] _ _ _); refine wpPlan_nil ?_) | ((with_reducible show wpPlan _ _ _ ((_, 0, _) :: _) _ _ _); first | (refine wpPlan_read0 rfl ?hw rfl (fun _ _ _ => ?_); case hw => ((conv => (lhs; whnf)); first | done | with_reducible rfl)) | (refine wpPlan_skip0 rfl ?hw ?_; (case hw => ((conv => (lhs; whnf)); first | done | with_reducible rfl)); (try simp only [List.getElem_toArray, List.getElem_cons_succ, List.getElem_cons_zero, Act.put, List.setIfInBounds_toArray, List.set_cons_zero, List.set_cons_succ]))) | ((with_reducible show wpPlan _ _ _ ((_, 1, _) :: _) _ _ _); first | (refine wpPlan_read1d rfl ?hw rfl rfl (fun _ _ _ => ?_); case hw => ((conv => (lhs; whnf)); first | done | with_reducible rfl)) | (refine wpPlan_skip1d rfl ?hw ?_; (case hw => ((conv => (lhs; whnf)); first | done | with_reducible rfl)); (try simp only [List.getElem_toArray, List.getElem_cons_succ, List.getElem_cons_zero, Act.put, List.setIfInBounds_toArray, List.set_cons_zero, List.set_cons_succ])) | (refine wpPlan_read1 rfl ?hw rfl (fun _ _ _ => ?_); case hw => ((conv => (lhs; whnf)); first | done | with_reducible rfl))) | ((with_reducible show wpPlan _ _ _ ((_, 2, _) :: _) _ _ _); first | (refine wpPlan_eff rfl ?hw (fun _ _ => ?_); case hw => ((conv => (lhs; whnf)); first | done | with_reducible rfl)) | (refine wpPlan_skip2 rfl ?hw ?_; (case hw => ((conv => (lhs; whnf)); first | done | with_reducible rfl)); (try simp only [List.getElem_toArray, List.getElem_cons_succ, List.getElem_cons_zero, Act.put, List.setIfInBounds_toArray, List.set_cons_zero, List.set_cons_succ]))) | ((with_reducible show wpPlan _ _ _ _ _ _ _); refine wpPlan_fork ?_ ?_) | ((with_reducible show Owed _ _ _ [] _ _ _ _ _); refine Owed.none_ ?_) | ((with_reducible show Owed _ _ _ _ [] _ _ _ _); refine Owed.nil_ ?_) | ((with_reducible show Owed _ _ _ _ _ _ _ _ _); first | (refine Owed.miss rfl ?_) | (refine Owed.hit ?_ ?_)) | ((with_reducible show Same _ _ _ _ _); intro _; go_simp; done) | (with_reducible exact True.intro) | ((with_reducible show Code.wp _ (Code.region 29 _ true) _ _ _); refine wp_region_plan [(0, 1, []), (1, 0, []), (2, 1, []), (3, 1, []), (4, 1, []), (5, 1, []), (6, 0, []), (7, 0, []), (8, 1, []), (9, 1, []), (10, 1, []), (11, 0, []), (12, 1, []), (13, 1, []), (14, 0, []), (15, 2, [8, 9, 10, 12, 13]), (16, 0, [])] (by kernel_rfl) (by kernel_rfl) (by kernel_rfl) ?_) | (at_builtin; refine appList_blk rfl slArc rfl (World.ownsRow.alloc HX5.out.own _) rfl (news := [.int .i64 (le + st), .int .i64 ((s : Int) + d5)]) ((heap_alloc_at (by simp)) : Blk _ w8.heap.size _ _) rfl rfl (by simp [Value.oneCell']) (by decide) (by unfold maxLen; omega) (by omega) ?_; intro g9 c9 w9 hown9 hgrow9 hat9; refine Stop7.intro ?_))
                    unfold Stop7
                    have hO9 : Outside (fun x => (Value.slice Av k cv).ownBlock = some x) w8 w9 := ((Outside.refl (fun x => (Value.slice Av k cv).ownBlock = some x) w8).alloc (.cells #[.int .i64 (le + st), .int .i64 ((s : Int) + d5)] 55)).grown hgrow9 (fun z hz => .inl hz)
                    have hown10 : w9.ownsRow 0 55 2 (.slice (some ⟨g9, 0, none⟩) (k + 1) c9) (k + 1) (cellsOf Arc.cells (acc ++ [⟨le + st, (s : Int) + d5⟩])) := by
                      rw [cellsOf_append]
                      exact hown9
                    have HX9 := Lib.hid (HX5.out.app hO9 hown10 (fun x hx => by
                      have h1 : g9 = x := by simpa [Value.ownBlock] using hx
                      subst h1
                      rcases hat9 with h | h
                      · exact .inl h
                      · refine .inr (Nat.le_trans ?_ h)
                        simp))
                    clear hO9 hown9 hown10 hgrow9 hat9
                    go_wp2_with (first | ((with_reducible show wpPlan _ _ _ [] _ _ _); refine wpPlan_nil ?_) | ((with_reducible show wpPlan _ _ _ ((_, 0, _) :: _) _ _ _); first | (refine wpPlan_read0 rfl ?hw rfl (fun _ _ _ => ?_); case hw => ((conv => (lhs; whnf)); first | done | with_reducible rfl)) | (refine wpPlan_skip0 rfl ?hw ?_; (case hw => ((conv => (lhs; whnf)); first | done | with_reducible rfl)); (try simp only [List.getElem_toArray, List.getElem_cons_succ, List.getElem_cons_zero, Act.put, List.setIfInBounds_toArray, List.set_cons_zero, List.set_cons_succ]))) | ((with_reducible show wpPlan _ _ _ ((_, 1, _) :: _) _ _ _); first | (refine wpPlan_read1d rfl ?hw rfl rfl (fun _ _ _ => ?_); case hw => ((conv => (lhs; whnf)); first | done | with_reducible rfl)) | (refine wpPlan_skip1d rfl ?hw ?_; (case hw => ((conv => (lhs; whnf)); first | done | with_reducible rfl)); (try simp only [List.getElem_toArray, List.getElem_cons_succ, List.getElem_cons_zero, Act.put, List.setIfInBounds_toArray, List.set_cons_zero, List.set_cons_succ])) | (refine wpPlan_read1 rfl ?hw rfl (fun _ _ _ => ?_); case hw => ((conv => (lhs; whnf)); first | done | with_reducible rfl))) | ((with_reducible show wpPlan _ _ _ ((_, 2, _) :: _) _ _ _); first | (refine wpPlan_eff rfl ?hw (fun _ _ => ?_); case hw => ((conv => (lhs; whnf)); first | done | with_reducible rfl)) | (refine wpPlan_skip2 rfl ?hw ?_; (case hw => ((conv => (lhs; whnf)); first | done | with_reducible rfl)); (try simp only [List.getElem_toArray, List.getElem_cons_succ, List.getElem_cons_zero, Act.put, List.setIfInBounds_toArray, List.set_cons_zero, List.set_cons_succ]))) | ((with_reducible show wpPlan _ _ _ _ _ _ _); refine wpPlan_fork ?_ ?_) | ((with_reducible show Owed _ _ _ [] _ _ _ _ _); refine Owed.none_ ?_) | ((with_reducible show Owed _ _ _ _ [] _ _ _ _); refine Owed.nil_ ?_) | ((with_reducible show Owed _ _ _ _ _ _ _ _ _); first | (refine Owed.miss rfl ?_) | (refine Owed.hit ?_ ?_)) | ((with_reducible show Same _ _ _ _ _); intro _; go_simp; done) | (with_reducible exact True.intro) | ((with_reducible show Code.wp _ (Code.region 29 _ true) _ _ _); refine wp_region_plan [(0, 1, []), (1, 0, []), (2, 1, []), (3, 1, []), (4, 1, []), (5, 1, []), (6, 0, []), (7, 0, []), (8, 1, []), (9, 1, []), (10, 1, []), (11, 0, []), (12, 1, []), (13, 1, []), (14, 0, []), (15, 2, [8, 9, 10, 12, 13]), (16, 0, [])] (by kernel_rfl) (by kernel_rfl) (by kernel_rfl) ?_))
                    go_roundw
                    case rel => exact ⟨k + 1, q5, b5, acc ++ [⟨le + st, (s : Int) + d5⟩], le + st, (s : Int) + d5, by omega, by go_num, rfl, rfl, by omega, by omega, hto0, hto1, by omega, hkq, HX9, Lib.hid ⟨by rw [List.length_append, HG.out.1]; rfl, fun h => by omega, fun _ => by
                        rw [Nat.add_sub_cancel, List.getElem?_append_right (by rw [HG.out.1]; exact Nat.le_refl _), HG.out.1, Nat.sub_self]; rfl, fun r rest hG => by
                        obtain ⟨e1, _, e3, _⟩ := HG.out.2.2.2 r rest hG
                        obtain ⟨f1, f2, f3, f4⟩ := HC2.out r rest hG
                        obtain ⟨hk2, f5⟩ := List.getElem?_eq_some_iff.1 f2
                        refine ⟨e1, f1, ?_, f3, f4⟩
                        rw [List.take_succ_eq_append_getElem hk2, f5, e3]⟩⟩
                    case measure => simp [intOf]; omega
                · have hexit : bk' = true ∨ m ≤ k := by
                    cases bk'
                    · exact .inr (Nat.le_of_not_lt fun h => hgo2 ⟨rfl, h⟩)
                    · exact .inl rfl
                  clear hgo2
                  rcases Nat.lt_or_ge k m with hkm | hkm
                  · obtain rfl : bk' = true := by
                      rcases hexit with h | h
                      · exact h
                      · omega
                    have HQ2 := Lib.hid (show UpkAt l ns q' true (s + 1) (ls ++ [acc]) from fun ls' hb => by
                      obtain ⟨g1, g2, g3, g4, _⟩ := HS.out.2 ls' hb
                      have hk : s < ls'.length := by omega
                      have hr0 := List.getElem?_eq_getElem hk
                      have hG := rowG_of hb.1 hr0 rfl g3
                      have hG' := hG
                      rw [← g4] at hG'
                      obtain ⟨f1, f2, f3, f4, f5⟩ := HG.out.2.2.2 _ _ hG'
                      have hkm : k = m := by
                        rcases hexit with h | h
                        · exact absurd (h.symm.trans f2) (by decide)
                        · omega
                      rw [hkm, f1, row_done] at f5
                      rw [hkm, f1, List.take_length] at f3
                      have hq' : q' = q + (rowF s ls'[s]).length := by simpa using f5
                      have hnx := rowG_next hG
                      rw [← hq'] at hnx
                      refine ⟨f2, ?_, hnx, g4, fun h => ?_⟩
                      · rw [List.take_add_one, hr0, ← g2, f3]
                        rfl
                      · have h1 : (rowsOf ls').drop (s + 1) = [] := List.drop_eq_nil_of_le (by rw [rows_len]; omega)
                        rw [h1] at hnx
                        have h2 : l.length ≤ q' := by
                          have := congrArg List.length hnx
                          simp at this
                          omega
                        have h3 := HU.out.rd.le
                        have h4 := HL.out
                        omega)
                    have hO6 : Outside (fun k => k = w.heap.size + 1) w2 wr2 := hOw.trans HU.out.out
                    have hs6 := hO6.size
                    have HX6 := Lib.hid (HW2.out.1.out hO6 (fun x h1 _ => by omega))
                    have HY6 := Lib.hid (And.intro (HW2.out.2.1.out hO6 (by omega)) (And.intro (HW2.out.2.2.1.out hO6 (by omega)) (And.intro HU.out.rd (HW2.out.2.2.2.2.trans (hO6.below (by omega) (fun x h1 h2 => by omega))))))
                    have HSL := Lib.hid (show ∀ l ∈ ls ++ [acc], l.length ≤ 2000000 from fun l hl => by
                      rcases List.mem_append.1 hl with h | h
                      · exact HS.out.1 l h
                      · rw [List.mem_singleton.1 h, HG.out.1]; omega)
                    have t6c := HY6.out.1.cell
                    have t6l := HY6.out.1.lt
                    have u6c := HU.out.rd.blk.cell
                    have u6l := HU.out.rd.blk.lt
                    clear hO6
                    go_wp2_with (first | ((with_reducible show wpPlan _ _ _ [] _ _ _); refine wpPlan_nil ?_) | ((with_reducible show wpPlan _ _ _ ((_, 0, _) :: _) _ _ _); first | (refine wpPlan_read0 rfl ?hw rfl (fun _ _ _ => ?_); case hw => ((conv => (lhs; whnf)); first | done | with_reducible rfl)) | (refine wpPlan_skip0 rfl ?hw ?_; (case hw => ((conv => (lhs; whnf)); first | done | with_reducible rfl)); (try simp only [List.getElem_toArray, List.getElem_cons_succ, List.getElem_cons_zero, Act.put, List.setIfInBounds_toArray, List.set_cons_zero, List.set_cons_succ]))) | ((with_reducible show wpPlan _ _ _ ((_, 1, _) :: _) _ _ _); first | (refine wpPlan_read1d rfl ?hw rfl rfl (fun _ _ _ => ?_); case hw => ((conv => (lhs; whnf)); first | done | with_reducible rfl)) | (refine wpPlan_skip1d rfl ?hw ?_; (case hw => ((conv => (lhs; whnf)); first | done | with_reducible rfl)); (try simp only [List.getElem_toArray, List.getElem_cons_succ, List.getElem_cons_zero, Act.put, List.setIfInBounds_toArray, List.set_cons_zero, List.set_cons_succ])) | (refine wpPlan_read1 rfl ?hw rfl (fun _ _ _ => ?_); case hw => ((conv => (lhs; whnf)); first | done | with_reducible rfl))) | ((with_reducible show wpPlan _ _ _ ((_, 2, _) :: _) _ _ _); first | (refine wpPlan_eff rfl ?hw (fun _ _ => ?_); case hw => ((conv => (lhs; whnf)); first | done | with_reducible rfl)) | (refine wpPlan_skip2 rfl ?hw ?_; (case hw => ((conv => (lhs; whnf)); first | done | with_reducible rfl)); (try simp only [List.getElem_toArray, List.getElem_cons_succ, List.getElem_cons_zero, Act.put, List.setIfInBounds_toArray, List.set_cons_zero, List.set_cons_succ]))) | ((with_reducible show wpPlan _ _ _ _ _ _ _); refine wpPlan_fork ?_ ?_) | ((with_reducible show Owed _ _ _ [] _ _ _ _ _); refine Owed.none_ ?_) | ((with_reducible show Owed _ _ _ _ [] _ _ _ _); refine Owed.nil_ ?_) | ((with_reducible show Owed _ _ _ _ _ _ _ _ _); first | (refine Owed.miss rfl ?_) | (refine Owed.hit ?_ ?_)) | ((with_reducible show Same _ _ _ _ _); intro _; go_simp; done) | (with_reducible exact True.intro) | ((with_reducible show Code.wp _ (Code.region 29 _ true) _ _ _); refine wp_region_plan [(0, 1, []), (1, 0, []), (2, 1, []), (3, 1, []), (4, 1, []), (5, 1, []), (6, 0, []), (7, 0, []), (8, 1, []), (9, 1, []), (10, 1, []), (11, 0, []), (12, 1, []), (13, 1, []), (14, 0, []), (15, 2, [8, 9, 10, 12, 13]), (16, 0, [])] (by kernel_rfl) (by kernel_rfl) (by kernel_rfl) ?_) | (at_builtin; refine appList_blk rfl slRow rfl (World.ownsRow.alloc HX6.out.own _) rfl (news := [.slice Av k cv]) ((heap_alloc_at rfl) : Blk _ wr2.heap.size _ _) rfl rfl (by simp [Value.oneCell']) (by decide) (by unfold maxLen; omega) (by omega) ?_; intro g9 c9 w9 hown9 hgrow9 hat9; refine Stop7.intro ?_))
                    unfold Stop7
                    have hO9 : Outside (fun g => (Value.slice Aq s cq).ownBlock = some g) wr2 w9 := ((Outside.refl (fun g => (Value.slice Aq s cq).ownBlock = some g) wr2).alloc (.cells #[.slice Av k cv] 49)).grown hgrow9 (fun z hz => .inl hz)
                    have hg9 : ∀ g, (Value.slice (some ⟨g9, 0, none⟩) (s + 1) c9).ownBlock = some g → T + 1 ≤ g := fun g hg => by
                      have h1 : g9 = g := by simpa [Value.ownBlock] using hg
                      rcases hat9 with h | h
                      · have := HX6.out.base g9 h
                        omega
                      · simp at h
                        omega
                    have hSn := HX6.out.snoc hown9 hg9 hO9 (show wr2.ownsRow 0 55 2 (.slice Av k cv) acc.length (cellsOf Arc.cells acc) from by rw [HG.out.1]; exact HU.out.own) (fun g hg => by have := HU.out.base g hg; omega)
                    have hnq : ∀ g, g < T + 1 → ¬ (Value.slice Aq s cq).ownBlock = some g := fun g h1 h2 => by have := HX6.out.base g h2; omega
                    have hOq : Outside (fun g => g = T) w9 (w9.setCell ⟨T, 0, none⟩ (.slice (some ⟨g9, 0, none⟩) (s + 1) c9)) := (Outside.refl (fun g => g = T) w9).setCell (p := ⟨T, 0, none⟩) (.inl rfl) _
                    have hq9 := HY6.out.1.out hO9 (hnq _ (by omega))
                    have HZ := Lib.hid (And.intro (hSn.out hOq (fun g h1 _ => by omega)) (And.intro (hq9.put 0 (.slice (some ⟨g9, 0, none⟩) (s + 1) c9)) (And.intro ((HY6.out.2.1.out hO9 (hnq _ (by omega))).out hOq (by omega))
                      (And.intro ((HY6.out.2.2.1.out hO9 (hnq _ (by omega)) (fun k hk => hnq _ (by omega))).out hOq (by omega) (fun k hk => by omega)) ((HY6.out.2.2.2.trans (hO9.below (by omega) (fun g h1 => hnq g (by omega)))).setCell (p := ⟨T, 0, none⟩) (by dsimp only; omega) (.slice (some ⟨g9, 0, none⟩) (s + 1) c9))))))
                    have q9c := hq9.cell
                    have q9l := hq9.lt
                    have q9f := hq9.frozen
                    have hsz9 : T + 1 ≤ (w9.setCell ⟨T, 0, none⟩ (.slice (some ⟨g9, 0, none⟩) (s + 1) c9)).heap.size := Nat.le_trans (by omega) (Nat.le_trans hO9.size hOq.size)
                    have HS9 := Lib.hid hsz9
                    clear hO9 hg9 hSn hnq hOq hq9 hown9 hgrow9 hat9 hsz9
                    go_wp2_with (first | ((with_reducible show wpPlan _ _ _ [] _ _ _); refine wpPlan_nil ?_) | ((with_reducible show wpPlan _ _ _ ((_, 0, _) :: _) _ _ _); first | (refine wpPlan_read0 rfl ?hw rfl (fun _ _ _ => ?_); case hw => ((conv => (lhs; whnf)); first | done | with_reducible rfl)) | (refine wpPlan_skip0 rfl ?hw ?_; (case hw => ((conv => (lhs; whnf)); first | done | with_reducible rfl)); (try simp only [List.getElem_toArray, List.getElem_cons_succ, List.getElem_cons_zero, Act.put, List.setIfInBounds_toArray, List.set_cons_zero, List.set_cons_succ]))) | ((with_reducible show wpPlan _ _ _ ((_, 1, _) :: _) _ _ _); first | (refine wpPlan_read1d rfl ?hw rfl rfl (fun _ _ _ => ?_); case hw => ((conv => (lhs; whnf)); first | done | with_reducible rfl)) | (refine wpPlan_skip1d rfl ?hw ?_; (case hw => ((conv => (lhs; whnf)); first | done | with_reducible rfl)); (try simp only [List.getElem_toArray, List.getElem_cons_succ, List.getElem_cons_zero, Act.put, List.setIfInBounds_toArray, List.set_cons_zero, List.set_cons_succ])) | (refine wpPlan_read1 rfl ?hw rfl (fun _ _ _ => ?_); case hw => ((conv => (lhs; whnf)); first | done | with_reducible rfl))) | ((with_reducible show wpPlan _ _ _ ((_, 2, _) :: _) _ _ _); first | (refine wpPlan_eff rfl ?hw (fun _ _ => ?_); case hw => ((conv => (lhs; whnf)); first | done | with_reducible rfl)) | (refine wpPlan_skip2 rfl ?hw ?_; (case hw => ((conv => (lhs; whnf)); first | done | with_reducible rfl)); (try simp only [List.getElem_toArray, List.getElem_cons_succ, List.getElem_cons_zero, Act.put, List.setIfInBounds_toArray, List.set_cons_zero, List.set_cons_succ]))) | ((with_reducible show wpPlan _ _ _ _ _ _ _); refine wpPlan_fork ?_ ?_) | ((with_reducible show Owed _ _ _ [] _ _ _ _ _); refine Owed.none_ ?_) | ((with_reducible show Owed _ _ _ _ [] _ _ _ _); refine Owed.nil_ ?_) | ((with_reducible show Owed _ _ _ _ _ _ _ _ _); first | (refine Owed.miss rfl ?_) | (refine Owed.hit ?_ ?_)) | ((with_reducible show Same _ _ _ _ _); intro _; go_simp; done) | (with_reducible exact True.intro) | ((with_reducible show Code.wp _ (Code.region 29 _ true) _ _ _); refine wp_region_plan [(0, 1, []), (1, 0, []), (2, 1, []), (3, 1, []), (4, 1, []), (5, 1, []), (6, 0, []), (7, 0, []), (8, 1, []), (9, 1, []), (10, 1, []), (11, 0, []), (12, 1, []), (13, 1, []), (14, 0, []), (15, 2, [8, 9, 10, 12, 13]), (16, 0, [])] (by kernel_rfl) (by kernel_rfl) (by kernel_rfl) ?_))
                    refine ⟨?_, ?measure⟩
                    repeat' apply Exists.intro
                    refine ⟨?rel, rfl⟩
                    case rel => exact ⟨s + 1, q', true, _, _, _, by omega, by go_num, HS9.out, HZ, Lib.hid ⟨HSL.out, HQ2.out⟩⟩
                    case measure => simp [intOf]; omega
                  · skip
                    have HQ2 := Lib.hid (show UpkAt l ns q' bk' (s + 1) (ls ++ [acc]) from fun ls' hb => by
                      obtain ⟨g1, g2, g3, g4, _⟩ := HS.out.2 ls' hb
                      have hk : s < ls'.length := by omega
                      have hr0 := List.getElem?_eq_getElem hk
                      have hG := rowG_of hb.1 hr0 rfl g3
                      have hG' := hG
                      rw [← g4] at hG'
                      obtain ⟨f1, f2, f3, f4, f5⟩ := HG.out.2.2.2 _ _ hG'
                      have hkm : k = m := by
                        rcases hexit with h | h
                        · exact absurd (h.symm.trans f2) (by decide)
                        · omega
                      rw [hkm, f1, row_done] at f5
                      rw [hkm, f1, List.take_length] at f3
                      have hq' : q' = q + (rowF s ls'[s]).length := by simpa using f5
                      have hnx := rowG_next hG
                      rw [← hq'] at hnx
                      refine ⟨f2, ?_, hnx, g4, fun h => ?_⟩
                      · rw [List.take_add_one, hr0, ← g2, f3]
                        rfl
                      · have h1 : (rowsOf ls').drop (s + 1) = [] := List.drop_eq_nil_of_le (by rw [rows_len]; omega)
                        rw [h1] at hnx
                        have h2 : l.length ≤ q' := by
                          have := congrArg List.length hnx
                          simp at this
                          omega
                        have h3 := HU.out.rd.le
                        have h4 := HL.out
                        omega)
                    have hO6 : Outside (fun k => k = w.heap.size + 1) w2 wr2 := hOw.trans HU.out.out
                    have hs6 := hO6.size
                    have HX6 := Lib.hid (HW2.out.1.out hO6 (fun x h1 _ => by omega))
                    have HY6 := Lib.hid (And.intro (HW2.out.2.1.out hO6 (by omega)) (And.intro (HW2.out.2.2.1.out hO6 (by omega)) (And.intro HU.out.rd (HW2.out.2.2.2.2.trans (hO6.below (by omega) (fun x h1 h2 => by omega))))))
                    have HSL := Lib.hid (show ∀ l ∈ ls ++ [acc], l.length ≤ 2000000 from fun l hl => by
                      rcases List.mem_append.1 hl with h | h
                      · exact HS.out.1 l h
                      · rw [List.mem_singleton.1 h, HG.out.1]; omega)
                    have t6c := HY6.out.1.cell
                    have t6l := HY6.out.1.lt
                    have u6c := HU.out.rd.blk.cell
                    have u6l := HU.out.rd.blk.lt
                    clear hO6
                    go_wp2_with (first | ((with_reducible show wpPlan _ _ _ [] _ _ _); refine wpPlan_nil ?_) | ((with_reducible show wpPlan _ _ _ ((_, 0, _) :: _) _ _ _); first | (refine wpPlan_read0 rfl ?hw rfl (fun _ _ _ => ?_); case hw => ((conv => (lhs; whnf)); first | done | with_reducible rfl)) | (refine wpPlan_skip0 rfl ?hw ?_; (case hw => ((conv => (lhs; whnf)); first | done | with_reducible rfl)); (try simp only [List.getElem_toArray, List.getElem_cons_succ, List.getElem_cons_zero, Act.put, List.setIfInBounds_toArray, List.set_cons_zero, List.set_cons_succ]))) | ((with_reducible show wpPlan _ _ _ ((_, 1, _) :: _) _ _ _); first | (refine wpPlan_read1d rfl ?hw rfl rfl (fun _ _ _ => ?_); case hw => ((conv => (lhs; whnf)); first | done | with_reducible rfl)) | (refine wpPlan_skip1d rfl ?hw ?_; (case hw => ((conv => (lhs; whnf)); first | done | with_reducible rfl)); (try simp only [List.getElem_toArray, List.getElem_cons_succ, List.getElem_cons_zero, Act.put, List.setIfInBounds_toArray, List.set_cons_zero, List.set_cons_succ])) | (refine wpPlan_read1 rfl ?hw rfl (fun _ _ _ => ?_); case hw => ((conv => (lhs; whnf)); first | done | with_reducible rfl))) | ((with_reducible show wpPlan _ _ _ ((_, 2, _) :: _) _ _ _); first | (refine wpPlan_eff rfl ?hw (fun _ _ => ?_); case hw => ((conv => (lhs; whnf)); first | done | with_reducible rfl)) | (refine wpPlan_skip2 rfl ?hw ?_; (case hw => ((conv => (lhs; whnf)); first | done | with_reducible rfl)); (try simp only [List.getElem_toArray, List.getElem_cons_succ, List.getElem_cons_zero, Act.put, List.setIfInBounds_toArray, List.set_cons_zero, List.set_cons_succ]))) | ((with_reducible show wpPlan _ _ _ _ _ _ _); refine wpPlan_fork ?_ ?_) | ((with_reducible show Owed _ _ _ [] _ _ _ _ _); refine Owed.none_ ?_) | ((with_reducible show Owed _ _ _ _ [] _ _ _ _); refine Owed.nil_ ?_) | ((with_reducible show Owed _ _ _ _ _ _ _ _ _); first | (refine Owed.miss rfl ?_) | (refine Owed.hit ?_ ?_)) | ((with_reducible show Same _ _ _ _ _); intro _; go_simp; done) | (with_reducible exact True.intro) | ((with_reducible show Code.wp _ (Code.region 29 _ true) _ _ _); refine wp_region_plan [(0, 1, []), (1, 0, []), (2, 1, []), (3, 1, []), (4, 1, []), (5, 1, []), (6, 0, []), (7, 0, []), (8, 1, []), (9, 1, []), (10, 1, []), (11, 0, []), (12, 1, []), (13, 1, []), (14, 0, []), (15, 2, [8, 9, 10, 12, 13]), (16, 0, [])] (by kernel_rfl) (by kernel_rfl) (by kernel_rfl) ?_) | (at_builtin; refine appList_blk rfl slRow rfl (World.ownsRow.alloc HX6.out.own _) rfl (news := [.slice Av k cv]) ((heap_alloc_at rfl) : Blk _ wr2.heap.size _ _) rfl rfl (by simp [Value.oneCell']) (by decide) (by unfold maxLen; omega) (by omega) ?_; intro g9 c9 w9 hown9 hgrow9 hat9; refine Stop7.intro ?_))
                    unfold Stop7
                    have hO9 : Outside (fun g => (Value.slice Aq s cq).ownBlock = some g) wr2 w9 := ((Outside.refl (fun g => (Value.slice Aq s cq).ownBlock = some g) wr2).alloc (.cells #[.slice Av k cv] 49)).grown hgrow9 (fun z hz => .inl hz)
                    have hg9 : ∀ g, (Value.slice (some ⟨g9, 0, none⟩) (s + 1) c9).ownBlock = some g → T + 1 ≤ g := fun g hg => by
                      have h1 : g9 = g := by simpa [Value.ownBlock] using hg
                      rcases hat9 with h | h
                      · have := HX6.out.base g9 h
                        omega
                      · simp at h
                        omega
                    have hSn := HX6.out.snoc hown9 hg9 hO9 (show wr2.ownsRow 0 55 2 (.slice Av k cv) acc.length (cellsOf Arc.cells acc) from by rw [HG.out.1]; exact HU.out.own) (fun g hg => by have := HU.out.base g hg; omega)
                    have hnq : ∀ g, g < T + 1 → ¬ (Value.slice Aq s cq).ownBlock = some g := fun g h1 h2 => by have := HX6.out.base g h2; omega
                    have hOq : Outside (fun g => g = T) w9 (w9.setCell ⟨T, 0, none⟩ (.slice (some ⟨g9, 0, none⟩) (s + 1) c9)) := (Outside.refl (fun g => g = T) w9).setCell (p := ⟨T, 0, none⟩) (.inl rfl) _
                    have hq9 := HY6.out.1.out hO9 (hnq _ (by omega))
                    have HZ := Lib.hid (And.intro (hSn.out hOq (fun g h1 _ => by omega)) (And.intro (hq9.put 0 (.slice (some ⟨g9, 0, none⟩) (s + 1) c9)) (And.intro ((HY6.out.2.1.out hO9 (hnq _ (by omega))).out hOq (by omega))
                      (And.intro ((HY6.out.2.2.1.out hO9 (hnq _ (by omega)) (fun k hk => hnq _ (by omega))).out hOq (by omega) (fun k hk => by omega)) ((HY6.out.2.2.2.trans (hO9.below (by omega) (fun g h1 => hnq g (by omega)))).setCell (p := ⟨T, 0, none⟩) (by dsimp only; omega) (.slice (some ⟨g9, 0, none⟩) (s + 1) c9))))))
                    have q9c := hq9.cell
                    have q9l := hq9.lt
                    have q9f := hq9.frozen
                    have hsz9 : T + 1 ≤ (w9.setCell ⟨T, 0, none⟩ (.slice (some ⟨g9, 0, none⟩) (s + 1) c9)).heap.size := Nat.le_trans (by omega) (Nat.le_trans hO9.size hOq.size)
                    have HS9 := Lib.hid hsz9
                    clear hO9 hg9 hSn hnq hOq hq9 hown9 hgrow9 hat9 hsz9
                    go_wp2_with (first | ((with_reducible show wpPlan _ _ _ [] _ _ _); refine wpPlan_nil ?_) | ((with_reducible show wpPlan _ _ _ ((_, 0, _) :: _) _ _ _); first | (refine wpPlan_read0 rfl ?hw rfl (fun _ _ _ => ?_); case hw => ((conv => (lhs; whnf)); first | done | with_reducible rfl)) | (refine wpPlan_skip0 rfl ?hw ?_; (case hw => ((conv => (lhs; whnf)); first | done | with_reducible rfl)); (try simp only [List.getElem_toArray, List.getElem_cons_succ, List.getElem_cons_zero, Act.put, List.setIfInBounds_toArray, List.set_cons_zero, List.set_cons_succ]))) | ((with_reducible show wpPlan _ _ _ ((_, 1, _) :: _) _ _ _); first | (refine wpPlan_read1d rfl ?hw rfl rfl (fun _ _ _ => ?_); case hw => ((conv => (lhs; whnf)); first | done | with_reducible rfl)) | (refine wpPlan_skip1d rfl ?hw ?_; (case hw => ((conv => (lhs; whnf)); first | done | with_reducible rfl)); (try simp only [List.getElem_toArray, List.getElem_cons_succ, List.getElem_cons_zero, Act.put, List.setIfInBounds_toArray, List.set_cons_zero, List.set_cons_succ])) | (refine wpPlan_read1 rfl ?hw rfl (fun _ _ _ => ?_); case hw => ((conv => (lhs; whnf)); first | done | with_reducible rfl))) | ((with_reducible show wpPlan _ _ _ ((_, 2, _) :: _) _ _ _); first | (refine wpPlan_eff rfl ?hw (fun _ _ => ?_); case hw => ((conv => (lhs; whnf)); first | done | with_reducible rfl)) | (refine wpPlan_skip2 rfl ?hw ?_; (case hw => ((conv => (lhs; whnf)); first | done | with_reducible rfl)); (try simp only [List.getElem_toArray, List.getElem_cons_succ, List.getElem_cons_zero, Act.put, List.setIfInBounds_toArray, List.set_cons_zero, List.set_cons_succ]))) | ((with_reducible show wpPlan _ _ _ _ _ _ _); refine wpPlan_fork ?_ ?_) | ((with_reducible show Owed _ _ _ [] _ _ _ _ _); refine Owed.none_ ?_) | ((with_reducible show Owed _ _ _ _ [] _ _ _ _); refine Owed.nil_ ?_) | ((with_reducible show Owed _ _ _ _ _ _ _ _ _); first | (refine Owed.miss rfl ?_) | (refine Owed.hit ?_ ?_)) | ((with_reducible show Same _ _ _ _ _); intro _; go_simp; done) | (with_reducible exact True.intro) | ((with_reducible show Code.wp _ (Code.region 29 _ true) _ _ _); refine wp_region_plan [(0, 1, []), (1, 0, []), (2, 1, []), (3, 1, []), (4, 1, []), (5, 1, []), (6, 0, []), (7, 0, []), (8, 1, []), (9, 1, []), (10, 1, []), (11, 0, []), (12, 1, []), (13, 1, []), (14, 0, []), (15, 2, [8, 9, 10, 12, 13]), (16, 0, [])] (by kernel_rfl) (by kernel_rfl) (by kernel_rfl) ?_))
                    refine ⟨?_, ?measure⟩
                    repeat' apply Exists.intro
                    refine ⟨?rel, rfl⟩
                    case rel => exact ⟨s + 1, q', bk', _, _, _, by omega, by go_num, HS9.out, HZ, Lib.hid ⟨HSL.out, HQ2.out⟩⟩
                    case measure => simp [intOf]; omega
            · have hwy : (bk = true ∧ s < ns) ∨ (bk = true ∧ ns ≤ s) ∨ (bk = false ∧ ns ≤ s ∧ q = n) ∨ (bk = false ∧ ns ≤ s ∧ q < n) := by
                have := HW2.out.2.2.2.1.le
                cases bk
                · rcases Nat.lt_or_ge s ns with h | h
                  · exact absurd ⟨rfl, h⟩ hgo
                  · rcases Nat.lt_or_ge q n with h2 | h2
                    · exact .inr (.inr (.inr ⟨rfl, h, h2⟩))
                    · exact .inr (.inr (.inl ⟨rfl, h, by omega⟩))
                · rcases Nat.lt_or_ge s ns with h | h
                  · exact .inl ⟨rfl, h⟩
                  · exact .inr (.inl ⟨rfl, h⟩)
              clear hgo
              rcases hwy with ⟨rfl, hlt⟩ | ⟨rfl, hge⟩ | ⟨rfl, hge, hqn⟩ | ⟨rfl, hge, hqn⟩
              · skip
                have tc := HW2.out.2.1.cell
                have tl := HW2.out.2.1.lt
                have zc := HW2.out.2.2.1.cell
                have zl := HW2.out.2.2.1.lt
                have zf := HW2.out.2.2.1.frozen
                have rc := HW2.out.2.2.2.1.blk.cell
                have rl := HW2.out.2.2.2.1.blk.lt
                have hput := (HW2.out.2.2.1.put 0 (.slice Aq s cq)).cell 0
                have hO9 : Outside (fun g => g = w.heap.size) w2 (w2.setCell ⟨w.heap.size, 0, none⟩ (.slice Aq s cq)) := (Outside.refl (fun g => g = w.heap.size) w2).setCell (p := ⟨w.heap.size, 0, none⟩) (Or.inl rfl) _
                have HZ := Lib.hid (And.intro (((HW2.out.1.out hO9 (fun g h1 h2 => by omega)).out (Outside.refl (fun _ => False) _).drew (fun _ _ _ e => e)).lower (show w.heap.size ≤ T + 1 by omega)) (HW2.out.2.2.2.2.setCell (p := ⟨w.heap.size, 0, none⟩) (Nat.le_refl _) (.slice Aq s cq)).drew)
                clear hO9
                go_wp2_with (first | ((with_reducible show wpPlan _ _ _ [] _ _ _); refine wpPlan_nil ?_) | ((with_reducible show wpPlan _ _ _ ((_, 0, _) :: _) _ _ _); first | (refine wpPlan_read0 rfl ?hw rfl (fun _ _ _ => ?_); case hw => ((conv => (lhs; whnf)); first | done | with_reducible rfl)) | (refine wpPlan_skip0 rfl ?hw ?_; (case hw => ((conv => (lhs; whnf)); first | done | with_reducible rfl)); (try simp only [List.getElem_toArray, List.getElem_cons_succ, List.getElem_cons_zero, Act.put, List.setIfInBounds_toArray, List.set_cons_zero, List.set_cons_succ]))) | ((with_reducible show wpPlan _ _ _ ((_, 1, _) :: _) _ _ _); first | (refine wpPlan_read1d rfl ?hw rfl rfl (fun _ _ _ => ?_); case hw => ((conv => (lhs; whnf)); first | done | with_reducible rfl)) | (refine wpPlan_skip1d rfl ?hw ?_; (case hw => ((conv => (lhs; whnf)); first | done | with_reducible rfl)); (try simp only [List.getElem_toArray, List.getElem_cons_succ, List.getElem_cons_zero, Act.put, List.setIfInBounds_toArray, List.set_cons_zero, List.set_cons_succ])) | (refine wpPlan_read1 rfl ?hw rfl (fun _ _ _ => ?_); case hw => ((conv => (lhs; whnf)); first | done | with_reducible rfl))) | ((with_reducible show wpPlan _ _ _ ((_, 2, _) :: _) _ _ _); first | (refine wpPlan_eff rfl ?hw (fun _ _ => ?_); case hw => ((conv => (lhs; whnf)); first | done | with_reducible rfl)) | (refine wpPlan_skip2 rfl ?hw ?_; (case hw => ((conv => (lhs; whnf)); first | done | with_reducible rfl)); (try simp only [List.getElem_toArray, List.getElem_cons_succ, List.getElem_cons_zero, Act.put, List.setIfInBounds_toArray, List.set_cons_zero, List.set_cons_succ]))) | ((with_reducible show wpPlan _ _ _ _ _ _ _); refine wpPlan_fork ?_ ?_) | ((with_reducible show Owed _ _ _ [] _ _ _ _ _); refine Owed.none_ ?_) | ((with_reducible show Owed _ _ _ _ [] _ _ _ _); refine Owed.nil_ ?_) | ((with_reducible show Owed _ _ _ _ _ _ _ _ _); first | (refine Owed.miss rfl ?_) | (refine Owed.hit ?_ ?_)) | ((with_reducible show Same _ _ _ _ _); intro _; go_simp; done) | (with_reducible exact True.intro) | ((with_reducible show Code.wp _ (Code.region 29 _ true) _ _ _); refine wp_region_plan [(0, 1, []), (1, 0, []), (2, 1, []), (3, 1, []), (4, 1, []), (5, 1, []), (6, 0, []), (7, 0, []), (8, 1, []), (9, 1, []), (10, 1, []), (11, 0, []), (12, 1, []), (13, 1, []), (14, 0, []), (15, 2, [8, 9, 10, 12, 13]), (16, 0, [])] (by kernel_rfl) (by kernel_rfl) (by kernel_rfl) ?_))
                refine bodyPost_ret (v := .tuple #[.agg #[.slice Aq s cq], .bool false]) (by simp [results, Try.results73, go_sem, hput]) rfl ?_
                exact ⟨Aq, s, cq, ls, false, rfl, ⟨_, HZ.out.1⟩, HZ.out.2, by omega, HS.out.1, fun ls' hb => (by cases (HS.out.2 ls' hb).1)⟩
              · skip
                have tc := HW2.out.2.1.cell
                have tl := HW2.out.2.1.lt
                have zc := HW2.out.2.2.1.cell
                have zl := HW2.out.2.2.1.lt
                have zf := HW2.out.2.2.1.frozen
                have rc := HW2.out.2.2.2.1.blk.cell
                have rl := HW2.out.2.2.2.1.blk.lt
                have hput := (HW2.out.2.2.1.put 0 (.slice Aq s cq)).cell 0
                have hO9 : Outside (fun g => g = w.heap.size) w2 (w2.setCell ⟨w.heap.size, 0, none⟩ (.slice Aq s cq)) := (Outside.refl (fun g => g = w.heap.size) w2).setCell (p := ⟨w.heap.size, 0, none⟩) (Or.inl rfl) _
                have HZ := Lib.hid (And.intro (((HW2.out.1.out hO9 (fun g h1 h2 => by omega)).out (Outside.refl (fun _ => False) _).drew (fun _ _ _ e => e)).lower (show w.heap.size ≤ T + 1 by omega)) (HW2.out.2.2.2.2.setCell (p := ⟨w.heap.size, 0, none⟩) (Nat.le_refl _) (.slice Aq s cq)).drew)
                clear hO9
                go_wp2_with (first | ((with_reducible show wpPlan _ _ _ [] _ _ _); refine wpPlan_nil ?_) | ((with_reducible show wpPlan _ _ _ ((_, 0, _) :: _) _ _ _); first | (refine wpPlan_read0 rfl ?hw rfl (fun _ _ _ => ?_); case hw => ((conv => (lhs; whnf)); first | done | with_reducible rfl)) | (refine wpPlan_skip0 rfl ?hw ?_; (case hw => ((conv => (lhs; whnf)); first | done | with_reducible rfl)); (try simp only [List.getElem_toArray, List.getElem_cons_succ, List.getElem_cons_zero, Act.put, List.setIfInBounds_toArray, List.set_cons_zero, List.set_cons_succ]))) | ((with_reducible show wpPlan _ _ _ ((_, 1, _) :: _) _ _ _); first | (refine wpPlan_read1d rfl ?hw rfl rfl (fun _ _ _ => ?_); case hw => ((conv => (lhs; whnf)); first | done | with_reducible rfl)) | (refine wpPlan_skip1d rfl ?hw ?_; (case hw => ((conv => (lhs; whnf)); first | done | with_reducible rfl)); (try simp only [List.getElem_toArray, List.getElem_cons_succ, List.getElem_cons_zero, Act.put, List.setIfInBounds_toArray, List.set_cons_zero, List.set_cons_succ])) | (refine wpPlan_read1 rfl ?hw rfl (fun _ _ _ => ?_); case hw => ((conv => (lhs; whnf)); first | done | with_reducible rfl))) | ((with_reducible show wpPlan _ _ _ ((_, 2, _) :: _) _ _ _); first | (refine wpPlan_eff rfl ?hw (fun _ _ => ?_); case hw => ((conv => (lhs; whnf)); first | done | with_reducible rfl)) | (refine wpPlan_skip2 rfl ?hw ?_; (case hw => ((conv => (lhs; whnf)); first | done | with_reducible rfl)); (try simp only [List.getElem_toArray, List.getElem_cons_succ, List.getElem_cons_zero, Act.put, List.setIfInBounds_toArray, List.set_cons_zero, List.set_cons_succ]))) | ((with_reducible show wpPlan _ _ _ _ _ _ _); refine wpPlan_fork ?_ ?_) | ((with_reducible show Owed _ _ _ [] _ _ _ _ _); refine Owed.none_ ?_) | ((with_reducible show Owed _ _ _ _ [] _ _ _ _); refine Owed.nil_ ?_) | ((with_reducible show Owed _ _ _ _ _ _ _ _ _); first | (refine Owed.miss rfl ?_) | (refine Owed.hit ?_ ?_)) | ((with_reducible show Same _ _ _ _ _); intro _; go_simp; done) | (with_reducible exact True.intro) | ((with_reducible show Code.wp _ (Code.region 29 _ true) _ _ _); refine wp_region_plan [(0, 1, []), (1, 0, []), (2, 1, []), (3, 1, []), (4, 1, []), (5, 1, []), (6, 0, []), (7, 0, []), (8, 1, []), (9, 1, []), (10, 1, []), (11, 0, []), (12, 1, []), (13, 1, []), (14, 0, []), (15, 2, [8, 9, 10, 12, 13]), (16, 0, [])] (by kernel_rfl) (by kernel_rfl) (by kernel_rfl) ?_))
                refine bodyPost_ret (v := .tuple #[.agg #[.slice Aq s cq], .bool false]) (by simp [results, Try.results73, go_sem, hput]) rfl ?_
                exact ⟨Aq, s, cq, ls, false, rfl, ⟨_, HZ.out.1⟩, HZ.out.2, by omega, HS.out.1, fun ls' hb => (by cases (HS.out.2 ls' hb).1)⟩
              · skip
                have tc := HW2.out.2.1.cell
                have tl := HW2.out.2.1.lt
                have zc := HW2.out.2.2.1.cell
                have zl := HW2.out.2.2.1.lt
                have zf := HW2.out.2.2.1.frozen
                have rc := HW2.out.2.2.2.1.blk.cell
                have rl := HW2.out.2.2.2.1.blk.lt
                have hput := (HW2.out.2.2.1.put 0 (.slice Aq s cq)).cell 0
                have hO9 : Outside (fun g => g = w.heap.size) w2 (w2.setCell ⟨w.heap.size, 0, none⟩ (.slice Aq s cq)) := (Outside.refl (fun g => g = w.heap.size) w2).setCell (p := ⟨w.heap.size, 0, none⟩) (Or.inl rfl) _
                have HZ := Lib.hid (And.intro (((HW2.out.1.out hO9 (fun g h1 h2 => by omega)).out (Outside.refl (fun _ => False) _).drew (fun _ _ _ e => e)).lower (show w.heap.size ≤ T + 1 by omega)) (HW2.out.2.2.2.2.setCell (p := ⟨w.heap.size, 0, none⟩) (Nat.le_refl _) (.slice Aq s cq)).drew)
                clear hO9
                go_wp2_with (first | ((with_reducible show wpPlan _ _ _ [] _ _ _); refine wpPlan_nil ?_) | ((with_reducible show wpPlan _ _ _ ((_, 0, _) :: _) _ _ _); first | (refine wpPlan_read0 rfl ?hw rfl (fun _ _ _ => ?_); case hw => ((conv => (lhs; whnf)); first | done | with_reducible rfl)) | (refine wpPlan_skip0 rfl ?hw ?_; (case hw => ((conv => (lhs; whnf)); first | done | with_reducible rfl)); (try simp only [List.getElem_toArray, List.getElem_cons_succ, List.getElem_cons_zero, Act.put, List.setIfInBounds_toArray, List.set_cons_zero, List.set_cons_succ]))) | ((with_reducible show wpPlan _ _ _ ((_, 1, _) :: _) _ _ _); first | (refine wpPlan_read1d rfl ?hw rfl rfl (fun _ _ _ => ?_); case hw => ((conv => (lhs; whnf)); first | done | with_reducible rfl)) | (refine wpPlan_skip1d rfl ?hw ?_; (case hw => ((conv => (lhs; whnf)); first | done | with_reducible rfl)); (try simp only [List.getElem_toArray, List.getElem_cons_succ, List.getElem_cons_zero, Act.put, List.setIfInBounds_toArray, List.set_cons_zero, List.set_cons_succ])) | (refine wpPlan_read1 rfl ?hw rfl (fun _ _ _ => ?_); case hw => ((conv => (lhs; whnf)); first | done | with_reducible rfl))) | ((with_reducible show wpPlan _ _ _ ((_, 2, _) :: _) _ _ _); first | (refine wpPlan_eff rfl ?hw (fun _ _ => ?_); case hw => ((conv => (lhs; whnf)); first | done | with_reducible rfl)) | (refine wpPlan_skip2 rfl ?hw ?_; (case hw => ((conv => (lhs; whnf)); first | done | with_reducible rfl)); (try simp only [List.getElem_toArray, List.getElem_cons_succ, List.getElem_cons_zero, Act.put, List.setIfInBounds_toArray, List.set_cons_zero, List.set_cons_succ]))) | ((with_reducible show wpPlan _ _ _ _ _ _ _); refine wpPlan_fork ?_ ?_) | ((with_reducible show Owed _ _ _ [] _ _ _ _ _); refine Owed.none_ ?_) | ((with_reducible show Owed _ _ _ _ [] _ _ _ _); refine Owed.nil_ ?_) | ((with_reducible show Owed _ _ _ _ _ _ _ _ _); first | (refine Owed.miss rfl ?_) | (refine Owed.hit ?_ ?_)) | ((with_reducible show Same _ _ _ _ _); intro _; go_simp; done) | (with_reducible exact True.intro) | ((with_reducible show Code.wp _ (Code.region 29 _ true) _ _ _); refine wp_region_plan [(0, 1, []), (1, 0, []), (2, 1, []), (3, 1, []), (4, 1, []), (5, 1, []), (6, 0, []), (7, 0, []), (8, 1, []), (9, 1, []), (10, 1, []), (11, 0, []), (12, 1, []), (13, 1, []), (14, 0, []), (15, 2, [8, 9, 10, 12, 13]), (16, 0, [])] (by kernel_rfl) (by kernel_rfl) (by kernel_rfl) ?_))
                refine bodyPost_ret (v := .tuple #[.agg #[.slice Aq s cq], .bool true]) (by simp [results, Try.results73, go_sem, hput]) rfl ?_
                exact ⟨Aq, s, cq, ls, true, rfl, ⟨_, HZ.out.1⟩, HZ.out.2, by omega, HS.out.1, fun ls' hb => by
                  obtain ⟨_, g2, _, g4, _⟩ := HS.out.2 ls' hb
                  exact ⟨rfl, by rw [g2, List.take_of_length_le (by omega)]⟩⟩
              · have hqi : ¬ (q : Int) = n := by omega
                have tc := HW2.out.2.1.cell
                have tl := HW2.out.2.1.lt
                have zc := HW2.out.2.2.1.cell
                have zl := HW2.out.2.2.1.lt
                have zf := HW2.out.2.2.1.frozen
                have rc := HW2.out.2.2.2.1.blk.cell
                have rl := HW2.out.2.2.2.1.blk.lt
                have hput := (HW2.out.2.2.1.put 0 (.slice Aq s cq)).cell 0
                have hO9 : Outside (fun g => g = w.heap.size) w2 (w2.setCell ⟨w.heap.size, 0, none⟩ (.slice Aq s cq)) := (Outside.refl (fun g => g = w.heap.size) w2).setCell (p := ⟨w.heap.size, 0, none⟩) (Or.inl rfl) _
                have HZ := Lib.hid (And.intro (((HW2.out.1.out hO9 (fun g h1 h2 => by omega)).out (Outside.refl (fun _ => False) _).drew (fun _ _ _ e => e)).lower (show w.heap.size ≤ T + 1 by omega)) (HW2.out.2.2.2.2.setCell (p := ⟨w.heap.size, 0, none⟩) (Nat.le_refl _) (.slice Aq s cq)).drew)
                clear hO9
                go_wp2_with (first | ((with_reducible show wpPlan _ _ _ [] _ _ _); refine wpPlan_nil ?_) | ((with_reducible show wpPlan _ _ _ ((_, 0, _) :: _) _ _ _); first | (refine wpPlan_read0 rfl ?hw rfl (fun _ _ _ => ?_); case hw => ((conv => (lhs; whnf)); first | done | with_reducible rfl)) | (refine wpPlan_skip0 rfl ?hw ?_; (case hw => ((conv => (lhs; whnf)); first | done | with_reducible rfl)); (try simp only [List.getElem_toArray, List.getElem_cons_succ, List.getElem_cons_zero, Act.put, List.setIfInBounds_toArray, List.set_cons_zero, List.set_cons_succ]))) | ((with_reducible show wpPlan _ _ _ ((_, 1, _) :: _) _ _ _); first | (refine wpPlan_read1d rfl ?hw rfl rfl (fun _ _ _ => ?_); case hw => ((conv => (lhs; whnf)); first | done | with_reducible rfl)) | (refine wpPlan_skip1d rfl ?hw ?_; (case hw => ((conv => (lhs; whnf)); first | done | with_reducible rfl)); (try simp only [List.getElem_toArray, List.getElem_cons_succ, List.getElem_cons_zero, Act.put, List.setIfInBounds_toArray, List.set_cons_zero, List.set_cons_succ])) | (refine wpPlan_read1 rfl ?hw rfl (fun _ _ _ => ?_); case hw => ((conv => (lhs; whnf)); first | done | with_reducible rfl))) | ((with_reducible show wpPlan _ _ _ ((_, 2, _) :: _) _ _ _); first | (refine wpPlan_eff rfl ?hw (fun _ _ => ?_); case hw => ((conv => (lhs; whnf)); first | done | with_reducible rfl)) | (refine wpPlan_skip2 rfl ?hw ?_; (case hw => ((conv => (lhs; whnf)); first | done | with_reducible rfl)); (try simp only [List.getElem_toArray, List.getElem_cons_succ, List.getElem_cons_zero, Act.put, List.setIfInBounds_toArray, List.set_cons_zero, List.set_cons_succ]))) | ((with_reducible show wpPlan _ _ _ _ _ _ _); refine wpPlan_fork ?_ ?_) | ((with_reducible show Owed _ _ _ [] _ _ _ _ _); refine Owed.none_ ?_) | ((with_reducible show Owed _ _ _ _ [] _ _ _ _); refine Owed.nil_ ?_) | ((with_reducible show Owed _ _ _ _ _ _ _ _ _); first | (refine Owed.miss rfl ?_) | (refine Owed.hit ?_ ?_)) | ((with_reducible show Same _ _ _ _ _); intro _; go_simp; done) | (with_reducible exact True.intro) | ((with_reducible show Code.wp _ (Code.region 29 _ true) _ _ _); refine wp_region_plan [(0, 1, []), (1, 0, []), (2, 1, []), (3, 1, []), (4, 1, []), (5, 1, []), (6, 0, []), (7, 0, []), (8, 1, []), (9, 1, []), (10, 1, []), (11, 0, []), (12, 1, []), (13, 1, []), (14, 0, []), (15, 2, [8, 9, 10, 12, 13]), (16, 0, [])] (by kernel_rfl) (by kernel_rfl) (by kernel_rfl) ?_))
                refine bodyPost_ret (v := .tuple #[.agg #[.slice Aq s cq], .bool false]) (by simp [results, Try.results73, go_sem, hput, hqi]) rfl ?_
                exact ⟨Aq, s, cq, ls, false, rfl, ⟨_, HZ.out.1⟩, HZ.out.2, by omega, HS.out.1, fun ls' hb => by
                  obtain ⟨_, _, _, g4, g5⟩ := HS.out.2 ls' hb
                  have := g5 (by omega)
                  have := HL.out
                  omega⟩
    · have hwy : b4 = true ∨ (b4 = false ∧ ns < 1) ∨ (b4 = false ∧ 16384 < ns) := by
        cases b4
        · exact .inr (by
            rcases Nat.lt_or_ge ns 1 with h | h
            · exact .inl ⟨rfl, h⟩
            · rcases Nat.lt_or_ge 16384 ns with h2 | h2
              · exact .inr ⟨rfl, h2⟩
              · exact absurd ⟨rfl, h, h2⟩ hgood)
        · exact .inl rfl
      clear hgood
      have hput := (HT4.out.put 0 (.slice none 0 0)).cell 0
      have tc := HT4.out.cell
      have tl := HT4.out.lt
      have tf := HT4.out.frozen
      have HBB := Lib.hid (HB4.out.setCell (p := ⟨w.heap.size, 0, none⟩) (Nat.le_refl _) (.slice none 0 0))
      rcases hwy with rfl | ⟨rfl, hn1⟩ | ⟨rfl, hn1⟩
      · skip
        go_wp2_with (first | ((with_reducible show wpPlan _ _ _ [] _ _ _); refine wpPlan_nil ?_) | ((with_reducible show wpPlan _ _ _ ((_, 0, _) :: _) _ _ _); first | (refine wpPlan_read0 rfl ?hw rfl (fun _ _ _ => ?_); case hw => ((conv => (lhs; whnf)); first | done | with_reducible rfl)) | (refine wpPlan_skip0 rfl ?hw ?_; (case hw => ((conv => (lhs; whnf)); first | done | with_reducible rfl)); (try simp only [List.getElem_toArray, List.getElem_cons_succ, List.getElem_cons_zero, Act.put, List.setIfInBounds_toArray, List.set_cons_zero, List.set_cons_succ]))) | ((with_reducible show wpPlan _ _ _ ((_, 1, _) :: _) _ _ _); first | (refine wpPlan_read1d rfl ?hw rfl rfl (fun _ _ _ => ?_); case hw => ((conv => (lhs; whnf)); first | done | with_reducible rfl)) | (refine wpPlan_skip1d rfl ?hw ?_; (case hw => ((conv => (lhs; whnf)); first | done | with_reducible rfl)); (try simp only [List.getElem_toArray, List.getElem_cons_succ, List.getElem_cons_zero, Act.put, List.setIfInBounds_toArray, List.set_cons_zero, List.set_cons_succ])) | (refine wpPlan_read1 rfl ?hw rfl (fun _ _ _ => ?_); case hw => ((conv => (lhs; whnf)); first | done | with_reducible rfl))) | ((with_reducible show wpPlan _ _ _ ((_, 2, _) :: _) _ _ _); first | (refine wpPlan_eff rfl ?hw (fun _ _ => ?_); case hw => ((conv => (lhs; whnf)); first | done | with_reducible rfl)) | (refine wpPlan_skip2 rfl ?hw ?_; (case hw => ((conv => (lhs; whnf)); first | done | with_reducible rfl)); (try simp only [List.getElem_toArray, List.getElem_cons_succ, List.getElem_cons_zero, Act.put, List.setIfInBounds_toArray, List.set_cons_zero, List.set_cons_succ]))) | ((with_reducible show wpPlan _ _ _ _ _ _ _); refine wpPlan_fork ?_ ?_) | ((with_reducible show Owed _ _ _ [] _ _ _ _ _); refine Owed.none_ ?_) | ((with_reducible show Owed _ _ _ _ [] _ _ _ _); refine Owed.nil_ ?_) | ((with_reducible show Owed _ _ _ _ _ _ _ _ _); first | (refine Owed.miss rfl ?_) | (refine Owed.hit ?_ ?_)) | ((with_reducible show Same _ _ _ _ _); intro _; go_simp; done) | (with_reducible exact True.intro) | ((with_reducible show Code.wp _ (Code.region 29 _ true) _ _ _); refine wp_region_plan [(0, 1, []), (1, 0, []), (2, 1, []), (3, 1, []), (4, 1, []), (5, 1, []), (6, 0, []), (7, 0, []), (8, 1, []), (9, 1, []), (10, 1, []), (11, 0, []), (12, 1, []), (13, 1, []), (14, 0, []), (15, 2, [8, 9, 10, 12, 13]), (16, 0, [])] (by kernel_rfl) (by kernel_rfl) (by kernel_rfl) ?_))
        refine bodyPost_ret (v := .tuple #[.agg #[.slice none 0 0], .bool false]) (by simp [results, Try.results73, go_sem, hput]) rfl ?_
        exact upk_bad HBB.out fun ls' hb => (by cases (HX4.out ls' hb).2.1)
      · skip
        go_wp2_with (first | ((with_reducible show wpPlan _ _ _ [] _ _ _); refine wpPlan_nil ?_) | ((with_reducible show wpPlan _ _ _ ((_, 0, _) :: _) _ _ _); first | (refine wpPlan_read0 rfl ?hw rfl (fun _ _ _ => ?_); case hw => ((conv => (lhs; whnf)); first | done | with_reducible rfl)) | (refine wpPlan_skip0 rfl ?hw ?_; (case hw => ((conv => (lhs; whnf)); first | done | with_reducible rfl)); (try simp only [List.getElem_toArray, List.getElem_cons_succ, List.getElem_cons_zero, Act.put, List.setIfInBounds_toArray, List.set_cons_zero, List.set_cons_succ]))) | ((with_reducible show wpPlan _ _ _ ((_, 1, _) :: _) _ _ _); first | (refine wpPlan_read1d rfl ?hw rfl rfl (fun _ _ _ => ?_); case hw => ((conv => (lhs; whnf)); first | done | with_reducible rfl)) | (refine wpPlan_skip1d rfl ?hw ?_; (case hw => ((conv => (lhs; whnf)); first | done | with_reducible rfl)); (try simp only [List.getElem_toArray, List.getElem_cons_succ, List.getElem_cons_zero, Act.put, List.setIfInBounds_toArray, List.set_cons_zero, List.set_cons_succ])) | (refine wpPlan_read1 rfl ?hw rfl (fun _ _ _ => ?_); case hw => ((conv => (lhs; whnf)); first | done | with_reducible rfl))) | ((with_reducible show wpPlan _ _ _ ((_, 2, _) :: _) _ _ _); first | (refine wpPlan_eff rfl ?hw (fun _ _ => ?_); case hw => ((conv => (lhs; whnf)); first | done | with_reducible rfl)) | (refine wpPlan_skip2 rfl ?hw ?_; (case hw => ((conv => (lhs; whnf)); first | done | with_reducible rfl)); (try simp only [List.getElem_toArray, List.getElem_cons_succ, List.getElem_cons_zero, Act.put, List.setIfInBounds_toArray, List.set_cons_zero, List.set_cons_succ]))) | ((with_reducible show wpPlan _ _ _ _ _ _ _); refine wpPlan_fork ?_ ?_) | ((with_reducible show Owed _ _ _ [] _ _ _ _ _); refine Owed.none_ ?_) | ((with_reducible show Owed _ _ _ _ [] _ _ _ _); refine Owed.nil_ ?_) | ((with_reducible show Owed _ _ _ _ _ _ _ _ _); first | (refine Owed.miss rfl ?_) | (refine Owed.hit ?_ ?_)) | ((with_reducible show Same _ _ _ _ _); intro _; go_simp; done) | (with_reducible exact True.intro) | ((with_reducible show Code.wp _ (Code.region 29 _ true) _ _ _); refine wp_region_plan [(0, 1, []), (1, 0, []), (2, 1, []), (3, 1, []), (4, 1, []), (5, 1, []), (6, 0, []), (7, 0, []), (8, 1, []), (9, 1, []), (10, 1, []), (11, 0, []), (12, 1, []), (13, 1, []), (14, 0, []), (15, 2, [8, 9, 10, 12, 13]), (16, 0, [])] (by kernel_rfl) (by kernel_rfl) (by kernel_rfl) ?_))
        refine bodyPost_ret (v := .tuple #[.agg #[.slice none 0 0], .bool false]) (by simp [results, Try.results73, go_sem, hput]) rfl ?_
        exact upk_bad HBB.out fun ls' hb => (by have := (HX4.out ls' hb).1; have := (Pk.of hb.1).n1; have := (Pk.of hb.1).n2; omega)
      · skip
        go_wp2_with (first | ((with_reducible show wpPlan _ _ _ [] _ _ _); refine wpPlan_nil ?_) | ((with_reducible show wpPlan _ _ _ ((_, 0, _) :: _) _ _ _); first | (refine wpPlan_read0 rfl ?hw rfl (fun _ _ _ => ?_); case hw => ((conv => (lhs; whnf)); first | done | with_reducible rfl)) | (refine wpPlan_skip0 rfl ?hw ?_; (case hw => ((conv => (lhs; whnf)); first | done | with_reducible rfl)); (try simp only [List.getElem_toArray, List.getElem_cons_succ, List.getElem_cons_zero, Act.put, List.setIfInBounds_toArray, List.set_cons_zero, List.set_cons_succ]))) | ((with_reducible show wpPlan _ _ _ ((_, 1, _) :: _) _ _ _); first | (refine wpPlan_read1d rfl ?hw rfl rfl (fun _ _ _ => ?_); case hw => ((conv => (lhs; whnf)); first | done | with_reducible rfl)) | (refine wpPlan_skip1d rfl ?hw ?_; (case hw => ((conv => (lhs; whnf)); first | done | with_reducible rfl)); (try simp only [List.getElem_toArray, List.getElem_cons_succ, List.getElem_cons_zero, Act.put, List.setIfInBounds_toArray, List.set_cons_zero, List.set_cons_succ])) | (refine wpPlan_read1 rfl ?hw rfl (fun _ _ _ => ?_); case hw => ((conv => (lhs; whnf)); first | done | with_reducible rfl))) | ((with_reducible show wpPlan _ _ _ ((_, 2, _) :: _) _ _ _); first | (refine wpPlan_eff rfl ?hw (fun _ _ => ?_); case hw => ((conv => (lhs; whnf)); first | done | with_reducible rfl)) | (refine wpPlan_skip2 rfl ?hw ?_; (case hw => ((conv => (lhs; whnf)); first | done | with_reducible rfl)); (try simp only [List.getElem_toArray, List.getElem_cons_succ, List.getElem_cons_zero, Act.put, List.setIfInBounds_toArray, List.set_cons_zero, List.set_cons_succ]))) | ((with_reducible show wpPlan _ _ _ _ _ _ _); refine wpPlan_fork ?_ ?_) | ((with_reducible show Owed _ _ _ [] _ _ _ _ _); refine Owed.none_ ?_) | ((with_reducible show Owed _ _ _ _ [] _ _ _ _); refine Owed.nil_ ?_) | ((with_reducible show Owed _ _ _ _ _ _ _ _ _); first | (refine Owed.miss rfl ?_) | (refine Owed.hit ?_ ?_)) | ((with_reducible show Same _ _ _ _ _); intro _; go_simp; done) | (with_reducible exact True.intro) | ((with_reducible show Code.wp _ (Code.region 29 _ true) _ _ _); refine wp_region_plan [(0, 1, []), (1, 0, []), (2, 1, []), (3, 1, []), (4, 1, []), (5, 1, []), (6, 0, []), (7, 0, []), (8, 1, []), (9, 1, []), (10, 1, []), (11, 0, []), (12, 1, []), (13, 1, []), (14, 0, []), (15, 2, [8, 9, 10, 12, 13]), (16, 0, [])] (by kernel_rfl) (by kernel_rfl) (by kernel_rfl) ?_))
        refine bodyPost_ret (v := .tuple #[.agg #[.slice none 0 0], .bool false]) (by simp [results, Try.results73, go_sem, hput]) rfl ?_
        exact upk_bad HBB.out fun ls' hb => (by have := (HX4.out ls' hb).1; have := (Pk.of hb.1).n1; have := (Pk.of hb.1).n2; omega)
  · have HBB := HB2
    have hwy : ¬ (x0 : Int) = 67 ∨ ((x0 : Int) = 67 ∧ ¬ (x1 : Int) = 82) := by omega
    clear hh
    have hy : ¬ (x1 : Int) = 82 → ((x1 : Int) != 82) = true := fun h => by simp [h]
    rcases hwy with hh | ⟨hh, hh2⟩
    · skip
      go_wp2_with (first | ((with_reducible show wpPlan _ _ _ [] _ _ _); refine wpPlan_nil ?_) | ((with_reducible show wpPlan _ _ _ ((_, 0, _) :: _) _ _ _); first | (refine wpPlan_read0 rfl ?hw rfl (fun _ _ _ => ?_); case hw => ((conv => (lhs; whnf)); first | done | with_reducible rfl)) | (refine wpPlan_skip0 rfl ?hw ?_; (case hw => ((conv => (lhs; whnf)); first | done | with_reducible rfl)); (try simp only [List.getElem_toArray, List.getElem_cons_succ, List.getElem_cons_zero, Act.put, List.setIfInBounds_toArray, List.set_cons_zero, List.set_cons_succ]))) | ((with_reducible show wpPlan _ _ _ ((_, 1, _) :: _) _ _ _); first | (refine wpPlan_read1d rfl ?hw rfl rfl (fun _ _ _ => ?_); case hw => ((conv => (lhs; whnf)); first | done | with_reducible rfl)) | (refine wpPlan_skip1d rfl ?hw ?_; (case hw => ((conv => (lhs; whnf)); first | done | with_reducible rfl)); (try simp only [List.getElem_toArray, List.getElem_cons_succ, List.getElem_cons_zero, Act.put, List.setIfInBounds_toArray, List.set_cons_zero, List.set_cons_succ])) | (refine wpPlan_read1 rfl ?hw rfl (fun _ _ _ => ?_); case hw => ((conv => (lhs; whnf)); first | done | with_reducible rfl))) | ((with_reducible show wpPlan _ _ _ ((_, 2, _) :: _) _ _ _); first | (refine wpPlan_eff rfl ?hw (fun _ _ => ?_); case hw => ((conv => (lhs; whnf)); first | done | with_reducible rfl)) | (refine wpPlan_skip2 rfl ?hw ?_; (case hw => ((conv => (lhs; whnf)); first | done | with_reducible rfl)); (try simp only [List.getElem_toArray, List.getElem_cons_succ, List.getElem_cons_zero, Act.put, List.setIfInBounds_toArray, List.set_cons_zero, List.set_cons_succ]))) | ((with_reducible show wpPlan _ _ _ _ _ _ _); refine wpPlan_fork ?_ ?_) | ((with_reducible show Owed _ _ _ [] _ _ _ _ _); refine Owed.none_ ?_) | ((with_reducible show Owed _ _ _ _ [] _ _ _ _); refine Owed.nil_ ?_) | ((with_reducible show Owed _ _ _ _ _ _ _ _ _); first | (refine Owed.miss rfl ?_) | (refine Owed.hit ?_ ?_)) | ((with_reducible show Same _ _ _ _ _); intro _; go_simp; done) | (with_reducible exact True.intro) | ((with_reducible show Code.wp _ (Code.region 29 _ true) _ _ _); refine wp_region_plan [(0, 1, []), (1, 0, []), (2, 1, []), (3, 1, []), (4, 1, []), (5, 1, []), (6, 0, []), (7, 0, []), (8, 1, []), (9, 1, []), (10, 1, []), (11, 0, []), (12, 1, []), (13, 1, []), (14, 0, []), (15, 2, [8, 9, 10, 12, 13]), (16, 0, [])] (by kernel_rfl) (by kernel_rfl) (by kernel_rfl) ?_))
      refine bodyPost_ret (v := .tuple #[.agg #[.slice none 0 0], .bool false]) (by simp [results, Try.results73, go_sem]) rfl ?_
      exact upk_bad HBB.out fun ls' hb => hh (by have := (HX.out ls' hb).1; omega)
    · have hy2 := hy hh2
      go_wp2_with (first | ((with_reducible show wpPlan _ _ _ [] _ _ _); refine wpPlan_nil ?_) | ((with_reducible show wpPlan _ _ _ ((_, 0, _) :: _) _ _ _); first | (refine wpPlan_read0 rfl ?hw rfl (fun _ _ _ => ?_); case hw => ((conv => (lhs; whnf)); first | done | with_reducible rfl)) | (refine wpPlan_skip0 rfl ?hw ?_; (case hw => ((conv => (lhs; whnf)); first | done | with_reducible rfl)); (try simp only [List.getElem_toArray, List.getElem_cons_succ, List.getElem_cons_zero, Act.put, List.setIfInBounds_toArray, List.set_cons_zero, List.set_cons_succ]))) | ((with_reducible show wpPlan _ _ _ ((_, 1, _) :: _) _ _ _); first | (refine wpPlan_read1d rfl ?hw rfl rfl (fun _ _ _ => ?_); case hw => ((conv => (lhs; whnf)); first | done | with_reducible rfl)) | (refine wpPlan_skip1d rfl ?hw ?_; (case hw => ((conv => (lhs; whnf)); first | done | with_reducible rfl)); (try simp only [List.getElem_toArray, List.getElem_cons_succ, List.getElem_cons_zero, Act.put, List.setIfInBounds_toArray, List.set_cons_zero, List.set_cons_succ])) | (refine wpPlan_read1 rfl ?hw rfl (fun _ _ _ => ?_); case hw => ((conv => (lhs; whnf)); first | done | with_reducible rfl))) | ((with_reducible show wpPlan _ _ _ ((_, 2, _) :: _) _ _ _); first | (refine wpPlan_eff rfl ?hw (fun _ _ => ?_); case hw => ((conv => (lhs; whnf)); first | done | with_reducible rfl)) | (refine wpPlan_skip2 rfl ?hw ?_; (case hw => ((conv => (lhs; whnf)); first | done | with_reducible rfl)); (try simp only [List.getElem_toArray, List.getElem_cons_succ, List.getElem_cons_zero, Act.put, List.setIfInBounds_toArray, List.set_cons_zero, List.set_cons_succ]))) | ((with_reducible show wpPlan _ _ _ _ _ _ _); refine wpPlan_fork ?_ ?_) | ((with_reducible show Owed _ _ _ [] _ _ _ _ _); refine Owed.none_ ?_) | ((with_reducible show Owed _ _ _ _ [] _ _ _ _); refine Owed.nil_ ?_) | ((with_reducible show Owed _ _ _ _ _ _ _ _ _); first | (refine Owed.miss rfl ?_) | (refine Owed.hit ?_ ?_)) | ((with_reducible show Same _ _ _ _ _); intro _; go_simp; done) | (with_reducible exact True.intro) | ((with_reducible show Code.wp _ (Code.region 29 _ true) _ _ _); refine wp_region_plan [(0, 1, []), (1, 0, []), (2, 1, []), (3, 1, []), (4, 1, []), (5, 1, []), (6, 0, []), (7, 0, []), (8, 1, []), (9, 1, []), (10, 1, []), (11, 0, []), (12, 1, []), (13, 1, []), (14, 0, []), (15, 2, [8, 9, 10, 12, 13]), (16, 0, [])] (by kernel_rfl) (by kernel_rfl) (by kernel_rfl) ?_))
      refine bodyPost_ret (v := .tuple #[.agg #[.slice none 0 0], .bool false]) (by simp [results, Try.results73, go_sem]) rfl ?_
      exact upk_bad HBB.out fun ls' hb => hh2 (by have := (HX.out ls' hb).2.1; omega)

end Go.Proofs.Ytonpdclccgpceaa
