/- the generator's writer of sources: leaf, event, events, variable (printed by wip/tools/wr2gen.py) -/
import Derived.Test.YtgfhkaamkodpjaaDoorWr1
import Derived.Deep.LoopGhost
namespace Go.Proofs.YtgfhkaamkodpjaaDoor
open Go Go.RowKit
set_option maxHeartbeats 4000000

section
variable (B : Nat) (R : Nat → Prop) (b wb : Nat) (A : Option Addr) (n c : Nat) (zs : List Int) (fu : Int) (k fr : Nat) (w : World) (h : WrAt w B R b wb A n c zs fu k fr) (hn : n ≤ 1000000000000)
include h hn
theorem event_any : Calls Tryd.prog 37 #[.pointer (some ⟨wb, 0, none⟩)] w (WPost B R b wb A n c zs fu k fr 12 w) := by
  have HH := Lib.hid h
  have hc := h.c0
  have hl := h.lt
  clear h
  go_enter Tryd.func37, Tryd.ntmps37
  go_wp2_with fail
  have HN := Lib.hid (Blk.newAt (w := w) (t := 9) (cs := (cellsOf scell [⟨#[97]⟩, ⟨#[98]⟩, ⟨#[99, 46, 48]⟩, ⟨#[100, 46, 116, 114, 117, 101]⟩, ⟨#[100, 46, 102, 97, 108, 115, 101]⟩]).toArray) (g := w.heap.size) rfl)
  have HL := Lib.hid (HH.out.lit (.cells (cellsOf scell [⟨#[97]⟩, ⟨#[98]⟩, ⟨#[99, 46, 48]⟩, ⟨#[100, 46, 116, 114, 117, 101]⟩, ⟨#[100, 46, 102, 97, 108, 115, 101]⟩]).toArray 9))
  refine (wnext_any _ _ _ _ _ _ _ _ _ _ _ _ HL.out 5 (by decide) (by decide) hn).mono ?_
  rintro e w2 ⟨⟨r, rfl, hr⟩, hW2, hO2⟩
  obtain ⟨x, hx, hxs⟩ := pick_at (HN.out.out hO2 (fun h => h.2 rfl)) r (by simp; omega) 12 (by decide)
  have hl2 := (HN.out.out hO2 (fun h => h.2 rfl)).lt
  have HW2 := Lib.hid hW2
  have HO2 := Lib.hid hO2
  clear hW2 hO2
  go_wp2_with fail
  go_ret
  exact ⟨x, fr, rfl, by omega, HW2.out.weak (fun j h => h.1) HH.out.lo, by omega, ((Outside.refl R w).alloc _).trans (HO2.out.mono (fun j _ h => h.1))⟩

theorem events_any : Calls Tryd.prog 71 #[.pointer (some ⟨wb, 0, none⟩)] w (WPost B R b wb A n c zs fu k fr 12 w) := by
  have HH := Lib.hid h
  have hc := h.c0
  have hl := h.lt
  clear h
  go_enter Tryd.func71, Tryd.ntmps71
  go_wp2_with fail
  have HN := Lib.hid (Blk.newAt (w := w) (t := 9) (cs := (cellsOf scell [⟨#[123, 97, 125]⟩, ⟨#[123, 124, 32, 99, 32, 124, 125]⟩, ⟨#[123, 97, 44, 32, 98, 125]⟩, ⟨#[123, 125]⟩, ⟨#[123, 124, 32, 99, 44, 32, 100, 32, 124, 125]⟩, ⟨#[69, 118, 101, 110, 116, 115]⟩]).toArray) (g := w.heap.size) rfl)
  have HL := Lib.hid (HH.out.lit (.cells (cellsOf scell [⟨#[123, 97, 125]⟩, ⟨#[123, 124, 32, 99, 32, 124, 125]⟩, ⟨#[123, 97, 44, 32, 98, 125]⟩, ⟨#[123, 125]⟩, ⟨#[123, 124, 32, 99, 44, 32, 100, 32, 124, 125]⟩, ⟨#[69, 118, 101, 110, 116, 115]⟩]).toArray 9))
  refine (wnext_any _ _ _ _ _ _ _ _ _ _ _ _ HL.out 6 (by decide) (by decide) hn).mono ?_
  rintro e w2 ⟨⟨r, rfl, hr⟩, hW2, hO2⟩
  obtain ⟨x, hx, hxs⟩ := pick_at (HN.out.out hO2 (fun h => h.2 rfl)) r (by simp; omega) 12 (by decide)
  have hl2 := (HN.out.out hO2 (fun h => h.2 rfl)).lt
  have HW2 := Lib.hid hW2
  have HO2 := Lib.hid hO2
  clear hW2 hO2
  go_wp2_with fail
  go_ret
  exact ⟨x, fr, rfl, by omega, HW2.out.weak (fun j h => h.1) HH.out.lo, by omega, ((Outside.refl R w).alloc _).trans (HO2.out.mono (fun j _ h => h.1))⟩

theorem leaf_any (t : Int) (ht : 0 ≤ t) (ht6 : t < 6) : Calls Tryd.prog 65 #[.pointer (some ⟨wb, 0, none⟩), .int .i64 t] w (WPost B R b wb A n c zs fu k fr 9 w) := by
  have HH := Lib.hid h
  have hc := h.c0
  have hl := h.lt
  clear h
  rcases (show t = 0 ∨ t = 1 ∨ t = 2 ∨ t = 3 ∨ t = 4 ∨ t = 5 by omega) with rfl | rfl | rfl | rfl | rfl | rfl
  · go_enter Tryd.func65, Tryd.ntmps65
    go_wp2_with fail
    refine (wnext_any _ _ _ _ _ _ _ _ _ _ _ _ HH.out 6 (by decide) (by decide) hn).mono ?_
    rintro e w2 ⟨⟨r, rfl, hr⟩, hW2, hO2⟩
    have HW2 := Lib.hid hW2
    have HO2 := Lib.hid hO2
    clear hW2 hO2
    go_wp2_with fail
    refine (gdigit_any r _ (by omega) (by omega)).mono ?_
    rintro e w3 ⟨⟨s3, rfl, hs3⟩, rfl⟩
    go_wp2_with fail
    go_ret
    exact ⟨_, fr, rfl, by first | (simp [ByteArray.size_append, lit_size]; omega) | omega, HW2.out, by omega, HO2.out⟩
  · go_enter Tryd.func65, Tryd.ntmps65
    go_wp2_with fail
    have HN := Lib.hid (Blk.newAt (w := w) (t := 9) (cs := (cellsOf scell [⟨#[116, 114, 117, 101]⟩, ⟨#[102, 97, 108, 115, 101]⟩]).toArray) (g := w.heap.size) rfl)
    have HL := Lib.hid (HH.out.lit (.cells (cellsOf scell [⟨#[116, 114, 117, 101]⟩, ⟨#[102, 97, 108, 115, 101]⟩]).toArray 9))
    refine (wnext_any _ _ _ _ _ _ _ _ _ _ _ _ HL.out 2 (by decide) (by decide) hn).mono ?_
    rintro e w2 ⟨⟨r, rfl, hr⟩, hW2, hO2⟩
    obtain ⟨x, hx, hxs⟩ := pick_at (HN.out.out hO2 (fun h => h.2 rfl)) r (by simp; omega) 9 (by decide)
    have hl2 := (HN.out.out hO2 (fun h => h.2 rfl)).lt
    have HW2 := Lib.hid hW2
    have HO2 := Lib.hid hO2
    clear hW2 hO2
    go_wp2_with fail
    go_ret
    exact ⟨x, fr, rfl, by omega, HW2.out.weak (fun j h => h.1) HH.out.lo, by omega, ((Outside.refl R w).alloc _).trans (HO2.out.mono (fun j _ h => h.1))⟩
  · go_enter Tryd.func65, Tryd.ntmps65
    go_wp2_with fail
    have HN := Lib.hid (Blk.newAt (w := w) (t := 9) (cs := (cellsOf scell [⟨#[60, 62]⟩, ⟨#[60, 49, 44, 32, 50, 62]⟩, ⟨#[60, 51, 46, 46, 53, 62]⟩]).toArray) (g := w.heap.size) rfl)
    have HL := Lib.hid (HH.out.lit (.cells (cellsOf scell [⟨#[60, 62]⟩, ⟨#[60, 49, 44, 32, 50, 62]⟩, ⟨#[60, 51, 46, 46, 53, 62]⟩]).toArray 9))
    refine (wnext_any _ _ _ _ _ _ _ _ _ _ _ _ HL.out 3 (by decide) (by decide) hn).mono ?_
    rintro e w2 ⟨⟨r, rfl, hr⟩, hW2, hO2⟩
    obtain ⟨x, hx, hxs⟩ := pick_at (HN.out.out hO2 (fun h => h.2 rfl)) r (by simp; omega) 9 (by decide)
    have hl2 := (HN.out.out hO2 (fun h => h.2 rfl)).lt
    have HW2 := Lib.hid hW2
    have HO2 := Lib.hid hO2
    clear hW2 hO2
    go_wp2_with fail
    go_ret
    exact ⟨x, fr, rfl, by omega, HW2.out.weak (fun j h => h.1) HH.out.lo, by omega, ((Outside.refl R w).alloc _).trans (HO2.out.mono (fun j _ h => h.1))⟩
  · go_enter Tryd.func65, Tryd.ntmps65
    go_wp2_with fail
    have HN := Lib.hid (Blk.newAt (w := w) (t := 9) (cs := (cellsOf scell [⟨#[123, 125]⟩, ⟨#[123, 49, 44, 32, 50, 125]⟩, ⟨#[123, 48, 46, 46, 51, 125]⟩]).toArray) (g := w.heap.size) rfl)
    have HL := Lib.hid (HH.out.lit (.cells (cellsOf scell [⟨#[123, 125]⟩, ⟨#[123, 49, 44, 32, 50, 125]⟩, ⟨#[123, 48, 46, 46, 51, 125]⟩]).toArray 9))
    refine (wnext_any _ _ _ _ _ _ _ _ _ _ _ _ HL.out 3 (by decide) (by decide) hn).mono ?_
    rintro e w2 ⟨⟨r, rfl, hr⟩, hW2, hO2⟩
    obtain ⟨x, hx, hxs⟩ := pick_at (HN.out.out hO2 (fun h => h.2 rfl)) r (by simp; omega) 9 (by decide)
    have hl2 := (HN.out.out hO2 (fun h => h.2 rfl)).lt
    have HW2 := Lib.hid hW2
    have HO2 := Lib.hid hO2
    clear hW2 hO2
    go_wp2_with fail
    go_ret
    exact ⟨x, fr, rfl, by omega, HW2.out.weak (fun j h => h.1) HH.out.lo, by omega, ((Outside.refl R w).alloc _).trans (HO2.out.mono (fun j _ h => h.1))⟩
  · go_enter Tryd.func65, Tryd.ntmps65
    go_wp2_with fail
    refine (wnext_any _ _ _ _ _ _ _ _ _ _ _ _ HH.out 5 (by decide) (by decide) hn).mono ?_
    rintro e w2 ⟨⟨r, rfl, hr⟩, hW2, hO2⟩
    have HW2 := Lib.hid hW2
    have HO2 := Lib.hid hO2
    clear hW2 hO2
    go_wp2_with fail
    refine (gdigit_any r _ (by omega) (by omega)).mono ?_
    rintro e w3 ⟨⟨s3, rfl, hs3⟩, rfl⟩
    go_wp2_with fail
    go_ret
    exact ⟨_, fr, rfl, by first | (simp [ByteArray.size_append, lit_size]; omega) | omega, HW2.out, by omega, HO2.out⟩
  · go_enter Tryd.func65, Tryd.ntmps65
    go_wp2_with fail
    have HN := Lib.hid (Blk.newAt (w := w) (t := 9) (cs := (cellsOf scell [⟨#[65]⟩, ⟨#[66]⟩, ⟨#[67, 46, 48]⟩, ⟨#[67, 46, 49]⟩]).toArray) (g := w.heap.size) rfl)
    have HL := Lib.hid (HH.out.lit (.cells (cellsOf scell [⟨#[65]⟩, ⟨#[66]⟩, ⟨#[67, 46, 48]⟩, ⟨#[67, 46, 49]⟩]).toArray 9))
    refine (wnext_any _ _ _ _ _ _ _ _ _ _ _ _ HL.out 4 (by decide) (by decide) hn).mono ?_
    rintro e w2 ⟨⟨r, rfl, hr⟩, hW2, hO2⟩
    obtain ⟨x, hx, hxs⟩ := pick_at (HN.out.out hO2 (fun h => h.2 rfl)) r (by simp; omega) 9 (by decide)
    have hl2 := (HN.out.out hO2 (fun h => h.2 rfl)).lt
    have HW2 := Lib.hid hW2
    have HO2 := Lib.hid hO2
    clear hW2 hO2
    go_wp2_with fail
    go_ret
    exact ⟨x, fr, rfl, by omega, HW2.out.weak (fun j h => h.1) HH.out.lo, by omega, ((Outside.refl R w).alloc _).trans (HO2.out.mono (fun j _ h => h.1))⟩

/-- the loop of variable -/
def VarRel (W : World) (k : Nat) (wr : World) (vl vi : Value) : Prop :=
  ∃ (i : Nat) (xs : List ByteArray), i ≤ k ∧ vi = .int .i64 i ∧ wr.ownsRow W.heap.size 9 1 vl xs.length (cellsOf scell xs) ∧ Below W.heap.size W wr ∧ (∀ x ∈ xs, x.size ≤ 3) ∧ xs.length ≤ i

theorem variable_any (t : Int) (hk : k ≤ 1000000) : Calls Tryd.prog 64 #[.pointer (some ⟨wb, 0, none⟩), .int .i64 t] w fun e w' => (∃ s : ByteArray, e = .returned (.string s) ∧ s.size ≤ 3) ∧ WrAt w' B R b wb A n c zs fu k fr ∧ Outside R w w' := by
  have HH := Lib.hid h
  obtain ⟨i0, hi⟩ := h.ch
  obtain ⟨vn, vt, ns, ts, h1, h2, h3, h4, h5, h6⟩ := h.st
  obtain ⟨An, cn, rfl, hcn, hcm⟩ := own_form h2
  obtain ⟨At, ct, rfl, hct, hcm2⟩ := own_form h3
  have HI := Lib.hid hi
  have H1 := Lib.hid h1
  have HRn := Lib.hid (Rd.ofOwn h2)
  have HRt := Lib.hid (Rd.ofOwn h3)
  have H6 := Lib.hid h6
  clear h h1 h2 h3 h4 h5 h6 hi
  go_enter Tryd.func64, Tryd.ntmps64
  go_wp2_with fail
  go_loopw [5, 6] (fun vl vi wr => VarRel w k wr vl vi) (fun _ vi _ => k - (intOf vi).toNat)
  case atStart => exact ⟨0, [], Nat.zero_le _, rfl, World.ownsRow_nil _ _ _ _, Below.refl _ _, (by simp), (by simp)⟩
  case round =>
    obtain ⟨i, xs, hik, rfl, hown, hbl, hx3, hxi⟩ := hrel
    have HOW := Lib.hid hown
    have HBL := Lib.hid hbl
    have HX3 := Lib.hid hx3
    obtain ⟨Ao, co, rfl, hco, hcm3⟩ := own_form hown
    have HB := Lib.hid (H1.out.below hbl H1.out.lt)
    have hc := HB.out.cell
    have hl := HB.out.lt
    by_cases hlt : i < k
    · obtain ⟨b1, o1, y, rfl, hb1, hy, hcy⟩ := (HRn.out.below hbl).str hlt
      obtain ⟨b2, o2, z, rfl, hb2, hz, hcz⟩ := (HRt.out.below hbl).int hlt
      have hy3 : y.size ≤ 3 := H6.out y (List.mem_of_getElem? hy)
      clear hown hbl hx3 hz hy
      by_cases hzt : z = t
      · subst hzt
        go_wp2_with (first | (at_builtin; refine appList_blk rfl wslStr rfl (own_base (World.ownsRow.alloc HOW.out _) (fun _ _ => Nat.zero_le _)) rfl (news := scell y) ((heap_alloc_at rfl) : Blk _ wr.heap.size _ _) rfl rfl (by simp [scell, Value.oneCell']) (by decide) (by unfold maxLen; omega) (by omega) ?_; intro g7 cap7 w7 hown7 hgrow7 hat7))
        go_roundw
        case rel =>
          have hg7 : ∀ g, (Value.slice (some ⟨g7, 0, none⟩) (xs.length + 1) cap7).ownBlock = some g → w.heap.size ≤ g := fun g hg => by
            have h1 : g7 = g := by simpa [Value.ownBlock] using hg
            subst h1
            rcases hat7 with h2 | h2
            · exact (World.ownsRow.lt HOW.out _ h2).1
            · have := HBL.out.size
              simp at h2
              omega
          refine ⟨i + 1, xs ++ [y], by omega, by go_num, ?_, ?_, fun x hx => ?_, by simp; omega⟩
          · rw [List.length_append, cellsOf_append, cellsOf_one]
            exact own_base hown7 hg7
          · have hbb := HBL.out.alloc HBL.out.size (.cells (scell y).toArray 9)
            exact hbb.grown hgrow7 hbb.size (fun z hz => (World.ownsRow.lt HOW.out z hz).1)
          · rcases List.mem_append.1 hx with hx | hx
            · exact HX3.out x hx
            · rw [List.mem_singleton.1 hx]; exact hy3
        case measure => simp [intOf]; omega
      · have hzb : (z == t) = false := by simpa using hzt
        go_wp2_with fail
        go_roundw
        case rel => exact ⟨i + 1, xs, by omega, by go_num, HOW.out, HBL.out, HX3.out, by omega⟩
        case measure => simp [intOf]; omega
    · have hik2 : i = k := by omega
      subst hik2
      have HW := Lib.hid (HH.out.keep (Below.new hbl))
      have HRx := Lib.hid (Rd.ofOwn hown)
      have HI2 := Lib.hid (HI.out.below hbl)
      have HXB2 := Lib.hid (show ∀ (b2 : Nat) (o2 : Nat), Ao = some ⟨b2, o2, none⟩ → w.heap.size ≤ b2 from fun b2 o2 hA => (World.ownsRow.lt hown b2 (by rw [hA]; rfl)).1)
      have hbw : b < w.heap.size := HI.out.blk.lt
      clear hown hbl hx3
      by_cases hx0 : xs.length = 0
      · have hxb : (((xs.length : Nat) : Int) == 0) = true := by simpa using hx0
        go_wp2_with fail
        go_ret
        exact ⟨⟨_, rfl, by simp [lit_size]⟩, HW.out, (Below.new HBL.out).mono (fun _ _ h => h.elim)⟩
      · have hxb : (((xs.length : Nat) : Int) == 0) = false := by simpa using hx0
        go_wp2_with fail
        refine (next_any B b A n c i0 zs xs.length _ HI2.out hn (by omega) (by omega)).mono ?_
        rintro e w2 ⟨⟨r, rfl, hr0, hr1⟩, ⟨j2, hc2, _⟩, hO2⟩
        have HW2 := Lib.hid (HW.out.next hc2 hO2)
        have HO2 := Lib.hid hO2
        clear hO2 hc2
        obtain ⟨r, rfl⟩ : ∃ q : Nat, r = q := ⟨r.toNat, by omega⟩
        have hlr : r < xs.length := by omega
        obtain ⟨bx, ox, x, rfl, hbx, hx, hcx⟩ := HRx.out.str hlr
        have hx3 : x.size ≤ 3 := HX3.out x (List.mem_of_getElem? hx)
        have hbx2 : w.heap.size ≤ bx := HXB2.out _ _ rfl
        have hcx2 := HO2.out.cell hcx (by simp; omega)
        clear hx hcx
        go_wp2_with fail
        go_ret
        exact ⟨⟨x, rfl, hx3⟩, HW2.out, ((Below.new HBL.out).mono (fun _ _ h => h.elim)).trans (HO2.out.mono (fun j _ e => e ▸ HH.out.rB))⟩
