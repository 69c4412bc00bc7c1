/- generated sources with blocks: Layouted returns some string that is not long -/
import Derived.Test.YtgfhkaamkodpjaaDoorGen1
import Derived.Test.YtgfhkaamkodpjaaDoorPlan2
import Derived.Deep.DeepCutAuto
namespace Go.Proofs.YtgfhkaamkodpjaaDoor
open Go Go.RowKit
set_option maxHeartbeats 600000

theorem gdigit_any (n : Int) (w : World) (h : 0 ≤ n) (h2 : n ≤ 1000000000) : Calls Tryd.prog 32 #[.int .i64 n] w fun e w' => (∃ s : ByteArray, e = .returned (.string s) ∧ s.size ≤ 1) ∧ w = w' := by
  obtain ⟨k, rfl⟩ : ∃ k : Nat, n = k := ⟨n.toNat, by omega⟩
  have h3 : k % 10 < 10 := Nat.mod_lt _ (by decide)
  go_enter Tryd.func32, Tryd.ntmps32
  go_wp2
  go_ret
  refine ⟨⟨_, rfl, ?_⟩, rfl⟩
  rw [ByteArray.size_extract]
  omega

def LoRel (W : World) (B b : Nat) (A : Option Addr) (n c : Nat) (zs : List Int) (N : Nat) (v : Value) (w' : World) : Prop :=
  ∃ (s : ByteArray) (j : Nat), v = .string s ∧ s.size ≤ N ∧ ChAt w' B b A n c zs j ∧ Below W.heap.size W w'

theorem ChAt.next {W w w' : World} {B b n c i j : Nat} {A : Option Addr} {zs : List Int} (hW : Below W.heap.size W w) (hb : W.heap.size ≤ b) (ho : Outside (fun k => k = b) w w') (_ : ChAt w B b A n c zs i) (_ : ChAt w' B b A n c zs j) : Below W.heap.size W w' :=
  hW.trans (ho.below hW.size (fun z hz e => by omega))

theorem pick_at {w : World} {N : Nat} {t : TypeId} {l : List ByteArray} (h : Blk w N t (cellsOf scell l).toArray) (k : Nat) (hk : k < l.length) (m : Nat) (hm : ∀ x ∈ l, x.size ≤ m) : ∃ x, w.cell? ⟨N, k, none⟩ = some (.string x) ∧ x.size ≤ m := by
  refine ⟨l[k], (h.cell k).trans ?_, hm _ (List.getElem_mem hk)⟩
  have := cellsOf_get scell_len l k 0 (by decide)
  simp only [Nat.mul_one, Nat.add_zero] at this
  simp only [List.getElem?_toArray, this, List.getElem?_eq_getElem hk]
  rfl
theorem ChAt.more {w : World} {B b n c i : Nat} {A : Option Addr} {zs : List Int} (h : ChAt w B b A n c zs i) (o : Obj) : ChAt (w.alloc o) B b A n c zs i := h.below ((Below.refl _ _).alloc (Nat.le_refl _) _)
theorem lit_size (l : Array UInt8) : (⟨l⟩ : ByteArray).size = l.size := rfl
set_option maxRecDepth 100000 in
theorem layouted_any (B : Nat) (A : Option Addr) (n c : Nat) (zs : List Int) (w : World) (h : Rd w B 1 A n (cellsOf icell zs)) (hB : B ≤ w.heap.size) (hn : n ≤ 1000000000000) :
    Calls Tryd.prog 15 #[.slice A n c] w fun e w' => (∃ s : ByteArray, e = .returned (.string s) ∧ s.size ≤ 3000) ∧ Below w.heap.size w w' := by
  have HR := Lib.hid h
  clear h
  go_enter Tryd.func15, Tryd.ntmps15
  go_wp2_with fail
  refine (new_any B A n c zs _ HR.out hB).mono ?_
  rintro e w1 ⟨rfl, hch, hb1, hz1⟩
  have HC := Lib.hid hch
  have HB := Lib.hid hb1
  have hbW : w.heap.size ≤ w.heap.size := Nat.le_refl _
  clear hch hb1 hz1
  go_wp2_with fail
  refine (next_any B _ A n c _ zs 3 _ HC.out hn (by decide) (by decide)).mono ?_
  rintro e w2 ⟨⟨r, rfl, hr0, hr1⟩, ⟨j2, hc2, _⟩, ho2⟩; have HB2 := Lib.hid (ChAt.next HB.out hbW ho2 HC.out hc2); have HC2 := Lib.hid hc2; clear ho2 hc2; clear HB HC; have HB := HB2; have HC := HC2; clear HB2 HC2
  go_wp2_with fail
  refine (gdigit_any r _ hr0 (by omega)).mono ?_
  rintro e w3 ⟨⟨s3, rfl, hs3⟩, rfl⟩
  go_wp2_with fail
  refine (next_any B _ A n c _ zs 2 _ HC.out hn (by decide) (by decide)).mono ?_
  rintro e w2 ⟨⟨r, rfl, hr0, hr1⟩, ⟨j2, hc2, _⟩, ho2⟩; have HB2 := Lib.hid (ChAt.next HB.out hbW ho2 HC.out hc2); have HC2 := Lib.hid hc2; clear ho2 hc2; clear HB HC; have HB := HB2; have HC := HC2; clear HB2 HC2
  go_upto_if 14 with (fail)
  go_cut [4] (fun v4 w' => LoRel w B w.heap.size A n c zs 500 v4 w')
  case first =>
    by_cases hr : r = 1
    · subst hr
      go_wp2_with fail
      refine (next_any B _ A n c _ zs 9 _ HC.out hn (by decide) (by decide)).mono ?_
      rintro e w2 ⟨⟨r, rfl, hr0, hr1⟩, ⟨j2, hc2, _⟩, ho2⟩; have HB2 := Lib.hid (ChAt.next HB.out hbW ho2 HC.out hc2); have HC2 := Lib.hid hc2; clear ho2 hc2; clear HB HC; have HB := HB2; have HC := HC2; clear HB2 HC2
      go_wp2_with fail
      refine (gdigit_any r _ hr0 (by omega)).mono ?_
      rintro e w3 ⟨⟨s5, rfl, hs5⟩, rfl⟩
      go_wp2_with fail
      go_meet
      case rel => exact ⟨_, _, rfl, (by simp [ByteArray.size_append, lit_size]; omega), HC.out, HB.out⟩
    · have hrb : (r == 1) = false := by simpa using hr
      go_wp2_with fail
      go_meet
      case rel => exact ⟨_, _, rfl, (by simp [ByteArray.size_append, lit_size]; omega), HC.out, HB.out⟩
  case rest =>
    obtain ⟨s4, j4, rfl, hs4, hc4, hb4⟩ := hcut; have HB := Lib.hid hb4; have HC := Lib.hid hc4; clear hb4 hc4
    go_wp2_with fail
    refine (next_any B _ A n c _ zs 2 _ HC.out hn (by decide) (by decide)).mono ?_
    rintro e w2 ⟨⟨r, rfl, hr0, hr1⟩, ⟨j2, hc2, _⟩, ho2⟩; have HB2 := Lib.hid (ChAt.next HB.out hbW ho2 HC.out hc2); have HC2 := Lib.hid hc2; clear ho2 hc2; clear HB HC; have HB := HB2; have HC := HC2; clear HB2 HC2
    go_upto_if 26 with (fail)
    go_cut [4] (fun v4 w' => LoRel w B w.heap.size A n c zs 1000 v4 w')
    case first =>
      by_cases hr : r = 1
      · subst hr
        go_wp2_with fail
        refine (next_any B _ A n c _ zs 9 _ HC.out hn (by decide) (by decide)).mono ?_
        rintro e w2 ⟨⟨r, rfl, hr0, hr1⟩, ⟨j2, hc2, _⟩, ho2⟩; have HB2 := Lib.hid (ChAt.next HB.out hbW ho2 HC.out hc2); have HC2 := Lib.hid hc2; clear ho2 hc2; clear HB HC; have HB := HB2; have HC := HC2; clear HB2 HC2
        go_wp2_with fail
        refine (gdigit_any r _ hr0 (by omega)).mono ?_
        rintro e w3 ⟨⟨s5, rfl, hs5⟩, rfl⟩
        go_wp2_with fail
        go_meet
        case rel => exact ⟨_, _, rfl, (by simp [ByteArray.size_append, lit_size]; omega), HC.out, HB.out⟩
      · have hrb : (r == 1) = false := by simpa using hr
        go_wp2_with fail
        go_meet
        case rel => exact ⟨_, _, rfl, by omega, HC.out, HB.out⟩
    case rest =>
      obtain ⟨s4, j4, rfl, hs4, hc4, hb4⟩ := hcut; have HB := Lib.hid hb4; have HC := Lib.hid hc4; clear hb4 hc4
      go_wp2_with fail
      refine (next_any B _ A n c _ zs 2 _ HC.out hn (by decide) (by decide)).mono ?_
      rintro e w2 ⟨⟨r, rfl, hr0, hr1⟩, ⟨j2, hc2, _⟩, ho2⟩; have HB2 := Lib.hid (ChAt.next HB.out hbW ho2 HC.out hc2); have HC2 := Lib.hid hc2; clear ho2 hc2; clear HB HC; have HB := HB2; have HC := HC2; clear HB2 HC2
      go_upto_if 36 with (fail)
      go_cut [4] (fun v4 w' => LoRel w B w.heap.size A n c zs 1500 v4 w')
      case first =>
        by_cases hr : r = 1
        · subst hr
          go_wp2_with fail
          have hNl := Lib.hid HC.out.blk.lt
          have HN := Lib.hid (Blk.new w2 9 (cellsOf scell [⟨#[83, 75, 73, 80]⟩, ⟨#[80]⟩, ⟨#[40, 98, 32, 45, 62, 32, 83, 84, 79, 80, 32, 91, 93, 32, 80, 41]⟩, ⟨#[40, 80, 32, 124, 124, 124, 32, 83, 75, 73, 80, 41, 32, 92, 32, 123, 97, 125]⟩]).toArray)
          have HB2 := Lib.hid (HB.out.alloc HB.out.size (.cells (cellsOf scell [⟨#[83, 75, 73, 80]⟩, ⟨#[80]⟩, ⟨#[40, 98, 32, 45, 62, 32, 83, 84, 79, 80, 32, 91, 93, 32, 80, 41]⟩, ⟨#[40, 80, 32, 124, 124, 124, 32, 83, 75, 73, 80, 41, 32, 92, 32, 123, 97, 125]⟩]).toArray 9))
          have HC2 := Lib.hid (HC.out.more (.cells (cellsOf scell [⟨#[83, 75, 73, 80]⟩, ⟨#[80]⟩, ⟨#[40, 98, 32, 45, 62, 32, 83, 84, 79, 80, 32, 91, 93, 32, 80, 41]⟩, ⟨#[40, 80, 32, 124, 124, 124, 32, 83, 75, 73, 80, 41, 32, 92, 32, 123, 97, 125]⟩]).toArray 9))
          clear HB HC
          have HB := HB2
          have HC := HC2
          clear HB2 HC2
          refine (next_any B _ A n c _ zs 4 _ HC.out hn (by decide) (by decide)).mono ?_
          rintro e w4 ⟨⟨r, rfl, hr0, hr1⟩, ⟨j2, hc2, _⟩, ho2⟩; have HB2 := Lib.hid (ChAt.next HB.out hbW ho2 HC.out hc2); have HC2 := Lib.hid hc2; have HN2 := Lib.hid (HN.out.out ho2 (by have := hNl.out; omega)); clear ho2 hc2; clear HB HC HN; have HB := HB2; have HC := HC2; have HN := HN2; clear HB2 HC2 HN2; obtain ⟨kr, rfl⟩ : ∃ k : Nat, r = k := ⟨r.toNat, by omega⟩; obtain ⟨x, hx, hxs⟩ := pick_at HN.out kr (by simp; omega) 60 (by decide); have hbk := HN.out.lt
          go_wp2_with fail
          go_meet
          case rel => exact ⟨_, _, rfl, (by simp [ByteArray.size_append, lit_size]; omega), HC.out, HB.out⟩
        · have hrb : (r == 1) = false := by simpa using hr
          go_wp2_with fail
          go_meet
          case rel => exact ⟨_, _, rfl, by omega, HC.out, HB.out⟩
      case rest =>
        obtain ⟨s4, j4, rfl, hs4, hc4, hb4⟩ := hcut; have HB := Lib.hid hb4; have HC := Lib.hid hc4; clear hb4 hc4
        go_wp2_with fail
        have hNl := Lib.hid HC.out.blk.lt
        have HN := Lib.hid (Blk.new wc 9 (cellsOf scell [⟨#[122]⟩, ⟨#[121, 32, 43, 32, 122]⟩, ⟨#[120]⟩]).toArray)
        have HB2 := Lib.hid (HB.out.alloc HB.out.size (.cells (cellsOf scell [⟨#[122]⟩, ⟨#[121, 32, 43, 32, 122]⟩, ⟨#[120]⟩]).toArray 9))
        have HC2 := Lib.hid (HC.out.more (.cells (cellsOf scell [⟨#[122]⟩, ⟨#[121, 32, 43, 32, 122]⟩, ⟨#[120]⟩]).toArray 9))
        clear HB HC
        have HB := HB2
        have HC := HC2
        clear HB2 HC2
        refine (next_any B _ A n c _ zs 3 _ HC.out hn (by decide) (by decide)).mono ?_
        rintro e w4 ⟨⟨r, rfl, hr0, hr1⟩, ⟨j2, hc2, _⟩, ho2⟩; have HB2 := Lib.hid (ChAt.next HB.out hbW ho2 HC.out hc2); have HC2 := Lib.hid hc2; have HN2 := Lib.hid (HN.out.out ho2 (by have := hNl.out; omega)); clear ho2 hc2; clear HB HC HN; have HB := HB2; have HC := HC2; have HN := HN2; clear HB2 HC2 HN2; obtain ⟨kr, rfl⟩ : ∃ k : Nat, r = k := ⟨r.toNat, by omega⟩; obtain ⟨x, hx, hxs⟩ := pick_at HN.out kr (by simp; omega) 60 (by decide); have hbk := HN.out.lt
        go_wp2_with fail
        refine (next_any B _ A n c _ zs 2 _ HC.out hn (by decide) (by decide)).mono ?_
        rintro e w2 ⟨⟨r, rfl, hr0, hr1⟩, ⟨j2, hc2, _⟩, ho2⟩; have HB2 := Lib.hid (ChAt.next HB.out hbW ho2 HC.out hc2); have HC2 := Lib.hid hc2; clear ho2 hc2; clear HB HC; have HB := HB2; have HC := HC2; clear HB2 HC2
        by_cases hr : r = 1
        · subst hr
          go_wp2_with fail
          go_ret
          exact ⟨⟨_, rfl, (by simp [ByteArray.size_append, lit_size]; omega)⟩, HB.out⟩
        · have hrb : (r == 1) = false := by simpa using hr
          go_wp2_with fail
          go_ret
          exact ⟨⟨_, rfl, (by simp [ByteArray.size_append, lit_size]; omega)⟩, HB.out⟩

end Go.Proofs.YtgfhkaamkodpjaaDoor
