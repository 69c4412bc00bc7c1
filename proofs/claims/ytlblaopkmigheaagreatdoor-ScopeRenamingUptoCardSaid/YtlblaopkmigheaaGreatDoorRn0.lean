/- ScopeRenaming: the law's walk up to its two texts -/
import Derived.Test.YtlblaopkmigheaaGreatDoorEvM
import Derived.Test.YtlblaopkmigheaaGreatDoorEvK0
import Derived.Test.YtlblaopkmigheaaGreatDoorGen1
namespace Go.Proofs.YtlblaopkmigheaaGreatDoor
open Go Go.RowKit Ev
set_option maxHeartbeats 4000000
set_option maxRecDepth 100000

theorem four (n : Nat) : Int.tmod (n : Int) 4 = 0 ∨ Int.tmod (n : Int) 4 = 1 ∨ Int.tmod (n : Int) 4 = 2 ∨ Int.tmod (n : Int) 4 = 3 := by rw [Int.tmod_eq_emod_of_nonneg (by omega)]; omega
theorem three {r : Int} (h0 : 0 ≤ r) (h1 : r < 3) : r = 0 ∨ r = 1 ∨ r = 2 := by omega

/-! what follows the law's first six regions -/
noncomputable def sqr : Code → Code
  | .seq _ b => b
  | c => c
noncomputable def sql : Code → Code
  | .seq a _ => a
  | c => c
noncomputable def renRest : Code := sqr (sqr (sqr (sqr (sqr (sqr (Tryz.f3.body.getD .skip))))))
noncomputable def renT (k1 x1 k2 x2 : Nat) : Fr := frS (slOf 8) (.s k1 x1) (frS (slOf 9) (.s k2 x2) .e)
noncomputable def renRun (Tb : TbF) (k1 x1 k2 x2 : Nat) : Out := evC Tryz.prog G8 Tb 100000 (elOf Tryz.f3) renRest (renT k1 x1 k2 x2) (heapG gis 26000) (retT 4)

theorem mixedR : Tryz.prog.follows .mixedOrders = true := by kernel_rfl
abbrev renQ (w : World) : Exit → Act → World → Prop := bodyPost Tryz.prog Tryz.f3 fun e w' => e = .returned (.bool true) ∧ Below w.heap.size w w'
theorem renEl (d : Nat) (h : bitB (elOf Tryz.f3) d = true) (k1 x1 k2 x2 : Nat) : (renT k1 x1 k2 x2).at d = .u := by
  have h8 : bitB (elOf Tryz.f3) 8 = false := by kernel_rfl
  have h9 : bitB (elOf Tryz.f3) 9 = false := by kernel_rfl
  have := at2 (s := 8) (t := 9) (x := .s k1 x1) (y := .s k2 x2) d
  rw [renT, this, if_neg (fun e => by rw [e, h8] at h; cases h), if_neg (fun e => by rw [e, h9] at h; cases h)]
theorem renOk : codeOk renRest 112 (elOf Tryz.f3) = true := by kernel_rfl
theorem leaf {Tb : TbF} (hTb : TbOK Tryz.prog G8 Tb) {k1 x1 k2 x2 : Nat} (hrun : renRun Tb k1 x1 k2 x2 = .ok) {w W : World} (hh : ∀ i ∈ gis, i.holds w) (hB : Below w.heap.size w W) {a : Act} (hd : a.defers = []) (hsz : 112 ≤ a.tmps.size)
    (h8 : a.tmps.getD 8 undef = .string (bytesOf k1 x1)) (h9 : a.tmps.getD 9 undef = .string (bytesOf k2 x2)) {c1 c2 : Code} (hc : Code.seq c1 c2 = renRest) {K : Act → World → Prop} (hK : ∀ a w', c2.wp Tryz.prog (renQ w) a w' → K a w') : c1.wp Tryz.prog (Exit.then K (renQ w)) a W := by
  have hrun : evC Tryz.prog G8 Tb (99999 + 1) (elOf Tryz.f3) (.seq c1 c2) (renT k1 x1 k2 x2) (heapG gis 26000) (retT 4) = .ok := by rw [hc]; exact hrun
  refine mid_ok (Q := renQ w) (r := 4) (nx := 26000) (fuel := 99999) mixedR hTb (by kernel_rfl) (by kernel_rfl) (by kernel_rfl) (by rw [hc]; exact renOk) hrun (fun d h => renEl d h _ _ _ _) (fun i hi => GI.holds_below (hh i hi) hB) hd hsz (fun ρ t => ?_) ?_ hK (fun _ _ h => h)
  · rw [renT, at2]
    by_cases e8 : t = 8
    · rw [if_pos e8, e8, h8]; exact .s _ _
    · rw [if_neg e8]
      by_cases e9 : t = 9
      · rw [if_pos e9, e9, h9]; exact .s _ _
      · rw [if_neg e9]; exact .u _
  · intro a' W' e1 e2 e3
    have hr : (results Tryz.f3 a'.tmps).run Tryz.prog W' = .ok (.bool true) W' := by
      have e2 : a'.tmps[4]?.getD undef = .bool true := by rw [← e2]; exact Array.getD_eq_getD_getElem?.symm
      simp [results, e2]
    exact ⟨e1, _, hr, rfl, hB.trans (e3.mono hB.size)⟩

def Halt (p : Prop) : Prop := p
theorem Halt.intro {p : Prop} (h : Halt p) : p := h

/-- The two texts, by the name and the operator. -/
def renK (v o : Nat) : Nat × Nat × Nat × Nat := match v, o with
  | 0, 0 => (41, 21879215766831445409604292584553502293006243346596962520247481231245735756368702943092528024922214, 41, 21879215766831445409604292584553502293006243346596962520247481231245735756368702943092528024922214)
  | 0, 1 => (41, 21879215766831445409604292584553502293006243346596962520247483889701727326200448750706648585611366, 41, 21879215766831445409604292584553502293006243346596962520247483889701727326200448750706648585611366)
  | 0, 2 => (41, 21879215766831445409604292584553502293006243346596962520247479902017739971452830039285467744577638, 41, 21879215766831445409604292584553502293006243346596962520247479902017739971452830039285467744577638)
  | 1, 0 => (41, 21879215766831445409604292584553502293006243346596962520247481231245735756368702943092528024922214, 41, 21879215639516696888698912192775646767420108280506043496969754419406531944940851584428117906106470)
  | 1, 1 => (41, 21879215766831445409604292584553502293006243346596962520247483889701727326200448750706648585611366, 41, 21879215639516696888698912192775646767420108280506043496969757077862523514772597392042238466795622)
  | 1, 2 => (41, 21879215766831445409604292584553502293006243346596962520247479902017739971452830039285467744577638, 41, 21879215639516696888698912192775646767420108280506043496969753090178536160024978680621057625761894)
  | 2, 0 => (41, 21879215766831445409604292584553502293006243346596962520247481231245735756368702943092528024922214, 45, 93970472002281953609080831762081717773276354070955072889876292248248663692823837429009293609434765264496742)
  | 2, 1 => (41, 21879215766831445409604292584553502293006243346596962520247483889701727326200448750706648585611366, 45, 93970472002281953609080831762081717773276354070955072889876292248422888264687357922302541408439830588762214)
  | 2, 2 => (41, 21879215766831445409604292584553502293006243346596962520247479902017739971452830039285467744577638, 45, 93970472002281953609080831762081717773276354070955072889876292248161551406892077182362669709932232602364006)
  | 3, 0 => (41, 21879215766831445409604292584553502293006243346596962520247481231245735756368702943092528024922214, 45, 93970477436232972991876081375016938268616933620297756463696344133613145359147154112570357006662337476765798)
  | 3, 1 => (41, 21879215766831445409604292584553502293006243346596962520247483889701727326200448750706648585611366, 45, 93970477436232972991876081375016938268616933620297756463696344133787369931010674605863604805667402801031270)
  | 3, 2 => (41, 21879215766831445409604292584553502293006243346596962520247479902017739971452830039285467744577638, 45, 93970477436232972991876081375016938268616933620297756463696344133526033073215393865923733107159804814633062)
  | _, _ => (0, 0, 0, 0)
theorem front0 (h : ∀ v o, v < 4 → o < 3 → ∃ Tb, TbOK Tryz.prog G8 Tb ∧ renRun Tb (renK v o).1 (renK v o).2.1 (renK v o).2.2.1 (renK v o).2.2.2 = .ok) (w : World) (hG : ∀ i ∈ gis, i.holds w) (n : Nat) (hv : Int.tmod (n : Int) 4 = 0) (a1 : Option Addr) (n1 c1 : Nat) (l1 : List Int) (hR1 : Rd w w.heap.size 1 a1 n1 (cellsOf icell l1)) (hn1 : n1 ≤ 1048576) :
    Calls Tryz.prog 3 #[.int .u8 n, .slice a1 n1 c1] w fun e w' => e = .returned (.bool true) ∧ Below w.heap.size w w' := by
  have H1 := Lib.hid hR1
  have HF := Lib.hid h
  have HG := Lib.hid hG
  clear hR1 h hG
  go_enter Tryz.func3, Tryz.ntmps3
  go_wp2_with fail
  refine (new_any w.heap.size a1 n1 c1 l1 w H1.out (Nat.le_refl _)).mono ?_
  rintro e w1 ⟨rfl, hC1, hb1, hsz⟩
  have HC := Lib.hid hC1
  have HB := Lib.hid hb1
  have hlt1 : w.heap.size < w1.heap.size := by omega
  clear hC1 hb1 hsz
  have HC2 := Lib.hid ((HC.out.below ((Below.refl _ _).alloc (Nat.le_refl _) (.cells #[.string ⟨#[120]⟩, .string ⟨#[119]⟩, .string ⟨#[113, 39]⟩, .string ⟨#[97, 49]⟩] 9))).below ((Below.refl _ _).alloc (Nat.le_refl _) (.cells #[.string ⟨#[43]⟩, .string ⟨#[45]⟩, .string ⟨#[42]⟩] 9)))
  have HB2 := Lib.hid ((HB.out.alloc (Nat.le_of_lt hlt1) (.cells #[.string ⟨#[120]⟩, .string ⟨#[119]⟩, .string ⟨#[113, 39]⟩, .string ⟨#[97, 49]⟩] 9)).alloc (by simp; omega) (.cells #[.string ⟨#[43]⟩, .string ⟨#[45]⟩, .string ⟨#[42]⟩] 9))
  have hne : ¬ (w1.heap.size + 1 = w.heap.size) := by omega
  go_wp2_with fail
  refine (next_any w.heap.size w.heap.size a1 n1 c1 0 l1 3 _ HC2.out (by omega) (by decide) (by decide)).mono ?_
  rintro e w2 ⟨⟨r, rfl, r0, r1⟩, _, hO⟩
  have HB3 := Lib.hid (HB2.out.trans (hO.below (by simp; omega) (fun k hk e => by omega)))
  rcases three r0 r1 with rfl | rfl | rfl
  · have hc0 := hO.cell (p := ⟨w1.heap.size + 1, 0, none⟩) (v := .string ⟨#[43]⟩) (by simp) hne
    clear hO
    repeat' ((fail_if_success (with_reducible show Halt _)); first | ((with_reducible show Code.wp _ (Code.region 6 _ _) _ _ _); refine Halt.intro ?_) | go_values | go_skip | go_guarded | go_step | go_upon | go_back | go_simp)
    obtain ⟨Tb, hTb, hrun⟩ := HF.out 0 0 (by decide) (by decide)
    refine leaf hTb hrun HG.out HB3.out rfl (Nat.le_refl _) ?_ ?_ ?_ ‹_›
    · refine (show _ = Value.string _ from congrArg Value.string ?_); kernel_rfl
    · refine (show _ = Value.string _ from congrArg Value.string ?_); kernel_rfl
    · kernel_rfl
  · have hc0 := hO.cell (p := ⟨w1.heap.size + 1, 1, none⟩) (v := .string ⟨#[45]⟩) (by simp) hne
    clear hO
    repeat' ((fail_if_success (with_reducible show Halt _)); first | ((with_reducible show Code.wp _ (Code.region 6 _ _) _ _ _); refine Halt.intro ?_) | go_values | go_skip | go_guarded | go_step | go_upon | go_back | go_simp)
    obtain ⟨Tb, hTb, hrun⟩ := HF.out 0 1 (by decide) (by decide)
    refine leaf hTb hrun HG.out HB3.out rfl (Nat.le_refl _) ?_ ?_ ?_ ‹_›
    · refine (show _ = Value.string _ from congrArg Value.string ?_); kernel_rfl
    · refine (show _ = Value.string _ from congrArg Value.string ?_); kernel_rfl
    · kernel_rfl
  · have hc0 := hO.cell (p := ⟨w1.heap.size + 1, 2, none⟩) (v := .string ⟨#[42]⟩) (by simp) hne
    clear hO
    repeat' ((fail_if_success (with_reducible show Halt _)); first | ((with_reducible show Code.wp _ (Code.region 6 _ _) _ _ _); refine Halt.intro ?_) | go_values | go_skip | go_guarded | go_step | go_upon | go_back | go_simp)
    obtain ⟨Tb, hTb, hrun⟩ := HF.out 0 2 (by decide) (by decide)
    refine leaf hTb hrun HG.out HB3.out rfl (Nat.le_refl _) ?_ ?_ ?_ ‹_›
    · refine (show _ = Value.string _ from congrArg Value.string ?_); kernel_rfl
    · refine (show _ = Value.string _ from congrArg Value.string ?_); kernel_rfl
    · kernel_rfl
theorem front1 (h : ∀ v o, v < 4 → o < 3 → ∃ Tb, TbOK Tryz.prog G8 Tb ∧ renRun Tb (renK v o).1 (renK v o).2.1 (renK v o).2.2.1 (renK v o).2.2.2 = .ok) (w : World) (hG : ∀ i ∈ gis, i.holds w) (n : Nat) (hv : Int.tmod (n : Int) 4 = 1) (a1 : Option Addr) (n1 c1 : Nat) (l1 : List Int) (hR1 : Rd w w.heap.size 1 a1 n1 (cellsOf icell l1)) (hn1 : n1 ≤ 1048576) :
    Calls Tryz.prog 3 #[.int .u8 n, .slice a1 n1 c1] w fun e w' => e = .returned (.bool true) ∧ Below w.heap.size w w' := by
  have H1 := Lib.hid hR1
  have HF := Lib.hid h
  have HG := Lib.hid hG
  clear hR1 h hG
  go_enter Tryz.func3, Tryz.ntmps3
  go_wp2_with fail
  refine (new_any w.heap.size a1 n1 c1 l1 w H1.out (Nat.le_refl _)).mono ?_
  rintro e w1 ⟨rfl, hC1, hb1, hsz⟩
  have HC := Lib.hid hC1
  have HB := Lib.hid hb1
  have hlt1 : w.heap.size < w1.heap.size := by omega
  clear hC1 hb1 hsz
  have HC2 := Lib.hid ((HC.out.below ((Below.refl _ _).alloc (Nat.le_refl _) (.cells #[.string ⟨#[120]⟩, .string ⟨#[119]⟩, .string ⟨#[113, 39]⟩, .string ⟨#[97, 49]⟩] 9))).below ((Below.refl _ _).alloc (Nat.le_refl _) (.cells #[.string ⟨#[43]⟩, .string ⟨#[45]⟩, .string ⟨#[42]⟩] 9)))
  have HB2 := Lib.hid ((HB.out.alloc (Nat.le_of_lt hlt1) (.cells #[.string ⟨#[120]⟩, .string ⟨#[119]⟩, .string ⟨#[113, 39]⟩, .string ⟨#[97, 49]⟩] 9)).alloc (by simp; omega) (.cells #[.string ⟨#[43]⟩, .string ⟨#[45]⟩, .string ⟨#[42]⟩] 9))
  have hne : ¬ (w1.heap.size + 1 = w.heap.size) := by omega
  go_wp2_with fail
  refine (next_any w.heap.size w.heap.size a1 n1 c1 0 l1 3 _ HC2.out (by omega) (by decide) (by decide)).mono ?_
  rintro e w2 ⟨⟨r, rfl, r0, r1⟩, _, hO⟩
  have HB3 := Lib.hid (HB2.out.trans (hO.below (by simp; omega) (fun k hk e => by omega)))
  rcases three r0 r1 with rfl | rfl | rfl
  · have hc0 := hO.cell (p := ⟨w1.heap.size + 1, 0, none⟩) (v := .string ⟨#[43]⟩) (by simp) hne
    clear hO
    repeat' ((fail_if_success (with_reducible show Halt _)); first | ((with_reducible show Code.wp _ (Code.region 6 _ _) _ _ _); refine Halt.intro ?_) | go_values | go_skip | go_guarded | go_step | go_upon | go_back | go_simp)
    obtain ⟨Tb, hTb, hrun⟩ := HF.out 1 0 (by decide) (by decide)
    refine leaf hTb hrun HG.out HB3.out rfl (Nat.le_refl _) ?_ ?_ ?_ ‹_›
    · refine (show _ = Value.string _ from congrArg Value.string ?_); kernel_rfl
    · refine (show _ = Value.string _ from congrArg Value.string ?_); kernel_rfl
    · kernel_rfl
  · have hc0 := hO.cell (p := ⟨w1.heap.size + 1, 1, none⟩) (v := .string ⟨#[45]⟩) (by simp) hne
    clear hO
    repeat' ((fail_if_success (with_reducible show Halt _)); first | ((with_reducible show Code.wp _ (Code.region 6 _ _) _ _ _); refine Halt.intro ?_) | go_values | go_skip | go_guarded | go_step | go_upon | go_back | go_simp)
    obtain ⟨Tb, hTb, hrun⟩ := HF.out 1 1 (by decide) (by decide)
    refine leaf hTb hrun HG.out HB3.out rfl (Nat.le_refl _) ?_ ?_ ?_ ‹_›
    · refine (show _ = Value.string _ from congrArg Value.string ?_); kernel_rfl
    · refine (show _ = Value.string _ from congrArg Value.string ?_); kernel_rfl
    · kernel_rfl
  · have hc0 := hO.cell (p := ⟨w1.heap.size + 1, 2, none⟩) (v := .string ⟨#[42]⟩) (by simp) hne
    clear hO
    repeat' ((fail_if_success (with_reducible show Halt _)); first | ((with_reducible show Code.wp _ (Code.region 6 _ _) _ _ _); refine Halt.intro ?_) | go_values | go_skip | go_guarded | go_step | go_upon | go_back | go_simp)
    obtain ⟨Tb, hTb, hrun⟩ := HF.out 1 2 (by decide) (by decide)
    refine leaf hTb hrun HG.out HB3.out rfl (Nat.le_refl _) ?_ ?_ ?_ ‹_›
    · refine (show _ = Value.string _ from congrArg Value.string ?_); kernel_rfl
    · refine (show _ = Value.string _ from congrArg Value.string ?_); kernel_rfl
    · kernel_rfl
theorem front2 (h : ∀ v o, v < 4 → o < 3 → ∃ Tb, TbOK Tryz.prog G8 Tb ∧ renRun Tb (renK v o).1 (renK v o).2.1 (renK v o).2.2.1 (renK v o).2.2.2 = .ok) (w : World) (hG : ∀ i ∈ gis, i.holds w) (n : Nat) (hv : Int.tmod (n : Int) 4 = 2) (a1 : Option Addr) (n1 c1 : Nat) (l1 : List Int) (hR1 : Rd w w.heap.size 1 a1 n1 (cellsOf icell l1)) (hn1 : n1 ≤ 1048576) :
    Calls Tryz.prog 3 #[.int .u8 n, .slice a1 n1 c1] w fun e w' => e = .returned (.bool true) ∧ Below w.heap.size w w' := by
  have H1 := Lib.hid hR1
  have HF := Lib.hid h
  have HG := Lib.hid hG
  clear hR1 h hG
  go_enter Tryz.func3, Tryz.ntmps3
  go_wp2_with fail
  refine (new_any w.heap.size a1 n1 c1 l1 w H1.out (Nat.le_refl _)).mono ?_
  rintro e w1 ⟨rfl, hC1, hb1, hsz⟩
  have HC := Lib.hid hC1
  have HB := Lib.hid hb1
  have hlt1 : w.heap.size < w1.heap.size := by omega
  clear hC1 hb1 hsz
  have HC2 := Lib.hid ((HC.out.below ((Below.refl _ _).alloc (Nat.le_refl _) (.cells #[.string ⟨#[120]⟩, .string ⟨#[119]⟩, .string ⟨#[113, 39]⟩, .string ⟨#[97, 49]⟩] 9))).below ((Below.refl _ _).alloc (Nat.le_refl _) (.cells #[.string ⟨#[43]⟩, .string ⟨#[45]⟩, .string ⟨#[42]⟩] 9)))
  have HB2 := Lib.hid ((HB.out.alloc (Nat.le_of_lt hlt1) (.cells #[.string ⟨#[120]⟩, .string ⟨#[119]⟩, .string ⟨#[113, 39]⟩, .string ⟨#[97, 49]⟩] 9)).alloc (by simp; omega) (.cells #[.string ⟨#[43]⟩, .string ⟨#[45]⟩, .string ⟨#[42]⟩] 9))
  have hne : ¬ (w1.heap.size + 1 = w.heap.size) := by omega
  go_wp2_with fail
  refine (next_any w.heap.size w.heap.size a1 n1 c1 0 l1 3 _ HC2.out (by omega) (by decide) (by decide)).mono ?_
  rintro e w2 ⟨⟨r, rfl, r0, r1⟩, _, hO⟩
  have HB3 := Lib.hid (HB2.out.trans (hO.below (by simp; omega) (fun k hk e => by omega)))
  rcases three r0 r1 with rfl | rfl | rfl
  · have hc0 := hO.cell (p := ⟨w1.heap.size + 1, 0, none⟩) (v := .string ⟨#[43]⟩) (by simp) hne
    clear hO
    repeat' ((fail_if_success (with_reducible show Halt _)); first | ((with_reducible show Code.wp _ (Code.region 6 _ _) _ _ _); refine Halt.intro ?_) | go_values | go_skip | go_guarded | go_step | go_upon | go_back | go_simp)
    obtain ⟨Tb, hTb, hrun⟩ := HF.out 2 0 (by decide) (by decide)
    refine leaf hTb hrun HG.out HB3.out rfl (Nat.le_refl _) ?_ ?_ ?_ ‹_›
    · refine (show _ = Value.string _ from congrArg Value.string ?_); kernel_rfl
    · refine (show _ = Value.string _ from congrArg Value.string ?_); kernel_rfl
    · kernel_rfl
  · have hc0 := hO.cell (p := ⟨w1.heap.size + 1, 1, none⟩) (v := .string ⟨#[45]⟩) (by simp) hne
    clear hO
    repeat' ((fail_if_success (with_reducible show Halt _)); first | ((with_reducible show Code.wp _ (Code.region 6 _ _) _ _ _); refine Halt.intro ?_) | go_values | go_skip | go_guarded | go_step | go_upon | go_back | go_simp)
    obtain ⟨Tb, hTb, hrun⟩ := HF.out 2 1 (by decide) (by decide)
    refine leaf hTb hrun HG.out HB3.out rfl (Nat.le_refl _) ?_ ?_ ?_ ‹_›
    · refine (show _ = Value.string _ from congrArg Value.string ?_); kernel_rfl
    · refine (show _ = Value.string _ from congrArg Value.string ?_); kernel_rfl
    · kernel_rfl
  · have hc0 := hO.cell (p := ⟨w1.heap.size + 1, 2, none⟩) (v := .string ⟨#[42]⟩) (by simp) hne
    clear hO
    repeat' ((fail_if_success (with_reducible show Halt _)); first | ((with_reducible show Code.wp _ (Code.region 6 _ _) _ _ _); refine Halt.intro ?_) | go_values | go_skip | go_guarded | go_step | go_upon | go_back | go_simp)
    obtain ⟨Tb, hTb, hrun⟩ := HF.out 2 2 (by decide) (by decide)
    refine leaf hTb hrun HG.out HB3.out rfl (Nat.le_refl _) ?_ ?_ ?_ ‹_›
    · refine (show _ = Value.string _ from congrArg Value.string ?_); kernel_rfl
    · refine (show _ = Value.string _ from congrArg Value.string ?_); kernel_rfl
    · kernel_rfl
theorem front3 (h : ∀ v o, v < 4 → o < 3 → ∃ Tb, TbOK Tryz.prog G8 Tb ∧ renRun Tb (renK v o).1 (renK v o).2.1 (renK v o).2.2.1 (renK v o).2.2.2 = .ok) (w : World) (hG : ∀ i ∈ gis, i.holds w) (n : Nat) (hv : Int.tmod (n : Int) 4 = 3) (a1 : Option Addr) (n1 c1 : Nat) (l1 : List Int) (hR1 : Rd w w.heap.size 1 a1 n1 (cellsOf icell l1)) (hn1 : n1 ≤ 1048576) :
    Calls Tryz.prog 3 #[.int .u8 n, .slice a1 n1 c1] w fun e w' => e = .returned (.bool true) ∧ Below w.heap.size w w' := by
  have H1 := Lib.hid hR1
  have HF := Lib.hid h
  have HG := Lib.hid hG
  clear hR1 h hG
  go_enter Tryz.func3, Tryz.ntmps3
  go_wp2_with fail
  refine (new_any w.heap.size a1 n1 c1 l1 w H1.out (Nat.le_refl _)).mono ?_
  rintro e w1 ⟨rfl, hC1, hb1, hsz⟩
  have HC := Lib.hid hC1
  have HB := Lib.hid hb1
  have hlt1 : w.heap.size < w1.heap.size := by omega
  clear hC1 hb1 hsz
  have HC2 := Lib.hid ((HC.out.below ((Below.refl _ _).alloc (Nat.le_refl _) (.cells #[.string ⟨#[120]⟩, .string ⟨#[119]⟩, .string ⟨#[113, 39]⟩, .string ⟨#[97, 49]⟩] 9))).below ((Below.refl _ _).alloc (Nat.le_refl _) (.cells #[.string ⟨#[43]⟩, .string ⟨#[45]⟩, .string ⟨#[42]⟩] 9)))
  have HB2 := Lib.hid ((HB.out.alloc (Nat.le_of_lt hlt1) (.cells #[.string ⟨#[120]⟩, .string ⟨#[119]⟩, .string ⟨#[113, 39]⟩, .string ⟨#[97, 49]⟩] 9)).alloc (by simp; omega) (.cells #[.string ⟨#[43]⟩, .string ⟨#[45]⟩, .string ⟨#[42]⟩] 9))
  have hne : ¬ (w1.heap.size + 1 = w.heap.size) := by omega
  go_wp2_with fail
  refine (next_any w.heap.size w.heap.size a1 n1 c1 0 l1 3 _ HC2.out (by omega) (by decide) (by decide)).mono ?_
  rintro e w2 ⟨⟨r, rfl, r0, r1⟩, _, hO⟩
  have HB3 := Lib.hid (HB2.out.trans (hO.below (by simp; omega) (fun k hk e => by omega)))
  rcases three r0 r1 with rfl | rfl | rfl
  · have hc0 := hO.cell (p := ⟨w1.heap.size + 1, 0, none⟩) (v := .string ⟨#[43]⟩) (by simp) hne
    clear hO
    repeat' ((fail_if_success (with_reducible show Halt _)); first | ((with_reducible show Code.wp _ (Code.region 6 _ _) _ _ _); refine Halt.intro ?_) | go_values | go_skip | go_guarded | go_step | go_upon | go_back | go_simp)
    obtain ⟨Tb, hTb, hrun⟩ := HF.out 3 0 (by decide) (by decide)
    refine leaf hTb hrun HG.out HB3.out rfl (Nat.le_refl _) ?_ ?_ ?_ ‹_›
    · refine (show _ = Value.string _ from congrArg Value.string ?_); kernel_rfl
    · refine (show _ = Value.string _ from congrArg Value.string ?_); kernel_rfl
    · kernel_rfl
  · have hc0 := hO.cell (p := ⟨w1.heap.size + 1, 1, none⟩) (v := .string ⟨#[45]⟩) (by simp) hne
    clear hO
    repeat' ((fail_if_success (with_reducible show Halt _)); first | ((with_reducible show Code.wp _ (Code.region 6 _ _) _ _ _); refine Halt.intro ?_) | go_values | go_skip | go_guarded | go_step | go_upon | go_back | go_simp)
    obtain ⟨Tb, hTb, hrun⟩ := HF.out 3 1 (by decide) (by decide)
    refine leaf hTb hrun HG.out HB3.out rfl (Nat.le_refl _) ?_ ?_ ?_ ‹_›
    · refine (show _ = Value.string _ from congrArg Value.string ?_); kernel_rfl
    · refine (show _ = Value.string _ from congrArg Value.string ?_); kernel_rfl
    · kernel_rfl
  · have hc0 := hO.cell (p := ⟨w1.heap.size + 1, 2, none⟩) (v := .string ⟨#[42]⟩) (by simp) hne
    clear hO
    repeat' ((fail_if_success (with_reducible show Halt _)); first | ((with_reducible show Code.wp _ (Code.region 6 _ _) _ _ _); refine Halt.intro ?_) | go_values | go_skip | go_guarded | go_step | go_upon | go_back | go_simp)
    obtain ⟨Tb, hTb, hrun⟩ := HF.out 3 2 (by decide) (by decide)
    refine leaf hTb hrun HG.out HB3.out rfl (Nat.le_refl _) ?_ ?_ ?_ ‹_›
    · refine (show _ = Value.string _ from congrArg Value.string ?_); kernel_rfl
    · refine (show _ = Value.string _ from congrArg Value.string ?_); kernel_rfl
    · kernel_rfl
theorem front (h : ∀ v o, v < 4 → o < 3 → ∃ Tb, TbOK Tryz.prog G8 Tb ∧ renRun Tb (renK v o).1 (renK v o).2.1 (renK v o).2.2.1 (renK v o).2.2.2 = .ok) (w : World) (hG : ∀ i ∈ gis, i.holds w) (n : Nat) (a1 : Option Addr) (n1 c1 : Nat) (l1 : List Int) (hR1 : Rd w w.heap.size 1 a1 n1 (cellsOf icell l1)) (hn1 : n1 ≤ 1048576) :
    Calls Tryz.prog 3 #[.int .u8 n, .slice a1 n1 c1] w fun e w' => e = .returned (.bool true) ∧ Below w.heap.size w w' := by
  rcases four n with h4 | h4 | h4 | h4
  · exact front0 h w hG n h4 a1 n1 c1 l1 hR1 hn1
  · exact front1 h w hG n h4 a1 n1 c1 l1 hR1 hn1
  · exact front2 h w hG n h4 a1 n1 c1 l1 hR1 hn1
  · exact front3 h w hG n h4 a1 n1 c1 l1 hR1 hn1
end Go.Proofs.YtlblaopkmigheaaGreatDoor
