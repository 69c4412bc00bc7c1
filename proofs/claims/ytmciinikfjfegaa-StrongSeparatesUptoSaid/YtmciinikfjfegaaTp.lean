/- the generators' tapes: New, Next -/
import Derived.Test.YtmciinikfjfegaaRows
import Derived.Test.YtmciinikfjfegaaRwMem
import Derived.Test.YtmciinikfjfegaaPlan2
import Derived.IntWalk
namespace Go.Proofs.Ytmciinikfjfegaa
open Go Go.RowKit
set_option maxHeartbeats 4000000

/-- a tape at b: the list (a slice A n c of ints that lies below block B), the next place -/
structure TpAt (w : World) (B b : Nat) (A : Option Addr) (n c : Nat) (zs : List Int) (i : Nat) : Prop where
  blk : Blk w b 60 #[.slice A n c, .int .i64 i]
  rd : Rd w B 1 A n (cellsOf icell zs)
  lo : B ≤ b
section
variable {w w' : World} {B b n c i : Nat} {A : Option Addr} {zs : List Int} {R : Nat → Prop}
theorem TpAt.below (h : TpAt w B b A n c zs i) (hb : Below w.heap.size w w') : TpAt w' B b A n c zs i :=
  ⟨h.blk.below hb h.blk.lt, h.rd.keep (fun p hp => hb.cell (by have := h.lo; have := h.blk.lt; omega)), h.lo⟩
theorem TpAt.out (h : TpAt w B b A n c zs i) (hO : Outside R w w') (hR : ¬ R b) (hB : ∀ k, k < B → ¬ R k) : TpAt w' B b A n c zs i :=
  ⟨h.blk.out hO hR, h.rd.keep (fun _ hp => (hO.below (Nat.le_trans h.lo (Nat.le_of_lt h.blk.lt)) hB).cell hp), h.lo⟩
theorem TpAt.drew (h : TpAt w B b A n c zs i) : TpAt w.drew B b A n c zs i := h.below ((Below.refl _ _).drew)
theorem TpAt.alloc (h : TpAt w B b A n c zs i) (o : Obj) : TpAt (w.alloc o) B b A n c zs i := h.below ((Below.refl _ _).alloc (Nat.le_refl _) _)
end

theorem tnew_any (B : Nat) (A : Option Addr) (n c : Nat) (zs : List Int) (w : World) (h : Rd w B 1 A n (cellsOf icell zs)) (hB : B ≤ w.heap.size) :
    Calls Try.prog 13 #[.slice A n c] w fun e w' => e = .returned (.pointer (some ⟨w.heap.size, 0, none⟩)) ∧ TpAt w' B w.heap.size A n c zs 0 ∧ Below w.heap.size w w' ∧ w'.heap.size = w.heap.size + 1 := by
  have HR := Lib.hid h
  clear h
  go_enter Try.func13, Try.ntmps13
  go_wp2
  go_ret
  exact ⟨rfl, ⟨Blk.new w _ _, HR.out.alloc hB _, hB⟩, (Below.refl _ _).alloc (Nat.le_refl _) _, by simp⟩

theorem tmod_in (z m : Int) (h1 : 1 ≤ m) : -m < z.tmod m ∧ z.tmod m < m := by
  have h2 := Int.tmod_lt_of_pos z (show 0 < m by omega)
  refine ⟨?_, h2⟩
  have h3 := Int.tmod_lt_of_pos (-z) (show 0 < m by omega)
  rw [Int.neg_tmod] at h3
  omega

/-- what Next gives -/
def TpPost (w : World) (B b : Nat) (A : Option Addr) (n c i : Nat) (zs : List Int) (m : Int) (e : Ending) (w' : World) : Prop :=
  (∃ r : Int, e = .returned (.int .i64 r) ∧ 0 ≤ r ∧ r < m) ∧ TpAt w' B b A n c zs (i + 1) ∧ Outside (fun k => k = b) w w'

theorem tnext_any (B b : Nat) (A : Option Addr) (n c i : Nat) (zs : List Int) (m : Int) (w : World) (h : TpAt w B b A n c zs i) (_hn : n ≤ 1000000000000) (hi : i ≤ 1000000000) (h1 : 1 ≤ m) (h2 : m ≤ 1000000) :
    Calls Try.prog 21 #[.pointer (some ⟨b, 0, none⟩), .int .i64 m] w (TpPost w B b A n c i zs m) := by
  have hC := h.blk.cell
  have hf := h.blk.frozen
  have hl := h.blk.lt
  have HH := Lib.hid h
  have HK : ∀ w', w' = (w.setCell ⟨b, 1, none⟩ (.int .i64 ((i : Int) + 1))) → TpAt w' B b A n c zs (i + 1) ∧ Outside (fun k => k = b) w w' := fun w' e => by
    subst e
    exact ⟨⟨HH.out.blk.put 1 _, HH.out.rd.setCell (p := ⟨b, 1, none⟩) HH.out.lo _, HH.out.lo⟩, (Outside.refl (fun k => k = b) w).setCell (p := ⟨b, 1, none⟩) (.inl rfl) _⟩
  have HKK := Lib.hid HK
  clear HK
  by_cases hin : i < n
  · obtain ⟨zb, off, z, rfl, hzb, hz, hcz⟩ := h.rd.int hin
    have hne : zb ≠ b := by have := h.lo; omega
    have hr := tmod_in z m h1
    clear h hz
    go_enter Try.func21, Try.ntmps21
    go_wp2_with (first | ((with_reducible show wpPlan _ _ _ _ _ (Act.put _ _ _) _); simp only [List.getElem_toArray, List.getElem_cons_succ, List.getElem_cons_zero, Act.put, List.setIfInBounds_toArray, List.set_cons_zero, List.set_cons_succ]) | ((with_reducible show wpPlan _ _ _ _ _ _ _); first | refine wpPlan_nil ?_ | (refine wpPlan_read0 rfl ?hw rfl (fun _ _ _ => ?_); case hw => ((conv => (lhs; whnf)); first | done | with_reducible rfl)) | (refine wpPlan_read1d rfl ?hw rfl rfl (fun _ _ _ => ?_); case hw => ((conv => (lhs; whnf)); first | done | with_reducible rfl)) | (refine wpPlan_eff rfl ?hw (fun _ _ => ?_); case hw => ((conv => (lhs; whnf)); first | done | with_reducible rfl)) | (refine wpPlan_skip0 rfl ?hw ?_; case hw => ((conv => (lhs; whnf)); first | done | with_reducible rfl)) | (refine wpPlan_skip1d rfl ?hw ?_; case hw => ((conv => (lhs; whnf)); first | done | with_reducible rfl)) | (refine wpPlan_skip2 rfl ?hw ?_; case hw => ((conv => (lhs; whnf)); first | done | with_reducible rfl)) | (refine wpPlan_read1 rfl ?hw rfl (fun _ _ _ => ?_); case hw => ((conv => (lhs; whnf)); first | done | with_reducible rfl)) | refine wpPlan_fork ?_ ?_) | ((with_reducible show Owed _ _ _ _ _ _ _ _ _); first | refine Owed.none_ ?_ | refine Owed.nil_ ?_ | refine Owed.miss rfl ?_ | refine Owed.hit ?_ ?_) | ((with_reducible show Same _ _ _ _ _); intro _; go_simp; done) | (with_reducible exact True.intro) | ((with_reducible show Code.wp _ (Code.region 2 _ true) _ _ _); refine wp_region_plan [(0, 0, []), (1, 1, []), (2, 1, []), (3, 1, []), (4, 0, []), (5, 1, []), (6, 1, []), (7, 1, []), (8, 1, []), (9, 1, [])] (by kernel_rfl) (by kernel_rfl) (by kernel_rfl) ?_) | ((with_reducible show Code.wp _ (Code.region 3 _ true) _ _ _); refine wp_region_plan [(0, 0, []), (1, 1, []), (2, 1, []), (3, 1, []), (4, 0, []), (5, 1, []), (6, 1, []), (7, 1, []), (8, 1, []), (9, 1, []), (10, 0, [])] (by kernel_rfl) (by kernel_rfl) (by kernel_rfl) ?_))
    · go_ret
      exact ⟨⟨_, rfl, by omega, by omega⟩, (HKK.out _ rfl).1.drew.drew, (HKK.out _ rfl).2.drew.drew⟩
    · go_ret
      exact ⟨⟨_, rfl, by omega, by omega⟩, (HKK.out _ rfl).1.drew.drew, (HKK.out _ rfl).2.drew.drew⟩
  · clear h
    go_enter Try.func21, Try.ntmps21
    go_wp2_with (first | ((with_reducible show wpPlan _ _ _ _ _ (Act.put _ _ _) _); simp only [List.getElem_toArray, List.getElem_cons_succ, List.getElem_cons_zero, Act.put, List.setIfInBounds_toArray, List.set_cons_zero, List.set_cons_succ]) | ((with_reducible show wpPlan _ _ _ _ _ _ _); first | refine wpPlan_nil ?_ | (refine wpPlan_read0 rfl ?hw rfl (fun _ _ _ => ?_); case hw => ((conv => (lhs; whnf)); first | done | with_reducible rfl)) | (refine wpPlan_read1d rfl ?hw rfl rfl (fun _ _ _ => ?_); case hw => ((conv => (lhs; whnf)); first | done | with_reducible rfl)) | (refine wpPlan_eff rfl ?hw (fun _ _ => ?_); case hw => ((conv => (lhs; whnf)); first | done | with_reducible rfl)) | (refine wpPlan_skip0 rfl ?hw ?_; case hw => ((conv => (lhs; whnf)); first | done | with_reducible rfl)) | (refine wpPlan_skip1d rfl ?hw ?_; case hw => ((conv => (lhs; whnf)); first | done | with_reducible rfl)) | (refine wpPlan_skip2 rfl ?hw ?_; case hw => ((conv => (lhs; whnf)); first | done | with_reducible rfl)) | (refine wpPlan_read1 rfl ?hw rfl (fun _ _ _ => ?_); case hw => ((conv => (lhs; whnf)); first | done | with_reducible rfl)) | refine wpPlan_fork ?_ ?_) | ((with_reducible show Owed _ _ _ _ _ _ _ _ _); first | refine Owed.none_ ?_ | refine Owed.nil_ ?_ | refine Owed.miss rfl ?_ | refine Owed.hit ?_ ?_) | ((with_reducible show Same _ _ _ _ _); intro _; go_simp; done) | (with_reducible exact True.intro) | ((with_reducible show Code.wp _ (Code.region 2 _ true) _ _ _); refine wp_region_plan [(0, 0, []), (1, 1, []), (2, 1, []), (3, 1, []), (4, 0, []), (5, 1, []), (6, 1, []), (7, 1, []), (8, 1, []), (9, 1, [])] (by kernel_rfl) (by kernel_rfl) (by kernel_rfl) ?_) | ((with_reducible show Code.wp _ (Code.region 3 _ true) _ _ _); refine wp_region_plan [(0, 0, []), (1, 1, []), (2, 1, []), (3, 1, []), (4, 0, []), (5, 1, []), (6, 1, []), (7, 1, []), (8, 1, []), (9, 1, []), (10, 0, [])] (by kernel_rfl) (by kernel_rfl) (by kernel_rfl) ?_))
    go_ret
    have h5 : 0 ≤ (5 * (i : Int) + 3) % m := Int.emod_nonneg _ (by omega)
    have h6 : (5 * (i : Int) + 3) % m < m := Int.emod_lt_of_pos _ (by omega)
    exact ⟨⟨_, rfl, h5, h6⟩, (HKK.out _ rfl).1.drew, (HKK.out _ rfl).2.drew⟩

def evL : List Int := [0, 0, 2, 3, 4, 2, 3, 1, 2, 5, 1025]
theorem evL_in : ∀ x ∈ evL, 0 ≤ x ∧ x ≤ 1025 := by decide
set_option maxRecDepth 100000 in
theorem event_any (B b : Nat) (A : Option Addr) (n c i : Nat) (zs : List Int) (w : World) (h : TpAt w B b A n c zs i) (hn : n ≤ 1000000000000) (hi : i ≤ 1000000000) :
    Calls Try.prog 36 #[.pointer (some ⟨b, 0, none⟩)] w (TpPost w B b A n c i zs 1026) := by
  have HH := Lib.hid (h.alloc (.cells (cellsOf icell evL).toArray 3))
  have HN := Lib.hid (Blk.new w 3 (cellsOf icell evL).toArray)
  have HO := Lib.hid ((Outside.refl (fun k => k = b) w).alloc (.cells (cellsOf icell evL).toArray 3))
  have HL := Lib.hid h.blk.lt
  clear h
  go_enter Try.func36, Try.ntmps36
  go_wp2_with fail
  refine (tnext_any B b A n c i zs 11 _ HH.out hn hi (by decide) (by decide)).mono ?_
  rintro e w2 ⟨⟨r, rfl, hr0, hr1⟩, hT, hO⟩
  obtain ⟨k, rfl⟩ : ∃ k : Nat, r = k := ⟨r.toNat, by omega⟩
  have hN2 := HN.out.out hO (by have := HL.out; omega)
  have hx : ∃ x, w2.cell? ⟨w.heap.size, k, none⟩ = some (.int .i64 x) ∧ 0 ≤ x ∧ x ≤ 1025 := by
    have hk : k < evL.length := by show k < 11; omega
    refine ⟨evL[k], (hN2.cell k).trans ?_, evL_in _ (List.getElem_mem hk)⟩
    have := cellsOf_get icell_len evL k 0 (by decide)
    simp only [Nat.mul_one, Nat.add_zero] at this
    simp only [List.getElem?_toArray, this, List.getElem?_eq_getElem hk]
    rfl
  obtain ⟨x, hx, hx0, hx1⟩ := hx
  have hl2 : w.heap.size < w2.heap.size := hN2.lt
  have HT := Lib.hid (And.intro hT (HO.out.trans hO))
  clear hT hO hN2
  go_wp2_with fail
  go_ret
  exact ⟨⟨x, rfl, hx0, by omega⟩, HT.out⟩

end Go.Proofs.Ytmciinikfjfegaa
