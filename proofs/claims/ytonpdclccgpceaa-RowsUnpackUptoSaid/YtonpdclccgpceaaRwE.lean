/- readers of packed bytes: the reference's -/
import Derived.Test.YtonpdclccgpceaaRwD2
import Derived.Deep.DeepCutAuto
namespace Go.Proofs.Ytonpdclccgpceaa
open Go Go.RowKit
set_option maxHeartbeats 4000000

/-- a reader: it stands behind 'p' bytes of l -/
structure RfAt (w : World) (B g : Nat) (A : Option Addr) (n c : Nat) (l : List Nat) (p : Nat) (bad : Bool) : Prop where
  blk : Blk w g 95 #[.slice A n c, .int .i64 p, .bool bad]
  rd : Rd w B 1 A n (cellsOf ucell l)
  lo : B ≤ g
  le : p ≤ n
  byte : ∀ b ∈ l, b < 256
section
variable {w w' : World} {B g n c p : Nat} {A : Option Addr} {l : List Nat} {bad : Bool} {R : Nat → Prop}
theorem RfAt.out (h : RfAt w B g A n c l p bad) (hO : Outside R w w') (hR : ¬ R g) (hB : ∀ k, k < B → ¬ R k) : RfAt w' B g A n c l p bad :=
  ⟨h.blk.out hO hR, h.rd.keep (fun q hq => by
    have := h.blk.lt
    have := h.lo
    exact (hO.below (B := B) (by omega) hB).cell hq), h.lo, h.le, h.byte⟩
theorem RfAt.below (h : RfAt w B g A n c l p bad) (hb : Below w.heap.size w w') : RfAt w' B g A n c l p bad :=
  h.out (Below.new hb) (fun h => h) (fun _ _ h => h)
theorem RfAt.alloc (h : RfAt w B g A n c l p bad) (o : Obj) : RfAt (w.alloc o) B g A n c l p bad := h.below ((Below.refl _ _).alloc (Nat.le_refl _) _)
theorem RfAt.drew (h : RfAt w B g A n c l p bad) : RfAt w.drew B g A n c l p bad := h.below (Below.refl _ _).drew
theorem RfAt.len (h : RfAt w B g A n c l p bad) : l.length = n := h.rd.len ucell_len (by decide)
theorem RfAt.step {p' : Nat} {bad' : Bool} (h : RfAt w B g A n c l p bad) (hb : Blk w' g 95 #[.slice A n c, .int .i64 p', .bool bad']) (hO : Outside (fun k => k = g) w w') (hp : p' ≤ n) : RfAt w' B g A n c l p' bad' :=
  ⟨hb, h.rd.keep (fun q hq => by
    have := h.blk.lt
    have := h.lo
    exact (hO.below (B := B) (by omega) (fun k hk e => by omega)).cell hq), h.lo, hp, h.byte⟩
theorem RfAt.put1 (h : RfAt w B g A n c l p bad) {p' : Nat} (hp : p' ≤ n) (x : Int) (hx : x = p') : RfAt (w.setCell ⟨g, 1, none⟩ (.int .i64 x)) B g A n c l p' bad := by
  subst hx
  exact h.step (by simpa using h.blk.put 1 (.int .i64 p')) ((Outside.refl (fun k => k = g) _).setCell (p := ⟨g, 1, none⟩) (.inl rfl) _) hp
theorem RfAt.put2 (h : RfAt w B g A n c l p bad) (bad' : Bool) : RfAt (w.setCell ⟨g, 2, none⟩ (.bool bad')) B g A n c l p bad' :=
  h.step (by simpa using h.blk.put 2 (.bool bad')) ((Outside.refl (fun k => k = g) _).setCell (p := ⟨g, 2, none⟩) (.inl rfl) _) h.le
end


/-- what the reference's Uvarint gives -/
def RvPost (w : World) (B g : Nat) (A : Option Addr) (n c : Nat) (l : List Nat) (p : Nat) (bad : Bool) (e : Ending) (w' : World) : Prop :=
  ∃ (v p' : Nat) (bad' : Bool), e = .returned (.int .i64 v) ∧ v < 34359738368 ∧ RfAt w' B g A n c l p' bad' ∧ Outside (fun k => k = g) w w' ∧ p ≤ p' ∧ (bad = true → bad' = true) ∧ (bad' = false → p < p') ∧
    (∀ k rest, bad = false → l.drop p = uv k ++ rest → k < 34359738368 → v = k ∧ p' = p + (uv k).length ∧ bad' = false)
theorem pow5 (k : Nat) (hk : k ≤ 5) : (128 : Nat) ^ k ≤ 34359738368 := Nat.le_trans (Nat.pow_le_pow_right (by decide) hk) (by decide)
set_option maxRecDepth 100000 in
theorem rfuv_any (B g : Nat) (A : Option Addr) (n c p : Nat) (l : List Nat) (bad : Bool) (w : World) (h : RfAt w B g A n c l p bad) (hn : n ≤ 1000000000) :
    Calls Try.prog 81 #[.pointer (some ⟨g, 0, none⟩)] w (RvPost w B g A n c l p bad) := by
  have H := Lib.hid h
  cases bad
  · clear h
    go_enter Try.func81, Try.ntmps81
    go_wp2
    go_loopw [3, 4, 5] (fun va vu vk wr => ∃ (k acc u q : Nat), k ≤ 5 ∧ vk = .int .i64 k ∧ va = .int .i64 acc ∧ vu = .int .i64 u ∧ p ≤ q ∧ acc < 34359738368 ∧ 1 ≤ u ∧ u ≤ 34359738368 ∧
      Hid (RfAt wr B g A n c l q false ∧ Outside (fun k => k = g) w wr ∧ u = 128 ^ k ∧ acc < 128 ^ k ∧ (k = 0 → q = p) ∧ ∀ m rest, l.drop p = uv m ++ rest → m < 34359738368 → ∃ m', l.drop q = uv m' ++ rest ∧ m = acc + m' * 128 ^ k ∧ p + (uv m).length = q + (uv m').length ∧ (k = 0 ∨ 0 < m'))) (fun _ _ vk _ => 5 - (intOf vk).toNat)
    case atStart => exact ⟨0, 0, 1, p, by decide, rfl, rfl, rfl, Nat.le_refl _, by decide, by decide, by decide, Lib.hid ⟨H.out, Outside.refl _ _, by decide, by decide, fun _ => rfl, fun m rest h1 _ => ⟨m, h1, by omega, rfl, .inl rfl⟩⟩⟩
    case round =>
      obtain ⟨k, acc, u, q, hk, rfl, rfl, rfl, hpq, hacc, hu1, hu2, HW⟩ := hrel
      have h1c := HW.out.1.blk.cell
      have h1l := HW.out.1.blk.lt
      have h1f := HW.out.1.blk.frozen
      by_cases hlt : k < 5
      · by_cases hqn : q < n
        · obtain ⟨b, o, x, rfl, hb, hxq, hcell⟩ := HW.out.1.rd.ubyte hqn
          have hx := HW.out.1.byte x (List.mem_of_getElem? hxq)
          have HXQ := Lib.hid hxq
          have hne : b ≠ g := by have := HW.out.1.lo; omega
          have e2 := HW.out.2.2.1
          have hdl := dig_lt x k (by omega)
          have ha0 := HW.out.2.2.2.1
          have hp1 := pow5 (k + 1) (by omega)
          have hpl := pow5 k (by omega)
          have hmx : x % 128 * u ≤ 127 * 34359738368 := Nat.mul_le_mul (by omega) hu2
          rw [← e2] at hdl ha0
          have ha1 : acc + x % 128 * u < 128 ^ (k + 1) := by omega
          have hV : wrap64 ((acc : Int) + wrap64 ((x : Int) % 128 * u)) = ((acc + x % 128 * u : Nat) : Int) := by
            have e3 : (x : Int) % 128 * u = ((x % 128 * u : Nat) : Int) := by rw [Int.natCast_mul, Int.natCast_emod]; rfl
            rw [e3, wrap64_id (z := ((x % 128 * u : Nat) : Int)) (by omega), wrap64_id (by omega)]
            omega
          obtain ⟨a1, hae⟩ : ∃ a1, acc + x % 128 * u = a1 := ⟨_, rfl⟩
          rw [hae] at hV ha1
          have hlt1 : a1 < 34359738368 := Nat.lt_of_lt_of_le ha1 hp1
          have hu3 : u * 128 ≤ 34359738368 := by
            have h5 := hp1
            rw [Nat.pow_succ] at h5
            omega
          have HA1 := Lib.hid ha1
          have HAE := Lib.hid hae
          have HR1 := Lib.hid (HW.out.1.put1 (p' := q + 1) (by omega) ((q : Int) + 1) (by omega))
          have HO1 := Lib.hid (HW.out.2.1.setCell (p := ⟨g, 1, none⟩) (.inl rfl) (.int .i64 ((q : Int) + 1)))
          have r1c := HR1.out.blk.cell
          have r1l := HR1.out.blk.lt
          have r1f := HR1.out.blk.frozen
          clear hxq e2 hdl ha0 hp1 hpl hmx ha1 hae
          go_upto_region 12 with (first | ((with_reducible show wpPlan _ _ _ [] _ _ _); refine wpPlan_nil ?_) | ((with_reducible show wpPlan _ _ _ ((_, 0, _) :: _) _ _ _); first | (refine wpPlan_read0 rfl ?hw rfl (fun _ _ _ => ?_); case hw => ((conv => (lhs; whnf)); first | done | with_reducible rfl)) | (refine wpPlan_skip0 rfl ?hw ?_; (case hw => ((conv => (lhs; whnf)); first | done | with_reducible rfl)); (try simp only [List.getElem_toArray, List.getElem_cons_succ, List.getElem_cons_zero, Act.put, List.setIfInBounds_toArray, List.set_cons_zero, List.set_cons_succ]))) | ((with_reducible show wpPlan _ _ _ ((_, 1, _) :: _) _ _ _); first | (refine wpPlan_read1d rfl ?hw rfl rfl (fun _ _ _ => ?_); case hw => ((conv => (lhs; whnf)); first | done | with_reducible rfl)) | (refine wpPlan_skip1d rfl ?hw ?_; (case hw => ((conv => (lhs; whnf)); first | done | with_reducible rfl)); (try simp only [List.getElem_toArray, List.getElem_cons_succ, List.getElem_cons_zero, Act.put, List.setIfInBounds_toArray, List.set_cons_zero, List.set_cons_succ])) | (refine wpPlan_read1 rfl ?hw rfl (fun _ _ _ => ?_); case hw => ((conv => (lhs; whnf)); first | done | with_reducible rfl))) | ((with_reducible show wpPlan _ _ _ ((_, 2, _) :: _) _ _ _); first | (refine wpPlan_eff rfl ?hw (fun _ _ => ?_); case hw => ((conv => (lhs; whnf)); first | done | with_reducible rfl)) | (refine wpPlan_skip2 rfl ?hw ?_; (case hw => ((conv => (lhs; whnf)); first | done | with_reducible rfl)); (try simp only [List.getElem_toArray, List.getElem_cons_succ, List.getElem_cons_zero, Act.put, List.setIfInBounds_toArray, List.set_cons_zero, List.set_cons_succ]))) | ((with_reducible show wpPlan _ _ _ _ _ _ _); refine wpPlan_fork ?_ ?_) | ((with_reducible show Owed _ _ _ [] _ _ _ _ _); refine Owed.none_ ?_) | ((with_reducible show Owed _ _ _ _ [] _ _ _ _); refine Owed.nil_ ?_) | ((with_reducible show Owed _ _ _ _ _ _ _ _ _); first | (refine Owed.miss rfl ?_) | (refine Owed.hit ?_ ?_)) | ((with_reducible show Same _ _ _ _ _); intro _; go_simp; done) | (with_reducible exact True.intro) | ((with_reducible show Code.wp _ (Code.region 5 _ true) _ _ _); refine wp_region_plan [(0, 0, []), (1, 1, []), (2, 1, []), (3, 1, []), (4, 0, []), (5, 1, []), (6, 1, []), (7, 1, []), (8, 1, []), (9, 1, [])] (by kernel_rfl) (by kernel_rfl) (by kernel_rfl) ?_) | ((with_reducible show Code.wp _ (Code.region 8 _ true) _ _ _); refine wp_region_plan [(0, 0, []), (1, 1, []), (2, 1, []), (3, 1, []), (4, 0, []), (5, 1, []), (6, 1, []), (7, 1, []), (8, 1, []), (9, 1, []), (10, 1, []), (11, 0, [])] (by kernel_rfl) (by kernel_rfl) (by kernel_rfl) ?_))
          rw [hV]
          clear hV
          by_cases hx128 : x < 128
          · have HEX := Lib.hid (show ∀ m rest, l.drop p = uv m ++ rest → m < 34359738368 → a1 = m ∧ q + 1 = p + (uv m).length ∧ (0 < k → 0 < x) from fun m rest h1 h2 => by
              obtain ⟨m', h3, h4, h5, h6⟩ := HW.out.2.2.2.2.2 m rest h1 h2
              obtain ⟨h7, h8, _⟩ := (uv_head h3 HXQ.out).1 hx128
              subst h7
              have h9 : m' % 128 = m' := by omega
              have h10 := HAE.out
              rw [h9, HW.out.2.2.1] at h10
              exact ⟨by omega, by omega, fun h => by omega⟩)
            rcases Nat.eq_zero_or_pos x with hx0 | hx0
            · rcases Nat.eq_zero_or_pos k with hk0 | hk0
              · subst hx0 hk0
                have HB := Lib.hid (HR1.out.drew.drew.put2 false)
                have HO2 := Lib.hid (HO1.out.drew.drew.setCell (p := ⟨g, 2, none⟩) (.inl rfl) (.bool false))
                go_wp2_with (first | ((with_reducible show wpPlan _ _ _ [] _ _ _); refine wpPlan_nil ?_) | ((with_reducible show wpPlan _ _ _ ((_, 0, _) :: _) _ _ _); first | (refine wpPlan_read0 rfl ?hw rfl (fun _ _ _ => ?_); case hw => ((conv => (lhs; whnf)); first | done | with_reducible rfl)) | (refine wpPlan_skip0 rfl ?hw ?_; (case hw => ((conv => (lhs; whnf)); first | done | with_reducible rfl)); (try simp only [List.getElem_toArray, List.getElem_cons_succ, List.getElem_cons_zero, Act.put, List.setIfInBounds_toArray, List.set_cons_zero, List.set_cons_succ]))) | ((with_reducible show wpPlan _ _ _ ((_, 1, _) :: _) _ _ _); first | (refine wpPlan_read1d rfl ?hw rfl rfl (fun _ _ _ => ?_); case hw => ((conv => (lhs; whnf)); first | done | with_reducible rfl)) | (refine wpPlan_skip1d rfl ?hw ?_; (case hw => ((conv => (lhs; whnf)); first | done | with_reducible rfl)); (try simp only [List.getElem_toArray, List.getElem_cons_succ, List.getElem_cons_zero, Act.put, List.setIfInBounds_toArray, List.set_cons_zero, List.set_cons_succ])) | (refine wpPlan_read1 rfl ?hw rfl (fun _ _ _ => ?_); case hw => ((conv => (lhs; whnf)); first | done | with_reducible rfl))) | ((with_reducible show wpPlan _ _ _ ((_, 2, _) :: _) _ _ _); first | (refine wpPlan_eff rfl ?hw (fun _ _ => ?_); case hw => ((conv => (lhs; whnf)); first | done | with_reducible rfl)) | (refine wpPlan_skip2 rfl ?hw ?_; (case hw => ((conv => (lhs; whnf)); first | done | with_reducible rfl)); (try simp only [List.getElem_toArray, List.getElem_cons_succ, List.getElem_cons_zero, Act.put, List.setIfInBounds_toArray, List.set_cons_zero, List.set_cons_succ]))) | ((with_reducible show wpPlan _ _ _ _ _ _ _); refine wpPlan_fork ?_ ?_) | ((with_reducible show Owed _ _ _ [] _ _ _ _ _); refine Owed.none_ ?_) | ((with_reducible show Owed _ _ _ _ [] _ _ _ _); refine Owed.nil_ ?_) | ((with_reducible show Owed _ _ _ _ _ _ _ _ _); first | (refine Owed.miss rfl ?_) | (refine Owed.hit ?_ ?_)) | ((with_reducible show Same _ _ _ _ _); intro _; go_simp; done) | (with_reducible exact True.intro) | ((with_reducible show Code.wp _ (Code.region 5 _ true) _ _ _); refine wp_region_plan [(0, 0, []), (1, 1, []), (2, 1, []), (3, 1, []), (4, 0, []), (5, 1, []), (6, 1, []), (7, 1, []), (8, 1, []), (9, 1, [])] (by kernel_rfl) (by kernel_rfl) (by kernel_rfl) ?_) | ((with_reducible show Code.wp _ (Code.region 8 _ true) _ _ _); refine wp_region_plan [(0, 0, []), (1, 1, []), (2, 1, []), (3, 1, []), (4, 0, []), (5, 1, []), (6, 1, []), (7, 1, []), (8, 1, []), (9, 1, []), (10, 1, []), (11, 0, [])] (by kernel_rfl) (by kernel_rfl) (by kernel_rfl) ?_))
                go_ret
                exact ⟨a1, q + 1, false, rfl, hlt1, HB.out, HO2.out, by omega, fun h => h, fun _ => by omega, fun m rest _ h1 h2 => ⟨(HEX.out m rest h1 h2).1, (HEX.out m rest h1 h2).2.1, rfl⟩⟩
              · subst hx0
                have HB := Lib.hid (HR1.out.drew.drew.put2 true)
                have HO2 := Lib.hid (HO1.out.drew.drew.setCell (p := ⟨g, 2, none⟩) (.inl rfl) (.bool true))
                go_wp2_with (first | ((with_reducible show wpPlan _ _ _ [] _ _ _); refine wpPlan_nil ?_) | ((with_reducible show wpPlan _ _ _ ((_, 0, _) :: _) _ _ _); first | (refine wpPlan_read0 rfl ?hw rfl (fun _ _ _ => ?_); case hw => ((conv => (lhs; whnf)); first | done | with_reducible rfl)) | (refine wpPlan_skip0 rfl ?hw ?_; (case hw => ((conv => (lhs; whnf)); first | done | with_reducible rfl)); (try simp only [List.getElem_toArray, List.getElem_cons_succ, List.getElem_cons_zero, Act.put, List.setIfInBounds_toArray, List.set_cons_zero, List.set_cons_succ]))) | ((with_reducible show wpPlan _ _ _ ((_, 1, _) :: _) _ _ _); first | (refine wpPlan_read1d rfl ?hw rfl rfl (fun _ _ _ => ?_); case hw => ((conv => (lhs; whnf)); first | done | with_reducible rfl)) | (refine wpPlan_skip1d rfl ?hw ?_; (case hw => ((conv => (lhs; whnf)); first | done | with_reducible rfl)); (try simp only [List.getElem_toArray, List.getElem_cons_succ, List.getElem_cons_zero, Act.put, List.setIfInBounds_toArray, List.set_cons_zero, List.set_cons_succ])) | (refine wpPlan_read1 rfl ?hw rfl (fun _ _ _ => ?_); case hw => ((conv => (lhs; whnf)); first | done | with_reducible rfl))) | ((with_reducible show wpPlan _ _ _ ((_, 2, _) :: _) _ _ _); first | (refine wpPlan_eff rfl ?hw (fun _ _ => ?_); case hw => ((conv => (lhs; whnf)); first | done | with_reducible rfl)) | (refine wpPlan_skip2 rfl ?hw ?_; (case hw => ((conv => (lhs; whnf)); first | done | with_reducible rfl)); (try simp only [List.getElem_toArray, List.getElem_cons_succ, List.getElem_cons_zero, Act.put, List.setIfInBounds_toArray, List.set_cons_zero, List.set_cons_succ]))) | ((with_reducible show wpPlan _ _ _ _ _ _ _); refine wpPlan_fork ?_ ?_) | ((with_reducible show Owed _ _ _ [] _ _ _ _ _); refine Owed.none_ ?_) | ((with_reducible show Owed _ _ _ _ [] _ _ _ _); refine Owed.nil_ ?_) | ((with_reducible show Owed _ _ _ _ _ _ _ _ _); first | (refine Owed.miss rfl ?_) | (refine Owed.hit ?_ ?_)) | ((with_reducible show Same _ _ _ _ _); intro _; go_simp; done) | (with_reducible exact True.intro) | ((with_reducible show Code.wp _ (Code.region 5 _ true) _ _ _); refine wp_region_plan [(0, 0, []), (1, 1, []), (2, 1, []), (3, 1, []), (4, 0, []), (5, 1, []), (6, 1, []), (7, 1, []), (8, 1, []), (9, 1, [])] (by kernel_rfl) (by kernel_rfl) (by kernel_rfl) ?_) | ((with_reducible show Code.wp _ (Code.region 8 _ true) _ _ _); refine wp_region_plan [(0, 0, []), (1, 1, []), (2, 1, []), (3, 1, []), (4, 0, []), (5, 1, []), (6, 1, []), (7, 1, []), (8, 1, []), (9, 1, []), (10, 1, []), (11, 0, [])] (by kernel_rfl) (by kernel_rfl) (by kernel_rfl) ?_))
                go_ret
                exact ⟨a1, q + 1, true, rfl, hlt1, HB.out, HO2.out, by omega, fun _ => rfl, fun h => (by cases h), fun m rest _ h1 h2 => absurd ((HEX.out m rest h1 h2).2.2 hk0) (by omega)⟩
            · skip
              have HB := Lib.hid (HR1.out.drew.drew.put2 false)
              have HO2 := Lib.hid (HO1.out.drew.drew.setCell (p := ⟨g, 2, none⟩) (.inl rfl) (.bool false))
              go_wp2_with (first | ((with_reducible show wpPlan _ _ _ [] _ _ _); refine wpPlan_nil ?_) | ((with_reducible show wpPlan _ _ _ ((_, 0, _) :: _) _ _ _); first | (refine wpPlan_read0 rfl ?hw rfl (fun _ _ _ => ?_); case hw => ((conv => (lhs; whnf)); first | done | with_reducible rfl)) | (refine wpPlan_skip0 rfl ?hw ?_; (case hw => ((conv => (lhs; whnf)); first | done | with_reducible rfl)); (try simp only [List.getElem_toArray, List.getElem_cons_succ, List.getElem_cons_zero, Act.put, List.setIfInBounds_toArray, List.set_cons_zero, List.set_cons_succ]))) | ((with_reducible show wpPlan _ _ _ ((_, 1, _) :: _) _ _ _); first | (refine wpPlan_read1d rfl ?hw rfl rfl (fun _ _ _ => ?_); case hw => ((conv => (lhs; whnf)); first | done | with_reducible rfl)) | (refine wpPlan_skip1d rfl ?hw ?_; (case hw => ((conv => (lhs; whnf)); first | done | with_reducible rfl)); (try simp only [List.getElem_toArray, List.getElem_cons_succ, List.getElem_cons_zero, Act.put, List.setIfInBounds_toArray, List.set_cons_zero, List.set_cons_succ])) | (refine wpPlan_read1 rfl ?hw rfl (fun _ _ _ => ?_); case hw => ((conv => (lhs; whnf)); first | done | with_reducible rfl))) | ((with_reducible show wpPlan _ _ _ ((_, 2, _) :: _) _ _ _); first | (refine wpPlan_eff rfl ?hw (fun _ _ => ?_); case hw => ((conv => (lhs; whnf)); first | done | with_reducible rfl)) | (refine wpPlan_skip2 rfl ?hw ?_; (case hw => ((conv => (lhs; whnf)); first | done | with_reducible rfl)); (try simp only [List.getElem_toArray, List.getElem_cons_succ, List.getElem_cons_zero, Act.put, List.setIfInBounds_toArray, List.set_cons_zero, List.set_cons_succ]))) | ((with_reducible show wpPlan _ _ _ _ _ _ _); refine wpPlan_fork ?_ ?_) | ((with_reducible show Owed _ _ _ [] _ _ _ _ _); refine Owed.none_ ?_) | ((with_reducible show Owed _ _ _ _ [] _ _ _ _); refine Owed.nil_ ?_) | ((with_reducible show Owed _ _ _ _ _ _ _ _ _); first | (refine Owed.miss rfl ?_) | (refine Owed.hit ?_ ?_)) | ((with_reducible show Same _ _ _ _ _); intro _; go_simp; done) | (with_reducible exact True.intro) | ((with_reducible show Code.wp _ (Code.region 5 _ true) _ _ _); refine wp_region_plan [(0, 0, []), (1, 1, []), (2, 1, []), (3, 1, []), (4, 0, []), (5, 1, []), (6, 1, []), (7, 1, []), (8, 1, []), (9, 1, [])] (by kernel_rfl) (by kernel_rfl) (by kernel_rfl) ?_) | ((with_reducible show Code.wp _ (Code.region 8 _ true) _ _ _); refine wp_region_plan [(0, 0, []), (1, 1, []), (2, 1, []), (3, 1, []), (4, 0, []), (5, 1, []), (6, 1, []), (7, 1, []), (8, 1, []), (9, 1, []), (10, 1, []), (11, 0, [])] (by kernel_rfl) (by kernel_rfl) (by kernel_rfl) ?_))
              go_ret
              exact ⟨a1, q + 1, false, rfl, hlt1, HB.out, HO2.out, by omega, fun h => h, fun _ => by omega, fun m rest _ h1 h2 => ⟨(HEX.out m rest h1 h2).1, (HEX.out m rest h1 h2).2.1, rfl⟩⟩
          · have HEX := Lib.hid (show ∀ m rest, l.drop p = uv m ++ rest → m < 34359738368 → ∃ m', l.drop (q + 1) = uv m' ++ rest ∧ m = a1 + m' * 128 ^ (k + 1) ∧ p + (uv m).length = q + 1 + (uv m').length ∧ (k + 1 = 0 ∨ 0 < m') from fun m rest h1 h2 => by
              obtain ⟨m', h3, h4, h5, h6⟩ := HW.out.2.2.2.2.2 m rest h1 h2
              obtain ⟨h7, h8, h9, h10⟩ := (uv_head h3 HXQ.out).2 (by omega)
              refine ⟨m' / 128, h8, ?_, by omega, .inr (by omega)⟩
              have e1 : x % 128 = m' % 128 := by omega
              have e2 : m' = m' % 128 + m' / 128 * 128 := by omega
              have h11 := HAE.out
              rw [e1, HW.out.2.2.1] at h11
              rw [h4, Nat.pow_succ, ← h11, Nat.mul_comm (128 ^ k) 128, ← Nat.mul_assoc, Nat.add_assoc, ← Nat.add_mul, ← e2])
            have HU := Lib.hid (show u * 128 = 128 ^ (k + 1) by rw [HW.out.2.2.1, Nat.pow_succ])
            go_wp2_with (first | ((with_reducible show wpPlan _ _ _ [] _ _ _); refine wpPlan_nil ?_) | ((with_reducible show wpPlan _ _ _ ((_, 0, _) :: _) _ _ _); first | (refine wpPlan_read0 rfl ?hw rfl (fun _ _ _ => ?_); case hw => ((conv => (lhs; whnf)); first | done | with_reducible rfl)) | (refine wpPlan_skip0 rfl ?hw ?_; (case hw => ((conv => (lhs; whnf)); first | done | with_reducible rfl)); (try simp only [List.getElem_toArray, List.getElem_cons_succ, List.getElem_cons_zero, Act.put, List.setIfInBounds_toArray, List.set_cons_zero, List.set_cons_succ]))) | ((with_reducible show wpPlan _ _ _ ((_, 1, _) :: _) _ _ _); first | (refine wpPlan_read1d rfl ?hw rfl rfl (fun _ _ _ => ?_); case hw => ((conv => (lhs; whnf)); first | done | with_reducible rfl)) | (refine wpPlan_skip1d rfl ?hw ?_; (case hw => ((conv => (lhs; whnf)); first | done | with_reducible rfl)); (try simp only [List.getElem_toArray, List.getElem_cons_succ, List.getElem_cons_zero, Act.put, List.setIfInBounds_toArray, List.set_cons_zero, List.set_cons_succ])) | (refine wpPlan_read1 rfl ?hw rfl (fun _ _ _ => ?_); case hw => ((conv => (lhs; whnf)); first | done | with_reducible rfl))) | ((with_reducible show wpPlan _ _ _ ((_, 2, _) :: _) _ _ _); first | (refine wpPlan_eff rfl ?hw (fun _ _ => ?_); case hw => ((conv => (lhs; whnf)); first | done | with_reducible rfl)) | (refine wpPlan_skip2 rfl ?hw ?_; (case hw => ((conv => (lhs; whnf)); first | done | with_reducible rfl)); (try simp only [List.getElem_toArray, List.getElem_cons_succ, List.getElem_cons_zero, Act.put, List.setIfInBounds_toArray, List.set_cons_zero, List.set_cons_succ]))) | ((with_reducible show wpPlan _ _ _ _ _ _ _); refine wpPlan_fork ?_ ?_) | ((with_reducible show Owed _ _ _ [] _ _ _ _ _); refine Owed.none_ ?_) | ((with_reducible show Owed _ _ _ _ [] _ _ _ _); refine Owed.nil_ ?_) | ((with_reducible show Owed _ _ _ _ _ _ _ _ _); first | (refine Owed.miss rfl ?_) | (refine Owed.hit ?_ ?_)) | ((with_reducible show Same _ _ _ _ _); intro _; go_simp; done) | (with_reducible exact True.intro) | ((with_reducible show Code.wp _ (Code.region 5 _ true) _ _ _); refine wp_region_plan [(0, 0, []), (1, 1, []), (2, 1, []), (3, 1, []), (4, 0, []), (5, 1, []), (6, 1, []), (7, 1, []), (8, 1, []), (9, 1, [])] (by kernel_rfl) (by kernel_rfl) (by kernel_rfl) ?_) | ((with_reducible show Code.wp _ (Code.region 8 _ true) _ _ _); refine wp_region_plan [(0, 0, []), (1, 1, []), (2, 1, []), (3, 1, []), (4, 0, []), (5, 1, []), (6, 1, []), (7, 1, []), (8, 1, []), (9, 1, []), (10, 1, []), (11, 0, [])] (by kernel_rfl) (by kernel_rfl) (by kernel_rfl) ?_))
            go_roundw
            case rel => exact ⟨k + 1, a1, u * 128, q + 1, by omega, by go_num, rfl, by go_num, by omega, hlt1, by omega, hu3, Lib.hid ⟨HR1.out.drew.drew, HO1.out.drew.drew, HU.out, HA1.out, fun h => by omega, HEX.out⟩⟩
            case measure => simp [intOf]; omega
        · have HEX := Lib.hid (show ∀ m rest, l.drop p = uv m ++ rest → m < 34359738368 → False from fun m rest h1 h2 => by
            obtain ⟨m', h3, _⟩ := HW.out.2.2.2.2.2 m rest h1 h2
            obtain ⟨y, r, h4⟩ := uv_ne m'
            have h5 := h3
            rw [h4] at h5
            have h6 := (drop_get (r := r ++ rest) h5).1
            exact hqn (by rw [← HW.out.1.len]; exact (List.getElem?_eq_some_iff.1 h6).1))
          have hqn2 : n ≤ q := by omega
          have HB := Lib.hid (HW.out.1.drew.put2 true)
          have HO2 := Lib.hid (HW.out.2.1.drew.setCell (p := ⟨g, 2, none⟩) (.inl rfl) (.bool true))
          go_wp2_with (first | ((with_reducible show wpPlan _ _ _ [] _ _ _); refine wpPlan_nil ?_) | ((with_reducible show wpPlan _ _ _ ((_, 0, _) :: _) _ _ _); first | (refine wpPlan_read0 rfl ?hw rfl (fun _ _ _ => ?_); case hw => ((conv => (lhs; whnf)); first | done | with_reducible rfl)) | (refine wpPlan_skip0 rfl ?hw ?_; (case hw => ((conv => (lhs; whnf)); first | done | with_reducible rfl)); (try simp only [List.getElem_toArray, List.getElem_cons_succ, List.getElem_cons_zero, Act.put, List.setIfInBounds_toArray, List.set_cons_zero, List.set_cons_succ]))) | ((with_reducible show wpPlan _ _ _ ((_, 1, _) :: _) _ _ _); first | (refine wpPlan_read1d rfl ?hw rfl rfl (fun _ _ _ => ?_); case hw => ((conv => (lhs; whnf)); first | done | with_reducible rfl)) | (refine wpPlan_skip1d rfl ?hw ?_; (case hw => ((conv => (lhs; whnf)); first | done | with_reducible rfl)); (try simp only [List.getElem_toArray, List.getElem_cons_succ, List.getElem_cons_zero, Act.put, List.setIfInBounds_toArray, List.set_cons_zero, List.set_cons_succ])) | (refine wpPlan_read1 rfl ?hw rfl (fun _ _ _ => ?_); case hw => ((conv => (lhs; whnf)); first | done | with_reducible rfl))) | ((with_reducible show wpPlan _ _ _ ((_, 2, _) :: _) _ _ _); first | (refine wpPlan_eff rfl ?hw (fun _ _ => ?_); case hw => ((conv => (lhs; whnf)); first | done | with_reducible rfl)) | (refine wpPlan_skip2 rfl ?hw ?_; (case hw => ((conv => (lhs; whnf)); first | done | with_reducible rfl)); (try simp only [List.getElem_toArray, List.getElem_cons_succ, List.getElem_cons_zero, Act.put, List.setIfInBounds_toArray, List.set_cons_zero, List.set_cons_succ]))) | ((with_reducible show wpPlan _ _ _ _ _ _ _); refine wpPlan_fork ?_ ?_) | ((with_reducible show Owed _ _ _ [] _ _ _ _ _); refine Owed.none_ ?_) | ((with_reducible show Owed _ _ _ _ [] _ _ _ _); refine Owed.nil_ ?_) | ((with_reducible show Owed _ _ _ _ _ _ _ _ _); first | (refine Owed.miss rfl ?_) | (refine Owed.hit ?_ ?_)) | ((with_reducible show Same _ _ _ _ _); intro _; go_simp; done) | (with_reducible exact True.intro) | ((with_reducible show Code.wp _ (Code.region 5 _ true) _ _ _); refine wp_region_plan [(0, 0, []), (1, 1, []), (2, 1, []), (3, 1, []), (4, 0, []), (5, 1, []), (6, 1, []), (7, 1, []), (8, 1, []), (9, 1, [])] (by kernel_rfl) (by kernel_rfl) (by kernel_rfl) ?_) | ((with_reducible show Code.wp _ (Code.region 8 _ true) _ _ _); refine wp_region_plan [(0, 0, []), (1, 1, []), (2, 1, []), (3, 1, []), (4, 0, []), (5, 1, []), (6, 1, []), (7, 1, []), (8, 1, []), (9, 1, []), (10, 1, []), (11, 0, [])] (by kernel_rfl) (by kernel_rfl) (by kernel_rfl) ?_))
          go_ret
          exact ⟨0, q, true, rfl, by decide, HB.out, HO2.out, hpq, fun _ => rfl, fun h => (by cases h), fun m rest _ h1 h2 => (HEX.out m rest h1 h2).elim⟩
      · have hk5 : k = 5 := by omega
        subst hk5
        have HB := Lib.hid (HW.out.1.put2 true)
        have HO2 := Lib.hid (HW.out.2.1.setCell (p := ⟨g, 2, none⟩) (.inl rfl) (.bool true))
        have HEX := Lib.hid (show ∀ m rest, l.drop p = uv m ++ rest → m < 34359738368 → False from fun m rest h1 h2 => by
          obtain ⟨m', _, h4, _, h6⟩ := HW.out.2.2.2.2.2 m rest h1 h2
          have e6 : (128 : Nat) ^ 5 = 34359738368 := by decide
          rw [e6] at h4
          omega)
        go_wp2_with (first | ((with_reducible show wpPlan _ _ _ [] _ _ _); refine wpPlan_nil ?_) | ((with_reducible show wpPlan _ _ _ ((_, 0, _) :: _) _ _ _); first | (refine wpPlan_read0 rfl ?hw rfl (fun _ _ _ => ?_); case hw => ((conv => (lhs; whnf)); first | done | with_reducible rfl)) | (refine wpPlan_skip0 rfl ?hw ?_; (case hw => ((conv => (lhs; whnf)); first | done | with_reducible rfl)); (try simp only [List.getElem_toArray, List.getElem_cons_succ, List.getElem_cons_zero, Act.put, List.setIfInBounds_toArray, List.set_cons_zero, List.set_cons_succ]))) | ((with_reducible show wpPlan _ _ _ ((_, 1, _) :: _) _ _ _); first | (refine wpPlan_read1d rfl ?hw rfl rfl (fun _ _ _ => ?_); case hw => ((conv => (lhs; whnf)); first | done | with_reducible rfl)) | (refine wpPlan_skip1d rfl ?hw ?_; (case hw => ((conv => (lhs; whnf)); first | done | with_reducible rfl)); (try simp only [List.getElem_toArray, List.getElem_cons_succ, List.getElem_cons_zero, Act.put, List.setIfInBounds_toArray, List.set_cons_zero, List.set_cons_succ])) | (refine wpPlan_read1 rfl ?hw rfl (fun _ _ _ => ?_); case hw => ((conv => (lhs; whnf)); first | done | with_reducible rfl))) | ((with_reducible show wpPlan _ _ _ ((_, 2, _) :: _) _ _ _); first | (refine wpPlan_eff rfl ?hw (fun _ _ => ?_); case hw => ((conv => (lhs; whnf)); first | done | with_reducible rfl)) | (refine wpPlan_skip2 rfl ?hw ?_; (case hw => ((conv => (lhs; whnf)); first | done | with_reducible rfl)); (try simp only [List.getElem_toArray, List.getElem_cons_succ, List.getElem_cons_zero, Act.put, List.setIfInBounds_toArray, List.set_cons_zero, List.set_cons_succ]))) | ((with_reducible show wpPlan _ _ _ _ _ _ _); refine wpPlan_fork ?_ ?_) | ((with_reducible show Owed _ _ _ [] _ _ _ _ _); refine Owed.none_ ?_) | ((with_reducible show Owed _ _ _ _ [] _ _ _ _); refine Owed.nil_ ?_) | ((with_reducible show Owed _ _ _ _ _ _ _ _ _); first | (refine Owed.miss rfl ?_) | (refine Owed.hit ?_ ?_)) | ((with_reducible show Same _ _ _ _ _); intro _; go_simp; done) | (with_reducible exact True.intro) | ((with_reducible show Code.wp _ (Code.region 5 _ true) _ _ _); refine wp_region_plan [(0, 0, []), (1, 1, []), (2, 1, []), (3, 1, []), (4, 0, []), (5, 1, []), (6, 1, []), (7, 1, []), (8, 1, []), (9, 1, [])] (by kernel_rfl) (by kernel_rfl) (by kernel_rfl) ?_) | ((with_reducible show Code.wp _ (Code.region 8 _ true) _ _ _); refine wp_region_plan [(0, 0, []), (1, 1, []), (2, 1, []), (3, 1, []), (4, 0, []), (5, 1, []), (6, 1, []), (7, 1, []), (8, 1, []), (9, 1, []), (10, 1, []), (11, 0, [])] (by kernel_rfl) (by kernel_rfl) (by kernel_rfl) ?_))
        go_ret
        exact ⟨0, q, true, rfl, by decide, HB.out, HO2.out, hpq, fun _ => rfl, fun h => (by cases h), fun m rest _ h1 h2 => (HEX.out m rest h1 h2).elim⟩
  · have h1c := h.blk.cell
    have h1l := h.blk.lt
    have h1f := h.blk.frozen
    clear h
    have HB := Lib.hid (H.out.put2 true)
    have HO2 := Lib.hid ((Outside.refl (fun k => k = g) w).setCell (p := ⟨g, 2, none⟩) (.inl rfl) (.bool true))
    go_enter Try.func81, Try.ntmps81
    go_wp2
    go_loopw [3, 4, 5] (fun va vu vk wr => va = .int .i64 0 ∧ vu = .int .i64 1 ∧ vk = .int .i64 0 ∧ wr = w) (fun _ _ vk _ => 5 - (intOf vk).toNat)
    case atStart => exact ⟨rfl, rfl, rfl, rfl⟩
    case round =>
      obtain ⟨rfl, rfl, rfl, rfl⟩ := hrel
      go_wp2_with (first | ((with_reducible show wpPlan _ _ _ [] _ _ _); refine wpPlan_nil ?_) | ((with_reducible show wpPlan _ _ _ ((_, 0, _) :: _) _ _ _); first | (refine wpPlan_read0 rfl ?hw rfl (fun _ _ _ => ?_); case hw => ((conv => (lhs; whnf)); first | done | with_reducible rfl)) | (refine wpPlan_skip0 rfl ?hw ?_; (case hw => ((conv => (lhs; whnf)); first | done | with_reducible rfl)); (try simp only [List.getElem_toArray, List.getElem_cons_succ, List.getElem_cons_zero, Act.put, List.setIfInBounds_toArray, List.set_cons_zero, List.set_cons_succ]))) | ((with_reducible show wpPlan _ _ _ ((_, 1, _) :: _) _ _ _); first | (refine wpPlan_read1d rfl ?hw rfl rfl (fun _ _ _ => ?_); case hw => ((conv => (lhs; whnf)); first | done | with_reducible rfl)) | (refine wpPlan_skip1d rfl ?hw ?_; (case hw => ((conv => (lhs; whnf)); first | done | with_reducible rfl)); (try simp only [List.getElem_toArray, List.getElem_cons_succ, List.getElem_cons_zero, Act.put, List.setIfInBounds_toArray, List.set_cons_zero, List.set_cons_succ])) | (refine wpPlan_read1 rfl ?hw rfl (fun _ _ _ => ?_); case hw => ((conv => (lhs; whnf)); first | done | with_reducible rfl))) | ((with_reducible show wpPlan _ _ _ ((_, 2, _) :: _) _ _ _); first | (refine wpPlan_eff rfl ?hw (fun _ _ => ?_); case hw => ((conv => (lhs; whnf)); first | done | with_reducible rfl)) | (refine wpPlan_skip2 rfl ?hw ?_; (case hw => ((conv => (lhs; whnf)); first | done | with_reducible rfl)); (try simp only [List.getElem_toArray, List.getElem_cons_succ, List.getElem_cons_zero, Act.put, List.setIfInBounds_toArray, List.set_cons_zero, List.set_cons_succ]))) | ((with_reducible show wpPlan _ _ _ _ _ _ _); refine wpPlan_fork ?_ ?_) | ((with_reducible show Owed _ _ _ [] _ _ _ _ _); refine Owed.none_ ?_) | ((with_reducible show Owed _ _ _ _ [] _ _ _ _); refine Owed.nil_ ?_) | ((with_reducible show Owed _ _ _ _ _ _ _ _ _); first | (refine Owed.miss rfl ?_) | (refine Owed.hit ?_ ?_)) | ((with_reducible show Same _ _ _ _ _); intro _; go_simp; done) | (with_reducible exact True.intro) | ((with_reducible show Code.wp _ (Code.region 5 _ true) _ _ _); refine wp_region_plan [(0, 0, []), (1, 1, []), (2, 1, []), (3, 1, []), (4, 0, []), (5, 1, []), (6, 1, []), (7, 1, []), (8, 1, []), (9, 1, [])] (by kernel_rfl) (by kernel_rfl) (by kernel_rfl) ?_) | ((with_reducible show Code.wp _ (Code.region 8 _ true) _ _ _); refine wp_region_plan [(0, 0, []), (1, 1, []), (2, 1, []), (3, 1, []), (4, 0, []), (5, 1, []), (6, 1, []), (7, 1, []), (8, 1, []), (9, 1, []), (10, 1, []), (11, 0, [])] (by kernel_rfl) (by kernel_rfl) (by kernel_rfl) ?_))
      go_ret
      exact ⟨0, p, true, rfl, by decide, HB.out, HO2.out, Nat.le_refl _, fun _ => rfl, fun h => (by cases h), fun m rest h1 => (by cases h1)⟩


end Go.Proofs.Ytonpdclccgpceaa
