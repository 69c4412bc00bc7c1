/- the program's scanner: skip, rest, comment -/
import Derived.Test.YtafoahojdiglfaaDoorLs1
import Derived.Test.YtafoahojdiglfaaDoorSc7
namespace Go.Proofs.YtafoahojdiglfaaDoor
open Go Go.RowKit
set_option maxHeartbeats 4000000
attribute [local irreducible] kwB syB clB

/-- the scanner at b -/
def SlAt (w : World) (b : Nat) (s : ByteArray) (i : Nat) (p : Pos) : Prop := Blk w b 57 #[.string s, .int .i64 i, .int .i64 p.line, .int .i64 p.col]
section
variable {w w' : World} {b i : Nat} {s : ByteArray} {p : Pos} {R : Nat → Prop}
theorem SlAt.lt (h : SlAt w b s i p) : b < w.heap.size := Blk.lt h
theorem SlAt.cell (h : SlAt w b s i p) : ∀ j, w.cell? ⟨b, j, none⟩ = #[.string s, .int .i64 i, .int .i64 p.line, .int .i64 p.col][j]? := Blk.cell h
theorem SlAt.free (h : SlAt w b s i p) : ∀ j, w.frozen? ⟨b, j, none⟩ = false := Blk.frozen h
theorem SlAt.out (h : SlAt w b s i p) (ho : Outside R w w') (hb : ¬ R b) : SlAt w' b s i p := Blk.out h ho hb
theorem SlAt.below (h : SlAt w b s i p) (hb : Below w.heap.size w w') : SlAt w' b s i p := Blk.below h hb h.lt
end

set_option maxRecDepth 100000 in
theorem lskip_any (b : Nat) (s : ByteArray) (i n : Nat) (p : Pos) (w : World) (h : SlAt w b s i p) (hi : i + n ≤ s.size) (hs : s.size ≤ 1000000000000) (hp : PosIn p i) :
    Calls Tryd.prog 36 #[.pointer (some ⟨b, 0, none⟩), .int .i64 n] w fun e w' => e = .returned (.tuple #[]) ∧ SlAt w' b s (i + n) (posAfter ((s.data.toList.drop i).take n) p) ∧ PosIn (posAfter ((s.data.toList.drop i).take n) p) (i + n) ∧ Outside (fun k => k = b) w w' := by
  have H := Lib.hid h
  have HP := Lib.hid hp
  clear h hp
  go_enter Tryd.func36, Tryd.ntmps36
  go_wp2
  go_loopw [1] (fun vn wr => ∃ k : Nat, k ≤ n ∧ vn = .int .i64 ((n : Int) - k) ∧ Hid (SlAt wr b s (i + k) (posAfter ((s.data.toList.drop i).take k) p)) ∧ Hid (PosIn (posAfter ((s.data.toList.drop i).take k) p) (i + k)) ∧ Hid (Outside (fun k => k = b) w wr)) (fun vn _ => (intOf vn).toNat)
  case atStart => exact ⟨0, Nat.zero_le _, by simp, H.out, HP.out, Outside.refl _ _⟩
  case round =>
    obtain ⟨k, hk, rfl, HS, HQ, HO⟩ := hrel
    obtain ⟨q, hq⟩ : ∃ q, posAfter ((s.data.toList.drop i).take k) p = q := ⟨_, rfl⟩
    by_cases hlt : k < n
    · have HN : Hid (posAfter ((s.data.toList.drop i).take (k + 1)) p = stepP (s[i + k]'(by omega)) q) := Lib.hid (by rw [posAfter_take s i k p (by omega), hq])
      rw [hq] at HS HQ
      obtain ⟨h1, h2, h3, h4⟩ := HQ.out
      have hC := HS.out.cell
      have hf := HS.out.free
      have hbl := HS.out.lt
      have hik : i + k < s.size := by omega
      clear hq
      by_cases hc : s[i + k] = 10
      · have hcb : (((s[i + k]).toNat : Int) == 10) = true := by rw [hc]; rfl
        have HCC := Lib.hid hc
        clear hc
        go_wp2_with (first | ((with_reducible show wpPlan _ _ _ [] _ _ _); refine wpPlan_nil ?_) | ((with_reducible show wpPlan _ _ _ ((_, 0, _) :: _) _ _ _); first | (refine wpPlan_read0 rfl ?hw rfl (fun _ _ _ => ?_); case hw => ((conv => (lhs; whnf)); first | done | with_reducible rfl)) | (refine wpPlan_skip0 rfl ?hw ?_; (case hw => ((conv => (lhs; whnf)); first | done | with_reducible rfl)); (try simp only [List.getElem_toArray, List.getElem_cons_succ, List.getElem_cons_zero, Act.put, List.setIfInBounds_toArray, List.set_cons_zero, List.set_cons_succ]))) | ((with_reducible show wpPlan _ _ _ ((_, 1, _) :: _) _ _ _); first | (refine wpPlan_read1d rfl ?hw rfl rfl (fun _ _ _ => ?_); case hw => ((conv => (lhs; whnf)); first | done | with_reducible rfl)) | (refine wpPlan_skip1d rfl ?hw ?_; (case hw => ((conv => (lhs; whnf)); first | done | with_reducible rfl)); (try simp only [List.getElem_toArray, List.getElem_cons_succ, List.getElem_cons_zero, Act.put, List.setIfInBounds_toArray, List.set_cons_zero, List.set_cons_succ])) | (refine wpPlan_read1 rfl ?hw rfl (fun _ _ _ => ?_); case hw => ((conv => (lhs; whnf)); first | done | with_reducible rfl))) | ((with_reducible show wpPlan _ _ _ ((_, 2, _) :: _) _ _ _); first | (refine wpPlan_eff rfl ?hw (fun _ _ => ?_); case hw => ((conv => (lhs; whnf)); first | done | with_reducible rfl)) | (refine wpPlan_skip2 rfl ?hw ?_; (case hw => ((conv => (lhs; whnf)); first | done | with_reducible rfl)); (try simp only [List.getElem_toArray, List.getElem_cons_succ, List.getElem_cons_zero, Act.put, List.setIfInBounds_toArray, List.set_cons_zero, List.set_cons_succ]))) | ((with_reducible show wpPlan _ _ _ _ _ _ _); refine wpPlan_fork ?_ ?_) | ((with_reducible show Owed _ _ _ [] _ _ _ _ _); refine Owed.none_ ?_) | ((with_reducible show Owed _ _ _ _ [] _ _ _ _); refine Owed.nil_ ?_) | ((with_reducible show Owed _ _ _ _ _ _ _ _ _); first | (refine Owed.miss rfl ?_) | (refine Owed.hit ?_ ?_)) | ((with_reducible show Same _ _ _ _ _); intro _; go_simp; done) | (with_reducible exact True.intro) | ((with_reducible show Code.wp _ (Code.region 3 _ true) _ _ _); refine wp_region_plan [(0, 0, []), (1, 1, []), (2, 1, []), (3, 1, []), (4, 0, []), (5, 1, []), (6, 1, []), (7, 1, []), (8, 1, []), (9, 1, [])] (by kernel_rfl) (by kernel_rfl) (by kernel_rfl) ?_))
        go_roundw
        case rel => 
          refine ⟨k + 1, by omega, by go_num, ?_, ?_, ?_⟩
          · show SlAt _ _ _ _ _
            rw [HN.out, stepP, if_pos HCC.out, SlAt, show ((i + (k + 1) : Nat) : Int) = (i : Int) + k + 1 by omega]
            exact (((Blk.put HS.out 3 _).put 2 _).put 3 _).put 1 _
          · show PosIn _ _
            rw [HN.out]
            exact HQ.out.step _
          · show Outside _ _ _
            exact ((((HO.out.setCell (p := ⟨b, 3, none⟩) (.inl rfl) _).setCell (p := ⟨b, 2, none⟩) (.inl rfl) _).setCell (p := ⟨b, 3, none⟩) (.inl rfl) _).setCell (p := ⟨b, 1, none⟩) (.inl rfl) _).drew
        case measure => simp [intOf]; omega
      · have hcb : (((s[i + k]).toNat : Int) == 10) = false := by
          rw [beq_eq_false_iff_ne]
          intro e
          exact hc (UInt8.toNat_inj.1 (by show s[i + k].toNat = 10; omega))
        have HCC := Lib.hid hc
        clear hc
        go_wp2_with (first | ((with_reducible show wpPlan _ _ _ [] _ _ _); refine wpPlan_nil ?_) | ((with_reducible show wpPlan _ _ _ ((_, 0, _) :: _) _ _ _); first | (refine wpPlan_read0 rfl ?hw rfl (fun _ _ _ => ?_); case hw => ((conv => (lhs; whnf)); first | done | with_reducible rfl)) | (refine wpPlan_skip0 rfl ?hw ?_; (case hw => ((conv => (lhs; whnf)); first | done | with_reducible rfl)); (try simp only [List.getElem_toArray, List.getElem_cons_succ, List.getElem_cons_zero, Act.put, List.setIfInBounds_toArray, List.set_cons_zero, List.set_cons_succ]))) | ((with_reducible show wpPlan _ _ _ ((_, 1, _) :: _) _ _ _); first | (refine wpPlan_read1d rfl ?hw rfl rfl (fun _ _ _ => ?_); case hw => ((conv => (lhs; whnf)); first | done | with_reducible rfl)) | (refine wpPlan_skip1d rfl ?hw ?_; (case hw => ((conv => (lhs; whnf)); first | done | with_reducible rfl)); (try simp only [List.getElem_toArray, List.getElem_cons_succ, List.getElem_cons_zero, Act.put, List.setIfInBounds_toArray, List.set_cons_zero, List.set_cons_succ])) | (refine wpPlan_read1 rfl ?hw rfl (fun _ _ _ => ?_); case hw => ((conv => (lhs; whnf)); first | done | with_reducible rfl))) | ((with_reducible show wpPlan _ _ _ ((_, 2, _) :: _) _ _ _); first | (refine wpPlan_eff rfl ?hw (fun _ _ => ?_); case hw => ((conv => (lhs; whnf)); first | done | with_reducible rfl)) | (refine wpPlan_skip2 rfl ?hw ?_; (case hw => ((conv => (lhs; whnf)); first | done | with_reducible rfl)); (try simp only [List.getElem_toArray, List.getElem_cons_succ, List.getElem_cons_zero, Act.put, List.setIfInBounds_toArray, List.set_cons_zero, List.set_cons_succ]))) | ((with_reducible show wpPlan _ _ _ _ _ _ _); refine wpPlan_fork ?_ ?_) | ((with_reducible show Owed _ _ _ [] _ _ _ _ _); refine Owed.none_ ?_) | ((with_reducible show Owed _ _ _ _ [] _ _ _ _); refine Owed.nil_ ?_) | ((with_reducible show Owed _ _ _ _ _ _ _ _ _); first | (refine Owed.miss rfl ?_) | (refine Owed.hit ?_ ?_)) | ((with_reducible show Same _ _ _ _ _); intro _; go_simp; done) | (with_reducible exact True.intro) | ((with_reducible show Code.wp _ (Code.region 3 _ true) _ _ _); refine wp_region_plan [(0, 0, []), (1, 1, []), (2, 1, []), (3, 1, []), (4, 0, []), (5, 1, []), (6, 1, []), (7, 1, []), (8, 1, []), (9, 1, [])] (by kernel_rfl) (by kernel_rfl) (by kernel_rfl) ?_))
        go_roundw
        case rel =>
          refine ⟨k + 1, by omega, by go_num, ?_, ?_, ?_⟩
          · show SlAt _ _ _ _ _
            rw [HN.out, stepP, if_neg HCC.out, SlAt, show ((i + (k + 1) : Nat) : Int) = (i : Int) + k + 1 by omega]
            exact (Blk.put HS.out 3 _).put 1 _
          · show PosIn _ _
            rw [HN.out]
            exact HQ.out.step _
          · show Outside _ _ _
            exact ((HO.out.setCell (p := ⟨b, 3, none⟩) (.inl rfl) _).setCell (p := ⟨b, 1, none⟩) (.inl rfl) _).drew
        case measure => simp [intOf]; omega
    · have hkn : k = n := by omega
      subst hkn
      clear hq
      go_wp2
      go_end0
      exact ⟨rfl, HS.out, HQ.out, HO.out⟩

theorem lrest_any (b : Nat) (s : ByteArray) (i : Nat) (p : Pos) (w : World) (h : SlAt w b s i p) (hi : i ≤ s.size) (_hs : s.size ≤ 1000000000000) :
    Calls Tryd.prog 35 #[.pointer (some ⟨b, 0, none⟩)] w fun e w' => e = .returned (.string (s.extract i s.size)) ∧ w.drew = w' := by
  have hC := h.cell
  have hbl := h.lt
  clear h
  go_enter Tryd.func35, Tryd.ntmps35
  go_wp2_with (first | ((with_reducible show wpPlan _ _ _ [] _ _ _); refine wpPlan_nil ?_) | ((with_reducible show wpPlan _ _ _ ((_, 0, _) :: _) _ _ _); first | (refine wpPlan_read0 rfl ?hw rfl (fun _ _ _ => ?_); case hw => ((conv => (lhs; whnf)); first | done | with_reducible rfl)) | (refine wpPlan_skip0 rfl ?hw ?_; (case hw => ((conv => (lhs; whnf)); first | done | with_reducible rfl)); (try simp only [List.getElem_toArray, List.getElem_cons_succ, List.getElem_cons_zero, Act.put, List.setIfInBounds_toArray, List.set_cons_zero, List.set_cons_succ]))) | ((with_reducible show wpPlan _ _ _ ((_, 1, _) :: _) _ _ _); first | (refine wpPlan_read1d rfl ?hw rfl rfl (fun _ _ _ => ?_); case hw => ((conv => (lhs; whnf)); first | done | with_reducible rfl)) | (refine wpPlan_skip1d rfl ?hw ?_; (case hw => ((conv => (lhs; whnf)); first | done | with_reducible rfl)); (try simp only [List.getElem_toArray, List.getElem_cons_succ, List.getElem_cons_zero, Act.put, List.setIfInBounds_toArray, List.set_cons_zero, List.set_cons_succ])) | (refine wpPlan_read1 rfl ?hw rfl (fun _ _ _ => ?_); case hw => ((conv => (lhs; whnf)); first | done | with_reducible rfl))) | ((with_reducible show wpPlan _ _ _ ((_, 2, _) :: _) _ _ _); first | (refine wpPlan_eff rfl ?hw (fun _ _ => ?_); case hw => ((conv => (lhs; whnf)); first | done | with_reducible rfl)) | (refine wpPlan_skip2 rfl ?hw ?_; (case hw => ((conv => (lhs; whnf)); first | done | with_reducible rfl)); (try simp only [List.getElem_toArray, List.getElem_cons_succ, List.getElem_cons_zero, Act.put, List.setIfInBounds_toArray, List.set_cons_zero, List.set_cons_succ]))) | ((with_reducible show wpPlan _ _ _ _ _ _ _); refine wpPlan_fork ?_ ?_) | ((with_reducible show Owed _ _ _ [] _ _ _ _ _); refine Owed.none_ ?_) | ((with_reducible show Owed _ _ _ _ [] _ _ _ _); refine Owed.nil_ ?_) | ((with_reducible show Owed _ _ _ _ _ _ _ _ _); first | (refine Owed.miss rfl ?_) | (refine Owed.hit ?_ ?_)) | ((with_reducible show Same _ _ _ _ _); intro _; go_simp; done) | (with_reducible exact True.intro) | ((with_reducible show Code.wp _ (Code.region 1 _ true) _ _ _); refine wp_region_plan [(0, 0, []), (1, 1, []), (2, 1, []), (3, 1, []), (4, 0, []), (5, 1, []), (6, 1, []), (7, 1, []), (8, 1, []), (9, 0, [])] (by kernel_rfl) (by kernel_rfl) (by kernel_rfl) ?_))
  go_ret
  exact ⟨rfl, rfl⟩

/-- the rest behind a nested comment that is d deep -/
def cmF : List UInt8 → Int → Option (List UInt8)
  | [], _ => none
  | [_], _ => none
  | c :: e :: r, d => if c = 123 ∧ e = 45 then cmF r (d + 1) else if c = 45 ∧ e = 125 then (if d - 1 = 0 then some r else cmF r (d - 1)) else cmF (e :: r) d
theorem cmF_eq : ∀ (l : List UInt8) (p : Pos) (d : Int), 1 ≤ d →
    (cmF l d = none → (commentS l p d).1 = false) ∧ ∀ r, cmF l d = some r → ∃ u, l = u ++ r ∧ commentS l p d = (true, r, posAfter u p)
  | [], p, d, hd => ⟨fun _ => rfl, fun r h => by cases h⟩
  | [c], p, d, hd => ⟨fun _ => by have : d ≠ 0 := by { omega }; simp [commentS, this], fun r h => by cases h⟩
  | c :: e :: s, p, d, hd => by
    have h0 : d ≠ 0 := by omega
    rw [cmF, commentS]
    by_cases hA : c = 123 ∧ e = 45
    · have h1 : d + 1 ≠ 0 := by omega
      rw [if_pos hA, if_pos hA, if_neg h1]
      obtain ⟨a1, a2⟩ := cmF_eq s (stepP e (stepP c p)) (d + 1) (by omega)
      refine ⟨a1, fun r h => ?_⟩
      obtain ⟨u, h2, h3⟩ := a2 r h
      exact ⟨c :: e :: u, by rw [h2]; rfl, h3⟩
    · rw [if_neg hA, if_neg hA]
      by_cases hB : c = 45 ∧ e = 125
      · rw [if_pos hB, if_pos hB]
        by_cases h1 : d - 1 = 0
        · rw [if_pos h1, if_pos h1]
          refine ⟨fun h => (by cases h), fun r h => ?_⟩
          cases h
          exact ⟨[c, e], rfl, rfl⟩
        · rw [if_neg h1, if_neg h1]
          obtain ⟨a1, a2⟩ := cmF_eq s (stepP e (stepP c p)) (d - 1) (by omega)
          refine ⟨a1, fun r h => ?_⟩
          obtain ⟨u, h2, h3⟩ := a2 r h
          exact ⟨c :: e :: u, by rw [h2]; rfl, h3⟩
      · rw [if_neg hB, if_neg hB, if_neg h0]
        obtain ⟨a1, a2⟩ := cmF_eq (e :: s) (stepP c p) d hd
        refine ⟨a1, fun r h => ?_⟩
        obtain ⟨u, h2, h3⟩ := a2 r h
        exact ⟨c :: u, by rw [h2]; rfl, h3⟩

end Go.Proofs.YtafoahojdiglfaaDoor
