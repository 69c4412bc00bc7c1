/- Distinguish of the program -/
import Derived.Test.YtmciinikfjfegaaSgWb
namespace Go.Proofs.Ytmciinikfjfegaa
open Go Go.RowKit
set_option maxHeartbeats 8000000

/-- what Distinguish answers -/
def DisIs (ls : List (List Arc)) (s t : Int) (err : Nat) (out : List FNode) : Prop :=
  (validB ls = false ∨ s < 0 ∨ t < 0 ∨ (ls.length : Int) ≤ s ∨ (ls.length : Int) ≤ t) ∧ err = 1 ∧ out = [] ∨
  validB ls = true ∧ 0 ≤ s ∧ 0 ≤ t ∧ s < ls.length ∧ t < ls.length ∧ ∃ K, DoneR ls K ∧ (agr ls K s.toNat t.toNat ∧ err = 21 ∧ out = [] ∨ ¬ agr ls K s.toNat t.toNat ∧ ∃ F, FR ls s.toNat t.toNat F ∧ (F.enc.length ≤ 4096 ∧ err = 0 ∧ out = F.enc ∨ 4096 < F.enc.length ∧ err = 10 ∧ out = []))
theorem DisIs.unique {ls : List (List Arc)} {s t : Int} {err err' : Nat} {out out' : List FNode} (h : DisIs ls s t err out) (h' : DisIs ls s t err' out') : err = err' ∧ out = out' := by
  rcases h with ⟨h1, h2, h3⟩ | ⟨h1, h2, h3, h4, h5, K, hK, h6⟩ <;> rcases h' with ⟨k1, k2, k3⟩ | ⟨k1, k2, k3, k4, k5, K', hK', k6⟩
  · exact ⟨by rw [h2, k2], by rw [h3, k3]⟩
  · rcases h1 with h | h | h | h | h
    · rw [k1] at h; cases h
    all_goals omega
  · rcases k1 with h | h | h | h | h
    · rw [h1] at h; cases h
    all_goals omega
  · obtain rfl := hK.unique hK'
    rcases h6 with ⟨a1, a2, a3⟩ | ⟨a1, F, a2, a3⟩ <;> rcases k6 with ⟨b1, b2, b3⟩ | ⟨b1, G, b2, b3⟩
    · exact ⟨by rw [a2, b2], by rw [a3, b3]⟩
    · exact absurd a1 b1
    · exact absurd b1 a1
    · obtain rfl := a2.unique b2
      rcases a3 with ⟨c1, c2, c3⟩ | ⟨c1, c2, c3⟩ <;> rcases b3 with ⟨d1, d2, d3⟩ | ⟨d1, d2, d3⟩
      · exact ⟨by rw [c2, d2], by rw [c3, d3]⟩
      · omega
      · omega
      · exact ⟨by rw [c2, d2], by rw [c3, d3]⟩
def DisPost (w : World) (ls : List (List Arc)) (s t : Int) (e : Ending) (w' : World) : Prop :=
  ∃ (A1 : Option Addr) (n1 c1 err : Nat) (out : List FNode), e = .returned (.tuple #[.slice A1 n1 c1, .int .i64 err]) ∧ Rd w' w'.heap.size 3 A1 n1 (cellsOf FNode.cells out) ∧ n1 ≤ c1 ∧ n1 ≤ 4096 ∧ Below w.heap.size w w' ∧ DisIs ls s t err out

set_option maxRecDepth 100000 in
theorem distinguish_any (A : Option Addr) (n c : Nat) (ls : List (List Arc)) (s t : Int) (B : Nat) (w : World) (h : RdL w B A n ls) (hB : B ≤ w.heap.size) (hn : n ≤ 100000) (hs : ∀ l ∈ ls, l.length ≤ 100000) :
    Calls Try.prog 31 #[lts A n c, .int .i64 s, .int .i64 t] w (DisPost w ls s t) := by
  have HS := Lib.hid hs
  have HL := Lib.hid h.len
  have HR0 := Lib.hid (h.alloc hB (.cells #[.slice A n c] 27))
  have HN0 := Lib.hid (Blk.new w 27 #[.slice A n c])
  have HB0 := Lib.hid ((Below.refl w.heap.size w).alloc (Nat.le_refl _) (.cells #[.slice A n c] 27))
  obtain ⟨v, hv⟩ : ∃ v, validB ls = v := ⟨_, rfl⟩
  have HV := Lib.hid hv
  clear h hs hv
  go_enter Try.func31, Try.ntmps31
  go_wp2_with fail
  refine (validL_any A n c B ls _ HR0.out (by simp; omega) (by omega) (fun l hl => by have := HS.out l hl; omega)).mono ?_
  rw [HV.out]
  rintro e w1 ⟨rfl, hb1⟩
  have hs1 : w.heap.size + 1 ≤ w1.heap.size := by have := hb1.size; simpa using this
  have HW1 := Lib.hid (And.intro (HR0.out.below (hb1.mono (by simp; omega))) (And.intro (HN0.out.below hb1 HN0.out.lt) (HB0.out.trans (hb1.mono (by simp)))))
  clear hb1
  have n1c := HW1.out.2.1.cell
  have n1l := HW1.out.2.1.lt
  cases v
  · go_wp2_with fail
    refine bodyPost_ret (v := .tuple #[.slice none 0 0, .int .i64 1]) (by simp [results, Try.results31, go_sem]) rfl ?_
    exact ⟨none, 0, 0, 1, [], rfl, Rd.nil, Nat.le_refl _, by omega, HW1.out.2.2, .inl ⟨.inl HV.out, rfl, rfl⟩⟩
  · have hbad : ∀ (hx : s < 0 ∨ t < 0 ∨ (n : Int) ≤ s ∨ (n : Int) ≤ t), DisIs ls s t 1 [] := fun hx => .inl ⟨.inr (by rw [HL.out]; exact hx), rfl, rfl⟩
    have HBAD := Lib.hid hbad
    clear hbad
    by_cases h1 : s < 0
    · go_wp2_with fail
      refine bodyPost_ret (v := .tuple #[.slice none 0 0, .int .i64 1]) (by simp [results, Try.results31, go_sem]) rfl ?_
      exact ⟨none, 0, 0, 1, [], rfl, Rd.nil, Nat.le_refl _, by omega, HW1.out.2.2, HBAD.out (.inl h1)⟩
    · by_cases h2 : t < 0
      · go_wp2_with fail
        refine bodyPost_ret (v := .tuple #[.slice none 0 0, .int .i64 1]) (by simp [results, Try.results31, go_sem]) rfl ?_
        exact ⟨none, 0, 0, 1, [], rfl, Rd.nil, Nat.le_refl _, by omega, HW1.out.2.2, HBAD.out (.inr (.inl h2))⟩
      · obtain ⟨p, rfl⟩ : ∃ p : Nat, s = p := ⟨s.toNat, by omega⟩
        obtain ⟨q, rfl⟩ : ∃ q : Nat, t = q := ⟨t.toNat, by omega⟩
        by_cases h3 : n ≤ p
        · go_wp2_with fail
          refine bodyPost_ret (v := .tuple #[.slice none 0 0, .int .i64 1]) (by simp [results, Try.results31, go_sem]) rfl ?_
          exact ⟨none, 0, 0, 1, [], rfl, Rd.nil, Nat.le_refl _, by omega, HW1.out.2.2, HBAD.out (.inr (.inr (.inl (by omega))))⟩
        · by_cases h4 : n ≤ q
          · go_wp2_with fail
            refine bodyPost_ret (v := .tuple #[.slice none 0 0, .int .i64 1]) (by simp [results, Try.results31, go_sem]) rfl ?_
            exact ⟨none, 0, 0, 1, [], rfl, Rd.nil, Nat.le_refl _, by omega, HW1.out.2.2, HBAD.out (.inr (.inr (.inr (by omega))))⟩
          · go_wp2_with (first | ((with_reducible show wpPlan _ _ _ _ _ (Act.put _ _ _) _); simp only [List.getElem_toArray, List.getElem_cons_succ, List.getElem_cons_zero, Act.put, List.setIfInBounds_toArray, List.set_cons_zero, List.set_cons_succ]) | ((with_reducible show wpPlan _ _ _ _ _ _ _); first | refine wpPlan_nil ?_ | (refine wpPlan_read0 rfl ?hw rfl (fun _ _ _ => ?_); case hw => ((conv => (lhs; whnf)); first | done | with_reducible rfl)) | (refine wpPlan_read1d rfl ?hw rfl rfl (fun _ _ _ => ?_); case hw => ((conv => (lhs; whnf)); first | done | with_reducible rfl)) | (refine wpPlan_eff rfl ?hw (fun _ _ => ?_); case hw => ((conv => (lhs; whnf)); first | done | with_reducible rfl)) | (refine wpPlan_skip0 rfl ?hw ?_; case hw => ((conv => (lhs; whnf)); first | done | with_reducible rfl)) | (refine wpPlan_skip1d rfl ?hw ?_; case hw => ((conv => (lhs; whnf)); first | done | with_reducible rfl)) | (refine wpPlan_skip2 rfl ?hw ?_; case hw => ((conv => (lhs; whnf)); first | done | with_reducible rfl)) | (refine wpPlan_read1 rfl ?hw rfl (fun _ _ _ => ?_); case hw => ((conv => (lhs; whnf)); first | done | with_reducible rfl)) | refine wpPlan_fork ?_ ?_) | ((with_reducible show Owed _ _ _ _ _ _ _ _ _); first | refine Owed.none_ ?_ | refine Owed.nil_ ?_ | refine Owed.miss rfl ?_ | refine Owed.hit ?_ ?_) | ((with_reducible show Same _ _ _ _ _); intro _; go_simp; done) | (with_reducible exact True.intro) | ((with_reducible show Code.wp _ (Code.region 3 _ true) _ _ _); refine wp_region_plan [(0, 1, []), (1, 1, []), (2, 2, [0]), (3, 1, []), (4, 2, []), (5, 0, [])] (by kernel_rfl) (by kernel_rfl) (by kernel_rfl) ?_) | ((with_reducible show Code.wp _ (Code.region 4 _ true) _ _ _); refine wp_region_plan [(0, 0, []), (1, 0, []), (2, 0, []), (4, 0, []), (5, 1, []), (6, 1, []), (7, 1, []), (8, 1, []), (9, 1, []), (3, 2, [5, 6, 7, 8, 9]), (10, 1, [])] (by kernel_rfl) (by kernel_rfl) (by kernel_rfl) ?_))
            have HOK := Lib.hid (ok_of_valid HV.out HL.out HS.out)
            refine (rounds_any A n c ls B _ (HW1.out.1.drewN 1) (by simp; omega) HOK.out).mono ?_
            rintro e w2 ⟨⟨v2, K, xs, rfl, hd, hX2⟩, hb2⟩
            obtain ⟨A2, c2, rfl, hKc, _⟩ := own_form hX2.own
            have hb2' : Below w1.heap.size w1 w2 := ((Below.refl w1.heap.size w1).drew).trans hb2
            have HD := Lib.hid hd
            have hK : K ≤ 100000 := by have := round_le hd.1; have := HL.out; omega
            have HN2 := Lib.hid (HW1.out.2.1.below hb2' n1l)
            have HF2 := Lib.hid (show FinAt (w2.alloc (.cells #[.slice A n c, .slice A2 (K + 1) c2, .slice none 0 0] 77)) w2.heap.size A n c ls A2 K c2 (.slice none 0 0) from
              ⟨Blk.new w2 _ _, ((HW1.out.1.below (hb2'.mono (by omega))).more (by have := hb2'.size; omega)).alloc (Nat.le_refl _) _, hX2.whole.alloc (Nat.le_refl _) _⟩)
            have HB2 := Lib.hid (show Below w.heap.size w (w2.alloc (.cells #[.slice A n c, .slice A2 (K + 1) c2, .slice none 0 0] 77)) from (HW1.out.2.2.trans (hb2'.mono (by omega))).alloc (by have := hb2'.size; omega) _)
            have hs2 : w.heap.size + 1 ≤ w2.heap.size := by have := hb2'.size; omega
            have n2c := HN2.out.cell
            have n2l := HN2.out.lt
            clear hX2 hb2 hb2' hd
            go_wp2_with (first | ((with_reducible show wpPlan _ _ _ _ _ (Act.put _ _ _) _); simp only [List.getElem_toArray, List.getElem_cons_succ, List.getElem_cons_zero, Act.put, List.setIfInBounds_toArray, List.set_cons_zero, List.set_cons_succ]) | ((with_reducible show wpPlan _ _ _ _ _ _ _); first | refine wpPlan_nil ?_ | (refine wpPlan_read0 rfl ?hw rfl (fun _ _ _ => ?_); case hw => ((conv => (lhs; whnf)); first | done | with_reducible rfl)) | (refine wpPlan_read1d rfl ?hw rfl rfl (fun _ _ _ => ?_); case hw => ((conv => (lhs; whnf)); first | done | with_reducible rfl)) | (refine wpPlan_eff rfl ?hw (fun _ _ => ?_); case hw => ((conv => (lhs; whnf)); first | done | with_reducible rfl)) | (refine wpPlan_skip0 rfl ?hw ?_; case hw => ((conv => (lhs; whnf)); first | done | with_reducible rfl)) | (refine wpPlan_skip1d rfl ?hw ?_; case hw => ((conv => (lhs; whnf)); first | done | with_reducible rfl)) | (refine wpPlan_skip2 rfl ?hw ?_; case hw => ((conv => (lhs; whnf)); first | done | with_reducible rfl)) | (refine wpPlan_read1 rfl ?hw rfl (fun _ _ _ => ?_); case hw => ((conv => (lhs; whnf)); first | done | with_reducible rfl)) | refine wpPlan_fork ?_ ?_) | ((with_reducible show Owed _ _ _ _ _ _ _ _ _); first | refine Owed.none_ ?_ | refine Owed.nil_ ?_ | refine Owed.miss rfl ?_ | refine Owed.hit ?_ ?_) | ((with_reducible show Same _ _ _ _ _); intro _; go_simp; done) | (with_reducible exact True.intro) | ((with_reducible show Code.wp _ (Code.region 3 _ true) _ _ _); refine wp_region_plan [(0, 1, []), (1, 1, []), (2, 2, [0]), (3, 1, []), (4, 2, []), (5, 0, [])] (by kernel_rfl) (by kernel_rfl) (by kernel_rfl) ?_) | ((with_reducible show Code.wp _ (Code.region 4 _ true) _ _ _); refine wp_region_plan [(0, 0, []), (1, 0, []), (2, 0, []), (4, 0, []), (5, 1, []), (6, 1, []), (7, 1, []), (8, 1, []), (9, 1, []), (3, 2, [5, 6, 7, 8, 9]), (10, 1, [])] (by kernel_rfl) (by kernel_rfl) (by kernel_rfl) ?_))
            have HFD := Lib.hid (HF2.out.below ((Below.refl _ (w2.alloc (.cells #[.slice A n c, .slice A2 (K + 1) c2, .slice none 0 0] 77))).drew))
            refine (last_any w2.heap.size p q n K ls A A2 c c2 (.slice none 0 0) _ HFD.out HL.out (by omega) (by omega) hK).mono ?_
            rintro e w3 ⟨⟨k, rfl, hk1, hk2, hk3⟩, hb3⟩
            have HF3 := Lib.hid (HFD.out.below hb3)
            have hs3 : w.heap.size + 1 ≤ w3.heap.size := by have := hb3.size; simp at this; omega
            have HB3 := Lib.hid (HB2.out.trans (((Below.refl _ (w2.alloc (.cells #[.slice A n c, .slice A2 (K + 1) c2, .slice none 0 0] 77))).drew.trans hb3).mono HB2.out.size))
            have HK2 := Lib.hid (And.intro hk2 hk3)
            clear hb3 hk2 hk3
            have f3c := HF3.out.blk.cell
            have f3l := HF3.out.blk.lt
            by_cases hkK : k = K
            · subst hkK
              have HE := Lib.hid (show DisIs ls (p : Nat) (q : Nat) 21 [] from .inr ⟨HV.out, by omega, by omega, by rw [HL.out]; omega, by rw [HL.out]; omega, k, HD.out, .inl ⟨by rw [Int.toNat_natCast, Int.toNat_natCast]; exact HK2.out.1, rfl, rfl⟩⟩)
              have hkk : ((k : Int) == (k : Int) + 1 - 1) = true := by simp
              go_wp2_with (first | ((with_reducible show wpPlan _ _ _ _ _ (Act.put _ _ _) _); simp only [List.getElem_toArray, List.getElem_cons_succ, List.getElem_cons_zero, Act.put, List.setIfInBounds_toArray, List.set_cons_zero, List.set_cons_succ]) | ((with_reducible show wpPlan _ _ _ _ _ _ _); first | refine wpPlan_nil ?_ | (refine wpPlan_read0 rfl ?hw rfl (fun _ _ _ => ?_); case hw => ((conv => (lhs; whnf)); first | done | with_reducible rfl)) | (refine wpPlan_read1d rfl ?hw rfl rfl (fun _ _ _ => ?_); case hw => ((conv => (lhs; whnf)); first | done | with_reducible rfl)) | (refine wpPlan_eff rfl ?hw (fun _ _ => ?_); case hw => ((conv => (lhs; whnf)); first | done | with_reducible rfl)) | (refine wpPlan_skip0 rfl ?hw ?_; case hw => ((conv => (lhs; whnf)); first | done | with_reducible rfl)) | (refine wpPlan_skip1d rfl ?hw ?_; case hw => ((conv => (lhs; whnf)); first | done | with_reducible rfl)) | (refine wpPlan_skip2 rfl ?hw ?_; case hw => ((conv => (lhs; whnf)); first | done | with_reducible rfl)) | (refine wpPlan_read1 rfl ?hw rfl (fun _ _ _ => ?_); case hw => ((conv => (lhs; whnf)); first | done | with_reducible rfl)) | refine wpPlan_fork ?_ ?_) | ((with_reducible show Owed _ _ _ _ _ _ _ _ _); first | refine Owed.none_ ?_ | refine Owed.nil_ ?_ | refine Owed.miss rfl ?_ | refine Owed.hit ?_ ?_) | ((with_reducible show Same _ _ _ _ _); intro _; go_simp; done) | (with_reducible exact True.intro) | ((with_reducible show Code.wp _ (Code.region 3 _ true) _ _ _); refine wp_region_plan [(0, 1, []), (1, 1, []), (2, 2, [0]), (3, 1, []), (4, 2, []), (5, 0, [])] (by kernel_rfl) (by kernel_rfl) (by kernel_rfl) ?_) | ((with_reducible show Code.wp _ (Code.region 4 _ true) _ _ _); refine wp_region_plan [(0, 0, []), (1, 0, []), (2, 0, []), (4, 0, []), (5, 1, []), (6, 1, []), (7, 1, []), (8, 1, []), (9, 1, []), (3, 2, [5, 6, 7, 8, 9]), (10, 1, [])] (by kernel_rfl) (by kernel_rfl) (by kernel_rfl) ?_))
              refine bodyPost_ret (v := .tuple #[.slice none 0 0, .int .i64 21]) (by simp [results, Try.results31, go_sem]) rfl ?_
              exact ⟨none, 0, 0, 21, [], rfl, Rd.nil, Nat.le_refl _, by omega, HB3.out, HE.out⟩
            · have hkk : ((k : Int) == (K : Int)) = false := by simp; omega
              have hna : ¬ agr ls K p q := fun e => HK2.out.2 (by omega) (agr_le (by rw [HL.out]; omega) (by rw [HL.out]; omega) (by omega) e)
              obtain ⟨F, hF⟩ := FR.ex HOK.out.tos k (s := p) (t := q) (by rw [HL.out]; omega) (by rw [HL.out]; omega) ⟨HK2.out.1, HK2.out.2 (by omega)⟩
              have HFF := Lib.hid (And.intro hna hF)
              clear hna hF
              go_wp2_with (first | ((with_reducible show wpPlan _ _ _ _ _ (Act.put _ _ _) _); simp only [List.getElem_toArray, List.getElem_cons_succ, List.getElem_cons_zero, Act.put, List.setIfInBounds_toArray, List.set_cons_zero, List.set_cons_succ]) | ((with_reducible show wpPlan _ _ _ _ _ _ _); first | refine wpPlan_nil ?_ | (refine wpPlan_read0 rfl ?hw rfl (fun _ _ _ => ?_); case hw => ((conv => (lhs; whnf)); first | done | with_reducible rfl)) | (refine wpPlan_read1d rfl ?hw rfl rfl (fun _ _ _ => ?_); case hw => ((conv => (lhs; whnf)); first | done | with_reducible rfl)) | (refine wpPlan_eff rfl ?hw (fun _ _ => ?_); case hw => ((conv => (lhs; whnf)); first | done | with_reducible rfl)) | (refine wpPlan_skip0 rfl ?hw ?_; case hw => ((conv => (lhs; whnf)); first | done | with_reducible rfl)) | (refine wpPlan_skip1d rfl ?hw ?_; case hw => ((conv => (lhs; whnf)); first | done | with_reducible rfl)) | (refine wpPlan_skip2 rfl ?hw ?_; case hw => ((conv => (lhs; whnf)); first | done | with_reducible rfl)) | (refine wpPlan_read1 rfl ?hw rfl (fun _ _ _ => ?_); case hw => ((conv => (lhs; whnf)); first | done | with_reducible rfl)) | refine wpPlan_fork ?_ ?_) | ((with_reducible show Owed _ _ _ _ _ _ _ _ _); first | refine Owed.none_ ?_ | refine Owed.nil_ ?_ | refine Owed.miss rfl ?_ | refine Owed.hit ?_ ?_) | ((with_reducible show Same _ _ _ _ _); intro _; go_simp; done) | (with_reducible exact True.intro) | ((with_reducible show Code.wp _ (Code.region 3 _ true) _ _ _); refine wp_region_plan [(0, 1, []), (1, 1, []), (2, 2, [0]), (3, 1, []), (4, 2, []), (5, 0, [])] (by kernel_rfl) (by kernel_rfl) (by kernel_rfl) ?_) | ((with_reducible show Code.wp _ (Code.region 4 _ true) _ _ _); refine wp_region_plan [(0, 0, []), (1, 0, []), (2, 0, []), (4, 0, []), (5, 1, []), (6, 1, []), (7, 1, []), (8, 1, []), (9, 1, []), (3, 2, [5, 6, 7, 8, 9]), (10, 1, [])] (by kernel_rfl) (by kernel_rfl) (by kernel_rfl) ?_))
              refine (add_any HFF.out.2 w2.heap.size n K A A2 c c2 (.slice none 0 0) [] w3 HF3.out HOK.out HD.out (World.ownsRow_nil _ _ _ _) (fun g hg => by simp [Value.ownBlock] at hg) (by simp)).mono ?_
              rintro e w4 ⟨r, v4, o4, rfl, hF4, ho4, hfr4, hO4, hl4, ht4, hff4⟩
              obtain ⟨A4, c4, rfl, hnc4, _⟩ := own_form ho4
              have HB4 := Lib.hid (HB3.out.trans (hO4.below (by omega) (fun g hg e => by
                rcases e with e | e
                · omega
                · simp [Value.ownBlock] at e)))
              cases r
              · have HE := Lib.hid (show DisIs ls (p : Nat) (q : Nat) 10 [] from .inr ⟨HV.out, by omega, by omega, by rw [HL.out]; omega, by rw [HL.out]; omega, K, HD.out, .inr ⟨by rw [Int.toNat_natCast, Int.toNat_natCast]; exact HFF.out.1, F, by rw [Int.toNat_natCast, Int.toNat_natCast]; exact HFF.out.2, .inr ⟨by have := hff4 rfl; simp at this; omega, rfl, rfl⟩⟩⟩)
                clear hF4 ho4 hfr4 hO4 hl4 ht4 hff4
                go_wp2_with fail
                refine bodyPost_ret (v := .tuple #[.slice none 0 0, .int .i64 10]) (by simp [results, Try.results31, go_sem]) rfl ?_
                exact ⟨none, 0, 0, 10, [], rfl, Rd.nil, Nat.le_refl _, by omega, HB4.out, HE.out⟩
              · obtain ⟨h5, h6⟩ := ht4 rfl
                rw [List.nil_append] at h5
                subst h5
                have HE := Lib.hid (show DisIs ls (p : Nat) (q : Nat) 0 F.enc from .inr ⟨HV.out, by omega, by omega, by rw [HL.out]; omega, by rw [HL.out]; omega, K, HD.out, .inr ⟨by rw [Int.toNat_natCast, Int.toNat_natCast]; exact HFF.out.1, F, by rw [Int.toNat_natCast, Int.toNat_natCast]; exact HFF.out.2, .inl ⟨h6, rfl, rfl⟩⟩⟩)
                have HR4 := Lib.hid (Rd.ofOwn ho4)
                have f4c := hF4.blk.cell
                have f4l := hF4.blk.lt
                clear hF4 ho4 hfr4 hO4 hl4 ht4 hff4 f3c f3l
                go_wp2_with fail
                refine bodyPost_ret (v := .tuple #[.slice A4 F.enc.length c4, .int .i64 0]) (by simp [results, Try.results31, go_sem]) rfl ?_
                exact ⟨A4, F.enc.length, c4, 0, F.enc, rfl, HR4.out, hnc4, h6, HB4.out, HE.out⟩

end Go.Proofs.Ytmciinikfjfegaa
