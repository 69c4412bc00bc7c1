/- the head of a packed system is read: readHead -/
import Derived.Test.YtonpdclccgpceaaRwD4
import Derived.Test.YtonpdclccgpceaaRwPk
namespace Go.Proofs.Ytonpdclccgpceaa
open Go Go.RowKit
set_option maxHeartbeats 8000000

theorem slInt : SlT Try.prog 22 3 1 8 := SlT.of Try.underlying22 infoInt rfl (by decide)
def ncell (b : Nat) : List Value := [.int .i64 b]
theorem ncell_len (b : Nat) : (ncell b).length = 1 := rfl
/-- the bytes at p are the head of the packed system ls, then the rest -/
structure HeadG (bad : Bool) (l : List Nat) (p : Nat) (ls : List (List Arc)) (rest : List Nat) : Prop where
  good : bad = false
  at_ : l.drop p = headB ls ++ (sizesB ls ((ls.length + 15) / 16) ++ rest)
  n2 : ls.length ≤ 16384
  few : total ls ≤ 262144
  sz : ∀ g, gsz ls g ≤ 1048576
theorem sizesB_split (ls : List (List Arc)) (k : Nat) : ∀ G, k < G → ∃ t, sizesB ls G = sizesB ls k ++ (uv (gsz ls k) ++ t)
  | G + 1, h => by
    rcases Nat.lt_or_ge k G with h1 | h1
    · obtain ⟨t, ht⟩ := sizesB_split ls k G h1
      exact ⟨t ++ uv (gsz ls G), by rw [sizesB_next, ht]; simp only [List.append_assoc]⟩
    · have h2 : k = G := by omega
      subst h2
      exact ⟨[], by rw [sizesB_next]; simp⟩
/-- the first bytes of a head, then the two numbers -/
theorem HeadG.two {bad : Bool} {l : List Nat} {p : Nat} {ls : List (List Arc)} {rest : List Nat} (h : HeadG bad l p ls rest) :
    ∃ t, l.drop p = 67 :: 82 :: t ∧ t = uv ls.length ++ (uv (total ls) ++ (sizesB ls ((ls.length + 15) / 16) ++ rest)) := by
  refine ⟨_, ?_, rfl⟩
  rw [h.at_, headB]
  simp only [List.append_assoc, List.cons_append, List.nil_append]
theorem HeadG.len {bad : Bool} {l : List Nat} {p : Nat} {ls : List (List Arc)} {rest : List Nat} (_ : HeadG bad l p ls rest) : (headB ls).length = 2 + (uv ls.length).length + (uv (total ls)).length := by
  rw [headB]
  simp only [List.length_append, List.length_cons, List.length_nil]
theorem HeadG.size {bad : Bool} {l : List Nat} {p : Nat} {ls : List (List Arc)} {rest : List Nat} (h : HeadG bad l p ls rest) {k : Nat} (hk : k < (ls.length + 15) / 16) :
    ∃ t, l.drop (p + (headB ls).length + (sizesB ls k).length) = uv (gsz ls k) ++ t := by
  obtain ⟨t, ht⟩ := sizesB_split ls k _ hk
  have h1 := drop_app h.at_
  rw [ht] at h1
  simp only [List.append_assoc] at h1
  exact ⟨_, drop_app h1⟩

/-- what stands while the sizes are read -/
structure HdAt (w wr : World) (B g : Nat) (A : Option Addr) (n c : Nat) (l : List Nat) (q : Nat) (bk : Bool) (v : Value) (k : Nat) (szs : List Nat) : Prop where
  own : wr.ownsRow 0 3 1 v k (cellsOf ncell szs)
  base : ∀ x, v.ownBlock = some x → w.heap.size ≤ x
  rd : RdrAt wr B g A n c l q bk
  out : Outside (fun k => k = g) w wr
  ltg : g < w.heap.size
section
variable {w wr w' : World} {B g n c q q' k : Nat} {A : Option Addr} {l szs : List Nat} {bk bk' : Bool} {v : Value}
theorem HdAt.step (h : HdAt w wr B g A n c l q bk v k szs) (hR : RdrAt w' B g A n c l q' bk') (hO : Outside (fun k => k = g) wr w') : HdAt w w' B g A n c l q' bk' v k szs :=
  ⟨own_out h.own hO (fun x hx e => by have := h.base x hx; have := h.ltg; omega), h.base, hR, h.out.trans hO, h.ltg⟩
theorem HdAt.app {v' : Value} {k' : Nat} {szs' : List Nat} (h : HdAt w wr B g A n c l q bk v k szs) (hO : Outside (fun x => v.ownBlock = some x) wr w') (hown : w'.ownsRow 0 3 1 v' k' (cellsOf ncell szs'))
    (hb : ∀ x, v'.ownBlock = some x → v.ownBlock = some x ∨ wr.heap.size ≤ x) : HdAt w w' B g A n c l q bk v' k' szs' := by
  have hg := h.ltg
  have hlo := h.rd.lo
  have hsz := h.out.size
  refine ⟨hown, fun x hx => ?_, h.rd.out hO (fun e => by have := h.base _ e; omega) (fun k hk e => by have := h.base _ e; omega), ?_, h.ltg⟩
  · rcases hb x hx with h1 | h1
    · exact h.base x h1
    · omega
  · exact ((h.out.mono (R' := fun k => k = g ∨ w.heap.size ≤ k) fun k _ e => Or.inl e).trans (hO.mono fun k _ e => Or.inr (h.base _ e))).mono fun k hk e => by
      rcases e with e | e
      · exact e
      · omega
end

/-- what readHead gives -/
def HeadPost (w : World) (B g : Nat) (A : Option Addr) (n c : Nat) (l : List Nat) (p : Nat) (bad : Bool) (e : Ending) (w' : World) : Prop :=
  ∃ (st ar : Nat) (v : Value) (szs : List Nat) (p' : Nat) (bad' : Bool), e = .returned (.tuple #[.int .i64 st, .int .i64 ar, v]) ∧ w'.ownsRow 0 3 1 v szs.length (cellsOf ncell szs) ∧ (∀ x, v.ownBlock = some x → w.heap.size ≤ x) ∧
    st ≤ 16384 ∧ ar ≤ 262144 ∧ szs.length = (st + 15) / 16 ∧ (∀ z ∈ szs, z ≤ 1048576) ∧ RdrAt w' B g A n c l p' bad' ∧ Outside (fun k => k = g) w w' ∧
    ∀ ls rest, HeadG bad l p ls rest → st = ls.length ∧ ar = total ls ∧ szs = (List.range ((ls.length + 15) / 16)).map (gsz ls) ∧ p' = p + (headB ls).length + (sizesB ls ((ls.length + 15) / 16)).length ∧ bad' = false

set_option maxRecDepth 100000 in
theorem readHead_any (B g : Nat) (A : Option Addr) (n c p : Nat) (l : List Nat) (bad : Bool) (w : World) (h : RdrAt w B g A n c l p bad) (hn : n ≤ 1000000000) :
    Calls Try.prog 47 #[.pointer (some ⟨g, 0, none⟩)] w (HeadPost w B g A n c l p bad) := by
  have H := Lib.hid h
  have hgl : g < w.heap.size := h.blk.lt
  clear h
  go_enter Try.func47, Try.ntmps47
  go_wp2_with fail
  refine (rbyte_any B g A n c p l bad _ H.out hn).mono ?_
  rintro e w1 ⟨x1, p1, b1, rfl, hx1, hR1, hO1, hbad1, hgood1⟩
  have H1 := Lib.hid hR1
  have HO1 := Lib.hid hO1
  have HG1 := Lib.hid (show ∀ ls rest, HeadG bad l p ls rest → b1 = false ∧ x1 = 67 ∧ p1 = p + 1 from fun ls rest hG => by
    obtain ⟨t, h1, _⟩ := hG.two
    obtain ⟨h2, h3⟩ := drop_get h1
    have h4 : p < n := by
      rw [← H.out.len]
      exact (List.getElem?_eq_some_iff.1 h2).1
    obtain ⟨h5, h6, h7⟩ := hgood1 hG.good h4
    rw [h2] at h6
    exact ⟨h5, by cases h6; rfl, h7⟩)
  have h1c := hR1.blk.cell
  have h1l := hR1.blk.lt
  have h1f := hR1.blk.frozen
  clear hR1 hO1 hbad1 hgood1
  by_cases hc1 : (x1 : Int) = 67
  · go_wp2_with fail
    refine (rbyte_any B g A n c p1 l b1 _ H1.out hn).mono ?_
    rintro e w2 ⟨x2, p2, b2, rfl, hx2, hR2, hO2, hbad2, hgood2⟩
    have H2 := Lib.hid hR2
    have HO2 := Lib.hid (HO1.out.trans hO2)
    have HG2 := Lib.hid (show ∀ ls rest, HeadG bad l p ls rest → b2 = false ∧ x2 = 82 ∧ p2 = p + 2 from fun ls rest hG => by
      obtain ⟨t, h1, _⟩ := hG.two
      obtain ⟨e1, _, e2⟩ := HG1.out ls rest hG
      obtain ⟨_, h3⟩ := drop_get h1
      obtain ⟨h2, _⟩ := drop_get h3
      have h4 : p + 1 < n := by
        rw [← H.out.len]
        exact (List.getElem?_eq_some_iff.1 h2).1
      obtain ⟨h5, h6, h7⟩ := hgood2 e1 (by omega)
      rw [e2, h2] at h6
      exact ⟨h5, by cases h6; rfl, by omega⟩)
    have h2c := hR2.blk.cell
    have h2l := hR2.blk.lt
    have h2f := hR2.blk.frozen
    clear hR2 hO2 hbad2 hgood2 h1c h1l h1f
    by_cases hc2 : (x2 : Int) = 82
    · have HX := H2
      have HOX := HO2
      have HEX := Lib.hid (show ∀ ls rest, HeadG bad l p ls rest → b2 = false ∧ p2 = p + 2 from fun ls rest hG => ⟨(HG2.out ls rest hG).1, (HG2.out ls rest hG).2.2⟩)
      clear h2c h2l h2f
      go_wp2_with fail
      refine (ruv_any B g A n c p2 l b2 16384 _ HX.out hn (by decide)).mono ?_
      rintro e w4 ⟨st, p4, b4, rfl, hst, hR4, hO4, _, _, hz4, hex4⟩
      have H4 := Lib.hid hR4
      have HO4 := Lib.hid (HOX.out.trans hO4)
      have HE4 := Lib.hid (show ∀ ls rest, HeadG bad l p ls rest → st = ls.length ∧ b4 = false ∧ l.drop p4 = uv (total ls) ++ (sizesB ls ((ls.length + 15) / 16) ++ rest) ∧ p4 = p + 2 + (uv ls.length).length from fun ls rest hG => by
        obtain ⟨t, h1, h2⟩ := hG.two
        obtain ⟨e1, e2⟩ := HEX.out ls rest hG
        obtain ⟨_, h3⟩ := drop_get h1
        obtain ⟨_, h4⟩ := drop_get h3
        have h5 : l.drop p2 = uv ls.length ++ (uv (total ls) ++ (sizesB ls ((ls.length + 15) / 16) ++ rest)) := by
          rw [e2, ← h2]
          exact h4
        obtain ⟨f1, f2, f3⟩ := hex4 _ _ e1 h5 hG.n2
        exact ⟨f1, f3, by rw [f2]; exact drop_app h5, by omega⟩)
      clear hR4 hO4 hex4 hz4
      go_wp2_with fail
      refine (ruv_any B g A n c p4 l b4 262144 _ H4.out hn (by decide)).mono ?_
      rintro e w5 ⟨ar, p5, b5, rfl, har, hR5, hO5, _, _, hz5, hex5⟩
      have H5 := Lib.hid hR5
      have HO5 := Lib.hid (HO4.out.trans hO5)
      have HE5 := Lib.hid (show ∀ ls rest, HeadG bad l p ls rest → st = ls.length ∧ ar = total ls ∧ b5 = false ∧ p5 = p + (headB ls).length from fun ls rest hG => by
        obtain ⟨e1, e2, e3, e4⟩ := HE4.out ls rest hG
        obtain ⟨f1, f2, f3⟩ := hex5 _ _ e2 e3 hG.few
        have := hG.len
        exact ⟨e1, f1, f3, by omega⟩)
      clear hR5 hO5 hex5 hz5
      go_wp2_with fail
      refine (groups_any st _ (by omega)).mono ?_
      rintro e w6 ⟨rfl, rfl⟩
      obtain ⟨G, hG⟩ : ∃ G, (st + 15) / 16 = G := ⟨_, rfl⟩
      have HGG := Lib.hid hG
      have hG2 : G ≤ 2000 := by omega
      have HZ := Lib.hid (show HdAt w w5 B g A n c l p5 b5 (.slice none 0 0) 0 [] from ⟨World.ownsRow_nil _ _ _ _, fun x hx => absurd hx (by simp [Value.ownBlock]), H5.out, HO5.out, hgl⟩)
      rw [hG]
      clear hG
      go_wp2_with fail
      go_loopw [4, 22] (fun v vk wr => ∃ (k q : Nat) (bk : Bool) (szs : List Nat), k ≤ G ∧ vk = .int .i64 k ∧ Hid (HdAt w wr B g A n c l q bk v k szs) ∧
        Hid (szs.length = k ∧ (∀ z ∈ szs, z ≤ 1048576) ∧ ∀ ls rest, HeadG bad l p ls rest → bk = false ∧ szs = (List.range k).map (gsz ls) ∧ q = p + (headB ls).length + (sizesB ls k).length)) (fun _ vk _ => G - (intOf vk).toNat)
      case atStart => exact ⟨0, p5, b5, [], Nat.zero_le _, rfl, HZ, Lib.hid ⟨rfl, fun z hz => (by cases hz), fun ls rest hG => by
        obtain ⟨_, _, e3, e4⟩ := HE5.out ls rest hG
        exact ⟨e3, rfl, by rw [e4]; rfl⟩⟩⟩
      case round =>
        obtain ⟨k, q, bk, szs, hk, rfl, HW, HS⟩ := hrel
        obtain ⟨Av, cv, rfl, hkc, _⟩ := own_form HW.out.own
        by_cases hlt : k < G
        · go_wp2_with fail
          refine (ruv_any B g A n c q l bk 1048576 _ HW.out.rd hn (by decide)).mono ?_
          rintro e w7 ⟨z, p7, b7, rfl, hz, hR7, hO7, _, _, hz7, hex7⟩
          have HX7 := Lib.hid (HW.out.step hR7 hO7)
          have HS7 := Lib.hid (show (szs ++ [z]).length = k + 1 ∧ (∀ y ∈ szs ++ [z], y ≤ 1048576) ∧ ∀ ls rest, HeadG bad l p ls rest → b7 = false ∧ szs ++ [z] = (List.range (k + 1)).map (gsz ls) ∧ p7 = p + (headB ls).length + (sizesB ls (k + 1)).length from by
            refine ⟨by rw [List.length_append, HS.out.1]; rfl, fun y hy => ?_, fun ls rest hG => ?_⟩
            · rcases List.mem_append.1 hy with h | h
              · exact HS.out.2.1 y h
              · rw [List.mem_singleton.1 h]; exact hz
            · obtain ⟨e1, e2, e3⟩ := HS.out.2.2 ls rest hG
              have e4 := (HE5.out ls rest hG).1
              obtain ⟨t, ht⟩ := hG.size (k := k) (by rw [← e4, HGG.out]; exact hlt)
              obtain ⟨f1, f2, f3⟩ := hex7 _ t e1 (by rw [e3]; exact ht) (hG.sz k)
              refine ⟨f3, by rw [List.range_succ, List.map_append, ← e2, f1]; rfl, ?_⟩
              rw [sizesB_next, List.length_append]
              omega)
          clear hR7 hO7 hex7 hz7
          go_wp2_with (first | ((with_reducible show wpPlan _ _ _ [] _ _ _); refine wpPlan_nil ?_) | ((with_reducible show wpPlan _ _ _ ((_, 0, _) :: _) _ _ _); first | (refine wpPlan_read0 rfl ?hw rfl (fun _ _ _ => ?_); case hw => ((conv => (lhs; whnf)); first | done | with_reducible rfl)) | (refine wpPlan_skip0 rfl ?hw ?_; (case hw => ((conv => (lhs; whnf)); first | done | with_reducible rfl)); (try simp only [List.getElem_toArray, List.getElem_cons_succ, List.getElem_cons_zero, Act.put, List.setIfInBounds_toArray, List.set_cons_zero, List.set_cons_succ]))) | ((with_reducible show wpPlan _ _ _ ((_, 1, _) :: _) _ _ _); first | (refine wpPlan_read1d rfl ?hw rfl rfl (fun _ _ _ => ?_); case hw => ((conv => (lhs; whnf)); first | done | with_reducible rfl)) | (refine wpPlan_skip1d rfl ?hw ?_; (case hw => ((conv => (lhs; whnf)); first | done | with_reducible rfl)); (try simp only [List.getElem_toArray, List.getElem_cons_succ, List.getElem_cons_zero, Act.put, List.setIfInBounds_toArray, List.set_cons_zero, List.set_cons_succ])) | (refine wpPlan_read1 rfl ?hw rfl (fun _ _ _ => ?_); case hw => ((conv => (lhs; whnf)); first | done | with_reducible rfl))) | ((with_reducible show wpPlan _ _ _ ((_, 2, _) :: _) _ _ _); first | (refine wpPlan_eff rfl ?hw (fun _ _ => ?_); case hw => ((conv => (lhs; whnf)); first | done | with_reducible rfl)) | (refine wpPlan_skip2 rfl ?hw ?_; (case hw => ((conv => (lhs; whnf)); first | done | with_reducible rfl)); (try simp only [List.getElem_toArray, List.getElem_cons_succ, List.getElem_cons_zero, Act.put, List.setIfInBounds_toArray, List.set_cons_zero, List.set_cons_succ]))) | ((with_reducible show wpPlan _ _ _ _ _ _ _); refine wpPlan_fork ?_ ?_) | ((with_reducible show Owed _ _ _ [] _ _ _ _ _); refine Owed.none_ ?_) | ((with_reducible show Owed _ _ _ _ [] _ _ _ _); refine Owed.nil_ ?_) | ((with_reducible show Owed _ _ _ _ _ _ _ _ _); first | (refine Owed.miss rfl ?_) | (refine Owed.hit ?_ ?_)) | ((with_reducible show Same _ _ _ _ _); intro _; go_simp; done) | (with_reducible exact True.intro) | (at_builtin; refine appList_blk rfl slInt rfl (World.ownsRow.alloc HX7.out.own _) rfl (news := [.int .i64 z]) ((heap_alloc_at (by simp)) : Blk _ w7.heap.size _ _) rfl rfl (by simp [Value.oneCell']) (by decide) (by unfold maxLen; omega) (by omega) ?_; intro g8 c8 w8 hown8 hgrow8 hat8; refine Stop7.intro ?_))
          unfold Stop7
          have hO8 : Outside (fun x => (Value.slice Av k cv).ownBlock = some x) w7 w8 := ((Outside.refl (fun x => (Value.slice Av k cv).ownBlock = some x) w7).alloc (.cells #[.int .i64 z] 3)).grown hgrow8 (fun z hz => .inl hz)
          have hown9 : w8.ownsRow 0 3 1 (.slice (some ⟨g8, 0, none⟩) (k + 1) c8) (k + 1) (cellsOf ncell (szs ++ [z])) := by
            rw [cellsOf_append]
            exact hown8
          have HX8 := Lib.hid (HX7.out.app hO8 hown9 (fun x hx => by
            have h1 : g8 = x := by simpa [Value.ownBlock] using hx
            subst h1
            rcases hat8 with h | h
            · exact .inl h
            · refine .inr (Nat.le_trans ?_ h)
              simp))
          clear hO8 hown8 hown9 hgrow8 hat8
          go_wp2_with (first | ((with_reducible show wpPlan _ _ _ [] _ _ _); refine wpPlan_nil ?_) | ((with_reducible show wpPlan _ _ _ ((_, 0, _) :: _) _ _ _); first | (refine wpPlan_read0 rfl ?hw rfl (fun _ _ _ => ?_); case hw => ((conv => (lhs; whnf)); first | done | with_reducible rfl)) | (refine wpPlan_skip0 rfl ?hw ?_; (case hw => ((conv => (lhs; whnf)); first | done | with_reducible rfl)); (try simp only [List.getElem_toArray, List.getElem_cons_succ, List.getElem_cons_zero, Act.put, List.setIfInBounds_toArray, List.set_cons_zero, List.set_cons_succ]))) | ((with_reducible show wpPlan _ _ _ ((_, 1, _) :: _) _ _ _); first | (refine wpPlan_read1d rfl ?hw rfl rfl (fun _ _ _ => ?_); case hw => ((conv => (lhs; whnf)); first | done | with_reducible rfl)) | (refine wpPlan_skip1d rfl ?hw ?_; (case hw => ((conv => (lhs; whnf)); first | done | with_reducible rfl)); (try simp only [List.getElem_toArray, List.getElem_cons_succ, List.getElem_cons_zero, Act.put, List.setIfInBounds_toArray, List.set_cons_zero, List.set_cons_succ])) | (refine wpPlan_read1 rfl ?hw rfl (fun _ _ _ => ?_); case hw => ((conv => (lhs; whnf)); first | done | with_reducible rfl))) | ((with_reducible show wpPlan _ _ _ ((_, 2, _) :: _) _ _ _); first | (refine wpPlan_eff rfl ?hw (fun _ _ => ?_); case hw => ((conv => (lhs; whnf)); first | done | with_reducible rfl)) | (refine wpPlan_skip2 rfl ?hw ?_; (case hw => ((conv => (lhs; whnf)); first | done | with_reducible rfl)); (try simp only [List.getElem_toArray, List.getElem_cons_succ, List.getElem_cons_zero, Act.put, List.setIfInBounds_toArray, List.set_cons_zero, List.set_cons_succ]))) | ((with_reducible show wpPlan _ _ _ _ _ _ _); refine wpPlan_fork ?_ ?_) | ((with_reducible show Owed _ _ _ [] _ _ _ _ _); refine Owed.none_ ?_) | ((with_reducible show Owed _ _ _ _ [] _ _ _ _); refine Owed.nil_ ?_) | ((with_reducible show Owed _ _ _ _ _ _ _ _ _); first | (refine Owed.miss rfl ?_) | (refine Owed.hit ?_ ?_)) | ((with_reducible show Same _ _ _ _ _); intro _; go_simp; done) | (with_reducible exact True.intro))
          go_roundw
          case rel => exact ⟨k + 1, p7, b7, szs ++ [z], by omega, by go_num, HX8, HS7⟩
          case measure => simp [intOf]; omega
        · have hkm : k = G := by omega
          subst hkm
          go_wp2_with fail
          refine bodyPost_ret (v := .tuple #[.int .i64 st, .int .i64 ar, .slice Av k cv]) (by simp [results, Try.results47, go_sem]) rfl ?_
          refine ⟨st, ar, _, szs, q, bk, rfl, by rw [HS.out.1]; exact HW.out.own, HW.out.base, hst, har, by rw [HS.out.1, HGG.out], HS.out.2.1, HW.out.rd, HW.out.out, fun ls rest hG => ?_⟩
          obtain ⟨e1, e2, e3⟩ := HS.out.2.2 ls rest hG
          obtain ⟨f1, f2, _, _⟩ := HE5.out ls rest hG
          have f3 : k = (ls.length + 15) / 16 := by rw [← f1, HGG.out]
          rw [← f3]
          exact ⟨f1, f2, e2, e3, e1⟩
    · have HX := Lib.hid (H2.out.put2 true)
      have HOX := Lib.hid (HO2.out.setCell (p := ⟨g, 2, none⟩) (.inl rfl) (.bool true))
      have HEX := Lib.hid (show ∀ ls rest, HeadG bad l p ls rest → true = false ∧ p2 = p + 2 from fun ls rest hG => by
        have := (HG2.out ls rest hG).2.1
        omega)
      go_wp2_with fail
      refine (ruv_any B g A n c p2 l true 16384 _ HX.out hn (by decide)).mono ?_
      rintro e w4 ⟨st, p4, b4, rfl, hst, hR4, hO4, _, _, hz4, hex4⟩
      have H4 := Lib.hid hR4
      have HO4 := Lib.hid (HOX.out.trans hO4)
      have HE4 := Lib.hid (show ∀ ls rest, HeadG bad l p ls rest → st = ls.length ∧ b4 = false ∧ l.drop p4 = uv (total ls) ++ (sizesB ls ((ls.length + 15) / 16) ++ rest) ∧ p4 = p + 2 + (uv ls.length).length from fun ls rest hG => by
        obtain ⟨t, h1, h2⟩ := hG.two
        obtain ⟨e1, e2⟩ := HEX.out ls rest hG
        obtain ⟨_, h3⟩ := drop_get h1
        obtain ⟨_, h4⟩ := drop_get h3
        have h5 : l.drop p2 = uv ls.length ++ (uv (total ls) ++ (sizesB ls ((ls.length + 15) / 16) ++ rest)) := by
          rw [e2, ← h2]
          exact h4
        obtain ⟨f1, f2, f3⟩ := hex4 _ _ e1 h5 hG.n2
        exact ⟨f1, f3, by rw [f2]; exact drop_app h5, by omega⟩)
      clear hR4 hO4 hex4 hz4
      go_wp2_with fail
      refine (ruv_any B g A n c p4 l b4 262144 _ H4.out hn (by decide)).mono ?_
      rintro e w5 ⟨ar, p5, b5, rfl, har, hR5, hO5, _, _, hz5, hex5⟩
      have H5 := Lib.hid hR5
      have HO5 := Lib.hid (HO4.out.trans hO5)
      have HE5 := Lib.hid (show ∀ ls rest, HeadG bad l p ls rest → st = ls.length ∧ ar = total ls ∧ b5 = false ∧ p5 = p + (headB ls).length from fun ls rest hG => by
        obtain ⟨e1, e2, e3, e4⟩ := HE4.out ls rest hG
        obtain ⟨f1, f2, f3⟩ := hex5 _ _ e2 e3 hG.few
        have := hG.len
        exact ⟨e1, f1, f3, by omega⟩)
      clear hR5 hO5 hex5 hz5
      go_wp2_with fail
      refine (groups_any st _ (by omega)).mono ?_
      rintro e w6 ⟨rfl, rfl⟩
      obtain ⟨G, hG⟩ : ∃ G, (st + 15) / 16 = G := ⟨_, rfl⟩
      have HGG := Lib.hid hG
      have hG2 : G ≤ 2000 := by omega
      have HZ := Lib.hid (show HdAt w w5 B g A n c l p5 b5 (.slice none 0 0) 0 [] from ⟨World.ownsRow_nil _ _ _ _, fun x hx => absurd hx (by simp [Value.ownBlock]), H5.out, HO5.out, hgl⟩)
      rw [hG]
      clear hG
      go_wp2_with fail
      go_loopw [4, 22] (fun v vk wr => ∃ (k q : Nat) (bk : Bool) (szs : List Nat), k ≤ G ∧ vk = .int .i64 k ∧ Hid (HdAt w wr B g A n c l q bk v k szs) ∧
        Hid (szs.length = k ∧ (∀ z ∈ szs, z ≤ 1048576) ∧ ∀ ls rest, HeadG bad l p ls rest → bk = false ∧ szs = (List.range k).map (gsz ls) ∧ q = p + (headB ls).length + (sizesB ls k).length)) (fun _ vk _ => G - (intOf vk).toNat)
      case atStart => exact ⟨0, p5, b5, [], Nat.zero_le _, rfl, HZ, Lib.hid ⟨rfl, fun z hz => (by cases hz), fun ls rest hG => by
        obtain ⟨_, _, e3, e4⟩ := HE5.out ls rest hG
        exact ⟨e3, rfl, by rw [e4]; rfl⟩⟩⟩
      case round =>
        obtain ⟨k, q, bk, szs, hk, rfl, HW, HS⟩ := hrel
        obtain ⟨Av, cv, rfl, hkc, _⟩ := own_form HW.out.own
        by_cases hlt : k < G
        · go_wp2_with fail
          refine (ruv_any B g A n c q l bk 1048576 _ HW.out.rd hn (by decide)).mono ?_
          rintro e w7 ⟨z, p7, b7, rfl, hz, hR7, hO7, _, _, hz7, hex7⟩
          have HX7 := Lib.hid (HW.out.step hR7 hO7)
          have HS7 := Lib.hid (show (szs ++ [z]).length = k + 1 ∧ (∀ y ∈ szs ++ [z], y ≤ 1048576) ∧ ∀ ls rest, HeadG bad l p ls rest → b7 = false ∧ szs ++ [z] = (List.range (k + 1)).map (gsz ls) ∧ p7 = p + (headB ls).length + (sizesB ls (k + 1)).length from by
            refine ⟨by rw [List.length_append, HS.out.1]; rfl, fun y hy => ?_, fun ls rest hG => ?_⟩
            · rcases List.mem_append.1 hy with h | h
              · exact HS.out.2.1 y h
              · rw [List.mem_singleton.1 h]; exact hz
            · obtain ⟨e1, e2, e3⟩ := HS.out.2.2 ls rest hG
              have e4 := (HE5.out ls rest hG).1
              obtain ⟨t, ht⟩ := hG.size (k := k) (by rw [← e4, HGG.out]; exact hlt)
              obtain ⟨f1, f2, f3⟩ := hex7 _ t e1 (by rw [e3]; exact ht) (hG.sz k)
              refine ⟨f3, by rw [List.range_succ, List.map_append, ← e2, f1]; rfl, ?_⟩
              rw [sizesB_next, List.length_append]
              omega)
          clear hR7 hO7 hex7 hz7
          go_wp2_with (first | ((with_reducible show wpPlan _ _ _ [] _ _ _); refine wpPlan_nil ?_) | ((with_reducible show wpPlan _ _ _ ((_, 0, _) :: _) _ _ _); first | (refine wpPlan_read0 rfl ?hw rfl (fun _ _ _ => ?_); case hw => ((conv => (lhs; whnf)); first | done | with_reducible rfl)) | (refine wpPlan_skip0 rfl ?hw ?_; (case hw => ((conv => (lhs; whnf)); first | done | with_reducible rfl)); (try simp only [List.getElem_toArray, List.getElem_cons_succ, List.getElem_cons_zero, Act.put, List.setIfInBounds_toArray, List.set_cons_zero, List.set_cons_succ]))) | ((with_reducible show wpPlan _ _ _ ((_, 1, _) :: _) _ _ _); first | (refine wpPlan_read1d rfl ?hw rfl rfl (fun _ _ _ => ?_); case hw => ((conv => (lhs; whnf)); first | done | with_reducible rfl)) | (refine wpPlan_skip1d rfl ?hw ?_; (case hw => ((conv => (lhs; whnf)); first | done | with_reducible rfl)); (try simp only [List.getElem_toArray, List.getElem_cons_succ, List.getElem_cons_zero, Act.put, List.setIfInBounds_toArray, List.set_cons_zero, List.set_cons_succ])) | (refine wpPlan_read1 rfl ?hw rfl (fun _ _ _ => ?_); case hw => ((conv => (lhs; whnf)); first | done | with_reducible rfl))) | ((with_reducible show wpPlan _ _ _ ((_, 2, _) :: _) _ _ _); first | (refine wpPlan_eff rfl ?hw (fun _ _ => ?_); case hw => ((conv => (lhs; whnf)); first | done | with_reducible rfl)) | (refine wpPlan_skip2 rfl ?hw ?_; (case hw => ((conv => (lhs; whnf)); first | done | with_reducible rfl)); (try simp only [List.getElem_toArray, List.getElem_cons_succ, List.getElem_cons_zero, Act.put, List.setIfInBounds_toArray, List.set_cons_zero, List.set_cons_succ]))) | ((with_reducible show wpPlan _ _ _ _ _ _ _); refine wpPlan_fork ?_ ?_) | ((with_reducible show Owed _ _ _ [] _ _ _ _ _); refine Owed.none_ ?_) | ((with_reducible show Owed _ _ _ _ [] _ _ _ _); refine Owed.nil_ ?_) | ((with_reducible show Owed _ _ _ _ _ _ _ _ _); first | (refine Owed.miss rfl ?_) | (refine Owed.hit ?_ ?_)) | ((with_reducible show Same _ _ _ _ _); intro _; go_simp; done) | (with_reducible exact True.intro) | (at_builtin; refine appList_blk rfl slInt rfl (World.ownsRow.alloc HX7.out.own _) rfl (news := [.int .i64 z]) ((heap_alloc_at (by simp)) : Blk _ w7.heap.size _ _) rfl rfl (by simp [Value.oneCell']) (by decide) (by unfold maxLen; omega) (by omega) ?_; intro g8 c8 w8 hown8 hgrow8 hat8; refine Stop7.intro ?_))
          unfold Stop7
          have hO8 : Outside (fun x => (Value.slice Av k cv).ownBlock = some x) w7 w8 := ((Outside.refl (fun x => (Value.slice Av k cv).ownBlock = some x) w7).alloc (.cells #[.int .i64 z] 3)).grown hgrow8 (fun z hz => .inl hz)
          have hown9 : w8.ownsRow 0 3 1 (.slice (some ⟨g8, 0, none⟩) (k + 1) c8) (k + 1) (cellsOf ncell (szs ++ [z])) := by
            rw [cellsOf_append]
            exact hown8
          have HX8 := Lib.hid (HX7.out.app hO8 hown9 (fun x hx => by
            have h1 : g8 = x := by simpa [Value.ownBlock] using hx
            subst h1
            rcases hat8 with h | h
            · exact .inl h
            · refine .inr (Nat.le_trans ?_ h)
              simp))
          clear hO8 hown8 hown9 hgrow8 hat8
          go_wp2_with (first | ((with_reducible show wpPlan _ _ _ [] _ _ _); refine wpPlan_nil ?_) | ((with_reducible show wpPlan _ _ _ ((_, 0, _) :: _) _ _ _); first | (refine wpPlan_read0 rfl ?hw rfl (fun _ _ _ => ?_); case hw => ((conv => (lhs; whnf)); first | done | with_reducible rfl)) | (refine wpPlan_skip0 rfl ?hw ?_; (case hw => ((conv => (lhs; whnf)); first | done | with_reducible rfl)); (try simp only [List.getElem_toArray, List.getElem_cons_succ, List.getElem_cons_zero, Act.put, List.setIfInBounds_toArray, List.set_cons_zero, List.set_cons_succ]))) | ((with_reducible show wpPlan _ _ _ ((_, 1, _) :: _) _ _ _); first | (refine wpPlan_read1d rfl ?hw rfl rfl (fun _ _ _ => ?_); case hw => ((conv => (lhs; whnf)); first | done | with_reducible rfl)) | (refine wpPlan_skip1d rfl ?hw ?_; (case hw => ((conv => (lhs; whnf)); first | done | with_reducible rfl)); (try simp only [List.getElem_toArray, List.getElem_cons_succ, List.getElem_cons_zero, Act.put, List.setIfInBounds_toArray, List.set_cons_zero, List.set_cons_succ])) | (refine wpPlan_read1 rfl ?hw rfl (fun _ _ _ => ?_); case hw => ((conv => (lhs; whnf)); first | done | with_reducible rfl))) | ((with_reducible show wpPlan _ _ _ ((_, 2, _) :: _) _ _ _); first | (refine wpPlan_eff rfl ?hw (fun _ _ => ?_); case hw => ((conv => (lhs; whnf)); first | done | with_reducible rfl)) | (refine wpPlan_skip2 rfl ?hw ?_; (case hw => ((conv => (lhs; whnf)); first | done | with_reducible rfl)); (try simp only [List.getElem_toArray, List.getElem_cons_succ, List.getElem_cons_zero, Act.put, List.setIfInBounds_toArray, List.set_cons_zero, List.set_cons_succ]))) | ((with_reducible show wpPlan _ _ _ _ _ _ _); refine wpPlan_fork ?_ ?_) | ((with_reducible show Owed _ _ _ [] _ _ _ _ _); refine Owed.none_ ?_) | ((with_reducible show Owed _ _ _ _ [] _ _ _ _); refine Owed.nil_ ?_) | ((with_reducible show Owed _ _ _ _ _ _ _ _ _); first | (refine Owed.miss rfl ?_) | (refine Owed.hit ?_ ?_)) | ((with_reducible show Same _ _ _ _ _); intro _; go_simp; done) | (with_reducible exact True.intro))
          go_roundw
          case rel => exact ⟨k + 1, p7, b7, szs ++ [z], by omega, by go_num, HX8, HS7⟩
          case measure => simp [intOf]; omega
        · have hkm : k = G := by omega
          subst hkm
          go_wp2_with fail
          refine bodyPost_ret (v := .tuple #[.int .i64 st, .int .i64 ar, .slice Av k cv]) (by simp [results, Try.results47, go_sem]) rfl ?_
          refine ⟨st, ar, _, szs, q, bk, rfl, by rw [HS.out.1]; exact HW.out.own, HW.out.base, hst, har, by rw [HS.out.1, HGG.out], HS.out.2.1, HW.out.rd, HW.out.out, fun ls rest hG => ?_⟩
          obtain ⟨e1, e2, e3⟩ := HS.out.2.2 ls rest hG
          obtain ⟨f1, f2, _, _⟩ := HE5.out ls rest hG
          have f3 : k = (ls.length + 15) / 16 := by rw [← f1, HGG.out]
          rw [← f3]
          exact ⟨f1, f2, e2, e3, e1⟩
  · have HX := Lib.hid (H1.out.put2 true)
    have HOX := Lib.hid (HO1.out.setCell (p := ⟨g, 2, none⟩) (.inl rfl) (.bool true))
    have HEX := Lib.hid (show ∀ ls rest, HeadG bad l p ls rest → true = false ∧ p1 = p + 2 from fun ls rest hG => by
      have := (HG1.out ls rest hG).2.1
      omega)
    go_wp2_with fail
    refine (ruv_any B g A n c p1 l true 16384 _ HX.out hn (by decide)).mono ?_
    rintro e w4 ⟨st, p4, b4, rfl, hst, hR4, hO4, _, _, hz4, hex4⟩
    have H4 := Lib.hid hR4
    have HO4 := Lib.hid (HOX.out.trans hO4)
    have HE4 := Lib.hid (show ∀ ls rest, HeadG bad l p ls rest → st = ls.length ∧ b4 = false ∧ l.drop p4 = uv (total ls) ++ (sizesB ls ((ls.length + 15) / 16) ++ rest) ∧ p4 = p + 2 + (uv ls.length).length from fun ls rest hG => by
      obtain ⟨t, h1, h2⟩ := hG.two
      obtain ⟨e1, e2⟩ := HEX.out ls rest hG
      obtain ⟨_, h3⟩ := drop_get h1
      obtain ⟨_, h4⟩ := drop_get h3
      have h5 : l.drop p1 = uv ls.length ++ (uv (total ls) ++ (sizesB ls ((ls.length + 15) / 16) ++ rest)) := by
        rw [e2, ← h2]
        exact h4
      obtain ⟨f1, f2, f3⟩ := hex4 _ _ e1 h5 hG.n2
      exact ⟨f1, f3, by rw [f2]; exact drop_app h5, by omega⟩)
    clear hR4 hO4 hex4 hz4
    go_wp2_with fail
    refine (ruv_any B g A n c p4 l b4 262144 _ H4.out hn (by decide)).mono ?_
    rintro e w5 ⟨ar, p5, b5, rfl, har, hR5, hO5, _, _, hz5, hex5⟩
    have H5 := Lib.hid hR5
    have HO5 := Lib.hid (HO4.out.trans hO5)
    have HE5 := Lib.hid (show ∀ ls rest, HeadG bad l p ls rest → st = ls.length ∧ ar = total ls ∧ b5 = false ∧ p5 = p + (headB ls).length from fun ls rest hG => by
      obtain ⟨e1, e2, e3, e4⟩ := HE4.out ls rest hG
      obtain ⟨f1, f2, f3⟩ := hex5 _ _ e2 e3 hG.few
      have := hG.len
      exact ⟨e1, f1, f3, by omega⟩)
    clear hR5 hO5 hex5 hz5
    go_wp2_with fail
    refine (groups_any st _ (by omega)).mono ?_
    rintro e w6 ⟨rfl, rfl⟩
    obtain ⟨G, hG⟩ : ∃ G, (st + 15) / 16 = G := ⟨_, rfl⟩
    have HGG := Lib.hid hG
    have hG2 : G ≤ 2000 := by omega
    have HZ := Lib.hid (show HdAt w w5 B g A n c l p5 b5 (.slice none 0 0) 0 [] from ⟨World.ownsRow_nil _ _ _ _, fun x hx => absurd hx (by simp [Value.ownBlock]), H5.out, HO5.out, hgl⟩)
    rw [hG]
    clear hG
    go_wp2_with fail
    go_loopw [4, 22] (fun v vk wr => ∃ (k q : Nat) (bk : Bool) (szs : List Nat), k ≤ G ∧ vk = .int .i64 k ∧ Hid (HdAt w wr B g A n c l q bk v k szs) ∧
      Hid (szs.length = k ∧ (∀ z ∈ szs, z ≤ 1048576) ∧ ∀ ls rest, HeadG bad l p ls rest → bk = false ∧ szs = (List.range k).map (gsz ls) ∧ q = p + (headB ls).length + (sizesB ls k).length)) (fun _ vk _ => G - (intOf vk).toNat)
    case atStart => exact ⟨0, p5, b5, [], Nat.zero_le _, rfl, HZ, Lib.hid ⟨rfl, fun z hz => (by cases hz), fun ls rest hG => by
      obtain ⟨_, _, e3, e4⟩ := HE5.out ls rest hG
      exact ⟨e3, rfl, by rw [e4]; rfl⟩⟩⟩
    case round =>
      obtain ⟨k, q, bk, szs, hk, rfl, HW, HS⟩ := hrel
      obtain ⟨Av, cv, rfl, hkc, _⟩ := own_form HW.out.own
      by_cases hlt : k < G
      · go_wp2_with fail
        refine (ruv_any B g A n c q l bk 1048576 _ HW.out.rd hn (by decide)).mono ?_
        rintro e w7 ⟨z, p7, b7, rfl, hz, hR7, hO7, _, _, hz7, hex7⟩
        have HX7 := Lib.hid (HW.out.step hR7 hO7)
        have HS7 := Lib.hid (show (szs ++ [z]).length = k + 1 ∧ (∀ y ∈ szs ++ [z], y ≤ 1048576) ∧ ∀ ls rest, HeadG bad l p ls rest → b7 = false ∧ szs ++ [z] = (List.range (k + 1)).map (gsz ls) ∧ p7 = p + (headB ls).length + (sizesB ls (k + 1)).length from by
          refine ⟨by rw [List.length_append, HS.out.1]; rfl, fun y hy => ?_, fun ls rest hG => ?_⟩
          · rcases List.mem_append.1 hy with h | h
            · exact HS.out.2.1 y h
            · rw [List.mem_singleton.1 h]; exact hz
          · obtain ⟨e1, e2, e3⟩ := HS.out.2.2 ls rest hG
            have e4 := (HE5.out ls rest hG).1
            obtain ⟨t, ht⟩ := hG.size (k := k) (by rw [← e4, HGG.out]; exact hlt)
            obtain ⟨f1, f2, f3⟩ := hex7 _ t e1 (by rw [e3]; exact ht) (hG.sz k)
            refine ⟨f3, by rw [List.range_succ, List.map_append, ← e2, f1]; rfl, ?_⟩
            rw [sizesB_next, List.length_append]
            omega)
        clear hR7 hO7 hex7 hz7
        go_wp2_with (first | ((with_reducible show wpPlan _ _ _ [] _ _ _); refine wpPlan_nil ?_) | ((with_reducible show wpPlan _ _ _ ((_, 0, _) :: _) _ _ _); first | (refine wpPlan_read0 rfl ?hw rfl (fun _ _ _ => ?_); case hw => ((conv => (lhs; whnf)); first | done | with_reducible rfl)) | (refine wpPlan_skip0 rfl ?hw ?_; (case hw => ((conv => (lhs; whnf)); first | done | with_reducible rfl)); (try simp only [List.getElem_toArray, List.getElem_cons_succ, List.getElem_cons_zero, Act.put, List.setIfInBounds_toArray, List.set_cons_zero, List.set_cons_succ]))) | ((with_reducible show wpPlan _ _ _ ((_, 1, _) :: _) _ _ _); first | (refine wpPlan_read1d rfl ?hw rfl rfl (fun _ _ _ => ?_); case hw => ((conv => (lhs; whnf)); first | done | with_reducible rfl)) | (refine wpPlan_skip1d rfl ?hw ?_; (case hw => ((conv => (lhs; whnf)); first | done | with_reducible rfl)); (try simp only [List.getElem_toArray, List.getElem_cons_succ, List.getElem_cons_zero, Act.put, List.setIfInBounds_toArray, List.set_cons_zero, List.set_cons_succ])) | (refine wpPlan_read1 rfl ?hw rfl (fun _ _ _ => ?_); case hw => ((conv => (lhs; whnf)); first | done | with_reducible rfl))) | ((with_reducible show wpPlan _ _ _ ((_, 2, _) :: _) _ _ _); first | (refine wpPlan_eff rfl ?hw (fun _ _ => ?_); case hw => ((conv => (lhs; whnf)); first | done | with_reducible rfl)) | (refine wpPlan_skip2 rfl ?hw ?_; (case hw => ((conv => (lhs; whnf)); first | done | with_reducible rfl)); (try simp only [List.getElem_toArray, List.getElem_cons_succ, List.getElem_cons_zero, Act.put, List.setIfInBounds_toArray, List.set_cons_zero, List.set_cons_succ]))) | ((with_reducible show wpPlan _ _ _ _ _ _ _); refine wpPlan_fork ?_ ?_) | ((with_reducible show Owed _ _ _ [] _ _ _ _ _); refine Owed.none_ ?_) | ((with_reducible show Owed _ _ _ _ [] _ _ _ _); refine Owed.nil_ ?_) | ((with_reducible show Owed _ _ _ _ _ _ _ _ _); first | (refine Owed.miss rfl ?_) | (refine Owed.hit ?_ ?_)) | ((with_reducible show Same _ _ _ _ _); intro _; go_simp; done) | (with_reducible exact True.intro) | (at_builtin; refine appList_blk rfl slInt rfl (World.ownsRow.alloc HX7.out.own _) rfl (news := [.int .i64 z]) ((heap_alloc_at (by simp)) : Blk _ w7.heap.size _ _) rfl rfl (by simp [Value.oneCell']) (by decide) (by unfold maxLen; omega) (by omega) ?_; intro g8 c8 w8 hown8 hgrow8 hat8; refine Stop7.intro ?_))
        unfold Stop7
        have hO8 : Outside (fun x => (Value.slice Av k cv).ownBlock = some x) w7 w8 := ((Outside.refl (fun x => (Value.slice Av k cv).ownBlock = some x) w7).alloc (.cells #[.int .i64 z] 3)).grown hgrow8 (fun z hz => .inl hz)
        have hown9 : w8.ownsRow 0 3 1 (.slice (some ⟨g8, 0, none⟩) (k + 1) c8) (k + 1) (cellsOf ncell (szs ++ [z])) := by
          rw [cellsOf_append]
          exact hown8
        have HX8 := Lib.hid (HX7.out.app hO8 hown9 (fun x hx => by
          have h1 : g8 = x := by simpa [Value.ownBlock] using hx
          subst h1
          rcases hat8 with h | h
          · exact .inl h
          · refine .inr (Nat.le_trans ?_ h)
            simp))
        clear hO8 hown8 hown9 hgrow8 hat8
        go_wp2_with (first | ((with_reducible show wpPlan _ _ _ [] _ _ _); refine wpPlan_nil ?_) | ((with_reducible show wpPlan _ _ _ ((_, 0, _) :: _) _ _ _); first | (refine wpPlan_read0 rfl ?hw rfl (fun _ _ _ => ?_); case hw => ((conv => (lhs; whnf)); first | done | with_reducible rfl)) | (refine wpPlan_skip0 rfl ?hw ?_; (case hw => ((conv => (lhs; whnf)); first | done | with_reducible rfl)); (try simp only [List.getElem_toArray, List.getElem_cons_succ, List.getElem_cons_zero, Act.put, List.setIfInBounds_toArray, List.set_cons_zero, List.set_cons_succ]))) | ((with_reducible show wpPlan _ _ _ ((_, 1, _) :: _) _ _ _); first | (refine wpPlan_read1d rfl ?hw rfl rfl (fun _ _ _ => ?_); case hw => ((conv => (lhs; whnf)); first | done | with_reducible rfl)) | (refine wpPlan_skip1d rfl ?hw ?_; (case hw => ((conv => (lhs; whnf)); first | done | with_reducible rfl)); (try simp only [List.getElem_toArray, List.getElem_cons_succ, List.getElem_cons_zero, Act.put, List.setIfInBounds_toArray, List.set_cons_zero, List.set_cons_succ])) | (refine wpPlan_read1 rfl ?hw rfl (fun _ _ _ => ?_); case hw => ((conv => (lhs; whnf)); first | done | with_reducible rfl))) | ((with_reducible show wpPlan _ _ _ ((_, 2, _) :: _) _ _ _); first | (refine wpPlan_eff rfl ?hw (fun _ _ => ?_); case hw => ((conv => (lhs; whnf)); first | done | with_reducible rfl)) | (refine wpPlan_skip2 rfl ?hw ?_; (case hw => ((conv => (lhs; whnf)); first | done | with_reducible rfl)); (try simp only [List.getElem_toArray, List.getElem_cons_succ, List.getElem_cons_zero, Act.put, List.setIfInBounds_toArray, List.set_cons_zero, List.set_cons_succ]))) | ((with_reducible show wpPlan _ _ _ _ _ _ _); refine wpPlan_fork ?_ ?_) | ((with_reducible show Owed _ _ _ [] _ _ _ _ _); refine Owed.none_ ?_) | ((with_reducible show Owed _ _ _ _ [] _ _ _ _); refine Owed.nil_ ?_) | ((with_reducible show Owed _ _ _ _ _ _ _ _ _); first | (refine Owed.miss rfl ?_) | (refine Owed.hit ?_ ?_)) | ((with_reducible show Same _ _ _ _ _); intro _; go_simp; done) | (with_reducible exact True.intro))
        go_roundw
        case rel => exact ⟨k + 1, p7, b7, szs ++ [z], by omega, by go_num, HX8, HS7⟩
        case measure => simp [intOf]; omega
      · have hkm : k = G := by omega
        subst hkm
        go_wp2_with fail
        refine bodyPost_ret (v := .tuple #[.int .i64 st, .int .i64 ar, .slice Av k cv]) (by simp [results, Try.results47, go_sem]) rfl ?_
        refine ⟨st, ar, _, szs, q, bk, rfl, by rw [HS.out.1]; exact HW.out.own, HW.out.base, hst, har, by rw [HS.out.1, HGG.out], HS.out.2.1, HW.out.rd, HW.out.out, fun ls rest hG => ?_⟩
        obtain ⟨e1, e2, e3⟩ := HS.out.2.2 ls rest hG
        obtain ⟨f1, f2, _, _⟩ := HE5.out ls rest hG
        have f3 : k = (ls.length + 15) / 16 := by rw [← f1, HGG.out]
        rw [← f3]
        exact ⟨f1, f2, e2, e3, e1⟩

end Go.Proofs.Ytonpdclccgpceaa
