/- the formula that tells two states apart: finder.add -/
import Derived.Test.YtmciinikfjfegaaSgW9
namespace Go.Proofs.Ytmciinikfjfegaa
open Go Go.RowKit
set_option maxHeartbeats 8000000

def FNode.cells (x : FNode) : List Value := [.int .i64 x.op, .int .i64 x.ev, .int .i64 x.kids]
theorem FNode.cells_len (x : FNode) : x.cells.length = 3 := rfl
theorem infoFN : (Try.prog.info? 58).map (fun i => (i.zero, i.size, i.bytes)) = some (some (.agg #[.int .i64 0, .int .i64 0, .int .i64 0]), 3, 24) := by kernel_rfl
theorem slFN : SlT Try.prog 52 58 3 24 := SlT.of Try.underlying52 infoFN rfl (by decide)

section
variable {ls : List (List Arc)} {K : Nat}
theorem clK_stays (hd : DoneR ls K) : ∀ j, clK ls (K + j) = clK ls K
  | 0 => rfl
  | j + 1 => by
    have ih := clK_stays hd j
    have h1 : clK ls (K + j + 1) = (numK (keyS ls (clK ls (K + j))) ls.length).1 := rfl
    rw [show K + (j + 1) = K + j + 1 by omega, h1, ih]
    exact hd.2
theorem last_lt (hd : DoneR ls K) {s t k : Nat} (h : IsLast ls s t k) : k < K := by
  apply Nat.lt_of_not_le
  intro hc
  have h1 := clK_stays hd (k - K)
  have h2 := clK_stays hd (k + 1 - K)
  rw [show K + (k - K) = k by omega] at h1
  rw [show K + (k + 1 - K) = k + 1 by omega] at h2
  apply h.2
  rw [agr, h2, ← h1]
  exact h.1
theorem last_is (hd : DoneR ls K) {s t k k' : Nat} (hs : s < ls.length) (ht : t < ls.length) (h : IsLast ls s t k) (hk : k' ≤ K) (h1 : agr ls k' s t) (h2 : k' < K → ¬ agr ls (k' + 1) s t) : k' = k := by
  have hl := last_lt hd h
  by_cases e : k' < K
  · exact IsLast.unique hs ht ⟨h1, h2 e⟩ h
  · obtain rfl : k' = K := by omega
    exact absurd (agr_le hs ht (by omega) h1) h.2
end
/-- what add gives: the formula is appended, or it would be too long -/
def AddPost (w : World) (f n K : Nat) (ls : List (List Arc)) (AL AR : Option Addr) (cL cR : Nat) (vO : Value) (out : List FNode) (F : List FNode) (e : Ending) (w' : World) : Prop :=
  ∃ (q : Bool) (v' : Value) (o' : List FNode), e = .returned (.bool q) ∧ FinAt w' f AL n cL ls AR K cR v' ∧ w'.ownsRow 0 58 3 v' o'.length (cellsOf FNode.cells o') ∧ (∀ g, v'.ownBlock = some g → vO.ownBlock = some g ∨ w.heap.size ≤ g) ∧
    Outside (fun k => k = f ∨ vO.ownBlock = some k) w w' ∧ o'.length ≤ 4098 ∧ (q = true → o' = out ++ F ∧ o'.length ≤ 4096) ∧ (q = false → 4096 < out.length + F.length)
def AddOk (ls : List (List Arc)) (s t : Nat) (F : Form) : Prop :=
  ∀ (f n K : Nat) (AL AR : Option Addr) (cL cR : Nat) (vO : Value) (out : List FNode) (w : World), FinAt w f AL n cL ls AR K cR vO → OkL ls n → DoneR ls K → w.ownsRow 0 58 3 vO out.length (cellsOf FNode.cells out) →
    (∀ g, vO.ownBlock = some g → f < g) → out.length ≤ 4098 → Calls Try.prog 54 #[.pointer (some ⟨f, 0, none⟩), .int .i64 s, .int .i64 t] w (AddPost w f n K ls AL AR cL cR vO out F.enc)
theorem enc_pos : ∀ F : Form, 1 ≤ F.enc.length
  | .tru => by simp [Form.enc]
  | .may _ _ => by simp [Form.enc]
  | .neg _ => by simp [Form.enc]
  | .con _ => by simp [Form.enc]

theorem FinAt.put {w w' : World} {f n K cL cR : Nat} {AL AR : Option Addr} {ls : List (List Arc)} {vO : Value} (h : FinAt w f AL n cL ls AR K cR vO) (hO : Outside (fun x => vO.ownBlock = some x) w w') (hb : ∀ g, vO.ownBlock = some g → f < g) (v8 : Value) :
    FinAt (w'.setCell ⟨f, 2, none⟩ v8) f AL n cL ls AR K cR v8 := by
  have hfl := h.blk.lt
  have hbl : Below f w (w'.setCell ⟨f, 2, none⟩ v8) := (hO.below (Nat.le_of_lt hfl) (fun k hk e => by have := hb k e; omega)).setCell (p := ⟨f, 2, none⟩) (Nat.le_refl _) v8
  refine ⟨?_, h.sys.below hbl, h.rnd.below hbl⟩
  have h1 := (h.blk.out hO (fun e => by have := hb f e; omega)).put 2 v8
  exact h1

set_option maxRecDepth 100000 in
theorem add_neg {ls : List (List Arc)} {s t k : Nat} {g : Form} (hs : s < ls.length) (ht : t < ls.length) (hl : IsLast ls s t k) (hw : wit ls s t k = none) (ih : AddOk ls t s g) : AddOk ls s t (.neg g) := by
  intro f n K AL AR cL cR vO out w h ho hd hown hbase hlen
  have hfl := h.blk.lt
  have hfc := h.blk.cell
  have H := Lib.hid (And.intro h (And.intro ho (And.intro hd (And.intro hown hbase))))
  have HI := Lib.hid ih
  have HP := Lib.hid (And.intro hl hw)
  have hsn : s < n := by have := ho.len; omega
  have htn : t < n := by have := ho.len; omega
  have hK : K ≤ 100000 := by have := round_le hd.1; have := ho.len; have := ho.few; omega
  obtain ⟨A1, c1, rfl, _, _⟩ := own_form hown
  have HST := Lib.hid (And.intro hs ht)
  clear h ho hd hown hbase ih hl hw hs ht
  go_enter Try.func54, Try.ntmps54
  by_cases hbig : 4096 ≤ out.length
  · go_wp2_with fail
    go_ret
    exact ⟨false, _, out, ret_bool rfl, H.out.1, H.out.2.2.2.1, fun g hg => .inl hg, Outside.refl _ _, hlen, (fun e => by cases e), fun _ => by have := enc_pos (.neg g); omega⟩
  · go_wp2_with fail
    refine (last_any f s t n K ls AL AR cL cR _ w H.out.1 H.out.2.1.len hsn htn hK).mono ?_
    rintro e w2 ⟨⟨k', rfl, hk1, hk2, hk3⟩, hb2⟩
    obtain rfl := last_is H.out.2.2.1 HST.out.1 HST.out.2 HP.out.1 hk1 hk2 hk3
    have HF2 := Lib.hid (H.out.1.below hb2)
    have HO2 := Lib.hid (own_out H.out.2.2.2.1 (Below.new hb2) (fun _ _ e => e))
    have HB2 := Lib.hid hb2
    clear hk2 hk3 hb2 hfc
    go_wp2_with fail
    refine (witness_any f s t k' n K ls AL AR cL cR _ w2 HF2.out H.out.2.1 hsn htn hk1).mono ?_
    rintro e w3 ⟨hres, hb3⟩
    have hres2 : e = .returned (.tuple #[.agg #[.int .i64 0, .int .i64 0], .bool false]) := by
      rcases hres with ⟨a, h1, _⟩ | ⟨_, h1⟩
      · rw [HP.out.2] at h1
        cases h1
      · exact h1
    subst hres2
    have hs3 : w.heap.size ≤ w3.heap.size := Nat.le_trans HB2.out.size hb3.size
    have HF3 := Lib.hid ((HF2.out.below hb3).blk.alloc (.cells #[.int .i64 0, .int .i64 0] 23))
    have HO3 := Lib.hid (own_out HO2.out (Below.new hb3) (fun _ _ e => e))
    have HBB := Lib.hid hb3
    have HB3 := Lib.hid (HB2.out.trans (hb3.mono HB2.out.size))
    have hf3 : f < w3.heap.size := by omega
    clear hres hb3
    have f3c := HF3.out.cell 2
    have f3f := HF3.out.frozen 2
    have HO4 := Lib.hid (HO3.out.alloc (.cells #[.int .i64 0, .int .i64 0] 23))
    go_wp2_with (first | (at_builtin; go_must (refine appList_blk rfl slFN rfl (World.ownsRow.alloc HO4.out _) rfl (news := [.int .i64 3, .int .i64 0, .int .i64 1]) ((heap_alloc_at (by simp)) : Blk _ (w3.heap.size + 1) _ _) rfl rfl (by simp [Value.oneCell']) (by decide) (by unfold maxLen; omega) (by omega) ?_); intro g8 c8 w8 hown8 hgrow8 hat8; refine Stop7.intro ?_))
    unfold Stop7
    have hg8 : ((w3.alloc (.cells #[.int .i64 0, .int .i64 0] 23)).alloc (.cells #[.int .i64 3, .int .i64 0, .int .i64 1] 58)).grownBy w8 (Value.slice A1 out.length c1).ownBlock := hgrow8
    have hO8 : Outside (fun x => (Value.slice A1 out.length c1).ownBlock = some x) w3 w8 := (((Outside.refl (fun x => (Value.slice A1 out.length c1).ownBlock = some x) w3).alloc (.cells #[.int .i64 0, .int .i64 0] 23)).alloc (.cells #[.int .i64 3, .int .i64 0, .int .i64 1] 58)).grown hg8 (fun z hz => .inl hz)
    have hfrom : ∀ x, (Value.slice (some ⟨g8, 0, none⟩) (out.length + 1) c8).ownBlock = some x → (Value.slice A1 out.length c1).ownBlock = some x ∨ w.heap.size ≤ x := fun x hx => by
      have h1 : g8 = x := by simpa [Value.ownBlock] using hx
      rcases hat8 with h | h
      · exact .inl (by rw [← h1]; exact h)
      · simp at h
        exact .inr (by omega)
    have hbase8 : ∀ x, (Value.slice (some ⟨g8, 0, none⟩) (out.length + 1) c8).ownBlock = some x → f < x := fun x hx => by
      rcases hfrom x hx with h | h
      · exact H.out.2.2.2.2 x h
      · omega
    have ho8 : w8.ownsRow 0 58 3 (.slice (some ⟨g8, 0, none⟩) (out.length + 1) c8) (out ++ [FNode.mk 3 0 1]).length (cellsOf FNode.cells (out ++ [FNode.mk 3 0 1])) := by
      rw [cellsOf_append, List.length_append]
      exact hown8
    have hF3 := HF2.out.below HBB.out
    have hbk8 := hF3.blk.out hO8 (fun e => by have := H.out.2.2.2.2 f e; omega)
    have f8c := hbk8.cell 2
    have f8l := hbk8.lt
    have f8f := hbk8.frozen 2
    have HF8 := Lib.hid (hF3.put hO8 H.out.2.2.2.2 (.slice (some ⟨g8, 0, none⟩) (out.length + 1) c8))
    have HO9 := Lib.hid (own_setCell ho8 (p := ⟨f, 2, none⟩) (fun e => by have := hbase8 f e; omega) (.slice (some ⟨g8, 0, none⟩) (out.length + 1) c8))
    have HBS := Lib.hid hbase8
    have HFR := Lib.hid hfrom
    have HOA := Lib.hid (show Outside (fun k => k = f ∨ (Value.slice A1 out.length c1).ownBlock = some k ∨ w.heap.size ≤ k) w (w8.setCell ⟨f, 2, none⟩ (.slice (some ⟨g8, 0, none⟩) (out.length + 1) c8)) from
      (((Below.new HB3.out).mono (fun _ _ e => e.elim)).trans (hO8.mono (fun k _ e => .inr (.inl e)))).setCell (p := ⟨f, 2, none⟩) (.inl (.inl rfl)) _)
    clear hown8 hgrow8 hat8 hg8 hO8 hfrom hbase8 ho8 hF3 hbk8 f3c f3f
    go_wp2_with fail
    refine (HI.out f n K AL AR cL cR (.slice (some ⟨g8, 0, none⟩) (out.length + 1) c8) (out ++ [FNode.mk 3 0 1]) _ HF8.out H.out.2.1 H.out.2.2.1 HO9.out HBS.out (by simp; omega)).mono ?_
    rintro e w9 ⟨q, v9, o9, rfl, hF9, ho9, hfr9, hO9, hl9, ht9, hff9⟩
    have HZ := Lib.hid (show AddPost w f n K ls AL AR cL cR (.slice A1 out.length c1) out (Form.neg g).enc (.returned (.bool q)) w9 from by
      refine ⟨q, v9, o9, rfl, hF9, ho9, fun x hx => ?_, (HOA.out.trans (hO9.mono (fun k hk e => ?_))).mono (fun k hk e => ?_), hl9, fun e => ?_, fun e => ?_⟩
      · rcases hfr9 x hx with h | h
        · exact HFR.out x h
        · have := HOA.out.size
          exact .inr (by omega)
      · rcases e with e | e
        · exact .inl e
        · rcases HFR.out k e with h | h
          · exact .inr (.inl h)
          · exact .inr (.inr h)
      · rcases e with e | e | e
        · exact .inl e
        · exact .inr e
        · omega
      · obtain ⟨h1, h2⟩ := ht9 e
        refine ⟨?_, h2⟩
        rw [h1, Form.enc, List.append_assoc]
        rfl
      · have := hff9 e
        rw [Form.enc, List.length_cons]
        rw [List.length_append, List.length_singleton] at this
        omega)
    clear hF9 ho9 hfr9 hO9 hl9 ht9 hff9 f8c f8l f8f
    go_wp2_with fail
    go_ret
    exact HZ.out

end Go.Proofs.Ytmciinikfjfegaa
