/- packed systems that are opened: Clone, where the groups stand, States, Arcs -/
import Derived.Test.YtonpdclccgpceaaRwH4
namespace Go.Proofs.Ytonpdclccgpceaa
open Go Go.RowKit
set_option maxHeartbeats 8000000

/-- where the rows of group k stand -/
def startK (ls : List (List Arc)) (k : Nat) : Nat := (headB ls).length + (sizesB ls ((ls.length + 15) / 16)).length + (((rowsOf ls).take (16 * k)).flatten).length
theorem startK_zero (ls : List (List Arc)) : startK ls 0 = 0 + (headB ls).length + (sizesB ls ((ls.length + 15) / 16)).length := by simp [startK]
theorem startK_next (ls : List (List Arc)) (k : Nat) : startK ls (k + 1) = startK ls k + gsz ls k := by
  have h : (rowsOf ls).take (16 * (k + 1)) = (rowsOf ls).take (16 * k) ++ ((rowsOf ls).drop (16 * k)).take 16 := by
    rw [Nat.mul_succ, List.take_add]
  rw [startK, startK, gsz, h, List.flatten_append, List.length_append]
  omega
theorem packB_cut (ls : List (List Arc)) (k : Nat) : packB ls = (headB ls ++ sizesB ls ((ls.length + 15) / 16) ++ ((rowsOf ls).take (16 * k)).flatten) ++ (((rowsOf ls).drop (16 * k)).flatten ++ sum4 (crcF (bodyB ls))) := by
  have e : (rowsOf ls).flatten = ((rowsOf ls).take (16 * k)).flatten ++ ((rowsOf ls).drop (16 * k)).flatten := by
    rw [← List.flatten_append, List.take_append_drop]
  obtain ⟨x, hx⟩ : ∃ x, sum4 (crcF (bodyB ls)) = x := ⟨_, rfl⟩
  rw [packB, sealB, hx, bodyB, e]
  simp only [List.append_assoc]
theorem startK_drop (ls : List (List Arc)) (k : Nat) : (packB ls).drop (startK ls k) = ((rowsOf ls).drop (16 * k)).flatten ++ sum4 (crcF (bodyB ls)) := by
  have h : startK ls k = (headB ls ++ sizesB ls ((ls.length + 15) / 16) ++ ((rowsOf ls).take (16 * k)).flatten).length := by
    rw [startK]
    simp only [List.length_append]
  rw [h, packB_cut ls k]
  exact List.drop_left
theorem startK_le (ls : List (List Arc)) (k : Nat) : startK ls k ≤ (packB ls).length := by
  have h := congrArg List.length (packB_cut ls k)
  simp only [List.length_append] at h
  rw [startK]
  omega

/-- an opened system -/
structure OpAt (w : World) (W g : Nat) (vb vs : Value) (ls : List (List Arc)) : Prop where
  blk : Blk w g 78 #[vb, .int .i64 ls.length, .int .i64 (total ls), vs]
  own : Own w vb (packB ls)
  base : ∀ x, vb.ownBlock = some x → W ≤ x
  st : w.ownsRow 0 3 1 vs ((ls.length + 15) / 16) (cellsOf ncell ((List.range ((ls.length + 15) / 16)).map (startK ls)))
  sbase : ∀ x, vs.ownBlock = some x → W ≤ x
  lo : W ≤ g
section
variable {w w' : World} {W g : Nat} {vb vs : Value} {ls : List (List Arc)} {R : Nat → Prop}
theorem OpAt.out (h : OpAt w W g vb vs ls) (hO : Outside R w w') (hR : ∀ k, W ≤ k → k < w.heap.size → ¬ R k) : OpAt w' W g vb vs ls :=
  ⟨h.blk.out hO (hR g h.lo h.blk.lt), own_out h.own hO fun x hx => hR x (h.base x hx) (own_lt h.own hx), h.base, own_out h.st hO fun x hx => hR x (h.sbase x hx) (own_lt h.st hx), h.sbase, h.lo⟩
theorem OpAt.below (h : OpAt w W g vb vs ls) (hb : Below w.heap.size w w') : OpAt w' W g vb vs ls := h.out (Below.new hb) (fun _ _ _ e => e)
end
theorem Rd.nat {w : World} {B n : Nat} {A : Option Addr} {l : List Nat} (h : Rd w B 1 A n (cellsOf ncell l)) {i : Nat} (hi : i < n) :
    ∃ b off t, A = some ⟨b, off, none⟩ ∧ b < B ∧ l[i]? = some t ∧ w.cell? ⟨b, off + i, none⟩ = some (.int .i64 (t : Nat)) := by
  obtain ⟨b, off, t, e, hb, hl, hc⟩ := h.at_ ncell_len (by decide) hi
  refine ⟨b, off, t, e, hb, hl, ?_⟩
  have := hc 0 _ rfl
  simpa using this

set_option maxRecDepth 100000 in
theorem bclone_any (ad : Addr) (n c B : Nat) (l : List Nat) (w : World) (h : Rd w B 1 (some ad) n (cellsOf ucell l)) (hB : B ≤ w.heap.size) (h0 : 0 < n) (hn : n ≤ 1000000000) :
    Calls Try.prog 55 #[.slice (some ad) n c] w (NewPost w l) := by
  have HN := Lib.hid (h.len ucell_len (by decide))
  have H := Lib.hid h
  have hown : (w.alloc (Obj.cells #[] 5)).ownsRow 0 5 1 (.slice (some ⟨w.heap.size, 0, none⟩) 0 0) 0 [] :=
    ⟨rfl, .inr ⟨w.heap.size, 0, #[], rfl, Nat.zero_le _, heap_alloc_new w _, Nat.le_refl _, by simp [maxLen], rfl, rfl⟩⟩
  have HOW := Lib.hid hown
  clear h hown
  have ke : (binOp .eql 33 (.slice (some ad) n c) (.slice none 0 0)).run Try.prog w = .ok (.bool false) w := Lib.run_eql_slice_nil w 33 5 (some ad) n c 0 0 Try.underlying33
  go_enter Try.func55, Try.ntmps55
  go_wp2_with (first
    | (at_builtin; refine appList_rd rfl slByte rfl HOW.out rfl (H.out.alloc hB (Obj.cells #[] 5)) (c := c) rfl (ucell_ones l) (by unfold maxLen; omega) (by omega) ?_; intro v7 w7 hown7 hgrow7 hat7; rw [Nat.zero_add] at hown7; obtain ⟨A7, c7, rfl, _, hlt7⟩ := own_form hown7))
  have hO7 : Outside (fun k => k = w.heap.size) w w7 := ((Outside.refl (fun k => k = w.heap.size) w).alloc (.cells #[] 5)).grown hgrow7 (fun z hz => by
    have h1 : w.heap.size = z := by simpa [Value.ownBlock] using hz
    exact .inl h1.symm)
  have HF := Lib.hid (show Own w7 (.slice A7 n c7) l ∧ Below w.heap.size w w7 ∧ ∀ g, (Value.slice A7 n c7).ownBlock = some g → w.heap.size ≤ g from
    ⟨by
      unfold Own
      rw [HN.out]
      exact hown7, hO7.below (Nat.le_refl _) (fun k hk e => by omega), fun g hg => by
      rcases hat7 with h1 | h1
      · rw [h1] at hg
        have h2 : w.heap.size = g := by simpa [Value.ownBlock] using hg
        omega
      · rw [h1] at hg
        simp at hg
        omega⟩)
  clear hO7 hown7 hgrow7 hat7
  go_ret
  exact ⟨_, rfl, HF.out⟩
theorem states_any (W g : Nat) (vb vs : Value) (ls : List (List Arc)) (w : World) (h : OpAt w W g vb vs ls) :
    Calls Try.prog 29 #[.pointer (some ⟨g, 0, none⟩)] w fun e w' => e = .returned (.int .i64 ls.length) ∧ w = w' := by
  have hc := h.blk.cell
  have hl := h.blk.lt
  clear h
  go_enter Try.func29, Try.ntmps29
  go_wp2_with fail
  go_ret
  exact ⟨rfl, rfl⟩
theorem arcs_any (W g : Nat) (vb vs : Value) (ls : List (List Arc)) (w : World) (h : OpAt w W g vb vs ls) :
    Calls Try.prog 30 #[.pointer (some ⟨g, 0, none⟩)] w fun e w' => e = .returned (.int .i64 (total ls)) ∧ w = w' := by
  have hc := h.blk.cell
  have hl := h.blk.lt
  clear h
  go_enter Try.func30, Try.ntmps30
  go_wp2_with fail
  go_ret
  exact ⟨rfl, rfl⟩

end Go.Proofs.Ytonpdclccgpceaa
