/- Remove: the reference's -/
import Derived.Test.YtgfhkaamkodpjaaDoorBal
import Derived.Test.YtgfhkaamkodpjaaDoorSc7
namespace Go.Proofs.YtgfhkaamkodpjaaDoor
open Go Go.RowKit
set_option maxHeartbeats 4000000
attribute [local irreducible] kwB syB clB

/-- one of the kinds that Insert adds -/
def insT (t : Tok) : Bool := decide (5 ≤ t.kind ∧ t.kind ≤ 7)
def remS (l : List Tok) : List Tok := l.filter fun t => !insT t
theorem remS_hit {l : List Tok} {k : Nat} {t : Tok} (h : l[k]? = some t) (ht : insT t = true) : remS (l.take (k + 1)) = remS (l.take k) := by
  obtain ⟨hk, he⟩ := List.getElem?_eq_some_iff.1 h
  rw [List.take_succ_eq_append_getElem hk, he, remS, List.filter_append]
  simp [remS, ht]
theorem remS_miss {l : List Tok} {k : Nat} {t : Tok} (h : l[k]? = some t) (ht : insT t = false) : remS (l.take (k + 1)) = remS (l.take k) ++ [t] := by
  obtain ⟨hk, he⟩ := List.getElem?_eq_some_iff.1 h
  rw [List.take_succ_eq_append_getElem hk, he, remS, List.filter_append]
  simp [remS, ht]
theorem remS_len (l : List Tok) (k : Nat) : (remS (l.take k)).length ≤ k := by
  have h : (remS (l.take k)).length ≤ (l.take k).length := List.length_filter_le _ _
  rw [List.length_take] at h
  omega

theorem rremove_any (A : Option Addr) (n c B : Nat) (l : List Tok) (w : World) (h : Rd w B 5 A n (cellsOf Tok.cells l)) (hB : B ≤ w.heap.size) (hn : n ≤ 1000000000) :
    Calls Tryd.prog 24 #[.slice A n c] w fun e w' => ∃ A' n' c', e = .returned (.slice A' n' c') ∧ Rd w' w'.heap.size 5 A' n' (cellsOf Tok.cells (remS l)) ∧ Below w.heap.size w w' := by
  have hl := h.len Tok.cells_len (by decide)
  have H := Lib.hid h
  have HL := Lib.hid hl
  clear h hl
  go_enter Tryd.func24, Tryd.ntmps24
  go_wp2
  go_loopw [3, 4] (fun vo vk wr => ∃ k : Nat, k ≤ n ∧ vk = .int .i64 k ∧ wr.ownsRow 0 40 5 vo (remS (l.take k)).length (cellsOf Tok.cells (remS (l.take k))) ∧ (∀ g, vo.ownBlock = some g → w.heap.size ≤ g) ∧ Below w.heap.size w wr) (fun _ vk _ => n - (intOf vk).toNat)
  case atStart => exact ⟨0, Nat.zero_le _, rfl, World.ownsRow_nil _ _ _ _, fun g hg => (by cases hg), Below.refl _ _⟩
  case round =>
    obtain ⟨k, hk, rfl, hown, holo, hbl⟩ := hrel
    have HBL := Lib.hid hbl
    have HOW := Lib.hid hown
    have HLO := Lib.hid holo
    have hrl := remS_len l k
    obtain ⟨Ao, capo, rfl, _, _⟩ := own_form hown
    by_cases hlt : k < n
    · obtain ⟨b1, o1, t, rfl, hb1, ht, c0, c1, c2, c3, c4⟩ := (H.out.keep (w' := wr) (fun p hp => hbl.cell (by omega))).tok hlt
      have HR := Lib.hid (H.out.keep (w' := wr) (fun p hp => hbl.cell (by omega)))
      obtain ⟨q, hq⟩ : ∃ q, insT t = q := ⟨_, rfl⟩
      have HQ := Lib.hid hq
      have HT := Lib.hid ht
      clear hbl hown holo hq ht
      go_wp2_with fail
      refine (rinserted_any t _).mono ?_
      rw [show decide (5 ≤ t.kind ∧ t.kind ≤ 7) = insT t from rfl, HQ.out]
      rintro e w2 ⟨rfl, hb2⟩
      have HB2 := Lib.hid hb2
      have hown2 := own_out HOW.out (Below.new hb2) (fun _ _ h => h)
      have HOW2 := Lib.hid hown2
      have HBL2 := Lib.hid (HBL.out.trans (hb2.mono HBL.out.size))
      cases q
      · have d0 : w2.cell? ⟨b1, o1 + k * 5, none⟩ = some (.int .i64 t.kind) := (hb2.cell (p := ⟨b1, o1 + k * 5, none⟩) (by have := HBL.out.size; dsimp only; omega)).trans c0
        have d1 : w2.cell? ⟨b1, o1 + k * 5 + 1, none⟩ = some (.int .i64 t.int) := (hb2.cell (p := ⟨b1, o1 + k * 5 + 1, none⟩) (by have := HBL.out.size; dsimp only; omega)).trans c1
        have d2 : w2.cell? ⟨b1, o1 + k * 5 + 2, none⟩ = some (.string t.str) := (hb2.cell (p := ⟨b1, o1 + k * 5 + 2, none⟩) (by have := HBL.out.size; dsimp only; omega)).trans c2
        have d3 : w2.cell? ⟨b1, o1 + k * 5 + 3, none⟩ = some (.int .i64 t.pos.line) := (hb2.cell (p := ⟨b1, o1 + k * 5 + 3, none⟩) (by have := HBL.out.size; dsimp only; omega)).trans c3
        have d4 : w2.cell? ⟨b1, o1 + k * 5 + 4, none⟩ = some (.int .i64 t.pos.col) := (hb2.cell (p := ⟨b1, o1 + k * 5 + 4, none⟩) (by have := HBL.out.size; dsimp only; omega)).trans c4
        clear hb2 hown2 c0 c1 c2 c3 c4
        go_wp2_with (first | (at_builtin; refine appList_blk rfl slTok rfl (HOW2.out.alloc _) rfl (news := t.cells) ((heap_alloc_at rfl) : Blk _ w2.heap.size _ _) rfl rfl (by simp [Tok.cells, Value.oneCell']) (by decide) (by unfold maxLen; omega) (by omega) ?_; intro g7 cap7 w7 hown7 hgrow7 hat7))
        go_roundw
        case rel =>
          refine ⟨k + 1, by omega, by go_num, ?_, fun g hg => ?_, ?_⟩
          · rw [remS_miss HT.out HQ.out]
            simpa [cellsOf] using hown7
          · cases hg
            rcases hat7 with h1 | h1
            · exact HLO.out _ h1
            · have := HBL2.out.size
              simp at h1
              show w.heap.size ≤ g7
              omega
          · have hbb := HBL2.out.alloc HBL2.out.size (.cells t.cells.toArray 40)
            have hO : Outside (fun z => (Value.slice Ao (remS (l.take k)).length capo).ownBlock = some z) _ w7 := (Outside.refl _ _).grown hgrow7 (fun z hz => .inl hz)
            exact hbb.trans (hO.below hbb.size (fun z hz e => by have := HLO.out z e; omega))
        case measure => simp [intOf]; omega
      · clear hb2 hown2 c0 c1 c2 c3 c4
        go_wp2_with fail
        go_roundw
        case rel => exact ⟨k + 1, by omega, by go_num, by rw [remS_hit HT.out HQ.out]; exact HOW2.out, HLO.out, HBL2.out⟩
        case measure => simp [intOf]; omega
    · have hk2 : l.take k = l := List.take_of_length_le (by have := HL.out; omega)
      have HRD : Hid (Rd wr wr.heap.size 5 Ao (remS (l.take k)).length (cellsOf Tok.cells (remS l))) := Lib.hid (by have := Rd.ofOwn HOW.out; rw [hk2] at this ⊢; exact this)
      clear hk2 hbl hown holo
      go_wp2_with fail
      go_ret
      exact ⟨_, _, _, rfl, HRD.out, HBL.out⟩

end Go.Proofs.YtgfhkaamkodpjaaDoor
