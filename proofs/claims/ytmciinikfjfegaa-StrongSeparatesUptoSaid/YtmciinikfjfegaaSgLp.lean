/- laws of the Strong group: what stands in a round -/
import Derived.Test.YtmciinikfjfegaaSgWd
import Derived.Test.YtmciinikfjfegaaRwG6
import Derived.Test.YtmciinikfjfegaaRwGr
import Derived.Test.YtmciinikfjfegaaRwHu
namespace Go.Proofs.Ytmciinikfjfegaa
open Go Go.RowKit
set_option maxHeartbeats 4000000

theorem mem_total {l : List Arc} : ∀ {ls : List (List Arc)}, l ∈ ls → l.length ≤ total ls
  | [], h => by cases h
  | x :: ls, h => by
    rw [total_cons]
    rcases List.mem_cons.1 h with rfl | h
    · omega
    · have := mem_total h
      omega
/-- rows whose outer block is not the tape's stand when the tape moves -/
theorem RdL.tape {w w' : World} {B b m : Nat} {A : Option Addr} {ls : List (List Arc)} (h : RdL w B A m ls) (hg : m = 0 ∨ ∃ g, A = some ⟨g, 0, none⟩ ∧ g ≠ b) (hN : NoTwo w b) (hO : Outside (fun k => k = b) w w') (hB : B ≤ w.heap.size) : RdL w' B A m ls := by
  obtain ⟨vs, h1, h2, h3⟩ := h
  refine ⟨vs, ⟨h1.1, fun h0 => ?_⟩, h2, fun i l hl => ?_⟩
  · obtain ⟨b', off, e, hb, hc⟩ := h1.2 h0
    rcases hg with hg | ⟨g, e2, hg⟩
    · omega
    rw [e2] at e
    obtain ⟨rfl, rfl⟩ : g = b' ∧ 0 = off := by simpa using e
    exact ⟨g, 0, e2, hb, fun j u hu => hO.cell (p := ⟨g, 0 + j, none⟩) (hc j u hu) hg⟩
  · obtain ⟨A', n', c', h4, h5⟩ := h3 i l hl
    exact ⟨A', n', c', h4, h5.arcOut hN hO hB⟩
/-- what stands in a round: x in block X -/
structure SrAt (wr w' : World) (X B b : Nat) (A : Option Addr) (n c : Nat) (zs : List Int) (j : Nat) (A2 : Option Addr) (n2 c2 : Nat) (l2 : List (List Arc)) : Prop where
  sx : Blk w' X 27 #[.slice A2 n2 c2]
  tp : TpAt w' B b A n c zs j
  out : Outside (fun k => k = b) wr w'
  neX : X ≠ b
section
variable {wr w' w'' : World} {X B b n c j j' n2 c2 : Nat} {A A2 : Option Addr} {zs : List Int} {l2 : List (List Arc)}
theorem SrAt.below (h : SrAt wr w' X B b A n c zs j A2 n2 c2 l2) (hb : Below w'.heap.size w' w'') : SrAt wr w'' X B b A n c zs j A2 n2 c2 l2 :=
  ⟨h.sx.below hb h.sx.lt, h.tp.below hb, h.out.trans ((Below.new hb).mono fun _ _ h => h.elim), h.neX⟩
theorem SrAt.step (h : SrAt wr w' X B b A n c zs j A2 n2 c2 l2) (hT : TpAt w'' B b A n c zs j') (hO : Outside (fun k => k = b) w' w'') : SrAt wr w'' X B b A n c zs j' A2 n2 c2 l2 :=
  ⟨h.sx.out hO h.neX, hT, h.out.trans hO, h.neX⟩
/-- the same, and x's rows -/
structure SsAt (wr w' : World) (X B b : Nat) (A : Option Addr) (n c : Nat) (zs : List Int) (j : Nat) (A2 : Option Addr) (n2 c2 : Nat) (l2 : List (List Arc)) : Prop where
  sr : SrAt wr w' X B b A n c zs j A2 n2 c2 l2
  rows : RdL w' w'.heap.size A2 n2 l2
  off : n2 = 0 ∨ ∃ g, A2 = some ⟨g, 0, none⟩ ∧ g ≠ b
theorem SsAt.below (h : SsAt wr w' X B b A n c zs j A2 n2 c2 l2) (hb : Below w'.heap.size w' w'') : SsAt wr w'' X B b A n c zs j A2 n2 c2 l2 :=
  ⟨h.sr.below hb, (h.rows.below hb).more hb.size, h.off⟩
theorem SsAt.drew (h : SsAt wr w' X B b A n c zs j A2 n2 c2 l2) : SsAt wr w'.drew X B b A n c zs j A2 n2 c2 l2 := h.below ((Below.refl _ _).drew)
theorem SsAt.step (h : SsAt wr w' X B b A n c zs j A2 n2 c2 l2) (hT : TpAt w'' B b A n c zs j') (hO : Outside (fun k => k = b) w' w'') : SsAt wr w'' X B b A n c zs j' A2 n2 c2 l2 :=
  ⟨h.sr.step hT hO, (h.rows.tape h.off h.sr.tp.noTwo hO (Nat.le_refl _)).more hO.size, h.off⟩
theorem SsAt.new {w2 : World} {g2 : Nat} (hR : RdL w2 w2.heap.size (some ⟨g2, 0, none⟩) n2 l2) (hT : TpAt w2 B b A n c zs j) (hO : Outside (fun k => k = b) wr w2) (hg : g2 ≠ b) (hb : b < w2.heap.size) :
    SsAt wr (w2.alloc (.cells #[.slice (some ⟨g2, 0, none⟩) n2 c2] 27)) w2.heap.size B b A n c zs j (some ⟨g2, 0, none⟩) n2 c2 l2 :=
  ⟨⟨Blk.new w2 27 #[.slice (some ⟨g2, 0, none⟩) n2 c2], hT.alloc _, hO.alloc _, by omega⟩, (hR.alloc (Nat.le_refl _) _).more (by simp), .inr ⟨g2, rfl, hg⟩⟩
end

end Go.Proofs.Ytmciinikfjfegaa
