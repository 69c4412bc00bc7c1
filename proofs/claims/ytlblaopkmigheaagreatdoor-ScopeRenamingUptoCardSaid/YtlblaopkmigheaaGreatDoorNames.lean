/- The keywords, the symbols and the closers, as bytes; what a world that holds the lexer's and the layout's variables gives. -/
import Derived.Test.YtlblaopkmigheaaGreatDoorRows
import Derived.Test.YtlblaopkmigheaaGreatDoorMem
namespace Go.Proofs.YtlblaopkmigheaaGreatDoor
open Go Go.RowKit

def bstr (l : List UInt8) : ByteArray := ⟨l.toArray⟩
def kwL : List (List UInt8) := [[97, 110, 100], [111, 114], [110, 111, 116], [105, 102], [116, 104, 101, 110], [101, 108, 115, 101], [108, 101, 116], [119, 105, 116, 104, 105, 110], [116, 114, 117, 101], [102, 97, 108, 115, 101], [100, 97, 116, 97, 116, 121, 112, 101], [110, 97, 109, 101, 116, 121, 112, 101], [99, 104, 97, 110, 110, 101, 108], [109, 111, 100, 117, 108, 101], [101, 120, 112, 111, 114, 116, 115], [101, 110, 100, 109, 111, 100, 117, 108, 101], [105, 110, 115, 116, 97, 110, 99, 101], [84, 105, 109, 101, 100], [101, 110, 100, 116, 105, 109, 101, 100], [97, 115, 115, 101, 114, 116], [83, 84, 79, 80], [83, 75, 73, 80], [68, 73, 86], [99, 104, 97, 115, 101], [112, 114, 105, 111, 114, 105, 116, 105, 115, 101]]
def syL : List (List UInt8) := [[91, 70, 68, 61], [124, 126, 124], [124, 124, 124], [60, 45, 62], [91, 84, 61], [91, 70, 61], [124, 124], [124, 93], [124, 62], [124, 125], [124, 41], [91, 124], [91, 93], [91, 62], [91, 43], [91, 91], [93, 93], [43, 93], [123, 124], [40, 124], [60, 45], [60, 61], [62, 61], [45, 62], [47, 92], [61, 62], [61, 61], [33, 61], [58, 58], [46, 46], [64, 64], [124], [91], [93], [123], [125], [40], [41], [60], [62], [43], [45], [42], [47], [37], [92], [61], [33], [58], [59], [44], [46], [63], [36], [64], [38], [94], [35], [95]]
def clL : List (List UInt8) := [[119, 105, 116, 104, 105, 110], [101, 120, 112, 111, 114, 116, 115], [101, 110, 100, 109, 111, 100, 117, 108, 101], [101, 110, 100, 116, 105, 109, 101, 100]]
def kwB : List ByteArray := kwL.map bstr
def syB : List ByteArray := syL.map bstr
def clB : List ByteArray := clL.map bstr

theorem kwC_len : (cellsOf scell kwB).length = 25 * 1 := by decide
theorem syC_len : (cellsOf scell syB).length = 59 * 1 := by decide
theorem clC_len : (cellsOf scell clB).length = 4 * 1 := by decide
theorem kwB_len : kwB.length = 25 := by decide
theorem syB_len : syB.length = 59 := by decide
theorem clB_len : clB.length = 4 := by decide

/-- Variable g holds a slice that reads as the strings l; all of it lies below block B. -/
def HoldsStrs (B : Nat) (w : World) (g : Nat) (l : List ByteArray) : Prop := g < B ∧ ∃ A c, w.cell? ⟨g, 0, none⟩ = some (.slice A l.length c) ∧ Rd w B 1 A l.length (cellsOf scell l)
theorem HoldsStrs.below {B g : Nat} {w w' : World} {l : List ByteArray} (h : HoldsStrs B w g l) (hb : Below B w w') : HoldsStrs B w' g l := by
  obtain ⟨hg, A, c, h1, h2⟩ := h
  exact ⟨hg, A, c, (hb.cell (p := ⟨g, 0, none⟩) hg).trans h1, h2.below hb⟩

/-- The three variables hold their lists. -/
structure Glob (B : Nat) (w : World) : Prop where
  kw : HoldsStrs B w 1 kwB
  sy : HoldsStrs B w 2 syB
  size : B ≤ w.heap.size
theorem Glob.below {B : Nat} {w w' : World} (h : Glob B w) (hb : Below B w w') : Glob B w' :=
  { kw := h.kw.below hb, sy := h.sy.below hb,  size := Nat.le_trans h.size hb.size }
theorem Glob.alloc {B : Nat} {w : World} (h : Glob B w) (o : Obj) : Glob B (w.alloc o) := h.below ((Below.refl _ _).alloc h.size o)
theorem Glob.drewN {B : Nat} {w : World} (h : Glob B w) (n : Nat) : Glob B (w.drewN n) := h.below (below_drewN (Below.refl _ _) n)

end Go.Proofs.YtlblaopkmigheaaGreatDoor
