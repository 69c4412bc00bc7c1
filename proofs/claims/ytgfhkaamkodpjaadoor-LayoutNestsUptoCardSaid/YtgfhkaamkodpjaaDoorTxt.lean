/- scanning texts made of pieces -/
import Derived.Test.YtgfhkaamkodpjaaDoorLw2
namespace Go.Proofs.YtgfhkaamkodpjaaDoor
open Go Go.RowKit
set_option maxHeartbeats 8000000

theorem scan_one {n : Nat} {r r1 : List UInt8} {p q : Pos} {acc : List Tok} {t : Tok} {len : Int} (hs : skipS r p = (true, r1, q)) (hr : r1 ≠ []) (hi : itemS r1 q = (t, len, 0)) (ha : acc.length ≠ 16384) :
    scanF (n + 1) r p acc = scanF n (r1.drop len.toNat) (posAfter (r1.take len.toNat) q) (acc ++ [t]) := by
  rw [scanF, hs, hi]
  simp [hr, ha]
theorem scan_end {n : Nat} {p : Pos} {acc : List Tok} : scanF (n + 1) [] p acc = (acc, ⟨0, 0⟩, 0) := by
  rw [scanF]
  simp [skipS, skipF]

/-- what may stand behind a word: nothing, a space, a new line -/
def Sep (r : List UInt8) : Prop := r = [] ∨ (∃ r', r = 32 :: r') ∨ ∃ r', r = 10 :: r'
theorem Sep.nil : Sep [] := .inl rfl
theorem Sep.sp (r : List UInt8) : Sep (32 :: r) := .inr (.inl ⟨r, rfl⟩)
theorem Sep.nl (r : List UInt8) : Sep (10 :: r) := .inr (.inr ⟨r, rfl⟩)
theorem Sep.word {r : List UInt8} (h : Sep r) (w : List UInt8) (hw : w.all partB = true) : (w ++ r).takeWhile partB = w := by
  rw [List.takeWhile_append_of_pos (by simpa using hw)]
  rcases h with rfl | ⟨r', rfl⟩ | ⟨r', rfl⟩
  · simp
  · rw [List.takeWhile_cons, if_neg (by decide)]; simp
  · rw [List.takeWhile_cons, if_neg (by decide)]; simp

theorem item_name {r : List UInt8} (h : Sep r) (c : UInt8) (w : List UInt8) (q : Pos) (h1 : letterB c = true) (h2 : digitB c = false) (hw : (c :: w).all partB = true) (hk : memS kwB (bstr (c :: w)) = false) (hn : nameOk (bstr (c :: w)) = true) :
    itemS (c :: (w ++ r)) q = (⟨1, 0, bstr (c :: w), q⟩, ((c :: w).length : Int), 0) := by
  rw [itemS_word h1 h2, show c :: (w ++ r) = (c :: w) ++ r from rfl, h.word (c :: w) hw, hk, hn]
  simp
theorem item_kw {r : List UInt8} (h : Sep r) (c : UInt8) (w : List UInt8) (q : Pos) (h1 : letterB c = true) (h2 : digitB c = false) (hw : (c :: w).all partB = true) (hk : memS kwB (bstr (c :: w)) = true) :
    itemS (c :: (w ++ r)) q = (⟨3, 0, bstr (c :: w), q⟩, ((c :: w).length : Int), 0) := by
  rw [itemS_word h1 h2, show c :: (w ++ r) = (c :: w) ++ r from rfl, h.word (c :: w) hw, hk]
  simp
theorem symS_eq {r : List UInt8} (h : Sep r) : symS (61 :: r) = bstr [61] := by
  rcases h with rfl | ⟨r', rfl⟩ | ⟨r', rfl⟩ <;> kernel_rfl
theorem item_eq {r : List UInt8} (h : Sep r) (q : Pos) : itemS (61 :: r) q = (⟨4, 0, bstr [61], q⟩, 1, 0) := by
  rw [itemS_sym (by decide) (by decide), symS_eq h]
  rfl

theorem skip_sp (c : UInt8) (r : List UInt8) (p : Pos) (h1 : isSp c = false) (h2 : c ≠ 45) (h3 : c ≠ 123) : skipS (32 :: c :: r) p = (true, c :: r, ⟨p.line, p.col + 1⟩) := by
  have e1 : startsW [45, 45] (c :: r) = false := by
    simp [startsW, List.isPrefixOf]
    intro h; exact absurd h.symm h2
  have e2 : startsW [123, 45] (c :: r) = false := by
    simp [startsW, List.isPrefixOf]
    intro h; exact absurd h.symm h3
  simp [skipS, skipF, h1, e1, e2, show isSp 32 = true from by decide, stepP]
theorem skip_no (c : UInt8) (r : List UInt8) (p : Pos) (h1 : isSp c = false) (h2 : c ≠ 45) (h3 : c ≠ 123) : skipS (c :: r) p = (true, c :: r, p) := by
  have e1 : startsW [45, 45] (c :: r) = false := by
    simp [startsW, List.isPrefixOf]
    intro h; exact absurd h.symm h2
  have e2 : startsW [123, 45] (c :: r) = false := by
    simp [startsW, List.isPrefixOf]
    intro h; exact absurd h.symm h3
  simp [skipS, skipF, h1, e1, e2]
/-- a new line and m spaces -/
theorem skip_line (m : Nat) (c : UInt8) (r : List UInt8) (p : Pos) (h1 : isSp c = false) (h2 : c ≠ 45) (h3 : c ≠ 123) : skipS (10 :: (List.replicate m 32 ++ c :: r)) p = (true, c :: r, ⟨p.line + 1, 1 + m⟩) := by
  have e1 : startsW [45, 45] (c :: r) = false := by
    simp [startsW, List.isPrefixOf]
    intro h; exact absurd h.symm h2
  have e2 : startsW [123, 45] (c :: r) = false := by
    simp [startsW, List.isPrefixOf]
    intro h; exact absurd h.symm h3
  have key : ∀ (m n : Nat) (q : Pos), m < n → skipF n (List.replicate m 32 ++ c :: r) q = (true, c :: r, ⟨q.line, q.col + m⟩) := by
    intro m
    induction m with
    | zero =>
      intro n q hn
      obtain ⟨n, rfl⟩ : ∃ k, n = k + 1 := ⟨n - 1, by omega⟩
      simp [skipF, h1, e1, e2]
    | succ m ih =>
      intro n q hn
      obtain ⟨n, rfl⟩ : ∃ k, n = k + 1 := ⟨n - 1, by omega⟩
      rw [List.replicate_succ, List.cons_append, skipF, if_pos (by decide), ih n _ (by omega)]
      simp [stepP]
      omega
  rw [skipS, skipF, if_pos (by decide), key m _ _ (by simp; omega)]
  simp [stepP]

/-- one name behind a space -/
theorem scan_name {n : Nat} {r : List UInt8} (h : Sep r) (c : UInt8) (w : List UInt8) (p : Pos) (acc : List Tok) (h1 : letterB c = true) (h2 : digitB c = false) (hw : (c :: w).all partB = true) (hk : memS kwB (bstr (c :: w)) = false) (hn : nameOk (bstr (c :: w)) = true)
    (h4 : isSp c = false) (h5 : c ≠ 45) (h6 : c ≠ 123) (ha : acc.length < 16384) :
    scanF (n + 1) (32 :: c :: (w ++ r)) p acc = scanF n r (posAfter (c :: w) ⟨p.line, p.col + 1⟩) (acc ++ [⟨1, 0, bstr (c :: w), ⟨p.line, p.col + 1⟩⟩]) := by
  rw [scan_one (skip_sp c (w ++ r) p h4 h5 h6) (by simp) (item_name h c w _ h1 h2 hw hk hn) (by omega)]
  simp
theorem scan_kw {n : Nat} {r : List UInt8} (h : Sep r) (c : UInt8) (w : List UInt8) (p : Pos) (acc : List Tok) (h1 : letterB c = true) (h2 : digitB c = false) (hw : (c :: w).all partB = true) (hk : memS kwB (bstr (c :: w)) = true)
    (h4 : isSp c = false) (h5 : c ≠ 45) (h6 : c ≠ 123) (ha : acc.length < 16384) :
    scanF (n + 1) (32 :: c :: (w ++ r)) p acc = scanF n r (posAfter (c :: w) ⟨p.line, p.col + 1⟩) (acc ++ [⟨3, 0, bstr (c :: w), ⟨p.line, p.col + 1⟩⟩]) := by
  rw [scan_one (skip_sp c (w ++ r) p h4 h5 h6) (by simp) (item_kw h c w _ h1 h2 hw hk) (by omega)]
  simp
theorem scan_eq {n : Nat} {r : List UInt8} (h : Sep r) (p : Pos) (acc : List Tok) (ha : acc.length < 16384) :
    scanF (n + 1) (32 :: 61 :: r) p acc = scanF n r ⟨p.line, p.col + 2⟩ (acc ++ [⟨4, 0, bstr [61], ⟨p.line, p.col + 1⟩⟩]) := by
  rw [scan_one (skip_sp 61 r p (by decide) (by decide) (by decide)) (by simp) (item_eq h _) (by omega)]
  simp [posAfter, stepP]
  congr 2
  omega

def nmT (c : UInt8) (l k : Int) : Tok := ⟨1, 0, bstr [c], ⟨l, k⟩⟩
def eqT (l k : Int) : Tok := ⟨4, 0, bstr [61], ⟨l, k⟩⟩
def letT (l k : Int) : Tok := ⟨3, 0, bstr [108, 101, 116], ⟨l, k⟩⟩
def withinT (l k : Int) : Tok := ⟨3, 0, bstr [119, 105, 116, 104, 105, 110], ⟨l, k⟩⟩

/-- x = -/
theorem scan_head {n : Nat} (r : List UInt8) : scanF (n + 2) (120 :: 32 :: 61 :: 32 :: r) ⟨1, 1⟩ [] = scanF n (32 :: r) ⟨1, 4⟩ [nmT 120 1 1, eqT 1 3] := by
  refine Eq.trans (scan_one (skip_no 120 _ _ (by decide) (by decide) (by decide)) (by simp) (item_name (Sep.sp (61 :: 32 :: r)) 120 [] _ (by decide) (by decide) (by decide) (by decide) (by decide)) (by simp)) ?_
  simp only [List.length_cons, List.length_nil, List.nil_append, Int.toNat_natCast, List.drop_succ_cons, List.drop_zero, List.take_succ_cons, List.take_zero]
  rw [scan_eq (Sep.sp r) _ _ (by simp)]
  simp [posAfter, stepP, nmT, eqT]
/-- let y = -/
theorem scan_let {n : Nat} (r : List UInt8) (c : Int) (acc : List Tok) (ha : acc.length + 3 ≤ 16384) :
    scanF (n + 3) (32 :: 108 :: 101 :: 116 :: 32 :: 121 :: 32 :: 61 :: 32 :: r) ⟨1, c⟩ acc = scanF n (32 :: r) ⟨1, c + 8⟩ (acc ++ [letT 1 (c + 1), nmT 121 1 (c + 5), eqT 1 (c + 7)]) := by
  refine Eq.trans (scan_kw (Sep.sp (121 :: 32 :: 61 :: 32 :: r)) 108 [101, 116] _ _ (by decide) (by decide) (by decide) (by decide) (by decide) (by decide) (by decide) (by omega)) ?_
  rw [show (32 :: 121 :: 32 :: 61 :: 32 :: r : List UInt8) = 32 :: 121 :: ([] ++ (32 :: 61 :: 32 :: r)) from rfl,
    scan_name (Sep.sp (61 :: 32 :: r)) 121 [] _ _ (by decide) (by decide) (by decide) (by decide) (by decide) (by decide) (by decide) (by decide) (by simp; omega),
    scan_eq (Sep.sp r) _ _ (by simp; omega)]
  simp only [posAfter, stepP, nmT, eqT, letT, List.append_assoc, List.cons_append, List.nil_append, List.foldl]
  have e : (121 : UInt8) ≠ 10 := by decide
  have e1 : (108 : UInt8) ≠ 10 := by decide
  have e2 : (101 : UInt8) ≠ 10 := by decide
  have e3 : (116 : UInt8) ≠ 10 := by decide
  simp only [e, e1, e2, e3, if_false]
  simp only [show c + 1 + 1 + 1 + 1 + 1 = c + 5 by omega, show c + 5 + 1 + 1 = c + 7 by omega, show c + 5 + 1 + 2 = c + 8 by omega]
/-- within y -/
theorem scan_within {n : Nat} {r : List UInt8} (h : Sep r) (c : Int) (acc : List Tok) (ha : acc.length + 2 ≤ 16384) :
    scanF (n + 2) (32 :: 119 :: 105 :: 116 :: 104 :: 105 :: 110 :: 32 :: 121 :: r) ⟨1, c⟩ acc = scanF n r ⟨1, c + 9⟩ (acc ++ [withinT 1 (c + 1), nmT 121 1 (c + 8)]) := by
  refine Eq.trans (scan_kw (Sep.sp (121 :: r)) 119 [105, 116, 104, 105, 110] _ _ (by decide) (by decide) (by decide) (by decide) (by decide) (by decide) (by decide) (by omega)) ?_
  rw [show (32 :: 121 :: r : List UInt8) = 32 :: 121 :: ([] ++ r) from rfl,
    scan_name h 121 [] _ _ (by decide) (by decide) (by decide) (by decide) (by decide) (by decide) (by decide) (by decide) (by simp; omega)]
  simp only [posAfter, stepP, nmT, withinT, List.append_assoc, List.cons_append, List.nil_append, List.foldl]
  have e : (121 : UInt8) ≠ 10 := by decide
  have e1 : (119 : UInt8) ≠ 10 := by decide
  have e2 : (105 : UInt8) ≠ 10 := by decide
  have e3 : (116 : UInt8) ≠ 10 := by decide
  have e4 : (104 : UInt8) ≠ 10 := by decide
  have e5 : (110 : UInt8) ≠ 10 := by decide
  simp only [e, e1, e2, e3, e4, e5, if_false]
  simp only [show c + 1 + 1 + 1 + 1 + 1 + 1 + 1 + 1 = c + 8 by omega, show c + 8 + 1 = c + 9 by omega]
/-- z -/
theorem scan_z {n : Nat} {r : List UInt8} (h : Sep r) (c : Int) (acc : List Tok) (ha : acc.length + 1 ≤ 16384) :
    scanF (n + 1) (32 :: 122 :: r) ⟨1, c⟩ acc = scanF n r ⟨1, c + 2⟩ (acc ++ [nmT 122 1 (c + 1)]) := by
  rw [show (32 :: 122 :: r : List UInt8) = 32 :: 122 :: ([] ++ r) from rfl,
    scan_name h 122 [] _ _ (by decide) (by decide) (by decide) (by decide) (by decide) (by decide) (by decide) (by decide) (by omega)]
  have e : (122 : UInt8) ≠ 10 := by decide
  simp only [posAfter, stepP, nmT, List.foldl, e, if_false]
  simp only [show c + 1 + 1 = c + 2 by omega]
/-- a line with one name of one letter -/
theorem scan_line {n : Nat} {r : List UInt8} (h : Sep r) (m : Nat) (c : UInt8) (l k : Int) (acc : List Tok) (h1 : letterB c = true) (h2 : digitB c = false) (hw : partB c = true) (hk : memS kwB (bstr [c]) = false) (hn : nameOk (bstr [c]) = true)
    (h4 : isSp c = false) (h5 : c ≠ 45) (h6 : c ≠ 123) (ha : acc.length < 16384) :
    scanF (n + 1) (10 :: (List.replicate m 32 ++ c :: r)) ⟨l, k⟩ acc = scanF n r ⟨l + 1, 2 + m⟩ (acc ++ [nmT c (l + 1) (1 + m)]) := by
  refine Eq.trans (scan_one (skip_line m c r ⟨l, k⟩ h4 h5 h6) (by simp) (item_name h c [] _ h1 h2 (by simpa using hw) hk hn) (by omega)) ?_
  have e : c ≠ 10 := by rintro rfl; revert h4; decide
  simp [posAfter, stepP, nmT, e]
  congr 2
  omega

end Go.Proofs.YtgfhkaamkodpjaaDoor
