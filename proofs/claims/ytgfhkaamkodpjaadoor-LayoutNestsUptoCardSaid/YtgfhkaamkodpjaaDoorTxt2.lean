/- the texts of LayoutNests and LayoutClosers: their tokens -/
import Derived.Test.YtgfhkaamkodpjaaDoorTxt
import Derived.Test.YtgfhkaamkodpjaaDoorBal
namespace Go.Proofs.YtgfhkaamkodpjaaDoor
open Go Go.RowKit
set_option maxHeartbeats 8000000

def lets : Nat → Int → List Tok
  | 0, _ => []
  | k + 1, c => letT 1 (c + 1) :: nmT 121 1 (c + 5) :: eqT 1 (c + 7) :: lets k (c + 8)
def withins : Nat → Int → List Tok
  | 0, _ => []
  | k + 1, c => withinT 1 (c + 1) :: nmT 121 1 (c + 8) :: withins k (c + 9)
def segs : Nat → List UInt8 → List UInt8
  | 0, r => r
  | k + 1, r => 32 :: 108 :: 101 :: 116 :: 32 :: 121 :: 32 :: 61 :: segs k r
def wsegs : Nat → List UInt8 → List UInt8
  | 0, r => r
  | k + 1, r => 32 :: 119 :: 105 :: 116 :: 104 :: 105 :: 110 :: 32 :: 121 :: wsegs k r

theorem lets_len (k : Nat) : ∀ c, (lets k c).length = 3 * k := by
  induction k with
  | zero => intro c; rfl
  | succ k ih => intro c; simp [lets, ih]; omega
theorem withins_len (k : Nat) : ∀ c, (withins k c).length = 2 * k := by
  induction k with
  | zero => intro c; rfl
  | succ k ih => intro c; simp [withins, ih]; omega
theorem segs_sp (k : Nat) (r : List UInt8) : ∃ r', segs k (32 :: r) = 32 :: r' := by
  cases k with
  | zero => exact ⟨r, rfl⟩
  | succ k => exact ⟨_, rfl⟩
theorem wsegs_sep (k : Nat) {r : List UInt8} (h : Sep r) : Sep (wsegs k r) := by
  cases k with
  | zero => exact h
  | succ k => exact Sep.sp _
theorem scan_lets (k : Nat) : ∀ (n : Nat) (r : List UInt8) (c : Int) (acc : List Tok), acc.length + 3 * k ≤ 16384 →
    scanF (n + 3 * k) (segs k (32 :: r)) ⟨1, c⟩ acc = scanF n (32 :: r) ⟨1, c + 8 * k⟩ (acc ++ lets k c) := by
  induction k with
  | zero => intro n r c acc _; simp [segs, lets]
  | succ k ih =>
    intro n r c acc ha
    obtain ⟨r', hr⟩ := segs_sp k r
    rw [segs, hr, show n + 3 * (k + 1) = (n + 3 * k) + 3 by omega, scan_let r' c acc (by omega), ← hr, ih n r _ _ (by simp; omega)]
    simp only [lets, List.append_assoc, List.cons_append, List.nil_append]
    rw [show c + 8 + 8 * (k : Int) = c + 8 * ((k + 1 : Nat) : Int) by omega]
theorem scan_withins (k : Nat) : ∀ (n : Nat) {r : List UInt8} (_ : Sep r) (c : Int) (acc : List Tok), acc.length + 2 * k ≤ 16384 →
    scanF (n + 2 * k) (wsegs k r) ⟨1, c⟩ acc = scanF n r ⟨1, c + 9 * k⟩ (acc ++ withins k c) := by
  induction k with
  | zero => intro n r _ c acc _; simp [wsegs, withins]
  | succ k ih =>
    intro n r h c acc ha
    rw [wsegs, show n + 2 * (k + 1) = (n + 2 * k) + 2 by omega, scan_within (wsegs_sep k h) c acc (by omega), ih n h _ _ (by simp; omega)]
    simp only [withins, List.append_assoc, List.cons_append, List.nil_append]
    rw [show c + 9 + 9 * (k : Int) = c + 9 * ((k + 1 : Nat) : Int) by omega]

def pieceN : List UInt8 := [108, 101, 116, 32, 121, 32, 61, 32]
def pieceW : List UInt8 := [32, 119, 105, 116, 104, 105, 110, 32, 121]
def preN (k : Nat) : List UInt8 := [120, 32, 61, 32] ++ (List.replicate k pieceN).flatten
def nestT (k : Nat) : List UInt8 := preN k ++ [122]
def closeT (k j : Nat) : List UInt8 := nestT k ++ (List.replicate j pieceW).flatten
theorem preN_len (k : Nat) : (preN k).length = 4 + 8 * k := by
  simp [preN, List.length_flatten, pieceN]
  omega
theorem preN_succ (k : Nat) : preN (k + 1) = preN k ++ pieceN := by
  simp [preN, List.replicate_succ']
theorem closeT_len (k j : Nat) : (closeT k j).length = 5 + 8 * k + 9 * j := by
  simp [closeT, nestT, preN_len, List.length_flatten, pieceW]
  omega
theorem closeT_succ (k j : Nat) : closeT k (j + 1) = closeT k j ++ pieceW := by
  simp [closeT, List.replicate_succ']
theorem segs_eq (k : Nat) (s : List UInt8) : 32 :: ((List.replicate k pieceN).flatten ++ s) = segs k (32 :: s) := by
  induction k with
  | zero => rfl
  | succ k ih =>
    rw [segs, ← ih]
    simp [List.replicate_succ, pieceN]
theorem wsegs_eq (k : Nat) (s : List UInt8) : (List.replicate k pieceW).flatten ++ s = wsegs k s := by
  induction k with
  | zero => rfl
  | succ k ih =>
    rw [wsegs, ← ih]
    simp [List.replicate_succ, pieceW]

/-- the tokens of x = let y = .. z within y .. -/
def nestToks (k j : Nat) : List Tok := nmT 120 1 1 :: eqT 1 3 :: (lets k 4 ++ nmT 122 1 (5 + 8 * k) :: withins j (6 + 8 * k))
def lineN (r : Bool) : List UInt8 := if r then [10, 119] else []
def lineT (r : Bool) : List Tok := if r then [nmT 119 2 1] else []

theorem scan_close (k j : Nat) (hk : k ≤ 100) (hj : j ≤ 100) (b : Bool) : (scanS (closeT k j ++ lineN b)).1 = nestToks k j ++ lineT b := by
  have hl : (closeT k j ++ lineN b).length ≤ 5000 ∧ 2 + 3 * k + 1 + 2 * j + 2 ≤ (closeT k j ++ lineN b).length + 1 := by
    rw [List.length_append, closeT_len]
    cases b <;> simp [lineN] <;> omega
  have e : closeT k j ++ lineN b = 120 :: 32 :: 61 :: segs k (32 :: 122 :: wsegs j (lineN b)) := by
    rw [← segs_eq, ← wsegs_eq]
    simp [closeT, nestT, preN]
  have hs : Sep (lineN b) := by
    cases b
    · exact Sep.nil
    · exact Sep.nl _
  rw [scanS, if_neg (by omega)]
  obtain ⟨n, hn⟩ : ∃ n, (closeT k j ++ lineN b).length + 1 = n + 2 + 2 * j + 1 + 3 * k + 2 := ⟨(closeT k j ++ lineN b).length + 1 - (2 + 2 * j + 1 + 3 * k + 2), by omega⟩
  rw [hn, e]
  obtain ⟨r', hr⟩ := segs_sp k (122 :: wsegs j (lineN b))
  rw [hr, scan_head r', ← hr, scan_lets k _ _ _ _ (by simp; omega), scan_z (wsegs_sep j hs) _ _ (by simp [lets_len]; omega), scan_withins j _ hs _ _ (by simp [lets_len]; omega)]
  cases b
  · rw [show lineN false = [] from rfl, scan_end]
    simp only [nestToks, lineT, List.append_assoc, List.cons_append, List.nil_append]
    simp only [show (4 : Int) + 8 * k + 1 = 5 + 8 * k by omega, show (4 : Int) + 8 * k + 2 = 6 + 8 * k by omega]
    simp
  · have h1 : ∀ (c : Int) (acc : List Tok), acc.length < 16384 → scanF (n + 2) (lineN true) ⟨1, c⟩ acc = (acc ++ [nmT 119 2 1], ⟨0, 0⟩, 0) := fun c acc ha => by
      have h2 := scan_line (n := n + 1) (r := []) Sep.nil 0 119 1 c acc (by decide) (by decide) (by decide) (by decide) (by decide) (by decide) (by decide) (by decide) ha
      rw [scan_end] at h2
      exact h2
    rw [h1 _ _ (by simp [lets_len, withins_len]; omega)]
    simp only [nestToks, lineT, List.append_assoc, List.cons_append, List.nil_append]
    simp only [show (4 : Int) + 8 * k + 1 = 5 + 8 * k by omega, show (4 : Int) + 8 * k + 2 = 6 + 8 * k by omega]
    simp

def nestOk (k : Nat) : Bool :=
  match insS (nestToks k 0) with
  | (ol, op, oe) => if k < 64 then decide (oe = 0) && balF ol 0 && decide (ol.length = 5 + 5 * k) else decide (oe = 10) && decide (op = ⟨1, 513⟩)
def wantC (k : Nat) (b : Bool) : List UInt8 := [79, 46, 46] ++ (List.replicate k [46, 79, 46, 46]).flatten ++ [46] ++ (List.replicate k [67, 46, 46]).flatten ++ (if b then [83, 46] else []) ++ [67]
def closeOk (k : Nat) (b : Bool) : Bool :=
  match insS (nestToks k k ++ lineT b) with
  | (ol, _, oe) => decide (oe = 0) && decide (ol.map kindB = wantC k b)
set_option maxRecDepth 1000000 in
theorem close_all : ∀ k < 20, ∀ b, closeOk k b = true := by decide +kernel
set_option maxRecDepth 1000000 in
theorem nest_a : ∀ k < 35, nestOk k = true := by decide +kernel
set_option maxRecDepth 1000000 in
theorem nest_b : ∀ k < 20, nestOk (k + 35) = true := by decide +kernel
set_option maxRecDepth 1000000 in
theorem nest_c : ∀ k < 15, nestOk (k + 55) = true := by decide +kernel
theorem nest_all (k : Nat) (h : k < 70) : nestOk k = true := by
  by_cases h1 : k < 35
  · exact nest_a k h1
  by_cases h2 : k < 55
  · have := nest_b (k - 35) (by omega)
    rwa [show k - 35 + 35 = k by omega] at this
  · have := nest_c (k - 55) (by omega)
    rwa [show k - 55 + 55 = k by omega] at this

end Go.Proofs.YtgfhkaamkodpjaaDoor
