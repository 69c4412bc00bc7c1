/- the texts of LayoutSeparates: their tokens, and what the layout makes of them -/
import Derived.Test.YtgfhkaamkodpjaaDoorTxt
namespace Go.Proofs.YtgfhkaamkodpjaaDoor
open Go Go.RowKit
set_option maxHeartbeats 8000000

def mOf (b : Nat) : Nat := if b % 3 = 0 then 0 else 1 + b % 6
def sText : List Nat → List UInt8
  | [] => []
  | b :: r => 10 :: (List.replicate (mOf b) 32 ++ 120 :: sText r)
def sToks : List Nat → Int → List Tok
  | [], _ => []
  | b :: r, l => nmT 120 (l + 1) (1 + mOf b) :: sToks r (l + 1)
def sWant : List Nat → List UInt8
  | [] => []
  | b :: r => (if b % 3 = 0 then [83, 46] else [46]) ++ sWant r

theorem sText_sep (l : List Nat) : Sep (sText l) := by
  cases l with
  | nil => exact Sep.nil
  | cons b r => exact Sep.nl _
theorem sText_snoc (l : List Nat) (b : Nat) : sText (l ++ [b]) = sText l ++ 10 :: (List.replicate (mOf b) 32 ++ [120]) := by
  induction l with
  | nil => rfl
  | cons a l ih => simp [sText, ih]
theorem sWant_snoc (l : List Nat) (b : Nat) : sWant (l ++ [b]) = sWant l ++ (if b % 3 = 0 then [83, 46] else [46]) := by
  induction l with
  | nil => simp [sWant]
  | cons a l ih => simp [sWant, ih]
theorem sText_len (l : List Nat) : l.length ≤ (sText l).length ∧ (sText l).length ≤ 9 * l.length := by
  induction l with
  | nil => simp [sText]
  | cons a l ih =>
    have : mOf a ≤ 7 := by unfold mOf; split <;> omega
    simp [sText]
    omega
theorem sWant_len (l : List Nat) : (sWant l).length ≤ 2 * l.length := by
  induction l with
  | nil => simp [sWant]
  | cons a l ih =>
    have h : (if a % 3 = 0 then [83, 46] else [46] : List UInt8).length ≤ 2 := by split <;> simp
    rw [sWant, List.length_append, List.length_cons]
    omega

theorem scan_lines (l : List Nat) : ∀ (n : Nat) (L k : Int) (acc : List Tok), acc.length + l.length ≤ 16384 →
    scanF (n + 1 + l.length) (sText l) ⟨L, k⟩ acc = (acc ++ sToks l L, ⟨0, 0⟩, 0) := by
  induction l with
  | nil =>
    intro n L k acc _
    rw [show sText [] = [] from rfl, List.length_nil, Nat.add_zero, scan_end]
    simp [sToks]
  | cons b l ih =>
    intro n L k acc ha
    rw [List.length_cons] at ha
    rw [sText, List.length_cons, show n + 1 + (l.length + 1) = (n + 1 + l.length) + 1 by omega,
      scan_line (sText_sep l) (mOf b) 120 L k acc (by decide) (by decide) (by decide) (by decide) (by decide) (by decide) (by decide) (by decide) (by omega),
      ih n _ _ _ (by simp; omega)]
    simp [sToks]
theorem scan_sep (l : List Nat) (h : l.length ≤ 100) : (scanS (120 :: sText l)).1 = nmT 120 1 1 :: sToks l 1 := by
  have h1 := sText_len l
  rw [scanS, if_neg (by rw [List.length_cons]; omega)]
  obtain ⟨n, hn⟩ : ∃ n, (120 :: sText l).length + 1 = (n + 1 + l.length) + 1 := ⟨(sText l).length - l.length, by rw [List.length_cons]; omega⟩
  rw [hn]
  have h2 := scan_one (n := n + 1 + l.length) (acc := []) (skip_no 120 (sText l) ⟨1, 1⟩ (by decide) (by decide) (by decide)) (by simp) (item_name (sText_sep l) 120 [] ⟨1, 1⟩ (by decide) (by decide) (by decide) (by decide) (by decide)) (by simp)
  rw [h2]
  have h3 := scan_lines l n 1 2 [nmT 120 1 1] (by simp; omega)
  exact congrArg Prod.fst h3

theorem x_valid (l k : Int) : validTok (nmT 120 l k) = true := by
  have : nameOk (bstr [120]) = true := by decide
  simp [validTok, nmT, this]
theorem x_close (l k : Int) : isClose (nmT 120 l k) = false := by simp [isClose, nmT]
theorem x_kw (l k : Int) (r : List ByteArray) : isKw (nmT 120 l k) r = false := by simp [isKw, nmT]
theorem x_push (x : Ins) (l k : Int) : pushS x (nmT 120 l k) = { x with out := x.out ++ [nmT 120 l k], bf := nmT 120 l k } := by
  simp [pushS, rememberS, x_kw]
theorem x_step {x : Ins} {L : Int} (m : Nat) (h1 : x.nx = false) (h2 : x.wt = false) (h3 : x.cols = [1]) (h4 : 2 ≤ x.out.length) (h5 : x.bf.pos.line = L) (h6 : 0 ≤ L) :
    tokenS x (nmT 120 (L + 1) (1 + m)) = ({ x with out := x.out ++ (if m = 0 then [⟨6, 0, ByteArray.empty, ⟨L + 1, 1 + m⟩⟩] else []) ++ [nmT 120 (L + 1) (1 + m)], bf := nmT 120 (L + 1) (1 + m) }, 0) := by
  have ha : afterT x.bf.pos (nmT 120 (L + 1) (1 + m)).pos = true := by
    simp only [afterT, Bool.and_eq_true, Bool.or_eq_true, decide_eq_true_eq]
    exact ⟨⟨by show (1 : Int) ≤ L + 1; omega, by show (1 : Int) ≤ 1 + (m : Int); omega⟩, Or.inl (by show x.bf.pos.line < L + 1; omega)⟩
  have hl : x.bf.pos.line < (nmT 120 (L + 1) (1 + m)).pos.line := by simp [nmT, h5]; omega
  have hA : placeA (nmT 120 (L + 1) (1 + m)) x true = (x.out, x.cols) := by
    simp only [placeA, if_true, h3]
    rw [closeLoop, if_neg (by simp [nmT]; omega)]
  rw [tokenS, x_valid, ha]
  simp only [Bool.and_self, if_true]
  rw [if_neg (by omega), if_neg (by simp [h1, h2])]
  rw [placeS, x_close]
  simp only [hl, decide_true, hA]
  have hB : placeB (nmT 120 (L + 1) (1 + m)) x false (x.out, x.cols) = (x.out, x.cols) := by simp [placeB]
  rw [hB, h3]
  by_cases hm : m = 0
  · subst hm
    rw [placeC_one (by simp [nmT]), x_push]
    simp [nmT]
  · rw [placeC_none (by simp [nmT]; omega), x_push]
    simp [hm]
theorem sep_fold (l : List Nat) : ∀ (L : Int) (x : Ins), x.nx = false → x.wt = false → x.cols = [1] → 2 ≤ x.out.length → x.bf.pos.line = L → 0 ≤ L →
    ∃ x', foldS (sToks l L) x = (x', none) ∧ x'.out.map kindB = x.out.map kindB ++ sWant l ∧ x'.cols = [1] ∧ x'.opn = x.opn := by
  induction l with
  | nil => intro L x _ _ h3 _ _ _; exact ⟨x, rfl, by simp [sWant], h3, rfl⟩
  | cons b l ih =>
    intro L x h1 h2 h3 h4 h5 h6
    rw [sToks, foldS, x_step (mOf b) h1 h2 h3 h4 h5 h6]
    simp only [if_true]
    obtain ⟨x', a1, a2, a3, a4⟩ := ih (L + 1) { x with out := x.out ++ (if mOf b = 0 then [⟨6, 0, ByteArray.empty, ⟨L + 1, 1 + mOf b⟩⟩] else []) ++ [nmT 120 (L + 1) (1 + mOf b)], bf := nmT 120 (L + 1) (1 + mOf b) } h1 h2 h3 (by simp; omega) rfl (by omega)
    refine ⟨x', a1, ?_, a3, a4⟩
    rw [a2, sWant]
    have hm : mOf b = 0 ↔ b % 3 = 0 := by unfold mOf; split <;> omega
    by_cases hb : b % 3 = 0
    · rw [if_pos (hm.2 hb), if_pos hb]
      simp [kindB, nmT]
    · rw [if_neg (fun e => hb (hm.1 e)), if_neg hb]
      simp [kindB, nmT]
theorem sep_lines (l : List Nat) (h : l.length ≤ 100) : ∃ ol op, linesS (120 :: sText l) = (ol, op, 0) ∧ ol.map kindB = 79 :: 46 :: (sWant l ++ [67]) := by
  unfold linesS
  rw [scan_sep l h]
  have h1 : tokenS startIns (nmT 120 1 1) = ({ startIns with out := startIns.out ++ [nmT 120 1 1], bf := nmT 120 1 1 }, 0) := by
    rw [tokenS, x_valid]
    have ha : afterT startIns.bf.pos (nmT 120 1 1).pos = true := by decide
    rw [ha]
    simp only [Bool.and_self, if_true]
    rw [if_pos (by rfl), if_pos (by rfl), x_push]
  obtain ⟨x', a1, a2, a3, a4⟩ := sep_fold l 1 { startIns with out := startIns.out ++ [nmT 120 1 1], bf := nmT 120 1 1 } rfl rfl rfl (by simp [startIns]) rfl (by omega)
  have hf : foldS (nmT 120 1 1 :: sToks l 1) startIns = (x', none) := by
    rw [foldS, h1]
    simp only [if_true]
    exact a1
  rw [insS, hf]
  dsimp only
  rw [a4]
  refine ⟨_, _, rfl, ?_⟩
  rw [closeAll, a3, List.map_append, a2]
  simp [startIns, kindB, nmT, closeTok]

end Go.Proofs.YtgfhkaamkodpjaaDoor
