/- ValidFormula of a formula; maps whose keys are pairs and whose elements are bools -/
import Derived.Test.YtmciinikfjfegaaSgH3
import Derived.Maps.OwnSet
import Derived.Laws.Cover3
import Derived.WideKeyArr
namespace Go.Proofs.Ytmciinikfjfegaa
open Go Go.RowKit Go.Maps
set_option maxHeartbeats 8000000

set_option maxRecDepth 100000 in
theorem vform_any (A : Option Addr) (n c : Nat) (F : Form) (B : Nat) (w : World) (h : Rd w B 3 A n (cellsOf FNode.cells F.enc)) (hB : B ≤ w.heap.size) (hn : n ≤ 4096) (hok : FormOk F) :
    Calls Try.prog 55 #[.slice A n c] w fun e w' => e = .returned (.bool true) ∧ Below w.heap.size w w' := by
  have H := Lib.hid h
  have HV := Lib.hid (form_vN F hok)
  have hn' : (n : Int) ≤ 4096 := by omega
  clear h hok
  go_enter Try.func55, Try.ntmps55
  go_wp2_with fail
  refine (ncontains_any A n c F.enc B w H.out hB (by omega) HV.out).mono ?_
  rintro e w2 ⟨rfl, hb2⟩
  have HB2 := Lib.hid hb2
  have hz2 := hb2.size
  clear hb2
  go_wp2_with fail
  refine (ends_any A n c F B w2 (H.out.below (HB2.out.mono hB)) (by omega) (by omega)).mono ?_
  rintro e w3 ⟨⟨g, E, rfl, _, _, _⟩, hb3⟩
  have HB3 := Lib.hid (HB2.out.trans (hb3.mono hz2))
  have ke : (binOp .neq 29 (.slice (some ⟨g, 0, none⟩) n n) (.slice none 0 0)).run Try.prog w3 = .ok (.bool true) w3 := run_neq_slice_nil (P := Try.prog) w3 29 3 (some ⟨g, 0, none⟩) n n Try.underlying29
  clear hb3
  go_wp2_with fail
  go_ret
  exact ⟨ret_bool (by simp), HB3.out⟩

/- the keys -/
theorem arrK : WideMaps.ArrKey Try.prog 103 3 2 := ⟨Try.underlying103, by kernel_rfl, by kernel_rfl, by kernel_rfl⟩
theorem lawP : Keyed Try.prog 103 := Keyed.of_law arrK.law
def pairV (i s : Nat) : Value := .agg #[.int .i64 i, .int .i64 s]
theorem pairV_inj {i s j t : Nat} (h : pairV i s = pairV j t) : i = j ∧ s = t := by
  simp [pairV] at h
  omega
theorem cellsP : Try.prog.cellsOf 103 = 2 := by kernel_rfl
theorem cellsI : Try.prog.cellsOf 3 = 1 := by kernel_rfl
theorem keyLitsI (m : Nat) (x : Nat) (hx : x ≤ 1000000) : Try.prog.keyLits (m + 1) 3 [.int .i64 x] = some [.int .i64 x] := by
  unfold Program.keyLits
  rw [Try.underlying3]
  dsimp only
  rw [if_pos ⟨rfl, WalkArith.wf_i64 (by omega)⟩]
/-- the key of a pair, as a datum -/
def pairL (i s : Nat) : Lit := .string (keyBytes [.int .i64 i, .int .i64 s])
theorem pairL_key {i s : Nat} (hi : i ≤ 1000000) (hs : s ≤ 1000000) : keyOf Try.prog 103 (pairV i s) = some (pairL i s) := by
  have hf : (pairV i s).formed Try.prog 103 = true := by simp [pairV, Value.formed, Try.underlying103, cellsP]
  have hk : Try.prog.keyType 103 = true := arrK.keyType ⟨Try.prog.types.size - 1, by kernel_rfl⟩
  obtain ⟨m, hm⟩ : ∃ m, Try.prog.types.size = m + 1 := ⟨Try.prog.types.size - 1, by kernel_rfl⟩
  have hc : (pairV i s).cells.toList = [.int .i64 i, .int .i64 s] := by simp [pairV, Value.cells]
  have h2 : Try.prog.keyLits (m + 1 + 1) 103 [.int .i64 i, .int .i64 s] = some [.int .i64 i, .int .i64 s] := by
    unfold Program.keyLits
    rw [Try.underlying103]
    dsimp only
    rw [if_pos (by rw [cellsP]; rfl), cellsI]
    show Option.map List.flatten ((List.range 2).mapM fun j => Try.prog.keyLits (m + 1) 3 (([Value.int .i64 (i : Int), .int .i64 (s : Int)].drop (j * 1)).take 1)) = _
    have h3 := keyLitsI m i hi
    have h4 := keyLitsI m s hs
    simp [List.range, List.range.loop, h3, h4]
  unfold keyOf
  rw [Try.underlying103]
  dsimp only
  rw [if_pos (by rw [hk, hf]; rfl), hm, hc, h2]
  rfl

theorem plainElem_bool_inv {P : Program} {e : TypeId} (he : P.underlying e = some .bool) {v : Value} {z : DataW Unit × List MemPlace} (h : plainElem P e v = some z) : ∃ c, v = .bool c ∧ z = (.lit (.bool c), []) := by
  unfold plainElem at h
  rw [he] at h
  cases v <;> simp at h
  exact ⟨_, rfl, h.symm⟩
theorem zeroBool (w : World) : (zeroValue 4).run Try.prog w = .ok (.bool false) w := by kernel_rfl

section
variable {P : Program} {w : World} {o : Oper} {a : Act} {K' : Act → World → Prop} {Q : Exit → Act → World → Prop}
/-- 'v, ok := m[k]', at the operation, at bools -/
theorem wp_lookup_bool (m x : Operand) (t : TypeId) (hop : o.op = Op.lookup t m x true) (k e : TypeId) (K : Keyed P k) (ht : P.underlying t = some (.map k e)) (he : P.underlying e = some .bool) (hz : (zeroValue e).run P w = .ok (.bool false) w) (b n : Nat) (D : DataW Unit)
    (hm : a.eval m = .map (some b)) (hown : w.ownsMap P k (plainElem P e) b n D) (key : Value) (kl : Lit) (hx : a.eval x = key) (hkey : keyOf P k key = some kl)
    (hK : ∀ c : Bool, D.atKey kl (.lit (.bool false)) = .lit (.bool c) → K' (a.put o.dst (.tuple #[.bool c, .bool (Maps.has D kl)])) w) : o.wp P a w K' Q := by
  obtain ⟨v, ps, hrun, hv⟩ := hown.look_ok K ht hz (plainElem_bool he false) hkey
  obtain ⟨c, rfl, hc⟩ := plainElem_bool_inv he hv
  unfold Oper.wp
  simp [execOp, hop, hm, hx, hrun, Result.andThen]
  exact hK c (congrArg Prod.fst hc)
/-- 'm[k] = v', at the operation -/
theorem wp_mapUpdate_bool (m x v : Operand) (t : TypeId) (hop : o.op = Op.mapUpdate t m x v) (k e : TypeId) (K : Keyed P k) (ht : P.underlying t = some (.map k e)) (he : P.underlying e = some .bool) (b n : Nat) (D : DataW Unit)
    (hm : a.eval m = .map (some b)) (hown : w.ownsMap P k (plainElem P e) b n D) (hn : n < maxLen) (key : Value) (kl : Lit) (c : Bool) (hx : a.eval x = key) (hv : a.eval v = .bool c) (hkey : keyOf P k key = some kl)
    (hK : ∀ w', w'.ownsMap P k (plainElem (H := Unit) P e) b (n + 1) (D.put kl (.lit (.bool c))) → w.grownBy w' (some b) → K' (a.put o.dst undef) w') : o.wp P a w K' Q := by
  obtain ⟨w', hrun, r1, r2⟩ := hown.update K ht hn hkey (plainElem_bool he c)
  unfold Oper.wp
  simp [execOp, hop, hm, hx, hv, hrun, Result.andThen]
  exact hK w' r1 r2
end

end Go.Proofs.Ytmciinikfjfegaa
