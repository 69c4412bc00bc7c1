/- append, copy, clear: what the evaluator does and what the model does. No program stands in it. -/
import Derived.Test.YtlblaopkmigheaaGreatDoorEvC
namespace Go.Proofs.YtlblaopkmigheaaGreatDoor.Ev
open Go Go.RowKit

section
variable {P : Program} {N0 : Nat} {ρ ρ' : Ren} {h h' : AH} {w w' : World} {T : Tr AV} {a : Act}

theorem WR.drew (hw : WR N0 ρ h w) : WR N0 ρ h w.drew := ⟨hw.fresh, fun q st L hL => let ⟨B, h1, h2⟩ := hw.blk q st L hL; ⟨B, h1, h2.frame rfl⟩, hw.inj, hw.size, hw.own, hw.nx, hw.low⟩
theorem Ext.drew0 (hw : WR N0 ρ h w) : Ext N0 ρ h w ρ h w.drew := ⟨ρ.le_refl, hw.drew, (Below.refl N0 w).drew, Nat.le_refl _, fun _ _ hq hb => ⟨hb, hq⟩⟩

theorem unpackK_ok : ∀ {n x : Nat} {K : AV → Out}, unpackK n x K = .ok → ∃ l, K l = .ok ∧ ∀ ρ, VL ρ l ((bytesL n x).map fun b => .int .u8 b.toNat)
  | 0, x, K, hk => ⟨.nl, hk, fun _ => .nl⟩
  | n + 1, x, K, hk => by
    have hk : forceN (Nat.mod x (nat_lit 256)) (fun b => forceN (Nat.div x (nat_lit 256)) fun y => unpackK n y fun l => K (.cn (.i .u8 (.ofNat b)) l)) = .ok := hk
    rw [forceN_eq, forceN_eq] at hk
    obtain ⟨l, h1, h2⟩ := unpackK_ok hk
    refine ⟨_, h1, fun ρ => ?_⟩
    have e : ((UInt8.ofNat (x % 256)).toNat : Int) = ((x % 256 : Nat) : Int) := by simp
    show VL ρ _ (.int .u8 ((UInt8.ofNat (x % 256)).toNat : Int) :: _)
    rw [e]
    exact .cn (.i _ _) (h2 ρ)

/-- What is appended, or copied. -/
theorem cellsOfK_ok (hw : WR N0 ρ h w) {sz : Nat} {x : AV} {K : AV → Out} (hk : cellsOfK h sz x K = .ok) {u : Value} (hx : VR ρ x u) :
    ∃ l vs m, K l = .ok ∧ VL ρ l vs ∧ vs.length = m * sz ∧ (∀ K' : Nat → Out, lenOfK x K' = .ok → K' m = .ok) ∧ (∀ w' : World, (Builtin.lenOf u).run P w' = .ok m w') ∧
      (Builtin.firstCells sz m u).run P w = .ok vs.toArray w ∧ (Builtin.firstCells sz m u).run P w.drew = .ok vs.toArray w.drew := by
  cases hx with
  | s n s =>
    obtain ⟨h1, h2⟩ := iff_yes (show iff' (Nat.beq sz (nat_lit 1)) (unpackK n s K) (.bad 53 5) = .ok from hk)
    have h1 := Nat.eq_of_beq_eq_true h1
    subst h1
    obtain ⟨l, h3, h4⟩ := unpackK_ok h2
    have hb : (bytesL n s).map (fun b => Value.int .u8 b.toNat) = byteCells (bytesOf n s) := rfl
    have hf := fun w' => firstCells_string (P := P) (bytesOf n s) w'
    rw [bytesOf_size] at hf
    exact ⟨l, _, n, h3, h4 ρ, by rw [List.length_map, bytesL_length, Nat.mul_one], fun K' hk' => hk', fun w' => by simp [Builtin.lenOf, bytesOf_size], by rw [hb]; exact hf w, by rw [hb]; exact hf w.drew⟩
  | @sl q o n c sz' st L ad cap g1 g2 g3 g4 =>
    obtain ⟨h1, h2⟩ := iff_yes (show iff' (Nat.beq sz sz') (cellsOfB h q o n sz' st K) (.bad 53 6) = .ok from hk)
    have h1 := Nat.eq_of_beq_eq_true h1
    subst h1
    obtain ⟨bn, t, cur, mw, ro, hq, h2⟩ := onBlk_ok h2
    rw [forceN_eq, forceN_eq] at h2
    obtain ⟨h3, h4⟩ := iff_yes h2
    obtain ⟨vs, hl, hc, hg⟩ := (hw.c hq g1).cells g2 g3 (mayRead_ok h3)
    obtain ⟨l, h5, h6⟩ := readK_ok h4
    refine ⟨l, vs, n, h5, h6 ρ vs hl hg, hl, fun K' hk' => hk', fun w' => rfl, ?_, ?_⟩
    · by_cases hn : n * sz = 0
      · have : vs = [] := List.eq_nil_of_length_eq_zero (by rw [hl, hn])
        subst this
        have := run_loadCells_list (P := P) w ad [] (by simp)
        simp only [Builtin.firstCells, hn]
        exact this
      · have had : ad = ⟨L.cb, L.sh + o - L.lo, none⟩ := by
          rcases g4 with ⟨_, g, _⟩ | ⟨_, g, _⟩ | ⟨_, _, g⟩ | ⟨_, _, g⟩ <;> first | exact g | (rw [g, Nat.zero_mul] at hn; exact absurd rfl hn)
        rw [had]
        exact run_firstCells_some w sz n _ n cap vs hl hc
    · by_cases hn : n * sz = 0
      · have : vs = [] := List.eq_nil_of_length_eq_zero (by rw [hl, hn])
        subst this
        have := run_loadCells_list (P := P) w.drew ad [] (by simp)
        simp only [Builtin.firstCells, hn]
        exact this
      · have had : ad = ⟨L.cb, L.sh + o - L.lo, none⟩ := by
          rcases g4 with ⟨_, g, _⟩ | ⟨_, g, _⟩ | ⟨_, _, g⟩ | ⟨_, _, g⟩ <;> first | exact g | (rw [g, Nat.zero_mul] at hn; exact absurd rfl hn)
        rw [had]
        exact run_firstCells_some w.drew sz n _ n cap vs hl (by simpa using hc)
  | sn => exact ⟨.nl, [], 0, hk, .nl, by simp, fun K' hk' => hk', fun w' => rfl, by simp [Builtin.firstCells], by simp [Builtin.firstCells]⟩
  | _ => cases hk

/-- An append that finds room. -/
theorem append_room {t tx ty e : TypeId} {i : TypeInfo} (ht : P.underlying t = some (.slice e)) (hi : P.info? e = some i) (hkd : (∃ e', P.underlying tx = some (.slice e')) ∨ P.underlying tx = some .string) {ad : Addr} {n cap m : Nat} {x : Value} {vs : List Value}
    (hl : ∀ w' : World, (Builtin.lenOf x).run P w' = .ok m w') (hf : (Builtin.firstCells i.size m x).run P w = .ok vs.toArray w) (hroom : n + m ≤ cap) (hst : (storeCells (ad.add (n * i.size)) vs).run P w = .ok () w') :
    (Builtin.append_ #[t, tx] ty #[.slice (some ad) n cap, x]).run P w = .ok (.slice (some ad) (n + m) cap) w' := by
  rcases hkd with ⟨e', hk⟩ | hk <;> simp [Builtin.append_, run_underlying ht, run_underlying hk, sizeOf, typeInfo, hi, hl, hroom, hf, hst]

theorem grow_fresh {t tx ty e : TypeId} {i : TypeInfo} {zv : Value} (ht : P.underlying t = some (.slice e)) (hi : P.info? e = some i) (hz : i.zero = some zv) (hzs : zv.cells.size = i.size) (hby : i.bytes ≤ 1048576)
    (hkd : (∃ e', P.underlying tx = some (.slice e')) ∨ P.underlying tx = some .string) {base : Option Addr} {n cap m : Nat} {x : Value} {vs olds : List Value} (hlo : olds.length = n * i.size) (hlv : vs.length = m * i.size)
    (hl : ∀ w' : World, (Builtin.lenOf x).run P w' = .ok m w') (hf : (Builtin.firstCells i.size m x).run P w = .ok vs.toArray w) (hfd : (Builtin.firstCells i.size m x).run P w.drew = .ok vs.toArray w.drew) (h1 : ∀ u ∈ vs, u.oneCell' = true)
    (hold : (Builtin.firstCells i.size n (.slice base n cap)).run P w.drew = .ok olds.toArray w.drew) (hg : cap < n + m) (hnm : n + m ≤ 1000000) :
    ∃ extra : List Value, ∃ C, n + m ≤ C ∧ (olds ++ vs).length + extra.length = C * i.size ∧ (Builtin.append_ #[t, tx] ty #[.slice base n cap, x]).run P w = .ok (.slice (some ⟨w.heap.size, 0, none⟩) (n + m) C) (w.drew.alloc (.cells ((olds ++ vs) ++ extra).toArray e)) := by
  have hn := nextslicecap_le hg
  have hfit : Builtin.nextslicecap (n + m) cap * i.bytes ≤ 281474976710656 := by
    have := Nat.mul_le_mul (Nat.le_trans hn (Nat.mul_le_mul_left 2 hnm)) hby
    omega
  have hr := run_append_grow_src (P := P) w t tx ty e i zv ht hi hz base n cap olds hold x m vs ⟨hkd, hl, hf, hfd, hlv, h1⟩ hg (by omega) hfit
  refine ⟨(Builtin.zeroCells zv.cells (grownCap w (n + m) cap e - (n + m))).toList, grownCap w (n + m) cap e, ?_, ?_, ?_⟩
  · unfold grownCap
    simp [Question.cut]
  · have hc : n + m ≤ grownCap w (n + m) cap e := by unfold grownCap; simp [Question.cut]
    simp only [List.length_append, hlo, hlv, Array.length_toList]
    have : (Builtin.zeroCells zv.cells (grownCap w (n + m) cap e - (n + m))).size = (grownCap w (n + m) cap e - (n + m)) * i.size := by simp [Builtin.zeroCells, hzs]
    rw [this, ← Nat.add_mul, ← Nat.add_mul]
    congr 1
    omega
  · rw [hr]
    congr 3
    apply Array.ext'
    simp
end
end Go.Proofs.YtlblaopkmigheaaGreatDoor.Ev
namespace Go.Proofs.YtlblaopkmigheaaGreatDoor.Ev
open Go Go.RowKit

section
variable {P : Program} {N0 : Nat} {ρ ρ' : Ren} {h h' : AH} {w w' : World} {T : Tr AV} {a : Act}

/-- What an append needs to know of its types and of what is appended. -/
structure AppS (P : Program) (ρ : Ren) (w : World) (t tx : TypeId) (sz m : Nat) (x : Value) (l : AV) (vs : List Value) : Prop where
  ty : ∃ e i zv, P.underlying t = some (.slice e) ∧ P.info? e = some i ∧ i.zero = some zv ∧ zv.cells.size = i.size ∧ i.bytes ≤ 1048576 ∧ i.size = sz
  kd : (∃ e', P.underlying tx = some (.slice e')) ∨ P.underlying tx = some .string
  vl : VL ρ l vs
  len : vs.length = m * sz
  run : ∀ w' : World, (Builtin.lenOf x).run P w' = .ok m w'
  fst : (Builtin.firstCells sz m x).run P w = .ok vs.toArray w
  fstD : (Builtin.firstCells sz m x).run P w.drew = .ok vs.toArray w.drew

theorem appendV_ok (hw : WR N0 ρ h w) {t tx : TypeId} {sz m : Nat} {x : Value} {l : AV} {vs : List Value} (hA : AppS P ρ w t tx sz m x l vs) (hsz : 1 ≤ sz) (hm : 1 ≤ m) {q : Pos} {o n st : Nat} {K : AV → AH → Out} {nm : Nat} (hnm : nm = n + m) (hbig : nm ≤ 1000000)
    (hk : appendV h l nm q o n sz st K = .ok) {L : Loc} (hL : ρ q st = some L) (hlo : L.lo ≤ o) (hn : o + n * sz ≤ L.n) {ad : Addr} {cap : Nat} (hs : SlOK L o n 0 sz ad cap) :
    ∃ r y h' w' ρ', K r h' = .ok ∧ Ext N0 ρ h w ρ' h' w' ∧ VR ρ' r y ∧ (Builtin.append_ #[t, tx] t #[.slice (some ad) n cap, x]).run P w = .ok y w' ∧ ∀ ty, (Builtin.append_ #[t, tx] ty #[.slice (some ad) n cap, x]).run P w = .ok y w' := by
  subst hnm
  obtain ⟨e, i, zv, ht, hi, hz, hzs, hby, rfl⟩ := hA.ty
  obtain ⟨bn, bt, cur, mw, ro, hq, hk⟩ := onBlk_ok hk
  rw [forceN_eq, forceN_eq] at hk
  have hc := hw.c hq hL
  obtain ⟨hle, ⟨cs, el, fr, h1, h2, h3, h4⟩, h5, h6, h7⟩ := hc
  have hnm1 : o + (n + m) * i.size = o + n * i.size + m * i.size := by rw [Nat.add_mul]; omega
  -- what is known of the concrete slice
  have hcap : (ad = ⟨L.cb, L.sh + o - L.lo, none⟩ ∧ n ≤ cap ∧ o + cap * i.size = L.tot) ∨ (n = 0 ∧ cap = 0) := by
    rcases hs with ⟨_, g1, g2, g3⟩ | ⟨_, g1, g2, _⟩ | ⟨g, _⟩ | ⟨g, _⟩
    · exact .inl ⟨g1, g2, g3⟩
    · exact .inr ⟨g1, g2⟩
    · omega
    · omega
  rcases iff_ok hk with ⟨hb, hk⟩ | ⟨hb, hk⟩
  · -- there is room for sure
    rw [iff'_eq] at hb
    split at hb
    · rename_i hst
      have hst := Nat.eq_of_beq_eq_true hst
      have hfit : o + (n + m) * i.size ≤ bn := Nat.le_of_ble_eq_true hb
      have hLn := h6 hst
      have hroom : n + m ≤ cap ∧ ad = ⟨L.cb, L.sh + o - L.lo, none⟩ := by
        rcases hcap with ⟨g1, g2, g3⟩ | ⟨rfl, rfl⟩
        · refine ⟨?_, g1⟩
          have : (n + m) * i.size ≤ cap * i.size := by omega
          exact Nat.le_of_mul_le_mul_right this hsz
        · exfalso
          rcases hs with ⟨_, g1, g2, g3⟩ | ⟨_, _, _, g3⟩ | ⟨g, _⟩ | ⟨g, _⟩
          · have : 1 * 1 ≤ m * i.size := Nat.mul_le_mul hm hsz
            omega
          · have : 1 * 1 ≤ m * i.size := Nat.mul_le_mul hm hsz
            omega
          · omega
          · omega
      obtain ⟨h', w', g1, g2, g3⟩ := writeK_ok (P := P) hk hw hL (show L.lo ≤ o + n * i.size by omega) hA.vl
      have hadd : ad.add (n * i.size) = ⟨L.cb, L.sh + (o + n * i.size) - L.lo, none⟩ := by rw [hroom.2, addr_add]; congr 1; omega
      have hrun := fun ty => append_room (P := P) (ty := ty) ht hi hA.kd hA.run hA.fst hroom.1 (by rw [hadd]; exact g3)
      refine ⟨_, _, h', w', ρ, g1, g2, .sl hL hlo (show o + (n + m) * i.size ≤ L.n by omega) ?_, hrun t, hrun⟩
      rcases hcap with ⟨k1, k2, k3⟩ | ⟨rfl, rfl⟩
      · exact .inl ⟨rfl, k1, hroom.1, k3⟩
      · omega
    · cases hb
  · -- there may be none: a version of its own
    obtain ⟨hro, hk⟩ := iff_no hk
    have h64 := hw.high hq hro
    obtain ⟨hmr, hk⟩ := iff_yes hk
    have hmr := mayRead_ok hmr
    obtain ⟨t', hk, htk, htv⟩ := layK_ok hk
    have hlen := hA.vl.length
    rw [hlen, hA.len] at hk htk
    obtain ⟨_, hk⟩ := iff_yes hk
    rw [forceN_eq, forceN_eq, putBlk_eq] at hk
    obtain ⟨hone, htv⟩ := htv ρ vs hA.vl
    obtain ⟨h8, rfl⟩ := h3 hro
    generalize hmw : iff' (iff' (Nat.beq st cur) (Nat.beq (Nat.add o (Nat.mul n i.size)) bn) false) mw (minN mw (Nat.add o (Nat.mul n i.size))) = mw' at hk
    have hmwle : mw' ≤ mw ∧ ((st = cur ∧ o + n * i.size = bn) ∨ mw' ≤ o + n * i.size) := by
      rw [iff'_eq] at hmw
      split at hmw
      · rename_i hb2
        rw [iff'_eq] at hb2
        split at hb2
        · rename_i hb3
          exact ⟨by omega, .inl ⟨Nat.eq_of_beq_eq_true hb3, Nat.eq_of_beq_eq_true hb2⟩⟩
        · cases hb2
      · rw [minN_eq] at hmw
        have : min mw (o + n * i.size) = mw' := hmw
        exact ⟨by omega, .inr (by omega)⟩
    have hst' : ∀ L', ρ q (cur + 1) ≠ some L' := fun L' hL' => by
      have := (hw.c hq hL').le
      omega
    have hnone : ρ q (cur + 1) = none := by
      cases hx : ρ q (cur + 1) with
      | none => rfl
      | some L' => exact absurd hx (hst' L')
    -- cells of elder versions lie below the end
    have hold : ∀ st' L', ρ q st' = some L' → ∀ i', i' < L'.n → (i' < mw') → i' < o + n * i.size := by
      intro st' L' hL' i' hi' hm'
      rcases hmwle.2 with ⟨k1, k2⟩ | k
      · obtain ⟨_, _, _, q6, q7⟩ := hw.c hq hL'
        by_cases hc' : st' = cur
        · have := q6 hc'; omega
        · rcases q7 hc' with q7 | q7 <;> omega
      · omega
    have hmsz : 1 ≤ m * i.size := by have : 1 * 1 ≤ m * i.size := Nat.mul_le_mul hm hsz; omega
    -- what an elder version reads in the new tree
    have helder : ∀ st' L' (w2 : World), ρ q st' = some L' → (∀ ρ2 : Ren, ρ.le ρ2 → (∀ cs2, (∃ el2 fr2, w.heap[L'.cb]? = some (.cells cs2 el2 fr2)) → ∃ cs3 el3 fr3, w2.heap[L'.cb]? = some (.cells cs3 el3 fr3) ∧ cs3.size = cs2.size ∧ (∀ el2 fr2, w.heap[L'.cb]? = some (.cells cs2 el2 fr2) → fr3 = fr2) ∧ ∀ j, L'.lo + j < L'.sh + (o + n * i.size) → cs3[j]? = cs2[j]?) →
        CR N0 ρ2 (o + (n + m) * i.size) t' (cur + 1) mw' false st' L' w2) := by
      intro st' L' w2 hL' ρ2 hle2 hrow
      obtain ⟨q1, ⟨cs2, el2, fr2, q2, q3, q4, q5⟩, qn, q6, q7⟩ := hw.c hq hL'
      obtain ⟨cs3, el3, fr3, r1, r2, r3, r4⟩ := hrow cs2 ⟨el2, fr2, q2⟩
      refine ⟨by omega, ⟨cs3, el3, fr3, r1, by rw [r2]; exact ⟨q3.1, fun _ => q3.2 hro⟩, fun _ => ⟨(q4 hro).1, (r3 _ _ q2).trans (q4 hro).2⟩, ?_⟩, qn, fun hh => by omega, fun _ => ?_, fun hh => by first | cases hh | (rw [hro] at hh; cases hh)⟩
      · intro i' v a1 a2 a3 a4
        have a3 : i' < mw' := by rcases a3 with a3 | a3 <;> omega
        have hlt := hold st' L' hL' i' a2 a3
        rw [htk i' (.inl hlt)] at a4
        obtain ⟨y, b1, b2⟩ := q5 i' v a1 a2 (.inr (by omega)) a4
        exact ⟨y, by rw [r4 _ (by omega)]; exact b1, b2.mono hle2⟩
      · rcases hmwle.2 with ⟨k1, k2⟩ | k
        · by_cases hc' : st' = cur
          · have := q6 hc'; left; omega
          · rcases q7 hc' with q7 | q7
            · left; omega
            · right; omega
        · right; omega
    by_cases hroom : n + m ≤ cap
    · -- in place
      rcases hcap with ⟨g1, g2, g3⟩ | ⟨_, rfl⟩
      case inr => omega
      have htot : o + (n + m) * i.size ≤ L.tot := by
        have := Nat.mul_le_mul_right i.size hroom
        omega
      have h2e := h2.2 hro
      have hfit : (L.sh + (o + n * i.size) - L.lo) + vs.length ≤ cs.size := by rw [hA.len]; omega
      have hrun0 := run_storeCells_at P L.cb (L.sh + (o + n * i.size) - L.lo) el vs 0 cs w h1 (by simpa using hfit) hone
      simp only [Nat.add_zero] at hrun0
      have hadd : ad.add (n * i.size) = ⟨L.cb, L.sh + (o + n * i.size) - L.lo, none⟩ := by rw [g1, addr_add]; congr 1; omega
      have hrun := fun ty => append_room (P := P) (ty := ty) ht hi hA.kd hA.run hA.fst hroom (by rw [hadd]; exact hrun0)
      have hle : ρ.le (ρ.with q (cur + 1) ⟨L.cb, L.lo, o + (n + m) * i.size, L.tot, L.sh⟩) := Ren.le_with hnone
      refine ⟨_, _, _, _, ρ.with q (cur + 1) ⟨L.cb, L.lo, o + (n + m) * i.size, L.tot, L.sh⟩, hk, ⟨hle, ?_, below_setRow (Below.refl _ _) h8 _, Nat.le_refl _, ?_⟩,
        .sl (Ren.with_same _ _ _ _) hlo (Nat.le_refl _) (.inl ⟨rfl, g1, hroom, g3⟩), hrun t, hrun⟩
      · refine ⟨?_, ?_, ?_, by rw [setRow_size]; exact hw.size, ?_, hw.nx, ?_⟩
        · intro q' B' hb'
          rw [AH.get_put] at hb'
          rw [AH.nx_put]
          split at hb'
          · rename_i e'; subst e'; exact hw.fresh _ _ hq
          · exact hw.fresh _ _ hb'
        · intro q' st2 L2 hL2
          rcases Ren.with_inv hL2 with ⟨rfl, rfl, rfl⟩ | hL2
          · refine ⟨_, by rw [AH.get_put, if_pos rfl], ?_⟩
            refine ⟨Nat.le_refl _, ⟨over cs (L.sh + (o + n * i.size) - L.lo) vs, el, (0, 0), setRow_heap w _ _ _ _ _ h1, by rw [over_size hfit]; exact ⟨(show o + (n + m) * i.size + L.sh ≤ L.lo + cs.size by omega), fun _ => h2e⟩, fun _ => ⟨h8, rfl⟩, ?_⟩, htot, fun _ => rfl, fun hh => absurd rfl hh, fun hh => by first | cases hh | (rw [hro] at hh; cases hh)⟩
            intro i' v a1 a2 _ a4
            have a1 : L.lo ≤ i' := a1
            have a2 : i' < o + (n + m) * i.size := a2
            show ∃ x, (over cs (L.sh + (o + n * i.size) - L.lo) vs)[L.sh + i' - L.lo]? = some x ∧ _
            rw [over_get hfit]
            by_cases hin : o + n * i.size ≤ i'
            · rw [if_pos (by rw [hA.len]; omega)]
              obtain ⟨y, b1, b2⟩ := htv (i' - (o + n * i.size)) v (by rw [hA.len]; omega) (by rw [← a4]; congr 2; show o + n * i.size + (i' - (o + n * i.size)) = i'; omega)
              exact ⟨y, by rw [← b1]; congr 1; omega, b2.mono hle⟩
            · rw [if_neg (by omega)]
              rw [htk i' (.inl (show i' < o + n * i.size by omega))] at a4
              obtain ⟨y, b1, b2⟩ := h4 i' v a1 (by omega) (by rcases hmr with hmr | hmr <;> first | exact .inl hmr | (right; have : i' < o + n * i.size := by omega
                                                                                                                      exact Nat.lt_of_lt_of_le this hmr)) a4
              exact ⟨y, b1, b2.mono hle⟩
          · by_cases hqq : q = q'
            · subst hqq
              refine ⟨_, by rw [AH.get_put, if_pos rfl], ?_⟩
              refine helder st2 L2 _ hL2 _ hle ?_
              rintro cs2 ⟨el2, fr2, hr2⟩
              by_cases hcb : L2.cb = L.cb
              · obtain ⟨hlo2, hsh2⟩ := (hw.inj' hL2 hL hcb (.inl h64)).2
                rw [hcb] at hr2 ⊢
                rw [h1] at hr2
                simp only [Option.some.injEq, Obj.cells.injEq] at hr2
                obtain ⟨rfl, rfl, rfl⟩ := hr2
                refine ⟨_, _, _, setRow_heap w _ _ _ _ _ h1, over_size hfit, fun el3 fr3 h9 => ?_, fun j hj => ?_⟩
                · rw [h1] at h9
                  simp only [Option.some.injEq, Obj.cells.injEq] at h9
                  exact h9.2.2
                · show (over cs (L.sh + (o + n * i.size) - L.lo) vs)[j]? = _
                  rw [over_get hfit, if_neg (by omega)]
              · exact ⟨cs2, el2, fr2, by rw [setRow_other _ _ _ _ hcb]; exact hr2, rfl, fun el3 fr3 h9 => by rw [hr2] at h9; simp only [Option.some.injEq, Obj.cells.injEq] at h9; exact h9.2.2, fun _ _ => rfl⟩
            · obtain ⟨B', k1, k2⟩ := hw.blk _ _ _ hL2
              refine ⟨B', by rw [AH.get_put, if_neg hqq]; exact k1, (k2.frame (setRow_other _ _ _ _ fun e => hqq (hw.inj' hL hL2 e.symm (.inl h64)).1)).mono hle⟩
        · intro q1 st1 L1 q2 st2 L2 k1 k2 k3
          have red : ∀ q' st' L', (ρ.with q (cur + 1) ⟨L.cb, L.lo, o + (n + m) * i.size, L.tot, L.sh⟩) q' st' = some L' → ∃ st2 L2, ρ q' st2 = some L2 ∧ L2.cb = L'.cb ∧ L2.lo = L'.lo ∧ L2.sh = L'.sh := by
            intro q' st' L' k
            rcases Ren.with_inv k with ⟨rfl, rfl, rfl⟩ | k
            · exact ⟨st, L, hL, rfl, rfl, rfl⟩
            · exact ⟨st', L', k, rfl, rfl, rfl⟩
          obtain ⟨s1, M1, c1, c2, c3, c4⟩ := red _ _ _ k1
          obtain ⟨s2, M2, d1, d2, d3, d4⟩ := red _ _ _ k2
          rcases hw.inj _ _ _ _ _ _ c1 d1 (by omega) with ⟨e1, e2, e3⟩ | e1
          · exact .inl ⟨e1, by omega, by omega⟩
          · exact .inr e1
        · intro q' n' t'' cur' mw'' ro' g1 g2
          rw [AH.get_put] at g1
          split at g1
          · simp only [Option.some.injEq, Blk.c.injEq] at g1
            exact .inl g1.2.2.2.2.symm
          · exact hw.own _ _ _ _ _ _ g1 g2
        · intro q' B' g1 g2
          rw [AH.get_put] at g1
          split at g1
          · rename_i e; subst e; omega
          · exact hw.low _ _ g1 g2
      · intro q' B' hn' hb'
        have hne : q ≠ q' := by rintro rfl; rw [hn'] at hL; cases hL
        refine ⟨by rw [AH.get_put, if_neg hne]; exact hb', fun st2 => ?_⟩
        unfold Ren.with
        rw [if_neg (fun e => hne e.1)]
        exact hn' st2
    · -- a new row
      obtain ⟨olds, ho1, ho2, ho3⟩ := (hw.c hq hL).cells hlo hn hmr
      have hfold : (Builtin.firstCells i.size n (.slice (some ad) n cap)).run P w.drew = .ok olds.toArray w.drew := by
        rcases hcap with ⟨g1, _, _⟩ | ⟨rfl, _⟩
        · rw [g1]
          exact run_firstCells_some w.drew i.size n _ n cap olds ho1 (by simpa using ho2)
        · have : olds = [] := List.eq_nil_of_length_eq_zero (by rw [ho1, Nat.zero_mul])
          subst this
          have := run_loadCells_list (P := P) w.drew ad [] (by simp)
          simp only [Builtin.firstCells, Nat.zero_mul]
          exact this
      have hgr := fun ty => grow_fresh (P := P) (w := w) (ty := ty) ht hi hz hzs hby hA.kd ho1 hA.len hA.run hA.fst hA.fstD hone hfold (by omega) hbig
      obtain ⟨extra, C, c1, c2, c3⟩ := hgr t
      have hrun : ∀ ty, (Builtin.append_ #[t, tx] ty #[.slice (some ad) n cap, x]).run P w = .ok (.slice (some ⟨w.heap.size, 0, none⟩) (n + m) C) (w.drew.alloc (.cells ((olds ++ vs) ++ extra).toArray e)) := fun ty => c3
      have hle : ρ.le (ρ.with q (cur + 1) ⟨w.heap.size, o, o + (n + m) * i.size, o + C * i.size, 0⟩) := Ren.le_with hnone
      have hC : (n + m) * i.size ≤ C * i.size := Nat.mul_le_mul_right _ c1
      have hsize : ((olds ++ vs) ++ extra).length = C * i.size := by rw [List.length_append]; exact c2
      have hold2 : ∀ k, k < w.heap.size → (w.drew.alloc (.cells ((olds ++ vs) ++ extra).toArray e)).heap[k]? = w.heap[k]? := fun k hk' => Below.heap_alloc w.drew _ k hk'
      refine ⟨_, _, _, _, ρ.with q (cur + 1) ⟨w.heap.size, o, o + (n + m) * i.size, o + C * i.size, 0⟩, hk, ⟨hle, ?_, (Below.refl N0 w).drew.alloc hw.size _, Nat.le_refl _, ?_⟩,
        .sl (Ren.with_same _ _ _ _) (Nat.le_refl o) (Nat.le_refl _) (.inl ⟨rfl, by simp, c1, rfl⟩), hrun t, hrun⟩
      · refine ⟨?_, ?_, ?_, Nat.le_trans hw.size (by simp), ?_, hw.nx, ?_⟩
        · intro q' B' hb'
          rw [AH.get_put] at hb'
          rw [AH.nx_put]
          split at hb'
          · rename_i e'; subst e'; exact hw.fresh _ _ hq
          · exact hw.fresh _ _ hb'
        · intro q' st2 L2 hL2
          rcases Ren.with_inv hL2 with ⟨rfl, rfl, rfl⟩ | hL2
          · refine ⟨_, by rw [AH.get_put, if_pos rfl], ?_⟩
            refine ⟨Nat.le_refl _, ⟨((olds ++ vs) ++ extra).toArray, e, (0, 0), heap_alloc_new w.drew _, ⟨(by show o + (n + m) * i.size + 0 ≤ o + (((olds ++ vs) ++ extra).toArray).size; rw [List.size_toArray, hsize]; omega), fun _ => (by show o + (((olds ++ vs) ++ extra).toArray).size = o + C * i.size + 0; rw [List.size_toArray]; exact congrArg (o + ·) hsize)⟩, fun _ => ⟨hw.size, rfl⟩, ?_⟩, by show o + (n + m) * i.size ≤ o + C * i.size; omega, fun _ => rfl, fun hh => absurd rfl hh, fun hh => by first | cases hh | (rw [hro] at hh; cases hh)⟩
            intro i' v a1 a2 _ a4
            have a1 : o ≤ i' := a1
            have a2 : i' < o + (n + m) * i.size := a2
            show ∃ x, (((olds ++ vs) ++ extra).toArray)[0 + i' - o]? = some x ∧ _
            rw [Nat.zero_add]
            rw [List.getElem?_toArray, List.getElem?_append_left (by rw [List.length_append, ho1, hA.len]; omega)]
            by_cases hin : o + n * i.size ≤ i'
            · rw [List.getElem?_append_right (by rw [ho1]; omega)]
              obtain ⟨y, b1, b2⟩ := htv (i' - (o + n * i.size)) v (by rw [hA.len]; omega) (by rw [← a4]; congr 2; show o + n * i.size + (i' - (o + n * i.size)) = i'; omega)
              exact ⟨y, by rw [← b1, ho1]; congr 1; omega, b2.mono hle⟩
            · rw [List.getElem?_append_left (by rw [ho1]; omega)]
              rw [htk i' (.inl (show i' < o + n * i.size by omega))] at a4
              obtain ⟨y, b1, b2⟩ := ho3 (i' - o) v (by omega) (by rw [← a4]; congr 2; omega)
              exact ⟨y, b1, b2.mono hle⟩
          · by_cases hqq : q = q'
            · subst hqq
              refine ⟨_, by rw [AH.get_put, if_pos rfl], ?_⟩
              refine helder st2 L2 _ hL2 _ hle ?_
              rintro cs2 ⟨el2, fr2, hr2⟩
              have hlt := (Array.getElem?_eq_some_iff.1 hr2).1
              exact ⟨cs2, el2, fr2, by rw [hold2 _ hlt]; exact hr2, rfl, fun el3 fr3 h9 => by rw [hr2] at h9; simp only [Option.some.injEq, Obj.cells.injEq] at h9; exact h9.2.2, fun _ _ => rfl⟩
            · obtain ⟨B', k1, k2⟩ := hw.blk _ _ _ hL2
              exact ⟨B', by rw [AH.get_put, if_neg hqq]; exact k1, (k2.frame (hold2 _ k2.lt)).mono hle⟩
        · intro q1 st1 L1 q2 st2 L2 k1 k2 k3
          have low : ∀ q' st' L', ρ q' st' = some L' → L'.cb < w.heap.size := fun q' st' L' k => let ⟨B', _, k2⟩ := hw.blk _ _ _ k; k2.lt
          rcases Ren.with_inv k1 with ⟨rfl, rfl, rfl⟩ | k1 <;> rcases Ren.with_inv k2 with ⟨rfl, rfl, rfl⟩ | k2
          · exact .inl ⟨rfl, rfl, rfl⟩
          · have := low _ _ _ k2; have k3 : w.heap.size = L2.cb := k3; omega
          · have := low _ _ _ k1; have k3 : L1.cb = w.heap.size := k3; omega
          · exact hw.inj _ _ _ _ _ _ k1 k2 k3
        · intro q' n' t'' cur' mw'' ro' g1 g2
          rw [AH.get_put] at g1
          split at g1
          · simp only [Option.some.injEq, Blk.c.injEq] at g1
            exact .inl g1.2.2.2.2.symm
          · exact hw.own _ _ _ _ _ _ g1 g2
        · intro q' B' g1 g2
          rw [AH.get_put] at g1
          split at g1
          · rename_i e; subst e; omega
          · exact hw.low _ _ g1 g2
      · intro q' B' hn' hb'
        have hne : q ≠ q' := by rintro rfl; rw [hn'] at hL; cases hL
        refine ⟨by rw [AH.get_put, if_neg hne]; exact hb', fun st2 => ?_⟩
        unfold Ren.with
        rw [if_neg (fun e => hne e.1)]
        exact hn' st2
end
end Go.Proofs.YtlblaopkmigheaaGreatDoor.Ev
namespace Go.Proofs.YtlblaopkmigheaaGreatDoor.Ev
open Go Go.RowKit

section
variable {P : Program} {N0 : Nat} {ρ ρ' : Ren} {h h' : AH} {w w' : World} {T : Tr AV} {a : Act}

/-- What an operation that leaves a value gives. -/
def Gives (P : Program) (N0 : Nat) (ρ : Ren) (h : AH) (w : World) (s : Sem Value) (K : AV → AH → Out) : Prop :=
  ∃ r y h' w' ρ', K r h' = .ok ∧ Ext N0 ρ h w ρ' h' w' ∧ VR ρ' r y ∧ s.run P w = .ok y w'
theorem Gives.pure {s : Sem Value} {K : AV → AH → Out} (hw : WR N0 ρ h w) (hg : ∃ r y, K r h = .ok ∧ VR ρ r y ∧ s.run P w = .ok y w) : Gives P N0 ρ h w s K :=
  let ⟨r, y, h1, h2, h3⟩ := hg; ⟨r, y, h, w, ρ, h1, Ext.refl hw, h2, h3⟩

/-- A row of its own for what grows. -/
theorem freshK_ok (hw : WR N0 ρ h w) {t tx : TypeId} {sz m : Nat} {x : Value} {l : AV} {vs : List Value} (hA : AppS P ρ w t tx sz m x l vs) {base : Option Addr} {n cap : Nat} {olds : List Value} (hol : olds.length = n * sz)
    (hold : (Builtin.firstCells sz n (.slice base n cap)).run P w.drew = .ok olds.toArray w.drew) (hg : cap < n + m) (hnm : n + m ≤ 1000000) {ll : AV} (hll : VL ρ ll (olds ++ vs)) (h1 : ∀ u ∈ vs, u.oneCell' = true)
    {K : AV → AH → Out} (hk : freshK h ll (n + m) sz K = .ok) (ty : TypeId) : Gives P N0 ρ h w (Builtin.append_ #[t, tx] ty #[.slice base n cap, x]) K := by
  obtain ⟨e, i, zv, ht, hi, hz, hzs, hby, rfl⟩ := hA.ty
  obtain ⟨extra, C, c1, c2, c3⟩ := grow_fresh (P := P) (w := w) (ty := ty) ht hi hz hzs hby hA.kd hol hA.len hA.run hA.fst hA.fstD h1 hold hg hnm
  obtain ⟨q, h', ρ', g1, g2, g3, _⟩ := newCells_ok hw.drew hk hll e extra
  have hlen : (olds ++ vs).length = (n + m) * i.size := by rw [List.length_append, hol, hA.len, Nat.add_mul]
  refine ⟨_, _, h', _, ρ', g1, (Ext.drew0 hw).trans g2, .sl g3 (Nat.le_refl _) (show 0 + (n + m) * i.size ≤ (olds ++ vs).length by omega) (.inl ⟨rfl, rfl, c1, ?_⟩), c3⟩
  show 0 + C * i.size = _
  rw [Nat.zero_add, ← c2]

theorem layK_one : ∀ {l : AV} {t : Tr AV} {o : Nat} {K : Tr AV → Nat → Out}, layK l t o K = .ok → ∀ (ρ : Ren) (vs : List Value), VL ρ l vs → ∀ v ∈ vs, v.oneCell' = true := fun hk ρ vs hv => let ⟨_, _, _, h3⟩ := layK_ok hk; (h3 ρ vs hv).1

theorem appendX_ok (hw : WR N0 ρ h w) {t tx : TypeId} {sz m : Nat} {x : Value} {l : AV} {vs : List Value} (hA : AppS P ρ w t tx sz m x l vs) (hm : 1 ≤ m) {q : Pos} {o n k st : Nat} {K : AV → AH → Out} {nm : Nat} (hnm : nm = n + m) (hbig : nm ≤ 1000000)
    (hk : appendX h (.sl q o n (k + 1) sz st) l nm q o n k sz st K = .ok) {L : Loc} (hL : ρ q st = some L) (hlo : L.lo ≤ o) (hn : o + n * sz ≤ L.n) {ad : Addr} {cap : Nat} (hs : SlOK L o n (k + 1) sz ad cap) (ty : TypeId) :
    Gives P N0 ρ h w (Builtin.append_ #[t, tx] ty #[.slice (some ad) n cap, x]) K := by
  subst hnm
  have hA' := hA
  obtain ⟨e, i, zv, ht, hi, hz, hzs, hby, hsz⟩ := hA.ty
  have hcap : (cap = k ∧ n ≤ k ∧ ad = ⟨L.cb, L.sh + o - L.lo, none⟩) ∨ (k = 0 ∧ cap = 0 ∧ n = 0) := by
    rcases hs with ⟨g, _⟩ | ⟨g, _⟩ | ⟨g1, g2, g3⟩ | ⟨g1, g2, g3⟩
    · omega
    · omega
    · left; exact ⟨by omega, by omega, g3⟩
    · right; omega
  rcases iff_ok hk with ⟨hb, hk⟩ | ⟨hb, hk⟩
  · have hb : n + m ≤ k := Nat.le_of_ble_eq_true hb
    rcases hcap with ⟨rfl, g2, g3⟩ | ⟨g1, g2, g3⟩
    case inr => omega
    rw [forceN_eq] at hk
    obtain ⟨h', w', g1, g2', g4⟩ := writeK_ok (P := P) hk hw hL (show L.lo ≤ o + n * sz by omega) hA.vl
    have hadd : ad.add (n * i.size) = ⟨L.cb, L.sh + (o + n * sz) - L.lo, none⟩ := by rw [g3, addr_add, hsz]; congr 1; omega
    have hrun := append_room (P := P) (ty := ty) ht hi hA.kd hA.run (by rw [hsz]; exact hA.fst) hb (by rw [hadd]; exact g4)
    refine ⟨_, _, h', w', ρ, g1, g2', .sl hL hlo ?_ (.inr (.inr (.inl ⟨rfl, hb, g3⟩))), hrun⟩
    -- the cells written are known ones
    obtain ⟨bn, bt, cur, mw, ro, hq, hk2⟩ := onBlk_ok hk
    obtain ⟨_, hk2⟩ := iff_no hk2
    obtain ⟨hst, hk2⟩ := iff_yes hk2
    obtain ⟨t', hk2, _, _⟩ := layK_ok hk2
    obtain ⟨hfit, _⟩ := iff_yes hk2
    have hfit := Nat.le_of_ble_eq_true hfit
    rw [hA.vl.length, hA.len] at hfit
    have := (hw.c hq hL).ncur (Nat.eq_of_beq_eq_true hst)
    show o + (n + m) * sz ≤ L.n
    rw [Nat.add_mul]
    have : o + n * sz + m * sz ≤ bn := hfit
    omega
  · have hb : ¬ n + m ≤ k := fun hh => by rw [Nat.ble_eq.mpr hh] at hb; cases hb
    obtain ⟨l0, olds, m0, g1, g2, g3, g4, g5, g6, g7⟩ := cellsOfK_ok (P := P) hw hk (.sl hL hlo hn hs)
    obtain rfl : n = m0 := by
      have := g4 (fun j => if j = n then .ok else .bad 0 0) (by show (if n = n then Out.ok else _) = _; rw [if_pos rfl])
      by_cases hh : m0 = n
      · exact hh.symm
      · simp [hh] at this
    obtain ⟨ll, g8, g9⟩ := appK_ok g1
    have hone : ∀ u ∈ vs, u.oneCell' = true := fun u hu => layK_one (show layK ll .e (nat_lit 0) _ = .ok from g8) ρ _ (g9 ρ _ _ g2 hA.vl) u (List.mem_append.2 (.inr hu))
    exact freshK_ok hw hA' g3 g7 (by rcases hcap with ⟨rfl, _⟩ | ⟨_, rfl, _⟩ <;> omega) hbig (g9 ρ _ _ g2 hA.vl) hone g8 ty

theorem spreadB_ok {t : TypeId} (hs : spreadB P t = true) : (∃ e', P.underlying t = some (.slice e')) ∨ P.underlying t = some .string := by
  unfold spreadB at hs
  split at hs
  · rename_i e hd; exact .inl ⟨e, hd⟩
  · rename_i hd; exact .inr hd
  · cases hs
theorem appendK_ok (hw : WR N0 ρ h w) {t tx : TypeId} (hsp : spreadB P tx = true) {s x : AV} {K : AV → AH → Out} (hk : appendK P t h s x K = .ok) {u v : Value} (hs : VR ρ s u) (hx : VR ρ x v) (ty : TypeId) :
    Gives P N0 ρ h w (Builtin.append_ #[t, tx] ty #[u, v]) K := by
  obtain ⟨sz, k1, hk⟩ := onO_ok hk
  obtain ⟨z, k2, hk⟩ := onO_ok hk
  obtain ⟨hsz, hk⟩ := iff_yes hk
  have hsz : 1 ≤ sz := Nat.le_of_ble_eq_true hsz
  obtain ⟨l, vs, m, g1, g2, g3, g4, g5, g6, g7⟩ := cellsOfK_ok (P := P) hw hk hx
  have hk := g4 _ g1
  obtain ⟨e, i, q1, q2, q3, q4⟩ := sliceSz_ok k1
  unfold sliceZero at k2
  rw [q1] at k2
  obtain ⟨i', zv, z1, z2, z3, _⟩ := zeroOf_ok k2
  rw [q2] at z1
  obtain rfl := Option.some.inj z1
  have hA : AppS P ρ w t tx sz m v l vs := ⟨⟨e, i, zv, q1, q2, z2, z3, q4, q3⟩, spreadB_ok hsp, g2, g3, g5, g6, g7⟩
  have nothing : m = 0 → ∀ (base : Option Addr) (n cap : Nat), n ≤ cap → u = .slice base n cap → K s h = .ok → Gives P N0 ρ h w (Builtin.append_ #[t, tx] ty #[u, v]) K := by
    intro hm base n cap hle hu hK
    subst hm
    have hnil : vs = [] := List.eq_nil_of_length_eq_zero (by rw [g3, Nat.zero_mul])
    subst hnil
    refine ⟨s, u, h, w, ρ, hK, Ext.refl hw, hs, ?_⟩
    rw [hu]
    exact run_append_nothing w t tx ty e i q1 q2 base n cap hle v ⟨spreadB_ok hsp, g5, by rw [q3]; exact g6, by rw [q3]; exact g7, by simp, by simp⟩
  cases hs with
  | @sl q o n c sz' st L ad cap r1 r2 r3 r4 =>
    obtain ⟨h1, hk⟩ := iff_yes (show iff' (Nat.beq sz sz') (Nat.rec (motive := fun _ => Out) (K (.sl q o n c sz' st) h) (fun _ _ => forceN (Nat.add n m) fun nm => iff' (Nat.ble nm (nat_lit 1000000)) (Nat.rec (motive := fun _ => Out) (appendV h l nm q o n sz' st K) (fun k _ => appendX h (.sl q o n c sz' st) l nm q o n k sz' st K) c) (.bad 63 10)) m) (.bad 63 9) = .ok from hk)
    have h1 := Nat.eq_of_beq_eq_true h1
    subst h1
    have hncap : n ≤ cap := by rcases r4 with ⟨_, _, g, _⟩ | ⟨_, rfl, rfl, _⟩ | ⟨_, g, _⟩ | ⟨_, rfl, rfl⟩ <;> omega
    cases m with
    | zero => exact nothing rfl (some ad) n cap hncap rfl hk
    | succ m =>
      have hk : forceN (Nat.add n (m + 1)) (fun nm => iff' (Nat.ble nm (nat_lit 1000000)) (Nat.rec (motive := fun _ => Out) (appendV h l nm q o n sz st K) (fun k _ => appendX h (.sl q o n c sz st) l nm q o n k sz st K) c) (.bad 63 10)) = .ok := hk
      rw [forceN_eq] at hk
      obtain ⟨hbig, hk⟩ := iff_yes hk
      have hbig : n + (m + 1) ≤ 1000000 := Nat.le_of_ble_eq_true hbig
      cases c with
      | zero =>
        obtain ⟨r, y, h', w', ρ', b1, b2, b3, _, b4⟩ := appendV_ok (P := P) hw hA hsz (by omega) rfl hbig hk r1 r2 r3 r4
        exact ⟨r, y, h', w', ρ', b1, b2, b3, b4 ty⟩
      | succ c => exact appendX_ok hw hA (by omega) rfl hbig hk r1 r2 r3 r4 ty
  | sn =>
    cases m with
    | zero => exact nothing rfl none 0 0 (Nat.le_refl 0) rfl hk
    | succ m =>
      obtain ⟨hbig, hk⟩ := iff_yes (show iff' (Nat.ble (m + 1) (nat_lit 1000000)) (freshK h l (m + 1) sz K) (.bad 63 11) = .ok from hk)
      have hbig : m + 1 ≤ 1000000 := Nat.le_of_ble_eq_true hbig
      have hone : ∀ u ∈ vs, u.oneCell' = true := layK_one (show layK l .e (nat_lit 0) _ = .ok from hk) ρ _ g2
      refine freshK_ok hw hA (n := 0) (olds := []) (by simp) (by simp [Builtin.firstCells]) (by omega) (by omega) (by simpa using g2) hone (by rw [Nat.zero_add]; exact hk) ty
  | _ => cases hk
end
end Go.Proofs.YtlblaopkmigheaaGreatDoor.Ev
namespace Go.Proofs.YtlblaopkmigheaaGreatDoor.Ev
open Go Go.RowKit

section
variable {P : Program} {N0 : Nat} {ρ ρ' : Ren} {h h' : AH} {w w' : World} {T : Tr AV} {a : Act}

theorem slenK_ok {x : AV} {K : Nat → Out} (hk : slenK x K = .ok) {u : Value} (hx : VR ρ x u) : ∃ m b c, K m = .ok ∧ u = .slice b m c := by
  cases hx <;> first | exact ⟨_, _, _, hk, rfl⟩ | cases hk
theorem copyN_ok (hw : WR N0 ρ h w) {k sz : Nat} {d x : AV} {K : AV → AH → Out} (hk : copyN h k sz d x K = .ok) {m cx : Nat} {bx : Option Addr} (hx : VR ρ x (.slice bx m cx)) {n c : Nat} {b : Option Addr} (hd : VR ρ d (.slice b n c)) (hkm : k ≤ m) (hkn : k ≤ n) (hk1 : 1 ≤ k) :
    ∃ h' w' ad cells, K (.i .i64 (.ofNat k)) h' = .ok ∧ Ext N0 ρ h w ρ h' w' ∧ b = some ad ∧ (Builtin.firstCells sz k (.slice bx m cx)).run P w = .ok cells w ∧ (storeCells ad cells.toList).run P w = .ok () w' := by
  obtain ⟨q, o, n0, c0, z, st, rfl, h1⟩ := AV.sl_ok hk
  obtain ⟨q', o', n1, c1, z', st', rfl, h2⟩ := AV.sl_ok h1
  obtain ⟨e1, h3⟩ := iff_yes h2
  obtain ⟨e2, h4⟩ := iff_yes h3
  have e1 := Nat.eq_of_beq_eq_true e1
  have e2 := Nat.eq_of_beq_eq_true e2
  subst e1; subst e2
  cases hd with
  | @sl _ _ _ _ _ _ L ad _ r1 r2 r3 r4 => cases hx with
    | @sl _ _ _ _ _ _ L' ad' _ s1 s2 s3 s4 =>
      obtain ⟨bn, t, cur, mw, ro, hq, h5⟩ := onBlk_ok h4
      rw [forceN_eq, forceN_eq] at h5
      obtain ⟨h6, h7⟩ := iff_yes h5
      have hks : k * sz ≤ m * sz := Nat.mul_le_mul_right _ hkm
      obtain ⟨vs, hl, hc, hg⟩ := (hw.c hq s1).cells s2 (show o' + k * sz ≤ L'.n by omega) (mayRead_ok h6)
      obtain ⟨l, h8, h9⟩ := readK_ok h7
      have hv := h9 ρ vs hl hg
      obtain ⟨h', w', g1, g2, g3⟩ := writeK_ok (P := P) h8 hw r1 r2 hv
      have had : ad = ⟨L.cb, L.sh + o - L.lo, none⟩ := by
        rcases r4 with ⟨_, g, _⟩ | ⟨_, g, _⟩ | ⟨_, _, g⟩ | ⟨_, _, g⟩ <;> first | exact g | omega
      have had' : ad' = ⟨L'.cb, L'.sh + o' - L'.lo, none⟩ := by
        rcases s4 with ⟨_, g, _⟩ | ⟨_, g, _⟩ | ⟨_, _, g⟩ | ⟨_, _, g⟩ <;> first | exact g | omega
      refine ⟨h', w', ad, vs.toArray, g1, g2, rfl, ?_, by rw [had]; exact g3⟩
      rw [had']
      have := run_loadCells_list (P := P) w _ vs hc
      rw [hl] at this
      simp only [Builtin.firstCells]
      exact this
theorem copyK_ok (hw : WR N0 ρ h w) {t tx : TypeId} {d x : AV} {K : AV → AH → Out} (hk : copyK P t h d x K = .ok) {u v : Value} (hd : VR ρ d u) (hx : VR ρ x v) (ty : TypeId) :
    Gives P N0 ρ h w (Builtin.copy_ #[t, tx] ty #[u, v]) K := by
  obtain ⟨sz, k1, hk⟩ := onO_ok hk
  obtain ⟨m, bx, cx, hk, rfl⟩ := slenK_ok hk hx
  obtain ⟨n, b, c, hk, rfl⟩ := slenK_ok hk hd
  rw [forceN_eq, minN_eq] at hk
  obtain ⟨e, i, q1, q2, q3, _⟩ := sliceSz_ok k1
  have hsz : (sizeOf e).run P w = .ok sz w := by simp [sizeOf, run_typeInfo w q2, q3]
  have hmin : Nat.min m n = min m n := rfl
  cases hmn : min m n with
  | zero =>
    rw [hmn] at hk
    have hf : (Builtin.firstCells sz 0 (.slice bx m cx)).run P w = .ok #[] w := by
      cases bx with
      | none => simp [Builtin.firstCells]
      | some a =>
        have := run_loadCells_list (P := P) w a [] (by simp)
        simp only [Builtin.firstCells, Nat.zero_mul]
        exact this
    refine ⟨_, .int .i64 0, h, w, ρ, hk, Ext.refl hw, .i _ _, ?_⟩
    cases b <;> simp [Builtin.copy_, run_underlying q1, Builtin.lenOf, hmin, hmn, hsz, hf, storeCells, goInt]
  | succ k =>
    rw [hmn] at hk
    obtain ⟨h', w', ad, cells, g1, g2, rfl, g4, g5⟩ := copyN_ok (P := P) hw (show copyN h (k + 1) sz d x K = .ok from hk) hx hd (by omega) (by omega) (by omega)
    refine ⟨_, .int .i64 ((k + 1 : Nat) : Int), h', w', ρ, g1, g2, .i _ _, ?_⟩
    simp [Builtin.copy_, run_underlying q1, Builtin.lenOf, hmin, hmn, hsz, g4, g5, goInt]
theorem lenK_ok (hw : WR N0 ρ h w) {t : TypeId} {v : AV} {K : AV → Out} (hk : lenK h (lenOfT P t) v K = .ok) {u : Value} (hx : VR ρ v u) (ty : TypeId) : ∃ r y, K r = .ok ∧ VR ρ r y ∧ (Builtin.len_ #[t] ty #[u]).run P w = .ok y w := by
  unfold lenOfT at hk
  split at hk
  · rename_i hd
    obtain ⟨n, s, rfl, h1⟩ := AV.s_ok (show v.on_s (.bad 62 0) (fun n _ => iK n K) = .ok from hk)
    cases hx
    exact ⟨_, .int .i64 n, h1, .i _ _, by simp [Builtin.len_, run_underlying hd, bytesOf_size, goInt]⟩
  · rename_i hd
    cases hx with
    | @sl _ _ n _ _ _ L ad cap r1 r2 r3 r4 => exact ⟨_, .int .i64 n, hk, .i _ _, by simp [Builtin.len_, run_underlying hd, goInt]⟩
    | sn => exact ⟨_, .int .i64 0, hk, .i _ _, by simp [Builtin.len_, run_underlying hd, goInt]⟩
    | _ => cases hk
  · rename_i hd
    cases hx with
    | @m q L r1 =>
      obtain ⟨es, g1, g2⟩ := onMap_ok (show onMap h q (fun es => forceN (lenE es) fun n => iK n K) = .ok from hk)
      rw [forceN_eq] at g2
      obtain ⟨B, b1, b2⟩ := hw.blk _ _ _ r1
      rw [g1] at b1
      obtain rfl := Option.some.inj b1
      obtain ⟨_, _, _, r, b3, b4⟩ := b2
      have hlen : ∀ (es : Ents) (i : Nat) (r : List MapEntry), ER ρ es i r → lenE es = r.length := by
        intro es i r hr
        induction hr with
        | nl => rfl
        | cn _ _ _ ih => exact congrArg Nat.succ ih
      exact ⟨_, .int .i64 (lenE es), g2, .i _ _, by simp [Builtin.len_, run_underlying hd, goInt, getObj, Sem.run, b3, hlen _ _ _ b4]⟩
    | mn => exact ⟨_, .int .i64 0, hk, .i _ _, by simp [Builtin.len_, run_underlying hd, goInt]⟩
    | _ => cases hk
  · rename_i n e hd
    exact ⟨_, .int .i64 n, hk, .i _ _, by simp [Builtin.len_, run_underlying hd, goInt]⟩
  · cases hk
end
end Go.Proofs.YtlblaopkmigheaaGreatDoor.Ev
