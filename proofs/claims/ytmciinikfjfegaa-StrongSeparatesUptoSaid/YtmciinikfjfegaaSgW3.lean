/- the partition of the next round: strong.next -/
import Derived.Test.YtmciinikfjfegaaSgW1
import Derived.Test.YtmciinikfjfegaaSgW2
import Derived.Test.YtmciinikfjfegaaRwQ5
import Derived.Maps.OwnSet
import Derived.StringKeys
namespace Go.Proofs.Ytmciinikfjfegaa
open Go Go.RowKit Go.Maps
set_option maxHeartbeats 8000000

abbrev DU := DataW Unit
/-- the map of the keys of the first k states -/
structure NumInv (D : DU) (kl : Nat → Lit) (K : Nat → Key) (k n : Nat) : Prop where
  tidy : Maps.Tidy D
  has : ∀ s, s < n → (Maps.has D (kl s) = true ↔ ∃ t, t < k ∧ K t = K s)
  at_ : ∀ t, t < k → D.atKey (kl t) (.lit (.int .i64 0)) = .lit (.int .i64 ((numK K k).1.getD t 0 : Nat))
  size : Maps.size D = (numK K k).2
section
variable {D : DU} {kl : Nat → Lit} {K : Nat → Key} {k n : Nat}
theorem NumInv.zero (kl : Nat → Lit) (K : Nat → Key) (n : Nat) : NumInv (.map []) kl K 0 n :=
  ⟨Maps.tidy_empty, fun s _ => ⟨fun h => by simp [Maps.has] at h, fun ⟨t, h, _⟩ => by omega⟩, fun t h => by omega, rfl⟩
theorem NumInv.hit (h : NumInv D kl K k n) (hkl : ∀ s t, s < n → t < n → (kl s = kl t ↔ K s = K t)) (hk : k < n) (hh : Maps.has D (kl k) = true) :
    ∃ c : Nat, D.atKey (kl k) (.lit (.int .i64 0)) = .lit (.int .i64 (c : Nat)) ∧ (numK K (k + 1)).1 = (numK K k).1 ++ [c] ∧ NumInv D kl K (k + 1) n := by
  obtain ⟨t, ht, hkt⟩ := (h.has k hk).1 hh
  have hl := numK_len K k
  cases hc : (List.range k).find? (fun t => decide (K t = K k)) with
  | none => exact absurd hkt (find_no hc t ht)
  | some u =>
    obtain ⟨hu, hku⟩ := find_key hc
    have he : numK K (k + 1) = ((numK K k).1 ++ [(numK K k).1.getD u 0], (numK K k).2) := numS_some hc
    have hlit : kl k = kl u := (hkl k u hk (by omega)).2 hku.symm
    refine ⟨(numK K k).1.getD u 0, by rw [hlit]; exact h.at_ u hu, by rw [he], h.tidy, fun s hs => ?_, fun t ht => ?_, by rw [he]; exact h.size⟩
    · rw [h.has s hs]
      constructor
      · rintro ⟨t, h1, h2⟩
        exact ⟨t, by omega, h2⟩
      · rintro ⟨t, h1, h2⟩
        by_cases e : t = k
        · subst e; exact ⟨u, hu, hku.trans h2⟩
        · exact ⟨t, by omega, h2⟩
    · rw [he]
      dsimp only
      by_cases e : t = k
      · subst e
        rw [getD_snoc_eq hl.symm, hlit]
        exact h.at_ u hu
      · rw [getD_snoc_lt (by omega)]
        exact h.at_ t (by omega)
theorem NumInv.miss (h : NumInv D kl K k n) (hkl : ∀ s t, s < n → t < n → (kl s = kl t ↔ K s = K t)) (hlit : ∀ s, WideAt.IsKeyLit (kl s)) (hk : k < n) (hh : Maps.has D (kl k) = false) :
    (numK K (k + 1)).1 = (numK K k).1 ++ [(numK K k).2] ∧ NumInv (D.put (kl k) (.lit (.int .i64 ((numK K k).2 : Nat)))) kl K (k + 1) n := by
  have hl := numK_len K k
  have hno : ∀ t, t < k → K t ≠ K k := fun t ht e => by
    have := (h.has k hk).2 ⟨t, ht, e⟩
    rw [hh] at this
    cases this
  have hc : (List.range k).find? (fun t => decide (K t = K k)) = none := by
    cases hx : (List.range k).find? (fun t => decide (K t = K k)) with
    | none => rfl
    | some u =>
      obtain ⟨hu, hku⟩ := find_key hx
      exact absurd hku (hno u hu)
  have he : numK K (k + 1) = ((numK K k).1 ++ [(numK K k).2], (numK K k).2 + 1) := numS_none hc
  refine ⟨by rw [he], h.tidy.put (hlit k) _, fun s hs => ?_, fun t ht => ?_, ?_⟩
  · by_cases e : kl s = kl k
    · rw [e, Maps.has_put_same h.tidy.isMap (hlit k)]
      exact ⟨fun _ => ⟨k, by omega, ((hkl s k hs hk).1 e).symm⟩, fun _ => rfl⟩
    · rw [Maps.has_put_other e, h.has s hs]
      constructor
      · rintro ⟨t, h1, h2⟩
        exact ⟨t, by omega, h2⟩
      · rintro ⟨t, h1, h2⟩
        by_cases e2 : t = k
        · subst e2; exact absurd ((hkl s t hs hk).2 h2.symm) e
        · exact ⟨t, by omega, h2⟩
  · rw [he]
    dsimp only
    by_cases e : t = k
    · subst e
      rw [getD_snoc_eq hl.symm, Maps.atKey_put_same h.tidy.isMap (hlit t)]
    · rw [getD_snoc_lt (by omega), Maps.atKey_put_other (fun e2 => hno t (by omega) ((hkl t k (by omega) hk).1 e2))]
      exact h.at_ t (by omega)
  · rw [Maps.size_put h.tidy, hh, he]
    simp [h.size]
end

theorem strN_size (l : List Nat) : (strN l).size = l.length := by
  have h := congrArg List.length (strN_data l)
  rw [List.length_map, Array.length_toList] at h
  exact h
/-- the key of a state -/
def litK (ls : List (List Arc)) (cl : List Nat) (s : Nat) : Lit := .string (strN (keyB (cl.getD s 0) (sigS ls cl s))).data.toList
theorem litK_iff {ls : List (List Arc)} {cl : List Nat} (hev : ∀ l ∈ ls, ∀ a ∈ l, 0 ≤ a.ev ∧ a.ev ≤ 1025) (hcl : ∀ x ∈ cl, x ≤ 100000) (s t : Nat) : litK ls cl s = litK ls cl t ↔ keyS ls cl s = keyS ls cl t := by
  have hx : ∀ s, cl.getD s 0 < 4294967296 := fun s => by
    rw [List.getD_eq_getElem?_getD]
    cases hq : cl[s]? with
    | none => simp
    | some x =>
      have := hcl x (List.mem_of_getElem? hq)
      simp
      omega
  constructor
  · intro h
    have h1 : (strN (keyB (cl.getD s 0) (sigS ls cl s))).data.toList = (strN (keyB (cl.getD t 0) (sigS ls cl t))).data.toList := Lit.string.inj h
    have h2 := strN_inj (keyN_byte _) (keyN_byte _) (show strN (keyB (cl.getD s 0) (sigS ls cl s)) = strN (keyB (cl.getD t 0) (sigS ls cl t)) from ByteArray.ext (Array.toList_inj.1 h1))
    obtain ⟨h3, h4⟩ := keyB_inj (hx s) (hx t) (ren_small hev hcl) (ren_small hev hcl) h2
    rw [keyS, keyS, h3, h4]
  · intro h
    have h1 : cl.getD s 0 = cl.getD t 0 := congrArg Prod.fst h
    have h2 : sigS ls cl s = sigS ls cl t := congrArg Prod.snd h
    rw [litK, litK, h1, h2]

theorem lawStr : Keyed Try.prog 9 := string_keyed Try.underlying9
theorem zeroInt (w : World) : (zeroValue 3).run Try.prog w = .ok (.int .i64 0) w := by kernel_rfl
theorem keyOf_str {l : List Nat} (h : l.length ≤ 1000000000) : keyOf Try.prog 9 (.string (strN l)) = some (.string (strN l).data.toList) := WideMaps.keyOf_string_mk Try.underlying9 (by rw [strN_size]; unfold maxLen; omega)
theorem ownsMap_below {H : Type} {P : Program} {k : TypeId} {R : Value → Option (DataW H × List MemPlace)} {w w' : World} {b n B : Nat} {D : DataW H} (h : w.ownsMap P k R b n D) (hb : Below B w w') (hlt : b < B) : w'.ownsMap P k R b n D := by
  obtain ⟨es, clock, h1, h2⟩ := h
  exact ⟨es, clock, (hb.block b hlt).trans h1, h2⟩
theorem ownsMap_out {H : Type} {P : Program} {k : TypeId} {R : Value → Option (DataW H × List MemPlace)} {w w' : World} {b n : Nat} {D : DataW H} {Q : Nat → Prop} (h : w.ownsMap P k R b n D) (hO : Outside Q w w') (hb : ¬ Q b) : w'.ownsMap P k R b n D := by
  have hlt := h.lt
  obtain ⟨es, clock, h1, h2⟩ := h
  exact ⟨es, clock, (hO.block b hlt hb).trans h1, h2⟩
theorem at_eq {D : DU} {kl : Lit} {z : DU} {a b : Int} (h : D.atKey kl z = .lit (.int .i64 a)) (h' : D.atKey kl z = .lit (.int .i64 b)) : a = b := by
  rw [h] at h'
  injection h' with h'
  injection h'
theorem ncells_set (l : List Nat) (i z : Nat) : (cellsOf ncell l).toArray.setIfInBounds i (.int .i64 (z : Nat)) = (cellsOf ncell (l.set i z)).toArray := by
  rw [nat_cells, icells_set, nat_cells, List.map_set]
theorem set_take {l : List Nat} {k c : Nat} (h : k < l.length) : (l.set k c).take (k + 1) = l.take k ++ [c] := by
  rw [List.take_add_one, List.getElem?_set_self h, List.take_set_of_le (Nat.le_refl _)]
  rfl
theorem made_ncells (n : Nat) : madeCells (Value.int .i64 0).cells n = (cellsOf ncell (List.replicate n 0)).toArray := by
  apply Array.ext_getElem?
  intro i
  rw [show (cellsOf ncell (List.replicate n 0)).toArray[i]? = (cellsOf ncell (List.replicate n 0))[i]? by simp]
  have h1 := cellsOf_get ncell_len (List.replicate n 0) i 0 (by decide)
  simp only [Nat.mul_one, Nat.add_zero] at h1
  rw [h1, List.getElem?_replicate]
  by_cases hi : i < n
  · simp [madeCells, Value.cells, hi, ncell]
    rw [Nat.mod_one]
    rfl
  · rw [Array.getElem?_eq_none (by rw [size_madeCells]; omega), if_neg hi]
    rfl

set_option maxRecDepth 100000 in
theorem next_any (A : Option Addr) (n c : Nat) (ls : List (List Arc)) (A' : Option Addr) (n' c' : Nat) (cl : List Nat) (B : Nat) (w : World) (h : RdL w B A n ls) (h' : Rd w B 1 A' n' (cellsOf ncell cl)) (hB : B ≤ w.heap.size) (hn : n ≤ 100000) (hcn : cl.length = n)
    (hT : TosIn ls) (hev : ∀ l ∈ ls, ∀ a ∈ l, 0 ≤ a.ev ∧ a.ev ≤ 1025) (hcl : ∀ x ∈ cl, x ≤ 100000) (hs : ∀ l ∈ ls, l.length ≤ 100000) :
    Calls Try.prog 60 #[lts A n c, .slice A' n' c'] w fun e w' => (∃ v, e = .returned v ∧ w'.ownsRow 0 3 1 v n (cellsOf ncell (numK (keyS ls cl) n).1) ∧ ∀ g, v.ownBlock = some g → w.heap.size ≤ g) ∧ Below w.heap.size w w' := by
  have hmm := @run_makeMap Try.prog
  have H := Lib.hid h
  have H' := Lib.hid h'
  have HL := Lib.hid h.len
  have HL' := Lib.hid (h'.len ncell_len (by decide))
  have HF := Lib.hid (And.intro hT (And.intro hev (And.intro hcl hs)))
  obtain rfl : n' = n := by rw [← HL'.out, hcn]
  clear hcn
  have HKL := Lib.hid (show ∀ s t, s < n' → t < n' → (litK ls cl s = litK ls cl t ↔ keyS ls cl s = keyS ls cl t) from fun s t _ _ => litK_iff hev hcl s t)
  have HN0 := Lib.hid (Blk.new w 27 #[.slice A n' c])
  obtain ⟨i0, hi0, hz0, hz1, hz2⟩ := info_parts infoInt
  obtain ⟨KL, hKL⟩ : ∃ KL, KL = litK ls cl := ⟨_, rfl⟩
  obtain ⟨KY, hKY⟩ : ∃ KY, KY = keyS ls cl := ⟨_, rfl⟩
  rw [← hKL, ← hKY] at HKL
  have HKLE := Lib.hid hKL
  have HKYE := Lib.hid hKY
  have HLIT := Lib.hid (show ∀ s, WideAt.IsKeyLit (KL s) from fun s => by rw [hKL]; exact trivial)
  rw [← hKY]
  clear hKL hKY
  clear h h' hT hev hcl hs
  go_enter Try.func60, Try.ntmps60
  go_wp2_with (at_make; refine wpList_makeC _ rfl _ _ 29 rfl 3 i0 (.int .i64 0) Try.underlying29 hi0 hz0 hz1 _ _ n' _ rfl rfl rfl (by rw [hz2]; omega) (by omega) ?_)
  have HW0 := Lib.hid (show (((w.alloc (.cells #[.slice A n' c] 27)).alloc (.map #[] 0)).alloc (.cells (madeCells (Value.int .i64 0).cells n') 3)).ownsMap Try.prog 9 (plainElem (H := Unit) Try.prog 3) (w.heap.size + 1) 0 (.map []) ∧ Blk (((w.alloc (.cells #[.slice A n' c] 27)).alloc (.map #[] 0)).alloc (.cells (madeCells (Value.int .i64 0).cells n') 3)) (w.heap.size + 1 + 1) 3 (cellsOf ncell (List.replicate n' 0)).toArray ∧ Blk (((w.alloc (.cells #[.slice A n' c] 27)).alloc (.map #[] 0)).alloc (.cells (madeCells (Value.int .i64 0).cells n') 3)) w.heap.size 27 #[.slice A n' c] ∧ Below w.heap.size w (((w.alloc (.cells #[.slice A n' c] 27)).alloc (.map #[] 0)).alloc (.cells (madeCells (Value.int .i64 0).cells n') 3)) from by
    refine ⟨?_, ?_, (HN0.out.alloc _).alloc _, (((Below.refl w.heap.size w).alloc (Nat.le_refl _) _).alloc (by simp) _).alloc (by simp; omega) _⟩
    · have := World.ownsMap_made (w.alloc (.cells #[.slice A n' c] 27)) Try.prog 9 (plainElem (H := Unit) Try.prog 3)
      rw [show (w.alloc (.cells #[.slice A n' c] 27)).heap.size = w.heap.size + 1 by simp] at this
      exact this.alloc _
    · rw [← made_ncells]
      exact heap_alloc_at (by simp))
  go_loopw [17] (fun vk wr => ∃ k : Nat, k ≤ n' ∧ vk = .int .i64 k ∧ ∃ (D : DU) (L : List Nat), L.length = n' ∧ Hid (NumInv D KL KY k n' ∧ L.take k = (numK KY k).1 ∧ wr.ownsMap Try.prog 9 (plainElem (H := Unit) Try.prog 3) (w.heap.size + 1) k D ∧ Blk wr (w.heap.size + 1 + 1) 3 (cellsOf ncell L).toArray ∧
    Blk wr w.heap.size 27 #[.slice A n' c] ∧ Below w.heap.size w wr)) (fun vk _ => n' - (intOf vk).toNat)
  case atStart =>
    exact ⟨0, Nat.zero_le _, rfl, .map [], List.replicate n' 0, by simp, Lib.hid ⟨NumInv.zero _ _ _, rfl, HW0.out.1, HW0.out.2.1, HW0.out.2.2.1, HW0.out.2.2.2⟩⟩
  case round =>
    obtain ⟨k, hk, rfl, D, L, hLl, HW⟩ := hrel
    have HLl := Lib.hid hLl
    clear hLl
    have hsz := HW.out.2.2.2.2.2.size
    have h0c := HW.out.2.2.2.2.1.cell
    have h0l := HW.out.2.2.2.2.1.lt
    by_cases hlt : k < n'
    · obtain ⟨b1, o1, l, A9, n9, c9, rfl, hb1, hl, hln, e0, hrow⟩ := (H.out.below (w' := wr) (HW.out.2.2.2.2.2.mono hB)).row hlt
      obtain ⟨b2, o2, y, rfl, hb2, hy, d0⟩ := (H'.out.below (w' := wr) (HW.out.2.2.2.2.2.mono hB)).nat hlt
      have HROW := Lib.hid (hrow.more (show B ≤ wr.heap.size by omega))
      have HCL := Lib.hid ((H'.out.below (w' := wr) (HW.out.2.2.2.2.2.mono hB)).more (show B ≤ wr.heap.size by omega))
      have HTO := Lib.hid (show ∀ a ∈ l, 0 ≤ a.to ∧ a.to < cl.length from fun a ha => by
        have := HF.out.1 l (List.mem_of_getElem? hl) a ha
        rw [HL'.out, ← HL.out]
        exact this)
      have hl9 : n9 ≤ 100000 := by have := HF.out.2.2.2 l (List.mem_of_getElem? hl); omega
      have HY := Lib.hid (show cl.getD k 0 = y by rw [List.getD_eq_getElem?_getD, hy]; rfl)
      have HSIG := Lib.hid (show sd (l.map (ren (intC cl))) = sigS ls cl k by rw [sigS, rowAt_get hl])
      have hy2 : y ≤ 100000 := HF.out.2.2.1 y (List.mem_of_getElem? hy)
      have hb1l : b1 < wr.heap.size := by omega
      have hb2l : b2 < wr.heap.size := by omega
      clear hl hy hrow
      go_wp2_with (first | ((with_reducible show wpPlan _ _ _ _ _ (Act.put _ _ _) _); simp only [List.getElem_toArray, List.getElem_cons_succ, List.getElem_cons_zero, Act.put, List.setIfInBounds_toArray, List.set_cons_zero, List.set_cons_succ]) | ((with_reducible show wpPlan _ _ _ _ _ _ _); first | refine wpPlan_nil ?_ | (refine wpPlan_read0 rfl ?hw rfl (fun _ _ _ => ?_); case hw => ((conv => (lhs; whnf)); first | done | with_reducible rfl)) | (refine wpPlan_read1d rfl ?hw rfl rfl (fun _ _ _ => ?_); case hw => ((conv => (lhs; whnf)); first | done | with_reducible rfl)) | (refine wpPlan_eff rfl ?hw (fun _ _ => ?_); case hw => ((conv => (lhs; whnf)); first | done | with_reducible rfl)) | (refine wpPlan_skip0 rfl ?hw ?_; case hw => ((conv => (lhs; whnf)); first | done | with_reducible rfl)) | (refine wpPlan_skip1d rfl ?hw ?_; case hw => ((conv => (lhs; whnf)); first | done | with_reducible rfl)) | (refine wpPlan_skip2 rfl ?hw ?_; case hw => ((conv => (lhs; whnf)); first | done | with_reducible rfl)) | (refine wpPlan_read1 rfl ?hw rfl (fun _ _ _ => ?_); case hw => ((conv => (lhs; whnf)); first | done | with_reducible rfl)) | refine wpPlan_fork ?_ ?_) | ((with_reducible show Owed _ _ _ _ _ _ _ _ _); first | refine Owed.none_ ?_ | refine Owed.nil_ ?_ | refine Owed.miss rfl ?_ | refine Owed.hit ?_ ?_) | ((with_reducible show Same _ _ _ _ _); intro _; go_simp; done) | (with_reducible exact True.intro) | ((with_reducible show Code.wp _ (Code.region 6 _ true) _ _ _); refine wp_region_plan [(0, 0, []), (1, 0, []), (2, 1, []), (3, 1, []), (4, 1, []), (5, 1, []), (6, 0, []), (7, 1, []), (8, 1, []), (9, 0, []), (10, 2, [2, 3]), (11, 2, []), (12, 0, [])] (by kernel_rfl) (by kernel_rfl) (by kernel_rfl) ?_))
      refine (signature_any A9 n9 c9 l (some ⟨b2, o2, none⟩) n' c' cl wr.heap.size _ (HROW.out.drewN 1) (HCL.out.drewN 1) (Nat.le_refl _) (by omega) HTO.out).mono ?_
      rintro e w5 ⟨⟨A1, n1, c1, rfl, hR1⟩, hb5⟩
      have hb5' : Below wr.heap.size wr w5 := ((Below.refl wr.heap.size wr).drew).trans hb5
      rw [HSIG.out] at hR1
      have hn1 : n1 ≤ 100000 := by
        have h1 := hR1.len Arc.cells_len (by decide)
        have h2 := sd_len (l.map (ren (intC cl)))
        rw [HSIG.out, List.length_map] at h2
        omega
      have HR1 := Lib.hid hR1
      have HW5 := Lib.hid (And.intro (ownsMap_below HW.out.2.2.1 hb5' HW.out.2.2.1.lt) (And.intro (HW.out.2.2.2.1.below hb5' HW.out.2.2.2.1.lt) (And.intro (HW.out.2.2.2.2.1.below hb5' h0l) (HW.out.2.2.2.2.2.trans (hb5'.mono hsz)))))
      have d5 := (hb5'.cell (p := ⟨b2, o2 + k, none⟩) (by dsimp only; omega)).trans d0
      have hs5 := hb5'.size
      obtain ⟨sk, hsk⟩ : ∃ sk, strN (keyB y (sigS ls cl k)) = sk := ⟨_, rfl⟩
      have HSK := Lib.hid hsk
      have HKEY := Lib.hid (show keyOf Try.prog 9 (.string sk) = some (KL k) from by
        rw [HKLE.out, litK, HY.out, ← hsk]
        refine keyOf_str ?_
        rw [keyB, keyN_len, List.length_cons, arcN_len, ← HSIG.out]
        have h1 := HR1.out.len Arc.cells_len (by decide)
        rw [HSIG.out]
        omega)
      clear hR1 hb5 hb5' hsk
      go_wp2_with (first | ((with_reducible show wpPlan _ _ _ _ _ (Act.put _ _ _) _); simp only [List.getElem_toArray, List.getElem_cons_succ, List.getElem_cons_zero, Act.put, List.setIfInBounds_toArray, List.set_cons_zero, List.set_cons_succ]) | ((with_reducible show wpPlan _ _ _ _ _ _ _); first | refine wpPlan_nil ?_ | (refine wpPlan_read0 rfl ?hw rfl (fun _ _ _ => ?_); case hw => ((conv => (lhs; whnf)); first | done | with_reducible rfl)) | (refine wpPlan_read1d rfl ?hw rfl rfl (fun _ _ _ => ?_); case hw => ((conv => (lhs; whnf)); first | done | with_reducible rfl)) | (refine wpPlan_eff rfl ?hw (fun _ _ => ?_); case hw => ((conv => (lhs; whnf)); first | done | with_reducible rfl)) | (refine wpPlan_skip0 rfl ?hw ?_; case hw => ((conv => (lhs; whnf)); first | done | with_reducible rfl)) | (refine wpPlan_skip1d rfl ?hw ?_; case hw => ((conv => (lhs; whnf)); first | done | with_reducible rfl)) | (refine wpPlan_skip2 rfl ?hw ?_; case hw => ((conv => (lhs; whnf)); first | done | with_reducible rfl)) | (refine wpPlan_read1 rfl ?hw rfl (fun _ _ _ => ?_); case hw => ((conv => (lhs; whnf)); first | done | with_reducible rfl)) | refine wpPlan_fork ?_ ?_) | ((with_reducible show Owed _ _ _ _ _ _ _ _ _); first | refine Owed.none_ ?_ | refine Owed.nil_ ?_ | refine Owed.miss rfl ?_ | refine Owed.hit ?_ ?_) | ((with_reducible show Same _ _ _ _ _); intro _; go_simp; done) | (with_reducible exact True.intro) | ((with_reducible show Code.wp _ (Code.region 6 _ true) _ _ _); refine wp_region_plan [(0, 0, []), (1, 0, []), (2, 1, []), (3, 1, []), (4, 1, []), (5, 1, []), (6, 0, []), (7, 1, []), (8, 1, []), (9, 0, []), (10, 2, [2, 3]), (11, 2, []), (12, 0, [])] (by kernel_rfl) (by kernel_rfl) (by kernel_rfl) ?_))
      refine (key_any y A1 n1 c1 (sigS ls cl k) w5.heap.size _ HR1.out (Nat.le_refl _) hn1 (by omega) (ren_small HF.out.2.1 HF.out.2.2.1)).mono ?_
      rw [HSK.out]
      rintro e w6 ⟨rfl, hb6⟩
      have HM6 := Lib.hid (ownsMap_below HW5.out.1 hb6 HW5.out.1.lt)
      have hN6 := HW5.out.2.1.below hb6 HW5.out.2.1.lt
      have HN6 := Lib.hid hN6
      have HX6 := Lib.hid (HW5.out.2.2.1.below hb6 HW5.out.2.2.1.lt)
      have hs6 := hb6.size
      have HB6 := Lib.hid (HW5.out.2.2.2.trans (hb6.mono (Nat.le_trans hsz hs5)))
      have hsL : w.heap.size + 1 + 1 < w6.heap.size := hN6.lt
      clear hb6 hN6 d0 d5 e0 h0c h0l
      obtain ⟨hb, hhb⟩ : ∃ hb, Maps.has D (KL k) = hb := ⟨_, rfl⟩
      have HHB := Lib.hid hhb
      clear hhb
      cases hb
      · obtain ⟨hm1, hm2⟩ := HW.out.1.miss HKL.out HLIT.out hlt HHB.out
        obtain ⟨nx, hnx⟩ : ∃ nx, (numK KY k).2 = nx := ⟨_, rfl⟩
        have hnx2 : nx ≤ k := by have := (numK_spec KY k).1; omega
        have HSZ := Lib.hid (show Maps.size D = nx from HW.out.1.size.trans hnx)
        rw [hnx] at hm1 hm2
        have HM1 := Lib.hid hm1
        have HM2 := Lib.hid hm2
        clear hm1 hm2 hnx
        go_wp2_with (first
          | (at_lookup; refine wpList_lookup_own_ok_int _ rfl _ _ 106 rfl 9 3 .i64 lawStr Try.underlying106 Try.underlying3 (zeroInt _) (w.heap.size + 1) k _ rfl HM6.out _ _ rfl HKEY.out ?_; intro cx hat hwc; rw [HHB.out])
          | (at_len; refine wpList_len_own _ rfl _ 106 rfl 9 3 Try.underlying106 _ (w.heap.size + 1) k D rfl HM6.out ?_; rw [HSZ.out])
          | (at_mapUpdate; refine wpList_mapUpdate_own _ rfl _ _ _ 106 rfl 9 3 lawStr Try.underlying106 _ (w.heap.size + 1) k _ rfl HM6.out (by unfold maxLen; omega) _ _ _ rfl rfl HKEY.out _ [] (plainElem_int Try.underlying3 (WalkArith.wf_i64 (by omega))) ?_; intro w7 hown7 hgrow7; refine Stop7.intro ?_)
          | ((with_reducible show wpPlan _ _ _ _ _ (Act.put _ _ _) _); simp only [List.getElem_toArray, List.getElem_cons_succ, List.getElem_cons_zero, Act.put, List.setIfInBounds_toArray, List.set_cons_zero, List.set_cons_succ]) | ((with_reducible show wpPlan _ _ _ _ _ _ _); first | refine wpPlan_nil ?_ | (refine wpPlan_read0 rfl ?hw rfl (fun _ _ _ => ?_); case hw => ((conv => (lhs; whnf)); first | done | with_reducible rfl)) | (refine wpPlan_read1d rfl ?hw rfl rfl (fun _ _ _ => ?_); case hw => ((conv => (lhs; whnf)); first | done | with_reducible rfl)) | (refine wpPlan_eff rfl ?hw (fun _ _ => ?_); case hw => ((conv => (lhs; whnf)); first | done | with_reducible rfl)) | (refine wpPlan_skip0 rfl ?hw ?_; case hw => ((conv => (lhs; whnf)); first | done | with_reducible rfl)) | (refine wpPlan_skip1d rfl ?hw ?_; case hw => ((conv => (lhs; whnf)); first | done | with_reducible rfl)) | (refine wpPlan_skip2 rfl ?hw ?_; case hw => ((conv => (lhs; whnf)); first | done | with_reducible rfl)) | (refine wpPlan_read1 rfl ?hw rfl (fun _ _ _ => ?_); case hw => ((conv => (lhs; whnf)); first | done | with_reducible rfl)) | refine wpPlan_fork ?_ ?_) | ((with_reducible show Owed _ _ _ _ _ _ _ _ _); first | refine Owed.none_ ?_ | refine Owed.nil_ ?_ | refine Owed.miss rfl ?_ | refine Owed.hit ?_ ?_) | ((with_reducible show Same _ _ _ _ _); intro _; go_simp; done) | (with_reducible exact True.intro) | ((with_reducible show Code.wp _ (Code.region 6 _ true) _ _ _); refine wp_region_plan [(0, 0, []), (1, 0, []), (2, 1, []), (3, 1, []), (4, 1, []), (5, 1, []), (6, 0, []), (7, 1, []), (8, 1, []), (9, 0, []), (10, 2, [2, 3]), (11, 2, []), (12, 0, [])] (by kernel_rfl) (by kernel_rfl) (by kernel_rfl) ?_))
        unfold Stop7
        have HM7 := Lib.hid hown7
        have HN7 := Lib.hid (HN6.out.grown hgrow7 (by simp))
        have HX7 := Lib.hid (HX6.out.grown hgrow7 (by simp))
        have HB7 := Lib.hid (HB6.out.grown hgrow7 HB6.out.size (fun j hj => by cases hj; omega))
        clear hown7 hgrow7
        have hNp := HN7.out.put k (.int .i64 (nx : Nat))
        rw [ncells_set] at hNp
        have hO : Outside (fun x => x = w.heap.size + 1 + 1) w7 (w7.setCell ⟨w.heap.size + 1 + 1, k, none⟩ (.int .i64 (nx : Nat))) := (Outside.refl (fun x => x = w.heap.size + 1 + 1) _).setCell (p := ⟨w.heap.size + 1 + 1, k, none⟩) (.inl rfl) _
        have HZ := Lib.hid (show NumInv (D.put (KL k) (.lit (.int .i64 (nx : Nat)))) KL KY (k + 1) n' ∧ (L.set k nx).take (k + 1) = (numK KY (k + 1)).1 ∧ (w7.setCell ⟨w.heap.size + 1 + 1, k, none⟩ (.int .i64 (nx : Nat))).ownsMap Try.prog 9 (plainElem (H := Unit) Try.prog 3) (w.heap.size + 1) (k + 1) (D.put (KL k) (.lit (.int .i64 (nx : Nat)))) ∧
            Blk (w7.setCell ⟨w.heap.size + 1 + 1, k, none⟩ (.int .i64 (nx : Nat))) (w.heap.size + 1 + 1) 3 (cellsOf ncell (L.set k nx)).toArray ∧ Blk (w7.setCell ⟨w.heap.size + 1 + 1, k, none⟩ (.int .i64 (nx : Nat))) w.heap.size 27 #[.slice (some ⟨b1, o1, none⟩) n' c] ∧ Below w.heap.size w (w7.setCell ⟨w.heap.size + 1 + 1, k, none⟩ (.int .i64 (nx : Nat))) from
          ⟨HM2.out, by rw [set_take (by rw [HLl.out]; exact hlt), HW.out.2.1, HM1.out], ownsMap_out HM7.out hO (by omega), hNp, HX7.out.out hO (by omega), HB7.out.setCell (p := ⟨w.heap.size + 1 + 1, k, none⟩) (by dsimp only; omega) _⟩)
        have n7c := HN7.out.cell
        have n7l := HN7.out.lt
        have n7f := HN7.out.frozen k
        have hcell : (cellsOf ncell L).toArray[k]? = some (.int .i64 ((L[k]'(by rw [HLl.out]; exact hlt) : Nat))) := by
          have h1 := cellsOf_get ncell_len L k 0 (by decide)
          simp only [Nat.mul_one, Nat.add_zero] at h1
          rw [List.getElem?_toArray, h1, List.getElem?_eq_getElem (by rw [HLl.out]; exact hlt)]
          rfl
        have e7 : w7.cell? ⟨w.heap.size + 1 + 1, k, none⟩ = some (.int .i64 ((L[k]'(by rw [HLl.out]; exact hlt) : Nat))) := by rw [n7c, hcell]
        clear hNp hO n7c hcell
        go_wp2_with fail
        go_roundw
        case rel => exact ⟨k + 1, by omega, by go_num, (D.put (KL k) (.lit (.int .i64 (nx : Nat)))), L.set k nx, by rw [List.length_set]; exact HLl.out, HZ⟩
        case measure => simp [intOf]; omega
      · obtain ⟨cc, hat, hm1, hm2⟩ := HW.out.1.hit HKL.out hlt HHB.out
        have hccb : cc ≤ k := by
          have h1 := (numK_spec KY (k + 1)).2.1 k (by omega)
          rw [hm1, getD_snoc_eq (numK_len KY k).symm] at h1
          have := (numK_spec KY (k + 1)).1
          omega
        have HAT := Lib.hid hat
        have HM1 := Lib.hid hm1
        have HM2 := Lib.hid hm2
        have HM8 := Lib.hid (HM6.out.mono (Nat.le_succ k))
        clear hm1 hm2 hat
        have hNp := HN6.out.put k (.int .i64 (cc : Nat))
        rw [ncells_set] at hNp
        have hO : Outside (fun x => x = w.heap.size + 1 + 1) w6 (w6.setCell ⟨w.heap.size + 1 + 1, k, none⟩ (.int .i64 (cc : Nat))) := (Outside.refl (fun x => x = w.heap.size + 1 + 1) _).setCell (p := ⟨w.heap.size + 1 + 1, k, none⟩) (.inl rfl) _
        have HZ := Lib.hid (show NumInv D KL KY (k + 1) n' ∧ (L.set k cc).take (k + 1) = (numK KY (k + 1)).1 ∧ (w6.setCell ⟨w.heap.size + 1 + 1, k, none⟩ (.int .i64 (cc : Nat))).ownsMap Try.prog 9 (plainElem (H := Unit) Try.prog 3) (w.heap.size + 1) (k + 1) D ∧
            Blk (w6.setCell ⟨w.heap.size + 1 + 1, k, none⟩ (.int .i64 (cc : Nat))) (w.heap.size + 1 + 1) 3 (cellsOf ncell (L.set k cc)).toArray ∧ Blk (w6.setCell ⟨w.heap.size + 1 + 1, k, none⟩ (.int .i64 (cc : Nat))) w.heap.size 27 #[.slice (some ⟨b1, o1, none⟩) n' c] ∧ Below w.heap.size w (w6.setCell ⟨w.heap.size + 1 + 1, k, none⟩ (.int .i64 (cc : Nat))) from
          ⟨HM2.out, by rw [set_take (by rw [HLl.out]; exact hlt), HW.out.2.1, HM1.out], ownsMap_out HM8.out hO (by omega), hNp, HX6.out.out hO (by omega), HB6.out.setCell (p := ⟨w.heap.size + 1 + 1, k, none⟩) (by dsimp only; omega) _⟩)
        have n7c := HN6.out.cell
        have n7l := HN6.out.lt
        have n7f := HN6.out.frozen k
        have hcell : (cellsOf ncell L).toArray[k]? = some (.int .i64 ((L[k]'(by rw [HLl.out]; exact hlt) : Nat))) := by
          have h1 := cellsOf_get ncell_len L k 0 (by decide)
          simp only [Nat.mul_one, Nat.add_zero] at h1
          rw [List.getElem?_toArray, h1, List.getElem?_eq_getElem (by rw [HLl.out]; exact hlt)]
          rfl
        have e7 : w6.cell? ⟨w.heap.size + 1 + 1, k, none⟩ = some (.int .i64 ((L[k]'(by rw [HLl.out]; exact hlt) : Nat))) := by rw [n7c, hcell]
        clear hNp hO n7c hcell
        go_wp2_with (first
                  | (at_lookup; refine wpList_lookup_own_ok_int _ rfl _ _ 106 rfl 9 3 .i64 lawStr Try.underlying106 Try.underlying3 (zeroInt _) (w.heap.size + 1) k _ rfl HM6.out _ _ rfl HKEY.out ?_; intro cx hat hwc; obtain rfl := at_eq HAT.out hat; rw [HHB.out])
                  | ((with_reducible show wpPlan _ _ _ _ _ (Act.put _ _ _) _); simp only [List.getElem_toArray, List.getElem_cons_succ, List.getElem_cons_zero, Act.put, List.setIfInBounds_toArray, List.set_cons_zero, List.set_cons_succ]) | ((with_reducible show wpPlan _ _ _ _ _ _ _); first | refine wpPlan_nil ?_ | (refine wpPlan_read0 rfl ?hw rfl (fun _ _ _ => ?_); case hw => ((conv => (lhs; whnf)); first | done | with_reducible rfl)) | (refine wpPlan_read1d rfl ?hw rfl rfl (fun _ _ _ => ?_); case hw => ((conv => (lhs; whnf)); first | done | with_reducible rfl)) | (refine wpPlan_eff rfl ?hw (fun _ _ => ?_); case hw => ((conv => (lhs; whnf)); first | done | with_reducible rfl)) | (refine wpPlan_skip0 rfl ?hw ?_; case hw => ((conv => (lhs; whnf)); first | done | with_reducible rfl)) | (refine wpPlan_skip1d rfl ?hw ?_; case hw => ((conv => (lhs; whnf)); first | done | with_reducible rfl)) | (refine wpPlan_skip2 rfl ?hw ?_; case hw => ((conv => (lhs; whnf)); first | done | with_reducible rfl)) | (refine wpPlan_read1 rfl ?hw rfl (fun _ _ _ => ?_); case hw => ((conv => (lhs; whnf)); first | done | with_reducible rfl)) | refine wpPlan_fork ?_ ?_) | ((with_reducible show Owed _ _ _ _ _ _ _ _ _); first | refine Owed.none_ ?_ | refine Owed.nil_ ?_ | refine Owed.miss rfl ?_ | refine Owed.hit ?_ ?_) | ((with_reducible show Same _ _ _ _ _); intro _; go_simp; done) | (with_reducible exact True.intro) | ((with_reducible show Code.wp _ (Code.region 6 _ true) _ _ _); refine wp_region_plan [(0, 0, []), (1, 0, []), (2, 1, []), (3, 1, []), (4, 1, []), (5, 1, []), (6, 0, []), (7, 1, []), (8, 1, []), (9, 0, []), (10, 2, [2, 3]), (11, 2, []), (12, 0, [])] (by kernel_rfl) (by kernel_rfl) (by kernel_rfl) ?_))
        go_roundw
        case rel => exact ⟨k + 1, by omega, by go_num, D, L.set k cc, by rw [List.length_set]; exact HLl.out, HZ⟩
        case measure => simp [intOf]; omega
    · have hkn : k = n' := by omega
      subst hkn
      have HZ := Lib.hid (show wr.ownsRow 0 3 1 (.slice (some ⟨w.heap.size + 1 + 1, 0, none⟩) k k) k (cellsOf ncell (numK KY k).1) from by
        have h1 := HW.out.2.1
        rw [List.take_of_length_le (by rw [HLl.out]; exact Nat.le_refl _)] at h1
        rw [← h1]
        exact ⟨by rw [cellsOf_length ncell_len, HLl.out], .inr ⟨w.heap.size + 1 + 1, k, (cellsOf ncell L).toArray, rfl, Nat.zero_le _, HW.out.2.2.2.1, Nat.le_refl _, by unfold maxLen; omega, by simp [cellsOf_length ncell_len, HLl.out], by rw [List.take_of_length_le (by simp [cellsOf_length ncell_len, HLl.out])]⟩⟩)
      go_wp2_with fail
      go_ret
      exact ⟨⟨_, rfl, HZ.out, fun g hg => by simp [Value.ownBlock] at hg; omega⟩, HW.out.2.2.2.2.2⟩

end Go.Proofs.Ytmciinikfjfegaa
