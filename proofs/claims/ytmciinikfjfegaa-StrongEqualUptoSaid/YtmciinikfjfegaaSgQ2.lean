/- the reference's quotient by classes -/
import Derived.Test.YtmciinikfjfegaaSgW6
import Derived.Test.YtmciinikfjfegaaSgQ1
import Derived.Test.YtmciinikfjfegaaRwQ6
import Derived.Test.YtmciinikfjfegaaRwN
namespace Go.Proofs.Ytmciinikfjfegaa
open Go Go.RowKit
set_option maxHeartbeats 8000000

theorem total_sd : ∀ ls : List (List Arc), total (ls.map sd) ≤ total ls
  | [] => Nat.le_refl _
  | l :: ls => by
    rw [List.map_cons, total_cons, total_cons]
    have h1 := total_sd ls
    have h2 := sd_len l
    omega
theorem loose_sd {ls : List (List Arc)} (h : looseB ls = true) : looseB (ls.map sd) = true := by
  unfold looseB at h ⊢
  simp only [Bool.and_eq_true, decide_eq_true_eq, List.all_eq_true, List.length_map] at h ⊢
  refine ⟨⟨h.1.1, Nat.le_trans (total_sd ls) h.1.2⟩, fun l hl a ha => ?_⟩
  obtain ⟨l', hl', rfl⟩ := List.mem_map.1 hl
  exact h.2 l' hl' a ((sd_mem a l').1 ha)
theorem rowAt_sd (ls : List (List Arc)) (s : Nat) : rowAt (ls.map sd) s = sd (rowAt ls s) := by
  rw [rowAt, rowAt, List.getD_eq_getElem?_getD, List.getD_eq_getElem?_getD, List.getElem?_map]
  cases ls[s]? with
  | none => rfl
  | some l => rfl
theorem sd_sd (l : List Arc) : sd (sd l) = sd l := sd_self (sd_asc l)
theorem sd_same (ls : List (List Arc)) (s : Nat) : sd (rowAt (ls.map sd) s) = sd (rowAt ls s) := by rw [rowAt_sd, sd_sd]
theorem quo_zero2 (ls : List (List Arc)) (cl : List Nat) (m : Nat) : (quoK ls cl m 0).map sd = List.replicate m [] := by
  rw [quo_zero, List.map_replicate]
  rfl
theorem quo_next2 {ls : List (List Arc)} {cl : List Nat} {m s c : Nat} (hc : cl.getD s 0 = c) (hcm : c < m) : ((quoK ls cl m s).map sd).set c (sd (rowQ ls cl s c ++ (rowAt ls s).map (ren (intC cl)))) = (quoK ls cl m (s + 1)).map sd := by
  rw [← quo_next hc hcm, List.map_set]
theorem quoK_row2 {ls : List (List Arc)} {cl : List Nat} {m k c : Nat} (h : c < m) : ((quoK ls cl m k).map sd)[c]? = some (sd (rowQ ls cl k c)) := by
  rw [List.getElem?_map, quoK_row h]
  rfl
theorem quoK_len2 (ls : List (List Arc)) (cl : List Nat) (m k : Nat) : ((quoK ls cl m k).map sd).length = m := by rw [List.length_map, quoK_len]

set_option maxRecDepth 100000 in
theorem rquotient_any (A : Option Addr) (n c : Nat) (ls : List (List Arc)) (A' : Option Addr) (n' c' : Nat) (cl : List Int) (B : Nat) (w : World) (h : RdL w B A n ls) (h' : Rd w B 1 A' n' (cellsOf icell cl)) (hB : B ≤ w.heap.size) (hn : n ≤ 100000) (hn' : n' ≤ 1000000000000) (hs : ∀ l ∈ ls, l.length ≤ 100000) :
    Calls Try.prog 25 #[lts A n c, .slice A' n' c'] w (QuoPost w ls cl) := by
  have HL := Lib.hid h.len
  have HL' := Lib.hid (h'.len icell_len (by decide))
  have H := Lib.hid h
  have H' := Lib.hid h'
  have HS := Lib.hid hs
  have HN0 := Lib.hid ((Blk.new w 27 #[.slice A n c]).alloc (.cells #[.slice none 0 0] 27))
  have HT0 := Lib.hid (show Blk ((w.alloc (.cells #[.slice A n c] 27)).alloc (.cells #[.slice none 0 0] 27)) (w.heap.size + 1) 27 #[.slice none 0 0] from heap_alloc_at (by simp))
  have HB0 := Lib.hid (((Below.refl w.heap.size w).alloc (Nat.le_refl _) (.cells #[.slice A n c] 27)).alloc (by simp) (.cells #[.slice none 0 0] 27))
  have HR0 := Lib.hid (((h.alloc hB (.cells #[.slice A n c] 27)).alloc (by simp; omega) (.cells #[.slice none 0 0] 27)).more (show B ≤ ((w.alloc (.cells #[.slice A n c] 27)).alloc (.cells #[.slice none 0 0] 27)).heap.size by simp; omega))
  obtain ⟨v, hv⟩ : ∃ v, validB ls = v := ⟨_, rfl⟩
  have HV := Lib.hid hv
  obtain ⟨i0, hi0, hz0, hz1, hz2⟩ := info_parts infoRow
  clear h h' hs hv
  go_enter Try.func25, Try.ntmps25
  go_wp2_with fail
  refine (rvalidL_any A n c _ ls _ HR0.out (Nat.le_refl _) (by omega) (fun l hl => by have := HS.out l hl; omega)).mono ?_
  rw [HV.out]
  rintro e w1 ⟨rfl, hb1⟩
  have hs1 : w.heap.size + 2 ≤ w1.heap.size := by have := hb1.size; simpa using this
  have HW1 := Lib.hid (And.intro (HN0.out.below hb1 HN0.out.lt) (And.intro (HT0.out.below hb1 HT0.out.lt) (HB0.out.trans (hb1.mono (by simp; omega)))))
  clear hb1
  have n1c := HW1.out.1.cell
  have n1l := HW1.out.1.lt
  cases v
  · have t1c := HW1.out.2.1.cell
    have t1l := HW1.out.2.1.lt
    have t1f := HW1.out.2.1.frozen
    have hput := (HW1.out.2.1.put 0 (.slice none 0 0)).cell 0
    have HZ := Lib.hid (HW1.out.2.2.setCell (p := ⟨w.heap.size + 1, 0, none⟩) (by simp) (.slice none 0 0))
    go_wp2_with fail
    refine bodyPost_ret (v := .tuple #[lts none 0 0, .int .i64 1]) (by simp [results, Try.results25, go_sem, hput]) rfl ?_
    exact ⟨none, 0, 0, [], 1, rfl, ⟨w.heap.size, [], Nat.le_refl _, RowsX.nil _ _⟩, HZ.out, .inl ⟨by rw [HV.out]; rfl, rfl, rfl⟩⟩
  · go_wp2_with fail
    obtain ⟨u, hu⟩ : ∃ u, numB cl n = u := ⟨_, rfl⟩
    refine (rnumbered_any A' n' c' cl n w1.heap.size w1 ((H'.out.below (HW1.out.2.2.mono hB)).more (by omega)) (Nat.le_refl _) hn' (by omega)).mono ?_
    rw [hu]
    rintro e w2 ⟨rfl, hb2⟩
    have HU := Lib.hid (show (validB ls && numB cl ls.length) = u by rw [HV.out, HL.out, hu]; rfl)
    have HU2 := Lib.hid hu
    have HW2 := Lib.hid (And.intro (HW1.out.1.below hb2 n1l) (And.intro (HW1.out.2.1.below hb2 HW1.out.2.1.lt) (HW1.out.2.2.trans (hb2.mono (by omega)))))
    have hs2 : w.heap.size + 2 ≤ w2.heap.size := Nat.le_trans hs1 hb2.size
    clear hb2 hu n1c n1l
    cases u
    · have t1c := HW2.out.2.1.cell
      have t1l := HW2.out.2.1.lt
      have t1f := HW2.out.2.1.frozen
      have hput := (HW2.out.2.1.put 0 (.slice none 0 0)).cell 0
      have HZ := Lib.hid (HW2.out.2.2.setCell (p := ⟨w.heap.size + 1, 0, none⟩) (by simp) (.slice none 0 0))
      go_wp2_with fail
      refine bodyPost_ret (v := .tuple #[lts none 0 0, .int .i64 1]) (by simp [results, Try.results25, go_sem, hput]) rfl ?_
      exact ⟨none, 0, 0, [], 1, rfl, ⟨w.heap.size, [], Nat.le_refl _, RowsX.nil _ _⟩, HZ.out, .inl ⟨HU.out, rfl, rfl⟩⟩
    · obtain ⟨k0, hk0⟩ : ∃ k0, nbd cl 0 = some k0 := by
        have h1 := HU2.out
        rw [numB, Bool.and_eq_true] at h1
        exact Option.isSome_iff_exists.1 h1.1
      have hnn : n' = n := by
        have h1 := HU2.out
        rw [numB, Bool.and_eq_true, decide_eq_true_eq, HL'.out] at h1
        omega
      subst hnn
      have hn1 : 1 ≤ n' := by
        have := (loose_tos (valid_parts HV.out).1).2.1
        rw [HL.out] at this
        exact this
      have hne : cl ≠ [] := fun e => by
        have h1 := HL'.out
        rw [e] at h1
        simp at h1
        omega
      obtain ⟨_, hb2, hb3⟩ := nbd_bound (Int.le_refl 0) hk0
      have hkm := nbd_max hk0 hne
      have H2 := Lib.hid (show Rd w B 1 A' n' (cellsOf ncell (cl.map Int.toNat)) by rw [← icell_nats fun x hx => (hb3 x hx).1]; exact H'.out)
      obtain ⟨cs, hcs⟩ : ∃ cs, cl.map Int.toNat = cs := ⟨_, rfl⟩
      obtain ⟨mx, hm⟩ : ∃ m, maxN cs = m := ⟨_, rfl⟩
      have hlt : ∀ x ∈ cs, x < mx + 1 := fun x hx => by have := maxN_le cs x hx; omega
      rw [hcs] at H2 hkm
      have hcl : cs.length = n' := by rw [← hcs, List.length_map, HL'.out]
      have hmn : mx + 1 ≤ n' := by have := HL'.out; omega
      have HM := Lib.hid hm
      have HC := Lib.hid hcs
      have HCL := Lib.hid hcl
      have HLT := Lib.hid hlt
      clear hk0 hb2 hb3 hkm hm hcs hcl hlt hne
      go_wp2_with fail
      refine (count_any A' n' c' cs w2.heap.size w2 ((H2.out.below (HW2.out.2.2.mono hB)).more (by omega)) (Nat.le_refl _) hn' hn1 (fun x hx => by have := HLT.out x hx; omega)).mono ?_
      rw [HM.out]
      rintro e w3 ⟨rfl, hb3⟩
      have HW3 := Lib.hid (And.intro (HW2.out.1.below hb3 HW2.out.1.lt) (And.intro (HW2.out.2.1.below hb3 HW2.out.2.1.lt) (HW2.out.2.2.trans (hb3.mono (by omega)))))
      have hs3 : w.heap.size + 2 ≤ w3.heap.size := Nat.le_trans hs2 hb3.size
      clear hb3
      have n3c := HW3.out.1.cell
      have n3l := HW3.out.1.lt
      go_wp2_with (at_make; refine wpList_makeC _ rfl _ _ 25 rfl 24 i0 (.slice none 0 0) Try.underlying25 hi0 hz0 hz1 _ _ (mx + 1) _ rfl rfl (by omega) (by rw [hz2]; omega) (by omega) ?_)
      have HP0 := Lib.hid ((RowsP.made w3 (mx + 1) (by omega)).alloc (.cells #[.slice (some ⟨w3.heap.size, 0, none⟩) (mx + 1 : Nat) (mx + 1 : Nat)] 27))
      have HX0 := Lib.hid (And.intro ((HW3.out.1.alloc (.cells (madeCells (Value.slice none 0 0).cells (mx + 1)) 24)).alloc (.cells #[.slice (some ⟨w3.heap.size, 0, none⟩) (mx + 1 : Nat) (mx + 1 : Nat)] 27)) (And.intro ((HW3.out.2.1.alloc (.cells (madeCells (Value.slice none 0 0).cells (mx + 1)) 24)).alloc (.cells #[.slice (some ⟨w3.heap.size, 0, none⟩) (mx + 1 : Nat) (mx + 1 : Nat)] 27)) (And.intro ((HW3.out.2.2.alloc (by omega) (.cells (madeCells (Value.slice none 0 0).cells (mx + 1)) 24)).alloc (by simp; omega) (.cells #[.slice (some ⟨w3.heap.size, 0, none⟩) (mx + 1 : Nat) (mx + 1 : Nat)] 27)) (show Blk ((w3.alloc (.cells (madeCells (Value.slice none 0 0).cells (mx + 1)) 24)).alloc (.cells #[.slice (some ⟨w3.heap.size, 0, none⟩) (mx + 1 : Nat) (mx + 1 : Nat)] 27)) (w3.heap.size + 1) 27 #[.slice (some ⟨w3.heap.size, 0, none⟩) (mx + 1 : Nat) (mx + 1 : Nat)] from heap_alloc_at (by simp)))))
      clear n3c n3l
      have x0c := HX0.out.1.cell
      have x0l := HX0.out.1.lt
      have y0c := HX0.out.2.2.2.cell
      have y0l := HX0.out.2.2.2.lt
      go_wp2_with fail
      go_loopw [7] (fun vs wr => ∃ (s : Nat) (xs : List Value), s ≤ n' ∧ vs = .int .i64 s ∧ Hid (RowsP wr w3.heap.size w3.heap.size (mx + 1) xs ((quoK ls cs (mx + 1) s).map sd) ∧ Blk wr w.heap.size 27 #[.slice A n' c] ∧ Blk wr (w.heap.size + 1) 27 #[.slice none 0 0] ∧ Below w.heap.size w wr ∧ Blk wr (w3.heap.size + 1) 27 #[.slice (some ⟨w3.heap.size, 0, none⟩) (mx + 1 : Nat) (mx + 1 : Nat)])) (fun vs _ => n' - (intOf vs).toNat)
      case atStart => exact ⟨0, _, Nat.zero_le _, rfl, Lib.hid ⟨by rw [quo_zero2]; exact HP0.out, HX0.out⟩⟩
      case round =>
        obtain ⟨s, xs, hs, rfl, HW⟩ := hrel
        have hgl := HW.out.1.lt
        have hsz := HW.out.2.2.2.1.size
        clear x0c x0l y0c y0l
        have h0c := HW.out.2.1.cell
        have h0l := HW.out.2.1.lt
        by_cases hlt : s < n'
        · obtain ⟨b1, o1, l, A9, n9, c9, rfl, hb1, hl, hln, e0, hrow⟩ := (H.out.below (w' := wr) (HW.out.2.2.2.1.mono hB)).row hlt
          obtain ⟨b2, o2, y, rfl, hb2, hy, d0⟩ := (H2.out.below (w' := wr) (HW.out.2.2.2.1.mono hB)).nat hlt
          have HROW := Lib.hid hrow
          have hy2 := HLT.out y (List.mem_of_getElem? hy)
          have hl9 : n9 ≤ 100000 := by have := HS.out l (List.mem_of_getElem? hl); omega
          have HY := Lib.hid (show cs.getD s 0 = y by rw [List.getD_eq_getElem?_getD, hy]; rfl)
          have HLL := Lib.hid (show rowAt ls s = l from rowAt_get hl)
          have HTO := Lib.hid (show ∀ a ∈ l, 0 ≤ a.to ∧ a.to < cs.length from fun a ha => by
            have := (loose_tos (valid_parts HV.out).1).1 l (List.mem_of_getElem? hl) a ha
            rw [HCL.out, ← HL.out]
            exact this)
          have HYY := Lib.hid (List.mem_of_getElem? hl)
          clear hl hy hrow
          go_wp2_with fail
          go_loopw [8] (fun vk wz => ∃ (k : Nat) (ys : List Value), k ≤ n9 ∧ vk = .int .i64 k ∧ Hid (RowsP wz w3.heap.size w3.heap.size (mx + 1) ys (((quoK ls cs (mx + 1) s).map sd).set y (sd (rowQ ls cs s y ++ (l.take k).map (ren (intC cs))))) ∧ Blk wz w.heap.size 27 #[.slice (some ⟨b1, o1, none⟩) n' c] ∧ Blk wz (w.heap.size + 1) 27 #[.slice none 0 0] ∧ Below w.heap.size w wz ∧ Blk wz (w3.heap.size + 1) 27 #[.slice (some ⟨w3.heap.size, 0, none⟩) (mx + 1 : Nat) (mx + 1 : Nat)])) (fun vk _ => n9 - (intOf vk).toNat)
          case atStart => exact ⟨0, xs, Nat.zero_le _, rfl, Lib.hid ⟨by
            have e : ((quoK ls cs (mx + 1) s).map sd).set y (sd (rowQ ls cs s y ++ (l.take 0).map (ren (intC cs)))) = (quoK ls cs (mx + 1) s).map sd := by
              rw [List.take_zero, List.map_nil, List.append_nil]
              exact set_same (quoK_row2 hy2)
            rw [e]
            exact HW.out.1, HW.out.2.1, HW.out.2.2.1, HW.out.2.2.2⟩⟩
          case round =>
            rename World => wz
            obtain ⟨k, ys, hk, rfl, HZ⟩ := hrel
            have hszz := HZ.out.2.2.2.1.size
            have hglz := HZ.out.1.lt
            have z0c := HZ.out.2.1.cell
            have z0l := HZ.out.2.1.lt
            clear h0c h0l
            by_cases hlt2 : k < n9
            · obtain ⟨b5, o5, l5, A6, n6, c6, hab, hb5, hl5, hln5, e5z, hrow5⟩ := (H.out.below (w' := wz) (HZ.out.2.2.2.1.mono hB)).row hlt
              obtain ⟨rfl, rfl⟩ : b1 = b5 ∧ o1 = o5 := by simpa using hab
              have hcz := ((HZ.out.2.2.2.1.mono hB).cell (p := ⟨b1, o1 + s, none⟩) hb1).trans ((HW.out.2.2.2.1.mono hB).cell (p := ⟨b1, o1 + s, none⟩) hb1).symm
              rw [e0] at hcz
              obtain ⟨b3, o3, x, rfl, hb3, hx, c0, c1⟩ := (HROW.out.keep (w' := wz) (fun p hp => (HZ.out.2.2.2.1.mono hB).cell hp |>.trans ((HW.out.2.2.2.1.mono hB).cell hp).symm)).arc hlt2
              obtain ⟨xe, xt⟩ := x
              have hxt := HTO.out _ (List.mem_of_getElem? hx)
              dsimp only at c0 c1 hxt
              obtain ⟨q, rfl⟩ : ∃ q : Nat, xt = q := ⟨xt.toNat, by omega⟩
              have hq : q < n' := by have := HCL.out; omega
              obtain ⟨b4, o4, z, hab4, hb4, hz, d1⟩ := (H2.out.below (w' := wz) (HZ.out.2.2.2.1.mono hB)).nat hq
              obtain ⟨rfl, rfl⟩ : b2 = b4 ∧ o2 = o4 := by simpa using hab4
              have d0z := ((HZ.out.2.2.2.1.mono hB).cell (p := ⟨b2, o2 + s, none⟩) hb2).trans ((HW.out.2.2.2.1.mono hB).cell (p := ⟨b2, o2 + s, none⟩) hb2).symm
              rw [d0] at d0z
              have HRX := Lib.hid (show ren (intC cs) ⟨xe, (q : Int)⟩ = ⟨xe, (z : Int)⟩ by
                rw [ren, numAt, intC, List.getD_eq_getElem?_getD, List.getElem?_map, Int.toNat_natCast, hz]
                rfl)
              have HTK := Lib.hid (show sd (rowQ ls cs s y ++ (l.take (k + 1)).map (ren (intC cs))) = insF (sd (rowQ ls cs s y ++ (l.take k).map (ren (intC cs)))) ⟨xe, (z : Int)⟩ by
                rw [← sd_snoc, List.take_add_one, hx, List.map_append, ← HRX.out, ← List.append_assoc]
                rfl)
              have hLlen : (sd (rowQ ls cs s y ++ (l.take k).map (ren (intC cs)))).length ≤ 400000 := by
                have h0 := sd_len (rowQ ls cs s y ++ (l.take k).map (ren (intC cs)))
                have h1 := rowQ_len ls cs y s (by rw [HL.out]; omega)
                have h2 := total_le ls s
                have h3 := (loose_tot (valid_parts HV.out).1).1
                rw [List.length_append, List.length_map, List.length_take] at h0
                omega
              obtain ⟨L, hL⟩ : ∃ L, sd (rowQ ls cs s y ++ (l.take k).map (ren (intC cs))) = L := ⟨_, rfl⟩
              rw [hL] at HZ hLlen HTK
              obtain ⟨A5, c5, hys, e5, ho5, hb5'⟩ := HZ.out.1.at_ (j := y) (l := L) (by rw [List.getElem?_set_self (by rw [quoK_len2]; exact hy2)])
              obtain ⟨j5, hj5⟩ : ∃ j, L.length = j := ⟨_, rfl⟩
              rw [hj5] at hys e5 ho5 hb5' hLlen
              have HJ := Lib.hid hj5
              have HO5 := Lib.hid (ho5.alloc (.cells #[.int .i64 xe, .int .i64 q] 23))
              have HPW := Lib.hid ((HZ.out.1.alloc (.cells #[.int .i64 xe, .int .i64 q] 23)).drew)
              have HXW := Lib.hid (And.intro ((HZ.out.2.1.alloc (.cells #[.int .i64 xe, .int .i64 q] 23)).drew) (And.intro ((HZ.out.2.2.1.alloc (.cells #[.int .i64 xe, .int .i64 q] 23)).drew) (And.intro ((HZ.out.2.2.2.1.alloc hszz (.cells #[.int .i64 xe, .int .i64 q] 23)).drew) ((HZ.out.2.2.2.2.alloc (.cells #[.int .i64 xe, .int .i64 q] 23)).drew))))
              have HYS := Lib.hid hys
              have HBA := Lib.hid hb5'
              have hb3l : b3 < wz.heap.size := by omega
              have hb2l : b2 < wz.heap.size := by omega
              have hb1l : b1 < wz.heap.size := by omega
              have q0c := HZ.out.2.2.2.2.cell
              have q0l := HZ.out.2.2.2.2.lt
              clear hx hz hab hab4 hxt hL hj5 hys ho5 hb5' hl5 hln5 e5z hrow5
              go_wp2_with (first | ((with_reducible show wpPlan _ _ _ _ _ (Act.put _ _ _) _); simp only [List.getElem_toArray, List.getElem_cons_succ, List.getElem_cons_zero, Act.put, List.setIfInBounds_toArray, List.set_cons_zero, List.set_cons_succ]) | ((with_reducible show wpPlan _ _ _ _ _ _ _); first | refine wpPlan_nil ?_ | (refine wpPlan_read0 rfl ?hw rfl (fun _ _ _ => ?_); case hw => ((conv => (lhs; whnf)); first | done | with_reducible rfl)) | (refine wpPlan_read1d rfl ?hw rfl rfl (fun _ _ _ => ?_); case hw => ((conv => (lhs; whnf)); first | done | with_reducible rfl)) | (refine wpPlan_eff rfl ?hw (fun _ _ => ?_); case hw => ((conv => (lhs; whnf)); first | done | with_reducible rfl)) | (refine wpPlan_skip0 rfl ?hw ?_; case hw => ((conv => (lhs; whnf)); first | done | with_reducible rfl)) | (refine wpPlan_skip1d rfl ?hw ?_; case hw => ((conv => (lhs; whnf)); first | done | with_reducible rfl)) | (refine wpPlan_skip2 rfl ?hw ?_; case hw => ((conv => (lhs; whnf)); first | done | with_reducible rfl)) | (refine wpPlan_read1 rfl ?hw rfl (fun _ _ _ => ?_); case hw => ((conv => (lhs; whnf)); first | done | with_reducible rfl)) | refine wpPlan_fork ?_ ?_) | ((with_reducible show Owed _ _ _ _ _ _ _ _ _); first | refine Owed.none_ ?_ | refine Owed.nil_ ?_ | refine Owed.miss rfl ?_ | refine Owed.hit ?_ ?_) | ((with_reducible show Same _ _ _ _ _); intro _; go_simp; done) | (with_reducible exact True.intro) | ((with_reducible show Code.wp _ (Code.region 11 _ true) _ _ _); refine wp_region_plan [(0, 1, []), (1, 1, []), (2, 0, []), (3, 0, []), (4, 1, []), (5, 1, []), (6, 1, []), (7, 1, []), (8, 0, []), (9, 0, []), (10, 1, []), (11, 1, []), (12, 1, []), (13, 1, []), (14, 1, []), (15, 1, []), (16, 0, []), (17, 1, []), (18, 1, []), (19, 1, []), (20, 1, []), (21, 1, []), (22, 2, [0, 1, 4, 5]), (23, 1, []), (24, 2, [])] (by kernel_rfl) (by kernel_rfl) (by kernel_rfl) ?_))
              refine (insertC_any A5 j5 c5 L ⟨xe, (z : Int)⟩ _ HO5.out.drew (by omega)).mono ?_
              rintro e w8 ⟨⟨A7, n7, c7, L7, rfl, ho7, hi7, hv7⟩, hb8⟩
              have hn7 : L7.length = n7 := by
                have h1 := ho7.1
                rw [cellsOf_length Arc.cells_len] at h1
                omega
              subst hn7
              have hl7 := hi7.len
              have HE7 := Lib.hid hi7.eq
              have hsa : ((wz.alloc (.cells #[.int .i64 xe, .int .i64 q] 23)).drew).heap.size = wz.heap.size + 1 := by simp
              have hO8 : Outside (fun x => (Value.slice A5 j5 c5).ownBlock = some x) ((wz.alloc (.cells #[.int .i64 xe, .int .i64 q] 23)).drew) w8 := (Below.new hb8).mono (fun _ _ h => h.elim)
              have hq8 := own_out HPW.out.own hO8 (fun x hx => own_apart_own HPW.out.own HO5.out.drew (by decide) hx)
              have e8 := hq8.cellAt y (by omega)
              rw [HYS.out] at e8
              have f8 := hq8.frozenAt y
              have l8 := own_lt hq8 (g := w3.heap.size) rfl
              have HP8 := Lib.hid (show RowsP (w8.setCell ⟨w3.heap.size, y, none⟩ (.slice A7 L7.length c7)) w3.heap.size w3.heap.size (mx + 1) (ys.set y (.slice A7 L7.length c7)) (((quoK ls cs (mx + 1) s).map sd).set y (sd (rowQ ls cs s y ++ (l.take (k + 1)).map (ren (intC cs))))) from by
                have h1 := HPW.out.put (j := y) (l := L) (l' := L7) HYS.out (by rw [List.getElem?_set_self (by rw [quoK_len2]; exact hy2)]) hO8 ho7 hv7 (by rw [hsa]; have := HPW.out.lt; rw [hsa] at this; omega)
                rw [List.set_set] at h1
                rw [HTK.out, ← HE7.out]
                exact h1)
              have hOs : Outside (fun x => x = w3.heap.size) w8 (w8.setCell ⟨w3.heap.size, y, none⟩ (.slice A7 L7.length c7)) := (Outside.refl (fun x => x = w3.heap.size) _).setCell (p := ⟨w3.heap.size, y, none⟩) (.inl rfl) _
              have HX8 := Lib.hid (And.intro ((HXW.out.1.below hb8 HXW.out.1.lt).out hOs (by omega)) (And.intro ((HXW.out.2.1.below hb8 HXW.out.2.1.lt).out hOs (by omega)) (And.intro ((HXW.out.2.2.1.trans (hb8.mono (by rw [hsa]; omega))).setCell (p := ⟨w3.heap.size, y, none⟩) (by dsimp only; omega) (.slice A7 L7.length c7)) ((HXW.out.2.2.2.below hb8 HXW.out.2.2.2.lt).out hOs (by omega)))))
              have Y8 := Lib.hid (HXW.out.2.2.2.below hb8 HXW.out.2.2.2.lt)
              have y8c := Y8.out.cell
              have y8l := Y8.out.lt
              have d8 := (((((Below.refl wz.heap.size wz).alloc (Nat.le_refl _) (.cells #[.int .i64 xe, .int .i64 q] 23)).drew).trans (hb8.mono (by simp))).cell (p := ⟨b2, o2 + s, none⟩) hb2l).trans d0z
              have hb2w : b2 < w8.heap.size := by have := hb8.size; rw [hsa] at this; omega
              clear hi7 hv7 ho7 hb8 hO8 hsa hq8 hOs
              go_wp2_with (first | ((with_reducible show wpPlan _ _ _ _ _ (Act.put _ _ _) _); simp only [List.getElem_toArray, List.getElem_cons_succ, List.getElem_cons_zero, Act.put, List.setIfInBounds_toArray, List.set_cons_zero, List.set_cons_succ]) | ((with_reducible show wpPlan _ _ _ _ _ _ _); first | refine wpPlan_nil ?_ | (refine wpPlan_read0 rfl ?hw rfl (fun _ _ _ => ?_); case hw => ((conv => (lhs; whnf)); first | done | with_reducible rfl)) | (refine wpPlan_read1d rfl ?hw rfl rfl (fun _ _ _ => ?_); case hw => ((conv => (lhs; whnf)); first | done | with_reducible rfl)) | (refine wpPlan_eff rfl ?hw (fun _ _ => ?_); case hw => ((conv => (lhs; whnf)); first | done | with_reducible rfl)) | (refine wpPlan_skip0 rfl ?hw ?_; case hw => ((conv => (lhs; whnf)); first | done | with_reducible rfl)) | (refine wpPlan_skip1d rfl ?hw ?_; case hw => ((conv => (lhs; whnf)); first | done | with_reducible rfl)) | (refine wpPlan_skip2 rfl ?hw ?_; case hw => ((conv => (lhs; whnf)); first | done | with_reducible rfl)) | (refine wpPlan_read1 rfl ?hw rfl (fun _ _ _ => ?_); case hw => ((conv => (lhs; whnf)); first | done | with_reducible rfl)) | refine wpPlan_fork ?_ ?_) | ((with_reducible show Owed _ _ _ _ _ _ _ _ _); first | refine Owed.none_ ?_ | refine Owed.nil_ ?_ | refine Owed.miss rfl ?_ | refine Owed.hit ?_ ?_) | ((with_reducible show Same _ _ _ _ _); intro _; go_simp; done) | (with_reducible exact True.intro) | ((with_reducible show Code.wp _ (Code.region 11 _ true) _ _ _); refine wp_region_plan [(0, 1, []), (1, 1, []), (2, 0, []), (3, 0, []), (4, 1, []), (5, 1, []), (6, 1, []), (7, 1, []), (8, 0, []), (9, 0, []), (10, 1, []), (11, 1, []), (12, 1, []), (13, 1, []), (14, 1, []), (15, 1, []), (16, 0, []), (17, 1, []), (18, 1, []), (19, 1, []), (20, 1, []), (21, 1, []), (22, 2, [0, 1, 4, 5]), (23, 1, []), (24, 2, [])] (by kernel_rfl) (by kernel_rfl) (by kernel_rfl) ?_))
              go_roundw
              case rel => exact ⟨k + 1, _, by omega, by go_num, Lib.hid ⟨HP8.out, HX8.out⟩⟩
              case measure => simp [intOf]; omega
            · have hkn : k = n9 := by omega
              subst hkn
              have HE := Lib.hid (show ((quoK ls cs (mx + 1) s).map sd).set y (sd (rowQ ls cs s y ++ (l.take k).map (ren (intC cs)))) = (quoK ls cs (mx + 1) (s + 1)).map sd by
                rw [List.take_of_length_le (by rw [hln]; exact Nat.le_refl _), ← HLL.out]
                exact quo_next2 HY.out hy2)
              have HP8 := Lib.hid (show RowsP wz w3.heap.size w3.heap.size (mx + 1) ys ((quoK ls cs (mx + 1) (s + 1)).map sd) from HE.out ▸ HZ.out.1)
              have hcz := ((HZ.out.2.2.2.1.mono hB).cell (p := ⟨b1, o1 + s, none⟩) hb1).trans ((HW.out.2.2.2.1.mono hB).cell (p := ⟨b1, o1 + s, none⟩) hb1).symm
              rw [e0] at hcz
              have hb1l : b1 < wz.heap.size := by omega
              go_wp2_with fail
              go_roundw
              case rel => exact ⟨s + 1, ys, by omega, by go_num, Lib.hid ⟨HP8.out, HZ.out.2⟩⟩
              case measure => simp [intOf]; omega
        · have hsn : s = n' := by omega
          subst hsn
          have HLO0 := Lib.hid (show looseB (quoK ls cs (mx + 1) s) = true by
            rw [← HL.out]
            exact quo_loose (valid_parts HV.out).1 (by rw [HCL.out, HL.out]) HLT.out (by omega) (by rw [HL.out]; exact hmn))
          have HLO := Lib.hid (loose_sd HLO0.out)
          have HRW := Lib.hid (HW.out.1.whole)
          have y0c := HW.out.2.2.2.2.cell
          have y0l := HW.out.2.2.2.2.lt
          go_wp2_with fail
          refine (rcanonicalX_any (some ⟨w3.heap.size, 0, none⟩) (mx + 1) (mx + 1) wr.heap.size ((quoK ls cs (mx + 1) s).map sd) wr HRW.out (Nat.le_refl _) HLO.out).mono ?_
          rintro e w9 ⟨A8, n8, c8, out, A10, n10, c10, old, rfl, ⟨W8, xs8, hW8, hX8⟩, hO8, hb8, i, hd, rfl, rfl⟩
          have hs9 : w.heap.size + 2 ≤ w9.heap.size := by have := hb8.size; omega
          have HSM := Lib.hid (show (canonK ((quoK ls cs (mx + 1) s).map sd) i).out = (canonK (quoK ls cs (mx + 1) s) i).out by rw [canonK_congr (List.length_map ..) (sd_same _) i])
          have HD := Lib.hid (hd.congr (List.length_map ..) (sd_same _))
          have hr9 := (HW.out.2.2.1.below hb8 HW.out.2.2.1.lt).alloc (.cells #[.slice A8 n8 c8] 27)
          have hput := (hr9.put 0 (.slice A8 n8 c8)).cell 0
          have r9c := hr9.cell
          have r9l := hr9.lt
          have r9f := hr9.frozen
          have hOs : Outside (fun x => x = w.heap.size + 1) (w9.alloc (.cells #[.slice A8 n8 c8] 27)) ((w9.alloc (.cells #[.slice A8 n8 c8] 27)).setCell ⟨w.heap.size + 1, 0, none⟩ (.slice A8 n8 c8)) := (Outside.refl (fun x => x = w.heap.size + 1) _).setCell (p := ⟨w.heap.size + 1, 0, none⟩) (.inl rfl) _
          have HZ := Lib.hid (And.intro (((hX8.out ((Outside.refl (fun _ => False) w9).alloc (.cells #[.slice A8 n8 c8] 27)) (fun _ _ _ e => e)).out hOs (fun x h1 _ e => by omega))) (((HW.out.2.2.2.1.trans (hb8.mono hsz)).alloc (by omega) (.cells #[.slice A8 n8 c8] 27)).setCell (p := ⟨w.heap.size + 1, 0, none⟩) (by simp) (.slice A8 n8 c8)))
          clear hX8 hO8 hb8 hd hr9 hOs y0c y0l
          go_wp2_with fail
          refine bodyPost_ret (v := .tuple #[lts A8 n8 c8, .int .i64 0]) (by simp [results, Try.results25, go_sem, hput]) rfl ?_
          refine ⟨A8, n8, c8, _, 0, rfl, ⟨W8, xs8, by omega, HZ.out.1⟩, HZ.out.2, .inr ⟨HU.out, rfl, i, ?_, ?_⟩⟩
          · rw [HC.out, HM.out, HL.out]
            exact HD.out
          · rw [HC.out, HM.out, HL.out]
            exact HSM.out

end Go.Proofs.Ytmciinikfjfegaa
