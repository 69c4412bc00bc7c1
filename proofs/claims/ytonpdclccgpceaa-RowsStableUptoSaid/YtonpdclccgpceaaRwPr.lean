/- packed systems: the reference's Pack -/
import Derived.Test.YtonpdclccgpceaaRwPk
namespace Go.Proofs.Ytonpdclccgpceaa
open Go Go.RowKit
set_option maxHeartbeats 4000000

theorem Own.below {w w' : World} {v : Value} {l : List Nat} {W : Nat} (h : Own w v l) (hb : Below W w w') (hv : ∀ g, v.ownBlock = some g → g < W) : Own w' v l :=
  h.out (R := fun k => W ≤ k) (Outside.ofBelow hb fun _ hk => hk) fun g hg => by have := hv g hg; omega
theorem grp_next {ls : List (List Arc)} {k s : Nat} {l : List Arc} (h : ls[k]? = some l) (hs : s ≤ k) : (((rowsOf ls).take (k + 1)).drop s).flatten = (((rowsOf ls).take k).drop s).flatten ++ rowF k l := by
  obtain ⟨hk, he⟩ := List.getElem?_eq_some_iff.1 (rows_get h)
  rw [List.take_succ_eq_append_getElem hk, he, List.drop_append_of_le_length (by rw [List.length_take]; omega), List.flatten_append]
  simp
theorem flat_drop (l : List (List Nat)) (s : Nat) : (l.drop s).flatten.length ≤ l.flatten.length := by
  conv => rhs; rw [← List.take_append_drop s l, List.flatten_append, List.length_append]
  omega
theorem grp_few {ls : List (List Arc)} (h : Pk ls) (k s : Nat) (hk : k ≤ ls.length) : (((rowsOf ls).take k).drop s).flatten.length ≤ 5000000 := by
  have h1 := flat_drop ((rowsOf ls).take k) s
  have h2 := rows_few h k hk
  have h3 := total_le ls k
  have := h.tot
  have := h.n2
  omega
theorem grp_end (ls : List (List Arc)) (g k : Nat) (h1 : 16 * g ≤ ls.length) (h : k = 16 * g + 16 ∨ (k = ls.length ∧ k ≤ 16 * g + 16)) : ((rowsOf ls).take k).drop (16 * g) = ((rowsOf ls).drop (16 * g)).take 16 := by
  rw [List.drop_take]
  rcases h with rfl | ⟨rfl, h⟩
  · congr 1; omega
  · rw [List.take_of_length_le (by rw [List.length_drop, rows_len]; exact Nat.le_refl _), List.take_of_length_le (by rw [List.length_drop, rows_len]; omega)]
theorem take_add16 (ls : List (List Arc)) (g : Nat) : ((rowsOf ls).take (16 * (g + 1))).flatten = ((rowsOf ls).take (16 * g)).flatten ++ (((rowsOf ls).drop (16 * g)).take 16).flatten := by
  rw [show 16 * (g + 1) = 16 * g + 16 by omega, List.take_add, List.flatten_append]
theorem flat_take_few {ls : List (List Arc)} (h : Pk ls) (k : Nat) : (((rowsOf ls).take k)).flatten.length ≤ 5000000 := by
  by_cases hk : k ≤ ls.length
  · have := grp_few h k 0 hk
    simpa using this
  · rw [List.take_of_length_le (by rw [rows_len]; omega)]
    have := grp_few h ls.length 0 (Nat.le_refl _)
    rw [List.take_of_length_le (by rw [rows_len]; exact Nat.le_refl _)] at this
    simpa using this

/-- what an append leaves of the rest -/
theorem app_all {W bx : Nat} {w w0 w' : World} {v v' : Value} {l : List Nat} {cs : Array Value} (h : Own w0 v l) (hbx : Blk w0 bx 25 cs) (hb : Below W w w0) (hW : W ≤ w.heap.size) (hf : ∀ g, v.ownBlock = some g → W ≤ g)
    (hO : Outside (fun k => v.ownBlock = some k) w0 w') (hF : From w0 v v') : Blk w' bx 25 cs ∧ Below W w w' ∧ ∀ g, v'.ownBlock = some g → W ≤ g := by
  obtain ⟨h1, h2⟩ := fresh_post hf (Nat.le_trans hW hb.size) hO hF
  exact ⟨hbx.out hO (fun e => own_apart h hbx (by decide) e), hb.trans h1, h2⟩

set_option maxRecDepth 100000 in
theorem rpack_any (A : Option Addr) (n c B : Nat) (ls : List (List Arc)) (w : World) (h : RdL w B A n ls) (hB : B ≤ w.heap.size) (hp : Pk ls) :
    Calls Try.prog 21 #[lts A n c] w (NewPost w (packB ls)) := by
  have HL := Lib.hid h.len
  have H := Lib.hid h
  have HP := Lib.hid hp
  have hn1 : 1 ≤ n := by have := hp.n1; have := HL.out; omega
  have hn2 : n ≤ 16384 := by have := hp.n2; have := HL.out; omega
  have HB0 := Lib.hid ((Below.refl w.heap.size w).alloc (Nat.le_refl _) (.cells #[.slice A n c] 25))
  have HN0 := Lib.hid (Blk.new w 25 #[.slice A n c])
  clear h hp
  go_enter Try.func21, Try.ntmps21
  go_wp2
  go_loopw [3, 4] (fun vt vk wr => ∃ (k tot : Nat), k ≤ n ∧ vk = .int .i64 k ∧ vt = .int .i64 tot ∧ tot ≤ 262144 ∧ Hid (tot = total (ls.take k)) ∧ wr = (w.alloc (.cells #[.slice A n c] 25))) (fun _ vk _ => n - (intOf vk).toNat)
  case atStart => exact ⟨0, 0, Nat.zero_le _, rfl, rfl, by omega, Lib.hid (by simp [total]), rfl⟩
  case round =>
    obtain ⟨k, tot, hk, rfl, rfl, htot, HE, rfl⟩ := hrel
    by_cases hlt : k < n
    · obtain ⟨b1, o1, l, A', n', c', rfl, hb1, hl, hln, e0, hrow⟩ := (H.out.alloc hB (.cells #[.slice A n c] 25)).row hlt
      have htt := total_take ls k l hl
      have htl := total_le ls (k + 1)
      have hpt := HP.out.tot
      have htn : tot + n' ≤ 262144 := by have := HE.out; omega
      have HT := Lib.hid (show tot + n' = total (ls.take (k + 1)) by have := HE.out; omega)
      have hb1l : b1 < w.heap.size := by omega
      clear hrow hl htt htl hpt
      go_wp2
      go_roundw
      case rel => exact ⟨k + 1, tot + n', by omega, by go_num, by go_num, by omega, HT, trivial⟩
      case measure => simp [intOf]; omega
    · have hkn : k = n := by omega
      subst hkn
      have hk2 : ls.take k = ls := List.take_of_length_le (by rw [HL.out]; exact Nat.le_refl _)
      have HE1 := Lib.hid (show tot = total ls by rw [HE.out, hk2])
      have HOw := Lib.hid (show Own ((w.alloc (.cells #[.slice A k c] 25)).alloc (.cells #[.int .u8 67, .int .u8 82] 5)) (.slice (some ⟨w.heap.size + 1, 0, none⟩) 2 2) [67, 82] by
        have := Own.two (w.alloc (.cells #[.slice A k c] 25)) 67 82
        simpa using this)
      have HNw := Lib.hid (HN0.out.alloc (.cells #[.int .u8 67, .int .u8 82] 5))
      have HBw := Lib.hid (HB0.out.alloc (by simp) (.cells #[.int .u8 67, .int .u8 82] 5))
      clear hk2
      go_wp2_with fail
      refine (ruvarint_any _ [67, 82] k _ HOw.out (by omega) (by simp)).mono ?_
      rintro e w3 ⟨v3, rfl, ho3, hO3, hF3⟩
      obtain ⟨hx3, hb3, hf3⟩ := app_all HOw.out HNw.out HBw.out (Nat.le_refl _) (fun g hg => by simp [Value.ownBlock] at hg; omega) hO3 hF3
      obtain ⟨l3, hl3⟩ : ∃ l3, [67, 82] ++ uv k = l3 := ⟨_, rfl⟩
      have hl3n : l3.length ≤ 11 := by
        have := uv_le k (by omega)
        rw [← hl3, List.length_append]
        show 2 + _ ≤ _
        omega
      rw [hl3] at ho3
      have HL3 := Lib.hid hl3
      have HO3 := Lib.hid ho3
      have HX3 := Lib.hid (And.intro hx3 (And.intro hb3 hf3))
      obtain ⟨A3, c3, rfl, _, _⟩ := ho3.form
      clear ho3 hO3 hF3 hl3 hb3 hf3 hx3
      go_wp2_with fail
      refine (ruvarint_any _ l3 tot _ HO3.out (by omega) (by omega)).mono ?_
      rintro e w4 ⟨v4, rfl, ho4, hO4, hF4⟩
      obtain ⟨hx4, hb4, hf4⟩ := app_all HO3.out HX3.out.1 HX3.out.2.1 (Nat.le_refl _) HX3.out.2.2 hO4 hF4
      obtain ⟨l4, hl4⟩ : ∃ l4, l3 ++ uv tot = l4 := ⟨_, rfl⟩
      have hl4n : l4.length ≤ 20 := by
        have := uv_le tot (by omega)
        rw [← hl4, List.length_append]
        omega
      rw [hl4] at ho4
      have HE4 := Lib.hid (show l4 = headB ls by rw [← hl4, ← HL3.out, HE1.out, headB, HL.out])
      have HO4 := Lib.hid ho4
      have HX4 := Lib.hid (And.intro hx4 (And.intro hb4 hf4))
      obtain ⟨A4, c4, rfl, _, _⟩ := ho4.form
      clear ho4 hO4 hF4 hl4 hb4 hf4 hx4
      obtain ⟨G, hG⟩ : ∃ G, (k + 15) / 16 = G := ⟨_, rfl⟩
      have hG1 : k ≤ 16 * G := by omega
      have hG2 : 16 * G < k + 16 := by omega
      have HG := Lib.hid hG
      clear hG
      go_wp2_with fail
      go_loopw [5, 6, 7] (fun vb vr vs wr => ∃ (g s : Nat) (lb rl : List Nat), g ≤ G ∧ vs = .int .i64 s ∧ Hid (s = 16 * g) ∧ s ≤ 16400 ∧ lb.length ≤ 20 + 9 * g ∧ rl.length ≤ 5000000 ∧ Hid (lb = headB ls ++ sizesB ls g ∧ rl = ((rowsOf ls).take s).flatten) ∧
        Hid (Own wr vb lb ∧ Own wr vr rl ∧ (∀ g, vb.ownBlock = some g → w.heap.size ≤ g) ∧ (∀ g, vr.ownBlock = some g → w.heap.size ≤ g) ∧ (∀ g, vb.ownBlock = some g → ¬ vr.ownBlock = some g) ∧ Blk wr w.heap.size 25 #[.slice A k c] ∧ Below w.heap.size w wr)) (fun _ _ vs _ => k + 16 - (intOf vs).toNat)
      case atStart => exact ⟨0, 0, l4, [], Nat.zero_le _, rfl, Lib.hid rfl, by omega, by omega, by simp, Lib.hid ⟨by rw [HE4.out]; simp [sizesB], by simp⟩, Lib.hid ⟨HO4.out, Own.nil _, HX4.out.2.2, fun g hg => by simp [Value.ownBlock] at hg, fun g _ hg => by simp [Value.ownBlock] at hg, HX4.out.1, HX4.out.2.1⟩⟩
      case round =>
        obtain ⟨g, s, lb, rl, hg, rfl, HSG, hs16, hlb, hrl, HE, HW⟩ := hrel
        obtain ⟨Ab, cb, rfl, _, _⟩ := HW.out.1.form
        obtain ⟨Ar, cr, rfl, _, _⟩ := HW.out.2.1.form
        have hNc := HW.out.2.2.2.2.2.1.cell
        have hNl := HW.out.2.2.2.2.2.1.lt
        by_cases hlt2 : s < k
        · go_wp2_with fail
          go_loopw [8, 9] (fun vg vk wr' => ∃ (j : Nat) (gl : List Nat), s ≤ j ∧ j ≤ k ∧ j ≤ s + 16 ∧ vk = .int .i64 j ∧ gl.length ≤ 5000000 ∧ Hid (gl = (((rowsOf ls).take j).drop s).flatten) ∧
            Hid (Own wr' vg gl ∧ (∀ g, vg.ownBlock = some g → wr.heap.size ≤ g) ∧ Below wr.heap.size wr wr')) (fun _ vk _ => k - (intOf vk).toNat)
          case atStart => exact ⟨s, [], Nat.le_refl _, by omega, by omega, rfl, by simp, Lib.hid (by rw [List.drop_eq_nil_of_le (by rw [List.length_take]; omega)]; rfl), Lib.hid ⟨Own.nil _, fun g hg => by simp [Value.ownBlock] at hg, Below.refl _ _⟩⟩
          case round =>
            obtain ⟨j, gl, hj1, hj2, hj3, rfl, hgl, HF, HV⟩ := hrel
            obtain ⟨Ag, cg, rfl, _, _⟩ := HV.out.1.form
            have HBX := Lib.hid (HW.out.2.2.2.2.2.2.trans (HV.out.2.2.mono HW.out.2.2.2.2.2.2.size))
            have HNX := Lib.hid (HW.out.2.2.2.2.2.1.below HV.out.2.2 HW.out.2.2.2.2.2.1.lt)
            clear hNc hNl
            have hNc := HNX.out.cell
            have hNl := HNX.out.lt
            by_cases hin : j < s + 16 ∧ j < k
            · obtain ⟨hin1, hin2⟩ := hin
              have hgj : ls[j]? = some (ls[j]'(by rw [HL.out]; exact hin2)) := List.getElem?_eq_getElem _
              obtain ⟨l, hl⟩ : ∃ l, ls[j]'(by rw [HL.out]; exact hin2) = l := ⟨_, rfl⟩
              rw [hl] at hgj
              have HGJ := Lib.hid hgj
              have hmem := List.mem_of_getElem? hgj
              have hll := HP.out.row hmem
              have HOKL := Lib.hid (HP.out.ok l hmem)
              have HASL := Lib.hid (HP.out.asc l hmem)
              clear hgj hl hmem
              go_wp2_with fail
              refine (rrow_any A k c B ls j l _ (H.out.below (HBX.out.mono hB)) (Nat.le_trans hB HBX.out.size) HGJ.out HOKL.out HASL.out (by omega) (by omega)).mono ?_
              rintro e w5 ⟨v5, rfl, ho5, hb5, hf5⟩
              have HG5 := Lib.hid (HV.out.1.below hb5 (fun g hg => HV.out.1.lt hg))
              have hne := rowF_ne j l
              have hlen0 : 0 < (rowF j l).length := by
                cases hr : rowF j l with
                | nil => exact absurd hr hne
                | cons a r => simp
              obtain ⟨A5, c5, rfl, _, _⟩ := ho5.form
              have hR5 := ho5.rd
              obtain ⟨b5, o5, hA5, _, _⟩ := hR5.2 hlen0
              subst hA5
              have HR5 := Lib.hid hR5
              have hrn := rowF_len j (by omega) l HOKL.out (by omega)
              obtain ⟨rn, hrne⟩ : ∃ rn, (rowF j l).length = rn := ⟨_, rfl⟩
              rw [hrne] at hrn HR5
              have HRN := Lib.hid hrne
              have hs5 := hb5.size
              have HB5 := Lib.hid (HV.out.2.2.trans (hb5.mono HV.out.2.2.size))
              have hgf := grp_few HP.out (j + 1) s (by rw [HL.out]; omega)
              rw [grp_next HGJ.out hj1, ← HF.out, List.length_append, hrne] at hgf
              rw [hrne]
              clear ho5 hb5 hf5 hR5 hne hlen0 hNc hNl hrne
              go_wp2_with (first | (at_builtin; go_must (refine appList_rd rfl slByte rfl HG5.out rfl HR5.out (c := c5) rfl (ucell_ones _) (by unfold maxLen; omega) (by omega) ?_); intro v7 w7 hown7 hgrow7 hat7))
              have hown7' : w7.ownsRow 0 5 1 v7 (gl.length + (rowF j l).length) (cellsOf ucell gl ++ cellsOf ucell (rowF j l)) := by rw [HRN.out]; exact hown7
              obtain ⟨h1, h2, h3⟩ := app_post2 (w := w5) (Outside.refl _ _) (From.refl _ _) hown7' hgrow7 hat7
              obtain ⟨hb7, hf7⟩ := fresh_post HV.out.2.1 HB5.out.size h2 h3
              obtain ⟨l7, hl7⟩ : ∃ l7, gl ++ rowF j l = l7 := ⟨_, rfl⟩
              have hl7n : l7.length ≤ 5000000 := by rw [← hl7, List.length_append, HRN.out]; exact hgf
              rw [hl7] at h1
              have HE7 := Lib.hid (show l7 = (((rowsOf ls).take (j + 1)).drop s).flatten by rw [← hl7, HF.out, grp_next HGJ.out hj1])
              have HN7 := Lib.hid (And.intro h1 (And.intro hf7 (HB5.out.trans hb7)))
              obtain ⟨A7, c7, rfl, _, _⟩ := h1.form
              clear h1 h2 h3 hb7 hf7 hown7 hown7' hgrow7 hat7 hl7 hgf
              go_wp2_with fail
              go_roundw
              case rel => exact ⟨j + 1, l7, by omega, by omega, by omega, by go_num, hl7n, HE7, HN7⟩
              case measure => simp [intOf]; omega
            · have hend : j = s + 16 ∨ (j = k ∧ j ≤ s + 16) := by omega
              have hj1' : s < j := by omega
              obtain ⟨gn, hgn⟩ : ∃ gn, gl.length = gn := ⟨_, rfl⟩
              have HGE := Lib.hid (show gl = (((rowsOf ls).drop (16 * g)).take 16).flatten by
                rw [HF.out, HSG.out, grp_end ls g j (by rw [HL.out, ← HSG.out]; omega) (by rw [HL.out, ← HSG.out]; exact hend)])
              have HGZ := Lib.hid (show gsz ls g = gl.length by rw [HGE.out, gsz])
              have hgl0 : gl.length ≠ 0 := by
                intro h0
                have h1 : gl = [] := List.length_eq_zero_iff.1 h0
                have h2 : ls[s]? = some (ls[s]'(by rw [HL.out]; omega)) := List.getElem?_eq_getElem _
                have h3 := rows_get h2
                rw [HF.out] at h1
                have h4 := List.flatten_eq_nil_iff.1 h1 (rowF s (ls[s]'(by rw [HL.out]; omega))) (by
                  rw [List.mem_iff_getElem?]
                  refine ⟨0, ?_⟩
                  rw [List.getElem?_drop, List.getElem?_take_of_lt (by omega), Nat.add_zero, h3])
                exact rowF_ne _ _ h4
              have HOB := Lib.hid (HW.out.1.below HV.out.2.2 (fun g hg => HW.out.1.lt hg))
              have HOR := Lib.hid (HW.out.2.1.below HV.out.2.2 (fun g hg => HW.out.2.1.lt hg))
              have hul := uv_le gl.length (by omega)
              have hcase : j = s + 16 ∨ (j < s + 16 ∧ j = k) := by omega
              clear hin hend hgn
              rcases hcase with hc | ⟨hc1, hc2⟩
              · go_wp2_with fail
                refine (ruvarint_any _ lb gl.length _ HOB.out (by omega) (by omega)).mono ?_
                rintro e w5 ⟨v5, rfl, ho5, hO5, hF5⟩
                obtain ⟨hx5, hb5, hf5⟩ := app_all HOB.out HNX.out HBX.out (Nat.le_refl _) HW.out.2.2.1 hO5 hF5
                have hG5 : Own w5 (.slice Ag gl.length cg) gl := HV.out.1.out hO5 (fun g hg hb => by have h1 := HV.out.2.1 g hg; have h2 := HW.out.1.lt hb; omega)
                have hR5 : Own w5 (.slice Ar rl.length cr) rl := HOR.out.out hO5 (fun g hg hb => HW.out.2.2.2.2.1 g hb hg)
                have hsep : ∀ g, v5.ownBlock = some g → ¬ (Value.slice Ar rl.length cr).ownBlock = some g := fun g hg hr => by
                  rcases hF5 with h | ⟨g', h, h1⟩
                  · exact HW.out.2.2.2.2.1 g (h.symm.trans hg) hr
                  · have h2 : g' = g := by simpa using h.symm.trans hg
                    have h3 := HOR.out.lt hr
                    omega
                obtain ⟨l5, hl5⟩ : ∃ l5, lb ++ uv gl.length = l5 := ⟨_, rfl⟩
                have hl5n : l5.length ≤ 20 + 9 * (g + 1) := by rw [← hl5, List.length_append]; omega
                rw [hl5] at ho5
                have HE5 := Lib.hid (show l5 = headB ls ++ sizesB ls (g + 1) by rw [← hl5, HE.out.1, sizesB_next, HGZ.out]; simp)
                obtain ⟨bg, og, hAg, _, _⟩ := hG5.rd.2 (by omega)
                subst hAg
                have HG5 := Lib.hid hG5.rd
                have HR5 := Lib.hid hR5
                have HO5 := Lib.hid ho5
                have HZ5 := Lib.hid (And.intro hx5 (And.intro hb5 (And.intro hf5 hsep)))
                obtain ⟨A5, c5, rfl, _, _⟩ := ho5.form
                have hrf := flat_take_few HP.out (16 * (g + 1))
                rw [take_add16, ← HGE.out, ← HSG.out, ← HE.out.2, List.length_append] at hrf
                clear ho5 hO5 hF5 hx5 hb5 hf5 hsep hl5 hG5 hR5 hNc hNl
                go_wp2_with (first | (at_builtin; go_must (refine appList_rd rfl slByte rfl HR5.out rfl HG5.out (c := cg) rfl (ucell_ones _) (by unfold maxLen; omega) (by omega) ?_); intro v7 w7 hown7 hgrow7 hat7))
                obtain ⟨h1, h2, h3⟩ := app_post2 (w := w5) (Outside.refl _ _) (From.refl _ _) hown7 hgrow7 hat7
                obtain ⟨hx7, hb7, hf7⟩ := app_all HR5.out HZ5.out.1 HZ5.out.2.1 (Nat.le_refl _) HW.out.2.2.2.1 h2 h3
                have hO7 : Own w7 (.slice A5 l5.length c5) l5 := HO5.out.out h2 (fun g hg hb => HZ5.out.2.2.2 g hg hb)
                have hsep7 : ∀ g, (Value.slice A5 l5.length c5).ownBlock = some g → ¬ v7.ownBlock = some g := fun g hg hr => by
                  rcases hat7 with h | h
                  · exact HZ5.out.2.2.2 g hg (h.symm.trans hr)
                  · have h4 : w5.heap.size = g := by simpa using h.symm.trans hr
                    have h5 := HO5.out.lt hg
                    omega
                obtain ⟨l7, hl7⟩ : ∃ l7, rl ++ gl = l7 := ⟨_, rfl⟩
                have hl7n : l7.length ≤ 5000000 := by rw [← hl7, List.length_append]; exact hrf
                rw [hl7] at h1
                have HE7 := Lib.hid (show l7 = ((rowsOf ls).take (s + 16)).flatten by rw [← hl7, HE.out.2, HGE.out, show s + 16 = 16 * (g + 1) by have := HSG.out; omega, take_add16, ← HSG.out])
                have HN7 := Lib.hid (And.intro hO7 (And.intro h1 (And.intro HZ5.out.2.2.1 (And.intro hf7 (And.intro hsep7 (And.intro hx7 hb7))))))
                have HS7 := Lib.hid (show s + 16 = 16 * (g + 1) by have := HSG.out; omega)
                have hgG : g + 1 ≤ G := by have := HSG.out; omega
                obtain ⟨A7, c7, rfl, _, _⟩ := h1.form
                clear h1 h2 h3 hx7 hb7 hf7 hown7 hgrow7 hat7 hl7 hrf hO7 hsep7
                go_wp2_with fail
                go_roundw
                case rel => exact ⟨g + 1, s + 16, l5, l7, hgG, by go_num, HS7, by omega, hl5n, hl7n, Lib.hid ⟨HE5.out, HE7.out⟩, HN7⟩
                case measure => simp [intOf]; omega
              · have hc3 : k ≤ j := by omega
                go_wp2_with fail
                refine (ruvarint_any _ lb gl.length _ HOB.out (by omega) (by omega)).mono ?_
                rintro e w5 ⟨v5, rfl, ho5, hO5, hF5⟩
                obtain ⟨hx5, hb5, hf5⟩ := app_all HOB.out HNX.out HBX.out (Nat.le_refl _) HW.out.2.2.1 hO5 hF5
                have hG5 : Own w5 (.slice Ag gl.length cg) gl := HV.out.1.out hO5 (fun g hg hb => by have h1 := HV.out.2.1 g hg; have h2 := HW.out.1.lt hb; omega)
                have hR5 : Own w5 (.slice Ar rl.length cr) rl := HOR.out.out hO5 (fun g hg hb => HW.out.2.2.2.2.1 g hb hg)
                have hsep : ∀ g, v5.ownBlock = some g → ¬ (Value.slice Ar rl.length cr).ownBlock = some g := fun g hg hr => by
                  rcases hF5 with h | ⟨g', h, h1⟩
                  · exact HW.out.2.2.2.2.1 g (h.symm.trans hg) hr
                  · have h2 : g' = g := by simpa using h.symm.trans hg
                    have h3 := HOR.out.lt hr
                    omega
                obtain ⟨l5, hl5⟩ : ∃ l5, lb ++ uv gl.length = l5 := ⟨_, rfl⟩
                have hl5n : l5.length ≤ 20 + 9 * (g + 1) := by rw [← hl5, List.length_append]; omega
                rw [hl5] at ho5
                have HE5 := Lib.hid (show l5 = headB ls ++ sizesB ls (g + 1) by rw [← hl5, HE.out.1, sizesB_next, HGZ.out]; simp)
                obtain ⟨bg, og, hAg, _, _⟩ := hG5.rd.2 (by omega)
                subst hAg
                have HG5 := Lib.hid hG5.rd
                have HR5 := Lib.hid hR5
                have HO5 := Lib.hid ho5
                have HZ5 := Lib.hid (And.intro hx5 (And.intro hb5 (And.intro hf5 hsep)))
                obtain ⟨A5, c5, rfl, _, _⟩ := ho5.form
                have hrf := flat_take_few HP.out (16 * (g + 1))
                rw [take_add16, ← HGE.out, ← HSG.out, ← HE.out.2, List.length_append] at hrf
                clear ho5 hO5 hF5 hx5 hb5 hf5 hsep hl5 hG5 hR5 hNc hNl
                go_wp2_with (first | (at_builtin; go_must (refine appList_rd rfl slByte rfl HR5.out rfl HG5.out (c := cg) rfl (ucell_ones _) (by unfold maxLen; omega) (by omega) ?_); intro v7 w7 hown7 hgrow7 hat7))
                obtain ⟨h1, h2, h3⟩ := app_post2 (w := w5) (Outside.refl _ _) (From.refl _ _) hown7 hgrow7 hat7
                obtain ⟨hx7, hb7, hf7⟩ := app_all HR5.out HZ5.out.1 HZ5.out.2.1 (Nat.le_refl _) HW.out.2.2.2.1 h2 h3
                have hO7 : Own w7 (.slice A5 l5.length c5) l5 := HO5.out.out h2 (fun g hg hb => HZ5.out.2.2.2 g hg hb)
                have hsep7 : ∀ g, (Value.slice A5 l5.length c5).ownBlock = some g → ¬ v7.ownBlock = some g := fun g hg hr => by
                  rcases hat7 with h | h
                  · exact HZ5.out.2.2.2 g hg (h.symm.trans hr)
                  · have h4 : w5.heap.size = g := by simpa using h.symm.trans hr
                    have h5 := HO5.out.lt hg
                    omega
                obtain ⟨l7, hl7⟩ : ∃ l7, rl ++ gl = l7 := ⟨_, rfl⟩
                have hl7n : l7.length ≤ 5000000 := by rw [← hl7, List.length_append]; exact hrf
                rw [hl7] at h1
                have HE7 := Lib.hid (show l7 = ((rowsOf ls).take (s + 16)).flatten by rw [← hl7, HE.out.2, HGE.out, show s + 16 = 16 * (g + 1) by have := HSG.out; omega, take_add16, ← HSG.out])
                have HN7 := Lib.hid (And.intro hO7 (And.intro h1 (And.intro HZ5.out.2.2.1 (And.intro hf7 (And.intro hsep7 (And.intro hx7 hb7))))))
                have HS7 := Lib.hid (show s + 16 = 16 * (g + 1) by have := HSG.out; omega)
                have hgG : g + 1 ≤ G := by have := HSG.out; omega
                obtain ⟨A7, c7, rfl, _, _⟩ := h1.form
                clear h1 h2 h3 hx7 hb7 hf7 hown7 hgrow7 hat7 hl7 hrf hO7 hsep7
                go_wp2_with fail
                go_roundw
                case rel => exact ⟨g + 1, s + 16, l5, l7, hgG, by go_num, HS7, by omega, hl5n, hl7n, Lib.hid ⟨HE5.out, HE7.out⟩, HN7⟩
                case measure => simp [intOf]; omega
        · have hgG : g = G := by have := HSG.out; omega
          subst hgG
          have hrn : rl.length ≠ 0 := by
            intro h0
            have h1 : rl = [] := List.length_eq_zero_iff.1 h0
            have h2 : ls[0]? = some (ls[0]'(by rw [HL.out]; omega)) := List.getElem?_eq_getElem _
            rw [HE.out.2] at h1
            have h4 := List.flatten_eq_nil_iff.1 h1 (rowF (0 : Nat) (ls[0]'(by rw [HL.out]; omega))) (by
              rw [List.mem_iff_getElem?]
              exact ⟨0, by rw [List.getElem?_take_of_lt (by omega), rows_get h2]⟩)
            exact rowF_ne _ _ h4
          have hE7 : lb ++ rl = bodyB ls := by
            rw [HE.out.1, HE.out.2, bodyB, HL.out, HG.out, List.take_of_length_le (by rw [rows_len, HL.out]; omega)]
          obtain ⟨br, or_, hA, _, _⟩ := HW.out.2.1.rd.2 (by omega)
          subst hA
          have HR5 := Lib.hid HW.out.2.1.rd
          have hws := HW.out.2.2.2.2.2.2.size
          have HEE := Lib.hid hE7
          clear hE7
          go_wp2_with (first | (at_builtin; go_must (refine appList_rd rfl slByte rfl HW.out.1 rfl HR5.out (c := cr) rfl (ucell_ones _) (by unfold maxLen; omega) (by omega) ?_); intro v7 w7 hown7 hgrow7 hat7))
          obtain ⟨h1, h2, h3⟩ := app_post2 (w := wr) (Outside.refl _ _) (From.refl _ _) hown7 hgrow7 hat7
          obtain ⟨hb7, hf7⟩ := fresh_post HW.out.2.2.1 hws h2 h3
          have hln7 : (lb ++ rl).length ≤ 10000000 := by rw [List.length_append]; omega
          have hln0 : 0 < (lb ++ rl).length := by rw [List.length_append]; omega
          rw [HEE.out] at h1 hln7 hln0
          obtain ⟨A7, c7, rfl, _, _⟩ := h1.form
          have hR7 := h1.rd
          obtain ⟨b7, o7, hA7, _, _⟩ := hR7.2 hln0
          subst hA7
          have HR7 := Lib.hid hR7
          have HB7 := Lib.hid (HW.out.2.2.2.2.2.2.trans hb7)
          obtain ⟨bn, hbn⟩ : ∃ bn, (bodyB ls).length = bn := ⟨_, rfl⟩
          rw [hbn] at hln7 hln0 HR7 ⊢
          clear h1 h2 h3 hb7 hf7 hown7 hgrow7 hat7 hR7 hbn
          go_wp2_with fail
          refine (sealed_any ⟨b7, o7, none⟩ bn c7 w7.heap.size (bodyB ls) _ HR7.out (Nat.le_refl _) (body_byte ls) hln0 (by omega)).mono ?_
          rintro e w8 ⟨v8, rfl, ho8, hb8, g8, hg8, hg8'⟩
          have HZ := Lib.hid (And.intro ho8 (And.intro (HB7.out.trans (hb8.mono HB7.out.size)) (fun (g : Nat) (hg : v8.ownBlock = some g) => show w.heap.size ≤ g by
            have h1 : g8 = g := by simpa using hg8.symm.trans hg
            have h2 := HB7.out.size
            omega)))
          clear ho8 hb8 hg8 hg8'
          go_wp2_with fail
          go_ret
          exact ⟨v8, rfl, HZ.out⟩

end Go.Proofs.Ytonpdclccgpceaa
