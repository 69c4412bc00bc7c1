/- RowsUnpack: the law's walk -/
import Derived.Test.YtonpdclccgpceaaRwY
import Derived.Test.YtonpdclccgpceaaRwE5
import Derived.Test.YtonpdclccgpceaaRwSa
import Derived.Test.YtonpdclccgpceaaRwPs
namespace Go.Proofs.Ytonpdclccgpceaa
open Go Go.RowKit
set_option maxHeartbeats 8000000

theorem Rd.outA {w w' : World} {B k n : Nat} {A : Option Addr} {xs : List Value} {R : Nat → Prop} (h : Rd w B k A n xs) (hO : Outside R w w') (hA : ∀ a, A = some a → ¬ R a.block) : Rd w' B k A n xs := by
  refine ⟨h.1, fun h0 => ?_⟩
  obtain ⟨b, o, e, hb, hc⟩ := h.2 h0
  exact ⟨b, o, e, hb, fun j u hu => hO.cell (hc j u hu) (show ¬ R b from hA ⟨b, o, none⟩ e)⟩
theorem own_addr {w : World} {base : Nat} {e : TypeId} {size n n' c : Nat} {A : Option Addr} {xs : List Value} (h : w.ownsRow base e size (.slice A n' c) n xs) : ∀ a, A = some a → (Value.slice A n' c).ownBlock = some a.block := by
  intro a ha
  subst ha
  rcases h.2 with ⟨e, _⟩ | ⟨g', _, _, e, _⟩
  · cases e
  · cases e
    rfl
theorem tape_pack {N bd n : Nat} {ls : List (List Arc)} (hl : ls.length = n) (h1 : 1 ≤ n) (hn : n ≤ N) (hs : ∀ l ∈ ls, l.length ≤ bd ∧ GoodR n l) (hN : N ≤ 100) (hbd : bd ≤ 250) (ht : N * bd ≤ 200) : validB ls = true ∧ (packB ls).length ≤ 10000 := by
  have h2 := total_all ls N bd (fun l hl => (hs l hl).1) (by omega)
  have hv : validB ls = true := valid_of (bd := bd) (by omega) (by omega) (fun l hl => (hs l hl).1) (by
    have := Nat.mul_le_mul (show ls.length ≤ 100 by omega) hbd
    omega) (by rw [hl]; exact fun l hl => (hs l hl).2)
  have h3 := pack_few (Pk.of hv)
  exact ⟨hv, by omega⟩
/-- unpacks of sealed bytes -/
theorem sealB_len (l : List Nat) : (sealB l).length = l.length + 4 := by rw [sealB, List.length_append, sum4_len]

set_option maxRecDepth 100000 in
theorem rowsUnpack_law (w : World) (A : Option Addr) (n c : Nat) (zs : List Int) (h : Rd w w.heap.size 1 A n (cellsOf icell zs)) (hn : n ≤ 1048576)
    (Ab : Option Addr) (nb cb : Nat) (lb : List Nat) (hb : Rd w w.heap.size 1 Ab nb (cellsOf ucell lb)) (hnb : nb ≤ 1048576) (hby : ∀ y ∈ lb, y < 256) (hcb : nb ≤ cb) :
    Calls Try.prog 5 #[.slice A n c, .slice Ab nb cb] w fun e w' => e = .returned (.bool true) ∧ Below w.heap.size w w' := by
  have HR0 := Lib.hid h
  have HBB := Lib.hid hb
  have HBY := Lib.hid hby
  have HBN := Lib.hid (hb.len ucell_len (by decide))
  clear h hb hby
  go_enter Try.func5, Try.ntmps5
  go_wp2_with fail
  refine (tnew_any w.heap.size A n c zs _ HR0.out (Nat.le_refl _)).mono ?_
  rintro e w1 ⟨rfl, hT1, hb1, hz1⟩
  have HT1 := Lib.hid (And.intro hT1 hb1)
  have hsz1 : w.heap.size + 1 ≤ w1.heap.size := by omega
  clear hT1 hb1 hz1
  go_wp2_with fail
  go_loopw [6] (fun vi wr => ∃ (k j : Nat), k ≤ 4 ∧ vi = .int .i64 k ∧ j ≤ 500 * k ∧ w.heap.size + 1 ≤ wr.heap.size ∧ Hid (TpAt wr w.heap.size w.heap.size A n c zs j ∧ Below w.heap.size w wr)) (fun vi _ => 4 - (intOf vi).toNat)
  case atStart => exact ⟨0, 0, by decide, rfl, by decide, hsz1, HT1⟩
  case round =>
    obtain ⟨k, j, hk, rfl, hj, hsz, HW⟩ := hrel
    by_cases hlt : k < 4
    · go_wp2_with fail
      refine (ltsGenV_any w.heap.size w.heap.size A n c j zs 7 _ HW.out.1 (by omega) (by omega) (by decide) (by decide)).mono ?_
      rintro e w2 ⟨⟨A2, n2, c2, l2, rfl, hR2, hnc2, hn2, hn2', hs2⟩, ⟨j2, hj2, hT2⟩, hO2⟩
      obtain ⟨hv, hp⟩ := tape_pack hR2.len hn2' hn2 hs2 (by decide) (by decide) (by decide)
      have HR2 := Lib.hid hR2
      have HT2 := Lib.hid hT2
      have HO2 := Lib.hid hO2
      have hs22 := hO2.size
      have HV := Lib.hid hv
      clear hR2 hs2 hT2 hO2 hv
      go_wp2_with fail
      refine (rpack_any A2 n2 c2 w2.heap.size l2 _ HR2.out (Nat.le_refl _) (Pk.of HV.out)).mono ?_
      rintro e w3 ⟨v3, rfl, ho3, hb3, hf3⟩
      obtain ⟨A3, c3, rfl, hc3, _⟩ := ho3.form
      have hm3 := packB_min l2
      obtain ⟨m, hm⟩ : ∃ m, (packB l2).length = m := ⟨_, rfl⟩
      have ho3' : w3.ownsRow 0 5 1 (.slice A3 m c3) m (cellsOf ucell (packB l2)) := by rw [← hm]; exact ho3
      rw [hm] at hc3 hp hm3 hf3 ⊢
      have HO3 := Lib.hid ho3'
      have HF3 := Lib.hid hf3
      have HT3 := Lib.hid (And.intro (HT2.out.below hb3) (HO2.out.trans ((Below.new hb3).mono (fun _ _ e => e.elim))))
      have hs3 := hb3.size
      have HM := Lib.hid hm
      clear ho3 ho3' hb3 hf3 hm
      go_wp2_with fail
      refine (bytes_any w.heap.size w.heap.size A n c j2 zs A3 m c3 w3.heap.size (packB l2) _ HT3.out.1 (by omega) (by omega) (Rd.ofOwn HO3.out) (Nat.le_refl _) (pack_byte l2) (by omega)).mono ?_
      rintro e w4 ⟨⟨A4, n4, c4, l4, rfl, hR4, hc4, hn4, hy4, ha4⟩, ⟨j4, hj4, hT4⟩, hO4⟩
      have HR4 := Lib.hid (And.intro hR4 (And.intro hy4 ha4))
      have HO4 := Lib.hid (own_out HO3.out hO4 (fun x hx e => by have := HF3.out x hx; omega))
      have HT4 := Lib.hid (And.intro hT4 (HT3.out.2.trans hO4))
      have hs4 := hO4.size
      have hV : (m : Int) - 4 = ((m - 4 : Nat) : Int) := by omega
      obtain ⟨m4, hm4⟩ : ∃ m4, m - 4 = m4 := ⟨_, rfl⟩
      rw [hm4] at hV
      have hm44 : m4 ≤ m := by omega
      clear hR4 hy4 ha4 hT4 hO4
      go_wp2_with fail
      refine (bytes_any w.heap.size w.heap.size A n c j4 zs A3 m4 c3 w4.heap.size ((packB l2).take m4) _ HT4.out.1 (by omega) (by omega) ((Rd.ofOwn HO4.out).utake hm44) (Nat.le_refl _) (fun y hy => pack_byte l2 y (List.mem_of_mem_take hy)) (by omega)).mono ?_
      rintro e w5 ⟨⟨A5, n5, c5, l5, rfl, hR5, hc5, hn5, hy5, ha5⟩, ⟨j5, hj5, hT5⟩, hO5⟩
      have HR5 := Lib.hid (And.intro hR5 hy5)
      have HO5 := Lib.hid (own_out HO4.out hO5 (fun x hx e => by have := HF3.out x hx; omega))
      have HX5 := Lib.hid (HR4.out.1.outA hO5 (fun a ha e => by have := HR4.out.2.2 a ha; omega))
      have HT5 := Lib.hid (And.intro hT5 (HT4.out.2.trans hO5))
      have hs5 := hO5.size
      clear hR5 hy5 ha5 hT5 hO5 hV hm4
      go_wp2_with fail
      refine (unpacks_any A3 m c3 w5.heap.size (packB l2) _ (Rd.ofOwn HO5.out) (Nat.le_refl _) (pack_byte l2) hc3 (by omega)).mono ?_
      rintro e w6 ⟨rfl, hb6⟩
      have HX6 := Lib.hid (And.intro ((HX5.out.more hs5).below hb6) (And.intro (HR5.out.1.below hb6) (And.intro (HT5.out.1.below hb6) (HT5.out.2.trans ((Below.new hb6).mono (fun _ _ e => e.elim))))))
      have hs6 := hb6.size
      clear hb6
      go_wp2_with fail
      refine (unpacks_any A4 n4 c4 w5.heap.size l4 _ HX6.out.1 hs6 HR4.out.2.1 hc4 (by omega)).mono ?_
      rintro e w7 ⟨rfl, hb7⟩
      have HX7 := Lib.hid (And.intro (HX6.out.2.1.below (hb7.mono hs6)) (And.intro (HX6.out.2.2.1.below hb7) (HX6.out.2.2.2.trans ((Below.new hb7).mono (fun _ _ e => e.elim)))))
      have hs7 := hb7.size
      clear hb7
      go_wp2_with fail
      refine (sealedG_any A5 n5 c5 w5.heap.size l5 _ HX7.out.1 (by omega) HR5.out.2 (by omega)).mono ?_
      rintro e w8 ⟨v8, rfl, ho8, hb8, _⟩
      obtain ⟨A8, c8, rfl, hc8, _⟩ := ho8.form
      have hl8 := sealB_len l5
      have hl5 := HR5.out.1.len ucell_len (by decide)
      have hr8 := ho8.rd
      obtain ⟨m8, hm8⟩ : ∃ m8, (sealB l5).length = m8 := ⟨_, rfl⟩
      rw [hm8] at hr8 hc8 hl8 ⊢
      have HR8 := Lib.hid hr8
      have hm8' : m8 ≤ 100000 := by omega
      have HX8 := Lib.hid (And.intro (HX7.out.2.1.below hb8) (HX7.out.2.2.trans ((Below.new hb8).mono (fun _ _ e => e.elim))))
      have hs8 := hb8.size
      clear ho8 hb8 hr8 hm8 hl8 hl5
      go_wp2_with fail
      refine (unpacks_any A8 m8 c8 w8.heap.size (sealB l5) _ HR8.out (Nat.le_refl _) (sealB_byte HR5.out.2) hc8 (by omega)).mono ?_
      rintro e w9 ⟨rfl, hb9⟩
      have hs9 := hb9.size
      have HX9 := Lib.hid (And.intro (HX8.out.1.below hb9) (HW.out.2.trans ((HX8.out.2.trans ((Below.new hb9).mono (fun _ _ e => e.elim))).below (by omega) (fun x hx e => by omega))))
      clear hb9
      go_wp2_with fail
      go_roundw
      case rel => exact ⟨k + 1, j5, by omega, by go_num, by omega, by omega, HX9⟩
      case measure => simp [intOf]; omega
    · by_cases hlen : (300 : Int) < nb
      · go_wp2_with fail
        go_ret
        exact ⟨ret_bool (by simp), HW.out.2⟩
      · go_wp2_with fail
        refine (unpacks_any Ab nb cb w.heap.size lb _ (HBB.out.below HW.out.2) HW.out.2.size HBY.out hcb (by omega)).mono ?_
        rintro e w6 ⟨rfl, hb6⟩
        have HB6 := Lib.hid (HW.out.2.trans (hb6.mono HW.out.2.size))
        clear hb6
        go_wp2_with fail
        refine (sealedG_any Ab nb cb w.heap.size lb _ (HBB.out.below HB6.out) HB6.out.size HBY.out (by omega)).mono ?_
        rintro e w7 ⟨v7, rfl, ho7, hb7, _⟩
        obtain ⟨A7, c7, rfl, hc7, _⟩ := ho7.form
        have hl7 := sealB_len lb
        have hlb := HBN.out
        have hr7 := ho7.rd
        obtain ⟨m7, hm7⟩ : ∃ m7, (sealB lb).length = m7 := ⟨_, rfl⟩
        rw [hm7] at hr7 hc7 hl7 ⊢
        have HR7 := Lib.hid hr7
        have hm7' : m7 ≤ 100000000 := by omega
        have HB7 := Lib.hid (HB6.out.trans (hb7.mono HB6.out.size))
        clear ho7 hb7 hr7 hm7 hl7 hlb
        go_wp2_with fail
        refine (unpacks_any A7 m7 c7 w7.heap.size (sealB lb) _ HR7.out (Nat.le_refl _) (sealB_byte HBY.out) hc7 (by omega)).mono ?_
        rintro e w8 ⟨rfl, hb8⟩
        have HB8 := Lib.hid (HB7.out.trans (hb8.mono HB7.out.size))
        clear hb8
        go_wp2_with fail
        refine (sane_any _).mono ?_
        rintro e w9 ⟨rfl, hb9⟩
        have HB9 := Lib.hid (HB8.out.trans (hb9.mono HB8.out.size))
        clear hb9
        go_wp2_with fail
        go_ret
        exact ⟨ret_bool (by simp), HB9.out⟩

end Go.Proofs.Ytonpdclccgpceaa
