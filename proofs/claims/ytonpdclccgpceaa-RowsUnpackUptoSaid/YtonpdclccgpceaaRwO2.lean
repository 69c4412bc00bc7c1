/- packed systems are opened: Open's walk -/
import Derived.Test.YtonpdclccgpceaaRwO
namespace Go.Proofs.Ytonpdclccgpceaa
open Go Go.RowKit
set_option maxHeartbeats 8000000

/-- what Open gives -/
def OpenPost (w : World) (b : List Nat) (e : Ending) (w' : World) : Prop :=
  ∃ (ls : List (List Arc)) (err : Nat), UnpRel b ls err ∧ Below w.heap.size w w' ∧ (err ≠ 0 ∧ e = .returned (.tuple #[.pointer none, .int .i64 err]) ∨
    err = 0 ∧ ∃ (g : Nat) (vb vs : Value), e = .returned (.tuple #[.pointer (some ⟨g, 0, none⟩), .int .i64 0]) ∧ OpAt w' w.heap.size g vb vs ls)

/-- what stands while the starts are noted: the rows' block g, the bytes, the sizes -/
structure OpLoop (w wr : World) (W1 W3 g : Nat) (vb vz vs : Value) (ls : List (List Arc)) (k : Nat) : Prop where
  blk : Blk wr g 78 #[vb, .int .i64 ls.length, .int .i64 (total ls), vs]
  own : Own wr vb (packB ls)
  sizes : wr.ownsRow 0 3 1 vz ((ls.length + 15) / 16) (cellsOf ncell ((List.range ((ls.length + 15) / 16)).map (gsz ls)))
  zlt : ∀ x, vz.ownBlock = some x → x < W3
  st : wr.ownsRow 0 3 1 vs k (cellsOf ncell ((List.range k).map (startK ls)))
  sbase : ∀ x, vs.ownBlock = some x → W3 ≤ x
  bbase : ∀ x, vb.ownBlock = some x → W1 ≤ x ∧ x < g
  below : Below w.heap.size w wr
  lo : w.heap.size ≤ W1 ∧ W1 ≤ g ∧ g < W3 ∧ W3 ≤ wr.heap.size
section
variable {w wr w' : World} {W1 W3 g k : Nat} {vb vz vs vs' : Value} {ls : List (List Arc)}
/-- an append to the starts, then the store into the rows' block -/
theorem OpLoop.app (h : OpLoop w wr W1 W3 g vb vz vs ls k) (hO : Outside (fun x => vs.ownBlock = some x) wr w') (hown : w'.ownsRow 0 3 1 vs' (k + 1) (cellsOf ncell ((List.range (k + 1)).map (startK ls))))
    (hb : ∀ x, vs'.ownBlock = some x → vs.ownBlock = some x ∨ wr.heap.size ≤ x) : OpLoop w (w'.setCell ⟨g, 3, none⟩ vs') W1 W3 g vb vz vs' ls (k + 1) := by
  obtain ⟨l1, l2, l3, l4⟩ := h.lo
  have hbase : ∀ x, vs'.ownBlock = some x → W3 ≤ x := fun x hx => by
    rcases hb x hx with h1 | h1
    · exact h.sbase x h1
    · omega
  have hS : Outside (fun x => x = g) w' (w'.setCell ⟨g, 3, none⟩ vs') := (Outside.refl (fun x => x = g) w').setCell (p := ⟨g, 3, none⟩) (.inl rfl) _
  have hg : ¬ vs.ownBlock = some g := fun e => by have := h.sbase g e; omega
  have hs := hO.size
  refine ⟨?_, own_out (own_out h.own hO fun x hx e => ?_) hS fun x hx e => ?_, own_out (own_out h.sizes hO fun x hx e => ?_) hS fun x hx e => ?_, h.zlt, own_out hown hS fun x hx e => ?_, hbase, h.bbase,
    (h.below.trans (hO.below h.below.size fun x hx e => ?_)).setCell (p := ⟨g, 3, none⟩) (by dsimp only; omega) _, l1, l2, l3, Nat.le_trans l4 (Nat.le_trans hs hS.size)⟩
  · exact (h.blk.out hO hg).put 3 vs'
  · have := h.sbase x e; have := h.bbase x hx; omega
  · have := h.bbase x hx; omega
  · have := h.sbase x e; have := h.zlt x hx; omega
  · exact own_apart h.sizes h.blk (by decide) (by rw [← e]; exact hx)
  · have := hbase x hx; omega
  · have := h.sbase x e; omega
end

set_option maxRecDepth 100000 in
theorem open_any (A : Option Addr) (n c B : Nat) (b : List Nat) (w : World) (h : Rd w B 1 A n (cellsOf ucell b)) (hB : B ≤ w.heap.size) (hby : ∀ x ∈ b, x < 256) (hc : n ≤ c) (hn : n ≤ 1000000000) :
    Calls Try.prog 25 #[.slice A n c] w (OpenPost w b) := by
  have HN := Lib.hid (h.len ucell_len (by decide))
  have H := Lib.hid h
  have HBY := Lib.hid hby
  clear h hby
  go_enter Try.func25, Try.ntmps25
  go_wp2_with fail
  refine (unpack_any A n c B b _ H.out hB HBY.out hc (by omega)).mono ?_
  rintro e w1 ⟨A1, n1, c1, ls, err, rfl, _, hb1, _, _, hU⟩
  have HU := Lib.hid hU
  have HB1 := Lib.hid (hb1.alloc hb1.size (.cells #[.slice A1 n1 c1] 25))
  have hs1 : w.heap.size ≤ (w1.alloc (.cells #[.slice A1 n1 c1] 25)).heap.size := HB1.out.size
  clear hU hb1
  by_cases herr : err = 0
  · subst herr
    obtain ⟨hv, hp, hl6⟩ := HU.out.zero rfl
    subst hp
    have hm := packB_min ls
    rw [HN.out] at hm hl6
    have HV := Lib.hid hv
    obtain ⟨b0, o0, rfl, _⟩ := H.out.2 (by omega)
    clear hv
    go_wp2_with fail
    refine (bclone_any _ n c B _ _ (H.out.below (HB1.out.mono hB)) (by omega) (by omega) hn).mono ?_
    rintro e w2 ⟨vb, rfl, ho2, hb2, hf2⟩
    obtain ⟨A2, c2, rfl, hc2, _⟩ := ho2.form
    have hn2 := HN.out
    subst hn2
    have HO2 := Lib.hid (And.intro ho2 (And.intro hf2 (HB1.out.trans (hb2.mono HB1.out.size))))
    have hs2 := hb2.size
    have HRD := Lib.hid ((show RdrAt ((w2.alloc (.cells #[.slice A2 (packB ls).length c2, .int .i64 0, .int .i64 0, .slice none 0 0] 78)).alloc (.cells #[.slice A2 (packB ls).length c2, .int .i64 0, .bool false] 66)) w2.heap.size (w2.heap.size + 1) A2 (packB ls).length c2 (packB ls) 0 false from
      ⟨heap_alloc_at (by simp), (ho2.rd.alloc (Nat.le_refl _) _).alloc (by simp) _, by omega, Nat.zero_le _, pack_byte ls⟩))
    have HBR := Lib.hid ((Blk.new w2 78 #[.slice A2 (packB ls).length c2, .int .i64 0, .int .i64 0, .slice none 0 0]).alloc (.cells #[.slice A2 (packB ls).length c2, .int .i64 0, .bool false] 66))
    have HO3 := Lib.hid (((Outside.refl (fun _ => False) w2).alloc (.cells #[.slice A2 (packB ls).length c2, .int .i64 0, .int .i64 0, .slice none 0 0] 78)).alloc (.cells #[.slice A2 (packB ls).length c2, .int .i64 0, .bool false] 66))
    clear ho2 hb2 hf2
    go_wp2_with fail
    refine (readHead_any w2.heap.size (w2.heap.size + 1) A2 _ c2 0 (packB ls) false _ HRD.out (by omega)).mono ?_
    rintro e w3 ⟨st, ar, vz, szs, p3, b3, rfl, hz, hzb, hst, har, _, _, hR3, hO3, hex3⟩
    obtain ⟨e1, e2, e3, e4, e5⟩ := hex3 ls _ (headG_of HV.out hl6 rfl)
    subst e1 e2 e3 e4 e5
    rw [List.length_map, List.length_range] at hz
    obtain ⟨Az, cz, rfl, _, _⟩ := own_form hz
    have hs3 : w2.heap.size + 2 ≤ w3.heap.size := Nat.le_trans (by simp) hO3.size
    have hblk3 := HBR.out.out hO3 (by omega)
    have h3c := hblk3.cell
    have h3l := hblk3.lt
    have h3f := hblk3.frozen
    have r3c := hR3.blk.cell
    have r3l := hR3.blk.lt
    have hO4 : Outside (fun x => x = w2.heap.size) w3 ((w3.setCell ⟨w2.heap.size, 1, none⟩ (.int .i64 ls.length)).setCell ⟨w2.heap.size, 2, none⟩ (.int .i64 (total ls))) :=
      ((Outside.refl (fun x => x = w2.heap.size) w3).setCell (p := ⟨w2.heap.size, 1, none⟩) (.inl rfl) _).setCell (p := ⟨w2.heap.size, 2, none⟩) (.inl rfl) _
    have hO5 : Outside (fun x => x = w2.heap.size + 1) w2 w3 := (HO3.out.mono (R' := fun x => x = w2.heap.size + 1) (fun _ _ e => e.elim)).trans hO3
    have hb5 := hO5.below (Nat.le_refl _) (fun k hk e => by omega)
    have hb6 := hO4.below (B := w2.heap.size) (by omega) (fun k hk e => by omega)
    have HL := Lib.hid (show OpLoop w ((w3.setCell ⟨w2.heap.size, 1, none⟩ (.int .i64 ls.length)).setCell ⟨w2.heap.size, 2, none⟩ (.int .i64 (total ls))) (w1.alloc (.cells #[.slice A1 n1 c1] 25)).heap.size w3.heap.size w2.heap.size (.slice A2 (packB ls).length c2) (.slice Az ((ls.length + 15) / 16) cz) (.slice none 0 0) ls 0 from
      ⟨(hblk3.put 1 _).put 2 _, own_out HO2.out.1 ((Outside.ofBelow (R := fun x => w2.heap.size ≤ x) hb5 (fun _ h => h)).trans (Outside.ofBelow (R := fun x => w2.heap.size ≤ x) hb6 (fun _ h => h))) (fun x hx e => by have := own_lt HO2.out.1 hx; omega),
        own_out hz hO4 (fun x hx e => own_apart hz hblk3 (by decide) (by rw [← e]; exact hx)), fun x hx => own_lt hz hx, World.ownsRow_nil _ _ _ _, fun x hx => absurd hx (by simp [Value.ownBlock]),
        fun x hx => ⟨HO2.out.2.1 x hx, own_lt HO2.out.1 hx⟩, HO2.out.2.2.trans ((hb5.trans hb6).mono HO2.out.2.2.size), hs1, hs2, by omega, hO4.size⟩)
    have hsz5 := hO4.size
    obtain ⟨G, hG⟩ : ∃ G, (ls.length + 15) / 16 = G := ⟨_, rfl⟩
    have HGG := Lib.hid hG
    have hG2 : G ≤ 2000 := by omega
    rw [hG] at HL ⊢
    have r4c : ∀ i, ((w3.setCell ⟨w2.heap.size, 1, none⟩ (.int .i64 ls.length)).setCell ⟨w2.heap.size, 2, none⟩ (.int .i64 (total ls))).cell? ⟨w2.heap.size + 1, i, none⟩ = (#[Value.slice A2 (packB ls).length c2, Value.int .i64 (startK ls 0), Value.bool false])[i]? := by
      rw [startK_zero]
      exact (hR3.blk.out hO4 (by omega)).cell
    clear hz hzb hR3 hO3 hex3 hblk3 hO4 hO5 hb5 hb6 hG r3c
    go_wp2_with fail
    go_loopw [11, 52] (fun va vi wr => ∃ (k : Nat) (vs : Value), k ≤ G ∧ va = .int .i64 (startK ls k) ∧ vi = .int .i64 k ∧ Hid (OpLoop w wr (w1.alloc (.cells #[.slice A1 n1 c1] 25)).heap.size w3.heap.size w2.heap.size (.slice A2 (packB ls).length c2) (.slice Az G cz) vs ls k)) (fun _ vi _ => G - (intOf vi).toNat)
    case atStart => exact ⟨0, _, Nat.zero_le _, rfl, rfl, HL⟩
    case round =>
      obtain ⟨k, vs, hk, rfl, rfl, HW⟩ := hrel
      obtain ⟨Av, cv, rfl, hkc, _⟩ := own_form HW.out.st
      have hk1 := startK_le ls (k + 1)
      have hk2 := startK_next ls k
      have g4c := HW.out.blk.cell
      have g4l := HW.out.blk.lt
      by_cases hlt : k < G
      · obtain ⟨bz, oz, z, rfl, _, hz, c0⟩ := (Rd.ofOwn (show wr.ownsRow 0 3 1 (.slice Az G cz) G (cellsOf ncell ((List.range ((ls.length + 15) / 16)).map (gsz ls))) by
          have h1 := HW.out.sizes
          rw [HGG.out] at h1 ⊢
          exact h1)).nat (i := k) hlt
        have hz2 : z = gsz ls k := by
          rw [List.getElem?_map, List.getElem?_range (by rw [HGG.out]; exact hlt)] at hz
          simpa using hz.symm
        rw [← hz2] at hk2
        obtain ⟨at1, hat1⟩ : ∃ at1, startK ls (k + 1) = at1 := ⟨_, rfl⟩
        obtain ⟨at0, hat0⟩ : ∃ at0, startK ls k = at0 := ⟨_, rfl⟩
        have HA := Lib.hid (And.intro hat0 hat1)
        rw [hat0] at hk2 ⊢
        rw [hat1] at hk1 hk2
        clear hz hz2 hat0 hat1
        go_wp2_with (first | (at_builtin; refine appList_blk rfl slInt rfl (World.ownsRow.alloc HW.out.st _) rfl (news := [.int .i64 at0]) ((heap_alloc_at rfl) : Blk _ wr.heap.size _ _) rfl rfl (by simp [Value.oneCell']) (by decide) (by unfold maxLen; omega) (by omega) ?_; intro g8 c8 w8 hown8 hgrow8 hat8; refine Stop7.intro ?_))
        unfold Stop7
        have hO8 : Outside (fun x => (Value.slice Av k cv).ownBlock = some x) wr w8 := ((Outside.refl (fun x => (Value.slice Av k cv).ownBlock = some x) wr).alloc (.cells #[.int .i64 at0] 3)).grown hgrow8 (fun z hz => .inl hz)
        have hg8 : Blk w8 w2.heap.size _ _ := HW.out.blk.out hO8 (fun e => by have := HW.out.sbase _ e; have := HW.out.lo; omega)
        have g8c := hg8.cell
        have g8l := hg8.lt
        have g8f := hg8.frozen
        have hown9 : w8.ownsRow 0 3 1 (.slice (some ⟨g8, 0, none⟩) (k + 1) c8) (k + 1) (cellsOf ncell ((List.range (k + 1)).map (startK ls))) := by
          rw [List.range_succ, List.map_append, cellsOf_append, List.map_singleton, HA.out.1]
          exact hown8
        have HX8 := Lib.hid (HW.out.app hO8 hown9 (fun x hx => by
          have h1 : g8 = x := by simpa [Value.ownBlock] using hx
          subst h1
          rcases hat8 with h | h
          · exact .inl h
          · refine .inr (Nat.le_trans ?_ h)
            simp))
        clear hO8 hg8 hown8 hown9 hgrow8 hat8
        go_wp2_with fail
        go_roundw
        case rel => exact ⟨k + 1, _, by omega, by rw [HA.out.2]; go_num, by go_num, HX8⟩
        case measure => simp [intOf]; omega
      · have hkm : k = G := by omega
        subst hkm
        go_wp2_with fail
        refine bodyPost_ret (v := .tuple #[.pointer (some ⟨w2.heap.size, 0, none⟩), .int .i64 0]) (by simp [results, Try.results25, go_sem]) rfl ?_
        obtain ⟨l1, l2, l3, l4⟩ := HW.out.lo
        refine ⟨ls, 0, HU.out, HW.out.below, .inr ⟨rfl, _, _, _, rfl, HW.out.blk, HW.out.own, fun x hx => Nat.le_trans l1 (HW.out.bbase x hx).1, ?_, fun x hx => ?_, Nat.le_trans l1 l2⟩⟩
        · rw [HGG.out]
          exact HW.out.st
        · have := HW.out.sbase x hx
          omega
  · go_wp2_with fail
    refine bodyPost_ret (v := .tuple #[.pointer none, .int .i64 err]) (by simp [results, Try.results25, go_sem]) rfl ?_
    exact ⟨ls, err, HU.out, HB1.out, .inl ⟨herr, rfl⟩⟩

end Go.Proofs.Ytonpdclccgpceaa
