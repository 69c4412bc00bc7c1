/- the generator's writer of sources: its state, variable, bind, mark, reset, leaf -/
import Derived.Test.YtgfhkaamkodpjaaDoorGen2
import Derived.Test.YtgfhkaamkodpjaaDoorSc7
import Derived.Test.YtgfhkaamkodpjaaDoorTree
namespace Go.Proofs.YtgfhkaamkodpjaaDoor
open Go Go.RowKit
set_option maxHeartbeats 4000000

theorem infoStr : (Tryd.prog.info? 9).map (fun i => (i.zero, i.size, i.bytes)) = some (some (.string ByteArray.empty), 1, 16) := by kernel_rfl
theorem wslStr : SlT Tryd.prog 50 9 1 16 := SlT.of Tryd.underlying50 infoStr rfl (by decide)
theorem wslInt : SlT Tryd.prog 23 3 1 8 := SlT.of Tryd.underlying23 infoInt rfl (by decide)



theorem setC_size (w : World) (p : Addr) (v : Value) : (w.setCell p v).heap.size = w.heap.size := by simp [World.setCell]

theorem Blk.newAt {w : World} {t : TypeId} {cs : Array Value} {g : Nat} (hg : g = w.heap.size) : Blk (w.alloc (.cells cs t)) g t cs := by subst hg; exact Blk.new w t cs

/-- A writer at wb with its choices at b: k visible variables, fr fresh names given out. What it may write lies in blocks of R, all of them from B on. -/
structure WrAt (w : World) (B : Nat) (R : Nat → Prop) (b wb : Nat) (A : Option Addr) (n c : Nat) (zs : List Int) (fu : Int) (k fr : Nat) : Prop where
  ch : ∃ i, ChAt w B b A n c zs i
  st : ∃ vn vt ns ts, Blk w wb 60 #[.pointer (some ⟨b, 0, none⟩), vn, vt, .int .i64 fu, .int .i64 fr] ∧ w.ownsRow 0 9 1 vn k (cellsOf scell ns) ∧ w.ownsRow 0 3 1 vt k (cellsOf icell ts) ∧
    (∀ g, vn.ownBlock = some g → R g) ∧ (∀ g, vt.ownBlock = some g → R g) ∧ ∀ s ∈ ns, s.size ≤ 3
  rB : R b
  rW : R wb
  lo : ∀ j, R j → B ≤ j
  new : ∀ j, w.heap.size ≤ j → R j

section
variable {w w' : World} {B b wb n c k fr : Nat} {A : Option Addr} {zs : List Int} {fu : Int} {R S : Nat → Prop}
theorem WrAt.keep (h : WrAt w B R b wb A n c zs fu k fr) (ho : Outside (fun _ => False) w w') : WrAt w' B R b wb A n c zs fu k fr := by
  obtain ⟨i, hi⟩ := h.ch
  obtain ⟨vn, vt, ns, ts, h1, h2, h3, h4⟩ := h.st
  exact ⟨⟨i, hi.below ho.toBelow⟩, ⟨vn, vt, ns, ts, h1.out ho (fun x => x), own_out h2 ho (fun _ _ x => x), own_out h3 ho (fun _ _ x => x), h4⟩, h.rB, h.rW, h.lo, fun j hj => h.new j (Nat.le_trans ho.size hj)⟩
theorem WrAt.alloc (h : WrAt w B R b wb A n c zs fu k fr) (o : Obj) : WrAt (w.alloc o) B R b wb A n c zs fu k fr := h.keep ((Outside.refl _ _).alloc o)
theorem WrAt.drew (h : WrAt w B R b wb A n c zs fu k fr) : WrAt w.drew B R b wb A n c zs fu k fr := h.keep (Outside.refl _ _).drew
theorem WrAt.drewN (h : WrAt w B R b wb A n c zs fu k fr) (m : Nat) : WrAt (w.drewN m) B R b wb A n c zs fu k fr := h.keep ((Outside.refl _ _).drewN m)
theorem WrAt.lit (h : WrAt w B R b wb A n c zs fu k fr) (o : Obj) : WrAt (w.alloc o) B (fun j => R j ∧ j ≠ w.heap.size) b wb A n c zs fu k fr := by
  have h' := h.alloc o
  obtain ⟨i, hi⟩ := h.ch
  obtain ⟨vn, vt, ns, ts, h1, h2, h3, h4, h5, h6⟩ := h.st
  refine ⟨h'.ch, ⟨vn, vt, ns, ts, h1.alloc o, World.ownsRow.alloc h2 o, World.ownsRow.alloc h3 o, fun g hg => ⟨h4 g hg, ?_⟩, fun g hg => ⟨h5 g hg, ?_⟩, h6⟩, ⟨h.rB, ?_⟩, ⟨h.rW, ?_⟩, fun j hj => h.lo j hj.1, fun j hj => ⟨h'.new j hj, ?_⟩⟩
  · have := own_lt h2 hg; omega
  · have := own_lt h3 hg; omega
  · have := hi.blk.lt; omega
  · have := h1.lt; omega
  · simp at hj; omega
theorem WrAt.weak (h : WrAt w B R b wb A n c zs fu k fr) (hs : ∀ j, R j → S j) (hl : ∀ j, S j → B ≤ j) : WrAt w B S b wb A n c zs fu k fr := by
  obtain ⟨vn, vt, ns, ts, h1, h2, h3, h4, h5, h6⟩ := h.st
  exact ⟨h.ch, ⟨vn, vt, ns, ts, h1, h2, h3, fun g hg => hs g (h4 g hg), fun g hg => hs g (h5 g hg), h6⟩, hs b h.rB, hs wb h.rW, hl, fun j hj => hs j (h.new j hj)⟩
theorem WrAt.lt (h : WrAt w B R b wb A n c zs fu k fr) : wb < w.heap.size := by
  obtain ⟨vn, vt, ns, ts, h1, _⟩ := h.st
  exact h1.lt
theorem WrAt.c0 (h : WrAt w B R b wb A n c zs fu k fr) : w.cell? ⟨wb, 0, none⟩ = some (.pointer (some ⟨b, 0, none⟩)) := by
  obtain ⟨vn, vt, ns, ts, h1, _⟩ := h.st
  exact (h1.cell 0).trans rfl
theorem WrAt.next {i : Nat} (h : WrAt w B R b wb A n c zs fu k fr) (hc : ChAt w' B b A n c zs i) (ho : Outside (fun j => j = b) w w') : WrAt w' B R b wb A n c zs fu k fr := by
  obtain ⟨i0, hi⟩ := h.ch
  obtain ⟨vn, vt, ns, ts, h1, h2, h3, h4⟩ := h.st
  exact ⟨⟨i, hc⟩, ⟨vn, vt, ns, ts, h1.out ho (Blk.apart h1 hi.blk (by decide)), own_out h2 ho (fun g hg e => own_apart h2 hi.blk (by decide) (e ▸ hg)), own_out h3 ho (fun g hg e => own_apart h3 hi.blk (by decide) (e ▸ hg)), h4⟩,
    h.rB, h.rW, h.lo, fun j hj => h.new j (Nat.le_trans ho.size hj)⟩
end

theorem own_first {w : World} {e : TypeId} {size n0 n1 : Nat} {An : Option Addr} {cn : Nat} {xs : List Value} (h2 : w.ownsRow 0 e size (.slice An n0 cn) n0 xs) (hle : n1 ≤ n0) : w.ownsRow 0 e size (.slice An n1 cn) n1 (xs.take (n1 * size)) := by
  have hm : n1 * size ≤ n0 * size := Nat.mul_le_mul_right _ hle
  refine ⟨by rw [List.length_take, h2.1]; omega, ?_⟩
  rcases h2.2 with ⟨h, rfl⟩ | ⟨g, cap, cur, h, hb, hh, hn, hm2, hs, ht⟩
  · cases h
    exact .inl ⟨by rw [Nat.le_zero.1 hle], Nat.le_zero.1 hle⟩
  · cases h
    refine .inr ⟨g, cn, cur, rfl, hb, hh, Nat.le_trans hle hn, hm2, hs, ?_⟩
    rw [← ht, List.take_take, Nat.min_eq_left hm]

theorem slOwn {An : Option Addr} {n0 cn g : Nat} (n1 : Nat) (h : (Value.slice An n1 cn).ownBlock = some g) : (Value.slice An n0 cn).ownBlock = some g := by
  cases An <;> exact h
/-- The two lists of a writer while it grows: R0 the blocks that were theirs at the start, w0 the first world. -/
structure Two (w0 w : World) (wb : Nat) (cs : Array Value) (R0 : Nat → Prop) (vn vt : Value) (n m : Nat) (xs ys : List Value) : Prop where
  o : Outside R0 w0 w
  b : Blk w wb 60 cs
  hn : w.ownsRow 0 9 1 vn n xs
  ht : w.ownsRow 0 3 1 vt m ys
  gn : ∀ g, vn.ownBlock = some g → R0 g ∨ w0.heap.size ≤ g
  gt : ∀ g, vt.ownBlock = some g → R0 g ∨ w0.heap.size ≤ g

section
variable {w0 w w' : World} {wb : Nat} {cs : Array Value} {R0 : Nat → Prop} {vn vt : Value} {n m : Nat} {xs ys : List Value}
theorem Two.alloc (h : Two w0 w wb cs R0 vn vt n m xs ys) (o : Obj) : Two w0 (w.alloc o) wb cs R0 vn vt n m xs ys :=
  ⟨h.o.alloc o, h.b.alloc o, World.ownsRow.alloc h.hn o, World.ownsRow.alloc h.ht o, h.gn, h.gt⟩
theorem Two.drew (h : Two w0 w wb cs R0 vn vt n m xs ys) : Two w0 w.drew wb cs R0 vn vt n m xs ys := ⟨h.o.drew, h.b.drew, h.hn.drew, h.ht.drew, h.gn, h.gt⟩
theorem Two.app1 (h : Two w0 w wb cs R0 vn vt n m xs ys) {g8 c8 k : Nat} {news : List Value} (h8 : w'.ownsRow 0 9 1 (.slice (some ⟨g8, 0, none⟩) k c8) k news) (hg : w.grownBy w' vn.ownBlock) (ha : vn.ownBlock = some g8 ∨ w.heap.size ≤ g8) :
    Two w0 w' wb cs R0 (.slice (some ⟨g8, 0, none⟩) k c8) vt k m news ys := by
  have hO : Outside (fun j => vn.ownBlock = some j) w w' := (Outside.refl _ _).grown hg (fun z hz => .inl hz)
  refine ⟨h.o.grown hg h.gn, h.b.out hO (own_apart h.hn h.b (by decide)), h8, own_out h.ht hO (fun g hg2 e => own_apart_own h.hn h.ht (by decide) e hg2), fun g hg2 => ?_, h.gt⟩
  have h1 : g8 = g := by simpa [Value.ownBlock] using hg2
  subst h1
  rcases ha with ha | ha
  · exact h.gn _ ha
  · exact .inr (Nat.le_trans h.o.size ha)
theorem Two.app2 (h : Two w0 w wb cs R0 vn vt n m xs ys) {g8 c8 k : Nat} {news : List Value} (h8 : w'.ownsRow 0 3 1 (.slice (some ⟨g8, 0, none⟩) k c8) k news) (hg : w.grownBy w' vt.ownBlock) (ha : vt.ownBlock = some g8 ∨ w.heap.size ≤ g8) :
    Two w0 w' wb cs R0 vn (.slice (some ⟨g8, 0, none⟩) k c8) n k xs news := by
  have hO : Outside (fun j => vt.ownBlock = some j) w w' := (Outside.refl _ _).grown hg (fun z hz => .inl hz)
  refine ⟨h.o.grown hg h.gt, h.b.out hO (own_apart h.ht h.b (by decide)), own_out h.hn hO (fun g hg2 e => own_apart_own h.hn h.ht (by decide) hg2 e), h8, h.gn, fun g hg2 => ?_⟩
  have h1 : g8 = g := by simpa [Value.ownBlock] using hg2
  subst h1
  rcases ha with ha | ha
  · exact h.gt _ ha
  · exact .inr (Nat.le_trans h.o.size ha)
end

theorem two_done {w w2 : World} {B b wb n c k fr : Nat} {A : Option Addr} {zs : List Int} {fu : Int} {R : Nat → Prop} {vn vt vn' vt' : Value} {ns : List ByteArray} {ts : List Int} {s : ByteArray} {t : Int}
    (h : WrAt w B R b wb A n c zs fu k fr) (hw : Blk w wb 60 #[.pointer (some ⟨b, 0, none⟩), vn, vt, .int .i64 fu, .int .i64 fr]) (hn0 : w.ownsRow 0 9 1 vn k (cellsOf scell ns)) (ht0 : w.ownsRow 0 3 1 vt k (cellsOf icell ts))
    (hn : ∀ g, vn.ownBlock = some g → R g) (ht : ∀ g, vt.ownBlock = some g → R g) (hs : ∀ s ∈ ns, s.size ≤ 3)
    (h2 : Two w w2 wb #[.pointer (some ⟨b, 0, none⟩), vn, vt, .int .i64 fu, .int .i64 ((fr : Int) + 1)] (fun j => j = wb ∨ vn.ownBlock = some j ∨ vt.ownBlock = some j) vn' vt' (k + 1) (k + 1) (cellsOf scell ns ++ [.string s]) (cellsOf icell ts ++ [.int .i64 t])) (hsz : s.size ≤ 3) :
    WrAt ((w2.setCell ⟨wb, 1, none⟩ vn').setCell ⟨wb, 2, none⟩ vt') B R b wb A n c zs fu (k + 1) (fr + 1) ∧ Outside R w ((w2.setCell ⟨wb, 1, none⟩ vn').setCell ⟨wb, 2, none⟩ vt') := by
  have hO2 : Outside (fun j => j = wb ∨ vn.ownBlock = some j ∨ vt.ownBlock = some j) w ((w2.setCell ⟨wb, 1, none⟩ vn').setCell ⟨wb, 2, none⟩ vt') := ((h2.o.setCell (p := ⟨wb, 1, none⟩) (.inl (.inl rfl)) _).setCell (p := ⟨wb, 2, none⟩) (.inl (.inl rfl)) _)
  have hR : ∀ j, (j = wb ∨ vn.ownBlock = some j ∨ vt.ownBlock = some j) → R j := fun j hj => by
    rcases hj with rfl | hj | hj
    · exact h.rW
    · exact hn j hj
    · exact ht j hj
  obtain ⟨i, hi⟩ := h.ch
  have hch := hi.out hO2 (fun e => by
    rcases e with e | e | e
    · exact Blk.apart hi.blk hw (by decide) e
    · exact own_apart hn0 hi.blk (by decide) e
    · exact own_apart ht0 hi.blk (by decide) e) (fun q hq e => by have := h.lo q (hR q e); omega)
  have ho : Outside (fun j => j = wb) w2 ((w2.setCell ⟨wb, 1, none⟩ vn').setCell ⟨wb, 2, none⟩ vt') := ((Outside.refl (fun j => j = wb) w2).setCell (p := ⟨wb, 1, none⟩) (.inl rfl) _).setCell (p := ⟨wb, 2, none⟩) (.inl rfl) _
  refine ⟨⟨⟨i, hch⟩, ⟨vn', vt', ns ++ [s], ts ++ [t], (h2.b.put 1 _).put 2 _, ?_, ?_, fun g hg => ?_, fun g hg => ?_, fun x hx => ?_⟩, h.rB, h.rW, h.lo, fun j hj => h.new j (Nat.le_trans hO2.size hj)⟩, hO2.mono fun j _ => hR j⟩
  · rw [cellsOf_append, cellsOf_one]
    exact own_out h2.hn ho (fun g hg e => own_apart h2.hn h2.b (by decide) (e ▸ hg))
  · rw [cellsOf_append, cellsOf_one]
    exact own_out h2.ht ho (fun g hg e => own_apart h2.ht h2.b (by decide) (e ▸ hg))
  · exact (h2.gn g hg).elim (hR g) (h.new g)
  · exact (h2.gt g hg).elim (hR g) (h.new g)
  · rcases List.mem_append.1 hx with hx | hx
    · exact hs x hx
    · rw [List.mem_singleton.1 hx]; exact hsz

/-- A writer's function gave a string of at most m bytes. -/
def WPost (B : Nat) (R : Nat → Prop) (b wb : Nat) (A : Option Addr) (n c : Nat) (zs : List Int) (fu : Int) (k fr m : Nat) (w : World) (e : Ending) (w' : World) : Prop :=
  ∃ (s : ByteArray) (f : Nat), e = .returned (.string s) ∧ s.size ≤ m ∧ WrAt w' B R b wb A n c zs fu k f ∧ f ≤ fr + m ∧ Outside R w w'

section
variable (B : Nat) (R : Nat → Prop) (b wb : Nat) (A : Option Addr) (n c : Nat) (zs : List Int) (fu : Int) (k fr : Nat) (w : World) (h : WrAt w B R b wb A n c zs fu k fr) (hn : n ≤ 1000000000000)
include h

theorem wnext_any (m : Int) (h1 : 1 ≤ m) (h2 : m ≤ 1000000) (hn : n ≤ 1000000000000) :
    Calls Tryd.prog 28 #[.pointer (some ⟨b, 0, none⟩), .int .i64 m] w fun e w' => (∃ r : Nat, e = .returned (.int .i64 r) ∧ (r : Int) < m) ∧ WrAt w' B R b wb A n c zs fu k fr ∧ Outside R w w' := by
  obtain ⟨i, hi⟩ := h.ch
  refine (next_any B b A n c i zs m w hi hn h1 h2).mono ?_
  rintro e w2 ⟨⟨r, rfl, hr0, hr1⟩, ⟨j, hj, _⟩, ho⟩
  obtain ⟨r, rfl⟩ : ∃ q : Nat, r = q := ⟨r.toNat, by omega⟩
  exact ⟨⟨r, rfl, hr1⟩, h.next hj ho, ho.mono fun j _ e => e ▸ h.rB⟩

theorem mark_any : Calls Tryd.prog 33 #[.pointer (some ⟨wb, 0, none⟩)] w fun e w' => e = .returned (.int .i64 k) ∧ w = w' := by
  obtain ⟨vn, vt, ns, ts, h1, h2, h3, h4⟩ := h.st
  obtain ⟨An, cn, rfl, _⟩ := own_form h2
  have hc := h1.cell
  have hl := h1.lt
  clear h h1 h2 h3 h4
  go_enter Tryd.func33, Tryd.ntmps33
  go_wp2
  go_ret
  exact ⟨ret_int rfl, rfl⟩


theorem reset_any (k0 : Nat) (hk0 : k0 ≤ k) (_hk : k ≤ 100000) : Calls Tryd.prog 36 #[.pointer (some ⟨wb, 0, none⟩), .int .i64 k0] w fun e w' => e = .returned (.tuple #[]) ∧ WrAt w' B R b wb A n c zs fu k0 fr ∧ Outside R w w' := by
  obtain ⟨i, hi⟩ := h.ch
  obtain ⟨vn, vt, ns, ts, h1, h2, h3, h4, h5, h6⟩ := h.st
  obtain ⟨An, cn, rfl, hcn, hcm⟩ := own_form h2
  obtain ⟨At, ct, rfl, hct, hcm2⟩ := own_form h3
  have hc := h1.cell
  have hl := h1.lt
  have hf := h1.frozen
  have HH := Lib.hid h
  have HI := Lib.hid hi
  have H1 := Lib.hid h1
  have H2 := Lib.hid h2
  have H3 := Lib.hid h3
  have H4 := Lib.hid h4
  have H5 := Lib.hid h5
  have H6 := Lib.hid h6
  clear h h1 h2 h3 h4 h5 h6 hi
  have hk1 : k0 ≤ cn := Nat.le_trans hk0 hcn
  have hk2 : k0 ≤ ct := Nat.le_trans hk0 hct
  go_enter Tryd.func36, Tryd.ntmps36
  go_wp2_with (first | ((with_reducible show wpPlan _ _ _ _ _ (Act.put _ _ _) _); simp only [List.getElem_toArray, List.getElem_cons_succ, List.getElem_cons_zero, Act.put, List.setIfInBounds_toArray, List.set_cons_zero, List.set_cons_succ]) | ((with_reducible show wpPlan _ _ _ _ _ _ _); first | refine wpPlan_nil ?_ | (refine wpPlan_read0 rfl ?hw rfl (fun _ _ _ => ?_); case hw => ((conv => (lhs; whnf)); first | done | with_reducible rfl)) | (refine wpPlan_read1d rfl ?hw rfl rfl (fun _ _ _ => ?_); case hw => ((conv => (lhs; whnf)); first | done | with_reducible rfl)) | (refine wpPlan_eff rfl ?hw (fun _ _ => ?_); case hw => ((conv => (lhs; whnf)); first | done | with_reducible rfl)) | (refine wpPlan_skip0 rfl ?hw ?_; case hw => ((conv => (lhs; whnf)); first | done | with_reducible rfl)) | (refine wpPlan_skip1d rfl ?hw ?_; case hw => ((conv => (lhs; whnf)); first | done | with_reducible rfl)) | (refine wpPlan_skip2 rfl ?hw ?_; case hw => ((conv => (lhs; whnf)); first | done | with_reducible rfl)) | (refine wpPlan_read1 rfl ?hw rfl (fun _ _ _ => ?_); case hw => ((conv => (lhs; whnf)); first | done | with_reducible rfl)) | refine wpPlan_fork ?_ ?_) | ((with_reducible show Owed _ _ _ _ _ _ _ _ _); first | refine Owed.none_ ?_ | refine Owed.nil_ ?_ | refine Owed.miss rfl ?_ | refine Owed.hit ?_ ?_) | ((with_reducible show Same _ _ _ _ _); intro _; go_simp; done) | (with_reducible exact True.intro) | ((with_reducible show Code.wp _ (Code.region 0 _ true) _ _ _); refine wp_region_plan [(0, 0, []), (1, 0, []), (2, 0, []), (3, 1, []), (4, 1, []), (5, 1, []), (6, 0, []), (7, 1, []), (8, 0, []), (9, 1, []), (10, 1, []), (11, 1, []), (12, 0, []), (13, 1, []), (14, 1, []), (15, 1, []), (16, 2, [13]), (17, 1, []), (18, 1, []), (19, 2, [])] (by kernel_rfl) (by kernel_rfl) (by kernel_rfl) ?_))
  go_end0
  have hne1 := own_apart H2.out H1.out (by decide)
  have hne2 := own_apart H3.out H1.out (by decide)
  have hO : Outside (fun j => j = wb) w (((w.setCell ⟨wb, 1, none⟩ (.slice An k0 cn)).setCell ⟨wb, 2, none⟩ (.slice At k0 ct)).drew) := (((Outside.refl (fun j => j = wb) w).setCell (p := ⟨wb, 1, none⟩) (.inl rfl) _).setCell (p := ⟨wb, 2, none⟩) (.inl rfl) _).drew
  have hcb : ¬ b = wb := Blk.apart HI.out.blk H1.out (by decide)
  have hlo := HH.out.lo wb HH.out.rW
  refine ⟨rfl, ⟨⟨i, HI.out.out hO hcb (fun q hq e => by omega)⟩, ⟨_, _, ns.take k0, ts.take k0, ((H1.out.put 1 _).put 2 _).drew, ?_, ?_, fun g hg => H4.out g (slOwn k0 hg), fun g hg => H5.out g (slOwn k0 hg), fun s hs => H6.out s (List.mem_of_mem_take hs)⟩, HH.out.rB, HH.out.rW, HH.out.lo, fun j hj => HH.out.new j (Nat.le_trans hO.size hj)⟩, hO.mono fun j _ e => e ▸ HH.out.rW⟩
  · rw [cellsOf_take scell_len]
    exact own_first (own_out H2.out hO (fun g hg e => hne1 (e ▸ hg))) hk0
  · rw [cellsOf_take icell_len]
    exact own_first (own_out H3.out hO (fun g hg e => hne2 (e ▸ hg))) hk0

theorem bind_any (t : Int) (hk : k ≤ 100000) (hfr : fr ≤ 1000000) : Calls Tryd.prog 34 #[.pointer (some ⟨wb, 0, none⟩), .int .i64 t] w fun e w' => (∃ s : ByteArray, e = .returned (.string s) ∧ s.size ≤ 3) ∧ WrAt w' B R b wb A n c zs fu (k + 1) (fr + 1) ∧ Outside R w w' := by
  obtain ⟨i, hi⟩ := h.ch
  obtain ⟨vn, vt, ns, ts, h1, h2, h3, h4, h5, h6⟩ := h.st
  obtain ⟨An, cn, rfl, hcn, hcm⟩ := own_form h2
  obtain ⟨At, ct, rfl, hct, hcm2⟩ := own_form h3
  have hc := h1.cell
  have hl := h1.lt
  have hf := h1.frozen
  have HH := Lib.hid h
  have HI := Lib.hid hi
  have H1 := Lib.hid h1
  have H2 := Lib.hid h2
  have H3 := Lib.hid h3
  have H4 := Lib.hid h4
  have H5 := Lib.hid h5
  have H6 := Lib.hid h6
  clear h h1 h2 h3 h4 h5 h6 hi
  go_enter Tryd.func34, Tryd.ntmps34
  go_wp2_with (first | ((with_reducible show wpTree _ _ _ _ _ (Act.put _ _ _) _); simp only [List.getElem_toArray, List.getElem_cons_succ, List.getElem_cons_zero, Act.put, List.setIfInBounds_toArray, List.set_cons_zero, List.set_cons_succ]) | ((with_reducible show wpTree _ _ _ _ _ _ _); first | refine wpTree_line ?_ | refine wpTree_alt ?_ ?_ | (refine wpTree_read0 rfl ?hw rfl (fun _ _ _ => ?_); case hw => ((conv => (lhs; whnf)); first | done | with_reducible rfl)) | (refine wpTree_read1 rfl ?hw rfl (fun _ _ _ => ?_); case hw => ((conv => (lhs; whnf)); first | done | with_reducible rfl)) | (refine wpTree_eff rfl ?hw (fun _ _ => ?_); case hw => ((conv => (lhs; whnf)); first | done | with_reducible rfl)) | (refine wpTree_skip0 rfl ?hw ?_; case hw => ((conv => (lhs; whnf)); first | done | with_reducible rfl)) | (refine wpTree_skip1 rfl ?hw ?_; case hw => ((conv => (lhs; whnf)); first | done | with_reducible rfl)) | (refine wpTree_skip2 rfl ?hw ?_; case hw => ((conv => (lhs; whnf)); first | done | with_reducible rfl))) | ((with_reducible show OwedT _ _ _ _ _ _ _ _ _); first | refine OwedT.none_ ?_ | refine OwedT.nil_ ?_ | refine OwedT.miss rfl ?_ | refine OwedT.hit ?_ ?_) | ((with_reducible show wpPlan _ _ _ _ _ (Act.put _ _ _) _); simp only [List.getElem_toArray, List.getElem_cons_succ, List.getElem_cons_zero, Act.put, List.setIfInBounds_toArray, List.set_cons_zero, List.set_cons_succ]) | ((with_reducible show wpPlan _ _ _ _ _ _ _); first | refine wpPlan_nil ?_ | (refine wpPlan_read0 rfl ?hw rfl (fun _ _ _ => ?_); case hw => ((conv => (lhs; whnf)); first | done | with_reducible rfl)) | (refine wpPlan_read1d rfl ?hw rfl rfl (fun _ _ _ => ?_); case hw => ((conv => (lhs; whnf)); first | done | with_reducible rfl)) | (refine wpPlan_eff rfl ?hw (fun _ _ => ?_); case hw => ((conv => (lhs; whnf)); first | done | with_reducible rfl)) | (refine wpPlan_skip0 rfl ?hw ?_; case hw => ((conv => (lhs; whnf)); first | done | with_reducible rfl)) | (refine wpPlan_skip1d rfl ?hw ?_; case hw => ((conv => (lhs; whnf)); first | done | with_reducible rfl)) | (refine wpPlan_skip2 rfl ?hw ?_; case hw => ((conv => (lhs; whnf)); first | done | with_reducible rfl)) | (refine wpPlan_read1 rfl ?hw rfl (fun _ _ _ => ?_); case hw => ((conv => (lhs; whnf)); first | done | with_reducible rfl)) | refine wpPlan_fork ?_ ?_) | ((with_reducible show Owed _ _ _ _ _ _ _ _ _); first | refine Owed.none_ ?_ | refine Owed.nil_ ?_ | refine Owed.miss rfl ?_ | refine Owed.hit ?_ ?_) | ((with_reducible show Same _ _ _ _ _); intro _; go_simp; done) | (with_reducible exact True.intro) | ((with_reducible show Code.wp _ (Code.region 2 _ true) _ _ _); refine wp_region_plan [(0, 0, []), (1, 1, []), (2, 1, []), (3, 1, []), (4, 1, []), (7, 0, []), (8, 1, []), (9, 1, []), (10, 1, []), (5, 2, [8, 9, 10]), (6, 1, []), (11, 2, [6]), (12, 1, []), (13, 0, [])] (by kernel_rfl) (by kernel_rfl) (by kernel_rfl) ?_) | ((with_reducible show Code.wp _ (Code.region 3 _ true) _ _ _); refine wp_region_tree (Tree.read 0 0 (Tree.read 1 0 (Tree.read 2 0 (Tree.read 3 1 (Tree.read 4 1 (Tree.read 5 1 (Tree.read 6 0 (Tree.read 9 0 (Tree.read 10 1 (Tree.read 11 1 (Tree.read 12 1 (Tree.read 13 0 (Tree.alt (Tree.eff 7 [3, 4, 5, 10, 11, 12] (Tree.alt (Tree.eff 8 [10, 11, 12] (Tree.line [(14, 2, [3, 4, 5, 10, 11, 12]), (15, 2, []), (16, 1, []), (17, 1, []), (18, 2, []), (19, 1, []), (20, 1, []), (21, 2, [])])) (Tree.eff 14 [3, 4, 5, 10, 11, 12] (Tree.line [(8, 2, [10, 11, 12]), (15, 2, []), (16, 1, []), (17, 1, []), (18, 2, []), (19, 1, []), (20, 1, []), (21, 2, [])])))) (Tree.eff 14 [3, 4, 5, 10, 11, 12] (Tree.line [(7, 2, [3, 4, 5, 10, 11, 12]), (8, 2, [10, 11, 12]), (15, 2, []), (16, 1, []), (17, 1, []), (18, 2, []), (19, 1, []), (20, 1, []), (21, 2, [])]))))))))))))))) (by kernel_rfl) (by kernel_rfl) (by kernel_rfl) ?_))
  refine (gdigit_any _ _ (by omega) (by omega)).mono ?_
  rintro e w2 ⟨⟨s1, rfl, hs1⟩, rfl⟩
  go_wp2_with (first | ((with_reducible show wpTree _ _ _ _ _ (Act.put _ _ _) _); simp only [List.getElem_toArray, List.getElem_cons_succ, List.getElem_cons_zero, Act.put, List.setIfInBounds_toArray, List.set_cons_zero, List.set_cons_succ]) | ((with_reducible show wpTree _ _ _ _ _ _ _); first | refine wpTree_line ?_ | refine wpTree_alt ?_ ?_ | (refine wpTree_read0 rfl ?hw rfl (fun _ _ _ => ?_); case hw => ((conv => (lhs; whnf)); first | done | with_reducible rfl)) | (refine wpTree_read1 rfl ?hw rfl (fun _ _ _ => ?_); case hw => ((conv => (lhs; whnf)); first | done | with_reducible rfl)) | (refine wpTree_eff rfl ?hw (fun _ _ => ?_); case hw => ((conv => (lhs; whnf)); first | done | with_reducible rfl)) | (refine wpTree_skip0 rfl ?hw ?_; case hw => ((conv => (lhs; whnf)); first | done | with_reducible rfl)) | (refine wpTree_skip1 rfl ?hw ?_; case hw => ((conv => (lhs; whnf)); first | done | with_reducible rfl)) | (refine wpTree_skip2 rfl ?hw ?_; case hw => ((conv => (lhs; whnf)); first | done | with_reducible rfl))) | ((with_reducible show OwedT _ _ _ _ _ _ _ _ _); first | refine OwedT.none_ ?_ | refine OwedT.nil_ ?_ | refine OwedT.miss rfl ?_ | refine OwedT.hit ?_ ?_) | ((with_reducible show wpPlan _ _ _ _ _ (Act.put _ _ _) _); simp only [List.getElem_toArray, List.getElem_cons_succ, List.getElem_cons_zero, Act.put, List.setIfInBounds_toArray, List.set_cons_zero, List.set_cons_succ]) | ((with_reducible show wpPlan _ _ _ _ _ _ _); first | refine wpPlan_nil ?_ | (refine wpPlan_read0 rfl ?hw rfl (fun _ _ _ => ?_); case hw => ((conv => (lhs; whnf)); first | done | with_reducible rfl)) | (refine wpPlan_read1d rfl ?hw rfl rfl (fun _ _ _ => ?_); case hw => ((conv => (lhs; whnf)); first | done | with_reducible rfl)) | (refine wpPlan_eff rfl ?hw (fun _ _ => ?_); case hw => ((conv => (lhs; whnf)); first | done | with_reducible rfl)) | (refine wpPlan_skip0 rfl ?hw ?_; case hw => ((conv => (lhs; whnf)); first | done | with_reducible rfl)) | (refine wpPlan_skip1d rfl ?hw ?_; case hw => ((conv => (lhs; whnf)); first | done | with_reducible rfl)) | (refine wpPlan_skip2 rfl ?hw ?_; case hw => ((conv => (lhs; whnf)); first | done | with_reducible rfl)) | (refine wpPlan_read1 rfl ?hw rfl (fun _ _ _ => ?_); case hw => ((conv => (lhs; whnf)); first | done | with_reducible rfl)) | refine wpPlan_fork ?_ ?_) | ((with_reducible show Owed _ _ _ _ _ _ _ _ _); first | refine Owed.none_ ?_ | refine Owed.nil_ ?_ | refine Owed.miss rfl ?_ | refine Owed.hit ?_ ?_) | ((with_reducible show Same _ _ _ _ _); intro _; go_simp; done) | (with_reducible exact True.intro) | ((with_reducible show Code.wp _ (Code.region 2 _ true) _ _ _); refine wp_region_plan [(0, 0, []), (1, 1, []), (2, 1, []), (3, 1, []), (4, 1, []), (7, 0, []), (8, 1, []), (9, 1, []), (10, 1, []), (5, 2, [8, 9, 10]), (6, 1, []), (11, 2, [6]), (12, 1, []), (13, 0, [])] (by kernel_rfl) (by kernel_rfl) (by kernel_rfl) ?_) | ((with_reducible show Code.wp _ (Code.region 3 _ true) _ _ _); refine wp_region_tree (Tree.read 0 0 (Tree.read 1 0 (Tree.read 2 0 (Tree.read 3 1 (Tree.read 4 1 (Tree.read 5 1 (Tree.read 6 0 (Tree.read 9 0 (Tree.read 10 1 (Tree.read 11 1 (Tree.read 12 1 (Tree.read 13 0 (Tree.alt (Tree.eff 7 [3, 4, 5, 10, 11, 12] (Tree.alt (Tree.eff 8 [10, 11, 12] (Tree.line [(14, 2, [3, 4, 5, 10, 11, 12]), (15, 2, []), (16, 1, []), (17, 1, []), (18, 2, []), (19, 1, []), (20, 1, []), (21, 2, [])])) (Tree.eff 14 [3, 4, 5, 10, 11, 12] (Tree.line [(8, 2, [10, 11, 12]), (15, 2, []), (16, 1, []), (17, 1, []), (18, 2, []), (19, 1, []), (20, 1, []), (21, 2, [])])))) (Tree.eff 14 [3, 4, 5, 10, 11, 12] (Tree.line [(7, 2, [3, 4, 5, 10, 11, 12]), (8, 2, [10, 11, 12]), (15, 2, []), (16, 1, []), (17, 1, []), (18, 2, []), (19, 1, []), (20, 1, []), (21, 2, [])]))))))))))))))) (by kernel_rfl) (by kernel_rfl) (by kernel_rfl) ?_))
  refine (gdigit_any _ _ (by omega) (by omega)).mono ?_
  rintro e w2 ⟨⟨s2, rfl, hs2⟩, rfl⟩
  have hss : (({ data := #[118] } : ByteArray) ++ s1 ++ s2).size ≤ 3 := by simp [ByteArray.size_append, lit_size]; omega
  have HT := Lib.hid (show Two w (w.setCell ⟨wb, 4, none⟩ (.int .i64 ((fr : Int) + 1))) wb #[.pointer (some ⟨b, 0, none⟩), .slice An k cn, .slice At k ct, .int .i64 fu, .int .i64 ((fr : Int) + 1)] (fun j => j = wb ∨ (Value.slice An k cn).ownBlock = some j ∨ (Value.slice At k ct).ownBlock = some j) (.slice An k cn) (.slice At k ct) k k (cellsOf scell ns) (cellsOf icell ts) from
    ⟨(Outside.refl (fun j => j = wb ∨ (Value.slice An k cn).ownBlock = some j ∨ (Value.slice At k ct).ownBlock = some j) w).setCell (p := ⟨wb, 4, none⟩) (.inl (.inl rfl)) _, H1.out.put 4 _, own_setCell H2.out (p := ⟨wb, 4, none⟩) (own_apart H2.out H1.out (by decide)) _, own_setCell H3.out (p := ⟨wb, 4, none⟩) (own_apart H3.out H1.out (by decide)) _, fun g hg => .inl (.inr (.inl hg)), fun g hg => .inl (.inr (.inr hg))⟩)
  go_wp2_with (first | ((with_reducible show wpTree _ _ _ (Tree.eff 8 _ _) _ _ _); refine wpTree_eff rfl rfl (fun _ hK => ?_); refine Hid.out ?_) | ((with_reducible show wpPlan _ _ _ ((8, 2, _) :: _) _ _ _); refine wpPlan_eff rfl rfl (fun _ hK => ?_); refine Hid.out ?_) | ((with_reducible show wpTree _ _ _ _ _ (Act.put _ _ _) _); simp only [List.getElem_toArray, List.getElem_cons_succ, List.getElem_cons_zero, Act.put, List.setIfInBounds_toArray, List.set_cons_zero, List.set_cons_succ]) | ((with_reducible show wpTree _ _ _ _ _ _ _); first | refine wpTree_line ?_ | refine wpTree_alt ?_ ?_ | (refine wpTree_read0 rfl ?hw rfl (fun _ _ _ => ?_); case hw => ((conv => (lhs; whnf)); first | done | with_reducible rfl)) | (refine wpTree_read1 rfl ?hw rfl (fun _ _ _ => ?_); case hw => ((conv => (lhs; whnf)); first | done | with_reducible rfl)) | (refine wpTree_eff rfl ?hw (fun _ _ => ?_); case hw => ((conv => (lhs; whnf)); first | done | with_reducible rfl)) | (refine wpTree_skip0 rfl ?hw ?_; case hw => ((conv => (lhs; whnf)); first | done | with_reducible rfl)) | (refine wpTree_skip1 rfl ?hw ?_; case hw => ((conv => (lhs; whnf)); first | done | with_reducible rfl)) | (refine wpTree_skip2 rfl ?hw ?_; case hw => ((conv => (lhs; whnf)); first | done | with_reducible rfl))) | ((with_reducible show OwedT _ _ _ _ _ _ _ _ _); first | refine OwedT.none_ ?_ | refine OwedT.nil_ ?_ | refine OwedT.miss rfl ?_ | refine OwedT.hit ?_ ?_) | ((with_reducible show wpPlan _ _ _ _ _ (Act.put _ _ _) _); simp only [List.getElem_toArray, List.getElem_cons_succ, List.getElem_cons_zero, Act.put, List.setIfInBounds_toArray, List.set_cons_zero, List.set_cons_succ]) | ((with_reducible show wpPlan _ _ _ _ _ _ _); first | refine wpPlan_nil ?_ | (refine wpPlan_read0 rfl ?hw rfl (fun _ _ _ => ?_); case hw => ((conv => (lhs; whnf)); first | done | with_reducible rfl)) | (refine wpPlan_read1d rfl ?hw rfl rfl (fun _ _ _ => ?_); case hw => ((conv => (lhs; whnf)); first | done | with_reducible rfl)) | (refine wpPlan_eff rfl ?hw (fun _ _ => ?_); case hw => ((conv => (lhs; whnf)); first | done | with_reducible rfl)) | (refine wpPlan_skip0 rfl ?hw ?_; case hw => ((conv => (lhs; whnf)); first | done | with_reducible rfl)) | (refine wpPlan_skip1d rfl ?hw ?_; case hw => ((conv => (lhs; whnf)); first | done | with_reducible rfl)) | (refine wpPlan_skip2 rfl ?hw ?_; case hw => ((conv => (lhs; whnf)); first | done | with_reducible rfl)) | (refine wpPlan_read1 rfl ?hw rfl (fun _ _ _ => ?_); case hw => ((conv => (lhs; whnf)); first | done | with_reducible rfl)) | refine wpPlan_fork ?_ ?_) | ((with_reducible show Owed _ _ _ _ _ _ _ _ _); first | refine Owed.none_ ?_ | refine Owed.nil_ ?_ | refine Owed.miss rfl ?_ | refine Owed.hit ?_ ?_) | ((with_reducible show Same _ _ _ _ _); intro _; go_simp; done) | (with_reducible exact True.intro) | ((with_reducible show Code.wp _ (Code.region 2 _ true) _ _ _); refine wp_region_plan [(0, 0, []), (1, 1, []), (2, 1, []), (3, 1, []), (4, 1, []), (7, 0, []), (8, 1, []), (9, 1, []), (10, 1, []), (5, 2, [8, 9, 10]), (6, 1, []), (11, 2, [6]), (12, 1, []), (13, 0, [])] (by kernel_rfl) (by kernel_rfl) (by kernel_rfl) ?_) | ((with_reducible show Code.wp _ (Code.region 3 _ true) _ _ _); refine wp_region_tree (Tree.read 0 0 (Tree.read 1 0 (Tree.read 2 0 (Tree.read 3 1 (Tree.read 4 1 (Tree.read 5 1 (Tree.read 6 0 (Tree.read 9 0 (Tree.read 10 1 (Tree.read 11 1 (Tree.read 12 1 (Tree.read 13 0 (Tree.alt (Tree.eff 7 [3, 4, 5, 10, 11, 12] (Tree.alt (Tree.eff 8 [10, 11, 12] (Tree.line [(14, 2, [3, 4, 5, 10, 11, 12]), (15, 2, []), (16, 1, []), (17, 1, []), (18, 2, []), (19, 1, []), (20, 1, []), (21, 2, [])])) (Tree.eff 14 [3, 4, 5, 10, 11, 12] (Tree.line [(8, 2, [10, 11, 12]), (15, 2, []), (16, 1, []), (17, 1, []), (18, 2, []), (19, 1, []), (20, 1, []), (21, 2, [])])))) (Tree.eff 14 [3, 4, 5, 10, 11, 12] (Tree.line [(7, 2, [3, 4, 5, 10, 11, 12]), (8, 2, [10, 11, 12]), (15, 2, []), (16, 1, []), (17, 1, []), (18, 2, []), (19, 1, []), (20, 1, []), (21, 2, [])]))))))))))))))) (by kernel_rfl) (by kernel_rfl) (by kernel_rfl) ?_))
  · refine Lib.hid ?_
    have H8 := Lib.hid ((HT.out.alloc (.cells (scell (({ data := #[118] } : ByteArray) ++ s1 ++ s2)).toArray 9)).drew.drew)
    have HBK := (Blk.newAt (w := (w.setCell ⟨wb, 4, none⟩ (.int .i64 ((fr : Int) + 1)))) (t := 9) (cs := (scell (({ data := #[118] } : ByteArray) ++ s1 ++ s2)).toArray) (g := w.heap.size) (by simp [World.setCell])).drew.drew
    refine app_blk wslStr rfl H8.out.hn rfl HBK (by rfl) (by rfl) (by simp [scell, Value.oneCell']) (by decide) (by unfold maxLen; omega) (by omega) ?_
    clear HBK
    intro g8 c8 w8 hown8 hgrow8 hat8
    have H9 := Lib.hid (H8.out.app1 hown8 hgrow8 hat8)
    have hc8 := H9.out.b.cell
    have hl8 := H9.out.b.lt
    clear hown8 hgrow8 hat8
    refine hK _ _ ?_
    go_wp2_with (first | ((with_reducible show wpTree _ _ _ (Tree.eff 15 _ _) _ _ _); refine wpTree_eff rfl rfl (fun _ hK => ?_); refine Hid.out ?_) | ((with_reducible show wpPlan _ _ _ ((15, 2, _) :: _) _ _ _); refine wpPlan_eff rfl rfl (fun _ hK => ?_); refine Hid.out ?_) | ((with_reducible show wpTree _ _ _ _ _ (Act.put _ _ _) _); simp only [List.getElem_toArray, List.getElem_cons_succ, List.getElem_cons_zero, Act.put, List.setIfInBounds_toArray, List.set_cons_zero, List.set_cons_succ]) | ((with_reducible show wpTree _ _ _ _ _ _ _); first | refine wpTree_line ?_ | refine wpTree_alt ?_ ?_ | (refine wpTree_read0 rfl ?hw rfl (fun _ _ _ => ?_); case hw => ((conv => (lhs; whnf)); first | done | with_reducible rfl)) | (refine wpTree_read1 rfl ?hw rfl (fun _ _ _ => ?_); case hw => ((conv => (lhs; whnf)); first | done | with_reducible rfl)) | (refine wpTree_eff rfl ?hw (fun _ _ => ?_); case hw => ((conv => (lhs; whnf)); first | done | with_reducible rfl)) | (refine wpTree_skip0 rfl ?hw ?_; case hw => ((conv => (lhs; whnf)); first | done | with_reducible rfl)) | (refine wpTree_skip1 rfl ?hw ?_; case hw => ((conv => (lhs; whnf)); first | done | with_reducible rfl)) | (refine wpTree_skip2 rfl ?hw ?_; case hw => ((conv => (lhs; whnf)); first | done | with_reducible rfl))) | ((with_reducible show OwedT _ _ _ _ _ _ _ _ _); first | refine OwedT.none_ ?_ | refine OwedT.nil_ ?_ | refine OwedT.miss rfl ?_ | refine OwedT.hit ?_ ?_) | ((with_reducible show wpPlan _ _ _ _ _ (Act.put _ _ _) _); simp only [List.getElem_toArray, List.getElem_cons_succ, List.getElem_cons_zero, Act.put, List.setIfInBounds_toArray, List.set_cons_zero, List.set_cons_succ]) | ((with_reducible show wpPlan _ _ _ _ _ _ _); first | refine wpPlan_nil ?_ | (refine wpPlan_read0 rfl ?hw rfl (fun _ _ _ => ?_); case hw => ((conv => (lhs; whnf)); first | done | with_reducible rfl)) | (refine wpPlan_read1d rfl ?hw rfl rfl (fun _ _ _ => ?_); case hw => ((conv => (lhs; whnf)); first | done | with_reducible rfl)) | (refine wpPlan_eff rfl ?hw (fun _ _ => ?_); case hw => ((conv => (lhs; whnf)); first | done | with_reducible rfl)) | (refine wpPlan_skip0 rfl ?hw ?_; case hw => ((conv => (lhs; whnf)); first | done | with_reducible rfl)) | (refine wpPlan_skip1d rfl ?hw ?_; case hw => ((conv => (lhs; whnf)); first | done | with_reducible rfl)) | (refine wpPlan_skip2 rfl ?hw ?_; case hw => ((conv => (lhs; whnf)); first | done | with_reducible rfl)) | (refine wpPlan_read1 rfl ?hw rfl (fun _ _ _ => ?_); case hw => ((conv => (lhs; whnf)); first | done | with_reducible rfl)) | refine wpPlan_fork ?_ ?_) | ((with_reducible show Owed _ _ _ _ _ _ _ _ _); first | refine Owed.none_ ?_ | refine Owed.nil_ ?_ | refine Owed.miss rfl ?_ | refine Owed.hit ?_ ?_) | ((with_reducible show Same _ _ _ _ _); intro _; go_simp; done) | (with_reducible exact True.intro) | ((with_reducible show Code.wp _ (Code.region 2 _ true) _ _ _); refine wp_region_plan [(0, 0, []), (1, 1, []), (2, 1, []), (3, 1, []), (4, 1, []), (7, 0, []), (8, 1, []), (9, 1, []), (10, 1, []), (5, 2, [8, 9, 10]), (6, 1, []), (11, 2, [6]), (12, 1, []), (13, 0, [])] (by kernel_rfl) (by kernel_rfl) (by kernel_rfl) ?_) | ((with_reducible show Code.wp _ (Code.region 3 _ true) _ _ _); refine wp_region_tree (Tree.read 0 0 (Tree.read 1 0 (Tree.read 2 0 (Tree.read 3 1 (Tree.read 4 1 (Tree.read 5 1 (Tree.read 6 0 (Tree.read 9 0 (Tree.read 10 1 (Tree.read 11 1 (Tree.read 12 1 (Tree.read 13 0 (Tree.alt (Tree.eff 7 [3, 4, 5, 10, 11, 12] (Tree.alt (Tree.eff 8 [10, 11, 12] (Tree.line [(14, 2, [3, 4, 5, 10, 11, 12]), (15, 2, []), (16, 1, []), (17, 1, []), (18, 2, []), (19, 1, []), (20, 1, []), (21, 2, [])])) (Tree.eff 14 [3, 4, 5, 10, 11, 12] (Tree.line [(8, 2, [10, 11, 12]), (15, 2, []), (16, 1, []), (17, 1, []), (18, 2, []), (19, 1, []), (20, 1, []), (21, 2, [])])))) (Tree.eff 14 [3, 4, 5, 10, 11, 12] (Tree.line [(7, 2, [3, 4, 5, 10, 11, 12]), (8, 2, [10, 11, 12]), (15, 2, []), (16, 1, []), (17, 1, []), (18, 2, []), (19, 1, []), (20, 1, []), (21, 2, [])]))))))))))))))) (by kernel_rfl) (by kernel_rfl) (by kernel_rfl) ?_))
    refine Lib.hid ?_
    have H15 := Lib.hid (H9.out.alloc (.cells (icell t).toArray 3))
    have HBK := (Blk.new w8 3 (icell t).toArray)
    refine app_blk wslInt rfl H15.out.ht rfl HBK (by rfl) (by rfl) (by simp [icell, Value.oneCell']) (by decide) (by unfold maxLen; omega) (by omega) ?_
    clear HBK
    intro g9 c9 w9 hown9 hgrow9 hat9
    clear hc8 hl8
    have H16 := Lib.hid (H15.out.app2 hown9 hgrow9 hat9)
    clear hown9 hgrow9 hat9
    have hc9 := H16.out.b.cell
    have hl9 := H16.out.b.lt
    have hf9 := H16.out.b.frozen
    refine hK _ _ ?_
    go_wp2_with (first | ((with_reducible show wpTree _ _ _ _ _ (Act.put _ _ _) _); simp only [List.getElem_toArray, List.getElem_cons_succ, List.getElem_cons_zero, Act.put, List.setIfInBounds_toArray, List.set_cons_zero, List.set_cons_succ]) | ((with_reducible show wpTree _ _ _ _ _ _ _); first | refine wpTree_line ?_ | refine wpTree_alt ?_ ?_ | (refine wpTree_read0 rfl ?hw rfl (fun _ _ _ => ?_); case hw => ((conv => (lhs; whnf)); first | done | with_reducible rfl)) | (refine wpTree_read1 rfl ?hw rfl (fun _ _ _ => ?_); case hw => ((conv => (lhs; whnf)); first | done | with_reducible rfl)) | (refine wpTree_eff rfl ?hw (fun _ _ => ?_); case hw => ((conv => (lhs; whnf)); first | done | with_reducible rfl)) | (refine wpTree_skip0 rfl ?hw ?_; case hw => ((conv => (lhs; whnf)); first | done | with_reducible rfl)) | (refine wpTree_skip1 rfl ?hw ?_; case hw => ((conv => (lhs; whnf)); first | done | with_reducible rfl)) | (refine wpTree_skip2 rfl ?hw ?_; case hw => ((conv => (lhs; whnf)); first | done | with_reducible rfl))) | ((with_reducible show OwedT _ _ _ _ _ _ _ _ _); first | refine OwedT.none_ ?_ | refine OwedT.nil_ ?_ | refine OwedT.miss rfl ?_ | refine OwedT.hit ?_ ?_) | ((with_reducible show wpPlan _ _ _ _ _ (Act.put _ _ _) _); simp only [List.getElem_toArray, List.getElem_cons_succ, List.getElem_cons_zero, Act.put, List.setIfInBounds_toArray, List.set_cons_zero, List.set_cons_succ]) | ((with_reducible show wpPlan _ _ _ _ _ _ _); first | refine wpPlan_nil ?_ | (refine wpPlan_read0 rfl ?hw rfl (fun _ _ _ => ?_); case hw => ((conv => (lhs; whnf)); first | done | with_reducible rfl)) | (refine wpPlan_read1d rfl ?hw rfl rfl (fun _ _ _ => ?_); case hw => ((conv => (lhs; whnf)); first | done | with_reducible rfl)) | (refine wpPlan_eff rfl ?hw (fun _ _ => ?_); case hw => ((conv => (lhs; whnf)); first | done | with_reducible rfl)) | (refine wpPlan_skip0 rfl ?hw ?_; case hw => ((conv => (lhs; whnf)); first | done | with_reducible rfl)) | (refine wpPlan_skip1d rfl ?hw ?_; case hw => ((conv => (lhs; whnf)); first | done | with_reducible rfl)) | (refine wpPlan_skip2 rfl ?hw ?_; case hw => ((conv => (lhs; whnf)); first | done | with_reducible rfl)) | (refine wpPlan_read1 rfl ?hw rfl (fun _ _ _ => ?_); case hw => ((conv => (lhs; whnf)); first | done | with_reducible rfl)) | refine wpPlan_fork ?_ ?_) | ((with_reducible show Owed _ _ _ _ _ _ _ _ _); first | refine Owed.none_ ?_ | refine Owed.nil_ ?_ | refine Owed.miss rfl ?_ | refine Owed.hit ?_ ?_) | ((with_reducible show Same _ _ _ _ _); intro _; go_simp; done) | (with_reducible exact True.intro) | ((with_reducible show Code.wp _ (Code.region 2 _ true) _ _ _); refine wp_region_plan [(0, 0, []), (1, 1, []), (2, 1, []), (3, 1, []), (4, 1, []), (7, 0, []), (8, 1, []), (9, 1, []), (10, 1, []), (5, 2, [8, 9, 10]), (6, 1, []), (11, 2, [6]), (12, 1, []), (13, 0, [])] (by kernel_rfl) (by kernel_rfl) (by kernel_rfl) ?_) | ((with_reducible show Code.wp _ (Code.region 3 _ true) _ _ _); refine wp_region_tree (Tree.read 0 0 (Tree.read 1 0 (Tree.read 2 0 (Tree.read 3 1 (Tree.read 4 1 (Tree.read 5 1 (Tree.read 6 0 (Tree.read 9 0 (Tree.read 10 1 (Tree.read 11 1 (Tree.read 12 1 (Tree.read 13 0 (Tree.alt (Tree.eff 7 [3, 4, 5, 10, 11, 12] (Tree.alt (Tree.eff 8 [10, 11, 12] (Tree.line [(14, 2, [3, 4, 5, 10, 11, 12]), (15, 2, []), (16, 1, []), (17, 1, []), (18, 2, []), (19, 1, []), (20, 1, []), (21, 2, [])])) (Tree.eff 14 [3, 4, 5, 10, 11, 12] (Tree.line [(8, 2, [10, 11, 12]), (15, 2, []), (16, 1, []), (17, 1, []), (18, 2, []), (19, 1, []), (20, 1, []), (21, 2, [])])))) (Tree.eff 14 [3, 4, 5, 10, 11, 12] (Tree.line [(7, 2, [3, 4, 5, 10, 11, 12]), (8, 2, [10, 11, 12]), (15, 2, []), (16, 1, []), (17, 1, []), (18, 2, []), (19, 1, []), (20, 1, []), (21, 2, [])]))))))))))))))) (by kernel_rfl) (by kernel_rfl) (by kernel_rfl) ?_))
    go_ret
    obtain ⟨K1, K2⟩ := two_done HH.out H1.out H2.out H3.out H4.out H5.out H6.out H16.out hss
    exact ⟨⟨_, rfl, hss⟩, K1, K2⟩
  · refine Lib.hid ?_
    have H8 := Lib.hid (((HT.out.alloc (.cells (scell (({ data := #[118] } : ByteArray) ++ s1 ++ s2)).toArray 9)).alloc (.cells (icell t).toArray 3)).drew.drew)
    have HBK := ((Blk.newAt (w := (w.setCell ⟨wb, 4, none⟩ (.int .i64 ((fr : Int) + 1)))) (t := 9) (cs := (scell (({ data := #[118] } : ByteArray) ++ s1 ++ s2)).toArray) (g := w.heap.size) (by simp [World.setCell])).alloc (.cells (icell t).toArray 3)).drew.drew
    refine app_blk wslStr rfl H8.out.hn rfl HBK (by rfl) (by rfl) (by simp [scell, Value.oneCell']) (by decide) (by unfold maxLen; omega) (by omega) ?_
    clear HBK
    intro g8 c8 w8 hown8 hgrow8 hat8
    have H9 := Lib.hid (H8.out.app1 hown8 hgrow8 hat8)
    have hc8 := H9.out.b.cell
    have hl8 := H9.out.b.lt
    have HI8 := Lib.hid (((Blk.newAt (w := (w.setCell ⟨wb, 4, none⟩ (.int .i64 ((fr : Int) + 1))).alloc (.cells (scell (({ data := #[118] } : ByteArray) ++ s1 ++ s2)).toArray 9)) (t := 3) (cs := (icell t).toArray) (g := w.heap.size + 1) (by simp [World.setCell])).drew.drew).grown hgrow8 (fun e => absurd (own_lt HT.out.hn e.symm) (by simp [World.setCell])))
    clear hown8 hgrow8 hat8
    refine hK _ _ ?_
    go_wp2_with (first | ((with_reducible show wpTree _ _ _ (Tree.eff 15 _ _) _ _ _); refine wpTree_eff rfl rfl (fun _ hK => ?_); refine Hid.out ?_) | ((with_reducible show wpPlan _ _ _ ((15, 2, _) :: _) _ _ _); refine wpPlan_eff rfl rfl (fun _ hK => ?_); refine Hid.out ?_) | ((with_reducible show wpTree _ _ _ _ _ (Act.put _ _ _) _); simp only [List.getElem_toArray, List.getElem_cons_succ, List.getElem_cons_zero, Act.put, List.setIfInBounds_toArray, List.set_cons_zero, List.set_cons_succ]) | ((with_reducible show wpTree _ _ _ _ _ _ _); first | refine wpTree_line ?_ | refine wpTree_alt ?_ ?_ | (refine wpTree_read0 rfl ?hw rfl (fun _ _ _ => ?_); case hw => ((conv => (lhs; whnf)); first | done | with_reducible rfl)) | (refine wpTree_read1 rfl ?hw rfl (fun _ _ _ => ?_); case hw => ((conv => (lhs; whnf)); first | done | with_reducible rfl)) | (refine wpTree_eff rfl ?hw (fun _ _ => ?_); case hw => ((conv => (lhs; whnf)); first | done | with_reducible rfl)) | (refine wpTree_skip0 rfl ?hw ?_; case hw => ((conv => (lhs; whnf)); first | done | with_reducible rfl)) | (refine wpTree_skip1 rfl ?hw ?_; case hw => ((conv => (lhs; whnf)); first | done | with_reducible rfl)) | (refine wpTree_skip2 rfl ?hw ?_; case hw => ((conv => (lhs; whnf)); first | done | with_reducible rfl))) | ((with_reducible show OwedT _ _ _ _ _ _ _ _ _); first | refine OwedT.none_ ?_ | refine OwedT.nil_ ?_ | refine OwedT.miss rfl ?_ | refine OwedT.hit ?_ ?_) | ((with_reducible show wpPlan _ _ _ _ _ (Act.put _ _ _) _); simp only [List.getElem_toArray, List.getElem_cons_succ, List.getElem_cons_zero, Act.put, List.setIfInBounds_toArray, List.set_cons_zero, List.set_cons_succ]) | ((with_reducible show wpPlan _ _ _ _ _ _ _); first | refine wpPlan_nil ?_ | (refine wpPlan_read0 rfl ?hw rfl (fun _ _ _ => ?_); case hw => ((conv => (lhs; whnf)); first | done | with_reducible rfl)) | (refine wpPlan_read1d rfl ?hw rfl rfl (fun _ _ _ => ?_); case hw => ((conv => (lhs; whnf)); first | done | with_reducible rfl)) | (refine wpPlan_eff rfl ?hw (fun _ _ => ?_); case hw => ((conv => (lhs; whnf)); first | done | with_reducible rfl)) | (refine wpPlan_skip0 rfl ?hw ?_; case hw => ((conv => (lhs; whnf)); first | done | with_reducible rfl)) | (refine wpPlan_skip1d rfl ?hw ?_; case hw => ((conv => (lhs; whnf)); first | done | with_reducible rfl)) | (refine wpPlan_skip2 rfl ?hw ?_; case hw => ((conv => (lhs; whnf)); first | done | with_reducible rfl)) | (refine wpPlan_read1 rfl ?hw rfl (fun _ _ _ => ?_); case hw => ((conv => (lhs; whnf)); first | done | with_reducible rfl)) | refine wpPlan_fork ?_ ?_) | ((with_reducible show Owed _ _ _ _ _ _ _ _ _); first | refine Owed.none_ ?_ | refine Owed.nil_ ?_ | refine Owed.miss rfl ?_ | refine Owed.hit ?_ ?_) | ((with_reducible show Same _ _ _ _ _); intro _; go_simp; done) | (with_reducible exact True.intro) | ((with_reducible show Code.wp _ (Code.region 2 _ true) _ _ _); refine wp_region_plan [(0, 0, []), (1, 1, []), (2, 1, []), (3, 1, []), (4, 1, []), (7, 0, []), (8, 1, []), (9, 1, []), (10, 1, []), (5, 2, [8, 9, 10]), (6, 1, []), (11, 2, [6]), (12, 1, []), (13, 0, [])] (by kernel_rfl) (by kernel_rfl) (by kernel_rfl) ?_) | ((with_reducible show Code.wp _ (Code.region 3 _ true) _ _ _); refine wp_region_tree (Tree.read 0 0 (Tree.read 1 0 (Tree.read 2 0 (Tree.read 3 1 (Tree.read 4 1 (Tree.read 5 1 (Tree.read 6 0 (Tree.read 9 0 (Tree.read 10 1 (Tree.read 11 1 (Tree.read 12 1 (Tree.read 13 0 (Tree.alt (Tree.eff 7 [3, 4, 5, 10, 11, 12] (Tree.alt (Tree.eff 8 [10, 11, 12] (Tree.line [(14, 2, [3, 4, 5, 10, 11, 12]), (15, 2, []), (16, 1, []), (17, 1, []), (18, 2, []), (19, 1, []), (20, 1, []), (21, 2, [])])) (Tree.eff 14 [3, 4, 5, 10, 11, 12] (Tree.line [(8, 2, [10, 11, 12]), (15, 2, []), (16, 1, []), (17, 1, []), (18, 2, []), (19, 1, []), (20, 1, []), (21, 2, [])])))) (Tree.eff 14 [3, 4, 5, 10, 11, 12] (Tree.line [(7, 2, [3, 4, 5, 10, 11, 12]), (8, 2, [10, 11, 12]), (15, 2, []), (16, 1, []), (17, 1, []), (18, 2, []), (19, 1, []), (20, 1, []), (21, 2, [])]))))))))))))))) (by kernel_rfl) (by kernel_rfl) (by kernel_rfl) ?_))
    refine Lib.hid ?_
    have H15 := Lib.hid (H9.out)
    have HBK := HI8.out
    refine app_blk wslInt rfl H15.out.ht rfl HBK (by rfl) (by rfl) (by simp [icell, Value.oneCell']) (by decide) (by unfold maxLen; omega) (by omega) ?_
    clear HBK
    intro g9 c9 w9 hown9 hgrow9 hat9
    clear hc8 hl8
    have H16 := Lib.hid (H15.out.app2 hown9 hgrow9 hat9)
    clear hown9 hgrow9 hat9
    have hc9 := H16.out.b.cell
    have hl9 := H16.out.b.lt
    have hf9 := H16.out.b.frozen
    refine hK _ _ ?_
    go_wp2_with (first | ((with_reducible show wpTree _ _ _ _ _ (Act.put _ _ _) _); simp only [List.getElem_toArray, List.getElem_cons_succ, List.getElem_cons_zero, Act.put, List.setIfInBounds_toArray, List.set_cons_zero, List.set_cons_succ]) | ((with_reducible show wpTree _ _ _ _ _ _ _); first | refine wpTree_line ?_ | refine wpTree_alt ?_ ?_ | (refine wpTree_read0 rfl ?hw rfl (fun _ _ _ => ?_); case hw => ((conv => (lhs; whnf)); first | done | with_reducible rfl)) | (refine wpTree_read1 rfl ?hw rfl (fun _ _ _ => ?_); case hw => ((conv => (lhs; whnf)); first | done | with_reducible rfl)) | (refine wpTree_eff rfl ?hw (fun _ _ => ?_); case hw => ((conv => (lhs; whnf)); first | done | with_reducible rfl)) | (refine wpTree_skip0 rfl ?hw ?_; case hw => ((conv => (lhs; whnf)); first | done | with_reducible rfl)) | (refine wpTree_skip1 rfl ?hw ?_; case hw => ((conv => (lhs; whnf)); first | done | with_reducible rfl)) | (refine wpTree_skip2 rfl ?hw ?_; case hw => ((conv => (lhs; whnf)); first | done | with_reducible rfl))) | ((with_reducible show OwedT _ _ _ _ _ _ _ _ _); first | refine OwedT.none_ ?_ | refine OwedT.nil_ ?_ | refine OwedT.miss rfl ?_ | refine OwedT.hit ?_ ?_) | ((with_reducible show wpPlan _ _ _ _ _ (Act.put _ _ _) _); simp only [List.getElem_toArray, List.getElem_cons_succ, List.getElem_cons_zero, Act.put, List.setIfInBounds_toArray, List.set_cons_zero, List.set_cons_succ]) | ((with_reducible show wpPlan _ _ _ _ _ _ _); first | refine wpPlan_nil ?_ | (refine wpPlan_read0 rfl ?hw rfl (fun _ _ _ => ?_); case hw => ((conv => (lhs; whnf)); first | done | with_reducible rfl)) | (refine wpPlan_read1d rfl ?hw rfl rfl (fun _ _ _ => ?_); case hw => ((conv => (lhs; whnf)); first | done | with_reducible rfl)) | (refine wpPlan_eff rfl ?hw (fun _ _ => ?_); case hw => ((conv => (lhs; whnf)); first | done | with_reducible rfl)) | (refine wpPlan_skip0 rfl ?hw ?_; case hw => ((conv => (lhs; whnf)); first | done | with_reducible rfl)) | (refine wpPlan_skip1d rfl ?hw ?_; case hw => ((conv => (lhs; whnf)); first | done | with_reducible rfl)) | (refine wpPlan_skip2 rfl ?hw ?_; case hw => ((conv => (lhs; whnf)); first | done | with_reducible rfl)) | (refine wpPlan_read1 rfl ?hw rfl (fun _ _ _ => ?_); case hw => ((conv => (lhs; whnf)); first | done | with_reducible rfl)) | refine wpPlan_fork ?_ ?_) | ((with_reducible show Owed _ _ _ _ _ _ _ _ _); first | refine Owed.none_ ?_ | refine Owed.nil_ ?_ | refine Owed.miss rfl ?_ | refine Owed.hit ?_ ?_) | ((with_reducible show Same _ _ _ _ _); intro _; go_simp; done) | (with_reducible exact True.intro) | ((with_reducible show Code.wp _ (Code.region 2 _ true) _ _ _); refine wp_region_plan [(0, 0, []), (1, 1, []), (2, 1, []), (3, 1, []), (4, 1, []), (7, 0, []), (8, 1, []), (9, 1, []), (10, 1, []), (5, 2, [8, 9, 10]), (6, 1, []), (11, 2, [6]), (12, 1, []), (13, 0, [])] (by kernel_rfl) (by kernel_rfl) (by kernel_rfl) ?_) | ((with_reducible show Code.wp _ (Code.region 3 _ true) _ _ _); refine wp_region_tree (Tree.read 0 0 (Tree.read 1 0 (Tree.read 2 0 (Tree.read 3 1 (Tree.read 4 1 (Tree.read 5 1 (Tree.read 6 0 (Tree.read 9 0 (Tree.read 10 1 (Tree.read 11 1 (Tree.read 12 1 (Tree.read 13 0 (Tree.alt (Tree.eff 7 [3, 4, 5, 10, 11, 12] (Tree.alt (Tree.eff 8 [10, 11, 12] (Tree.line [(14, 2, [3, 4, 5, 10, 11, 12]), (15, 2, []), (16, 1, []), (17, 1, []), (18, 2, []), (19, 1, []), (20, 1, []), (21, 2, [])])) (Tree.eff 14 [3, 4, 5, 10, 11, 12] (Tree.line [(8, 2, [10, 11, 12]), (15, 2, []), (16, 1, []), (17, 1, []), (18, 2, []), (19, 1, []), (20, 1, []), (21, 2, [])])))) (Tree.eff 14 [3, 4, 5, 10, 11, 12] (Tree.line [(7, 2, [3, 4, 5, 10, 11, 12]), (8, 2, [10, 11, 12]), (15, 2, []), (16, 1, []), (17, 1, []), (18, 2, []), (19, 1, []), (20, 1, []), (21, 2, [])]))))))))))))))) (by kernel_rfl) (by kernel_rfl) (by kernel_rfl) ?_))
    go_ret
    obtain ⟨K1, K2⟩ := two_done HH.out H1.out H2.out H3.out H4.out H5.out H6.out H16.out hss
    exact ⟨⟨_, rfl, hss⟩, K1, K2⟩
  · refine Lib.hid ?_
    have H8 := Lib.hid (((HT.out.alloc (.cells (icell t).toArray 3)).alloc (.cells (scell (({ data := #[118] } : ByteArray) ++ s1 ++ s2)).toArray 9)).drew.drew)
    have HBK := (Blk.newAt (w := (w.setCell ⟨wb, 4, none⟩ (.int .i64 ((fr : Int) + 1))).alloc (.cells (icell t).toArray 3)) (t := 9) (cs := (scell (({ data := #[118] } : ByteArray) ++ s1 ++ s2)).toArray) (g := w.heap.size + 1) (by simp [World.setCell])).drew.drew
    refine app_blk wslStr rfl H8.out.hn rfl HBK (by rfl) (by rfl) (by simp [scell, Value.oneCell']) (by decide) (by unfold maxLen; omega) (by omega) ?_
    clear HBK
    intro g8 c8 w8 hown8 hgrow8 hat8
    have H9 := Lib.hid (H8.out.app1 hown8 hgrow8 hat8)
    have hc8 := H9.out.b.cell
    have hl8 := H9.out.b.lt
    have HI8 := Lib.hid ((((Blk.newAt (w := (w.setCell ⟨wb, 4, none⟩ (.int .i64 ((fr : Int) + 1)))) (t := 3) (cs := (icell t).toArray) (g := w.heap.size) (by simp [World.setCell])).alloc (.cells (scell (({ data := #[118] } : ByteArray) ++ s1 ++ s2)).toArray 9)).drew.drew).grown hgrow8 (fun e => absurd (own_lt HT.out.hn e.symm) (by simp [World.setCell])))
    clear hown8 hgrow8 hat8
    refine hK _ _ ?_
    go_wp2_with (first | ((with_reducible show wpTree _ _ _ (Tree.eff 15 _ _) _ _ _); refine wpTree_eff rfl rfl (fun _ hK => ?_); refine Hid.out ?_) | ((with_reducible show wpPlan _ _ _ ((15, 2, _) :: _) _ _ _); refine wpPlan_eff rfl rfl (fun _ hK => ?_); refine Hid.out ?_) | ((with_reducible show wpTree _ _ _ _ _ (Act.put _ _ _) _); simp only [List.getElem_toArray, List.getElem_cons_succ, List.getElem_cons_zero, Act.put, List.setIfInBounds_toArray, List.set_cons_zero, List.set_cons_succ]) | ((with_reducible show wpTree _ _ _ _ _ _ _); first | refine wpTree_line ?_ | refine wpTree_alt ?_ ?_ | (refine wpTree_read0 rfl ?hw rfl (fun _ _ _ => ?_); case hw => ((conv => (lhs; whnf)); first | done | with_reducible rfl)) | (refine wpTree_read1 rfl ?hw rfl (fun _ _ _ => ?_); case hw => ((conv => (lhs; whnf)); first | done | with_reducible rfl)) | (refine wpTree_eff rfl ?hw (fun _ _ => ?_); case hw => ((conv => (lhs; whnf)); first | done | with_reducible rfl)) | (refine wpTree_skip0 rfl ?hw ?_; case hw => ((conv => (lhs; whnf)); first | done | with_reducible rfl)) | (refine wpTree_skip1 rfl ?hw ?_; case hw => ((conv => (lhs; whnf)); first | done | with_reducible rfl)) | (refine wpTree_skip2 rfl ?hw ?_; case hw => ((conv => (lhs; whnf)); first | done | with_reducible rfl))) | ((with_reducible show OwedT _ _ _ _ _ _ _ _ _); first | refine OwedT.none_ ?_ | refine OwedT.nil_ ?_ | refine OwedT.miss rfl ?_ | refine OwedT.hit ?_ ?_) | ((with_reducible show wpPlan _ _ _ _ _ (Act.put _ _ _) _); simp only [List.getElem_toArray, List.getElem_cons_succ, List.getElem_cons_zero, Act.put, List.setIfInBounds_toArray, List.set_cons_zero, List.set_cons_succ]) | ((with_reducible show wpPlan _ _ _ _ _ _ _); first | refine wpPlan_nil ?_ | (refine wpPlan_read0 rfl ?hw rfl (fun _ _ _ => ?_); case hw => ((conv => (lhs; whnf)); first | done | with_reducible rfl)) | (refine wpPlan_read1d rfl ?hw rfl rfl (fun _ _ _ => ?_); case hw => ((conv => (lhs; whnf)); first | done | with_reducible rfl)) | (refine wpPlan_eff rfl ?hw (fun _ _ => ?_); case hw => ((conv => (lhs; whnf)); first | done | with_reducible rfl)) | (refine wpPlan_skip0 rfl ?hw ?_; case hw => ((conv => (lhs; whnf)); first | done | with_reducible rfl)) | (refine wpPlan_skip1d rfl ?hw ?_; case hw => ((conv => (lhs; whnf)); first | done | with_reducible rfl)) | (refine wpPlan_skip2 rfl ?hw ?_; case hw => ((conv => (lhs; whnf)); first | done | with_reducible rfl)) | (refine wpPlan_read1 rfl ?hw rfl (fun _ _ _ => ?_); case hw => ((conv => (lhs; whnf)); first | done | with_reducible rfl)) | refine wpPlan_fork ?_ ?_) | ((with_reducible show Owed _ _ _ _ _ _ _ _ _); first | refine Owed.none_ ?_ | refine Owed.nil_ ?_ | refine Owed.miss rfl ?_ | refine Owed.hit ?_ ?_) | ((with_reducible show Same _ _ _ _ _); intro _; go_simp; done) | (with_reducible exact True.intro) | ((with_reducible show Code.wp _ (Code.region 2 _ true) _ _ _); refine wp_region_plan [(0, 0, []), (1, 1, []), (2, 1, []), (3, 1, []), (4, 1, []), (7, 0, []), (8, 1, []), (9, 1, []), (10, 1, []), (5, 2, [8, 9, 10]), (6, 1, []), (11, 2, [6]), (12, 1, []), (13, 0, [])] (by kernel_rfl) (by kernel_rfl) (by kernel_rfl) ?_) | ((with_reducible show Code.wp _ (Code.region 3 _ true) _ _ _); refine wp_region_tree (Tree.read 0 0 (Tree.read 1 0 (Tree.read 2 0 (Tree.read 3 1 (Tree.read 4 1 (Tree.read 5 1 (Tree.read 6 0 (Tree.read 9 0 (Tree.read 10 1 (Tree.read 11 1 (Tree.read 12 1 (Tree.read 13 0 (Tree.alt (Tree.eff 7 [3, 4, 5, 10, 11, 12] (Tree.alt (Tree.eff 8 [10, 11, 12] (Tree.line [(14, 2, [3, 4, 5, 10, 11, 12]), (15, 2, []), (16, 1, []), (17, 1, []), (18, 2, []), (19, 1, []), (20, 1, []), (21, 2, [])])) (Tree.eff 14 [3, 4, 5, 10, 11, 12] (Tree.line [(8, 2, [10, 11, 12]), (15, 2, []), (16, 1, []), (17, 1, []), (18, 2, []), (19, 1, []), (20, 1, []), (21, 2, [])])))) (Tree.eff 14 [3, 4, 5, 10, 11, 12] (Tree.line [(7, 2, [3, 4, 5, 10, 11, 12]), (8, 2, [10, 11, 12]), (15, 2, []), (16, 1, []), (17, 1, []), (18, 2, []), (19, 1, []), (20, 1, []), (21, 2, [])]))))))))))))))) (by kernel_rfl) (by kernel_rfl) (by kernel_rfl) ?_))
    refine Lib.hid ?_
    have H15 := Lib.hid (H9.out)
    have HBK := HI8.out
    refine app_blk wslInt rfl H15.out.ht rfl HBK (by rfl) (by rfl) (by simp [icell, Value.oneCell']) (by decide) (by unfold maxLen; omega) (by omega) ?_
    clear HBK
    intro g9 c9 w9 hown9 hgrow9 hat9
    clear hc8 hl8
    have H16 := Lib.hid (H15.out.app2 hown9 hgrow9 hat9)
    clear hown9 hgrow9 hat9
    have hc9 := H16.out.b.cell
    have hl9 := H16.out.b.lt
    have hf9 := H16.out.b.frozen
    refine hK _ _ ?_
    go_wp2_with (first | ((with_reducible show wpTree _ _ _ _ _ (Act.put _ _ _) _); simp only [List.getElem_toArray, List.getElem_cons_succ, List.getElem_cons_zero, Act.put, List.setIfInBounds_toArray, List.set_cons_zero, List.set_cons_succ]) | ((with_reducible show wpTree _ _ _ _ _ _ _); first | refine wpTree_line ?_ | refine wpTree_alt ?_ ?_ | (refine wpTree_read0 rfl ?hw rfl (fun _ _ _ => ?_); case hw => ((conv => (lhs; whnf)); first | done | with_reducible rfl)) | (refine wpTree_read1 rfl ?hw rfl (fun _ _ _ => ?_); case hw => ((conv => (lhs; whnf)); first | done | with_reducible rfl)) | (refine wpTree_eff rfl ?hw (fun _ _ => ?_); case hw => ((conv => (lhs; whnf)); first | done | with_reducible rfl)) | (refine wpTree_skip0 rfl ?hw ?_; case hw => ((conv => (lhs; whnf)); first | done | with_reducible rfl)) | (refine wpTree_skip1 rfl ?hw ?_; case hw => ((conv => (lhs; whnf)); first | done | with_reducible rfl)) | (refine wpTree_skip2 rfl ?hw ?_; case hw => ((conv => (lhs; whnf)); first | done | with_reducible rfl))) | ((with_reducible show OwedT _ _ _ _ _ _ _ _ _); first | refine OwedT.none_ ?_ | refine OwedT.nil_ ?_ | refine OwedT.miss rfl ?_ | refine OwedT.hit ?_ ?_) | ((with_reducible show wpPlan _ _ _ _ _ (Act.put _ _ _) _); simp only [List.getElem_toArray, List.getElem_cons_succ, List.getElem_cons_zero, Act.put, List.setIfInBounds_toArray, List.set_cons_zero, List.set_cons_succ]) | ((with_reducible show wpPlan _ _ _ _ _ _ _); first | refine wpPlan_nil ?_ | (refine wpPlan_read0 rfl ?hw rfl (fun _ _ _ => ?_); case hw => ((conv => (lhs; whnf)); first | done | with_reducible rfl)) | (refine wpPlan_read1d rfl ?hw rfl rfl (fun _ _ _ => ?_); case hw => ((conv => (lhs; whnf)); first | done | with_reducible rfl)) | (refine wpPlan_eff rfl ?hw (fun _ _ => ?_); case hw => ((conv => (lhs; whnf)); first | done | with_reducible rfl)) | (refine wpPlan_skip0 rfl ?hw ?_; case hw => ((conv => (lhs; whnf)); first | done | with_reducible rfl)) | (refine wpPlan_skip1d rfl ?hw ?_; case hw => ((conv => (lhs; whnf)); first | done | with_reducible rfl)) | (refine wpPlan_skip2 rfl ?hw ?_; case hw => ((conv => (lhs; whnf)); first | done | with_reducible rfl)) | (refine wpPlan_read1 rfl ?hw rfl (fun _ _ _ => ?_); case hw => ((conv => (lhs; whnf)); first | done | with_reducible rfl)) | refine wpPlan_fork ?_ ?_) | ((with_reducible show Owed _ _ _ _ _ _ _ _ _); first | refine Owed.none_ ?_ | refine Owed.nil_ ?_ | refine Owed.miss rfl ?_ | refine Owed.hit ?_ ?_) | ((with_reducible show Same _ _ _ _ _); intro _; go_simp; done) | (with_reducible exact True.intro) | ((with_reducible show Code.wp _ (Code.region 2 _ true) _ _ _); refine wp_region_plan [(0, 0, []), (1, 1, []), (2, 1, []), (3, 1, []), (4, 1, []), (7, 0, []), (8, 1, []), (9, 1, []), (10, 1, []), (5, 2, [8, 9, 10]), (6, 1, []), (11, 2, [6]), (12, 1, []), (13, 0, [])] (by kernel_rfl) (by kernel_rfl) (by kernel_rfl) ?_) | ((with_reducible show Code.wp _ (Code.region 3 _ true) _ _ _); refine wp_region_tree (Tree.read 0 0 (Tree.read 1 0 (Tree.read 2 0 (Tree.read 3 1 (Tree.read 4 1 (Tree.read 5 1 (Tree.read 6 0 (Tree.read 9 0 (Tree.read 10 1 (Tree.read 11 1 (Tree.read 12 1 (Tree.read 13 0 (Tree.alt (Tree.eff 7 [3, 4, 5, 10, 11, 12] (Tree.alt (Tree.eff 8 [10, 11, 12] (Tree.line [(14, 2, [3, 4, 5, 10, 11, 12]), (15, 2, []), (16, 1, []), (17, 1, []), (18, 2, []), (19, 1, []), (20, 1, []), (21, 2, [])])) (Tree.eff 14 [3, 4, 5, 10, 11, 12] (Tree.line [(8, 2, [10, 11, 12]), (15, 2, []), (16, 1, []), (17, 1, []), (18, 2, []), (19, 1, []), (20, 1, []), (21, 2, [])])))) (Tree.eff 14 [3, 4, 5, 10, 11, 12] (Tree.line [(7, 2, [3, 4, 5, 10, 11, 12]), (8, 2, [10, 11, 12]), (15, 2, []), (16, 1, []), (17, 1, []), (18, 2, []), (19, 1, []), (20, 1, []), (21, 2, [])]))))))))))))))) (by kernel_rfl) (by kernel_rfl) (by kernel_rfl) ?_))
    go_ret
    obtain ⟨K1, K2⟩ := two_done HH.out H1.out H2.out H3.out H4.out H5.out H6.out H16.out hss
    exact ⟨⟨_, rfl, hss⟩, K1, K2⟩
end
end Go.Proofs.YtgfhkaamkodpjaaDoor
