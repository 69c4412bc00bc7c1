/- a read that no later effect asks about leaves nothing behind in the plan's walk (the law of XPlan; lighter goals) -/
import Derived.Test.YtlblaopkmigheaaGreatDoorPlan
namespace Go.Proofs.YtlblaopkmigheaaGreatDoor
open Go Go.RowKit

section
variable {P : Program} {ops : Array Oper} {Q : Exit → Act → World → Prop}

theorem wpPlan_agree : ∀ (rest : List (Nat × Nat × List Nat)) {Ss Ts : List (Nat × (World → Prop))} {a : Act} {w : World},
    (∀ r ∈ rest, ∀ w, Kept r.2.2 Ts w → Kept r.2.2 Ss w) → wpPlan P ops Q rest Ts a w → wpPlan P ops Q rest Ss a w
  | [], _, _, _, _, _, h => by rw [wpPlan] at h ⊢; exact h
  | (i, c, U) :: rest, Ss, Ts, a, w, hk, h => by
    have hkr : ∀ r ∈ rest, ∀ w, Kept r.2.2 Ts w → Kept r.2.2 Ss w := fun r hr => hk r (List.mem_cons_of_mem _ hr)
    have hk0 : ∀ w, Kept U Ts w → Kept U Ss w := hk (i, c, U) List.mem_cons_self
    rw [wpPlan] at h ⊢
    cases ho : ops[i]? with
    | none => rw [ho] at h; exact h.elim
    | some o =>
      rw [ho] at h
      dsimp only at h ⊢
      match c, h with
      | 0, h =>
        rcases h with ⟨h1, h2⟩ | ⟨h1, h2, v, h3, h4⟩
        · exact .inl ⟨h1, wpPlan_agree rest hkr h2⟩
        · exact .inr ⟨h1, h2, v, h3, wpPlan_agree rest hkr h4⟩
      | 1, h =>
        rcases h with ⟨h1, h2⟩ | ⟨h1, v, h3, h4⟩
        · exact .inl ⟨h1, wpPlan_agree rest (Ts := (i, fun _ => True) :: Ts) (fun r hr w hh => ⟨hh.1, hkr r hr w hh.2⟩) h2⟩
        · exact .inr ⟨h1, v, h3, wpPlan_agree rest (Ts := (i, Same P a o w) :: Ts) (fun r hr w hh => ⟨hh.1, hkr r hr w hh.2⟩) h4⟩
      | j + 3, h =>
        exact ⟨wpOp_mono (fun a' w' hh => ⟨hk0 _ hh.1, wpOp_mono (fun a'' w'' hg => ⟨hk0 _ hg.1, wpPlan_agree rest hkr hg.2⟩) hh.2⟩) h.1,
          wpOp_mono (fun a' w' hh => ⟨hk0 _ hh.1, wpOp_mono (fun a'' w'' hg => ⟨hk0 _ hg.1, wpPlan_agree rest hkr hg.2⟩) hh.2⟩) h.2⟩
      | 2, h => exact wpOp_mono (fun a' w' hh => ⟨hk0 _ hh.1, wpPlan_agree rest hkr hh.2⟩) h

variable {i : Nat} {U : List Nat} {rest : List (Nat × Nat × List Nat)} {Ss : List (Nat × (World → Prop))} {a : Act} {w : World} {o : Oper}
theorem wpPlan_skip1d (ho : ops[i]? = some o) (hw : Region.wanted o (yielded ops a.tmps) = false) (h : wpPlan P ops Q rest Ss (a.put o.dst undef) w) : wpPlan P ops Q ((i, 1, U) :: rest) Ss a w :=
  wpPlan_skip1 ho hw (wpPlan_agree rest (fun _ _ _ hh => ⟨fun _ => trivial, hh⟩) h)
theorem wpPlan_read1d (ho : ops[i]? = some o) (hw : Region.wanted o (yielded ops a.tmps) = true) (hv : valued o = true) (hd : (rest.all fun r => !r.2.2.contains i) = true)
    (h : ∀ (K : Act → World → Prop) (Q' : Exit → Act → World → Prop), (∀ a', wpPlan P ops Q rest Ss a' w → K a' w) → o.wp P a w K Q') : wpPlan P ops Q ((i, 1, U) :: rest) Ss a w :=
  wpPlan_read1 ho hw hv fun K Q' hK => h K Q' fun a' h' => hK a' (wpPlan_agree rest (fun r hr _ hh => ⟨fun hc => (by
    have := List.all_eq_true.1 hd r hr
    rw [hc] at this
    cases this), hh⟩) h')
end

end Go.Proofs.YtlblaopkmigheaaGreatDoor
