/- A DRAWN REGION BY AN INVARIANT: what holds of the operations that have come up holds of them all. -/
import Derived.OrdersHeld
import Derived.Deep.RegionHeld
set_option linter.unusedSimpArgs false
set_option linter.unusedVariables false
namespace Go

/-- How many have not come up. -/
def unlisted (L : Array Bool) : Nat := L.toList.count false
theorem unlisted_set {L : Array Bool} {i : Nat} (h : L.getD i true = false) : unlisted (L.setIfInBounds i true) + 1 = unlisted L := by
  have hi : i < L.size := by
    rcases Nat.lt_or_ge i L.size with h' | h'
    · exact h'
    · simp [Array.getD, Nat.not_lt.2 h'] at h
  have hv : L.toList[i]'(by simpa using hi) = false := by simpa [Array.getD, hi] using h
  unfold unlisted
  rw [Array.toList_setIfInBounds, List.count_set (h := by simpa using hi), hv]
  have hp : 0 < L.toList.count false := List.count_pos_iff.2 (by rw [← hv]; exact List.getElem_mem _)
  simp [-Array.count_toList]
  omega
theorem unlisted_zero {L : Array Bool} (h : unlisted L = 0) (i : Nat) : L.getD i true = true := by
  unfold unlisted at h
  rw [List.count_eq_zero] at h
  rcases Nat.lt_or_ge i L.size with h' | h'
  · have e : L.getD i true = L[i] := by simp [Array.getD, h']
    rw [e]
    cases hb : L[i] with
    | true => rfl
    | false => exact absurd (by rw [← hb]; simp [Array.mem_toList_iff]) h
  · simp [Array.getD, Nat.not_lt.2 h']

/-- Each waits for earlier ones alone. -/
def forward (ops : Array Oper) : Bool := (List.range ops.size).all fun i => match ops[i]? with | some o => o.after.all fun e => decide (e.on < i) | none => true
theorem all_listed {md : Region.Mode} {ops : Array Oper} (hf : forward ops = true) {L : Array Bool} (hL : L.size = ops.size) (hr : Region.ready md ops L = []) : ∀ i, i < ops.size → L.getD i true = true := by
  intro i
  induction i using Nat.strongRecOn with
  | _ i ih =>
    intro hi
    cases hb : L.getD i true with
    | true => rfl
    | false =>
      have hm : i ∈ Region.ready md ops L := by
        rw [mem_ready]
        refine ⟨hb, ops[i], by simp [hi], fun e he _ => ?_⟩
        have h1 := List.all_eq_true.1 hf i (List.mem_range.2 hi)
        rw [Array.getElem?_eq_getElem hi] at h1
        have h2 : e.on < i := by
          have := Array.all_eq_true_iff_forall_mem.1 h1 e he
          simpa using this
        have h3 := ih e.on h2 (by omega)
        have h4 : e.on < L.size := by omega
        simpa [Array.getD, h4] using h3
      rw [hr] at hm
      cases hm

section
variable {P : Program} {ops : Array Oper} {Q : Exit → Act → World → Prop} {md : Region.Mode} {S : World → Prop}
/-- THE LAW: 'I' holds at the beginning and behind each operation that comes up, whichever; so it holds at the end. -/
theorem wpAnyH_inv (I : Array Bool → Act → World → Prop) (hS : ∀ L a w, I L a w → S w) (hf : forward ops = true)
    (hdone : ∀ L a w, I L a w → (∀ i, i < ops.size → L.getD i true = true) → Q .normal a w)
    (hstep : ∀ L a w i, I L a w → ∀ o, L.getD i true = false → ops[i]? = some o → (∀ e ∈ o.after, Region.binds md e = true → L.getD e.on false = true) →
      ∀ K' : Act → World → Prop, Shut (∀ a' w', I (L.setIfInBounds i true) a' w' → K' a' w') → if Region.wanted o (yielded ops a.tmps) = true then Oper.wp P o a w K' Q else K' (a.put o.dst undef) w) :
    ∀ (fuel : Nat) (L : Array Bool) (a : Act) (w : World), L.size = ops.size → unlisted L ≤ fuel → I L a w → wpAnyH P md ops Q S fuel L a w
  | 0, L, a, w, hL, hu, hI => by
    have h0 := fun i => unlisted_zero (Nat.le_zero.1 hu) i
    have hr : Region.ready md ops L = [] := by
      cases hr : Region.ready md ops L with
      | nil => rfl
      | cons i l =>
        have := (mem_ready.1 (hr ▸ List.mem_cons_self : i ∈ Region.ready md ops L)).1
        rw [h0 i] at this
        cases this
    exact ⟨hr, hdone L a w hI fun i _ => h0 i⟩
  | fuel + 1, L, a, w, hL, hu, hI => by
    refine ⟨fun hr => hdone L a w hI (all_listed hf hL hr), fun i hi => ?_⟩
    obtain ⟨hb, o, ho, hall⟩ := mem_ready.1 hi
    have hs := unlisted_set hb
    refine wpOp_step ho fun K' hK => hstep L a w i hI o hb ho hall K' fun a' w' hI' => hK a' w' ⟨hS _ _ _ hI', ?_⟩
    exact wpAnyH_inv I hS hf hdone hstep fuel _ a' w' (by simpa using hL) (by omega) hI'
end
end Go
