/- THE PLAIN SIDE of layer 7's bytes: what is read fits in 64 bits. No Go in sight. -/
import Derived.Test.YtnjckaifgmliaaaPlainHand3
set_option linter.unusedSimpArgs false
set_option linter.unusedVariables false
namespace Lu

theorem Pk.in64 {n : Int} (h : Pk n) : In n := by unfold Pk at h; unfold In; omega
theorem in_zero : In 0 := by unfold In; omega
theorem eyeN_in {st : Option (List Int)} {z : Int} (hb : ∀ b, st = some b → Bytes b) (hz : In z) : In (eyeN st z).1 ∧ ∀ b, (eyeN st z).2 = some b → Bytes b := by
  unfold eyeN
  cases st with
  | none => exact ⟨hz, fun b h => by simp at h⟩
  | some bs =>
    simp only
    cases ht : takeP bs with
    | none => exact ⟨hz, fun b h => by simp at h⟩
    | some x =>
      obtain ⟨n, r⟩ := x
      refine ⟨(takeP_some (hb bs rfl) ht).2.in64, fun b h => ?_⟩
      simp only [Option.some.injEq] at h
      subst h
      exact takeP_bytes (hb bs rfl) ht
theorem eyeL_in {st : Option (List Int)} {zs : List Int} (hb : ∀ b, st = some b → Bytes b) (hz : ∀ z ∈ zs, In z) : (∀ z ∈ (eyeL st zs).1, In z) ∧ ∀ b, (eyeL st zs).2 = some b → Bytes b := by
  induction zs generalizing st with
  | nil => exact ⟨fun z h => by simp [eyeL] at h, hb⟩
  | cons z zs ih =>
    obtain ⟨h1, h2⟩ := eyeN_in hb (hz z (by simp))
    obtain ⟨h3, h4⟩ := ih h2 (fun y hy => hz y (by simp [hy]))
    refine ⟨fun y hy => ?_, h4⟩
    simp only [eyeL, List.mem_cons] at hy
    rcases hy with rfl | hy
    · exact h1
    · exact h3 y hy
theorem eyeM_in {st : Option (List Int)} (hb : ∀ b, st = some b → Bytes b) : ∀ b, (eyeM st).2 = some b → Bytes b := by
  unfold eyeM
  split
  · intro b h; simp at h
  · exact (eyeN_in hb in_zero).2
theorem eyeR_in {st : Option (List Int)} (K : Nat) (hb : ∀ b, st = some b → Bytes b) : (∀ z ∈ (eyeR K st).1, In z) ∧ ∀ b, (eyeR K st).2 = some b → Bytes b :=
  eyeL_in (eyeM_in hb) (fun z hz => by rw [(List.mem_replicate.1 hz).2]; exact in_zero)
theorem getD_in {l : List Int} (h : ∀ z ∈ l, In z) (i : Nat) : In (l.getD i 0) := by
  rw [List.getD_eq_getElem?_getD]
  cases hi : l[i]? with
  | none => exact in_zero
  | some z => exact h z (List.mem_of_getElem? hi)
theorem zeros_in {l : List Int} (h : ∀ z ∈ l, z = 0) : ∀ z ∈ l, In z := fun z hz => by rw [h z hz]; exact in_zero
/-- All that is read of bytes fits. -/
structure EyeIn (b : List Int) : Prop where
  h0 : ∀ z ∈ (eye0 b).1, In z
  h1 : ∀ z ∈ (eye1 b).1, In z
  h2 : ∀ z ∈ (eye2 b).1, In z
  h3 : ∀ z ∈ (eye3 b).1, In z
  h4 : ∀ z ∈ (eye4 b).1, In z
  h5 : ∀ z ∈ (eye5 b).1, In z
  h6 : ∀ z ∈ (eye6 b).1, In z
  h7 : ∀ z ∈ (eye7 b).1, In z
  h8 : ∀ z ∈ (eye8 b).1, In z
  h9 : ∀ z ∈ (eye9 b).1, In z
theorem eye_in {b : List Int} (hb : Bytes b) : EyeIn b := by
  have z0 : ∀ z ∈ [(0 : Int)], In z := zeros_in (by simp)
  have z2 : ∀ z ∈ [(0 : Int), 0], In z := zeros_in (by simp)
  have z6 : ∀ z ∈ [(0 : Int), 0, 0, 0, 0, 0, 0, 0, 0, 0, 0], In z := zeros_in (by simp)
  have z8 : ∀ z ∈ [(0 : Int), 0, 0], In z := zeros_in (by simp)
  obtain ⟨a0, b0⟩ := eyeL_in (st := some b) (fun c h => by simp only [Option.some.injEq] at h; subst h; exact hb) z0
  obtain ⟨a1, b1⟩ := eyeR_in 3 (st := (eye0 b).2) b0
  obtain ⟨a2, b2⟩ := eyeL_in (st := (eye1 b).2) b1 z2
  obtain ⟨a3, b3⟩ := eyeR_in 4 (st := (eye2 b).2) b2
  obtain ⟨a4, b4⟩ := eyeR_in 2 (st := (eye3 b).2) b3
  obtain ⟨a5, b5⟩ := eyeR_in 2 (st := (eye4 b).2) b4
  obtain ⟨a6, b6⟩ := eyeL_in (st := (eye5 b).2) b5 z6
  obtain ⟨a7, b7⟩ := eyeR_in 1 (st := (eye6 b).2) b6
  obtain ⟨a8, b8⟩ := eyeL_in (st := (eye7 b).2) b7 z8
  obtain ⟨a9, _⟩ := eyeR_in 2 (st := (eye8 b).2) b8
  exact ⟨a0, a1, a2, a3, a4, a5, a6, a7, a8, a9⟩
theorem group2_in : ∀ (n : Nat) {l : List Int}, l.length = n * 2 → (∀ z ∈ l, In z) → ∀ r ∈ group2 l, In r.1 ∧ In r.2
  | 0, [], _, _, r, hr => by simp [group2] at hr
  | n + 1, a :: b :: l, hl, h, r, hr => by
    simp only [group2, List.mem_cons] at hr
    rcases hr with rfl | hr
    · exact ⟨h _ (by simp), h _ (by simp)⟩
    · exact group2_in n (by simp only [List.length_cons] at hl; omega) (fun z hz => h z (by simp [hz])) r hr
  | 0, _ :: _, hl, _, _, _ => by simp at hl
  | n + 1, [], hl, _, _, _ => by simp at hl
  | n + 1, [_], hl, _, _, _ => by simp at hl; omega
theorem group3_in : ∀ (n : Nat) {l : List Int}, l.length = n * 3 → (∀ z ∈ l, In z) → ∀ r ∈ group3 l, In r.1 ∧ In r.2.1 ∧ In r.2.2
  | 0, [], _, _, r, hr => by simp [group3] at hr
  | n + 1, a :: b :: c :: l, hl, h, r, hr => by
    simp only [group3, List.mem_cons] at hr
    rcases hr with rfl | hr
    · exact ⟨h _ (by simp), h _ (by simp), h _ (by simp)⟩
    · exact group3_in n (by simp only [List.length_cons] at hl; omega) (fun z hz => h z (by simp [hz])) r hr
  | 0, _ :: _, hl, _, _, _ => by simp at hl
  | n + 1, [], hl, _, _, _ => by simp at hl
  | n + 1, [_], hl, _, _, _ => by simp at hl; omega
  | n + 1, [_, _], hl, _, _, _ => by simp at hl; omega
theorem group4_in : ∀ (n : Nat) {l : List Int}, l.length = n * 4 → (∀ z ∈ l, In z) → ∀ r ∈ group4 l, In r.1 ∧ In r.2.1 ∧ In r.2.2.1 ∧ In r.2.2.2
  | 0, [], _, _, r, hr => by simp [group4] at hr
  | n + 1, a :: b :: c :: d :: l, hl, h, r, hr => by
    simp only [group4, List.mem_cons] at hr
    rcases hr with rfl | hr
    · exact ⟨h _ (by simp), h _ (by simp), h _ (by simp), h _ (by simp)⟩
    · exact group4_in n (by simp only [List.length_cons] at hl; omega) (fun z hz => h z (by simp [hz])) r hr
  | 0, _ :: _, hl, _, _, _ => by simp at hl
  | n + 1, [], hl, _, _, _ => by simp at hl
  | n + 1, [_], hl, _, _, _ => by simp at hl; omega
  | n + 1, [_, _], hl, _, _, _ => by simp at hl; omega
  | n + 1, [_, _, _], hl, _, _, _ => by simp at hl; omega
end Lu
