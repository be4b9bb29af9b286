/- THE PLAIN SIDE of layer 5 (pack): a number's bytes, and the number that bytes begin with. No Go in sight. -/
import Derived.Test.YtnjckaifgmliaaaPlainNum
set_option linter.unusedSimpArgs false
set_option linter.unusedVariables false
namespace Lu

/-- A number's digits, in bytes, the highest first. -/
def digN (n : Nat) : List Int := if _h : n = 0 then [] else digN (n / 256) ++ [((n % 256 : Nat) : Int)]
termination_by n
decreasing_by omega
theorem digN_zero : digN 0 = [] := by rw [digN]; simp
theorem digN_step {n : Nat} (h : n ≠ 0) : digN n = digN (n / 256) ++ [((n % 256 : Nat) : Int)] := by rw [digN, dif_neg h]
/-- What digits are. -/
def valN (d : List Int) : Int := d.foldl (fun n c => n * 256 + c) 0
theorem valN_snoc (d : List Int) (c : Int) : valN (d ++ [c]) = valN d * 256 + c := by unfold valN; simp
def Bytes (l : List Int) : Prop := ∀ c ∈ l, 0 ≤ c ∧ c ≤ 255
theorem Bytes.append {a b : List Int} (ha : Bytes a) (hb : Bytes b) : Bytes (a ++ b) := by
  intro c hc
  rcases List.mem_append.1 hc with h | h
  · exact ha c h
  · exact hb c h
theorem Bytes.left {a b : List Int} (h : Bytes (a ++ b)) : Bytes a := fun c hc => h c (List.mem_append_left _ hc)
theorem Bytes.right {a b : List Int} (h : Bytes (a ++ b)) : Bytes b := fun c hc => h c (List.mem_append_right _ hc)
theorem bytes_digN (n : Nat) : Bytes (digN n) := by
  induction n using Nat.strongRecOn with
  | _ n ih =>
    by_cases h : n = 0
    · subst h; rw [digN_zero]; intro c hc; simp at hc
    · rw [digN_step h]
      refine (ih (n / 256) (by omega)).append ?_
      intro c hc
      simp only [List.mem_cons, List.not_mem_nil, or_false] at hc
      subst hc
      omega
theorem valN_digN (n : Nat) : valN (digN n) = n := by
  induction n using Nat.strongRecOn with
  | _ n ih =>
    by_cases h : n = 0
    · subst h; rw [digN_zero]; rfl
    · rw [digN_step h, valN_snoc, ih (n / 256) (by omega)]
      omega
theorem digN_len_le (n k : Nat) (h : n < 256 ^ k) : (digN n).length ≤ k := by
  induction k generalizing n with
  | zero => rw [Nat.pow_zero] at h; obtain rfl : n = 0 := by omega
            rw [digN_zero]; simp
  | succ k ih =>
    by_cases h0 : n = 0
    · subst h0; rw [digN_zero]; simp
    · rw [digN_step h0, List.length_append]
      have := ih (n / 256) (by rw [Nat.pow_succ] at h; omega)
      simp only [List.length_cons, List.length_nil]
      omega
theorem digN_len_ge (n k : Nat) (h : 256 ^ k ≤ n) : k + 1 ≤ (digN n).length := by
  induction k generalizing n with
  | zero =>
    rw [Nat.pow_zero] at h
    rw [digN_step (by omega), List.length_append]
    simp
  | succ k ih =>
    have h0 : n ≠ 0 := by have : 0 < 256 ^ (k + 1) := Nat.pow_pos (by decide); omega
    rw [digN_step h0, List.length_append]
    have := ih (n / 256) (by rw [Nat.pow_succ] at h; omega)
    simp only [List.length_cons, List.length_nil]
    omega
theorem digN_head {n : Nat} (h : n ≠ 0) : 1 ≤ (digN n).headD 0 := by
  induction n using Nat.strongRecOn with
  | _ n ih =>
    rw [digN_step h]
    by_cases h2 : n / 256 = 0
    · rw [h2, digN_zero]
      show (1 : Int) ≤ ((n % 256 : Nat) : Int)
      omega
    · have := ih (n / 256) (by omega) h2
      cases hd : digN (n / 256) with
      | nil => rw [hd] at this; simp at this
      | cons a l => rw [hd] at this; simpa using this
theorem snoc_ind {P : List Int → Prop} (h0 : P []) (h1 : ∀ d c, P d → P (d ++ [c])) (d : List Int) : P d := by
  have : ∀ r : List Int, P r.reverse := fun r => by
    induction r with
    | nil => exact h0
    | cons a l ih => rw [List.reverse_cons]; exact h1 _ _ ih
  simpa using this d.reverse
theorem valN_nonneg (d : List Int) (h : Bytes d) : 0 ≤ valN d := by
  induction d using snoc_ind with
  | h0 => decide
  | h1 d c ih =>
    rw [valN_snoc]
    have h1 := ih h.left
    have h2 := h c (by simp)
    omega
theorem valN_lt (d : List Int) (h : Bytes d) : valN d < 256 ^ d.length := by
  induction d using snoc_ind with
  | h0 => decide
  | h1 d c ih =>
    rw [valN_snoc]
    have h1 := ih h.left
    have h2 := h c (by simp)
    simp only [List.length_append, List.length_cons, List.length_nil, Int.pow_succ]
    omega
/-- Digits without a leading 0 are those of what they are. -/
theorem digN_valN (d : List Int) (h : Bytes d) (h0 : d ≠ [] → d.headD 0 ≠ 0) : digN (valN d).toNat = d := by
  revert h0
  induction d using snoc_ind with
  | h0 => exact fun _ => digN_zero
  | h1 d c ih =>
    intro h0
    have hb := h.left
    have hc := h c (by simp)
    have hv := valN_nonneg d hb
    by_cases hd : d = []
    · subst hd
      have : c ≠ 0 := by simpa using h0 (by simp)
      rw [valN_snoc]
      show digN ((0 : Int) * 256 + c).toNat = [c]
      rw [digN_step (by omega), show ((0 : Int) * 256 + c).toNat / 256 = 0 by omega, digN_zero]
      simp only [List.nil_append, List.cons.injEq, and_true]
      omega
    · have hh : d.headD 0 ≠ 0 := by
        have := h0 (by simp)
        cases d with
        | nil => exact absurd rfl hd
        | cons a l => simpa using this
      have ih := ih hb (fun _ => hh)
      have hv1 : valN d ≠ 0 := fun z => by
        rw [z] at ih
        rw [show (0 : Int).toNat = 0 from rfl, digN_zero] at ih
        exact hd ih.symm
      rw [valN_snoc, digN_step (by omega), show (valN d * 256 + c).toNat / 256 = (valN d).toNat by omega, ih]
      congr 2
      omega
/-- A number's bytes: how many, and its digits. -/
def oneP (n : Int) : List Int := ((digN n.toNat).length : Int) :: digN n.toNat
def manyP (l : List Int) : List Int := l.flatMap oneP
/-- May it be written? -/
def Pk (n : Int) : Prop := 0 ≤ n ∧ n ≤ 9223372036854775807
theorem Pk.len {n : Int} (h : Pk n) : (digN n.toNat).length ≤ 8 := digN_len_le _ _ (by have := h.2; have := h.1; omega)
theorem bytes_oneP {n : Int} (h : Pk n) : Bytes (oneP n) := by
  intro c hc
  rcases List.mem_cons.1 hc with rfl | hc
  · have := h.len; omega
  · exact bytes_digN _ c hc
theorem bytes_manyP {l : List Int} (h : ∀ n ∈ l, Pk n) : Bytes (manyP l) := by
  intro c hc
  unfold manyP at hc
  obtain ⟨n, hn, hc⟩ := List.mem_flatMap.1 hc
  exact bytes_oneP (h n hn) c hc
theorem manyP_append (a b : List Int) : manyP (a ++ b) = manyP a ++ manyP b := by unfold manyP; simp
theorem manyP_cons (n : Int) (b : List Int) : manyP (n :: b) = oneP n ++ manyP b := by unfold manyP; simp
/-- The number that bytes begin with, and what is left. -/
def takeP : List Int → Option (Int × List Int)
  | [] => none
  | c :: r => if 8 < c ∨ (r.length : Int) < c ∨ c = 8 ∧ 128 ≤ r.headD 0 ∨ 0 < c ∧ r.headD 0 = 0 then none else some (valN (r.take c.toNat), r.drop c.toNat)
theorem takeP_cons (c : Int) (r : List Int) : takeP (c :: r) = if 8 < c ∨ (r.length : Int) < c ∨ c = 8 ∧ 128 ≤ r.headD 0 ∨ 0 < c ∧ r.headD 0 = 0 then none else some (valN (r.take c.toNat), r.drop c.toNat) := rfl
theorem takeP_one {n : Int} (h : Pk n) (r : List Int) : takeP (oneP n ++ r) = some (n, r) := by
  have hl := h.len
  have hb := bytes_digN n.toNat
  have hv := valN_digN n.toNat
  have h0 := h.1
  have hd : n.toNat ≠ 0 → 1 ≤ (digN n.toNat).headD 0 := digN_head
  have h8 : (digN n.toNat).length = 8 → (digN n.toNat).headD 0 < 128 := by
    intro h8
    cases hD : digN n.toNat with
    | nil => rw [hD] at h8; simp at h8
    | cons a l =>
      rw [hD] at h8 hv hb
      have hl7 : l.length = 7 := by simpa using h8
      match l, hl7 with
      | [a1, a2, a3, a4, a5, a6, a7], _ =>
        simp only [valN, List.foldl_cons, List.foldl_nil] at hv
        have b1 := hb a1 (by simp)
        have b2 := hb a2 (by simp)
        have b3 := hb a3 (by simp)
        have b4 := hb a4 (by simp)
        have b5 := hb a5 (by simp)
        have b6 := hb a6 (by simp)
        have b7 := hb a7 (by simp)
        have := h.2
        show a < 128
        omega
  unfold oneP
  rw [List.cons_append, takeP_cons]
  have hhd : (digN n.toNat).length ≠ 0 → (digN n.toNat ++ r).headD 0 = (digN n.toNat).headD 0 := by
    intro hne
    cases hD : digN n.toNat with
    | nil => rw [hD] at hne; simp at hne
    | cons a l => rfl
  rw [if_neg]
  · rw [Int.toNat_natCast, List.take_left, List.drop_left, hv]
    congr 2
    omega
  · rintro (z | z | ⟨z, z2⟩ | ⟨z, z2⟩)
    · omega
    · rw [List.length_append] at z; omega
    · have h1 : (digN n.toNat).length = 8 := by omega
      rw [hhd (by omega)] at z2
      have := h8 h1
      omega
    · rw [hhd (by omega)] at z2
      by_cases hz : n.toNat = 0
      · rw [hz, digN_zero] at z; simp at z
      · have := hd hz; omega
theorem takeP_some {b r : List Int} {n : Int} (hb : Bytes b) (h : takeP b = some (n, r)) : b = oneP n ++ r ∧ Pk n := by
  cases b with
  | nil => simp [takeP] at h
  | cons c l =>
    rw [takeP_cons] at h
    split at h
    · simp at h
    · rename_i hn
      simp only [Option.some.injEq, Prod.mk.injEq] at h
      obtain ⟨h1, h2⟩ := h
      have hc := hb c (by simp)
      have hl : Bytes l := fun x hx => hb x (by simp [hx])
      have hlen : (l.take c.toNat).length = c.toNat := by rw [List.length_take]; omega
      have ht : Bytes (l.take c.toNat) := fun x hx => hl x (List.mem_of_mem_take hx)
      have hnn := valN_nonneg _ ht
      have hhd : 0 < c → (l.take c.toNat).headD 0 = l.headD 0 := by
        intro hp
        cases l with
        | nil => rw [List.take_nil]
        | cons a l =>
          obtain ⟨k, hk⟩ : ∃ k, c.toNat = k + 1 := ⟨c.toNat - 1, by omega⟩
          rw [hk]
          rfl
      have e := digN_valN _ ht (fun hne => by
        have hp : 0 < c := by
          apply Classical.byContradiction
          intro hz
          apply hne
          rw [show c.toNat = 0 by omega]
          rfl
        rw [hhd hp]
        intro z
        exact hn (.inr (.inr (.inr ⟨hp, z⟩))))
      rw [h1] at e hnn
      refine ⟨?_, hnn, ?_⟩
      · unfold oneP
        rw [e, hlen, ← h2, List.cons_append, List.take_append_drop]
        congr 1
        omega
      · by_cases h8 : c = 8
        · have hl8 : (l.take c.toNat).length = 8 := by rw [hlen, h8]; rfl
          have hh : (l.take c.toNat).headD 0 < 128 := by
            rw [hhd (by omega)]
            apply Classical.byContradiction
            intro z
            exact hn (.inr (.inr (.inl ⟨h8, by omega⟩)))
          rw [← h1]
          generalize l.take c.toNat = d at hl8 hh ht
          match d, hl8 with
          | [a, a1, a2, a3, a4, a5, a6, a7], _ =>
            have hh : a < 128 := hh
            simp only [valN, List.foldl_cons, List.foldl_nil]
            have b1 := ht a1 (by simp)
            have b2 := ht a2 (by simp)
            have b3 := ht a3 (by simp)
            have b4 := ht a4 (by simp)
            have b5 := ht a5 (by simp)
            have b6 := ht a6 (by simp)
            have b7 := ht a7 (by simp)
            omega
        · have hv := valN_lt _ ht
          rw [h1, hlen] at hv
          have e : ∀ k : Fin 8, (256 : Int) ^ k.val ≤ 72057594037927936 := by decide
          have hp := e ⟨c.toNat, by omega⟩
          simp only at hp
          omega
theorem takeP_bytes {b r : List Int} {n : Int} (hb : Bytes b) (h : takeP b = some (n, r)) : Bytes r := by
  have := (takeP_some hb h).1
  subst this
  exact hb.right
theorem oneP_pos (n : Int) : 0 < (oneP n).length := by unfold oneP; simp
end Lu
