/- THE PLAIN SIDE of layer 7, its bytes: a setup's numbers, what is read of bytes, and the laws. No Go in sight. -/
import Derived.Test.YtnjckaifgmliaaaPlainSetup
import Derived.Test.YtnjckaifgmliaaaPlainPack
set_option linter.unusedSimpArgs false
set_option linter.unusedVariables false
namespace Lu

def flat2 (l : List (Int × Int)) : List Int := l.flatMap fun r => [r.1, r.2]
def flat3i (l : List (Int × Int × Int)) : List Int := l.flatMap fun r => [r.1, r.2.1, r.2.2]
def flat4 (l : List (Int × Int × Int × Int)) : List Int := l.flatMap fun r => [r.1, r.2.1, r.2.2.1, r.2.2.2]
theorem flat2_cons (x : Int × Int) (l) : flat2 (x :: l) = x.1 :: x.2 :: flat2 l := rfl
theorem flat3i_cons (x : Int × Int × Int) (l) : flat3i (x :: l) = x.1 :: x.2.1 :: x.2.2 :: flat3i l := rfl
theorem flat4_cons (x : Int × Int × Int × Int) (l) : flat4 (x :: l) = x.1 :: x.2.1 :: x.2.2.1 :: x.2.2.2 :: flat4 l := rfl
theorem flat2_length (l) : (flat2 l).length = l.length * 2 := by
  induction l with
  | nil => rfl
  | cons x l ih => rw [flat2_cons]; simp only [List.length_cons, ih]; omega
theorem flat3i_length (l) : (flat3i l).length = l.length * 3 := by
  induction l with
  | nil => rfl
  | cons x l ih => rw [flat3i_cons]; simp only [List.length_cons, ih]; omega
theorem flat4_length (l) : (flat4 l).length = l.length * 4 := by
  induction l with
  | nil => rfl
  | cons x l ih => rw [flat4_cons]; simp only [List.length_cons, ih]; omega
/-- Numbers, in groups. -/
def group2 : List Int → List (Int × Int)
  | a :: b :: l => (a, b) :: group2 l
  | _ => []
def group3 : List Int → List (Int × Int × Int)
  | a :: b :: c :: l => (a, b, c) :: group3 l
  | _ => []
def group4 : List Int → List (Int × Int × Int × Int)
  | a :: b :: c :: d :: l => (a, b, c, d) :: group4 l
  | _ => []
theorem group2_flat (l) : group2 (flat2 l) = l := by
  induction l with
  | nil => rfl
  | cons x l ih => rw [flat2_cons]; show (x.1, x.2) :: group2 (flat2 l) = _; rw [ih]
theorem group3_flat (l) : group3 (flat3i l) = l := by
  induction l with
  | nil => rfl
  | cons x l ih => rw [flat3i_cons]; show (x.1, x.2.1, x.2.2) :: group3 (flat3i l) = _; rw [ih]
theorem group4_flat (l) : group4 (flat4 l) = l := by
  induction l with
  | nil => rfl
  | cons x l ih => rw [flat4_cons]; show (x.1, x.2.1, x.2.2.1, x.2.2.2) :: group4 (flat4 l) = _; rw [ih]
theorem flat2_group : ∀ (n : Nat) (l : List Int), l.length = n * 2 → flat2 (group2 l) = l ∧ (group2 l).length = n
  | 0, [], _ => ⟨rfl, rfl⟩
  | n + 1, a :: b :: l, h => by
    obtain ⟨h1, h2⟩ := flat2_group n l (by simp only [List.length_cons] at h; omega)
    exact ⟨by show a :: b :: flat2 (group2 l) = _; rw [h1], by show (group2 l).length + 1 = _; rw [h2]⟩
  | 0, _ :: _, h => by simp at h
  | n + 1, [], h => by simp at h
  | n + 1, [_], h => by simp at h; omega
theorem flat3_group : ∀ (n : Nat) (l : List Int), l.length = n * 3 → flat3i (group3 l) = l ∧ (group3 l).length = n
  | 0, [], _ => ⟨rfl, rfl⟩
  | n + 1, a :: b :: c :: l, h => by
    obtain ⟨h1, h2⟩ := flat3_group n l (by simp only [List.length_cons] at h; omega)
    exact ⟨by show a :: b :: c :: flat3i (group3 l) = _; rw [h1], by show (group3 l).length + 1 = _; rw [h2]⟩
  | 0, _ :: _, h => by simp at h
  | n + 1, [], h => by simp at h
  | n + 1, [_], h => by simp at h; omega
  | n + 1, [_, _], h => by simp at h; omega
theorem flat4_group : ∀ (n : Nat) (l : List Int), l.length = n * 4 → flat4 (group4 l) = l ∧ (group4 l).length = n
  | 0, [], _ => ⟨rfl, rfl⟩
  | n + 1, a :: b :: c :: d :: l, h => by
    obtain ⟨h1, h2⟩ := flat4_group n l (by simp only [List.length_cons] at h; omega)
    exact ⟨by show a :: b :: c :: d :: flat4 (group4 l) = _; rw [h1], by show (group4 l).length + 1 = _; rw [h2]⟩
  | 0, _ :: _, h => by simp at h
  | n + 1, [], h => by simp at h
  | n + 1, [_], h => by simp at h; omega
  | n + 1, [_, _], h => by simp at h; omega
  | n + 1, [_, _, _], h => by simp at h; omega

/-- A setup's times, as they are written. -/
def timesL (s : Setup) : List Int := [s.allow, s.unit, s.cap, s.paidBreak, s.autoAfter, s.autoBreak, s.dayReg, s.dayOver, s.weekReg, s.nightFrom, s.nightTo]
def numbersP (s : Setup) : List Int :=
  [s.places] ++ ([(s.ways.length : Int)] ++ (flat3i s.ways ++ ([s.pn, s.pd] ++ ([(s.elements.length : Int)] ++ (flat4 s.elements ++ ([(s.classes.length : Int)] ++ (flat2 s.classes ++ ([(s.gears.length : Int)] ++ (flat2 s.gears ++
    (timesL s ++ ([(s.rates.length : Int)] ++ (s.rates ++ ([s.diff, s.least, s.fault] ++ ([(s.tiers.length : Int)] ++ flat2 s.tiers))))))))))))))

/-! ### What is read -/
def eyeN (st : Option (List Int)) (old : Int) : Int × Option (List Int) :=
  match st with
  | none => (old, none)
  | some b => match takeP b with
    | none => (old, none)
    | some (n, r) => (n, some r)
def eyeL : Option (List Int) → List Int → List Int × Option (List Int)
  | st, [] => ([], st)
  | st, z :: l => ((eyeN st z).1 :: (eyeL (eyeN st z).2 l).1, (eyeL (eyeN st z).2 l).2)
def eyeM (st : Option (List Int)) : Nat × Option (List Int) := if 64 < (eyeN st 0).1 then (0, none) else ((eyeN st 0).1.toNat, (eyeN st 0).2)
/-- A list of so many numbers each. -/
def eyeR (k : Nat) (st : Option (List Int)) : List Int × Option (List Int) := eyeL (eyeM st).2 (List.replicate ((eyeM st).1 * k) 0)
theorem eyeN_none (z : Int) : eyeN none z = (z, none) := rfl
theorem eyeL_none (l : List Int) : eyeL none l = (l, none) := by
  induction l with
  | nil => rfl
  | cons z l ih => show (z :: (eyeL none l).1, (eyeL none l).2) = _; rw [ih]
theorem eyeL_len (st : Option (List Int)) (l : List Int) : (eyeL st l).1.length = l.length := by
  induction l generalizing st with
  | nil => rfl
  | cons z l ih => show (eyeL _ l).1.length + 1 = _; rw [ih]; rfl
theorem eyeL_append (st : Option (List Int)) (a b : List Int) : eyeL st (a ++ b) = ((eyeL st a).1 ++ (eyeL (eyeL st a).2 b).1, (eyeL (eyeL st a).2 b).2) := by
  induction a generalizing st with
  | nil => rfl
  | cons z l ih =>
    rw [List.cons_append]
    show ((eyeN st z).1 :: (eyeL (eyeN st z).2 (l ++ b)).1, (eyeL (eyeN st z).2 (l ++ b)).2) = _
    rw [ih]
    rfl
theorem eyeN_yes {n : Int} (h : Pk n) (r : List Int) (z : Int) : eyeN (some (oneP n ++ r)) z = (n, some r) := by
  unfold eyeN
  simp only [takeP_one h]
theorem eyeL_yes {l : List Int} (h : ∀ n ∈ l, Pk n) (r zs : List Int) (hl : zs.length = l.length) : eyeL (some (manyP l ++ r)) zs = (l, some r) := by
  induction l generalizing zs with
  | nil => rw [List.length_nil] at hl; rw [List.eq_nil_of_length_eq_zero hl]; rfl
  | cons n l ih =>
    cases zs with
    | nil => simp at hl
    | cons z zs =>
      rw [manyP_cons, List.append_assoc]
      show ((eyeN _ z).1 :: (eyeL (eyeN _ z).2 zs).1, (eyeL (eyeN _ z).2 zs).2) = _
      rw [eyeN_yes (h n (by simp))]
      simp only
      rw [ih (fun m hm => h m (by simp [hm])) zs (by simpa using hl)]
theorem eyeM_yes {n : Nat} (h : n ≤ 64) (r : List Int) : eyeM (some (oneP (n : Int) ++ r)) = (n, some r) := by
  unfold eyeM
  rw [eyeN_yes ⟨by omega, by omega⟩, if_neg (by simp only; omega)]
  simp
theorem eyeR_yes {k n : Nat} {l : List Int} (h : n ≤ 64) (hp : ∀ z ∈ l, Pk z) (hl : l.length = n * k) (r : List Int) : eyeR k (some (oneP (n : Int) ++ (manyP l ++ r))) = (l, some r) ∧ (eyeM (some (oneP (n : Int) ++ (manyP l ++ r)))).1 = n := by
  unfold eyeR
  rw [eyeM_yes h]
  exact ⟨eyeL_yes hp r _ (by rw [List.length_replicate, hl]), rfl⟩
/-- Back: what has been read was written so. -/
theorem eyeN_some {st : Option (List Int)} {z n : Int} {r : List Int} (hb : ∀ b, st = some b → Bytes b) (h : eyeN st z = (n, some r)) : st = some (oneP n ++ r) ∧ Pk n ∧ Bytes r := by
  unfold eyeN at h
  cases st with
  | none => simp at h
  | some b =>
    simp only at h
    cases ht : takeP b with
    | none => rw [ht] at h; simp at h
    | some x =>
      obtain ⟨m, r'⟩ := x
      rw [ht] at h
      simp only [Prod.mk.injEq, Option.some.injEq] at h
      obtain ⟨rfl, rfl⟩ := h
      have := takeP_some (hb b rfl) ht
      exact ⟨by rw [this.1], this.2, takeP_bytes (hb b rfl) ht⟩
theorem eyeL_some {st : Option (List Int)} {zs l r : List Int} (hb : ∀ b, st = some b → Bytes b) (h : eyeL st zs = (l, some r)) : st = some (manyP l ++ r) ∧ (∀ n ∈ l, Pk n) ∧ Bytes r := by
  induction zs generalizing st l with
  | nil =>
    simp only [eyeL, Prod.mk.injEq] at h
    obtain ⟨rfl, rfl⟩ := h
    exact ⟨rfl, fun n hn => by simp at hn, hb r rfl⟩
  | cons z zs ih =>
    simp only [eyeL, Prod.mk.injEq] at h
    obtain ⟨rfl, h2⟩ := h
    obtain ⟨m, st1, e⟩ : ∃ m st1, eyeN st z = (m, st1) := ⟨_, _, rfl⟩
    rw [e] at h2 ⊢
    simp only at h2 ⊢
    cases st1 with
    | none => rw [eyeL_none] at h2; simp at h2
    | some r1 =>
      obtain ⟨h3, h4, h5⟩ := eyeN_some hb e
      obtain ⟨h6, h7, h8⟩ := ih (st := some r1) (l := (eyeL (some r1) zs).1) (fun b hb' => by simp only [Option.some.injEq] at hb'; subst hb'; exact h5) (by rw [← h2])
      refine ⟨?_, ?_, h8⟩
      · simp only [Option.some.injEq] at h6
        rw [h3, manyP_cons, List.append_assoc, ← h6]
      · intro n hn
        rcases List.mem_cons.1 hn with rfl | hn
        · exact h4
        · exact h7 n hn
theorem eyeM_some {st : Option (List Int)} {n : Nat} {r : List Int} (hb : ∀ b, st = some b → Bytes b) (h : eyeM st = (n, some r)) : st = some (oneP (n : Int) ++ r) ∧ Bytes r ∧ n ≤ 64 := by
  unfold eyeM at h
  split at h
  · simp at h
  · rename_i hle
    simp only [Prod.mk.injEq] at h
    obtain ⟨h1, h2⟩ := h
    obtain ⟨a, b, c⟩ := eyeN_some (n := (eyeN st 0).1) hb (by rw [← h2])
    have := b.1
    refine ⟨?_, c, by omega⟩
    rw [a]
    congr 2
    congr 1
    omega
theorem eyeR_some {k : Nat} {st : Option (List Int)} {l r : List Int} (hb : ∀ b, st = some b → Bytes b) (h : eyeR k st = (l, some r)) : st = some (oneP (((eyeM st).1 : Nat) : Int) ++ (manyP l ++ r)) ∧ (∀ n ∈ l, Pk n) ∧ Bytes r ∧ l.length = (eyeM st).1 * k ∧ (eyeM st).1 ≤ 64 := by
  unfold eyeR at h
  have hlen := eyeL_len (eyeM st).2 (List.replicate ((eyeM st).1 * k) 0)
  rw [h, List.length_replicate] at hlen
  obtain ⟨n, st1, e⟩ : ∃ n st1, eyeM st = (n, st1) := ⟨_, _, rfl⟩
  rw [e] at h hlen ⊢
  simp only at h hlen ⊢
  cases st1 with
  | none => rw [eyeL_none] at h; simp at h
  | some r1 =>
    obtain ⟨a, b, c⟩ := eyeM_some hb e
    obtain ⟨a', b', c'⟩ := eyeL_some (st := some r1) (fun b hb' => by simp only [Option.some.injEq] at hb'; subst hb'; assumption) h
    simp only [Option.some.injEq] at a'
    exact ⟨by rw [a, a'], b', c', hlen, c⟩
end Lu
