/- THE PLAIN SIDE of layer 7's bytes, as the document reads them: all numbers first, then the setup that they may be. No Go in sight. -/
import Derived.Test.YtnjckaifgmliaaaPlainHand2
set_option linter.unusedSimpArgs false
set_option linter.unusedVariables false
namespace Lu

theorem manyP_nil' : manyP [] = [] := rfl
/-- A beginning that is numbers is a beginning of the numbers. -/
theorem many_prefix {out cur : List Int} : ∀ {l : List Int}, (∀ n ∈ out, Pk n) → (∀ n ∈ l, Pk n) → manyP l = manyP out ++ cur → ∃ m, l = out ++ m ∧ cur = manyP m := by
  induction out with
  | nil => intro l _ _ h; exact ⟨l, rfl, by rw [h, manyP_nil', List.nil_append]⟩
  | cons n out ih =>
    intro l ho hl h
    rw [manyP_cons, List.append_assoc] at h
    cases l with
    | nil =>
      have h1 := congrArg List.length h
      have h2 := oneP_pos n
      rw [manyP_nil', List.length_nil, List.length_append] at h1
      omega
    | cons m l =>
      rw [manyP_cons] at h
      have h1 := takeP_one (hl m (by simp)) (manyP l)
      rw [h, takeP_one (ho n (by simp))] at h1
      simp only [Option.some.injEq, Prod.mk.injEq] at h1
      obtain ⟨rfl, h2⟩ := h1
      obtain ⟨k, rfl, hk⟩ := ih (fun x hx => ho x (by simp [hx])) (fun x hx => hl x (by simp [hx])) h2.symm
      exact ⟨k, rfl, hk⟩
theorem manyP_zero {l : List Int} (h : manyP l = []) : l = [] := by
  cases l with
  | nil => rfl
  | cons n l =>
    have h1 := congrArg List.length h
    have h2 := oneP_pos n
    rw [manyP_cons, List.length_append, List.length_nil] at h1
    omega
theorem takeP_pos {b r : List Int} {n : Int} (hb : Bytes b) (h : takeP b = some (n, r)) : r.length < b.length := by
  have h1 := (takeP_some hb h).1
  have h2 := oneP_pos n
  rw [h1, List.length_append]
  omega
/-- All numbers that bytes are: these, if there are any such. -/
def AllIs (b l : List Int) : Prop := (∀ n ∈ l, Pk n) ∧ l.length ≤ b.length ∧ ∀ m, (∀ n ∈ m, Pk n) → b = manyP m → l = m
theorem AllIs.done {b l : List Int} (h : b = manyP l) (hl : ∀ n ∈ l, Pk n) (hn : l.length ≤ b.length) : AllIs b l := by
  refine ⟨hl, hn, fun m hm e => ?_⟩
  obtain ⟨k, rfl, hk⟩ := many_prefix (cur := []) hl hm (by rw [List.append_nil, ← e, h])
  rw [manyP_zero hk.symm, List.append_nil]
theorem AllIs.none {b out cur : List Int} (h : b = manyP out ++ cur) (ho : ∀ n ∈ out, Pk n) (hc : cur ≠ []) (ht : takeP cur = none) : AllIs b [] := by
  refine ⟨fun n hn => by simp at hn, by simp, fun m hm e => ?_⟩
  exfalso
  obtain ⟨k, rfl, hk⟩ := many_prefix (cur := cur) ho hm (by rw [← e, h])
  cases k with
  | nil => exact hc (by rw [hk, manyP_nil'])
  | cons n k =>
    rw [hk, manyP_cons, takeP_one (hm n (by simp))] at ht
    cases ht

/-! ### The setup that numbers may be -/
def atP (l : List Int) (p : Nat) : Int := l.getD p 0
def cntP (l : List Int) (p : Nat) : Nat := (min (atP l p) 100).toNat
def read1 (l : List Int) (p n : Nat) : List Int := (List.range n).map fun i => atP l (p + i)
def read2 (l : List Int) (p n : Nat) : List (Int × Int) := (List.range n).map fun i => (atP l (p + i * 2), atP l (p + i * 2 + 1))
def read3 (l : List Int) (p n : Nat) : List (Int × Int × Int) := (List.range n).map fun i => (atP l (p + i * 3), atP l (p + i * 3 + 1), atP l (p + i * 3 + 2))
def read4 (l : List Int) (p n : Nat) : List (Int × Int × Int × Int) := (List.range n).map fun i => (atP l (p + i * 4), atP l (p + i * 4 + 1), atP l (p + i * 4 + 2), atP l (p + i * 4 + 3))
def q1 (l : List Int) : Nat := 2 + cntP l 1 * 3
def q2 (l : List Int) : Nat := q1 l + 3 + cntP l (q1 l + 2) * 4
def q3 (l : List Int) : Nat := q2 l + 1 + cntP l (q2 l) * 2
def q4 (l : List Int) : Nat := q3 l + 1 + cntP l (q3 l) * 2
def q5 (l : List Int) : Nat := q4 l + 12 + cntP l (q4 l + 11)
def refSetup (l : List Int) : Setup :=
  ⟨atP l 0, read3 l 2 (cntP l 1), atP l (q1 l), atP l (q1 l + 1), read4 l (q1 l + 3) (cntP l (q1 l + 2)), read2 l (q2 l + 1) (cntP l (q2 l)), read2 l (q3 l + 1) (cntP l (q3 l)),
   atP l (q4 l), atP l (q4 l + 1), atP l (q4 l + 2), atP l (q4 l + 3), atP l (q4 l + 4), atP l (q4 l + 5), atP l (q4 l + 6), atP l (q4 l + 7), atP l (q4 l + 8), atP l (q4 l + 9), atP l (q4 l + 10),
   read1 l (q4 l + 12) (cntP l (q4 l + 11)), atP l (q5 l), atP l (q5 l + 1), atP l (q5 l + 2), read2 l (q5 l + 4) (cntP l (q5 l + 3))⟩
theorem cntP_le (l : List Int) (p : Nat) : cntP l p ≤ 100 := by unfold cntP; omega
theorem atP_drop {l : List Int} {p : Nat} {x : Int} {r : List Int} (h : l.drop p = x :: r) : atP l p = x ∧ l.drop (p + 1) = r := by
  have h1 : l[p]? = some x := by
    have : (l.drop p)[0]? = some x := by rw [h]; rfl
    rw [List.getElem?_drop] at this
    simpa using this
  refine ⟨by unfold atP; rw [List.getD_eq_getElem?_getD, h1]; rfl, ?_⟩
  rw [← List.drop_drop, h]
  rfl
theorem cntP_drop {l : List Int} {p n : Nat} {r : List Int} (h : l.drop p = (n : Int) :: r) (hn : n ≤ 64) : cntP l p = n ∧ l.drop (p + 1) = r := by
  obtain ⟨h1, h2⟩ := atP_drop h
  exact ⟨by unfold cntP; rw [h1]; omega, h2⟩
theorem read1_drop {l : List Int} (xs : List Int) : ∀ {p : Nat} {r : List Int}, l.drop p = xs ++ r → read1 l p xs.length = xs ∧ l.drop (p + xs.length) = r := by
  induction xs with
  | nil => intro p r h; exact ⟨rfl, h⟩
  | cons x xs ih =>
    intro p r h
    obtain ⟨h1, h2⟩ := atP_drop h
    obtain ⟨h3, h4⟩ := ih h2
    refine ⟨?_, by rw [← h4, List.length_cons]; congr 1; omega⟩
    unfold read1 at h3 ⊢
    rw [List.length_cons, List.range_succ_eq_map, List.map_cons, List.map_map]
    simp only [Nat.add_zero, h1]
    congr 1
    refine Eq.trans ?_ h3
    apply List.map_congr_left
    intro i _
    show atP l (p + (i + 1)) = _
    congr 1; omega
theorem read2_drop {l : List Int} (xs : List (Int × Int)) : ∀ {p : Nat} {r : List Int}, l.drop p = flat2 xs ++ r → read2 l p xs.length = xs ∧ l.drop (p + xs.length * 2) = r := by
  induction xs with
  | nil => intro p r h; exact ⟨rfl, h⟩
  | cons x xs ih =>
    intro p r h
    obtain ⟨h1, h2⟩ := atP_drop h
    obtain ⟨h1', h2⟩ := atP_drop h2
    obtain ⟨h3, h4⟩ := ih h2
    refine ⟨?_, by rw [← h4, List.length_cons]; congr 1; omega⟩
    unfold read2 at h3 ⊢
    rw [List.length_cons, List.range_succ_eq_map, List.map_cons, List.map_map]
    simp only [Nat.zero_mul, Nat.add_zero, h1, h1']
    congr 1
    refine Eq.trans ?_ h3
    apply List.map_congr_left
    intro i _
    show (atP l (p + (i + 1) * 2), atP l (p + (i + 1) * 2 + 1)) = _
    rw [show p + (i + 1) * 2 = p + 1 + 1 + i * 2 by omega]
theorem read3_drop {l : List Int} (xs : List (Int × Int × Int)) : ∀ {p : Nat} {r : List Int}, l.drop p = flat3i xs ++ r → read3 l p xs.length = xs ∧ l.drop (p + xs.length * 3) = r := by
  induction xs with
  | nil => intro p r h; exact ⟨rfl, h⟩
  | cons x xs ih =>
    intro p r h
    obtain ⟨h1, h2⟩ := atP_drop h
    obtain ⟨h1', h2⟩ := atP_drop h2
    obtain ⟨h1'', h2⟩ := atP_drop h2
    obtain ⟨h3, h4⟩ := ih h2
    refine ⟨?_, by rw [← h4, List.length_cons]; congr 1; omega⟩
    unfold read3 at h3 ⊢
    rw [List.length_cons, List.range_succ_eq_map, List.map_cons, List.map_map]
    simp only [Nat.zero_mul, Nat.add_zero, h1, h1', Nat.add_assoc] at h1'' ⊢
    simp only [h1', h1'']
    congr 1
    refine Eq.trans ?_ h3
    apply List.map_congr_left
    intro i _
    show (atP l (p + (i + 1) * 3), atP l (p + ((i + 1) * 3 + 1)), atP l (p + ((i + 1) * 3 + 2))) = _
    rw [show p + (i + 1) * 3 = p + 1 + 1 + 1 + i * 3 by omega, show p + ((i + 1) * 3 + 1) = p + 1 + 1 + 1 + i * 3 + 1 by omega, show p + ((i + 1) * 3 + 2) = p + 1 + 1 + 1 + i * 3 + 2 by omega]
theorem read4_drop {l : List Int} (xs : List (Int × Int × Int × Int)) : ∀ {p : Nat} {r : List Int}, l.drop p = flat4 xs ++ r → read4 l p xs.length = xs ∧ l.drop (p + xs.length * 4) = r := by
  induction xs with
  | nil => intro p r h; exact ⟨rfl, h⟩
  | cons x xs ih =>
    intro p r h
    obtain ⟨h1, h2⟩ := atP_drop h
    obtain ⟨h1', h2⟩ := atP_drop h2
    obtain ⟨h1'', h2⟩ := atP_drop h2
    obtain ⟨h1''', h2⟩ := atP_drop h2
    obtain ⟨h3, h4⟩ := ih h2
    refine ⟨?_, by rw [← h4, List.length_cons]; congr 1; omega⟩
    unfold read4 at h3 ⊢
    rw [List.length_cons, List.range_succ_eq_map, List.map_cons, List.map_map]
    simp only [Nat.zero_mul, Nat.add_zero, h1, h1', Nat.add_assoc] at h1'' h1''' ⊢
    simp only [h1', h1'', h1''']
    congr 1
    refine Eq.trans ?_ h3
    apply List.map_congr_left
    intro i _
    show (atP l (p + (i + 1) * 4), atP l (p + ((i + 1) * 4 + 1)), atP l (p + ((i + 1) * 4 + 2)), atP l (p + ((i + 1) * 4 + 3))) = _
    rw [show p + (i + 1) * 4 = p + 1 + 1 + 1 + 1 + i * 4 by omega, show p + ((i + 1) * 4 + 1) = p + 1 + 1 + 1 + 1 + i * 4 + 1 by omega, show p + ((i + 1) * 4 + 2) = p + 1 + 1 + 1 + 1 + i * 4 + 2 by omega, show p + ((i + 1) * 4 + 3) = p + 1 + 1 + 1 + 1 + i * 4 + 3 by omega]
set_option maxHeartbeats 1000000 in
theorem refSetup_numbers {s : Setup} (h : Short s) : refSetup (numbersP s) = s := by
  obtain ⟨s1, s2, s3, s4, s5, s6⟩ := h
  obtain ⟨l, hl⟩ : ∃ l, numbersP s = l := ⟨_, rfl⟩
  rw [hl]
  have d0 : l.drop 0 = s.places :: ((s.ways.length : Int) :: (flat3i s.ways ++ (s.pn :: s.pd :: ((s.elements.length : Int) :: (flat4 s.elements ++ ((s.classes.length : Int) :: (flat2 s.classes ++ ((s.gears.length : Int) :: (flat2 s.gears ++
      (s.allow :: s.unit :: s.cap :: s.paidBreak :: s.autoAfter :: s.autoBreak :: s.dayReg :: s.dayOver :: s.weekReg :: s.nightFrom :: s.nightTo :: ((s.rates.length : Int) :: (s.rates ++ (s.diff :: s.least :: s.fault :: ((s.tiers.length : Int) :: (flat2 s.tiers ++ []))))))))))))))) := by
    rw [← hl, List.append_nil]
    rfl
  clear hl
  obtain ⟨a0, d⟩ := atP_drop d0
  obtain ⟨c1, d⟩ := cntP_drop d s1
  obtain ⟨r1, d⟩ := read3_drop _ d
  have e1 : 0 + 1 + 1 + s.ways.length * 3 = q1 l := by unfold q1; rw [show 0 + 1 = 1 from rfl] at c1; rw [c1]
  rw [e1] at d
  obtain ⟨a1, d⟩ := atP_drop d
  obtain ⟨a2, d⟩ := atP_drop d
  obtain ⟨c2, d⟩ := cntP_drop d s2
  obtain ⟨r2, d⟩ := read4_drop _ d
  have e2 : q1 l + 1 + 1 + 1 + s.elements.length * 4 = q2 l := by unfold q2; rw [show q1 l + 1 + 1 = q1 l + 2 from rfl] at c2; rw [c2]
  rw [e2] at d
  obtain ⟨c3, d⟩ := cntP_drop d s3
  obtain ⟨r3, d⟩ := read2_drop _ d
  have e3 : q2 l + 1 + s.classes.length * 2 = q3 l := by unfold q3; rw [c3]
  rw [e3] at d
  obtain ⟨c4, d⟩ := cntP_drop d s4
  obtain ⟨r4, d⟩ := read2_drop _ d
  have e4 : q3 l + 1 + s.gears.length * 2 = q4 l := by unfold q4; rw [c4]
  rw [e4] at d
  obtain ⟨b0, d⟩ := atP_drop d
  obtain ⟨b1, d⟩ := atP_drop d
  obtain ⟨b2, d⟩ := atP_drop d
  obtain ⟨b3, d⟩ := atP_drop d
  obtain ⟨b4, d⟩ := atP_drop d
  obtain ⟨b5, d⟩ := atP_drop d
  obtain ⟨b6, d⟩ := atP_drop d
  obtain ⟨b7, d⟩ := atP_drop d
  obtain ⟨b8, d⟩ := atP_drop d
  obtain ⟨b9, d⟩ := atP_drop d
  obtain ⟨b10, d⟩ := atP_drop d
  obtain ⟨c5, d⟩ := cntP_drop d s5
  obtain ⟨r5, d⟩ := read1_drop _ d
  have e5 : q4 l + 1 + 1 + 1 + 1 + 1 + 1 + 1 + 1 + 1 + 1 + 1 + 1 + s.rates.length = q5 l := by
    unfold q5
    rw [show q4 l + 1 + 1 + 1 + 1 + 1 + 1 + 1 + 1 + 1 + 1 + 1 = q4 l + 11 from rfl] at c5
    rw [c5]
  rw [e5] at d
  obtain ⟨f0, d⟩ := atP_drop d
  obtain ⟨f1, d⟩ := atP_drop d
  obtain ⟨f2, d⟩ := atP_drop d
  obtain ⟨c6, d⟩ := cntP_drop d s6
  obtain ⟨r6, d⟩ := read2_drop _ d
  clear d
  simp only [Nat.add_assoc, Nat.reduceAdd, Nat.zero_add] at *
  unfold refSetup
  rw [a0, c1, r1, a1, a2, c2, r2, c3, r3, c4, r4, b0, b1, b2, b3, b4, b5, b6, b7, b8, b9, b10, c5, r5, f0, f1, f2, c6, r6]
/-- What the document reads. -/
theorem ref_read {b l : List Int} (hb : Bytes b) (h : AllIs b l) : readP b = if setupP (refSetup l) = true ∧ manyP (numbersP (refSetup l)) = b then (refSetup l, 0) else (noSetup, 70) := by
  by_cases hc : setupP (refSetup l) = true ∧ manyP (numbersP (refSetup l)) = b
  · rw [if_pos hc]
    exact Reads.read ⟨hc.1, hc.2.symm⟩
  · rw [if_neg hc]
    refine readP_no hb fun s hs => hc ?_
    have e := h.2.2 _ (setup_pk hs.1) hs.2
    rw [e, refSetup_numbers (short_of hs.1)]
    exact ⟨hs.1, hs.2.symm⟩
end Lu
