/- THE PLAIN SIDE of layer 9 (way), second part: a shortest walk's last way; rounds over all ways; all ways together; one way more. No Go in sight. -/
import Derived.Test.YtnjckaifgmliaaaPlainWay
set_option linter.unusedSimpArgs false
set_option linter.unusedVariables false
namespace Lu

/-- A table that tells how far all places are. -/
def Dists (ws : WayL) (P : Nat) (t : Nat → Nat → Int) : Prop := ∀ a b, a < P → b < P → IsDist ws a b (t a b)
/-- A place that is reached, and is not where the walk begins, has a nearer one before it. -/
theorem Dists.last {P : Nat} {ws : WayL} {t : Nat → Nat → Int} (hw : WaysOk P ws) (h : Dists ws P t) {a v : Nat} (ha : a < P) (hv : v < P) (hn : a ≠ v) (h0 : 0 ≤ t a v) :
    ∃ u m, u < P ∧ Joins ws u v m ∧ 0 ≤ t a u ∧ t a v = t a u + m ∧ 1 ≤ m := by
  rcases h a v ha hv with ⟨s, _⟩ | ⟨_, w, least⟩
  · omega
  · generalize t a v = d at *
    cases w with
    | here => exact absurd rfl hn
    | @step u _ n m w j =>
      have hj := j.ok hw
      rcases h a u ha hj.2.2.1 with ⟨_, s⟩ | ⟨u0, uw, ul⟩
      · exact absurd w (s _)
      · refine ⟨u, m, hj.2.2.1, j, u0, ?_, hj.1⟩
        have h1 := ul _ w
        have h2 := least _ (uw.step j)
        omega
theorem Dists.edge {P : Nat} {ws : WayL} {t : Nat → Nat → Int} (hw : WaysOk P ws) (h : Dists ws P t) {a u v : Nat} {m : Int} (ha : a < P) (j : Joins ws u v m) (h0 : 0 ≤ t a u) : 0 ≤ t a v ∧ t a v ≤ t a u + m := by
  have hj := j.ok hw
  rcases h a u ha hj.2.2.1 with ⟨s, _⟩ | ⟨_, uw, _⟩
  · omega
  · rcases h a v ha hj.2.2.2 with ⟨_, s⟩ | ⟨v0, _, vl⟩
    · exact absurd (uw.step j) (s _)
    · exact ⟨v0, vl _ (uw.step j)⟩

/-! ### All ways together -/
def metersP (ws : WayL) : Int := ws.foldr (fun x n => x.2.2 + n) 0
theorem metersP_nonneg {ws : WayL} (h : ∀ x ∈ ws, 1 ≤ x.2.2 ∧ x.2.2 ≤ 10000) : 0 ≤ metersP ws ∧ metersP ws ≤ 10000 * ws.length := by
  induction ws with
  | nil => exact ⟨Int.le_refl 0, Int.le_refl 0⟩
  | cons x l ih =>
    have h1 := h x (by simp)
    have h2 := ih fun y hy => h y (by simp [hy])
    have e : metersP (x :: l) = x.2.2 + metersP l := rfl
    rw [e]
    simp only [List.length_cons]
    omega
/-- The ways that a test takes, together. -/
def someP (p : Int × Int × Int → Bool) (ws : WayL) : Int := ws.foldr (fun x n => (if p x then x.2.2 else 0) + n) 0
theorem someP_le {p q : Int × Int × Int → Bool} {ws : WayL} (h : ∀ x ∈ ws, 0 ≤ x.2.2) (hpq : ∀ x ∈ ws, p x = true → q x = true) : someP p ws ≤ someP q ws := by
  induction ws with
  | nil => exact Int.le_refl _
  | cons x l ih =>
    have h1 := h x (by simp)
    have h2 := ih (fun y hy => h y (by simp [hy])) (fun y hy => hpq y (by simp [hy]))
    have h3 := hpq x (by simp)
    have e1 : someP p (x :: l) = (if p x then x.2.2 else 0) + someP p l := rfl
    have e2 : someP q (x :: l) = (if q x then x.2.2 else 0) + someP q l := rfl
    rw [e1, e2]
    cases hp : p x
    · split <;> simp_all <;> omega
    · rw [h3 hp]; simp; omega
theorem someP_more {p q : Int × Int × Int → Bool} {ws : WayL} (h : ∀ x ∈ ws, 0 ≤ x.2.2) (hpq : ∀ x ∈ ws, p x = true → q x = true) {y : Int × Int × Int} (hy : y ∈ ws) (hp : p y = false) (hq : q y = true) : someP p ws + y.2.2 ≤ someP q ws := by
  induction ws with
  | nil => cases hy
  | cons x l ih =>
    have h1 := h x (by simp)
    have h2 := someP_le (p := p) (q := q) (ws := l) (fun z hz => h z (by simp [hz])) (fun z hz => hpq z (by simp [hz]))
    have h3 := hpq x (by simp)
    have e1 : someP p (x :: l) = (if p x then x.2.2 else 0) + someP p l := rfl
    have e2 : someP q (x :: l) = (if q x then x.2.2 else 0) + someP q l := rfl
    rw [e1, e2]
    rcases List.mem_cons.1 hy with rfl | hy
    · rw [hp, hq]; simp; omega
    · have h4 := ih (fun z hz => h z (by simp [hz])) (fun z hz => hpq z (by simp [hz])) hy
      cases hpx : p x
      · split <;> simp_all <;> omega
      · rw [h3 hpx]; simp; omega
theorem someP_all {p : Int × Int × Int → Bool} {ws : WayL} (h : ∀ x ∈ ws, 0 ≤ x.2.2) : 0 ≤ someP p ws ∧ someP p ws ≤ metersP ws := by
  induction ws with
  | nil => exact ⟨Int.le_refl _, Int.le_refl _⟩
  | cons x l ih =>
    have h1 := h x (by simp)
    have h2 := ih (fun y hy => h y (by simp [hy]))
    have e1 : someP p (x :: l) = (if p x then x.2.2 else 0) + someP p l := rfl
    have e2 : metersP (x :: l) = x.2.2 + metersP l := rfl
    rw [e1, e2]
    split <;> omega
theorem Dists.all {P : Nat} {ws : WayL} {t : Nat → Nat → Int} (hw : WaysOk P ws) (h : Dists ws P t) {a v : Nat} (ha : a < P) (hv : v < P) : t a v ≤ metersP ws := by
  have hpos : ∀ x ∈ ws, 0 ≤ x.2.2 := fun x hx => by have := hw.pos x hx; omega
  have key : ∀ (N : Nat) (v : Nat), v < P → 0 ≤ t a v → t a v ≤ N → t a v ≤ someP (fun x => decide (t a x.1.toNat ≤ t a v) && decide (t a x.2.1.toNat ≤ t a v)) ws := by
    intro N
    induction N with
    | zero =>
      intro v hv h0 hN
      have := (someP_all (p := fun x => decide (t a x.1.toNat ≤ t a v) && decide (t a x.2.1.toNat ≤ t a v)) hpos).1
      omega
    | succ N ih =>
      intro v hv h0 hN
      by_cases hn : a = v
      · subst hn
        have e := (h a a ha ha).unique (.self hw a)
        have := (someP_all (p := fun x => decide (t a x.1.toNat ≤ t a a) && decide (t a x.2.1.toNat ≤ t a a)) hpos).1
        omega
      · obtain ⟨u, m, hu, j, u0, e, m1⟩ := h.last hw ha hv hn h0
        have h1 := ih u hu u0 (by omega)
        have hle : ∀ x ∈ ws, (decide (t a x.1.toNat ≤ t a u) && decide (t a x.2.1.toNat ≤ t a u)) = true → (decide (t a x.1.toNat ≤ t a v) && decide (t a x.2.1.toNat ≤ t a v)) = true := by
          intro x _ hx
          simp only [Bool.and_eq_true, decide_eq_true_eq] at hx ⊢
          omega
        rcases j with j | j
        · have := someP_more hpos hle j (by simp; omega) (by simp; omega)
          simp only at this
          omega
        · have := someP_more hpos hle j (by simp; omega) (by simp; omega)
          simp only at this
          omega
  by_cases h0 : 0 ≤ t a v
  · exact Int.le_trans (key (t a v).toNat v hv h0 (by omega)) (someP_all hpos).2
  · have := (metersP_nonneg hw.pos).1
    omega

/-! ### One way more -/
theorem Joins.snoc {ws : WayL} {A B : Nat} {M : Int} {b c : Nat} {m : Int} (j : Joins (ws ++ [((A : Int), (B : Int), M)]) b c m) : Joins ws b c m ∨ (b = A ∧ c = B ∧ m = M) ∨ (b = B ∧ c = A ∧ m = M) := by
  rcases j with j | j
  · rcases List.mem_append.1 j with j | j
    · exact .inl (.inl j)
    · simp only [List.mem_singleton, Prod.mk.injEq] at j
      exact .inr (.inl ⟨by omega, by omega, j.2.2⟩)
  · rcases List.mem_append.1 j with j | j
    · exact .inl (.inr j)
    · simp only [List.mem_singleton, Prod.mk.injEq] at j
      exact .inr (.inr ⟨by omega, by omega, j.2.2⟩)
/-- What was, or goes over the new way. -/
def wasP (t : Nat → Nat → Int) (A B : Nat) (M : Int) (a b : Nat) : Int :=
  let w1 := if 0 ≤ t a A ∧ 0 ≤ t B b ∧ (t a b < 0 ∨ t a A + M + t B b < t a b) then t a A + M + t B b else t a b
  if 0 ≤ t a B ∧ 0 ≤ t A b ∧ (w1 < 0 ∨ t a B + M + t A b < w1) then t a B + M + t A b else w1
theorem Dists.more {P : Nat} {ws : WayL} {t u : Nat → Nat → Int} {A B : Nat} {M : Int} (hw : WaysOk P ws) (hw' : WaysOk P (ws ++ [((A : Int), (B : Int), M)])) (h : Dists ws P t) (k : Dists (ws ++ [((A : Int), (B : Int), M)]) P u) {a b : Nat} (ha : a < P) (hb : b < P) :
    u a b = wasP t A B M a b := by
  have hj : Joins (ws ++ [((A : Int), (B : Int), M)]) A B M := .inl (by simp)
  obtain ⟨hM, _, hA, hB⟩ := hj.ok hw'
  have ge : ∀ x y, x < P → y < P → -1 ≤ t x y := fun x y hx hy => (h x y hx hy).ge
  have self : ∀ x, x < P → t x x = 0 := fun x hx => (h x x hx hx).unique (.self hw x)
  have up : ∀ {x y : Nat} {n : Int}, Walk ws x y n → Walk (ws ++ [((A : Int), (B : Int), M)]) x y n := fun w => w.mono fun z hz => List.mem_append.2 (.inl hz)
  have wk : ∀ x y, x < P → y < P → 0 ≤ t x y → Walk (ws ++ [((A : Int), (B : Int), M)]) x y (t x y) := by
    intro x y hx hy h0
    rcases h x y hx hy with ⟨s, _⟩ | ⟨_, w, _⟩
    · omega
    · exact up w
  have low : ∀ {c : Nat} {n : Int}, Walk (ws ++ [((A : Int), (B : Int), M)]) a c n → (0 ≤ t a c ∧ t a c ≤ n) ∨ (0 ≤ t a A ∧ 0 ≤ t B c ∧ t a A + M + t B c ≤ n) ∨ (0 ≤ t a B ∧ 0 ≤ t A c ∧ t a B + M + t A c ≤ n) := by
    intro c n w
    induction w with
    | here => left; rw [self a ha]; omega
    | @step c d n m w j ih =>
      have hcd := j.ok hw'
      rcases j.snoc with j | ⟨rfl, rfl, rfl⟩ | ⟨rfl, rfl, rfl⟩
      · rcases ih with ⟨i0, i1⟩ | ⟨i0, i1, i2⟩ | ⟨i0, i1, i2⟩
        · have := h.edge hw ha j i0; left; omega
        · have := h.edge hw hB j i1; right; left; omega
        · have := h.edge hw hA j i1; right; right; omega
      · have sA := self c hA
        have sB := self d hB
        rcases ih with ⟨i0, i1⟩ | ⟨i0, i1, i2⟩ | ⟨i0, i1, i2⟩
        · right; left; omega
        · right; left; omega
        · left; omega
      · have sA := self d hA
        have sB := self c hB
        rcases ih with ⟨i0, i1⟩ | ⟨i0, i1, i2⟩ | ⟨i0, i1, i2⟩
        · right; right; omega
        · left; omega
        · right; right; omega
  refine (k a b ha hb).unique ?_
  have g1 := ge a b ha hb
  have g2 := ge a A ha hA
  have g3 := ge B b hB hb
  have g4 := ge a B ha hB
  have g5 := ge A b hA hb
  have hne : ∀ d : Int, d = wasP t A B M a b → (d = -1 → ∀ n, ¬ Walk (ws ++ [((A : Int), (B : Int), M)]) a b n) ∧ (0 ≤ d → ∀ n, Walk (ws ++ [((A : Int), (B : Int), M)]) a b n → d ≤ n) := by
    intro d hd
    unfold wasP at hd
    simp only at hd
    constructor
    · intro e n w
      have := low w
      split at hd <;> split at hd <;> omega
    · intro e n w
      have := low w
      split at hd <;> split at hd <;> omega
  have hwalk : wasP t A B M a b = -1 ∨ (0 ≤ wasP t A B M a b ∧ Walk (ws ++ [((A : Int), (B : Int), M)]) a b (wasP t A B M a b)) := by
    have direct : t a b = -1 ∨ (0 ≤ t a b ∧ Walk (ws ++ [((A : Int), (B : Int), M)]) a b (t a b)) := by
      by_cases z : 0 ≤ t a b
      · exact .inr ⟨z, wk a b ha hb z⟩
      · exact .inl (by omega)
    unfold wasP
    simp only
    have hA' : 0 ≤ t a A → 0 ≤ t B b → Walk (ws ++ [((A : Int), (B : Int), M)]) a b (t a A + M + t B b) := fun z y => ((wk a A ha hA z).trans (.one hj)).trans (wk B b hB hb y)
    have hB' : 0 ≤ t a B → 0 ≤ t A b → Walk (ws ++ [((A : Int), (B : Int), M)]) a b (t a B + M + t A b) := fun z y => ((wk a B ha hB z).trans (.one hj.symm)).trans (wk A b hA hb y)
    split
    · rename_i c1
      split
      · rename_i c2
        exact .inr ⟨by omega, hB' c2.1 c2.2.1⟩
      · exact .inr ⟨by omega, hA' c1.1 c1.2.1⟩
    · split
      · rename_i c2
        exact .inr ⟨by omega, hB' c2.1 c2.2.1⟩
      · exact direct
  rcases hwalk with e | ⟨e0, e1⟩
  · exact .inl ⟨e, (hne _ rfl).1 e⟩
  · exact .inr ⟨e0, e1, (hne _ rfl).2 e0⟩
end Lu
