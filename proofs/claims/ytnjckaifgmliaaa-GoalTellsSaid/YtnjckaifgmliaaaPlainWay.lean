/- THE PLAIN SIDE of layer 9 (way): walks, how far places are, and two ways to reckon it. No Go in sight. -/
import Derived.Test.YtnjckaifgmliaaaPlainSetup
set_option linter.unusedSimpArgs false
set_option linter.unusedVariables false
namespace Lu

abbrev WayL := List (Int × Int × Int)
/-- A way joins b with c, there or back. -/
def Joins (ws : WayL) (b c : Nat) (m : Int) : Prop := ((b : Int), (c : Int), m) ∈ ws ∨ ((c : Int), (b : Int), m) ∈ ws
theorem Joins.symm {ws : WayL} {b c : Nat} {m : Int} (h : Joins ws b c m) : Joins ws c b m := Or.comm.1 h
/-- A walk from a, of so many meters. -/
inductive Walk (ws : WayL) (a : Nat) : Nat → Int → Prop
  | here : Walk ws a a 0
  | step {b c : Nat} {n m : Int} : Walk ws a b n → Joins ws b c m → Walk ws a c (n + m)
/-- All ways are some meters long, and lie among so many places. -/
structure WaysOk (P : Nat) (ws : WayL) : Prop where
  pos : ∀ x ∈ ws, 1 ≤ x.2.2 ∧ x.2.2 ≤ 10000
  lo : ∀ x ∈ ws, 0 ≤ x.1 ∧ x.1 < P ∧ 0 ≤ x.2.1 ∧ x.2.1 < P
theorem Joins.ok {P : Nat} {ws : WayL} (h : WaysOk P ws) {b c : Nat} {m : Int} (j : Joins ws b c m) : 1 ≤ m ∧ m ≤ 10000 ∧ b < P ∧ c < P := by
  rcases j with j | j
  · have h1 := h.pos _ j
    have h2 := h.lo _ j
    simp only at h1 h2
    omega
  · have h1 := h.pos _ j
    have h2 := h.lo _ j
    simp only at h1 h2
    omega
theorem Walk.nonneg {P : Nat} {ws : WayL} (h : WaysOk P ws) {a b : Nat} {n : Int} (w : Walk ws a b n) : 0 ≤ n := by
  induction w with
  | here => exact Int.le_refl 0
  | step _ j ih => have := j.ok h; omega
theorem Walk.lt {P : Nat} {ws : WayL} (h : WaysOk P ws) {a b : Nat} {n : Int} (w : Walk ws a b n) (ha : a < P) : b < P := by
  cases w with
  | here => exact ha
  | step _ j => exact (j.ok h).2.2.2
theorem Walk.trans {ws : WayL} {a b c : Nat} {n m : Int} (h : Walk ws a b n) (k : Walk ws b c m) : Walk ws a c (n + m) := by
  induction k with
  | here => rw [Int.add_zero]; exact h
  | step _ j ih => rw [← Int.add_assoc]; exact .step ih j
theorem Walk.one {ws : WayL} {a b : Nat} {m : Int} (j : Joins ws a b m) : Walk ws a b m := by
  have := Walk.step (.here (ws := ws) (a := a)) j
  rwa [Int.zero_add] at this
theorem Walk.back {ws : WayL} {a b : Nat} {n : Int} (h : Walk ws a b n) : Walk ws b a n := by
  induction h with
  | here => exact .here
  | step _ j ih => rw [Int.add_comm]; exact (Walk.one j.symm).trans ih
theorem Walk.pos {P : Nat} {ws : WayL} (h : WaysOk P ws) {a b : Nat} {n : Int} (w : Walk ws a b n) (hn : a ≠ b) : 1 ≤ n := by
  cases w with
  | here => exact absurd rfl hn
  | step w j => have := w.nonneg h; have := j.ok h; omega
theorem Walk.mono {ws ws' : WayL} (h : ∀ x ∈ ws, x ∈ ws') {a b : Nat} {n : Int} (w : Walk ws a b n) : Walk ws' a b n := by
  induction w with
  | here => exact .here
  | step _ j ih => exact .step ih (j.imp (h _) (h _))

/-- How far: -1 where no walk leads. -/
def IsDist (ws : WayL) (a b : Nat) (d : Int) : Prop := (d = -1 ∧ ∀ n, ¬ Walk ws a b n) ∨ (0 ≤ d ∧ Walk ws a b d ∧ ∀ n, Walk ws a b n → d ≤ n)
theorem IsDist.unique {ws : WayL} {a b : Nat} {d e : Int} (h : IsDist ws a b d) (k : IsDist ws a b e) : d = e := by
  rcases h with ⟨rfl, h⟩ | ⟨h0, h1, h2⟩
  · rcases k with ⟨rfl, _⟩ | ⟨_, k1, _⟩
    · rfl
    · exact absurd k1 (h _)
  · rcases k with ⟨rfl, k⟩ | ⟨_, k1, k2⟩
    · exact absurd h1 (k _)
    · have := h2 _ k1; have := k2 _ h1; omega
theorem IsDist.symm {ws : WayL} {a b : Nat} {d : Int} (h : IsDist ws a b d) : IsDist ws b a d := by
  rcases h with ⟨rfl, h⟩ | ⟨h0, h1, h2⟩
  · exact .inl ⟨rfl, fun n w => h n w.back⟩
  · exact .inr ⟨h0, h1.back, fun n w => h2 n w.back⟩
theorem IsDist.self {P : Nat} {ws : WayL} (h : WaysOk P ws) (a : Nat) : IsDist ws a a 0 := .inr ⟨Int.le_refl 0, .here, fun _ w => w.nonneg h⟩
theorem IsDist.zero {P : Nat} {ws : WayL} (h : WaysOk P ws) {a b : Nat} {d : Int} (k : IsDist ws a b d) : d = 0 ↔ a = b := by
  constructor
  · rintro rfl
    rcases k with ⟨k, _⟩ | ⟨_, k1, _⟩
    · omega
    · by_cases e : a = b
      · exact e
      · have := k1.pos h e; omega
  · rintro rfl
    exact k.unique (.self h a)
theorem IsDist.ge {ws : WayL} {a b : Nat} {d : Int} (k : IsDist ws a b d) : -1 ≤ d := by
  rcases k with ⟨rfl, _⟩ | ⟨k, _⟩ <;> omega
/-- By a third place it is no nearer. -/
theorem IsDist.third {ws : WayL} {a b c : Nat} {x y z : Int} (h1 : IsDist ws a b x) (h2 : IsDist ws b c y) (h3 : IsDist ws a c z) (hx : 0 ≤ x) (hy : 0 ≤ y) : 0 ≤ z ∧ z ≤ x + y := by
  rcases h1 with ⟨rfl, _⟩ | ⟨_, w1, _⟩
  · omega
  · rcases h2 with ⟨rfl, _⟩ | ⟨_, w2, _⟩
    · omega
    · rcases h3 with ⟨rfl, h3⟩ | ⟨h0, _, h3⟩
      · exact absurd (w1.trans w2) (h3 _)
      · exact ⟨h0, h3 _ (w1.trans w2)⟩

/-! ### Floyd and Warshall's way -/
/-- The lesser length; one below 0 is none. -/
def lessP' (x y : Int) : Int := if x < 0 ∨ (0 ≤ y ∧ y < x) then y else x
/-- What a table of lengths has come to, once the first k places have been gone by. -/
structure Table (ws : WayL) (P k : Nat) (t : Nat → Nat → Int) : Prop where
  sound : ∀ a b, a < P → b < P → t a b = -1 ∨ (0 ≤ t a b ∧ Walk ws a b (t a b))
  self : ∀ a, a < P → t a a = 0
  edge : ∀ a b m, a < P → b < P → Joins ws a b m → 0 ≤ t a b ∧ t a b ≤ m
  tri : ∀ j a b, j < k → j < P → a < P → b < P → 0 ≤ t a j → 0 ≤ t j b → 0 ≤ t a b ∧ t a b ≤ t a j + t j b
theorem Table.dist {P : Nat} {ws : WayL} {t : Nat → Nat → Int} (hw : WaysOk P ws) (h : Table ws P P t) {a b : Nat} (ha : a < P) (hb : b < P) : IsDist ws a b (t a b) := by
  have key : ∀ {c : Nat} {n : Int}, Walk ws a c n → 0 ≤ t a c ∧ t a c ≤ n := by
    intro c n w
    induction w with
    | here => rw [h.self a ha]; omega
    | @step c d n m w j ih =>
      have hj := j.ok hw
      have he := h.edge c d m hj.2.2.1 hj.2.2.2 j
      have := h.tri c a d hj.2.2.1 hj.2.2.1 ha hj.2.2.2 ih.1 he.1
      omega
  rcases h.sound a b ha hb with s | ⟨s0, s1⟩
  · exact .inl ⟨s, fun n w => by have := key w; omega⟩
  · exact .inr ⟨s0, s1, fun n w => (key w).2⟩
/-- One more place is gone by. -/
theorem Table.next {P k : Nat} {ws : WayL} {t t' : Nat → Nat → Int} (h : Table ws P k t) (hk : k < P)
    (ht : ∀ a b, a < P → b < P → t' a b = if 0 ≤ t a k ∧ 0 ≤ t k b ∧ (t a b < 0 ∨ t a k + t k b < t a b) then t a k + t k b else t a b) : Table ws P (k + 1) t' := by
  have ge : ∀ a b, a < P → b < P → -1 ≤ t a b := fun a b ha hb => by rcases h.sound a b ha hb with s | s <;> omega
  have hkk := h.self k hk
  refine ⟨fun a b ha hb => ?_, fun a ha => ?_, fun a b m ha hb j => ?_, fun j a b hj hjP ha hb h1 h2 => ?_⟩
  · rw [ht a b ha hb]
    split
    · rename_i c
      rcases h.sound a k ha hk with s | ⟨_, s⟩
      · omega
      · rcases h.sound k b hk hb with u | ⟨_, u⟩
        · omega
        · exact .inr ⟨by omega, s.trans u⟩
    · exact h.sound a b ha hb
  · rw [ht a a ha ha, h.self a ha]
    split <;> omega
  · have := h.edge a b m ha hb j
    rw [ht a b ha hb]
    split <;> omega
  · have e1 := ht a j ha hjP
    have e2 := ht j b hjP hb
    have e3 := ht a b ha hb
    have ga := ge a k ha hk
    have gb := ge k b hk hb
    have gab := ge a b ha hb
    have gaj := ge a j ha hjP
    have gjb := ge j b hjP hb
    by_cases hjk : j = k
    · subst hjk
      rw [hkk] at e1 e2
      split at e1 <;> split at e2 <;> split at e3 <;> omega
    · have t1 := h.tri j a b (by omega) hjP ha hb
      have t2 := h.tri j k b (by omega) hjP hk hb
      have t3 := h.tri j a k (by omega) hjP ha hk
      split at e1 <;> split at e2 <;> split at e3 <;> omega
end Lu
