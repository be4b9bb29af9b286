/- THE PLAIN SIDE of layer 9 (way), fourth part: a table that is turned in place. No Go in sight. -/
import Derived.Test.YtnjckaifgmliaaaPlainWay3
set_option linter.unusedSimpArgs false
set_option linter.unusedVariables false
namespace Lu

/-- A length is told, if it is the first, or less. -/
def nearV (x n : Int) : Int := if x = -1 ∨ n < x then n else x
def near (t : Nat → Nat → Int) (a b : Nat) (n : Int) : Nat → Nat → Int := fun i j => if i = a ∧ j = b then nearV (t a b) n else t i j
def startT : Nat → Nat → Int := fun i j => if i = j then 0 else -1
def addWay (t : Nat → Nat → Int) (x : Int × Int × Int) : Nat → Nat → Int := near (near t x.1.toNat x.2.1.toNat x.2.2) x.2.1.toNat x.1.toNat x.2.2
def addWays (t : Nat → Nat → Int) (l : WayL) : Nat → Nat → Int := l.foldl addWay t
/-- What holds while the ways are told: walks; no place away from itself; those told are in. -/
structure Told (ws l : WayL) (P : Nat) (t : Nat → Nat → Int) : Prop where
  sound : ∀ a b, a < P → b < P → t a b = -1 ∨ (0 ≤ t a b ∧ Walk ws a b (t a b))
  self : ∀ a, a < P → t a a = 0
  edge : ∀ a b m, a < P → b < P → Joins l a b m → 0 ≤ t a b ∧ t a b ≤ m
theorem Told.near {P : Nat} {ws l : WayL} {t : Nat → Nat → Int} {u v : Nat} {m : Int} (hw : WaysOk P ws) (h : Told ws l P t) (j : Joins ws u v m) :
    Told ws l P (near t u v m) ∧ (0 ≤ Lu.near t u v m u v ∧ Lu.near t u v m u v ≤ m) := by
  have hj := j.ok hw
  have hs := h.sound u v hj.2.2.1 hj.2.2.2
  refine ⟨⟨fun a b ha hb => ?_, fun a ha => ?_, fun a b m' ha hb j' => ?_⟩, ?_⟩
  · unfold Lu.near
    split
    · rename_i c
      obtain ⟨rfl, rfl⟩ := c
      unfold nearV
      split
      · exact .inr ⟨by omega, .one j⟩
      · exact hs
    · exact h.sound a b ha hb
  · unfold Lu.near
    split
    · rename_i c
      obtain ⟨rfl, rfl⟩ := c
      rw [h.self a ha]
      unfold nearV
      split <;> omega
    · exact h.self a ha
  · have he := h.edge a b m' ha hb j'
    unfold Lu.near
    split
    · rename_i c
      obtain ⟨rfl, rfl⟩ := c
      unfold nearV
      split <;> omega
    · exact he
  · unfold Lu.near
    rw [if_pos ⟨rfl, rfl⟩]
    unfold nearV
    split <;> omega
theorem near_le {P : Nat} {ws l : WayL} {t : Nat → Nat → Int} {u v a b : Nat} {m n : Int} (h : Told ws l P t) (hm : 1 ≤ m) (h0 : 0 ≤ t a b ∧ t a b ≤ n) : 0 ≤ near t u v m a b ∧ near t u v m a b ≤ n := by
  unfold near
  split
  · rename_i c
    obtain ⟨rfl, rfl⟩ := c
    unfold nearV
    split <;> omega
  · exact h0
theorem Told.addWay {P : Nat} {ws l : WayL} {t : Nat → Nat → Int} {x : Int × Int × Int} (hw : WaysOk P ws) (h : Told ws l P t) (hx : x ∈ ws) : Told ws (l ++ [x]) P (addWay t x) := by
  have hl := hw.lo x hx
  have hp := hw.pos x hx
  have e1 : ((x.1.toNat : Nat) : Int) = x.1 := by omega
  have e2 : ((x.2.1.toNat : Nat) : Int) = x.2.1 := by omega
  have j : Joins ws x.1.toNat x.2.1.toNat x.2.2 := by left; rw [e1, e2]; exact hx
  obtain ⟨h1, h2⟩ := h.near hw j
  obtain ⟨h3, h4⟩ := h1.near hw j.symm
  refine ⟨h3.sound, h3.self, fun a b m ha hb j' => ?_⟩
  have key : Joins l a b m ∨ (a = x.1.toNat ∧ b = x.2.1.toNat ∧ m = x.2.2) ∨ (a = x.2.1.toNat ∧ b = x.1.toNat ∧ m = x.2.2) := by
    rcases j' with j' | j' <;> rcases List.mem_append.1 j' with j' | j'
    · exact .inl (.inl j')
    · simp only [List.mem_singleton] at j'
      right; left; rw [← j']; simp
    · exact .inl (.inr j')
    · simp only [List.mem_singleton] at j'
      right; right; rw [← j']; simp
  rcases key with k | ⟨rfl, rfl, rfl⟩ | ⟨rfl, rfl, rfl⟩
  · exact h3.edge a b m ha hb k
  · exact near_le h1 hp.1 h2
  · exact h4
theorem Told.all {P : Nat} {ws : WayL} (hw : WaysOk P ws) : ∀ (r l : WayL) (t : Nat → Nat → Int), (∀ x ∈ r, x ∈ ws) → Told ws l P t → Told ws (l ++ r) P (addWays t r)
  | [], l, t, _, h => by rw [List.append_nil]; exact h
  | x :: r, l, t, hr, h => by
    have := Told.all hw r (l ++ [x]) (Lu.addWay t x) (fun y hy => hr y (by simp [hy])) (h.addWay hw (hr x (by simp)))
    rw [List.append_assoc] at this
    exact this
theorem Told.start {P : Nat} {ws : WayL} : Told ws [] P startT := by
  refine ⟨fun a b _ _ => ?_, fun a _ => by unfold startT; rw [if_pos rfl], fun a b m _ _ j => ?_⟩
  · unfold startT
    split
    · rename_i e; subst e; exact .inr ⟨Int.le_refl 0, .here⟩
    · exact .inl rfl
  · rcases j with j | j <;> cases j
theorem Told.table {P : Nat} {ws : WayL} {t : Nat → Nat → Int} (h : Told ws ws P t) : Table ws P 0 t := ⟨h.sound, h.self, h.edge, fun j _ _ hj => by omega⟩
/-- What a place makes of a table. -/
def nextT (t : Nat → Nat → Int) (k : Nat) : Nat → Nat → Int := fun a b => if 0 ≤ t a k ∧ 0 ≤ t k b ∧ (t a b < 0 ∨ t a k + t k b < t a b) then t a k + t k b else t a b
/-- .. the first rows of it, and the next one's first numbers, turned in place. -/
def mixT (t : Nat → Nat → Int) (k a b : Nat) : Nat → Nat → Int := fun i j => if i < a ∨ (i = a ∧ j < b) then nextT t k i j else t i j
def byT (t : Nat → Nat → Int) : Nat → (Nat → Nat → Int)
  | 0 => t
  | k + 1 => nextT (byT t k) k
theorem byT_table {P : Nat} {ws : WayL} {t : Nat → Nat → Int} (h : Table ws P 0 t) (k : Nat) (hk : k ≤ P) : Table ws P k (byT t k) := by
  induction k with
  | zero => exact h
  | succ k ih => exact (ih (by omega)).next (by omega) fun _ _ _ _ => rfl
section
variable {P k : Nat} {ws : WayL} {t : Nat → Nat → Int}
theorem nextT_row (h : Table ws P k t) (hk : k < P) (b : Nat) (hb : b < P) : nextT t k k b = t k b := by
  unfold nextT
  rw [h.self k hk]
  split <;> omega
theorem nextT_col (h : Table ws P k t) (hk : k < P) (a : Nat) (ha : a < P) : nextT t k a k = t a k := by
  unfold nextT
  rw [h.self k hk]
  split <;> omega
theorem mixT_row (h : Table ws P k t) (hk : k < P) (a b j : Nat) (hj : j < P) : mixT t k a b k j = t k j := by
  unfold mixT
  split
  · exact nextT_row h hk j hj
  · rfl
theorem mixT_col (h : Table ws P k t) (hk : k < P) (a b i : Nat) (hi : i < P) : mixT t k a b i k = t i k := by
  unfold mixT
  split
  · exact nextT_col h hk i hi
  · rfl
theorem mixT_start : mixT t k 0 0 = t := by
  funext i j
  unfold mixT
  rw [if_neg (by omega)]
theorem mixT_wrap (a i j : Nat) (hj : j < P) : mixT t k a P i j = mixT t k (a + 1) 0 i j := by
  unfold mixT
  by_cases c : i < a ∨ i = a ∧ j < P
  · rw [if_pos c, if_pos (by omega)]
  · rw [if_neg c, if_neg (by omega)]
theorem mixT_end (i j : Nat) (hi : i < P) : mixT t k P 0 i j = nextT t k i j := by
  unfold mixT
  rw [if_pos (.inl hi)]
theorem mixT_skip (h : Table ws P k t) (hk : k < P) (a b : Nat) (ha : a < P) (hb : b < P) (hs : t a k = -1 ∨ t k b = -1) : mixT t k a (b + 1) = mixT t k a b := by
  funext i j
  unfold mixT
  by_cases c : i = a ∧ j = b
  · obtain ⟨rfl, rfl⟩ := c
    rw [if_pos (by omega), if_neg (by omega)]
    unfold nextT
    rw [if_neg (by omega)]
  · by_cases d : i < a ∨ i = a ∧ j < b
    · rw [if_pos d, if_pos (by omega)]
    · rw [if_neg d, if_neg (by omega)]
theorem mixT_skip_row (h : Table ws P k t) (hk : k < P) (a i j : Nat) (ha : a < P) (hj : j < P) (hs : t a k = -1) : mixT t k (a + 1) 0 i j = mixT t k a 0 i j := by
  unfold mixT
  by_cases c : i = a
  · subst c
    rw [if_pos (by omega), if_neg (by omega)]
    unfold nextT
    rw [if_neg (by omega)]
  · by_cases d : i < a
    · rw [if_pos (.inl (by omega)), if_pos (.inl d)]
    · rw [if_neg (by omega), if_neg (by omega)]
theorem mixT_step (h : Table ws P k t) (hk : k < P) (a b : Nat) (ha : a < P) (hb : b < P) (h1 : 0 ≤ t a k) (h2 : 0 ≤ t k b) : near (mixT t k a b) a b (t a k + t k b) = mixT t k a (b + 1) := by
  have hab : t a b = -1 ∨ 0 ≤ t a b := by rcases h.sound a b ha hb with s | ⟨s, _⟩ <;> omega
  have e0 : mixT t k a b a b = t a b := by unfold mixT; rw [if_neg (by omega)]
  funext i j
  unfold near
  by_cases c : i = a ∧ j = b
  · rw [if_pos c, e0]
    obtain ⟨rfl, rfl⟩ := c
    unfold mixT
    rw [if_pos (by omega)]
    unfold nextT nearV
    split <;> split <;> omega
  · rw [if_neg c]
    unfold mixT
    by_cases d : i < a ∨ i = a ∧ j < b
    · rw [if_pos d, if_pos (by omega)]
    · rw [if_neg d, if_neg (by omega)]
end
/-! ### No number grows too great -/
theorem addWays_le {P : Nat} {ws : WayL} (hw : WaysOk P ws) : ∀ (r : WayL) (t : Nat → Nat → Int), (∀ x ∈ r, x ∈ ws) → (∀ a b, t a b ≤ 10000) → ∀ a b, addWays t r a b ≤ 10000
  | [], _, _, h => h
  | x :: r, t, hr, h => by
    have hp := hw.pos x (hr x (by simp))
    have n1 : ∀ (t : Nat → Nat → Int) (u v : Nat), (∀ a b, t a b ≤ 10000) → ∀ a b, near t u v x.2.2 a b ≤ 10000 := by
      intro t u v ht a b
      have := ht u v
      unfold near
      split
      · unfold nearV
        split <;> omega
      · exact ht a b
    exact addWays_le hw r (addWay t x) (fun y hy => hr y (by simp [hy])) (n1 _ _ _ (n1 _ _ _ h))
theorem startT_le (a b : Nat) : startT a b ≤ 10000 := by unfold startT; split <;> omega
theorem nextT_le {t : Nat → Nat → Int} {B : Int} (h : ∀ a b, t a b ≤ B) (hB : 0 ≤ B) (k a b : Nat) : nextT t k a b ≤ 2 * B := by
  have h1 := h a k
  have h2 := h k b
  have h3 := h a b
  unfold nextT
  split <;> omega
theorem byT_le {t : Nat → Nat → Int} (h : ∀ a b, t a b ≤ 10000) (k : Nat) (hk : k ≤ 16) (a b : Nat) : byT t k a b ≤ 1000000000 := by
  have key : ∀ k a b, byT t k a b ≤ ((10000 * 2 ^ k : Nat) : Int) := by
    intro k
    induction k with
    | zero => intro a b; exact h a b
    | succ k ih =>
      intro a b
      have := nextT_le (B := ((10000 * 2 ^ k : Nat) : Int)) ih (by omega) k a b
      have e : 10000 * 2 ^ (k + 1) = 2 * (10000 * 2 ^ k) := by rw [Nat.pow_succ]; omega
      rw [e]
      refine Int.le_trans this ?_
      omega
  have h1 := key k a b
  have h2 : 2 ^ k ≤ 2 ^ 16 := Nat.pow_le_pow_right (by decide) hk
  have h3 : 2 ^ 16 = 65536 := by decide
  omega
/-- The table that the program comes to. -/
def tableP (P : Nat) (ws : WayL) : Nat → Nat → Int := byT (addWays startT ws) P
theorem tableP_dists {P : Nat} {ws : WayL} (hw : WaysOk P ws) : Dists ws P (tableP P ws) := by
  have h := byT_table (Told.all hw ws [] startT (fun _ hx => hx) .start).table P (Nat.le_refl _)
  exact fun a b ha hb => h.dist hw ha hb
end Lu
