/- THE PLAIN SIDE of layer 9 (way), third part: rounds over all ways, as often as there are places, come to how far all places are. No Go in sight. -/
import Derived.Test.YtnjckaifgmliaaaPlainWay2
set_option linter.unusedSimpArgs false
set_option linter.unusedVariables false
namespace Lu

def shorterP (a b : Int) : Int := if a < 0 ∨ (0 ≤ b ∧ b < a) then b else a
def longerP (n m : Int) : Int := if n < 0 then n else n + m
def put (r : Nat → Int) (k : Nat) (v : Int) : Nat → Int := fun i => if i = k then v else r i
/-- A way is gone, there and back. -/
def relax (r : Nat → Int) (x : Int × Int × Int) : Nat → Int :=
  let r1 := put r x.2.1.toNat (shorterP (r x.2.1.toNat) (longerP (r x.1.toNat) x.2.2))
  put r1 x.1.toNat (shorterP (r1 x.1.toNat) (longerP (r1 x.2.1.toNat) x.2.2))
def round (r : Nat → Int) (ws : WayL) : Nat → Int := ws.foldl relax r
def rounds (r : Nat → Int) (ws : WayL) : Nat → (Nat → Int)
  | 0 => r
  | k + 1 => round (rounds r ws k) ws
/-- What a row tells is walks. -/
def RowOk (ws : WayL) (P a : Nat) (r : Nat → Int) : Prop := ∀ v, v < P → r v = -1 ∨ (0 ≤ r v ∧ Walk ws a v (r v))
theorem RowOk.put1 {P : Nat} {ws : WayL} {a u v : Nat} {m : Int} {r : Nat → Int} (hw : WaysOk P ws) (h : RowOk ws P a r) (j : Joins ws u v m) : RowOk ws P a (put r v (shorterP (r v) (longerP (r u) m))) := by
  have hj := j.ok hw
  intro i hi
  unfold put
  by_cases e : i = v
  · subst e
    rw [if_pos rfl]
    have h1 := h i hi
    have h2 := h u hj.2.2.1
    unfold shorterP
    rcases h2 with s | ⟨s0, s1⟩
    · have hl : longerP (r u) m = -1 := by unfold longerP; rw [s]; rfl
      rw [hl]
      by_cases c : r i < 0 ∨ (0 : Int) ≤ -1 ∧ -1 < r i
      · rw [if_pos c]; exact .inl rfl
      · rw [if_neg c]; exact h1
    · have hl : longerP (r u) m = r u + m := by unfold longerP; rw [if_neg (by omega)]
      rw [hl]
      by_cases c : r i < 0 ∨ 0 ≤ r u + m ∧ r u + m < r i
      · rw [if_pos c]; exact .inr ⟨by omega, s1.step j⟩
      · rw [if_neg c]; exact h1
  · rw [if_neg e]
    exact h i hi
theorem RowOk.relax {P : Nat} {ws : WayL} {a : Nat} {r : Nat → Int} {x : Int × Int × Int} (hw : WaysOk P ws) (h : RowOk ws P a r) (hx : x ∈ ws) : RowOk ws P a (relax r x) := by
  have hl := hw.lo x hx
  have j : Joins ws x.1.toNat x.2.1.toNat x.2.2 := by
    left
    rw [show ((x.1.toNat : Nat) : Int) = x.1 by omega, show ((x.2.1.toNat : Nat) : Int) = x.2.1 by omega]
    exact hx
  exact (h.put1 hw j).put1 hw j.symm
/-- What is final stays so. -/
theorem put_final {P : Nat} {ws : WayL} {t : Nat → Nat → Int} {a u v i : Nat} {m : Int} {r : Nat → Int} (hw : WaysOk P ws) (hd : Dists ws P t) (ha : a < P) (h : RowOk ws P a r) (j : Joins ws u v m) (hi : i < P) (h0 : 0 ≤ t a i) (hf : r i = t a i) :
    put r v (shorterP (r v) (longerP (r u) m)) i = t a i := by
  have hr := (h.put1 hw j) i hi
  unfold put at hr ⊢
  by_cases e : i = v
  · subst e
    rw [if_pos rfl] at hr ⊢
    rcases hd a i ha hi with ⟨s, _⟩ | ⟨_, _, least⟩
    · omega
    · have : shorterP (r i) (longerP (r u) m) ≤ t a i := by
        unfold shorterP
        split <;> omega
      rcases hr with s | ⟨s0, s1⟩
      · unfold shorterP at s
        rw [hf] at s
        split at s
        · rename_i c; omega
        · omega
      · have := least _ s1
        omega
  · rw [if_neg e]
    exact hf
/-- A way that leads on from what is final makes its end final. -/
theorem put_next {P : Nat} {ws : WayL} {t : Nat → Nat → Int} {a u v : Nat} {m : Int} {r : Nat → Int} (hw : WaysOk P ws) (hd : Dists ws P t) (ha : a < P) (h : RowOk ws P a r) (j : Joins ws u v m) (h0 : 0 ≤ t a u) (hf : r u = t a u) (he : t a v = t a u + m) :
    put r v (shorterP (r v) (longerP (r u) m)) v = t a v := by
  have hj := j.ok hw
  have hr := (h.put1 hw j) v hj.2.2.2
  unfold put at hr ⊢
  rw [if_pos rfl] at hr ⊢
  have hl : longerP (r u) m = t a v := by unfold longerP; rw [if_neg (by omega)]; omega
  rw [hl] at hr ⊢
  rcases hd a v ha hj.2.2.2 with ⟨s, _⟩ | ⟨_, _, least⟩
  · omega
  · rcases h v hj.2.2.2 with s | ⟨s0, s1⟩
    · unfold shorterP; rw [if_pos (by omega)]
    · have := least _ s1
      unfold shorterP
      split <;> omega
theorem relax_final {P : Nat} {ws : WayL} {t : Nat → Nat → Int} {a i : Nat} {r : Nat → Int} {x : Int × Int × Int} (hw : WaysOk P ws) (hd : Dists ws P t) (ha : a < P) (h : RowOk ws P a r) (hx : x ∈ ws) (hi : i < P) (h0 : 0 ≤ t a i) (hf : r i = t a i) : relax r x i = t a i := by
  have hl := hw.lo x hx
  have j : Joins ws x.1.toNat x.2.1.toNat x.2.2 := by
    left
    rw [show ((x.1.toNat : Nat) : Int) = x.1 by omega, show ((x.2.1.toNat : Nat) : Int) = x.2.1 by omega]
    exact hx
  exact put_final hw hd ha (h.put1 hw j) j.symm hi h0 (put_final hw hd ha h j hi h0 hf)
theorem relax_next {P : Nat} {ws : WayL} {t : Nat → Nat → Int} {a u v : Nat} {m : Int} {r : Nat → Int} {x : Int × Int × Int} (hw : WaysOk P ws) (hd : Dists ws P t) (ha : a < P) (h : RowOk ws P a r) (hx : x ∈ ws) (hu : u < P) (hv : v < P)
    (hxj : x = ((u : Int), (v : Int), m) ∨ x = ((v : Int), (u : Int), m)) (h0 : 0 ≤ t a u) (hf : r u = t a u) (he : t a v = t a u + m) : relax r x v = t a v := by
  have hl := hw.lo x hx
  have hp := hw.pos x hx
  have j : Joins ws x.1.toNat x.2.1.toNat x.2.2 := by
    left
    rw [show ((x.1.toNat : Nat) : Int) = x.1 by omega, show ((x.2.1.toNat : Nat) : Int) = x.2.1 by omega]
    exact hx
  rcases hxj with rfl | rfl
  · simp only [Int.toNat_natCast] at j hp
    have h1 := put_next hw hd ha h j h0 hf he
    exact put_final hw hd ha (h.put1 hw j) j.symm hv (by omega) h1
  · simp only [Int.toNat_natCast] at j hp
    have h1 := put_final hw hd ha h j hu h0 hf
    exact put_next hw hd ha (h.put1 hw j) j.symm h0 h1 he
theorem round_ok {P : Nat} {ws : WayL} {a : Nat} (hw : WaysOk P ws) : ∀ (l : WayL) (r : Nat → Int), (∀ x ∈ l, x ∈ ws) → RowOk ws P a r → RowOk ws P a (l.foldl relax r)
  | [], _, _, h => h
  | x :: l, r, hl, h => round_ok hw l (relax r x) (fun y hy => hl y (by simp [hy])) (h.relax hw (hl x (by simp)))
theorem round_final {P : Nat} {ws : WayL} {t : Nat → Nat → Int} {a i : Nat} (hw : WaysOk P ws) (hd : Dists ws P t) (ha : a < P) (hi : i < P) (h0 : 0 ≤ t a i) : ∀ (l : WayL) (r : Nat → Int), (∀ x ∈ l, x ∈ ws) → RowOk ws P a r → r i = t a i → l.foldl relax r i = t a i
  | [], _, _, _, h => h
  | x :: l, r, hl, h, hf => round_final hw hd ha hi h0 l (relax r x) (fun y hy => hl y (by simp [hy])) (h.relax hw (hl x (by simp))) (relax_final hw hd ha h (hl x (by simp)) hi h0 hf)
theorem round_next {P : Nat} {ws : WayL} {t : Nat → Nat → Int} {a u v : Nat} {m : Int} (hw : WaysOk P ws) (hd : Dists ws P t) (ha : a < P) (hu : u < P) (hv : v < P) (hm : 1 ≤ m) (h0 : 0 ≤ t a u) (he : t a v = t a u + m) : ∀ (l : WayL) (r : Nat → Int), (∀ x ∈ l, x ∈ ws) → RowOk ws P a r → r u = t a u →
    (((u : Int), (v : Int), m) ∈ l ∨ ((v : Int), (u : Int), m) ∈ l) → l.foldl relax r v = t a v
  | [], _, _, _, _, hj => by rcases hj with hj | hj <;> cases hj
  | x :: l, r, hl, h, hf, hj => by
    have hx := hl x (by simp)
    have hl' : ∀ y ∈ l, y ∈ ws := fun y hy => hl y (by simp [hy])
    by_cases hxj : x = ((u : Int), (v : Int), m) ∨ x = ((v : Int), (u : Int), m)
    · exact round_final hw hd ha hv (by omega) l (relax r x) hl' (h.relax hw hx) (relax_next hw hd ha h hx hu hv hxj h0 hf he)
    · refine round_next hw hd ha hu hv hm h0 he l (relax r x) hl' (h.relax hw hx) (relax_final hw hd ha h hx hu h0 hf) ?_
      rcases hj with hj | hj
      · rcases List.mem_cons.1 hj with e | hj
        · exact absurd (Or.inl e.symm) hxj
        · exact .inl hj
      · rcases List.mem_cons.1 hj with e | hj
        · exact absurd (Or.inr e.symm) hxj
        · exact .inr hj
/-- How many places are nearer. -/
def rank (t : Nat → Nat → Int) (P a v : Nat) : Nat := (List.range P).countP fun u => decide (0 ≤ t a u) && decide (t a u < t a v)
theorem countP_less {p q : Nat → Bool} {l : List Nat} (h : ∀ x ∈ l, p x = true → q x = true) {y : Nat} (hy : y ∈ l) (hp : p y = false) (hq : q y = true) : l.countP p < l.countP q := by
  induction l with
  | nil => cases hy
  | cons x l ih =>
    have hle : l.countP p ≤ l.countP q := List.countP_mono_left fun z hz => h z (by simp [hz])
    rw [List.countP_cons, List.countP_cons]
    rcases List.mem_cons.1 hy with rfl | hy
    · rw [hp, hq]; simp; omega
    · have := ih (fun z hz => h z (by simp [hz])) hy
      have hx := h x (by simp)
      cases hpx : p x
      · simp; omega
      · rw [hx hpx]; simp; omega
theorem rank_less {P : Nat} {t : Nat → Nat → Int} {a u v : Nat} (hu : u < P) (h0 : 0 ≤ t a u) (h : t a u < t a v) : rank t P a u < rank t P a v := by
  refine countP_less (fun x _ hx => ?_) (List.mem_range.2 hu) (by simp) (by simp; omega)
  simp only [Bool.and_eq_true, decide_eq_true_eq] at hx ⊢
  omega
theorem rounds_ok {P : Nat} {ws : WayL} {a : Nat} {r : Nat → Int} (hw : WaysOk P ws) (h : RowOk ws P a r) (k : Nat) : RowOk ws P a (rounds r ws k) := by
  induction k with
  | zero => exact h
  | succ k ih => exact round_ok hw ws _ (fun _ hx => hx) ih
/-- Rounds as many as there are places. -/
theorem rounds_dist {P : Nat} {ws : WayL} {t : Nat → Nat → Int} {a : Nat} {r : Nat → Int} (hw : WaysOk P ws) (hd : Dists ws P t) (ha : a < P) (hr : ∀ v, v < P → r v = if v = a then 0 else -1) {v : Nat} (hv : v < P) : rounds r ws P v = t a v := by
  have h0 : RowOk ws P a r := by
    intro i hi
    rw [hr i hi]
    split
    · rename_i e; subst e; exact .inr ⟨Int.le_refl 0, .here⟩
    · exact .inl rfl
  have haa : t a a = 0 := (hd a a ha ha).unique (.self hw a)
  have key : ∀ k, rounds r ws k a = t a a ∧ ∀ v, v < P → 0 ≤ t a v → rank t P a v ≤ k → rounds r ws k v = t a v := by
    intro k
    induction k with
    | zero =>
      have e : rounds r ws 0 a = t a a := by show r a = _; rw [hr a ha, if_pos rfl, haa]
      refine ⟨e, fun v hv hv0 hk => ?_⟩
      by_cases hn : a = v
      · subst hn; exact e
      · obtain ⟨u, m, hu, j, u0, he, hm⟩ := hd.last hw ha hv hn hv0
        have := rank_less (P := P) hu u0 (show t a u < t a v by omega)
        omega
    | succ k ih =>
      have hok := rounds_ok hw h0 k
      have e : rounds r ws (k + 1) a = t a a := round_final hw hd ha ha (by omega) ws _ (fun _ hx => hx) hok ih.1
      refine ⟨e, fun v hv hv0 hk => ?_⟩
      by_cases hn : a = v
      · subst hn; exact e
      · obtain ⟨u, m, hu, j, u0, he, hm⟩ := hd.last hw ha hv hn hv0
        have := rank_less (P := P) hu u0 (show t a u < t a v by omega)
        exact round_next hw hd ha hu hv hm u0 he ws _ (fun _ hx => hx) hok (ih.2 u hu u0 (by omega)) j
  by_cases hv0 : 0 ≤ t a v
  · have hl : rank t P a v ≤ P := by
      have := List.countP_le_length (p := fun u => decide (0 ≤ t a u) && decide (t a u < t a v)) (l := List.range P)
      rw [List.length_range] at this
      exact this
    exact (key P).2 v hv hv0 hl
  · rcases hd a v ha hv with ⟨s, hno⟩ | ⟨s, _, _⟩
    · rcases rounds_ok hw h0 P v hv with e | ⟨_, w⟩
      · rw [e, s]
      · exact absurd w (hno _)
    · omega
end Lu
