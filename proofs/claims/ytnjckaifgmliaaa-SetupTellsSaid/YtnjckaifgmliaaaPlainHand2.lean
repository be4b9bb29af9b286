/- THE PLAIN SIDE of layer 7, its bytes: a setup that is read is the one that was written; the laws. No Go in sight. -/
import Derived.Test.YtnjckaifgmliaaaPlainHand
set_option linter.unusedSimpArgs false
set_option linter.unusedVariables false
namespace Lu

def eye0 (b : List Int) : List Int × Option (List Int) := eyeL (some b) [0]
def eye1 (b : List Int) : List Int × Option (List Int) := eyeR 3 (eye0 b).2
def eye2 (b : List Int) : List Int × Option (List Int) := eyeL (eye1 b).2 [0, 0]
def eye3 (b : List Int) : List Int × Option (List Int) := eyeR 4 (eye2 b).2
def eye4 (b : List Int) : List Int × Option (List Int) := eyeR 2 (eye3 b).2
def eye5 (b : List Int) : List Int × Option (List Int) := eyeR 2 (eye4 b).2
def eye6 (b : List Int) : List Int × Option (List Int) := eyeL (eye5 b).2 [0, 0, 0, 0, 0, 0, 0, 0, 0, 0, 0]
def eye7 (b : List Int) : List Int × Option (List Int) := eyeR 1 (eye6 b).2
def eye8 (b : List Int) : List Int × Option (List Int) := eyeL (eye7 b).2 [0, 0, 0]
def eye9 (b : List Int) : List Int × Option (List Int) := eyeR 2 (eye8 b).2
def ofFlat (a0 a1 a2 a3 a4 a5 a6 a7 a8 a9 : List Int) : Setup :=
  ⟨a0.getD 0 0, group3 a1, a2.getD 0 0, a2.getD 1 0, group4 a3, group2 a4, group2 a5, a6.getD 0 0, a6.getD 1 0, a6.getD 2 0, a6.getD 3 0, a6.getD 4 0, a6.getD 5 0, a6.getD 6 0, a6.getD 7 0, a6.getD 8 0, a6.getD 9 0, a6.getD 10 0, a7, a8.getD 0 0, a8.getD 1 0, a8.getD 2 0, group2 a9⟩
/-- What is read of bytes: a setup, and what is left. -/
def eyeS (b : List Int) : Setup × Option (List Int) := (ofFlat (eye0 b).1 (eye1 b).1 (eye2 b).1 (eye3 b).1 (eye4 b).1 (eye5 b).1 (eye6 b).1 (eye7 b).1 (eye8 b).1 (eye9 b).1, (eye9 b).2)
theorem manyP_one (n : Int) : manyP [n] = oneP n := by unfold manyP; simp
/-- Lists that may be read. -/
def Short (s : Setup) : Prop := s.ways.length ≤ 64 ∧ s.elements.length ≤ 64 ∧ s.classes.length ≤ 64 ∧ s.gears.length ≤ 64 ∧ s.rates.length ≤ 64 ∧ s.tiers.length ≤ 64
theorem eye_yes {s : Setup} (hs : Short s) (hp : ∀ n ∈ numbersP s, Pk n) (r : List Int) : eyeS (manyP (numbersP s) ++ r) = (s, some r) := by
  obtain ⟨h1, h2, h3, h4, h5, h6⟩ := hs
  simp only [numbersP, List.mem_append, or_imp, forall_and] at hp
  obtain ⟨p0, _, p1, p2, _, p3, _, p4, _, p5, p6, _, p7, p8, _, p9⟩ := hp
  obtain ⟨b, hb⟩ : ∃ b, manyP (numbersP s) ++ r = b := ⟨_, rfl⟩
  rw [hb]
  unfold numbersP at hb
  simp only [manyP_append, List.append_assoc] at hb
  simp only [manyP_one (s.places), manyP_one ((s.ways.length : Int)), manyP_one ((s.elements.length : Int)), manyP_one ((s.classes.length : Int)), manyP_one ((s.gears.length : Int)), manyP_one ((s.rates.length : Int)), manyP_one ((s.tiers.length : Int))] at hb
  generalize g8 : oneP (s.tiers.length : Int) ++ (manyP (flat2 s.tiers) ++ r) = R8 at hb
  generalize g7 : manyP [s.diff, s.least, s.fault] ++ R8 = R7 at hb
  generalize g6 : oneP (s.rates.length : Int) ++ (manyP s.rates ++ R7) = R6 at hb
  generalize g5 : manyP (timesL s) ++ R6 = R5 at hb
  generalize g4 : oneP (s.gears.length : Int) ++ (manyP (flat2 s.gears) ++ R5) = R4 at hb
  generalize g3 : oneP (s.classes.length : Int) ++ (manyP (flat2 s.classes) ++ R4) = R3 at hb
  generalize g2 : oneP (s.elements.length : Int) ++ (manyP (flat4 s.elements) ++ R3) = R2 at hb
  generalize g1 : manyP [s.pn, s.pd] ++ R2 = R1 at hb
  generalize g0 : oneP (s.ways.length : Int) ++ (manyP (flat3i s.ways) ++ R1) = R0 at hb
  have e0 : eye0 b = ([s.places], some R0) := by unfold eye0; rw [← hb, ← manyP_one s.places]; exact eyeL_yes p0 _ _ rfl
  have e1 : eye1 b = (flat3i s.ways, some R1) := by unfold eye1; rw [e0, ← g0]; exact (eyeR_yes h1 p1 (flat3i_length _) _).1
  have e2 : eye2 b = ([s.pn, s.pd], some R2) := by unfold eye2; rw [e1, ← g1]; exact eyeL_yes p2 _ _ rfl
  have e3 : eye3 b = (flat4 s.elements, some R3) := by unfold eye3; rw [e2, ← g2]; exact (eyeR_yes h2 p3 (flat4_length _) _).1
  have e4 : eye4 b = (flat2 s.classes, some R4) := by unfold eye4; rw [e3, ← g3]; exact (eyeR_yes h3 p4 (flat2_length _) _).1
  have e5 : eye5 b = (flat2 s.gears, some R5) := by unfold eye5; rw [e4, ← g4]; exact (eyeR_yes h4 p5 (flat2_length _) _).1
  have e6 : eye6 b = (timesL s, some R6) := by unfold eye6; rw [e5, ← g5]; exact eyeL_yes p6 _ _ rfl
  have e7 : eye7 b = (s.rates, some R7) := by unfold eye7; rw [e6, ← g6]; exact (eyeR_yes (k := 1) h5 p7 (by omega) _).1
  have e8 : eye8 b = ([s.diff, s.least, s.fault], some R8) := by unfold eye8; rw [e7, ← g7]; exact eyeL_yes p8 _ _ rfl
  have e9 : eye9 b = (flat2 s.tiers, some r) := by unfold eye9; rw [e8, ← g8]; exact (eyeR_yes h6 p9 (flat2_length _) _).1
  unfold eyeS
  rw [e0, e1, e2, e3, e4, e5, e6, e7, e8, e9]
  simp only [ofFlat, group3_flat, group4_flat, group2_flat]
  rfl
theorem list1 {l : List Int} (h : l.length = 1) : l = [l.getD 0 0] := by match l, h with | [a], _ => rfl
theorem list2 {l : List Int} (h : l.length = 2) : l = [l.getD 0 0, l.getD 1 0] := by match l, h with | [a, b], _ => rfl
theorem list3 {l : List Int} (h : l.length = 3) : l = [l.getD 0 0, l.getD 1 0, l.getD 2 0] := by match l, h with | [a, b, c], _ => rfl
theorem list11 {l : List Int} (h : l.length = 11) : l = [l.getD 0 0, l.getD 1 0, l.getD 2 0, l.getD 3 0, l.getD 4 0, l.getD 5 0, l.getD 6 0, l.getD 7 0, l.getD 8 0, l.getD 9 0, l.getD 10 0] := by
  match l, h with | [a, b, c, d, e, f, g, h, i, j, k], _ => rfl
theorem eyeR_none (k : Nat) : (eyeR k none).2 = none := by unfold eyeR; show (eyeL none _).2 = none; rw [eyeL_none]
theorem R_some {k : Nat} {x : Option (List Int)} {l r : List Int} (h : eyeR k x = (l, some r)) : ∃ b, x = some b := by
  cases x with
  | none => have := eyeR_none k; rw [h] at this; cases this
  | some b => exact ⟨b, rfl⟩
theorem L_some {x : Option (List Int)} {zs l r : List Int} (h : eyeL x zs = (l, some r)) : ∃ b, x = some b := by
  cases x with
  | none => rw [eyeL_none] at h; cases h
  | some b => exact ⟨b, rfl⟩
theorem yes_st {b : List Int} (h : Bytes b) : ∀ c, some b = some c → Bytes c := fun c hc => by simp only [Option.some.injEq] at hc; subst hc; exact h
set_option maxHeartbeats 1000000 in
theorem eye_chain {b r l0 l1 l2 l3 l4 l5 l6 l7 l8 l9 : List Int} {s0 s1 s2 s3 s4 s5 s6 s7 s8 : Option (List Int)} {z0 z2 z6 z8 : List Int} (hz0 : z0.length = 1) (hz2 : z2.length = 2) (hz6 : z6.length = 11) (hz8 : z8.length = 3) (hb : Bytes b)
    (q0 : eyeL (some b) z0 = (l0, s0)) (q1 : eyeR 3 s0 = (l1, s1)) (q2 : eyeL s1 z2 = (l2, s2)) (q3 : eyeR 4 s2 = (l3, s3)) (q4 : eyeR 2 s3 = (l4, s4)) (q5 : eyeR 2 s4 = (l5, s5)) (q6 : eyeL s5 z6 = (l6, s6)) (q7 : eyeR 1 s6 = (l7, s7)) (q8 : eyeL s7 z8 = (l8, s8)) (q9 : eyeR 2 s8 = (l9, some r)) :
    b = manyP (numbersP (ofFlat l0 l1 l2 l3 l4 l5 l6 l7 l8 l9)) ++ r ∧ (∀ n ∈ numbersP (ofFlat l0 l1 l2 l3 l4 l5 l6 l7 l8 l9), Pk n) ∧ Short (ofFlat l0 l1 l2 l3 l4 l5 l6 l7 l8 l9) := by
  obtain ⟨b8, rfl⟩ := R_some q9
  obtain ⟨b7, rfl⟩ := L_some q8
  obtain ⟨b6, rfl⟩ := R_some q7
  obtain ⟨b5, rfl⟩ := L_some q6
  obtain ⟨b4, rfl⟩ := R_some q5
  obtain ⟨b3, rfl⟩ := R_some q4
  obtain ⟨b2, rfl⟩ := R_some q3
  obtain ⟨b1, rfl⟩ := L_some q2
  obtain ⟨b0, rfl⟩ := R_some q1
  have f0 := eyeL_len (some b) z0
  have f2 := eyeL_len (some b1) z2
  have f6 := eyeL_len (some b5) z6
  have f8 := eyeL_len (some b7) z8
  rw [q0, hz0] at f0
  rw [q2, hz2] at f2
  rw [q6, hz6] at f6
  rw [q8, hz8] at f8
  obtain ⟨a0, k0, y0⟩ := eyeL_some (yes_st hb) q0
  obtain ⟨a1, k1, y1, l1', m1⟩ := eyeR_some (yes_st y0) q1
  obtain ⟨a2, k2, y2⟩ := eyeL_some (yes_st y1) q2
  obtain ⟨a3, k3, y3, l3', m3⟩ := eyeR_some (yes_st y2) q3
  obtain ⟨a4, k4, y4, l4', m4⟩ := eyeR_some (yes_st y3) q4
  obtain ⟨a5, k5, y5, l5', m5⟩ := eyeR_some (yes_st y4) q5
  obtain ⟨a6, k6, y6⟩ := eyeL_some (yes_st y5) q6
  obtain ⟨a7, k7, y7, l7', m7⟩ := eyeR_some (yes_st y6) q7
  obtain ⟨a8, k8, y8⟩ := eyeL_some (yes_st y7) q8
  obtain ⟨a9, k9, y9, l9', m9⟩ := eyeR_some (yes_st y8) q9
  clear q0 q1 q2 q3 q4 q5 q6 q7 q8 q9 y0 y1 y2 y3 y4 y5 y6 y7 y8 y9
  generalize (eyeM (some b0)).1 = c1 at *
  generalize (eyeM (some b2)).1 = c3 at *
  generalize (eyeM (some b3)).1 = c4 at *
  generalize (eyeM (some b4)).1 = c5 at *
  generalize (eyeM (some b6)).1 = c7 at *
  generalize (eyeM (some b8)).1 = c9 at *
  obtain ⟨d1, w1⟩ := flat3_group _ _ l1'
  obtain ⟨d3, w3⟩ := flat4_group _ _ l3'
  obtain ⟨d4, w4⟩ := flat2_group _ _ l4'
  obtain ⟨d5, w5⟩ := flat2_group _ _ l5'
  obtain ⟨d9, w9⟩ := flat2_group _ _ l9'
  simp only [Option.some.injEq] at a0 a1 a2 a3 a4 a5 a6 a7 a8 a9
  have pn : ∀ {n : Nat}, n ≤ 64 → ∀ z ∈ [(n : Int)], Pk z := fun hn z hz => by simp only [List.mem_singleton] at hz; subst hz; exact ⟨by omega, by omega⟩
  have hN : numbersP (ofFlat l0 l1 l2 l3 l4 l5 l6 l7 l8 l9) = l0 ++ ([(c1 : Int)] ++ (l1 ++ (l2 ++ ([(c3 : Int)] ++ (l3 ++ ([(c4 : Int)] ++ (l4 ++ ([(c5 : Int)] ++ (l5 ++ (l6 ++ ([(c7 : Int)] ++ (l7 ++ (l8 ++ ([(c9 : Int)] ++ l9)))))))))))))) := by
    have e7 : l7.length = c7 := by omega
    unfold numbersP ofFlat timesL
    simp only [d1, d3, d4, d5, d9, w1, w3, w4, w5, w9, e7]
    rw [← list1 f0, ← list2 f2, ← list11 f6, ← list3 f8]
  rw [hN]
  refine ⟨?_, ?_, ?_⟩
  · simp only [manyP_append, List.append_assoc]
    simp only [manyP_one (c1 : Int), manyP_one (c3 : Int), manyP_one (c4 : Int), manyP_one (c5 : Int), manyP_one (c7 : Int), manyP_one (c9 : Int)]
    rw [a0, a1, a2, a3, a4, a5, a6, a7, a8, a9]
  · intro n hn
    simp only [List.mem_append] at hn
    rcases hn with h | h | h | h | h | h | h | h | h | h | h | h | h | h | h | h
    · exact k0 n h
    · exact pn m1 n h
    · exact k1 n h
    · exact k2 n h
    · exact pn m3 n h
    · exact k3 n h
    · exact pn m4 n h
    · exact k4 n h
    · exact pn m5 n h
    · exact k5 n h
    · exact k6 n h
    · exact pn m7 n h
    · exact k7 n h
    · exact k8 n h
    · exact pn m9 n h
    · exact k9 n h
  · unfold Short ofFlat
    simp only
    omega
theorem pair_eta {x : List Int × Option (List Int)} : x = (x.1, x.2) := rfl
theorem eye_some {b r : List Int} {s : Setup} (hb : Bytes b) (h : eyeS b = (s, some r)) : b = manyP (numbersP s) ++ r ∧ (∀ n ∈ numbersP s, Pk n) ∧ Short s := by
  unfold eyeS at h
  rw [Prod.mk.injEq] at h
  obtain ⟨rfl, he⟩ := h
  refine eye_chain (z0 := [0]) (z2 := [0, 0]) (z6 := [0, 0, 0, 0, 0, 0, 0, 0, 0, 0, 0]) (z8 := [0, 0, 0]) rfl rfl rfl rfl hb (s0 := (eye0 b).2) (s1 := (eye1 b).2) (s2 := (eye2 b).2) (s3 := (eye3 b).2) (s4 := (eye4 b).2) (s5 := (eye5 b).2) (s6 := (eye6 b).2) (s7 := (eye7 b).2) (s8 := (eye8 b).2) ?_ ?_ ?_ ?_ ?_ ?_ ?_ ?_ ?_ ?_
  · rw [← pair_eta, eye0]
  · rw [← pair_eta, eye1]
  · rw [← pair_eta, eye2]
  · rw [← pair_eta, eye3]
  · rw [← pair_eta, eye4]
  · rw [← pair_eta, eye5]
  · rw [← pair_eta, eye6]
  · rw [← pair_eta, eye7]
  · rw [← pair_eta, eye8]
  · rw [← he, ← pair_eta, eye9]

/-! ### A setup that may be -/
theorem allP_mem {lo hi z : Int} {l : List Int} (h : allP lo hi l = true) (hz : z ∈ l) : lo ≤ z ∧ z ≤ hi := by
  unfold allP at h
  rw [List.all_eq_true] at h
  simpa using h z hz
theorem tiersP_mem {last : Int} {l : List (Int × Int)} (h : tiersP last l = true) : ∀ t ∈ l, last < t.1 ∧ t.1 ≤ 1000 ∧ 0 ≤ t.2 ∧ t.2 ≤ 100000 := by
  induction l generalizing last with
  | nil => intro t ht; simp at ht
  | cons x l ih =>
    unfold tiersP at h
    rw [Bool.and_eq_true] at h
    obtain ⟨h1, h2⟩ := h
    unfold tierP at h1
    simp only [Bool.and_eq_true, decide_eq_true_eq] at h1
    have hb := allP_mem h1.2 (z := x.2) (by simp)
    intro t ht
    rcases List.mem_cons.1 ht with rfl | ht
    · exact ⟨h1.1.1, h1.1.2, hb⟩
    · have := ih h2 t ht
      omega
theorem share_pk {a b : Int} (h : shareP a b = true) : Pk a ∧ Pk b := by
  unfold shareP at h
  simp only [Bool.and_eq_true, decide_eq_true_eq] at h
  obtain ⟨h1, h2⟩ := h
  have := h2.pos
  have := h2.num
  have := h2.den
  unfold Pk
  omega
theorem setup_short {s : Setup} (h : setupP s = true) : s.ways.length ≤ 64 ∧ s.elements.length ≤ 8 ∧ s.classes.length ≤ 8 ∧ s.gears.length ≤ 8 ∧ s.rates.length ≤ 16 ∧ s.tiers.length ≤ 8 := by
  unfold setupP placesP tablesP moneyP at h
  simp only [Bool.and_eq_true, decide_eq_true_eq] at h
  obtain ⟨⟨⟨⟨⟨_, h1⟩, _⟩, ⟨_, h2⟩⟩, _⟩, ⟨⟨⟨⟨⟨_, h3⟩, _⟩, _⟩, h4⟩, _⟩⟩ := h
  omega
theorem short_of {s : Setup} (h : setupP s = true) : Short s := by
  obtain ⟨a, b, c, d, e, f⟩ := setup_short h
  exact ⟨a, by omega, by omega, by omega, by omega, by omega⟩
theorem setup_pk {s : Setup} (h : setupP s = true) : ∀ n ∈ numbersP s, Pk n := by
  have hs := setup_short h
  have h0 := h
  unfold setupP placesP tablesP timesP moneyP at h0
  simp only [Bool.and_eq_true, decide_eq_true_eq] at h0
  obtain ⟨⟨⟨⟨⟨hp, _⟩, hw⟩, ⟨⟨⟨⟨hpa, hcl⟩, hge⟩, hel⟩, _⟩⟩, ⟨⟨⟨⟨⟨t1, t2⟩, t3⟩, t4⟩, t5⟩, t6⟩⟩, ⟨⟨⟨⟨⟨_, _⟩, hr⟩, hd⟩, _⟩, ht⟩⟩ := h0
  have pn : ∀ {n : Nat}, n ≤ 64 → ∀ z ∈ [(n : Int)], Pk z := fun hn z hz => by simp only [List.mem_singleton] at hz; subst hz; exact ⟨by omega, by omega⟩
  have two : ∀ {l : List (Int × Int)}, sharesP l = true → ∀ n ∈ flat2 l, Pk n := fun {l} hl n hn => by
    unfold flat2 at hn
    obtain ⟨r, hr, hn⟩ := List.mem_flatMap.1 hn
    unfold sharesP at hl
    rw [List.all_eq_true] at hl
    have := share_pk (hl r hr)
    simp only [List.mem_cons, List.not_mem_nil, or_false] at hn
    rcases hn with rfl | rfl
    · exact this.1
    · exact this.2
  intro n hn
  simp only [numbersP, List.mem_append] at hn
  rcases hn with h | h | h | h | h | h | h | h | h | h | h | h | h | h | h | h
  · have := allP_mem hp h; exact ⟨by omega, by omega⟩
  · exact pn hs.1 n h
  · unfold flat3i at h
    obtain ⟨r, hr, h⟩ := List.mem_flatMap.1 h
    unfold waysP at hw
    rw [List.all_eq_true] at hw
    have hw := hw r hr
    unfold wayP at hw
    simp only [Bool.and_eq_true] at hw
    have hpl := allP_mem hp (z := s.places) (by simp)
    simp only [List.mem_cons, List.not_mem_nil, or_false] at h
    rcases h with rfl | rfl | rfl
    · have := allP_mem hw.1.1 (z := r.1) (by simp); exact ⟨by omega, by omega⟩
    · have := allP_mem hw.1.1 (z := r.2.1) (by simp); exact ⟨by omega, by omega⟩
    · have := allP_mem hw.2 (z := r.2.2) (by simp); exact ⟨by omega, by omega⟩
  · exact two hpa n (by simpa [flat2] using h)
  · exact pn (by omega) n h
  · unfold flat4 at h
    obtain ⟨r, hr, h⟩ := List.mem_flatMap.1 h
    unfold elementsP at hel
    rw [List.all_eq_true] at hel
    have he := hel r hr
    unfold elementP at he
    rw [Bool.and_eq_true] at he
    have e1 := share_pk he.1
    have e2 := share_pk he.2
    simp only [List.mem_cons, List.not_mem_nil, or_false] at h
    rcases h with rfl | rfl | rfl | rfl
    · exact e1.1
    · exact e1.2
    · exact e2.1
    · exact e2.2
  · exact pn (by omega) n h
  · exact two hcl n h
  · exact pn (by omega) n h
  · exact two hge n h
  · have q1 := allP_mem t1 (z := s.allow) (by simp)
    have q2 := allP_mem t2 (z := s.unit) (by simp)
    have q3 := allP_mem t3 (z := s.cap) (by simp)
    have q4 : ∀ z ∈ [s.paidBreak, s.autoAfter, s.autoBreak, s.nightFrom, s.nightTo, s.fault, s.dayOver], Pk z := fun z hz => by have := allP_mem t4 hz; exact ⟨by omega, by omega⟩
    have q5 := allP_mem t5 (z := s.dayReg) (by simp)
    have q7 := allP_mem t4 (z := s.dayOver) (by simp)
    have q6 := allP_mem t6 (z := s.weekReg) (by simp)
    simp only [timesL, List.mem_cons, List.not_mem_nil, or_false] at h
    rcases h with rfl | rfl | rfl | rfl | rfl | rfl | rfl | rfl | rfl | rfl | rfl
    · exact ⟨by omega, by omega⟩
    · exact ⟨by omega, by omega⟩
    · exact ⟨by omega, by omega⟩
    · exact q4 _ (by simp)
    · exact q4 _ (by simp)
    · exact q4 _ (by simp)
    · exact ⟨by omega, by omega⟩
    · exact q4 _ (by simp)
    · exact ⟨by omega, by omega⟩
    · exact q4 _ (by simp)
    · exact q4 _ (by simp)
  · exact pn (by omega) n h
  · have := allP_mem hr h; exact ⟨by omega, by omega⟩
  · simp only [List.mem_cons, List.not_mem_nil, or_false] at h
    rcases h with rfl | rfl | rfl
    · have := allP_mem hd (z := s.diff) (by simp); exact ⟨by omega, by omega⟩
    · have := allP_mem hd (z := s.least) (by simp); exact ⟨by omega, by omega⟩
    · have := allP_mem t4 (z := s.fault) (by simp); exact ⟨by omega, by omega⟩
  · exact pn (by omega) n h
  · unfold flat2 at h
    obtain ⟨r, hr, h⟩ := List.mem_flatMap.1 h
    have := tiersP_mem ht r hr
    simp only [List.mem_cons, List.not_mem_nil, or_false] at h
    rcases h with rfl | rfl
    · exact ⟨by omega, by omega⟩
    · exact ⟨by omega, by omega⟩

/-! ### The laws -/
def writeP (s : Setup) : List Int × Int := if setupP s = true then (manyP (numbersP s), 0) else ([], 70)
def noSetup : Setup := ⟨0, [], 0, 0, [], [], [], 0, 0, 0, 0, 0, 0, 0, 0, 0, 0, 0, [], 0, 0, 0, []⟩
/-- Bytes are a setup's. -/
def Reads (b : List Int) (s : Setup) : Prop := setupP s = true ∧ b = manyP (numbersP s)
def readP (b : List Int) : Setup × Int := if (eyeS b).2 = some [] ∧ setupP (eyeS b).1 = true then ((eyeS b).1, 0) else (noSetup, 70)
theorem Reads.eye {b : List Int} {s : Setup} (h : Reads b s) : eyeS b = (s, some []) := by
  have := eye_yes (short_of h.1) (setup_pk h.1) []
  rw [List.append_nil, ← h.2] at this
  exact this
theorem Reads.one {b : List Int} {s t : Setup} (h : Reads b s) (k : Reads b t) : s = t := by
  have := h.eye.symm.trans k.eye
  exact congrArg Prod.fst this
theorem Reads.read {b : List Int} {s : Setup} (h : Reads b s) : readP b = (s, 0) := by
  unfold readP
  rw [h.eye, if_pos ⟨rfl, h.1⟩]
theorem readP_ok {b : List Int} {s : Setup} (hb : Bytes b) (h : readP b = (s, 0)) : Reads b s := by
  unfold readP at h
  split at h
  · rename_i hc
    have hs : (eyeS b).1 = s := congrArg Prod.fst h
    have := eye_some (s := s) (r := []) hb (by rw [← hs, ← hc.1])
    rw [List.append_nil] at this
    exact ⟨by rw [← hs]; exact hc.2, this.1⟩
  · simp at h
theorem readP_cases (b : List Int) : readP b = (noSetup, 70) ∨ ∃ s, readP b = (s, 0) ∧ setupP s = true := by
  unfold readP
  split
  · rename_i hc; exact .inr ⟨_, rfl, hc.2⟩
  · exact .inl rfl
theorem readP_no {b : List Int} (hb : Bytes b) (h : ∀ s, ¬ Reads b s) : readP b = (noSetup, 70) := by
  rcases readP_cases b with e | ⟨s, e, _⟩
  · exact e
  · exact absurd (readP_ok hb e) (h s)
theorem writeP_yes {s : Setup} (h : setupP s = true) : writeP s = (manyP (numbersP s), 0) := by rw [writeP, if_pos h]
theorem writeP_no {s : Setup} (h : setupP s = false) : writeP s = ([], 70) := by rw [writeP, if_neg (by rw [h]; decide)]
theorem write_read {s : Setup} (h : setupP s = true) : readP (manyP (numbersP s)) = (s, 0) := Reads.read ⟨h, rfl⟩
/-- Of unlike setups no one's bytes are a beginning of the other's. -/
theorem apart {s t : Setup} (hs : setupP s = true) (ht : setupP t = true) : ((manyP (numbersP s)).take (min (manyP (numbersP s)).length (manyP (numbersP t)).length) = (manyP (numbersP t)).take (min (manyP (numbersP s)).length (manyP (numbersP t)).length)) ↔ numbersP s = numbersP t := by
  have key : ∀ {s t : Setup}, setupP s = true → setupP t = true → (manyP (numbersP s)).length ≤ (manyP (numbersP t)).length → manyP (numbersP s) = (manyP (numbersP t)).take (manyP (numbersP s)).length → s = t := by
    intro s t hs ht _ he
    have h1 := eye_yes (short_of hs) (setup_pk hs) ((manyP (numbersP t)).drop (manyP (numbersP s)).length)
    have h2 := eye_yes (short_of ht) (setup_pk ht) []
    rw [List.append_nil] at h2
    have h3 : manyP (numbersP s) ++ (manyP (numbersP t)).drop (manyP (numbersP s)).length = manyP (numbersP t) := by
      have := List.take_append_drop (manyP (numbersP s)).length (manyP (numbersP t))
      rw [← he] at this
      exact this
    rw [h3, h2] at h1
    exact (congrArg Prod.fst h1).symm
  constructor
  · intro h
    rcases Nat.le_total (manyP (numbersP s)).length (manyP (numbersP t)).length with hl | hl
    · rw [Nat.min_eq_left hl, List.take_length] at h
      rw [key hs ht hl h]
    · rw [Nat.min_eq_right hl, List.take_length] at h
      rw [key ht hs hl h.symm]
  · intro h
    rw [h]
theorem cut_no {s : Setup} (hs : setupP s = true) {k : Nat} (hk : k < (manyP (numbersP s)).length) (t : Setup) : ¬ Reads ((manyP (numbersP s)).take k) t := by
  rintro ⟨ht, h⟩
  have h1 := eye_yes (short_of ht) (setup_pk ht) ((manyP (numbersP s)).drop k)
  rw [← h, List.take_append_drop] at h1
  have h2 := eye_yes (short_of hs) (setup_pk hs) []
  rw [List.append_nil, h1] at h2
  have h3 : (manyP (numbersP s)).drop k = [] := by simpa using congrArg Prod.snd h2
  rw [List.drop_eq_nil_iff] at h3
  omega
theorem more_no {s : Setup} (hs : setupP s = true) (n : Int) (t : Setup) : ¬ Reads (manyP (numbersP s) ++ oneP n) t := by
  rintro ⟨ht, h⟩
  have h1 := eye_yes (short_of hs) (setup_pk hs) (oneP n)
  have h2 := eye_yes (short_of ht) (setup_pk ht) []
  rw [List.append_nil, ← h, h1] at h2
  have h3 : oneP n = [] := by simpa using congrArg Prod.snd h2
  have := oneP_pos n
  rw [h3] at this
  simp at this
set_option maxHeartbeats 1000000 in
theorem numbersP_len {s : Setup} (h : setupP s = true) : (numbersP s).length ≤ 400 := by
  obtain ⟨a, b, c, d, e, f⟩ := setup_short h
  unfold numbersP timesL
  simp only [List.length_append, List.length_cons, List.length_nil, flat3i_length, flat2_length, flat4_length]
  omega
theorem oneP_len {n : Int} (h : Pk n) : (oneP n).length ≤ 9 := by unfold oneP; have := h.len; simp only [List.length_cons]; omega
theorem manyP_len {l : List Int} (h : ∀ n ∈ l, Pk n) : (manyP l).length ≤ l.length * 9 := by
  induction l with
  | nil => decide
  | cons n l ih =>
    rw [manyP_cons, List.length_append, List.length_cons]
    have := ih (fun m hm => h m (by simp [hm]))
    have := oneP_len (h n (by simp))
    omega
end Lu
