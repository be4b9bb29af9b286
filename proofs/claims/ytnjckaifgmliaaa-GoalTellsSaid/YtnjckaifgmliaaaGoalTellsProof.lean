/- GoalTells: THE STATEMENT: for every input the law returns true, and each argument reads behind the call as it read before. No condition. -/
import Derived.Test.YtnjckaifgmliaaaPlainGoal
import Derived.Test.YtnjckaifgmliaaaGoal
import Derived.Test.YtnjckaifgmliaaaEmpty
import Derived.Test.YtnjckaifgmliaaaRef10
import Derived.Test.YtnjckaifgmliaaaNumUp
import Derived.ProofKit
import Derived.OpenShut
import Derived.ChangeOld
import Derived.Test.YtnjckaifgmliaaaRatio4
import Derived.Lib.SmallJoins
import Derived.Deep.Slices
import Derived.Deep.Fields
import Derived.Test.YtnjckaifgmliaaaSetupCheck
set_option linter.unusedSimpArgs false
set_option linter.unusedVariables false
-- (MERGED of several texts)

/- THE PLAIN LAWS of layer 10: what a goal is as a fraction, and what follows. No Go in sight. -/

namespace Lu

/-- A share. -/
def Sh (r : Int × Int) : Prop := Ok r.1 r.2 ∧ 0 ≤ r.1
/-- What has been reckoned is N through D, or too great. -/
def St (r : (Int × Int) × Int) (N D : Int) : Prop :=
  0 < D ∧ 0 ≤ N ∧ ((r.2 = 0 ∧ Sh r.1 ∧ r.1.1 * D = N * r.1.2) ∨ (r.2 = 10 ∧ r.1 = (0, 0)))
theorem mkP_code {n d : Int} (hd : 0 < d) : (mkP n d).2 = 0 ∨ (mkP n d).2 = 10 := by
  by_cases h0 : n = 0
  · subst h0; rw [mkP_none hd]; exact .inl rfl
  · by_cases c : 2147483647 < n.tdiv (gcdP n d) ∨ n.tdiv (gcdP n d) < -2147483647 ∨ 2147483647 < d / gcdP n d
    · rw [mkP_over hd h0 c]; exact .inr rfl
    · rw [mkP_in hd h0 c]; exact .inl rfl
/-- A quotient of numbers that fit. -/
theorem St.mk {n d : Int} (hn : In n) (hd : In d) (h0 : 0 ≤ n) (h1 : 0 < d) : St (mkP n d) n d := by
  refine ⟨h1, h0, ?_⟩
  obtain ⟨x, y, e, h⟩ : ∃ x y e, mkP n d = ((x, y), e) := ⟨_, _, _, rfl⟩
  rcases mkP_code (n := n) h1 with c | c
  · rw [h] at c ⊢
    simp only at c
    subst c
    obtain ⟨ho, he, _⟩ := mkP_is_ok hn hd h
    refine .inl ⟨rfl, ⟨ho, ?_⟩, he⟩
    have hy := ho.pos
    have h2 : 0 ≤ n * y := Int.mul_nonneg h0 (by omega)
    rw [← he] at h2
    exact Int.nonneg_of_mul_nonneg_left h2 h1
  · rw [h] at c ⊢
    simp only at c
    subst c
    obtain ⟨rfl, rfl⟩ := mkP_err h (by decide)
    exact .inr ⟨rfl, rfl⟩
theorem prod_pos {a b : Int} (ha : 0 < a) (hb : 0 < b) : 0 < a * b := Int.mul_pos ha hb
theorem St.cast {r : (Int × Int) × Int} {n d N D : Int} (h : St r n d) (hD : 0 < D) (hN : 0 ≤ N) (he : n * D = N * d) : St r N D := by
  obtain ⟨hd, hn, h⟩ := h
  refine ⟨hD, hN, ?_⟩
  rcases h with ⟨h0, hs, hx⟩ | h
  · refine .inl ⟨h0, hs, ?_⟩
    have : (r.1.1 * D) * d = (N * r.1.2) * d := by grind
    exact Int.eq_of_mul_eq_mul_right (by omega) this
  · exact .inr h
theorem St.mul {r : (Int × Int) × Int} {N D : Int} {b : Int × Int} (h : St r N D) (hb : Sh b) : St (stepP mulRP r.1 b r.2) (N * b.1) (D * b.2) := by
  obtain ⟨hD, hN, h⟩ := h
  have hb2 := hb.1.pos
  have p1 := prod_pos hD hb2
  have p2 := Int.mul_nonneg hN hb.2
  rcases h with ⟨h0, hs, hx⟩ | ⟨h0, hz⟩
  · have e : stepP mulRP r.1 b r.2 = mkP (r.1.1 * b.1) (r.1.2 * b.2) := by rw [stepP, if_pos h0]; exact twoP_ok hs.1 hb.1
    rw [e]
    obtain ⟨i1, i2⟩ := mul_in hs.1 hb.1
    exact (St.mk i1 i2 (Int.mul_nonneg hs.2 hb.2) (prod_pos hs.1.pos hb2)).cast p1 p2 (by grind)
  · refine ⟨p1, p2, .inr ?_⟩
    rw [stepP, if_neg (by omega), h0]
    exact ⟨rfl, rfl⟩
/-- The first one is fixed; what was wrong before stays. -/
theorem St.after_mul {a b : Int × Int} {r : (Int × Int) × Int} {N D : Int} (h : St r N D) (ha : Sh a) (hb : Sh b) : St (stepP mulRP a b r.2) (a.1 * b.1) (a.2 * b.2) := by
  have p1 := prod_pos ha.1.pos hb.1.pos
  have p2 := Int.mul_nonneg ha.2 hb.2
  rcases h.2.2 with ⟨h0, _⟩ | ⟨h0, _⟩
  · have e : stepP mulRP a b r.2 = mkP (a.1 * b.1) (a.2 * b.2) := by rw [stepP, if_pos h0]; exact twoP_ok ha.1 hb.1
    rw [e]
    obtain ⟨i1, i2⟩ := mul_in ha.1 hb.1
    exact St.mk i1 i2 p2 p1
  · refine ⟨p1, p2, .inr ?_⟩
    rw [stepP, if_neg (by omega), h0]
    exact ⟨rfl, rfl⟩
theorem St.add {a : Int × Int} {r : (Int × Int) × Int} {A B N D : Int} (ha : r.2 = 0 → Sh a ∧ a.1 * B = A * a.2) (hB : 0 < B) (hA : 0 ≤ A) (h : St r N D) : St (stepP addRP a r.1 r.2) (A * D + N * B) (B * D) := by
  obtain ⟨hD, hN, h⟩ := h
  have p1 := prod_pos hB hD
  have p2 : 0 ≤ A * D + N * B := Int.add_nonneg (Int.mul_nonneg hA (by omega)) (Int.mul_nonneg hN (by omega))
  rcases h with ⟨h0, hs, hx⟩ | ⟨h0, hz⟩
  · obtain ⟨sa, ea⟩ := ha h0
    have e : stepP addRP a r.1 r.2 = mkP (a.1 * r.1.2 + r.1.1 * a.2) (a.2 * r.1.2) := by rw [stepP, if_pos h0]; exact twoP_ok sa.1 hs.1
    rw [e]
    obtain ⟨i1, i2⟩ := add_in sa.1 hs.1
    have q1 := sa.1.pos
    have q2 := hs.1.pos
    exact (St.mk i1 i2 (Int.add_nonneg (Int.mul_nonneg sa.2 (by omega)) (Int.mul_nonneg hs.2 (by omega))) (prod_pos q1 q2)).cast p1 p2 (by grind)
  · refine ⟨p1, p2, .inr ?_⟩
    rw [stepP, if_neg (by omega), h0]
    exact ⟨rfl, rfl⟩
theorem stepP_zero {f : Int → Int → Int → Int → (Int × Int) × Int} {a b : Int × Int} {e : Int} (h : (stepP f a b e).2 = 0) : e = 0 := by
  unfold stepP at h
  split at h
  · assumption
  · exact h
theorem sh_one {n : Int} (h0 : 0 ≤ n) (h1 : n ≤ 2147483647) : Sh (n, 1) := ⟨⟨by omega, h1, by omega, by omega, by simp⟩, h0⟩
def allowP (allow : Int) : Int × Int := (mkP (100 + allow) 100).1
theorem allow_is {allow : Int} (h : 0 ≤ allow ∧ allow ≤ 100) : Sh (allowP allow) ∧ (allowP allow).1 * 100 = (100 + allow) * (allowP allow).2 := by
  have hs := St.mk (n := 100 + allow) (d := 100) (by unfold In; omega) (by decide) (by omega) (by decide)
  have hd : ∀ a : Fin 101, (mkP (100 + (a.val : Int)) 100).2 = 0 := by decide +kernel
  have h2 : (mkP (100 + allow) 100).2 = 0 := by
    have := hd ⟨allow.toNat, by omega⟩
    simpa [show ((allow.toNat : Nat) : Int) = allow by omega] using this
  rcases hs.2.2 with ⟨_, h3, h4⟩ | ⟨h3, _⟩
  · exact ⟨h3, h4⟩
  · omega
/-- The goal as a fraction: what does not hang on the units, what does, and the divisor. -/
def gD (pace gear unit fixed cls : Int × Int) : Int := (1 * pace.2 * gear.2) * (fixed.2 * (unit.2 * 1) * cls.2)
def gN (far units : Int) (pace gear unit fixed cls : Int × Int) : Int := (far * pace.1 * gear.1) * (fixed.2 * (unit.2 * 1) * cls.2) + ((fixed.1 * (unit.2 * 1) + (unit.1 * units) * fixed.2) * cls.1) * (1 * pace.2 * gear.2)
theorem goalB_is {far units : Int} {pace gear unit fixed cls : Int × Int} (hf : 0 ≤ far ∧ far ≤ 640000) (hu : 0 ≤ units ∧ units ≤ 10000) (s1 : Sh pace) (s2 : Sh gear) (s3 : Sh unit) (s4 : Sh fixed) (s5 : Sh cls) :
    St (goalB far units pace gear unit fixed cls) (gN far units pace gear unit fixed cls) (gD pace gear unit fixed cls) := by
  have sf := sh_one hf.1 (by omega : far ≤ 2147483647)
  have su := sh_one hu.1 (by omega : units ≤ 2147483647)
  have t1 : St (goalT1 far pace) (far * pace.1) (1 * pace.2) := by
    have h0 : St ((far, 1), 0) far 1 := ⟨by decide, hf.1, .inl ⟨rfl, sf, rfl⟩⟩
    exact h0.mul s1
  have t2 : St (goalT2 far pace gear) _ _ := t1.mul s2
  have h0 : St (goalH0 far units pace gear unit) (unit.1 * units) (unit.2 * 1) := t2.after_mul s3 su
  have h1 : St (goalH1 far units pace gear unit fixed) _ _ := St.add (a := fixed) (A := fixed.1) (B := fixed.2) (fun _ => ⟨s4, rfl⟩) s4.1.pos s4.2 h0
  have h2 : St (goalH2 far units pace gear unit fixed cls) _ _ := h1.mul s5
  have z : (goalH2 far units pace gear unit fixed cls).2 = 0 → (goalT2 far pace gear).2 = 0 := fun h => stepP_zero (stepP_zero (stepP_zero h))
  exact St.add (a := (goalT2 far pace gear).1) (fun h => by
    rcases t2.2.2 with ⟨_, a, b⟩ | ⟨a, _⟩
    · exact ⟨a, b⟩
    · have := z h; omega) t2.1 t2.2.1 h2
theorem goalO_is {far units allow : Int} {pace gear unit fixed cls : Int × Int} (hf : 0 ≤ far ∧ far ≤ 640000) (hu : 0 ≤ units ∧ units ≤ 10000) (ha : 0 ≤ allow ∧ allow ≤ 100) (s1 : Sh pace) (s2 : Sh gear) (s3 : Sh unit) (s4 : Sh fixed) (s5 : Sh cls) :
    St (goalO far units allow pace gear unit fixed cls) (gN far units pace gear unit fixed cls * (allowP allow).1) (gD pace gear unit fixed cls * (allowP allow).2) :=
  (goalB_is hf hu s1 s2 s3 s4 s5).mul (allow_is ha).1
/-- Where a task stays the gear does not matter. -/
theorem goalO_stay {units allow : Int} {pace gear gear' unit fixed cls : Int × Int} (s1 : Sh pace) (s2 : Sh gear) (s2' : Sh gear') : goalO 0 units allow pace gear unit fixed cls = goalO 0 units allow pace gear' unit fixed cls := by
  have t : ∀ g, Sh g → goalT2 0 pace g = ((0, 1), 0) := by
    intro g hg
    have e1 : goalT1 0 pace = ((0, 1), 0) := by
      unfold goalT1 mulRP
      rw [twoP_ok (by decide) s1.1, Int.zero_mul, mkP_none (by have := s1.1.pos; omega)]
    unfold goalT2
    rw [e1]
    show mulRP 0 1 g.1 g.2 = _
    unfold mulRP
    rw [twoP_ok (by decide) hg.1, Int.zero_mul, mkP_none (by have := hg.1.pos; omega)]
  unfold goalO goalB goalH2 goalH1 goalH0
  rw [t gear s2, t gear' s2']
theorem St.ok {r : (Int × Int) × Int} {N D : Int} (h : St r N D) (h0 : r.2 = 0) : Sh r.1 ∧ r.1.1 * D = N * r.1.2 := by
  rcases h.2.2 with ⟨_, a, b⟩ | ⟨a, _⟩
  · exact ⟨a, b⟩
  · omega
/-- So many percent of the goal without an allowance. -/
theorem goal_allow {far units allow a1 a2 b1 b2 : Int} {pace gear unit fixed cls : Int × Int} (hf : 0 ≤ far ∧ far ≤ 640000) (hu : 0 ≤ units ∧ units ≤ 10000) (ha : 0 ≤ allow ∧ allow ≤ 100) (s1 : Sh pace) (s2 : Sh gear) (s3 : Sh unit) (s4 : Sh fixed) (s5 : Sh cls)
    (h1 : goalO far units allow pace gear unit fixed cls = ((a1, a2), 0)) (h2 : goalO far units 0 pace gear unit fixed cls = ((b1, b2), 0)) : a1 * b2 * 100 = b1 * (100 + allow) * a2 := by
  have g1 := goalO_is hf hu ha s1 s2 s3 s4 s5
  have g2 := goalO_is hf hu (allow := 0) (by decide) s1 s2 s3 s4 s5
  rw [h1] at g1
  rw [h2] at g2
  obtain ⟨_, e1⟩ := g1.ok rfl
  obtain ⟨_, e2⟩ := g2.ok rfl
  have d1 := g1.1
  have hD : (0 : Int) < gD pace gear unit fixed cls := (goalB_is hf hu s1 s2 s3 s4 s5).1
  have x0 : allowP 0 = (1, 1) := by decide +kernel
  rw [x0] at e2
  simp only at e1 e2
  have ea := (allow_is ha).2
  obtain ⟨N, hN⟩ : ∃ N, gN far units pace gear unit fixed cls = N := ⟨_, rfl⟩
  obtain ⟨D, hDD⟩ : ∃ D, gD pace gear unit fixed cls = D := ⟨_, rfl⟩
  rw [hN, hDD] at e1 e2
  rw [hDD] at hD
  have d2 := (allow_is ha).1.1.pos
  obtain ⟨p, hp⟩ : ∃ p, (allowP allow).1 = p := ⟨_, rfl⟩
  obtain ⟨r, hr⟩ : ∃ r, (allowP allow).2 = r := ⟨_, rfl⟩
  rw [hp, hr] at e1 ea
  rw [hr] at d2
  have : (a1 * b2 * 100) * (D * r) = (b1 * (100 + allow) * a2) * (D * r) := by grind
  exact Int.eq_of_mul_eq_mul_right (by have := prod_pos hD d2; omega) this
/-- So many units more take as much more. -/
theorem gN_more (far units k : Int) (pace gear unit fixed cls : Int × Int) : gN far (units + k) pace gear unit fixed cls = gN far units pace gear unit fixed cls + unit.1 * fixed.2 * cls.1 * (1 * pace.2 * gear.2) * k := by
  unfold gN
  grind
theorem units_minus {a1 a2 b1 b2 x1 x2 P Na Nb : Int} (oa : 0 < a2) (ob : 0 < b2) (ha : a1 * P = Na * a2) (hb : b1 * P = Nb * b2) (h : x1 * (b2 * a2) = (b1 * a2 - a1 * b2) * x2) : x1 * P = (Nb - Na) * x2 := by
  have : (x1 * P) * (b2 * a2) = ((Nb - Na) * x2) * (b2 * a2) := by grind
  exact Int.eq_of_mul_eq_mul_right (by have := prod_pos ob oa; omega) this
theorem units_less {a1 a2 b1 b2 P Na Nb : Int} (hP : 0 < P) (oa : 0 < a2) (ob : 0 < b2) (ha : a1 * P = Na * a2) (hb : b1 * P = Nb * b2) (h : Na ≤ Nb) : ¬ b1 * a2 < a1 * b2 := by
  intro hl
  have h1 : (b1 * a2) * P < (a1 * b2) * P := Int.mul_lt_mul_of_pos_right hl hP
  have h2 : (b1 * a2) * P = Nb * (b2 * a2) := by grind
  have h3 : (a1 * b2) * P = Na * (b2 * a2) := by grind
  rw [h2, h3] at h1
  have h4 := Int.mul_le_mul_of_nonneg_right h (Int.le_of_lt (prod_pos ob oa))
  omega
theorem units_same {x1 x2 y1 y2 P M : Int} (hP : 0 < P) (ox : Ok x1 x2) (oy : Ok y1 y2) (hx : x1 * P = M * x2) (hy : y1 * P = M * y2) : x1 = y1 ∧ x2 = y2 := by
  refine ok_eq ox oy ?_
  have : (x1 * y2) * P = (y1 * x2) * P := by grind
  exact Int.eq_of_mul_eq_mul_right (by omega) this
end Lu

/- goal.Of, where there is no task: the error 100; and whatever the setup and the event. -/

namespace Go.Proofs.Ytnjckaifgmliaaa
open Go.RowKit Lu

set_option maxRecDepth 100000 in
set_option maxHeartbeats 4000000 in
theorem goal_no (s : Setup) (q : Slices) (x : Evt) (w : World) (h : SetupIs w s q) (hx : EventIs x) (hn : Hid (¬ (setupP s = true ∧ eventP s x = true ∧ x.kind = 3 ∧ distP s x.from' x.to' ≠ -1))) : Calls Try.prog 25 #[.agg #[.int .i64 s.places, .slice q.wa q.wl q.wc, .int .i64 s.pn, .int .i64 s.pd, .slice q.ea q.el q.ec, .slice q.ca q.cl q.cc, .slice q.ga q.gl q.gc, .int .i64 s.allow, .int .i64 s.unit, .int .i64 s.cap, .int .i64 s.paidBreak, .int .i64 s.autoAfter, .int .i64 s.autoBreak, .int .i64 s.dayReg, .int .i64 s.dayOver, .int .i64 s.weekReg, .int .i64 s.nightFrom, .int .i64 s.nightTo, .slice q.ra q.rl q.rc, .int .i64 s.diff, .int .i64 s.least, .int .i64 s.fault, .slice q.ta q.tl q.tc], .agg #[.int .i64 x.id, .int .i64 x.worker, .int .i64 x.at', .int .i64 x.kind, .int .i64 x.from', .int .i64 x.to', .int .i64 x.element, .int .i64 x.units, .int .i64 x.class', .int .i64 x.gear, .int .i64 x.code]] w fun r w' => r = .returned (.tuple #[.agg #[.int .i64 0, .int .i64 0], .int .i64 100]) ∧ Below w.heap.size w w' := by
  obtain ⟨c, hc⟩ : ∃ c, setupP s = c := ⟨_, rfl⟩
  have HC := Lib.hid hc
  clear hc
  obtain ⟨v, hv⟩ : ∃ v, eventP s x = v := ⟨_, rfl⟩
  have HV := Lib.hid hv
  clear hv
  have hs : (((w.alloc (.cells #[.int .i64 s.places, .slice q.wa q.wl q.wc, .int .i64 s.pn, .int .i64 s.pd, .slice q.ea q.el q.ec, .slice q.ca q.cl q.cc, .slice q.ga q.gl q.gc, .int .i64 s.allow, .int .i64 s.unit, .int .i64 s.cap, .int .i64 s.paidBreak, .int .i64 s.autoAfter, .int .i64 s.autoBreak, .int .i64 s.dayReg, .int .i64 s.dayOver, .int .i64 s.weekReg, .int .i64 s.nightFrom, .int .i64 s.nightTo, .slice q.ra q.rl q.rc, .int .i64 s.diff, .int .i64 s.least, .int .i64 s.fault, .slice q.ta q.tl q.tc] 30)).alloc (.cells #[.int .i64 x.id, .int .i64 x.worker, .int .i64 x.at', .int .i64 x.kind, .int .i64 x.from', .int .i64 x.to', .int .i64 x.element, .int .i64 x.units, .int .i64 x.class', .int .i64 x.gear, .int .i64 x.code] 47)).alloc (.cells #[.int .i64 0, .int .i64 0] 24)).heap[w.heap.size]? = some (.cells #[.int .i64 s.places, .slice q.wa q.wl q.wc, .int .i64 s.pn, .int .i64 s.pd, .slice q.ea q.el q.ec, .slice q.ca q.cl q.cc, .slice q.ga q.gl q.gc, .int .i64 s.allow, .int .i64 s.unit, .int .i64 s.cap, .int .i64 s.paidBreak, .int .i64 s.autoAfter, .int .i64 s.autoBreak, .int .i64 s.dayReg, .int .i64 s.dayOver, .int .i64 s.weekReg, .int .i64 s.nightFrom, .int .i64 s.nightTo, .slice q.ra q.rl q.rc, .int .i64 s.diff, .int .i64 s.least, .int .i64 s.fault, .slice q.ta q.tl q.tc] 30) := box_keep (B := w.heap.size + 1) (by go_grown) (box_new w _ rfl _ _) (by omega)
  have hb : (((w.alloc (.cells #[.int .i64 s.places, .slice q.wa q.wl q.wc, .int .i64 s.pn, .int .i64 s.pd, .slice q.ea q.el q.ec, .slice q.ca q.cl q.cc, .slice q.ga q.gl q.gc, .int .i64 s.allow, .int .i64 s.unit, .int .i64 s.cap, .int .i64 s.paidBreak, .int .i64 s.autoAfter, .int .i64 s.autoBreak, .int .i64 s.dayReg, .int .i64 s.dayOver, .int .i64 s.weekReg, .int .i64 s.nightFrom, .int .i64 s.nightTo, .slice q.ra q.rl q.rc, .int .i64 s.diff, .int .i64 s.least, .int .i64 s.fault, .slice q.ta q.tl q.tc] 30)).alloc (.cells #[.int .i64 x.id, .int .i64 x.worker, .int .i64 x.at', .int .i64 x.kind, .int .i64 x.from', .int .i64 x.to', .int .i64 x.element, .int .i64 x.units, .int .i64 x.class', .int .i64 x.gear, .int .i64 x.code] 47)).alloc (.cells #[.int .i64 0, .int .i64 0] 24)).heap[w.heap.size + 1]? = some (.cells #[.int .i64 x.id, .int .i64 x.worker, .int .i64 x.at', .int .i64 x.kind, .int .i64 x.from', .int .i64 x.to', .int .i64 x.element, .int .i64 x.units, .int .i64 x.class', .int .i64 x.gear, .int .i64 x.code] 47) := box_keep (B := w.heap.size + 2) (by go_grown) (box_new _ _ (by simp) _ _) (by omega)
  have hR : Own (((w.alloc (.cells #[.int .i64 s.places, .slice q.wa q.wl q.wc, .int .i64 s.pn, .int .i64 s.pd, .slice q.ea q.el q.ec, .slice q.ca q.cl q.cc, .slice q.ga q.gl q.gc, .int .i64 s.allow, .int .i64 s.unit, .int .i64 s.cap, .int .i64 s.paidBreak, .int .i64 s.autoAfter, .int .i64 s.autoBreak, .int .i64 s.dayReg, .int .i64 s.dayOver, .int .i64 s.weekReg, .int .i64 s.nightFrom, .int .i64 s.nightTo, .slice q.ra q.rl q.rc, .int .i64 s.diff, .int .i64 s.least, .int .i64 s.fault, .slice q.ta q.tl q.tc] 30)).alloc (.cells #[.int .i64 x.id, .int .i64 x.worker, .int .i64 x.at', .int .i64 x.kind, .int .i64 x.from', .int .i64 x.to', .int .i64 x.element, .int .i64 x.units, .int .i64 x.class', .int .i64 x.gear, .int .i64 x.code] 47)).alloc (.cells #[.int .i64 0, .int .i64 0] 24)) (w.heap.size + 2) 0 0 := Own.new' (by simp)
  have B0 : Below w.heap.size w (((w.alloc (.cells #[.int .i64 s.places, .slice q.wa q.wl q.wc, .int .i64 s.pn, .int .i64 s.pd, .slice q.ea q.el q.ec, .slice q.ca q.cl q.cc, .slice q.ga q.gl q.gc, .int .i64 s.allow, .int .i64 s.unit, .int .i64 s.cap, .int .i64 s.paidBreak, .int .i64 s.autoAfter, .int .i64 s.autoBreak, .int .i64 s.dayReg, .int .i64 s.dayOver, .int .i64 s.weekReg, .int .i64 s.nightFrom, .int .i64 s.nightTo, .slice q.ra q.rl q.rc, .int .i64 s.diff, .int .i64 s.least, .int .i64 s.fault, .slice q.ta q.tl q.tc] 30)).alloc (.cells #[.int .i64 x.id, .int .i64 x.worker, .int .i64 x.at', .int .i64 x.kind, .int .i64 x.from', .int .i64 x.to', .int .i64 x.element, .int .i64 x.units, .int .i64 x.class', .int .i64 x.gear, .int .i64 x.code] 47)).alloc (.cells #[.int .i64 0, .int .i64 0] 24)) := by go_grown
  go_enter Try.func25, Try.ntmps25
  go_wp2_with (refine wpList_load_box 30 (.tmp 2) rfl rfl w.heap.size rfl 30 #[.int .i64 s.places, .slice q.wa q.wl q.wc, .int .i64 s.pn, .int .i64 s.pd, .slice q.ea q.el q.ec, .slice q.ca q.cl q.cc, .slice q.ga q.gl q.gc, .int .i64 s.allow, .int .i64 s.unit, .int .i64 s.cap, .int .i64 s.paidBreak, .int .i64 s.autoAfter, .int .i64 s.autoBreak, .int .i64 s.dayReg, .int .i64 s.dayOver, .int .i64 s.weekReg, .int .i64 s.nightFrom, .int .i64 s.nightTo, .slice q.ra q.rl q.rc, .int .i64 s.diff, .int .i64 s.least, .int .i64 s.fault, .slice q.ta q.tl q.tc] hs setup_big ?_)
  refine (setup_Check s q c _ (h.below (by go_grown)) HC.out).mono ?_
  rintro eA wA ⟨rfl, kA⟩
  replace B0 := B0.trans (kA.mono (by first | (simp; done) | (simp; omega)))
  replace hs := box_keep kA hs (by first | (simp; done) | (simp; omega))
  replace hb := box_keep kA hb (by first | (simp; done) | (simp; omega))
  replace hR := hR.below kA
  clear kA
  cases c
  · skip
    obtain ⟨rl, r0, r1, r2, r3⟩ := hR
    go_wp2_with fail
    refine bodyPost_ret (v := .tuple #[.agg #[.int .i64 0, .int .i64 0], .int .i64 100]) (by simp [results, Try.results25, go_sem, r0, r1]) rfl ⟨rfl, (B0.setCell (by simp; omega) _).setCell (by simp; omega) _⟩
  go_wp2_with (first | (refine wpList_load_box 30 (.tmp 2) rfl rfl w.heap.size rfl 30 #[.int .i64 s.places, .slice q.wa q.wl q.wc, .int .i64 s.pn, .int .i64 s.pd, .slice q.ea q.el q.ec, .slice q.ca q.cl q.cc, .slice q.ga q.gl q.gc, .int .i64 s.allow, .int .i64 s.unit, .int .i64 s.cap, .int .i64 s.paidBreak, .int .i64 s.autoAfter, .int .i64 s.autoBreak, .int .i64 s.dayReg, .int .i64 s.dayOver, .int .i64 s.weekReg, .int .i64 s.nightFrom, .int .i64 s.nightTo, .slice q.ra q.rl q.rc, .int .i64 s.diff, .int .i64 s.least, .int .i64 s.fault, .slice q.ta q.tl q.tc] hs setup_big ?_) | (refine wpList_load_box 47 (.tmp 3) rfl rfl (w.heap.size + 1) rfl 47 #[.int .i64 x.id, .int .i64 x.worker, .int .i64 x.at', .int .i64 x.kind, .int .i64 x.from', .int .i64 x.to', .int .i64 x.element, .int .i64 x.units, .int .i64 x.class', .int .i64 x.gear, .int .i64 x.code] hb event_big ?_))
  refine (event_Check s q x v _ (h.below B0) hx HV.out).mono ?_
  rintro eA wB ⟨rfl, kA⟩
  replace B0 := B0.trans (kA.mono (by have := hR.lt; omega))
  replace hs := box_keep kA hs (by have := hR.lt; omega)
  replace hb := box_keep kA hb (by have := hR.lt; omega)
  replace hR := hR.below kA
  clear kA
  cases v
  · skip
    obtain ⟨rl, r0, r1, r2, r3⟩ := hR
    go_wp2_with fail
    refine bodyPost_ret (v := .tuple #[.agg #[.int .i64 0, .int .i64 0], .int .i64 100]) (by simp [results, Try.results25, go_sem, r0, r1]) rfl ⟨rfl, (B0.setCell (by simp; omega) _).setCell (by simp; omega) _⟩
  have c3 : wB.cell? ⟨w.heap.size + 1, 3, none⟩ = some (.int .i64 x.kind) := by simp [World.cell?, hb]
  have c4 : wB.cell? ⟨w.heap.size + 1, 4, none⟩ = some (.int .i64 x.from') := by simp [World.cell?, hb]
  have c5 : wB.cell? ⟨w.heap.size + 1, 5, none⟩ = some (.int .i64 x.to') := by simp [World.cell?, hb]
  by_cases p3 : x.kind = 3
  rotate_left
  · have k3 : (x.kind == 3) = false := by rw [beq_eq_false_iff_ne]; exact p3
    have k3' : (x.kind != 3) = true := by rw [bne_iff_ne]; exact p3
    clear p3
    obtain ⟨rl, r0, r1, r2, r3⟩ := hR
    go_wp2_with fail
    refine bodyPost_ret (v := .tuple #[.agg #[.int .i64 0, .int .i64 0], .int .i64 100]) (by simp [results, Try.results25, go_sem, r0, r1]) rfl ⟨rfl, (B0.setCell (by simp; omega) _).setCell (by simp; omega) _⟩
  have HD := Lib.hid (show distP s x.from' x.to' = -1 by
    by_cases z : distP s x.from' x.to' = -1
    · exact z
    · exact absurd ⟨HC.out, HV.out, p3, z⟩ hn.out)
  have k3 : (x.kind == 3) = true := by rw [beq_iff_eq]; exact p3
  have k3' : (x.kind != 3) = false := by rw [bne_eq_false_iff_eq]; exact p3
  clear p3
  go_wp2_with (refine wpList_load_box 30 (.tmp 2) rfl rfl w.heap.size rfl 30 #[.int .i64 s.places, .slice q.wa q.wl q.wc, .int .i64 s.pn, .int .i64 s.pd, .slice q.ea q.el q.ec, .slice q.ca q.cl q.cc, .slice q.ga q.gl q.gc, .int .i64 s.allow, .int .i64 s.unit, .int .i64 s.cap, .int .i64 s.paidBreak, .int .i64 s.autoAfter, .int .i64 s.autoBreak, .int .i64 s.dayReg, .int .i64 s.dayOver, .int .i64 s.weekReg, .int .i64 s.nightFrom, .int .i64 s.nightTo, .slice q.ra q.rl q.rc, .int .i64 s.diff, .int .i64 s.least, .int .i64 s.fault, .slice q.ta q.tl q.tc] hs setup_big ?_)
  refine (way_Dist s q _ _ (-1) _ (h.below B0) HD.out).mono ?_
  rintro eA wC ⟨rfl, kA⟩
  replace B0 := B0.trans (kA.mono (by have := hR.lt; omega))
  replace hs := box_keep kA hs (by have := hR.lt; omega)
  replace hb := box_keep kA hb (by have := hR.lt; omega)
  replace hR := hR.below kA
  clear kA c3 c4 c5 k3 k3'
  obtain ⟨rl, r0, r1, r2, r3⟩ := hR
  go_wp2_with fail
  refine bodyPost_ret (v := .tuple #[.agg #[.int .i64 0, .int .i64 0], .int .i64 100]) (by simp [results, Try.results25, go_sem, r0, r1]) rfl ⟨rfl, (B0.setCell (by simp; omega) _).setCell (by simp; omega) _⟩

theorem dist_rng (s : Setup) (a b : Int) : -1 ≤ distP s a b ∧ distP s a b ≤ 640000 := by
  unfold distP
  split
  · rename_i hh
    obtain ⟨hc, ha, hb⟩ := hh
    obtain ⟨P, hPl, hP, hw, hwl⟩ := waysOk hc
    have hM := metersP_nonneg hw.pos
    have hd := tableP_dists hw
    have e0 : s.places.toNat = P := by rw [hPl]; simp
    rw [e0]
    have h1 : a.toNat < P := by omega
    have h2 : b.toNat < P := by omega
    exact ⟨(hd a.toNat b.toNat h1 h2).ge, by have := hd.all hw h1 h2; omega⟩
  · decide
def goalP (s : Setup) (x : Evt) : (Int × Int) × Int :=
  if setupP s = true ∧ eventP s x = true ∧ x.kind = 3 ∧ distP s x.from' x.to' ≠ -1 then
    goalO (distP s x.from' x.to') x.units s.allow (s.pn, s.pd) (s.gears.getD x.gear.toNat (0, 0)) ((s.elements.getD x.element.toNat (0, 0, 0, 0)).2.2.1, (s.elements.getD x.element.toNat (0, 0, 0, 0)).2.2.2) ((s.elements.getD x.element.toNat (0, 0, 0, 0)).1, (s.elements.getD x.element.toNat (0, 0, 0, 0)).2.1) (s.classes.getD x.class'.toNat (0, 0))
  else ((0, 0), 100)
/-- What a task that has a goal brings with it. -/
theorem goal_parts {s : Setup} {q : Slices} {x : Evt} {w : World} (h : SetupIs w s q) (hx : EventIs x) (hc : setupP s = true) (he : eventP s x = true) (hk : x.kind = 3) :
    ∃ ci gi ei : Nat, x.class' = ci ∧ x.gear = gi ∧ x.element = ei ∧ ci < q.cl ∧ gi < q.gl ∧ ei < q.el ∧ (0 ≤ s.allow ∧ s.allow ≤ 100) := by
  have hE := event_iff.1 he
  obtain ⟨hf, _, h3⟩ := hE
  rw [if_pos hk] at h3
  obtain ⟨_, _, _, _, h4, _⟩ := hf
  rw [if_pos hk] at h4
  have lc := h.classes.1
  have lg := h.gears.1
  have le := h.elements.1
  obtain ⟨ci, hci⟩ := Int.eq_ofNat_of_zero_le h4.2.2.2.2.1
  obtain ⟨gi, hgi⟩ := Int.eq_ofNat_of_zero_le h4.2.2.2.2.2
  obtain ⟨ei, hei⟩ := Int.eq_ofNat_of_zero_le h4.2.2.1
  refine ⟨ci, gi, ei, hci, hgi, hei, by omega, by omega, by omega, ?_⟩
  unfold setupP at hc
  simp only [Bool.and_eq_true] at hc
  have ht := hc.1.2
  unfold timesP at ht
  simp only [Bool.and_eq_true] at ht
  have ha := ht.1.1.1.1.1
  simpa [allP] using ha
theorem getD_in2 {l : List (Int × Int)} (h : ∀ r ∈ l, In r.1 ∧ In r.2) {i : Nat} (hi : i < l.length) : In (l.getD i (0, 0)).1 ∧ In (l.getD i (0, 0)).2 := h _ (getD_mem2 hi)
theorem getD_in4 {l : List (Int × Int × Int × Int)} (h : ∀ r ∈ l, In r.1 ∧ In r.2.1 ∧ In r.2.2.1 ∧ In r.2.2.2) {i : Nat} (hi : i < l.length) : In (l.getD i (0, 0, 0, 0)).1 ∧ In (l.getD i (0, 0, 0, 0)).2.1 ∧ In (l.getD i (0, 0, 0, 0)).2.2.1 ∧ In (l.getD i (0, 0, 0, 0)).2.2.2 := by
  refine h _ ?_
  rw [List.getD_eq_getElem?_getD, List.getElem?_eq_getElem hi]
  exact List.getElem_mem hi

theorem goal_Of_is (s : Setup) (q : Slices) (x : Evt) (n d e : Int) (w : World) (h : SetupIs w s q) (hx : EventIs x) (hg : goalP s x = ((n, d), e)) : Calls Try.prog 25 #[.agg #[.int .i64 s.places, .slice q.wa q.wl q.wc, .int .i64 s.pn, .int .i64 s.pd, .slice q.ea q.el q.ec, .slice q.ca q.cl q.cc, .slice q.ga q.gl q.gc, .int .i64 s.allow, .int .i64 s.unit, .int .i64 s.cap, .int .i64 s.paidBreak, .int .i64 s.autoAfter, .int .i64 s.autoBreak, .int .i64 s.dayReg, .int .i64 s.dayOver, .int .i64 s.weekReg, .int .i64 s.nightFrom, .int .i64 s.nightTo, .slice q.ra q.rl q.rc, .int .i64 s.diff, .int .i64 s.least, .int .i64 s.fault, .slice q.ta q.tl q.tc], .agg #[.int .i64 x.id, .int .i64 x.worker, .int .i64 x.at', .int .i64 x.kind, .int .i64 x.from', .int .i64 x.to', .int .i64 x.element, .int .i64 x.units, .int .i64 x.class', .int .i64 x.gear, .int .i64 x.code]] w fun r w' => r = .returned (.tuple #[.agg #[.int .i64 n, .int .i64 d], .int .i64 e]) ∧ Below w.heap.size w w' := by
  unfold goalP at hg
  split at hg
  · rename_i hh
    obtain ⟨hc, he, hk, hd⟩ := hh
    obtain ⟨ci, gi, ei, hci, hgi, hei, l1, l2, l3, hal⟩ := goal_parts h hx hc he hk
    have hr := dist_rng s x.from' x.to'
    obtain ⟨far, hfar⟩ : ∃ far, distP s x.from' x.to' = far := ⟨_, rfl⟩
    rw [hfar] at hg hr hd
    rw [hci, hgi, hei] at hg
    simp only [Int.toNat_natCast] at hg
    have ic := getD_in2 h.classes.2.2.1 (show ci < s.classes.length by rw [h.classes.1]; exact l1)
    have ig := getD_in2 h.gears.2.2.1 (show gi < s.gears.length by rw [h.gears.1]; exact l2)
    have ie := getD_in4 h.elements.2.2.1 (show ei < s.elements.length by rw [h.elements.1]; exact l3)
    obtain ⟨c1, c2, hC⟩ : ∃ c1 c2, s.classes.getD ci (0, 0) = (c1, c2) := ⟨_, _, rfl⟩
    obtain ⟨g1, g2, hG⟩ : ∃ g1 g2, s.gears.getD gi (0, 0) = (g1, g2) := ⟨_, _, rfl⟩
    obtain ⟨f1, f2, u1, u2, hE⟩ : ∃ f1 f2 u1 u2, s.elements.getD ei (0, 0, 0, 0) = (f1, f2, u1, u2) := ⟨_, _, _, _, rfl⟩
    rw [hC] at hg ic
    rw [hG] at hg ig
    rw [hE] at hg ie
    simp only at hg ic ig ie
    unfold goalO goalB goalH2 goalH1 goalH0 goalT2 goalT1 at hg
    obtain ⟨tx, ty, e1, h1⟩ : ∃ a b c, mulRP far 1 s.pn s.pd = ((a, b), c) := ⟨_, _, _, rfl⟩
    simp only [h1] at hg
    obtain ⟨ux, uy, e2, h2⟩ : ∃ a b c, stepP mulRP (tx, ty) (g1, g2) e1 = ((a, b), c) := ⟨_, _, _, rfl⟩
    simp only [h2] at hg
    obtain ⟨h0x, h0y, e3, h3⟩ : ∃ a b c, stepP mulRP (u1, u2) (x.units, 1) e2 = ((a, b), c) := ⟨_, _, _, rfl⟩
    simp only [h3] at hg
    obtain ⟨h1x, h1y, e4, h4⟩ : ∃ a b c, stepP addRP (f1, f2) (h0x, h0y) e3 = ((a, b), c) := ⟨_, _, _, rfl⟩
    simp only [h4] at hg
    obtain ⟨h2x, h2y, e5, h5⟩ : ∃ a b c, stepP mulRP (h1x, h1y) (c1, c2) e4 = ((a, b), c) := ⟨_, _, _, rfl⟩
    simp only [h5] at hg
    obtain ⟨bx, by_, e6, h6⟩ : ∃ a b c, stepP addRP (ux, uy) (h2x, h2y) e5 = ((a, b), c) := ⟨_, _, _, rfl⟩
    simp only [h6] at hg
    obtain ⟨ax, ay, eA, hA⟩ : ∃ a b c, mkP (100 + s.allow) 100 = ((a, b), c) := ⟨_, _, _, rfl⟩
    simp only [hA] at hg
    have hmA : In ax ∧ In ay := by have := @mkP_in64 (100 + s.allow) 100; rw [hA] at this; exact ⟨this.1, this.2.1⟩
    exact goal_yes s q x w h hx hc he (Lib.hid hk) far (Lib.hid hfar) (Lib.hid hd) ci gi ei (Lib.hid hci) (Lib.hid hgi) (Lib.hid hei) l1 l2 l3 c1 c2 g1 g2 f1 f2 u1 u2 tx ty e1 ux uy e2 h0x h0y e3 h1x h1y e4 h2x h2y e5 ax ay eA bx by_ e6 n d e (Lib.hid hC) (Lib.hid hG) (Lib.hid hE)
      (by unfold In; omega) ic ig ie (mul_rng h1) (stepP_in (fun _ _ _ _ _ _ _ => mul_rng) h2) (stepP_in (fun _ _ _ _ _ _ _ => mul_rng) h3) (stepP_in (fun _ _ _ _ _ _ _ => add_rng) h4) (stepP_in (fun _ _ _ _ _ _ _ => mul_rng) h5) (stepP_in (fun _ _ _ _ _ _ _ => add_rng) h6) hmA hal
      (Lib.hid h1) (Lib.hid h2) (Lib.hid h3) (Lib.hid h4) (Lib.hid h5) (Lib.hid hA) (Lib.hid h6) (Lib.hid hg)
  · rename_i hh
    simp at hg
    obtain ⟨⟨rfl, rfl⟩, rfl⟩ := hg
    exact goal_no s q x w h hx (Lib.hid hh)

end Go.Proofs.Ytnjckaifgmliaaa

/- THE HEAD OF THE STATEMENTS of layer 10: 'awake' returns true. -/

namespace Go.Proofs.Ytnjckaifgmliaaa
open Go.RowKit Lu

def s10 : Setup := ⟨3, [(0, 1, 300)], 1, 2, [(5, 1, 3, 2)], [(1, 1)], [(1, 1)], 10, 1, 60, 0, 0, 0, 0, 0, 0, 0, 0, [1], 0, 0, 0, []⟩
def q10 (N : Nat) : Slices := ⟨some ⟨N + 1, 0, none⟩, 1, 1, some ⟨N + 1 + 1, 0, none⟩, 1, 1, some ⟨N + 1 + 1 + 1, 0, none⟩, 1, 1, some ⟨N + 1 + 1 + 1 + 1, 0, none⟩, 1, 1, some ⟨N + 1 + 1 + 1 + 1 + 1, 0, none⟩, 1, 1, none, 0, 0⟩
theorem setupIs_10 (w : World) (N : Nat) (hlt : N + 6 < w.heap.size) (h0 : ∀ j : Nat, j < 3 → w.cell? ⟨N + 1, j, none⟩ = some (.int .i64 ([0, 1, 300].getD j 0))) (h1 : ∀ j : Nat, j < 4 → w.cell? ⟨N + 1 + 1, j, none⟩ = some (.int .i64 ([5, 1, 3, 2].getD j 0)))
    (h2 : ∀ j : Nat, j < 2 → w.cell? ⟨N + 1 + 1 + 1, j, none⟩ = some (.int .i64 1)) (h3 : ∀ j : Nat, j < 2 → w.cell? ⟨N + 1 + 1 + 1 + 1, j, none⟩ = some (.int .i64 1)) (h4 : w.cell? ⟨N + 1 + 1 + 1 + 1 + 1, 0, none⟩ = some (.int .i64 1)) : SetupIs w s10 (q10 N) := by
  refine ⟨by decide, by decide, by decide, by decide, by decide, by decide, by decide, by decide, by decide, by decide, by decide, by decide, by decide, by decide, by decide, by decide, by decide, ?_, ?_, ?_, ?_, ?_, Ratios_none w⟩
  · show Recs3 w (some ⟨N + 1, 0, none⟩) 1 [(0, 1, 300)]
    refine ⟨rfl, by decide, by simp [In], .inr ⟨N + 1, 0, rfl, by omega, fun i hi => ?_⟩⟩
    obtain rfl : i = 0 := by omega
    exact ⟨h0 0 (by decide), h0 1 (by decide), h0 2 (by decide)⟩
  · show Recs4 w (some ⟨N + 1 + 1, 0, none⟩) 1 [(5, 1, 3, 2)]
    refine ⟨rfl, by decide, by simp [In], .inr ⟨N + 1 + 1, 0, rfl, by omega, fun i hi => ?_⟩⟩
    obtain rfl : i = 0 := by omega
    exact ⟨h1 0 (by decide), h1 1 (by decide), h1 2 (by decide), h1 3 (by decide)⟩
  · show Ratios w (some ⟨N + 1 + 1 + 1, 0, none⟩) 1 [(1, 1)]
    refine ⟨rfl, by decide, by simp [In], .inr ⟨N + 1 + 1 + 1, 0, rfl, by omega, fun i hi => ?_⟩⟩
    obtain rfl : i = 0 := by omega
    exact ⟨h2 0 (by decide), h2 1 (by decide)⟩
  · show Ratios w (some ⟨N + 1 + 1 + 1 + 1, 0, none⟩) 1 [(1, 1)]
    refine ⟨rfl, by decide, by simp [In], .inr ⟨N + 1 + 1 + 1 + 1, 0, rfl, by omega, fun i hi => ?_⟩⟩
    obtain rfl : i = 0 := by omega
    exact ⟨h3 0 (by decide), h3 1 (by decide)⟩
  · show Ints w (some ⟨N + 1 + 1 + 1 + 1 + 1, 0, none⟩) 1 [1]
    refine ⟨rfl, by decide, by simp [In], .inr ⟨N + 1 + 1 + 1 + 1 + 1, 0, rfl, fun i hi => ?_⟩⟩
    obtain rfl : i = 0 := by omega
    exact h4
set_option maxRecDepth 100000 in
set_option maxHeartbeats 4000000 in
theorem awake10 (w : World) :
    Calls Try.prog 24 #[] w fun e w' => e = .returned (.bool true) ∧ Below w.heap.size w w' := by
  have hb : (((((((w.alloc (.cells #[.int .i64 1, .int .i64 1] 24)).alloc (.cells #[.int .i64 0, .int .i64 1, .int .i64 300] 58)).alloc (.cells #[.int .i64 5, .int .i64 1, .int .i64 3, .int .i64 2] 74)).alloc (.cells #[.int .i64 1, .int .i64 1] 24)).alloc (.cells #[.int .i64 1, .int .i64 1] 24)).alloc (.cells #[.int .i64 1] 3)).alloc (.cells #[.int .i64 3, .slice (some ⟨w.heap.size + 1, 0, none⟩) 1 1, .int .i64 1, .int .i64 2, .slice (some ⟨w.heap.size + 1 + 1, 0, none⟩) 1 1, .slice (some ⟨w.heap.size + 1 + 1 + 1, 0, none⟩) 1 1, .slice (some ⟨w.heap.size + 1 + 1 + 1 + 1, 0, none⟩) 1 1, .int .i64 10, .int .i64 1, .int .i64 60, .int .i64 0, .int .i64 0, .int .i64 0, .int .i64 0, .int .i64 0, .int .i64 0, .int .i64 0, .int .i64 0, .slice (some ⟨w.heap.size + 1 + 1 + 1 + 1 + 1, 0, none⟩) 1 1, .int .i64 0, .int .i64 0, .int .i64 0, .slice none 0 0] 30)).heap[w.heap.size + 1 + 1 + 1 + 1 + 1 + 1]? = some (.cells #[.int .i64 3, .slice (some ⟨w.heap.size + 1, 0, none⟩) 1 1, .int .i64 1, .int .i64 2, .slice (some ⟨w.heap.size + 1 + 1, 0, none⟩) 1 1, .slice (some ⟨w.heap.size + 1 + 1 + 1, 0, none⟩) 1 1, .slice (some ⟨w.heap.size + 1 + 1 + 1 + 1, 0, none⟩) 1 1, .int .i64 10, .int .i64 1, .int .i64 60, .int .i64 0, .int .i64 0, .int .i64 0, .int .i64 0, .int .i64 0, .int .i64 0, .int .i64 0, .int .i64 0, .slice (some ⟨w.heap.size + 1 + 1 + 1 + 1 + 1, 0, none⟩) 1 1, .int .i64 0, .int .i64 0, .int .i64 0, .slice none 0 0] 30) := box_new _ _ (by simp) _ _
  have hS : SetupIs (((((((w.alloc (.cells #[.int .i64 1, .int .i64 1] 24)).alloc (.cells #[.int .i64 0, .int .i64 1, .int .i64 300] 58)).alloc (.cells #[.int .i64 5, .int .i64 1, .int .i64 3, .int .i64 2] 74)).alloc (.cells #[.int .i64 1, .int .i64 1] 24)).alloc (.cells #[.int .i64 1, .int .i64 1] 24)).alloc (.cells #[.int .i64 1] 3)).alloc (.cells #[.int .i64 3, .slice (some ⟨w.heap.size + 1, 0, none⟩) 1 1, .int .i64 1, .int .i64 2, .slice (some ⟨w.heap.size + 1 + 1, 0, none⟩) 1 1, .slice (some ⟨w.heap.size + 1 + 1 + 1, 0, none⟩) 1 1, .slice (some ⟨w.heap.size + 1 + 1 + 1 + 1, 0, none⟩) 1 1, .int .i64 10, .int .i64 1, .int .i64 60, .int .i64 0, .int .i64 0, .int .i64 0, .int .i64 0, .int .i64 0, .int .i64 0, .int .i64 0, .int .i64 0, .slice (some ⟨w.heap.size + 1 + 1 + 1 + 1 + 1, 0, none⟩) 1 1, .int .i64 0, .int .i64 0, .int .i64 0, .slice none 0 0] 30)) s10 (q10 w.heap.size) := setupIs_10 _ w.heap.size (by simp) (by
    intro j hj
    rcases (show j = 0 ∨ j = 1 ∨ j = 2 by omega) with rfl | rfl | rfl <;> simp [go_sem]) (by
    intro j hj
    rcases (show j = 0 ∨ j = 1 ∨ j = 2 ∨ j = 3 by omega) with rfl | rfl | rfl | rfl <;> simp [go_sem]) (by
    intro j hj
    rcases (show j = 0 ∨ j = 1 by omega) with rfl | rfl <;> simp [go_sem]) (by
    intro j hj
    rcases (show j = 0 ∨ j = 1 by omega) with rfl | rfl <;> simp [go_sem]) (by simp [go_sem])
  have hB : Below w.heap.size w (((((((w.alloc (.cells #[.int .i64 1, .int .i64 1] 24)).alloc (.cells #[.int .i64 0, .int .i64 1, .int .i64 300] 58)).alloc (.cells #[.int .i64 5, .int .i64 1, .int .i64 3, .int .i64 2] 74)).alloc (.cells #[.int .i64 1, .int .i64 1] 24)).alloc (.cells #[.int .i64 1, .int .i64 1] 24)).alloc (.cells #[.int .i64 1] 3)).alloc (.cells #[.int .i64 3, .slice (some ⟨w.heap.size + 1, 0, none⟩) 1 1, .int .i64 1, .int .i64 2, .slice (some ⟨w.heap.size + 1 + 1, 0, none⟩) 1 1, .slice (some ⟨w.heap.size + 1 + 1 + 1, 0, none⟩) 1 1, .slice (some ⟨w.heap.size + 1 + 1 + 1 + 1, 0, none⟩) 1 1, .int .i64 10, .int .i64 1, .int .i64 60, .int .i64 0, .int .i64 0, .int .i64 0, .int .i64 0, .int .i64 0, .int .i64 0, .int .i64 0, .int .i64 0, .slice (some ⟨w.heap.size + 1 + 1 + 1 + 1 + 1, 0, none⟩) 1 1, .int .i64 0, .int .i64 0, .int .i64 0, .slice none 0 0] 30)) := by go_grown
  have hZ : w.heap.size + 1 + 1 + 1 + 1 + 1 + 1 < (((((((w.alloc (.cells #[.int .i64 1, .int .i64 1] 24)).alloc (.cells #[.int .i64 0, .int .i64 1, .int .i64 300] 58)).alloc (.cells #[.int .i64 5, .int .i64 1, .int .i64 3, .int .i64 2] 74)).alloc (.cells #[.int .i64 1, .int .i64 1] 24)).alloc (.cells #[.int .i64 1, .int .i64 1] 24)).alloc (.cells #[.int .i64 1] 3)).alloc (.cells #[.int .i64 3, .slice (some ⟨w.heap.size + 1, 0, none⟩) 1 1, .int .i64 1, .int .i64 2, .slice (some ⟨w.heap.size + 1 + 1, 0, none⟩) 1 1, .slice (some ⟨w.heap.size + 1 + 1 + 1, 0, none⟩) 1 1, .slice (some ⟨w.heap.size + 1 + 1 + 1 + 1, 0, none⟩) 1 1, .int .i64 10, .int .i64 1, .int .i64 60, .int .i64 0, .int .i64 0, .int .i64 0, .int .i64 0, .int .i64 0, .int .i64 0, .int .i64 0, .int .i64 0, .slice (some ⟨w.heap.size + 1 + 1 + 1 + 1 + 1, 0, none⟩) 1 1, .int .i64 0, .int .i64 0, .int .i64 0, .slice none 0 0] 30)).heap.size := by simp
  have HS := Lib.hid hS
  clear hS
  go_enter Try.func24, Try.ntmps24
  go_wp2_with (first
    | (refine wpList_store_new _ _ _ rfl 30 (.tmp 2) (.tmp 22) rfl #[.int .i64 3, .slice (some ⟨w.heap.size + 1, 0, none⟩) 1 1, .int .i64 1, .int .i64 2, .slice (some ⟨w.heap.size + 1 + 1, 0, none⟩) 1 1, .slice (some ⟨w.heap.size + 1 + 1 + 1, 0, none⟩) 1 1, .slice (some ⟨w.heap.size + 1 + 1 + 1 + 1, 0, none⟩) 1 1, .int .i64 10, .int .i64 1, .int .i64 60, .int .i64 0, .int .i64 0, .int .i64 0, .int .i64 0, .int .i64 0, .int .i64 0, .int .i64 0, .int .i64 0, .slice (some ⟨w.heap.size + 1 + 1 + 1 + 1 + 1, 0, none⟩) 1 1, .int .i64 0, .int .i64 0, .int .i64 0, .slice none 0 0] (w.heap.size + 1 + 1 + 1 + 1 + 1 + 1) (by simp) rfl rfl rfl setup_size (by kernel_rfl) ?_)
    | (refine wpList_load_box 30 (.tmp 2) rfl rfl (w.heap.size + 1 + 1 + 1 + 1 + 1 + 1) rfl 30 #[.int .i64 3, .slice (some ⟨w.heap.size + 1, 0, none⟩) 1 1, .int .i64 1, .int .i64 2, .slice (some ⟨w.heap.size + 1 + 1, 0, none⟩) 1 1, .slice (some ⟨w.heap.size + 1 + 1 + 1, 0, none⟩) 1 1, .slice (some ⟨w.heap.size + 1 + 1 + 1 + 1, 0, none⟩) 1 1, .int .i64 10, .int .i64 1, .int .i64 60, .int .i64 0, .int .i64 0, .int .i64 0, .int .i64 0, .int .i64 0, .int .i64 0, .int .i64 0, .int .i64 0, .slice (some ⟨w.heap.size + 1 + 1 + 1 + 1 + 1, 0, none⟩) 1 1, .int .i64 0, .int .i64 0, .int .i64 0, .slice none 0 0] hb setup_big ?_))
  refine (goal_Of_is s10 (q10 w.heap.size) ⟨0, 0, 0, 3, 0, 1, 0, 40, 0, 0, 0⟩ 473 2 0 _ HS.out (by constructor <;> decide) (by decide +kernel)).mono ?_
  rintro e1 w1 ⟨rfl, kA⟩
  replace hb := box_keep kA hb hZ
  replace HS := Lib.hid (HS.out.below kA)
  replace hB := hB.trans (kA.mono (by omega))
  replace hZ := Nat.lt_of_lt_of_le hZ kA.size
  clear kA
  have r0 : (w1.alloc (.cells #[.int .i64 473, .int .i64 2] 24)).cell? ⟨w1.heap.size, 0, none⟩ = some (.int .i64 473) := by simp [go_sem]
  have r1 : (w1.alloc (.cells #[.int .i64 473, .int .i64 2] 24)).cell? ⟨w1.heap.size, 1, none⟩ = some (.int .i64 2) := by simp [go_sem]
  replace hb := box_keep (B := w1.heap.size) (by go_grown) hb hZ (w1 := w1.alloc (.cells #[.int .i64 473, .int .i64 2] 24))
  replace HS := Lib.hid (HS.out.below ((Below.refl _ _).alloc (Nat.le_refl _) (.cells #[.int .i64 473, .int .i64 2] 24)))
  replace hB := hB.alloc hB.size (.cells #[.int .i64 473, .int .i64 2] 24)
  replace hZ : w.heap.size + 1 + 1 + 1 + 1 + 1 + 1 < (w1.alloc (.cells #[.int .i64 473, .int .i64 2] 24)).heap.size := by simp; omega
  go_wp2_with (refine wpList_load_box 30 (.tmp 2) rfl rfl (w.heap.size + 1 + 1 + 1 + 1 + 1 + 1) rfl 30 #[.int .i64 3, .slice (some ⟨w.heap.size + 1, 0, none⟩) 1 1, .int .i64 1, .int .i64 2, .slice (some ⟨w.heap.size + 1 + 1, 0, none⟩) 1 1, .slice (some ⟨w.heap.size + 1 + 1 + 1, 0, none⟩) 1 1, .slice (some ⟨w.heap.size + 1 + 1 + 1 + 1, 0, none⟩) 1 1, .int .i64 10, .int .i64 1, .int .i64 60, .int .i64 0, .int .i64 0, .int .i64 0, .int .i64 0, .int .i64 0, .int .i64 0, .int .i64 0, .int .i64 0, .slice (some ⟨w.heap.size + 1 + 1 + 1 + 1 + 1, 0, none⟩) 1 1, .int .i64 0, .int .i64 0, .int .i64 0, .slice none 0 0] hb setup_big ?_)
  refine (goal_Of_is s10 (q10 w.heap.size) ⟨0, 0, 0, 3, 0, 2, 0, 0, 0, 0, 0⟩ 0 0 100 _ HS.out (by constructor <;> decide) (by decide +kernel)).mono ?_
  rintro e2 w2 ⟨rfl, kA⟩
  replace hb := box_keep kA hb hZ
  replace HS := Lib.hid (HS.out.below kA)
  replace hB := hB.trans (kA.mono (by omega))
  replace r0 := keepD kA r0
  replace r1 := keepD kA r1
  replace hZ := Nat.lt_of_lt_of_le hZ kA.size
  clear kA
  replace hb := box_keep (B := w2.heap.size) (by go_grown) hb hZ (w1 := w2.alloc (.cells #[.int .i64 0, .int .i64 0] 24))
  replace HS := Lib.hid (HS.out.below ((Below.refl _ _).alloc (Nat.le_refl _) (.cells #[.int .i64 0, .int .i64 0] 24)))
  replace hB := hB.alloc hB.size (.cells #[.int .i64 0, .int .i64 0] 24)
  replace hZ : w.heap.size + 1 + 1 + 1 + 1 + 1 + 1 < (w2.alloc (.cells #[.int .i64 0, .int .i64 0] 24)).heap.size := by simp; omega
  replace r0 := keepA (.cells #[.int .i64 0, .int .i64 0] 24) r0
  replace r1 := keepA (.cells #[.int .i64 0, .int .i64 0] 24) r1
  go_wp2_with (refine wpList_load_box 30 (.tmp 2) rfl rfl (w.heap.size + 1 + 1 + 1 + 1 + 1 + 1) rfl 30 #[.int .i64 3, .slice (some ⟨w.heap.size + 1, 0, none⟩) 1 1, .int .i64 1, .int .i64 2, .slice (some ⟨w.heap.size + 1 + 1, 0, none⟩) 1 1, .slice (some ⟨w.heap.size + 1 + 1 + 1, 0, none⟩) 1 1, .slice (some ⟨w.heap.size + 1 + 1 + 1 + 1, 0, none⟩) 1 1, .int .i64 10, .int .i64 1, .int .i64 60, .int .i64 0, .int .i64 0, .int .i64 0, .int .i64 0, .int .i64 0, .int .i64 0, .int .i64 0, .int .i64 0, .slice (some ⟨w.heap.size + 1 + 1 + 1 + 1 + 1, 0, none⟩) 1 1, .int .i64 0, .int .i64 0, .int .i64 0, .slice none 0 0] hb setup_big ?_)
  refine (goal_Of_is s10 (q10 w.heap.size) ⟨0, 0, 0, 1, 0, 0, 0, 0, 0, 0, 0⟩ 0 0 100 _ HS.out (by constructor <;> decide) (by decide +kernel)).mono ?_
  rintro e3 w3 ⟨rfl, kA⟩
  replace hb := box_keep kA hb hZ
  replace HS := Lib.hid (HS.out.below kA)
  replace hB := hB.trans (kA.mono (by omega))
  replace r0 := keepD kA r0
  replace r1 := keepD kA r1
  replace hZ := Nat.lt_of_lt_of_le hZ kA.size
  clear kA
  replace hB := hB.alloc hB.size (.cells #[.int .i64 0, .int .i64 0] 24)
  replace r0 := keepA (.cells #[.int .i64 0, .int .i64 0] 24) r0
  replace r1 := keepA (.cells #[.int .i64 0, .int .i64 0] 24) r1
  clear hb HS hZ
  go_wp2_with fail
  go_ret
  exact ⟨rfl, hB⟩
end Go.Proofs.Ytnjckaifgmliaaa

/- The reference's goal, whatever the setup and the event. -/

namespace Go.Proofs.Ytnjckaifgmliaaa
open Go.RowKit Lu

set_option maxRecDepth 100000 in
set_option maxHeartbeats 4000000 in
theorem ref10_no (s : Setup) (q : Slices) (x : Evt) (w : World) (h : SetupIs w s q) (hx : EventIs x) (hn : Hid (¬ (setupP s = true ∧ eventP s x = true ∧ x.kind = 3 ∧ distP s x.from' x.to' ≠ -1))) : Calls Try.prog 26 #[.agg #[.int .i64 s.places, .slice q.wa q.wl q.wc, .int .i64 s.pn, .int .i64 s.pd, .slice q.ea q.el q.ec, .slice q.ca q.cl q.cc, .slice q.ga q.gl q.gc, .int .i64 s.allow, .int .i64 s.unit, .int .i64 s.cap, .int .i64 s.paidBreak, .int .i64 s.autoAfter, .int .i64 s.autoBreak, .int .i64 s.dayReg, .int .i64 s.dayOver, .int .i64 s.weekReg, .int .i64 s.nightFrom, .int .i64 s.nightTo, .slice q.ra q.rl q.rc, .int .i64 s.diff, .int .i64 s.least, .int .i64 s.fault, .slice q.ta q.tl q.tc], .agg #[.int .i64 x.id, .int .i64 x.worker, .int .i64 x.at', .int .i64 x.kind, .int .i64 x.from', .int .i64 x.to', .int .i64 x.element, .int .i64 x.units, .int .i64 x.class', .int .i64 x.gear, .int .i64 x.code]] w fun r w' => r = .returned (.tuple #[.agg #[.int .i64 0, .int .i64 0], .int .i64 100]) ∧ Below w.heap.size w w' := by
  obtain ⟨c, hc⟩ : ∃ c, setupP s = c := ⟨_, rfl⟩
  have HC := Lib.hid hc
  clear hc
  obtain ⟨v, hv⟩ : ∃ v, eventP s x = v := ⟨_, rfl⟩
  have HV := Lib.hid hv
  clear hv
  have hs : (((w.alloc (.cells #[.int .i64 s.places, .slice q.wa q.wl q.wc, .int .i64 s.pn, .int .i64 s.pd, .slice q.ea q.el q.ec, .slice q.ca q.cl q.cc, .slice q.ga q.gl q.gc, .int .i64 s.allow, .int .i64 s.unit, .int .i64 s.cap, .int .i64 s.paidBreak, .int .i64 s.autoAfter, .int .i64 s.autoBreak, .int .i64 s.dayReg, .int .i64 s.dayOver, .int .i64 s.weekReg, .int .i64 s.nightFrom, .int .i64 s.nightTo, .slice q.ra q.rl q.rc, .int .i64 s.diff, .int .i64 s.least, .int .i64 s.fault, .slice q.ta q.tl q.tc] 30)).alloc (.cells #[.int .i64 x.id, .int .i64 x.worker, .int .i64 x.at', .int .i64 x.kind, .int .i64 x.from', .int .i64 x.to', .int .i64 x.element, .int .i64 x.units, .int .i64 x.class', .int .i64 x.gear, .int .i64 x.code] 47)).alloc (.cells #[.int .i64 0, .int .i64 0] 24)).heap[w.heap.size]? = some (.cells #[.int .i64 s.places, .slice q.wa q.wl q.wc, .int .i64 s.pn, .int .i64 s.pd, .slice q.ea q.el q.ec, .slice q.ca q.cl q.cc, .slice q.ga q.gl q.gc, .int .i64 s.allow, .int .i64 s.unit, .int .i64 s.cap, .int .i64 s.paidBreak, .int .i64 s.autoAfter, .int .i64 s.autoBreak, .int .i64 s.dayReg, .int .i64 s.dayOver, .int .i64 s.weekReg, .int .i64 s.nightFrom, .int .i64 s.nightTo, .slice q.ra q.rl q.rc, .int .i64 s.diff, .int .i64 s.least, .int .i64 s.fault, .slice q.ta q.tl q.tc] 30) := box_keep (B := w.heap.size + 1) (by go_grown) (box_new w _ rfl _ _) (by omega)
  have hb : (((w.alloc (.cells #[.int .i64 s.places, .slice q.wa q.wl q.wc, .int .i64 s.pn, .int .i64 s.pd, .slice q.ea q.el q.ec, .slice q.ca q.cl q.cc, .slice q.ga q.gl q.gc, .int .i64 s.allow, .int .i64 s.unit, .int .i64 s.cap, .int .i64 s.paidBreak, .int .i64 s.autoAfter, .int .i64 s.autoBreak, .int .i64 s.dayReg, .int .i64 s.dayOver, .int .i64 s.weekReg, .int .i64 s.nightFrom, .int .i64 s.nightTo, .slice q.ra q.rl q.rc, .int .i64 s.diff, .int .i64 s.least, .int .i64 s.fault, .slice q.ta q.tl q.tc] 30)).alloc (.cells #[.int .i64 x.id, .int .i64 x.worker, .int .i64 x.at', .int .i64 x.kind, .int .i64 x.from', .int .i64 x.to', .int .i64 x.element, .int .i64 x.units, .int .i64 x.class', .int .i64 x.gear, .int .i64 x.code] 47)).alloc (.cells #[.int .i64 0, .int .i64 0] 24)).heap[w.heap.size + 1]? = some (.cells #[.int .i64 x.id, .int .i64 x.worker, .int .i64 x.at', .int .i64 x.kind, .int .i64 x.from', .int .i64 x.to', .int .i64 x.element, .int .i64 x.units, .int .i64 x.class', .int .i64 x.gear, .int .i64 x.code] 47) := box_keep (B := w.heap.size + 2) (by go_grown) (box_new _ _ (by simp) _ _) (by omega)
  have hR : Own (((w.alloc (.cells #[.int .i64 s.places, .slice q.wa q.wl q.wc, .int .i64 s.pn, .int .i64 s.pd, .slice q.ea q.el q.ec, .slice q.ca q.cl q.cc, .slice q.ga q.gl q.gc, .int .i64 s.allow, .int .i64 s.unit, .int .i64 s.cap, .int .i64 s.paidBreak, .int .i64 s.autoAfter, .int .i64 s.autoBreak, .int .i64 s.dayReg, .int .i64 s.dayOver, .int .i64 s.weekReg, .int .i64 s.nightFrom, .int .i64 s.nightTo, .slice q.ra q.rl q.rc, .int .i64 s.diff, .int .i64 s.least, .int .i64 s.fault, .slice q.ta q.tl q.tc] 30)).alloc (.cells #[.int .i64 x.id, .int .i64 x.worker, .int .i64 x.at', .int .i64 x.kind, .int .i64 x.from', .int .i64 x.to', .int .i64 x.element, .int .i64 x.units, .int .i64 x.class', .int .i64 x.gear, .int .i64 x.code] 47)).alloc (.cells #[.int .i64 0, .int .i64 0] 24)) (w.heap.size + 2) 0 0 := Own.new' (by simp)
  have B0 : Below w.heap.size w (((w.alloc (.cells #[.int .i64 s.places, .slice q.wa q.wl q.wc, .int .i64 s.pn, .int .i64 s.pd, .slice q.ea q.el q.ec, .slice q.ca q.cl q.cc, .slice q.ga q.gl q.gc, .int .i64 s.allow, .int .i64 s.unit, .int .i64 s.cap, .int .i64 s.paidBreak, .int .i64 s.autoAfter, .int .i64 s.autoBreak, .int .i64 s.dayReg, .int .i64 s.dayOver, .int .i64 s.weekReg, .int .i64 s.nightFrom, .int .i64 s.nightTo, .slice q.ra q.rl q.rc, .int .i64 s.diff, .int .i64 s.least, .int .i64 s.fault, .slice q.ta q.tl q.tc] 30)).alloc (.cells #[.int .i64 x.id, .int .i64 x.worker, .int .i64 x.at', .int .i64 x.kind, .int .i64 x.from', .int .i64 x.to', .int .i64 x.element, .int .i64 x.units, .int .i64 x.class', .int .i64 x.gear, .int .i64 x.code] 47)).alloc (.cells #[.int .i64 0, .int .i64 0] 24)) := by go_grown
  go_enter Try.func26, Try.ntmps26
  go_wp2_with (refine wpList_load_box 30 (.tmp 2) rfl rfl w.heap.size rfl 30 #[.int .i64 s.places, .slice q.wa q.wl q.wc, .int .i64 s.pn, .int .i64 s.pd, .slice q.ea q.el q.ec, .slice q.ca q.cl q.cc, .slice q.ga q.gl q.gc, .int .i64 s.allow, .int .i64 s.unit, .int .i64 s.cap, .int .i64 s.paidBreak, .int .i64 s.autoAfter, .int .i64 s.autoBreak, .int .i64 s.dayReg, .int .i64 s.dayOver, .int .i64 s.weekReg, .int .i64 s.nightFrom, .int .i64 s.nightTo, .slice q.ra q.rl q.rc, .int .i64 s.diff, .int .i64 s.least, .int .i64 s.fault, .slice q.ta q.tl q.tc] hs setup_big ?_)
  refine (ref7_Check s q c _ (h.below (by go_grown)) HC.out).mono ?_
  rintro eA wA ⟨rfl, kA⟩
  replace B0 := B0.trans (kA.mono (by first | (simp; done) | (simp; omega)))
  replace hs := box_keep kA hs (by first | (simp; done) | (simp; omega))
  replace hb := box_keep kA hb (by first | (simp; done) | (simp; omega))
  replace hR := hR.below kA
  clear kA
  go_wp2_with (first | (refine wpList_load_box 30 (.tmp 2) rfl rfl w.heap.size rfl 30 #[.int .i64 s.places, .slice q.wa q.wl q.wc, .int .i64 s.pn, .int .i64 s.pd, .slice q.ea q.el q.ec, .slice q.ca q.cl q.cc, .slice q.ga q.gl q.gc, .int .i64 s.allow, .int .i64 s.unit, .int .i64 s.cap, .int .i64 s.paidBreak, .int .i64 s.autoAfter, .int .i64 s.autoBreak, .int .i64 s.dayReg, .int .i64 s.dayOver, .int .i64 s.weekReg, .int .i64 s.nightFrom, .int .i64 s.nightTo, .slice q.ra q.rl q.rc, .int .i64 s.diff, .int .i64 s.least, .int .i64 s.fault, .slice q.ta q.tl q.tc] hs setup_big ?_) | (refine wpList_load_box 47 (.tmp 3) rfl rfl (w.heap.size + 1) rfl 47 #[.int .i64 x.id, .int .i64 x.worker, .int .i64 x.at', .int .i64 x.kind, .int .i64 x.from', .int .i64 x.to', .int .i64 x.element, .int .i64 x.units, .int .i64 x.class', .int .i64 x.gear, .int .i64 x.code] hb event_big ?_))
  refine (ref8_Check s q x v _ (h.below B0) hx HV.out).mono ?_
  rintro eA wB ⟨rfl, kA⟩
  replace B0 := B0.trans (kA.mono (by have := hR.lt; omega))
  replace hs := box_keep kA hs (by have := hR.lt; omega)
  replace hb := box_keep kA hb (by have := hR.lt; omega)
  replace hR := hR.below kA
  clear kA
  cases c
  · skip
    obtain ⟨rl, r0, r1, r2, r3⟩ := hR
    go_wp2_with fail
    refine bodyPost_ret (v := .tuple #[.agg #[.int .i64 0, .int .i64 0], .int .i64 100]) (by simp [results, Try.results26, go_sem, r0, r1]) rfl ⟨rfl, (B0.setCell (by simp; omega) _).setCell (by simp; omega) _⟩
  cases v
  · skip
    obtain ⟨rl, r0, r1, r2, r3⟩ := hR
    go_wp2_with fail
    refine bodyPost_ret (v := .tuple #[.agg #[.int .i64 0, .int .i64 0], .int .i64 100]) (by simp [results, Try.results26, go_sem, r0, r1]) rfl ⟨rfl, (B0.setCell (by simp; omega) _).setCell (by simp; omega) _⟩
  have c3 : wB.cell? ⟨w.heap.size + 1, 3, none⟩ = some (.int .i64 x.kind) := by simp [World.cell?, hb]
  have c4 : wB.cell? ⟨w.heap.size + 1, 4, none⟩ = some (.int .i64 x.from') := by simp [World.cell?, hb]
  have c5 : wB.cell? ⟨w.heap.size + 1, 5, none⟩ = some (.int .i64 x.to') := by simp [World.cell?, hb]
  by_cases p3 : x.kind = 3
  rotate_left
  · have k3 : (x.kind == 3) = false := by rw [beq_eq_false_iff_ne]; exact p3
    have k3' : (x.kind != 3) = true := by rw [bne_iff_ne]; exact p3
    clear p3
    obtain ⟨rl, r0, r1, r2, r3⟩ := hR
    go_wp2_with fail
    refine bodyPost_ret (v := .tuple #[.agg #[.int .i64 0, .int .i64 0], .int .i64 100]) (by simp [results, Try.results26, go_sem, r0, r1]) rfl ⟨rfl, (B0.setCell (by simp; omega) _).setCell (by simp; omega) _⟩
  have HD := Lib.hid (show distP s x.from' x.to' = -1 by
    by_cases z : distP s x.from' x.to' = -1
    · exact z
    · exact absurd ⟨HC.out, HV.out, p3, z⟩ hn.out)
  have k3 : (x.kind == 3) = true := by rw [beq_iff_eq]; exact p3
  have k3' : (x.kind != 3) = false := by rw [bne_eq_false_iff_eq]; exact p3
  clear p3
  go_wp2_with (refine wpList_load_box 30 (.tmp 2) rfl rfl w.heap.size rfl 30 #[.int .i64 s.places, .slice q.wa q.wl q.wc, .int .i64 s.pn, .int .i64 s.pd, .slice q.ea q.el q.ec, .slice q.ca q.cl q.cc, .slice q.ga q.gl q.gc, .int .i64 s.allow, .int .i64 s.unit, .int .i64 s.cap, .int .i64 s.paidBreak, .int .i64 s.autoAfter, .int .i64 s.autoBreak, .int .i64 s.dayReg, .int .i64 s.dayOver, .int .i64 s.weekReg, .int .i64 s.nightFrom, .int .i64 s.nightTo, .slice q.ra q.rl q.rc, .int .i64 s.diff, .int .i64 s.least, .int .i64 s.fault, .slice q.ta q.tl q.tc] hs setup_big ?_)
  refine (ref9_Dist s q _ _ (-1) _ (h.below B0) HD.out).mono ?_
  rintro eA wC ⟨rfl, kA⟩
  replace B0 := B0.trans (kA.mono (by have := hR.lt; omega))
  replace hs := box_keep kA hs (by have := hR.lt; omega)
  replace hb := box_keep kA hb (by have := hR.lt; omega)
  replace hR := hR.below kA
  clear kA c3 c4 c5 k3 k3'
  obtain ⟨rl, r0, r1, r2, r3⟩ := hR
  go_wp2_with fail
  refine bodyPost_ret (v := .tuple #[.agg #[.int .i64 0, .int .i64 0], .int .i64 100]) (by simp [results, Try.results26, go_sem, r0, r1]) rfl ⟨rfl, (B0.setCell (by simp; omega) _).setCell (by simp; omega) _⟩

theorem ref10_Of_is (s : Setup) (q : Slices) (x : Evt) (n d e : Int) (w : World) (h : SetupIs w s q) (hx : EventIs x) (hg : goalP s x = ((n, d), e)) : Calls Try.prog 26 #[.agg #[.int .i64 s.places, .slice q.wa q.wl q.wc, .int .i64 s.pn, .int .i64 s.pd, .slice q.ea q.el q.ec, .slice q.ca q.cl q.cc, .slice q.ga q.gl q.gc, .int .i64 s.allow, .int .i64 s.unit, .int .i64 s.cap, .int .i64 s.paidBreak, .int .i64 s.autoAfter, .int .i64 s.autoBreak, .int .i64 s.dayReg, .int .i64 s.dayOver, .int .i64 s.weekReg, .int .i64 s.nightFrom, .int .i64 s.nightTo, .slice q.ra q.rl q.rc, .int .i64 s.diff, .int .i64 s.least, .int .i64 s.fault, .slice q.ta q.tl q.tc], .agg #[.int .i64 x.id, .int .i64 x.worker, .int .i64 x.at', .int .i64 x.kind, .int .i64 x.from', .int .i64 x.to', .int .i64 x.element, .int .i64 x.units, .int .i64 x.class', .int .i64 x.gear, .int .i64 x.code]] w fun r w' => r = .returned (.tuple #[.agg #[.int .i64 n, .int .i64 d], .int .i64 e]) ∧ Below w.heap.size w w' := by
  unfold goalP at hg
  split at hg
  · rename_i hh
    obtain ⟨hc, he, hk, hd⟩ := hh
    obtain ⟨ci, gi, ei, hci, hgi, hei, l1, l2, l3, hal⟩ := goal_parts h hx hc he hk
    have hr := dist_rng s x.from' x.to'
    obtain ⟨far, hfar⟩ : ∃ far, distP s x.from' x.to' = far := ⟨_, rfl⟩
    rw [hfar] at hg hr hd
    rw [hci, hgi, hei] at hg
    simp only [Int.toNat_natCast] at hg
    have ic := getD_in2 h.classes.2.2.1 (show ci < s.classes.length by rw [h.classes.1]; exact l1)
    have ig := getD_in2 h.gears.2.2.1 (show gi < s.gears.length by rw [h.gears.1]; exact l2)
    have ie := getD_in4 h.elements.2.2.1 (show ei < s.elements.length by rw [h.elements.1]; exact l3)
    obtain ⟨c1, c2, hC⟩ : ∃ c1 c2, s.classes.getD ci (0, 0) = (c1, c2) := ⟨_, _, rfl⟩
    obtain ⟨g1, g2, hG⟩ : ∃ g1 g2, s.gears.getD gi (0, 0) = (g1, g2) := ⟨_, _, rfl⟩
    obtain ⟨f1, f2, u1, u2, hE⟩ : ∃ f1 f2 u1 u2, s.elements.getD ei (0, 0, 0, 0) = (f1, f2, u1, u2) := ⟨_, _, _, _, rfl⟩
    rw [hC] at hg ic
    rw [hG] at hg ig
    rw [hE] at hg ie
    simp only at hg ic ig ie
    unfold goalO goalB goalH2 goalH1 goalH0 goalT2 goalT1 at hg
    obtain ⟨tx, ty, e1, h1⟩ : ∃ a b c, mulRP far 1 s.pn s.pd = ((a, b), c) := ⟨_, _, _, rfl⟩
    simp only [h1] at hg
    obtain ⟨ux, uy, e2, h2⟩ : ∃ a b c, stepP mulRP (tx, ty) (g1, g2) e1 = ((a, b), c) := ⟨_, _, _, rfl⟩
    simp only [h2] at hg
    obtain ⟨h0x, h0y, e3, h3⟩ : ∃ a b c, stepP mulRP (u1, u2) (x.units, 1) e2 = ((a, b), c) := ⟨_, _, _, rfl⟩
    simp only [h3] at hg
    obtain ⟨h1x, h1y, e4, h4⟩ : ∃ a b c, stepP addRP (f1, f2) (h0x, h0y) e3 = ((a, b), c) := ⟨_, _, _, rfl⟩
    simp only [h4] at hg
    obtain ⟨h2x, h2y, e5, h5⟩ : ∃ a b c, stepP mulRP (h1x, h1y) (c1, c2) e4 = ((a, b), c) := ⟨_, _, _, rfl⟩
    simp only [h5] at hg
    obtain ⟨bx, by_, e6, h6⟩ : ∃ a b c, stepP addRP (ux, uy) (h2x, h2y) e5 = ((a, b), c) := ⟨_, _, _, rfl⟩
    simp only [h6] at hg
    obtain ⟨ax, ay, eA, hA⟩ : ∃ a b c, mkP (100 + s.allow) 100 = ((a, b), c) := ⟨_, _, _, rfl⟩
    simp only [hA] at hg
    have hmA : In ax ∧ In ay := by have := @mkP_in64 (100 + s.allow) 100; rw [hA] at this; exact ⟨this.1, this.2.1⟩
    exact ref10_yes s q x w h hx hc he (Lib.hid hk) far (Lib.hid hfar) (Lib.hid (show ¬ far < 0 by omega)) ci gi ei (Lib.hid hci) (Lib.hid hgi) (Lib.hid hei) l1 l2 l3 c1 c2 g1 g2 f1 f2 u1 u2 tx ty e1 ux uy e2 h0x h0y e3 h1x h1y e4 h2x h2y e5 ax ay eA bx by_ e6 n d e (Lib.hid hC) (Lib.hid hG) (Lib.hid hE)
      (by unfold In; omega) ic ig ie (mul_rng h1) (stepP_in (fun _ _ _ _ _ _ _ => mul_rng) h2) (stepP_in (fun _ _ _ _ _ _ _ => mul_rng) h3) (stepP_in (fun _ _ _ _ _ _ _ => add_rng) h4) (stepP_in (fun _ _ _ _ _ _ _ => mul_rng) h5) (stepP_in (fun _ _ _ _ _ _ _ => add_rng) h6) hmA hal
      (Lib.hid h1) (Lib.hid h2) (Lib.hid h3) (Lib.hid h4) (Lib.hid h5) (Lib.hid hA) (Lib.hid h6) (Lib.hid hg)
  · rename_i hh
    simp at hg
    obtain ⟨⟨rfl, rfl⟩, rfl⟩ := hg
    exact ref10_no s q x w h hx (Lib.hid hh)

end Go.Proofs.Ytnjckaifgmliaaa

/- THE WALK of GoalTells: it returns true, and turns nothing that was there. -/

namespace Go.Proofs.Ytnjckaifgmliaaa
open Go.RowKit Lu

set_option maxRecDepth 100000 in
set_option maxHeartbeats 4000000 in
theorem goalTells_walk (s : Setup) (q : Slices) (x : Evt) (w : World) (h : SetupIs w s q) (hx : EventIs x) :
    Calls Try.prog 8 #[.agg #[.int .i64 s.places, .slice q.wa q.wl q.wc, .int .i64 s.pn, .int .i64 s.pd, .slice q.ea q.el q.ec, .slice q.ca q.cl q.cc, .slice q.ga q.gl q.gc, .int .i64 s.allow, .int .i64 s.unit, .int .i64 s.cap, .int .i64 s.paidBreak, .int .i64 s.autoAfter, .int .i64 s.autoBreak, .int .i64 s.dayReg, .int .i64 s.dayOver, .int .i64 s.weekReg, .int .i64 s.nightFrom, .int .i64 s.nightTo, .slice q.ra q.rl q.rc, .int .i64 s.diff, .int .i64 s.least, .int .i64 s.fault, .slice q.ta q.tl q.tc], .agg #[.int .i64 x.id, .int .i64 x.worker, .int .i64 x.at', .int .i64 x.kind, .int .i64 x.from', .int .i64 x.to', .int .i64 x.element, .int .i64 x.units, .int .i64 x.class', .int .i64 x.gear, .int .i64 x.code]] w fun e w' => e = .returned (.bool true) ∧ Below w.heap.size w w' := by
  obtain ⟨n, d, e, hg⟩ : ∃ n d e, goalP s x = ((n, d), e) := ⟨_, _, _, rfl⟩
  have HG := Lib.hid hg
  clear hg
  obtain ⟨f, hf⟩ : ∃ f, fewP s = f := ⟨_, rfl⟩
  have HF := Lib.hid hf
  clear hf
  have hs : ((w.alloc (.cells #[.int .i64 s.places, .slice q.wa q.wl q.wc, .int .i64 s.pn, .int .i64 s.pd, .slice q.ea q.el q.ec, .slice q.ca q.cl q.cc, .slice q.ga q.gl q.gc, .int .i64 s.allow, .int .i64 s.unit, .int .i64 s.cap, .int .i64 s.paidBreak, .int .i64 s.autoAfter, .int .i64 s.autoBreak, .int .i64 s.dayReg, .int .i64 s.dayOver, .int .i64 s.weekReg, .int .i64 s.nightFrom, .int .i64 s.nightTo, .slice q.ra q.rl q.rc, .int .i64 s.diff, .int .i64 s.least, .int .i64 s.fault, .slice q.ta q.tl q.tc] 30)).alloc (.cells #[.int .i64 x.id, .int .i64 x.worker, .int .i64 x.at', .int .i64 x.kind, .int .i64 x.from', .int .i64 x.to', .int .i64 x.element, .int .i64 x.units, .int .i64 x.class', .int .i64 x.gear, .int .i64 x.code] 47)).heap[w.heap.size]? = some (.cells #[.int .i64 s.places, .slice q.wa q.wl q.wc, .int .i64 s.pn, .int .i64 s.pd, .slice q.ea q.el q.ec, .slice q.ca q.cl q.cc, .slice q.ga q.gl q.gc, .int .i64 s.allow, .int .i64 s.unit, .int .i64 s.cap, .int .i64 s.paidBreak, .int .i64 s.autoAfter, .int .i64 s.autoBreak, .int .i64 s.dayReg, .int .i64 s.dayOver, .int .i64 s.weekReg, .int .i64 s.nightFrom, .int .i64 s.nightTo, .slice q.ra q.rl q.rc, .int .i64 s.diff, .int .i64 s.least, .int .i64 s.fault, .slice q.ta q.tl q.tc] 30) := box_keep (B := w.heap.size + 1) (by go_grown) (box_new w _ rfl _ _) (by omega)
  have hb : ((w.alloc (.cells #[.int .i64 s.places, .slice q.wa q.wl q.wc, .int .i64 s.pn, .int .i64 s.pd, .slice q.ea q.el q.ec, .slice q.ca q.cl q.cc, .slice q.ga q.gl q.gc, .int .i64 s.allow, .int .i64 s.unit, .int .i64 s.cap, .int .i64 s.paidBreak, .int .i64 s.autoAfter, .int .i64 s.autoBreak, .int .i64 s.dayReg, .int .i64 s.dayOver, .int .i64 s.weekReg, .int .i64 s.nightFrom, .int .i64 s.nightTo, .slice q.ra q.rl q.rc, .int .i64 s.diff, .int .i64 s.least, .int .i64 s.fault, .slice q.ta q.tl q.tc] 30)).alloc (.cells #[.int .i64 x.id, .int .i64 x.worker, .int .i64 x.at', .int .i64 x.kind, .int .i64 x.from', .int .i64 x.to', .int .i64 x.element, .int .i64 x.units, .int .i64 x.class', .int .i64 x.gear, .int .i64 x.code] 47)).heap[w.heap.size + 1]? = some (.cells #[.int .i64 x.id, .int .i64 x.worker, .int .i64 x.at', .int .i64 x.kind, .int .i64 x.from', .int .i64 x.to', .int .i64 x.element, .int .i64 x.units, .int .i64 x.class', .int .i64 x.gear, .int .i64 x.code] 47) := box_new _ _ (by simp) _ _
  have B0 : Below w.heap.size w ((w.alloc (.cells #[.int .i64 s.places, .slice q.wa q.wl q.wc, .int .i64 s.pn, .int .i64 s.pd, .slice q.ea q.el q.ec, .slice q.ca q.cl q.cc, .slice q.ga q.gl q.gc, .int .i64 s.allow, .int .i64 s.unit, .int .i64 s.cap, .int .i64 s.paidBreak, .int .i64 s.autoAfter, .int .i64 s.autoBreak, .int .i64 s.dayReg, .int .i64 s.dayOver, .int .i64 s.weekReg, .int .i64 s.nightFrom, .int .i64 s.nightTo, .slice q.ra q.rl q.rc, .int .i64 s.diff, .int .i64 s.least, .int .i64 s.fault, .slice q.ta q.tl q.tc] 30)).alloc (.cells #[.int .i64 x.id, .int .i64 x.worker, .int .i64 x.at', .int .i64 x.kind, .int .i64 x.from', .int .i64 x.to', .int .i64 x.element, .int .i64 x.units, .int .i64 x.class', .int .i64 x.gear, .int .i64 x.code] 47)) := by go_grown
  go_enter Try.func8, Try.ntmps8
  go_wp2_with fail
  refine (awake10 _).mono ?_
  rintro e1 w1 ⟨rfl, kA⟩
  replace hs := box_keep kA hs (block_lt hs)
  replace hb := box_keep kA hb (block_lt hb)
  replace B0 := B0.trans (kA.mono B0.size)
  clear kA
  go_wp2_with (first | (refine wpList_load_box 30 (.tmp 2) rfl rfl (w.heap.size) rfl 30 #[.int .i64 s.places, .slice q.wa q.wl q.wc, .int .i64 s.pn, .int .i64 s.pd, .slice q.ea q.el q.ec, .slice q.ca q.cl q.cc, .slice q.ga q.gl q.gc, .int .i64 s.allow, .int .i64 s.unit, .int .i64 s.cap, .int .i64 s.paidBreak, .int .i64 s.autoAfter, .int .i64 s.autoBreak, .int .i64 s.dayReg, .int .i64 s.dayOver, .int .i64 s.weekReg, .int .i64 s.nightFrom, .int .i64 s.nightTo, .slice q.ra q.rl q.rc, .int .i64 s.diff, .int .i64 s.least, .int .i64 s.fault, .slice q.ta q.tl q.tc] hs setup_big ?_))
  refine (ref7_Few s q f _ (h.below B0) HF.out).mono ?_
  rintro e2 w2 ⟨rfl, kA⟩
  replace hs := box_keep kA hs (block_lt hs)
  replace hb := box_keep kA hb (block_lt hb)
  replace B0 := B0.trans (kA.mono B0.size)
  clear kA
  cases f
  · go_wp2_with fail
    go_ret
    exact ⟨rfl, B0⟩
  go_wp2_with (first | (refine wpList_load_box 30 (.tmp 2) rfl rfl (w.heap.size) rfl 30 #[.int .i64 s.places, .slice q.wa q.wl q.wc, .int .i64 s.pn, .int .i64 s.pd, .slice q.ea q.el q.ec, .slice q.ca q.cl q.cc, .slice q.ga q.gl q.gc, .int .i64 s.allow, .int .i64 s.unit, .int .i64 s.cap, .int .i64 s.paidBreak, .int .i64 s.autoAfter, .int .i64 s.autoBreak, .int .i64 s.dayReg, .int .i64 s.dayOver, .int .i64 s.weekReg, .int .i64 s.nightFrom, .int .i64 s.nightTo, .slice q.ra q.rl q.rc, .int .i64 s.diff, .int .i64 s.least, .int .i64 s.fault, .slice q.ta q.tl q.tc] hs setup_big ?_) | (refine wpList_load_box 47 (.tmp 3) rfl rfl (w.heap.size + 1) rfl 47 #[.int .i64 x.id, .int .i64 x.worker, .int .i64 x.at', .int .i64 x.kind, .int .i64 x.from', .int .i64 x.to', .int .i64 x.element, .int .i64 x.units, .int .i64 x.class', .int .i64 x.gear, .int .i64 x.code] hb event_big ?_))
  refine (goal_Of_is s q x n d e _ (h.below B0) hx HG.out).mono ?_
  rintro e3 w3 ⟨rfl, kA⟩
  replace hs := box_keep kA hs (block_lt hs)
  replace hb := box_keep kA hb (block_lt hb)
  replace B0 := B0.trans (kA.mono B0.size)
  clear kA
  replace hs := box_keep ((Below.refl _ _).alloc (Nat.le_refl _) (.cells #[.int .i64 n, .int .i64 d] 24)) hs (block_lt hs)
  replace hb := box_keep ((Below.refl _ _).alloc (Nat.le_refl _) (.cells #[.int .i64 n, .int .i64 d] 24)) hb (block_lt hb)
  replace B0 := B0.alloc B0.size (.cells #[.int .i64 n, .int .i64 d] 24)
  have oA : Own (w3.alloc (.cells #[.int .i64 n, .int .i64 d] 24)) w3.heap.size n d := Own.new' rfl
  go_wp2_with (first | (refine wpList_load_box 30 (.tmp 2) rfl rfl (w.heap.size) rfl 30 #[.int .i64 s.places, .slice q.wa q.wl q.wc, .int .i64 s.pn, .int .i64 s.pd, .slice q.ea q.el q.ec, .slice q.ca q.cl q.cc, .slice q.ga q.gl q.gc, .int .i64 s.allow, .int .i64 s.unit, .int .i64 s.cap, .int .i64 s.paidBreak, .int .i64 s.autoAfter, .int .i64 s.autoBreak, .int .i64 s.dayReg, .int .i64 s.dayOver, .int .i64 s.weekReg, .int .i64 s.nightFrom, .int .i64 s.nightTo, .slice q.ra q.rl q.rc, .int .i64 s.diff, .int .i64 s.least, .int .i64 s.fault, .slice q.ta q.tl q.tc] hs setup_big ?_) | (refine wpList_load_box 47 (.tmp 3) rfl rfl (w.heap.size + 1) rfl 47 #[.int .i64 x.id, .int .i64 x.worker, .int .i64 x.at', .int .i64 x.kind, .int .i64 x.from', .int .i64 x.to', .int .i64 x.element, .int .i64 x.units, .int .i64 x.class', .int .i64 x.gear, .int .i64 x.code] hb event_big ?_))
  refine (ref10_Of_is s q x n d e _ (h.below B0) hx HG.out).mono ?_
  rintro e4 w4 ⟨rfl, kA⟩
  replace hs := box_keep kA hs (block_lt hs)
  replace hb := box_keep kA hb (block_lt hb)
  replace oA := oA.below kA
  replace B0 := B0.trans (kA.mono B0.size)
  clear kA
  replace hs := box_keep ((Below.refl _ _).alloc (Nat.le_refl _) (.cells #[.int .i64 n, .int .i64 d] 24)) hs (block_lt hs)
  replace hb := box_keep ((Below.refl _ _).alloc (Nat.le_refl _) (.cells #[.int .i64 n, .int .i64 d] 24)) hb (block_lt hb)
  replace oA := oA.alloc (.cells #[.int .i64 n, .int .i64 d] 24)
  replace B0 := B0.alloc B0.size (.cells #[.int .i64 n, .int .i64 d] 24)
  have oB : Own (w4.alloc (.cells #[.int .i64 n, .int .i64 d] 24)) w4.heap.size n d := Own.new' rfl
  obtain ⟨l_oA, c_oA, d_oA, f_oA, g_oA⟩ := id oA
  obtain ⟨l_oB, c_oB, d_oB, f_oB, g_oB⟩ := id oB
  clear hs hb oA oB
  go_wp2_with fail
  go_ret
  exact ⟨rfl, B0⟩
end Go.Proofs.Ytnjckaifgmliaaa

/- WHAT THE STATEMENTS' FRAMES SHARE: arguments opened into what the walks are told. -/

namespace Go.Proofs.Ytnjckaifgmliaaa
open Go.ChangeShapes Go.WideShapes Go.ChangeAt Go.RowKit Lu

theorem own : ownKnob Try.prog.godebug = none := by kernel_rfl
theorem laidOut : laidOutB Try.prog = true := by kernel_rfl

theorem in_i64 {x : Int} (h : (Lit.int .i64 x).wf = true) : In x := by
  simp [Lit.wf, IntKind.min, IntKind.max, IntKind.signed, IntKind.bits] at h
  exact ⟨by omega, by omega⟩
/-- A slice of ints that came in. -/
theorem open_Ints {H : Type} {enc : TypeId × Value → H} {W : World} {base : Nat} {sp : Nat → Bool} {held : Bool} {a : Option Addr} {len cap : Nat} {d : DataW H} {p : List MemPlace}
    (h : DataW.Trod enc Try.prog W base sp held 27 (.slice a len cap) d p) : ∃ zs, Ints W a len zs := by
  obtain ⟨fuel, hf⟩ := h
  rcases open_ints Try.underlying27 Try.underlying3 (by kernel_rfl) hf with ⟨hcs, _⟩ | ⟨x, l, c, zs, hcs, _, hl, hm, hz, _, hcell, hwz⟩
  · simp [Value.cells] at hcs
    obtain ⟨rfl, rfl, rfl⟩ := hcs
    exact ⟨[], rfl, by decide, by simp, Or.inl rfl⟩
  · simp [Value.cells] at hcs
    obtain ⟨rfl, rfl, rfl⟩ := hcs
    unfold maxLen at hm
    have hz' : len ≤ zs.length := by rw [hz]; split <;> omega
    refine ⟨zs.take len, by rw [List.length_take]; omega, by omega, fun z hz => in_i64 (hwz z (List.mem_of_mem_take hz)), ?_⟩
    by_cases h0 : len = 0
    · exact Or.inl h0
    · right
      obtain ⟨b, off, spot⟩ := x
      have hc := hcell 0 (by omega)
      have hspot : spot = none := by simpa [Addr.add] using World.cell?_spot hc
      subst hspot
      refine ⟨b, off, rfl, fun i hi => ?_⟩
      have := hcell i (by omega)
      rw [Addr.add_lit] at this
      rw [this, List.getD_eq_getElem?_getD, List.getD_eq_getElem?_getD, List.getElem?_take, if_pos hi]

theorem in_i32 {x : Int} (h : (Lit.int .i32 x).wf = true) : -2147483648 ≤ x ∧ x ≤ 2147483647 := by
  simp [Lit.wf, IntKind.min, IntKind.max, IntKind.signed, IntKind.bits] at h
  exact ⟨by omega, by omega⟩
theorem in_u16 {x : Int} (h : (Lit.int .u16 x).wf = true) : 0 ≤ x ∧ x ≤ 65535 := by
  simp [Lit.wf, IntKind.min, IntKind.max, IntKind.signed, IntKind.bits] at h
  exact ⟨by omega, by omega⟩
theorem in_u8 {x : Int} (h : (Lit.int .u8 x).wf = true) : 0 ≤ x ∧ x ≤ 255 := by
  simp [Lit.wf, IntKind.min, IntKind.max, IntKind.signed, IntKind.bits] at h
  exact ⟨by omega, by omega⟩
theorem in_u32 {x : Int} (h : (Lit.int .u32 x).wf = true) : 0 ≤ x ∧ x ≤ 4294967295 := by
  simp [Lit.wf, IntKind.min, IntKind.max, IntKind.signed, IntKind.bits] at h
  exact ⟨by omega, by omega⟩
end Go.Proofs.Ytnjckaifgmliaaa

/- WHAT THE STATEMENTS' FRAMES SHARE: ratios that came in. -/

namespace Go.Proofs.Ytnjckaifgmliaaa
open Go.ChangeShapes Go.WideShapes Go.ChangeAt Go.RowKit Go.Joins Go.Deep Lu

theorem cellsInt : Try.prog.cellsOf 3 = 1 := by kernel_rfl
theorem cellsRatio : Try.prog.cellsOf 24 = 2 := by kernel_rfl
set_option maxRecDepth 100000 in
/-- A ratio that came in. -/
theorem open_Ratio {H : Type} {enc : TypeId × Value → H} {W : World} {b0 base : Nat} {sp : Nat → Bool} {held : Bool} {r : Reach} {v : Value} {d : DataW H} {p : List MemPlace}
    (hv : Value.okWide Try.prog W r b0 24 v) (h : DataW.Trod enc Try.prog W base sp held 24 v d p) : ∃ n m, v = .agg #[.int .i64 n, .int .i64 m] ∧ In n ∧ In m := by
  obtain ⟨c0, c1, y0, y1, m, rfl, _, _, hy0, hy1⟩ := open_agg2 Try.underlying24 (by kernel_rfl) cellsRatio hv h
  obtain ⟨a, e0, _, wa⟩ := DataW.trod_int Try.underlying3 hy0
  obtain ⟨b, e1, _, wb⟩ := DataW.trod_int Try.underlying3 hy1
  simp at e0 e1
  subst e0 e1
  exact ⟨a, b, rfl, in_i64 wa, in_i64 wb⟩
set_option maxRecDepth 100000 in
/-- A slice of ratios that came in. -/
theorem open_Ratios {H : Type} {enc : TypeId × Value → H} {W : World} {base : Nat} {sp : Nat → Bool} {held : Bool} {a : Option Addr} {len cap : Nat} {d : DataW H} {p : List MemPlace}
    (h : DataW.Trod enc Try.prog W base sp held 26 (.slice a len cap) d p) : ∃ rs, Ratios W a len rs := by
  obtain ⟨fuel, hf⟩ := h
  rcases open_slice Try.underlying26 hf with ⟨hcs, _⟩ | ⟨x, l, c, m, n, D, Pl, hcs, hb, hl, hm, hmm, hx, hi⟩
  · simp [Value.cells] at hcs
    obtain ⟨rfl, rfl, rfl⟩ := hcs
    exact ⟨[], rfl, by decide, by simp, Or.inl rfl⟩
  · simp [Value.cells] at hcs
    obtain ⟨rfl, rfl, rfl⟩ := hcs
    unfold maxLen at hm
    have hlm : len ≤ m := by rw [hmm]; split <;> omega
    have each : ∀ i, ∃ r : Int × Int, i < len → In r.1 ∧ In r.2 ∧ W.cell? (x.add (i * 2)) = some (.int .i64 r.1) ∧ W.cell? (x.add (i * 2 + 1)) = some (.int .i64 r.2) := by
      intro i
      by_cases hlt : i < len
      · obtain ⟨cs, hc, ht⟩ := hi i (by omega)
        rw [cellsRatio] at hc
        obtain ⟨ys, k, _, _, hlen, hyl, hfs⟩ := DataW.trod_struct Try.underlying24 ht
        obtain ⟨_, hcl, hat⟩ := World.cells?_some hc
        match cs, hcl with
        | [c0, c1], _ =>
          have f0 : DataW.trod enc Try.prog W base sp held k 3 [c0] = ys[0]? := by have := hfs 0 _ rfl; simpa [cellsInt] using this
          have f1 : DataW.trod enc Try.prog W base sp held k 3 [c1] = ys[1]? := by have := hfs 1 _ rfl; simpa [cellsInt] using this
          have g0 : ys[0]? = some (ys[0]'(by rw [hyl]; decide)) := List.getElem?_eq_getElem _
          have g1 : ys[1]? = some (ys[1]'(by rw [hyl]; decide)) := List.getElem?_eq_getElem _
          rw [g0] at f0
          rw [g1] at f1
          obtain ⟨u, e0, _, wu⟩ := DataW.trod_int Try.underlying3 f0
          obtain ⟨v, e1, _, wv⟩ := DataW.trod_int Try.underlying3 f1
          simp at e0 e1
          subst e0 e1
          refine ⟨(u, v), fun _ => ⟨in_i64 wu, in_i64 wv, ?_, ?_⟩⟩
          · have := hat 0 (by decide)
            rw [add_add] at this
            exact this
          · have := hat 1 (by decide)
            rw [add_add] at this
            exact this
      · exact ⟨(0, 0), fun h => absurd h hlt⟩
    obtain ⟨f, hf'⟩ := Classical.axiomOfChoice each
    have hget : ∀ i, i < len → ((List.range len).map f).getD i (0, 0) = f i := by
      intro i hlt
      rw [List.getD_eq_getElem?_getD, List.getElem?_map, List.getElem?_range hlt]
      rfl
    refine ⟨(List.range len).map f, by simp, by omega, ?_, ?_⟩
    · intro r hr
      obtain ⟨i, hi', rfl⟩ := List.mem_map.1 hr
      have := hf' i (List.mem_range.1 hi')
      exact ⟨this.1, this.2.1⟩
    · by_cases h0 : len = 0
      · exact Or.inl h0
      · right
        obtain ⟨b, off, spot⟩ := x
        have hc := (hf' 0 (by omega)).2.2.1
        have hspot : spot = none := by simpa [Addr.add] using World.cell?_spot hc
        subst hspot
        have hblk : b < W.heap.size := by
          have := World.block_lt_of_cell? W _ hc
          simpa [Addr.add] using this
        refine ⟨b, off, rfl, hblk, fun i hlt => ?_⟩
        have := hf' i hlt
        rw [hget i hlt]
        rw [Addr.add_lit, Addr.add_lit] at this
        exact ⟨this.2.2.1, by rw [Nat.add_assoc]; exact this.2.2.2⟩
end Go.Proofs.Ytnjckaifgmliaaa

/- WHAT THE STATEMENTS' FRAMES SHARE: a setup that came in; seven seconds that came in. -/

namespace Go.Proofs.Ytnjckaifgmliaaa
open Go.ChangeShapes Go.WideShapes Go.ChangeAt Go.RowKit Go.Joins Go.Deep Lu

theorem slice_of {H : Type} {enc : TypeId × Value → H} {W : World} {base fuel : Nat} {sp : Nat → Bool} {held : Bool} {t e : TypeId} {c : Value} {x : DataW H × List MemPlace} (ht : Try.prog.underlying t = some (.slice e))
    (h : DataW.trod enc Try.prog W base sp held fuel t [c] = some x) : ∃ a len cap, c = .slice a len cap := by
  rcases open_slice ht h with ⟨hcs, _⟩ | ⟨a, len, cap, m, n, D, Pl, hcs, _⟩
  · exact ⟨none, 0, 0, by simpa using hcs⟩
  · exact ⟨some a, len, cap, by simpa using hcs⟩


theorem ratio_cells {H : Type} {enc : TypeId × Value → H} {W : World} {base fuel : Nat} {sp : Nat → Bool} {held : Bool} {c0 c1 : Value} {x : DataW H × List MemPlace}
    (h : DataW.trod enc Try.prog W base sp held fuel 24 [c0, c1] = some x) : ∃ u v : Int, c0 = .int .i64 u ∧ c1 = .int .i64 v ∧ (Lit.int .i64 u).wf = true ∧ (Lit.int .i64 v).wf = true := by
  obtain ⟨ys, k, _, _, hlen, hyl, hfs⟩ := DataW.trod_struct Try.underlying24 h
  have f0 : DataW.trod enc Try.prog W base sp held k 3 [c0] = ys[0]? := by have := hfs 0 _ rfl; simpa [cellsInt] using this
  have f1 : DataW.trod enc Try.prog W base sp held k 3 [c1] = ys[1]? := by have := hfs 1 _ rfl; simpa [cellsInt] using this
  have g0 : ys[0]? = some (ys[0]'(by rw [hyl]; decide)) := List.getElem?_eq_getElem _
  have g1 : ys[1]? = some (ys[1]'(by rw [hyl]; decide)) := List.getElem?_eq_getElem _
  rw [g0] at f0
  rw [g1] at f1
  obtain ⟨u, e0, _, wu⟩ := DataW.trod_int Try.underlying3 f0
  obtain ⟨v, e1, _, wv⟩ := DataW.trod_int Try.underlying3 f1
  simp at e0 e1
  exact ⟨u, v, e0, e1, wu, wv⟩


theorem cells_Ways : Try.prog.cellsOf 58 = 3 := by kernel_rfl
set_option maxRecDepth 100000 in
theorem open_Ways {H : Type} {enc : TypeId × Value → H} {W : World} {base : Nat} {sp : Nat → Bool} {held : Bool} {a : Option Addr} {len cap : Nat} {d : DataW H} {p : List MemPlace}
    (h : DataW.Trod enc Try.prog W base sp held 22 (.slice a len cap) d p) : ∃ rs, Recs3 W a len rs := by
  obtain ⟨fuel, hf⟩ := h
  rcases open_slice Try.underlying22 hf with ⟨hcs, _⟩ | ⟨x, l, c, m, n, D, Pl, hcs, hb, hl, hm, hmm, hx, hi⟩
  · simp [Value.cells] at hcs
    obtain ⟨rfl, rfl, rfl⟩ := hcs
    exact ⟨[], rfl, by decide, by simp, Or.inl rfl⟩
  · simp [Value.cells] at hcs
    obtain ⟨rfl, rfl, rfl⟩ := hcs
    unfold maxLen at hm
    have hlm : len ≤ m := by rw [hmm]; split <;> omega
    have each : ∀ i, ∃ r : Int × Int × Int, i < len → In r.1 ∧ In r.2.1 ∧ In r.2.2 ∧ W.cell? (x.add (i * 3)) = some (.int .i64 r.1) ∧ W.cell? (x.add (i * 3 + 1)) = some (.int .i64 r.2.1) ∧ W.cell? (x.add (i * 3 + 2)) = some (.int .i64 r.2.2) := by
      intro i
      by_cases hlt : i < len
      · obtain ⟨cs, hc, ht⟩ := hi i (by omega)
        rw [cells_Ways] at hc
        obtain ⟨ys, k, _, _, hlen, hyl, hfs⟩ := DataW.trod_struct Try.underlying58 ht
        obtain ⟨_, hcl, hat⟩ := World.cells?_some hc
        match cs, hcl with
        | [c0, c1, c2], _ =>
          have f0 : DataW.trod enc Try.prog W base sp held k 3 [c0] = ys[0]? := by have := hfs 0 _ rfl; simpa [cellsInt, cellsRatio] using this
          have g0 : ys[0]? = some (ys[0]'(by rw [hyl]; decide)) := List.getElem?_eq_getElem _
          rw [g0] at f0
          obtain ⟨u0, e0, _, w0⟩ := DataW.trod_int Try.underlying3 f0
          have f1 : DataW.trod enc Try.prog W base sp held k 3 [c1] = ys[1]? := by have := hfs 1 _ rfl; simpa [cellsInt, cellsRatio] using this
          have g1 : ys[1]? = some (ys[1]'(by rw [hyl]; decide)) := List.getElem?_eq_getElem _
          rw [g1] at f1
          obtain ⟨u1, e1, _, w1⟩ := DataW.trod_int Try.underlying3 f1
          have f2 : DataW.trod enc Try.prog W base sp held k 3 [c2] = ys[2]? := by have := hfs 2 _ rfl; simpa [cellsInt, cellsRatio] using this
          have g2 : ys[2]? = some (ys[2]'(by rw [hyl]; decide)) := List.getElem?_eq_getElem _
          rw [g2] at f2
          obtain ⟨u2, e2, _, w2⟩ := DataW.trod_int Try.underlying3 f2
          simp at e0 e1 e2
          subst e0 e1 e2
          refine ⟨(u0, u1, u2), fun _ => ⟨in_i64 w0, in_i64 w1, in_i64 w2, ?_, ?_, ?_⟩⟩
          · have := hat 0 (by decide)
            rw [add_add] at this
            exact this
          · have := hat 1 (by decide)
            rw [add_add] at this
            exact this
          · have := hat 2 (by decide)
            rw [add_add] at this
            exact this
      · exact ⟨(0, 0, 0), fun h => absurd h hlt⟩
    obtain ⟨f, hf'⟩ := Classical.axiomOfChoice each
    have hget : ∀ i, i < len → ((List.range len).map f).getD i (0, 0, 0) = f i := by
      intro i hlt
      rw [List.getD_eq_getElem?_getD, List.getElem?_map, List.getElem?_range hlt]
      rfl
    refine ⟨(List.range len).map f, by simp, by omega, ?_, ?_⟩
    · intro r hr
      obtain ⟨i, hi', rfl⟩ := List.mem_map.1 hr
      have := hf' i (List.mem_range.1 hi')
      exact ⟨this.1, this.2.1, this.2.2.1⟩
    · by_cases h0 : len = 0
      · exact Or.inl h0
      · right
        obtain ⟨b, off, spot⟩ := x
        have hc := (hf' 0 (by omega)).2.2.2.1
        have hspot : spot = none := by simpa [Addr.add] using World.cell?_spot hc
        subst hspot
        have hblk : b < W.heap.size := by
          have := World.block_lt_of_cell? W _ hc
          simpa [Addr.add] using this
        refine ⟨b, off, rfl, hblk, fun i hlt => ?_⟩
        have := hf' i hlt
        rw [hget i hlt]
        rw [Addr.add_lit, Addr.add_lit, Addr.add_lit] at this
        exact ⟨this.2.2.2.1, by rw [Nat.add_assoc]; exact this.2.2.2.2.1, by rw [Nat.add_assoc]; exact this.2.2.2.2.2⟩


theorem cells_Elements : Try.prog.cellsOf 74 = 4 := by kernel_rfl
set_option maxRecDepth 100000 in
theorem open_Elements {H : Type} {enc : TypeId × Value → H} {W : World} {base : Nat} {sp : Nat → Bool} {held : Bool} {a : Option Addr} {len cap : Nat} {d : DataW H} {p : List MemPlace}
    (h : DataW.Trod enc Try.prog W base sp held 25 (.slice a len cap) d p) : ∃ rs, Recs4 W a len rs := by
  obtain ⟨fuel, hf⟩ := h
  rcases open_slice Try.underlying25 hf with ⟨hcs, _⟩ | ⟨x, l, c, m, n, D, Pl, hcs, hb, hl, hm, hmm, hx, hi⟩
  · simp [Value.cells] at hcs
    obtain ⟨rfl, rfl, rfl⟩ := hcs
    exact ⟨[], rfl, by decide, by simp, Or.inl rfl⟩
  · simp [Value.cells] at hcs
    obtain ⟨rfl, rfl, rfl⟩ := hcs
    unfold maxLen at hm
    have hlm : len ≤ m := by rw [hmm]; split <;> omega
    have each : ∀ i, ∃ r : Int × Int × Int × Int, i < len → In r.1 ∧ In r.2.1 ∧ In r.2.2.1 ∧ In r.2.2.2 ∧ W.cell? (x.add (i * 4)) = some (.int .i64 r.1) ∧ W.cell? (x.add (i * 4 + 1)) = some (.int .i64 r.2.1) ∧ W.cell? (x.add (i * 4 + 2)) = some (.int .i64 r.2.2.1) ∧ W.cell? (x.add (i * 4 + 3)) = some (.int .i64 r.2.2.2) := by
      intro i
      by_cases hlt : i < len
      · obtain ⟨cs, hc, ht⟩ := hi i (by omega)
        rw [cells_Elements] at hc
        obtain ⟨ys, k, _, _, hlen, hyl, hfs⟩ := DataW.trod_struct Try.underlying74 ht
        obtain ⟨_, hcl, hat⟩ := World.cells?_some hc
        match cs, hcl with
        | [c0, c1, c2, c3], _ =>
          have f0 : DataW.trod enc Try.prog W base sp held k 24 [c0, c1] = ys[0]? := by have := hfs 0 _ rfl; simpa [cellsInt, cellsRatio] using this
          have g0 : ys[0]? = some (ys[0]'(by rw [hyl]; decide)) := List.getElem?_eq_getElem _
          rw [g0] at f0
          obtain ⟨u0, u1, e0, e1, w0, w1⟩ := ratio_cells f0
          have f1 : DataW.trod enc Try.prog W base sp held k 24 [c2, c3] = ys[1]? := by have := hfs 1 _ rfl; simpa [cellsInt, cellsRatio] using this
          have g1 : ys[1]? = some (ys[1]'(by rw [hyl]; decide)) := List.getElem?_eq_getElem _
          rw [g1] at f1
          obtain ⟨u2, u3, e2, e3, w2, w3⟩ := ratio_cells f1
          subst e0 e1 e2 e3
          refine ⟨(u0, u1, u2, u3), fun _ => ⟨in_i64 w0, in_i64 w1, in_i64 w2, in_i64 w3, ?_, ?_, ?_, ?_⟩⟩
          · have := hat 0 (by decide)
            rw [add_add] at this
            exact this
          · have := hat 1 (by decide)
            rw [add_add] at this
            exact this
          · have := hat 2 (by decide)
            rw [add_add] at this
            exact this
          · have := hat 3 (by decide)
            rw [add_add] at this
            exact this
      · exact ⟨(0, 0, 0, 0), fun h => absurd h hlt⟩
    obtain ⟨f, hf'⟩ := Classical.axiomOfChoice each
    have hget : ∀ i, i < len → ((List.range len).map f).getD i (0, 0, 0, 0) = f i := by
      intro i hlt
      rw [List.getD_eq_getElem?_getD, List.getElem?_map, List.getElem?_range hlt]
      rfl
    refine ⟨(List.range len).map f, by simp, by omega, ?_, ?_⟩
    · intro r hr
      obtain ⟨i, hi', rfl⟩ := List.mem_map.1 hr
      have := hf' i (List.mem_range.1 hi')
      exact ⟨this.1, this.2.1, this.2.2.1, this.2.2.2.1⟩
    · by_cases h0 : len = 0
      · exact Or.inl h0
      · right
        obtain ⟨b, off, spot⟩ := x
        have hc := (hf' 0 (by omega)).2.2.2.2.1
        have hspot : spot = none := by simpa [Addr.add] using World.cell?_spot hc
        subst hspot
        have hblk : b < W.heap.size := by
          have := World.block_lt_of_cell? W _ hc
          simpa [Addr.add] using this
        refine ⟨b, off, rfl, hblk, fun i hlt => ?_⟩
        have := hf' i hlt
        rw [hget i hlt]
        rw [Addr.add_lit, Addr.add_lit, Addr.add_lit, Addr.add_lit] at this
        exact ⟨this.2.2.2.2.1, by rw [Nat.add_assoc]; exact this.2.2.2.2.2.1, by rw [Nat.add_assoc]; exact this.2.2.2.2.2.2.1, by rw [Nat.add_assoc]; exact this.2.2.2.2.2.2.2⟩


theorem cells_Tiers : Try.prog.cellsOf 76 = 2 := by kernel_rfl
set_option maxRecDepth 100000 in
theorem open_Tiers {H : Type} {enc : TypeId × Value → H} {W : World} {base : Nat} {sp : Nat → Bool} {held : Bool} {a : Option Addr} {len cap : Nat} {d : DataW H} {p : List MemPlace}
    (h : DataW.Trod enc Try.prog W base sp held 28 (.slice a len cap) d p) : ∃ rs, Ratios W a len rs := by
  obtain ⟨fuel, hf⟩ := h
  rcases open_slice Try.underlying28 hf with ⟨hcs, _⟩ | ⟨x, l, c, m, n, D, Pl, hcs, hb, hl, hm, hmm, hx, hi⟩
  · simp [Value.cells] at hcs
    obtain ⟨rfl, rfl, rfl⟩ := hcs
    exact ⟨[], rfl, by decide, by simp, Or.inl rfl⟩
  · simp [Value.cells] at hcs
    obtain ⟨rfl, rfl, rfl⟩ := hcs
    unfold maxLen at hm
    have hlm : len ≤ m := by rw [hmm]; split <;> omega
    have each : ∀ i, ∃ r : Int × Int, i < len → In r.1 ∧ In r.2 ∧ W.cell? (x.add (i * 2)) = some (.int .i64 r.1) ∧ W.cell? (x.add (i * 2 + 1)) = some (.int .i64 r.2) := by
      intro i
      by_cases hlt : i < len
      · obtain ⟨cs, hc, ht⟩ := hi i (by omega)
        rw [cells_Tiers] at hc
        obtain ⟨ys, k, _, _, hlen, hyl, hfs⟩ := DataW.trod_struct Try.underlying76 ht
        obtain ⟨_, hcl, hat⟩ := World.cells?_some hc
        match cs, hcl with
        | [c0, c1], _ =>
          have f0 : DataW.trod enc Try.prog W base sp held k 3 [c0] = ys[0]? := by have := hfs 0 _ rfl; simpa [cellsInt, cellsRatio] using this
          have g0 : ys[0]? = some (ys[0]'(by rw [hyl]; decide)) := List.getElem?_eq_getElem _
          rw [g0] at f0
          obtain ⟨u0, e0, _, w0⟩ := DataW.trod_int Try.underlying3 f0
          have f1 : DataW.trod enc Try.prog W base sp held k 3 [c1] = ys[1]? := by have := hfs 1 _ rfl; simpa [cellsInt, cellsRatio] using this
          have g1 : ys[1]? = some (ys[1]'(by rw [hyl]; decide)) := List.getElem?_eq_getElem _
          rw [g1] at f1
          obtain ⟨u1, e1, _, w1⟩ := DataW.trod_int Try.underlying3 f1
          simp at e0 e1
          subst e0 e1
          refine ⟨(u0, u1), fun _ => ⟨in_i64 w0, in_i64 w1, ?_, ?_⟩⟩
          · have := hat 0 (by decide)
            rw [add_add] at this
            exact this
          · have := hat 1 (by decide)
            rw [add_add] at this
            exact this
      · exact ⟨(0, 0), fun h => absurd h hlt⟩
    obtain ⟨f, hf'⟩ := Classical.axiomOfChoice each
    have hget : ∀ i, i < len → ((List.range len).map f).getD i (0, 0) = f i := by
      intro i hlt
      rw [List.getD_eq_getElem?_getD, List.getElem?_map, List.getElem?_range hlt]
      rfl
    refine ⟨(List.range len).map f, by simp, by omega, ?_, ?_⟩
    · intro r hr
      obtain ⟨i, hi', rfl⟩ := List.mem_map.1 hr
      have := hf' i (List.mem_range.1 hi')
      exact ⟨this.1, this.2.1⟩
    · by_cases h0 : len = 0
      · exact Or.inl h0
      · right
        obtain ⟨b, off, spot⟩ := x
        have hc := (hf' 0 (by omega)).2.2.1
        have hspot : spot = none := by simpa [Addr.add] using World.cell?_spot hc
        subst hspot
        have hblk : b < W.heap.size := by
          have := World.block_lt_of_cell? W _ hc
          simpa [Addr.add] using this
        refine ⟨b, off, rfl, hblk, fun i hlt => ?_⟩
        have := hf' i hlt
        rw [hget i hlt]
        rw [Addr.add_lit, Addr.add_lit] at this
        exact ⟨this.2.2.1, by rw [Nat.add_assoc]; exact this.2.2.2⟩


theorem cells_Setup : Try.prog.cellsOf 30 = 23 := by kernel_rfl
theorem cells_sl0 : Try.prog.cellsOf 22 = 1 := by kernel_rfl
theorem cells_sl1 : Try.prog.cellsOf 25 = 1 := by kernel_rfl
theorem cells_sl2 : Try.prog.cellsOf 26 = 1 := by kernel_rfl
theorem cells_sl3 : Try.prog.cellsOf 27 = 1 := by kernel_rfl
theorem cells_sl4 : Try.prog.cellsOf 28 = 1 := by kernel_rfl
set_option maxRecDepth 100000 in
set_option maxHeartbeats 4000000 in
theorem open_Setup {H : Type} {enc : TypeId × Value → H} {W : World} {b0 base : Nat} {sp : Nat → Bool} {held : Bool} {r : Reach} {v : Value} {d : DataW H} {p : List MemPlace}
    (hv : Value.okWide Try.prog W r b0 30 v) (h : DataW.Trod enc Try.prog W base sp held 30 v d p) : ∃ s q, v = .agg #[.int .i64 s.places, .slice q.wa q.wl q.wc, .int .i64 s.pn, .int .i64 s.pd, .slice q.ea q.el q.ec, .slice q.ca q.cl q.cc, .slice q.ga q.gl q.gc, .int .i64 s.allow, .int .i64 s.unit, .int .i64 s.cap, .int .i64 s.paidBreak, .int .i64 s.autoAfter, .int .i64 s.autoBreak, .int .i64 s.dayReg, .int .i64 s.dayOver, .int .i64 s.weekReg, .int .i64 s.nightFrom, .int .i64 s.nightTo, .slice q.ra q.rl q.rc, .int .i64 s.diff, .int .i64 s.least, .int .i64 s.fault, .slice q.ta q.tl q.tc] ∧ SetupIs W s q := by
  obtain ⟨cs, rfl, hsz⟩ := okWide_struct Try.underlying30 hv
  obtain ⟨l⟩ := cs
  match l, hsz.trans cells_Setup with
  | [c0, c1, c2, c3, c4, c5, c6, c7, c8, c9, c10, c11, c12, c13, c14, c15, c16, c17, c18, c19, c20, c21, c22], _ =>
    obtain ⟨fuel, hf⟩ := h
    obtain ⟨ys, n, _, _, hlen, hyl, hg⟩ := DataW.trod_struct Try.underlying30 hf
    have f0 : DataW.trod enc Try.prog W base sp held n 3 [c0] = ys[0]? := by have := hg 0 _ rfl; simpa [cellsInt, cellsRatio, cells_sl0, cells_sl1, cells_sl2, cells_sl3, cells_sl4, Value.cells] using this
    rw [show ys[0]? = some (ys[0]'(by rw [hyl]; decide)) from List.getElem?_eq_getElem _] at f0
    obtain ⟨u0, e0, _, w0⟩ := DataW.trod_int Try.underlying3 f0
    obtain rfl : c0 = .int .i64 u0 := by simpa using e0
    have f1 : DataW.trod enc Try.prog W base sp held n 22 [c1] = ys[1]? := by have := hg 1 _ rfl; simpa [cellsInt, cellsRatio, cells_sl0, cells_sl1, cells_sl2, cells_sl3, cells_sl4, Value.cells] using this
    rw [show ys[1]? = some (ys[1]'(by rw [hyl]; decide)) from List.getElem?_eq_getElem _] at f1
    obtain ⟨a1, l1, k1, rfl⟩ := slice_of Try.underlying22 f1
    obtain ⟨z1, w1⟩ := open_Ways ⟨_, f1⟩
    have f2 : DataW.trod enc Try.prog W base sp held n 24 [c2, c3] = ys[2]? := by have := hg 2 _ rfl; simpa [cellsInt, cellsRatio, cells_sl0, cells_sl1, cells_sl2, cells_sl3, cells_sl4, Value.cells] using this
    rw [show ys[2]? = some (ys[2]'(by rw [hyl]; decide)) from List.getElem?_eq_getElem _] at f2
    obtain ⟨u2, u3, rfl, rfl, w2, w3⟩ := ratio_cells f2
    have f3 : DataW.trod enc Try.prog W base sp held n 25 [c4] = ys[3]? := by have := hg 3 _ rfl; simpa [cellsInt, cellsRatio, cells_sl0, cells_sl1, cells_sl2, cells_sl3, cells_sl4, Value.cells] using this
    rw [show ys[3]? = some (ys[3]'(by rw [hyl]; decide)) from List.getElem?_eq_getElem _] at f3
    obtain ⟨a4, l4, k4, rfl⟩ := slice_of Try.underlying25 f3
    obtain ⟨z4, w4⟩ := open_Elements ⟨_, f3⟩
    have f4 : DataW.trod enc Try.prog W base sp held n 26 [c5] = ys[4]? := by have := hg 4 _ rfl; simpa [cellsInt, cellsRatio, cells_sl0, cells_sl1, cells_sl2, cells_sl3, cells_sl4, Value.cells] using this
    rw [show ys[4]? = some (ys[4]'(by rw [hyl]; decide)) from List.getElem?_eq_getElem _] at f4
    obtain ⟨a5, l5, k5, rfl⟩ := slice_of Try.underlying26 f4
    obtain ⟨z5, w5⟩ := open_Ratios ⟨_, f4⟩
    have f5 : DataW.trod enc Try.prog W base sp held n 26 [c6] = ys[5]? := by have := hg 5 _ rfl; simpa [cellsInt, cellsRatio, cells_sl0, cells_sl1, cells_sl2, cells_sl3, cells_sl4, Value.cells] using this
    rw [show ys[5]? = some (ys[5]'(by rw [hyl]; decide)) from List.getElem?_eq_getElem _] at f5
    obtain ⟨a6, l6, k6, rfl⟩ := slice_of Try.underlying26 f5
    obtain ⟨z6, w6⟩ := open_Ratios ⟨_, f5⟩
    have f6 : DataW.trod enc Try.prog W base sp held n 3 [c7] = ys[6]? := by have := hg 6 _ rfl; simpa [cellsInt, cellsRatio, cells_sl0, cells_sl1, cells_sl2, cells_sl3, cells_sl4, Value.cells] using this
    rw [show ys[6]? = some (ys[6]'(by rw [hyl]; decide)) from List.getElem?_eq_getElem _] at f6
    obtain ⟨u7, e7, _, w7⟩ := DataW.trod_int Try.underlying3 f6
    obtain rfl : c7 = .int .i64 u7 := by simpa using e7
    have f7 : DataW.trod enc Try.prog W base sp held n 3 [c8] = ys[7]? := by have := hg 7 _ rfl; simpa [cellsInt, cellsRatio, cells_sl0, cells_sl1, cells_sl2, cells_sl3, cells_sl4, Value.cells] using this
    rw [show ys[7]? = some (ys[7]'(by rw [hyl]; decide)) from List.getElem?_eq_getElem _] at f7
    obtain ⟨u8, e8, _, w8⟩ := DataW.trod_int Try.underlying3 f7
    obtain rfl : c8 = .int .i64 u8 := by simpa using e8
    have f8 : DataW.trod enc Try.prog W base sp held n 3 [c9] = ys[8]? := by have := hg 8 _ rfl; simpa [cellsInt, cellsRatio, cells_sl0, cells_sl1, cells_sl2, cells_sl3, cells_sl4, Value.cells] using this
    rw [show ys[8]? = some (ys[8]'(by rw [hyl]; decide)) from List.getElem?_eq_getElem _] at f8
    obtain ⟨u9, e9, _, w9⟩ := DataW.trod_int Try.underlying3 f8
    obtain rfl : c9 = .int .i64 u9 := by simpa using e9
    have f9 : DataW.trod enc Try.prog W base sp held n 3 [c10] = ys[9]? := by have := hg 9 _ rfl; simpa [cellsInt, cellsRatio, cells_sl0, cells_sl1, cells_sl2, cells_sl3, cells_sl4, Value.cells] using this
    rw [show ys[9]? = some (ys[9]'(by rw [hyl]; decide)) from List.getElem?_eq_getElem _] at f9
    obtain ⟨u10, e10, _, w10⟩ := DataW.trod_int Try.underlying3 f9
    obtain rfl : c10 = .int .i64 u10 := by simpa using e10
    have f10 : DataW.trod enc Try.prog W base sp held n 3 [c11] = ys[10]? := by have := hg 10 _ rfl; simpa [cellsInt, cellsRatio, cells_sl0, cells_sl1, cells_sl2, cells_sl3, cells_sl4, Value.cells] using this
    rw [show ys[10]? = some (ys[10]'(by rw [hyl]; decide)) from List.getElem?_eq_getElem _] at f10
    obtain ⟨u11, e11, _, w11⟩ := DataW.trod_int Try.underlying3 f10
    obtain rfl : c11 = .int .i64 u11 := by simpa using e11
    have f11 : DataW.trod enc Try.prog W base sp held n 3 [c12] = ys[11]? := by have := hg 11 _ rfl; simpa [cellsInt, cellsRatio, cells_sl0, cells_sl1, cells_sl2, cells_sl3, cells_sl4, Value.cells] using this
    rw [show ys[11]? = some (ys[11]'(by rw [hyl]; decide)) from List.getElem?_eq_getElem _] at f11
    obtain ⟨u12, e12, _, w12⟩ := DataW.trod_int Try.underlying3 f11
    obtain rfl : c12 = .int .i64 u12 := by simpa using e12
    have f12 : DataW.trod enc Try.prog W base sp held n 3 [c13] = ys[12]? := by have := hg 12 _ rfl; simpa [cellsInt, cellsRatio, cells_sl0, cells_sl1, cells_sl2, cells_sl3, cells_sl4, Value.cells] using this
    rw [show ys[12]? = some (ys[12]'(by rw [hyl]; decide)) from List.getElem?_eq_getElem _] at f12
    obtain ⟨u13, e13, _, w13⟩ := DataW.trod_int Try.underlying3 f12
    obtain rfl : c13 = .int .i64 u13 := by simpa using e13
    have f13 : DataW.trod enc Try.prog W base sp held n 3 [c14] = ys[13]? := by have := hg 13 _ rfl; simpa [cellsInt, cellsRatio, cells_sl0, cells_sl1, cells_sl2, cells_sl3, cells_sl4, Value.cells] using this
    rw [show ys[13]? = some (ys[13]'(by rw [hyl]; decide)) from List.getElem?_eq_getElem _] at f13
    obtain ⟨u14, e14, _, w14⟩ := DataW.trod_int Try.underlying3 f13
    obtain rfl : c14 = .int .i64 u14 := by simpa using e14
    have f14 : DataW.trod enc Try.prog W base sp held n 3 [c15] = ys[14]? := by have := hg 14 _ rfl; simpa [cellsInt, cellsRatio, cells_sl0, cells_sl1, cells_sl2, cells_sl3, cells_sl4, Value.cells] using this
    rw [show ys[14]? = some (ys[14]'(by rw [hyl]; decide)) from List.getElem?_eq_getElem _] at f14
    obtain ⟨u15, e15, _, w15⟩ := DataW.trod_int Try.underlying3 f14
    obtain rfl : c15 = .int .i64 u15 := by simpa using e15
    have f15 : DataW.trod enc Try.prog W base sp held n 3 [c16] = ys[15]? := by have := hg 15 _ rfl; simpa [cellsInt, cellsRatio, cells_sl0, cells_sl1, cells_sl2, cells_sl3, cells_sl4, Value.cells] using this
    rw [show ys[15]? = some (ys[15]'(by rw [hyl]; decide)) from List.getElem?_eq_getElem _] at f15
    obtain ⟨u16, e16, _, w16⟩ := DataW.trod_int Try.underlying3 f15
    obtain rfl : c16 = .int .i64 u16 := by simpa using e16
    have f16 : DataW.trod enc Try.prog W base sp held n 3 [c17] = ys[16]? := by have := hg 16 _ rfl; simpa [cellsInt, cellsRatio, cells_sl0, cells_sl1, cells_sl2, cells_sl3, cells_sl4, Value.cells] using this
    rw [show ys[16]? = some (ys[16]'(by rw [hyl]; decide)) from List.getElem?_eq_getElem _] at f16
    obtain ⟨u17, e17, _, w17⟩ := DataW.trod_int Try.underlying3 f16
    obtain rfl : c17 = .int .i64 u17 := by simpa using e17
    have f17 : DataW.trod enc Try.prog W base sp held n 27 [c18] = ys[17]? := by have := hg 17 _ rfl; simpa [cellsInt, cellsRatio, cells_sl0, cells_sl1, cells_sl2, cells_sl3, cells_sl4, Value.cells] using this
    rw [show ys[17]? = some (ys[17]'(by rw [hyl]; decide)) from List.getElem?_eq_getElem _] at f17
    obtain ⟨a18, l18, k18, rfl⟩ := slice_of Try.underlying27 f17
    obtain ⟨z18, w18⟩ := open_Ints ⟨_, f17⟩
    have f18 : DataW.trod enc Try.prog W base sp held n 3 [c19] = ys[18]? := by have := hg 18 _ rfl; simpa [cellsInt, cellsRatio, cells_sl0, cells_sl1, cells_sl2, cells_sl3, cells_sl4, Value.cells] using this
    rw [show ys[18]? = some (ys[18]'(by rw [hyl]; decide)) from List.getElem?_eq_getElem _] at f18
    obtain ⟨u19, e19, _, w19⟩ := DataW.trod_int Try.underlying3 f18
    obtain rfl : c19 = .int .i64 u19 := by simpa using e19
    have f19 : DataW.trod enc Try.prog W base sp held n 3 [c20] = ys[19]? := by have := hg 19 _ rfl; simpa [cellsInt, cellsRatio, cells_sl0, cells_sl1, cells_sl2, cells_sl3, cells_sl4, Value.cells] using this
    rw [show ys[19]? = some (ys[19]'(by rw [hyl]; decide)) from List.getElem?_eq_getElem _] at f19
    obtain ⟨u20, e20, _, w20⟩ := DataW.trod_int Try.underlying3 f19
    obtain rfl : c20 = .int .i64 u20 := by simpa using e20
    have f20 : DataW.trod enc Try.prog W base sp held n 3 [c21] = ys[20]? := by have := hg 20 _ rfl; simpa [cellsInt, cellsRatio, cells_sl0, cells_sl1, cells_sl2, cells_sl3, cells_sl4, Value.cells] using this
    rw [show ys[20]? = some (ys[20]'(by rw [hyl]; decide)) from List.getElem?_eq_getElem _] at f20
    obtain ⟨u21, e21, _, w21⟩ := DataW.trod_int Try.underlying3 f20
    obtain rfl : c21 = .int .i64 u21 := by simpa using e21
    have f21 : DataW.trod enc Try.prog W base sp held n 28 [c22] = ys[21]? := by have := hg 21 _ rfl; simpa [cellsInt, cellsRatio, cells_sl0, cells_sl1, cells_sl2, cells_sl3, cells_sl4, Value.cells] using this
    rw [show ys[21]? = some (ys[21]'(by rw [hyl]; decide)) from List.getElem?_eq_getElem _] at f21
    obtain ⟨a22, l22, k22, rfl⟩ := slice_of Try.underlying28 f21
    obtain ⟨z22, w22⟩ := open_Tiers ⟨_, f21⟩
    exact ⟨⟨u0, z1, u2, u3, z4, z5, z6, u7, u8, u9, u10, u11, u12, u13, u14, u15, u16, u17, z18, u19, u20, u21, z22⟩, ⟨a1, l1, k1, a4, l4, k4, a5, l5, k5, a6, l6, k6, a18, l18, k18, a22, l22, k22⟩, rfl, ⟨in_i64 w0, in_i64 w2, in_i64 w3, in_i64 w7, in_i64 w8, in_i64 w9, in_i64 w10, in_i64 w11, in_i64 w12, in_i64 w13, in_i64 w14, in_i64 w15, in_i64 w16, in_i64 w17, in_i64 w19, in_i64 w20, in_i64 w21, w1, w4, w5, w6, w18, w22⟩⟩

end Go.Proofs.Ytnjckaifgmliaaa

/- WHAT THE STATEMENTS' FRAMES SHARE: an event that came in. -/

namespace Go.Proofs.Ytnjckaifgmliaaa
open Go.ChangeShapes Go.WideShapes Go.ChangeAt Go.RowKit Go.Joins Go.Deep Lu

theorem cells_Event : Try.prog.cellsOf 47 = 11 := by kernel_rfl
set_option maxRecDepth 100000 in
set_option maxHeartbeats 4000000 in
theorem open_Event {H : Type} {enc : TypeId × Value → H} {W : World} {b0 base : Nat} {sp : Nat → Bool} {held : Bool} {r : Reach} {v : Value} {d : DataW H} {p : List MemPlace}
    (hv : Value.okWide Try.prog W r b0 47 v) (h : DataW.Trod enc Try.prog W base sp held 47 v d p) : ∃ u0 u1 u2 u3 u4 u5 u6 u7 u8 u9 u10 : Int, v = .agg #[.int .i64 u0, .int .i64 u1, .int .i64 u2, .int .i64 u3, .int .i64 u4, .int .i64 u5, .int .i64 u6, .int .i64 u7, .int .i64 u8, .int .i64 u9, .int .i64 u10] ∧ In u0 ∧ In u1 ∧ In u2 ∧ In u3 ∧ In u4 ∧ In u5 ∧ In u6 ∧ In u7 ∧ In u8 ∧ In u9 ∧ In u10 := by
  obtain ⟨cs, rfl, hsz⟩ := okWide_struct Try.underlying47 hv
  obtain ⟨l⟩ := cs
  match l, hsz.trans cells_Event with
  | [c0, c1, c2, c3, c4, c5, c6, c7, c8, c9, c10], _ =>
    obtain ⟨fuel, hf⟩ := h
    obtain ⟨ys, n, _, _, hlen, hyl, hg⟩ := DataW.trod_struct Try.underlying47 hf
    have f0 : DataW.trod enc Try.prog W base sp held n 3 [c0] = ys[0]? := by have := hg 0 _ rfl; simpa [cellsInt, Value.cells] using this
    rw [show ys[0]? = some (ys[0]'(by rw [hyl]; decide)) from List.getElem?_eq_getElem _] at f0
    obtain ⟨u0, e0, _, w0⟩ := DataW.trod_int Try.underlying3 f0
    obtain rfl : c0 = .int .i64 u0 := by simpa using e0
    have f1 : DataW.trod enc Try.prog W base sp held n 3 [c1] = ys[1]? := by have := hg 1 _ rfl; simpa [cellsInt, Value.cells] using this
    rw [show ys[1]? = some (ys[1]'(by rw [hyl]; decide)) from List.getElem?_eq_getElem _] at f1
    obtain ⟨u1, e1, _, w1⟩ := DataW.trod_int Try.underlying3 f1
    obtain rfl : c1 = .int .i64 u1 := by simpa using e1
    have f2 : DataW.trod enc Try.prog W base sp held n 3 [c2] = ys[2]? := by have := hg 2 _ rfl; simpa [cellsInt, Value.cells] using this
    rw [show ys[2]? = some (ys[2]'(by rw [hyl]; decide)) from List.getElem?_eq_getElem _] at f2
    obtain ⟨u2, e2, _, w2⟩ := DataW.trod_int Try.underlying3 f2
    obtain rfl : c2 = .int .i64 u2 := by simpa using e2
    have f3 : DataW.trod enc Try.prog W base sp held n 3 [c3] = ys[3]? := by have := hg 3 _ rfl; simpa [cellsInt, Value.cells] using this
    rw [show ys[3]? = some (ys[3]'(by rw [hyl]; decide)) from List.getElem?_eq_getElem _] at f3
    obtain ⟨u3, e3, _, w3⟩ := DataW.trod_int Try.underlying3 f3
    obtain rfl : c3 = .int .i64 u3 := by simpa using e3
    have f4 : DataW.trod enc Try.prog W base sp held n 3 [c4] = ys[4]? := by have := hg 4 _ rfl; simpa [cellsInt, Value.cells] using this
    rw [show ys[4]? = some (ys[4]'(by rw [hyl]; decide)) from List.getElem?_eq_getElem _] at f4
    obtain ⟨u4, e4, _, w4⟩ := DataW.trod_int Try.underlying3 f4
    obtain rfl : c4 = .int .i64 u4 := by simpa using e4
    have f5 : DataW.trod enc Try.prog W base sp held n 3 [c5] = ys[5]? := by have := hg 5 _ rfl; simpa [cellsInt, Value.cells] using this
    rw [show ys[5]? = some (ys[5]'(by rw [hyl]; decide)) from List.getElem?_eq_getElem _] at f5
    obtain ⟨u5, e5, _, w5⟩ := DataW.trod_int Try.underlying3 f5
    obtain rfl : c5 = .int .i64 u5 := by simpa using e5
    have f6 : DataW.trod enc Try.prog W base sp held n 3 [c6] = ys[6]? := by have := hg 6 _ rfl; simpa [cellsInt, Value.cells] using this
    rw [show ys[6]? = some (ys[6]'(by rw [hyl]; decide)) from List.getElem?_eq_getElem _] at f6
    obtain ⟨u6, e6, _, w6⟩ := DataW.trod_int Try.underlying3 f6
    obtain rfl : c6 = .int .i64 u6 := by simpa using e6
    have f7 : DataW.trod enc Try.prog W base sp held n 3 [c7] = ys[7]? := by have := hg 7 _ rfl; simpa [cellsInt, Value.cells] using this
    rw [show ys[7]? = some (ys[7]'(by rw [hyl]; decide)) from List.getElem?_eq_getElem _] at f7
    obtain ⟨u7, e7, _, w7⟩ := DataW.trod_int Try.underlying3 f7
    obtain rfl : c7 = .int .i64 u7 := by simpa using e7
    have f8 : DataW.trod enc Try.prog W base sp held n 3 [c8] = ys[8]? := by have := hg 8 _ rfl; simpa [cellsInt, Value.cells] using this
    rw [show ys[8]? = some (ys[8]'(by rw [hyl]; decide)) from List.getElem?_eq_getElem _] at f8
    obtain ⟨u8, e8, _, w8⟩ := DataW.trod_int Try.underlying3 f8
    obtain rfl : c8 = .int .i64 u8 := by simpa using e8
    have f9 : DataW.trod enc Try.prog W base sp held n 3 [c9] = ys[9]? := by have := hg 9 _ rfl; simpa [cellsInt, Value.cells] using this
    rw [show ys[9]? = some (ys[9]'(by rw [hyl]; decide)) from List.getElem?_eq_getElem _] at f9
    obtain ⟨u9, e9, _, w9⟩ := DataW.trod_int Try.underlying3 f9
    obtain rfl : c9 = .int .i64 u9 := by simpa using e9
    have f10 : DataW.trod enc Try.prog W base sp held n 3 [c10] = ys[10]? := by have := hg 10 _ rfl; simpa [cellsInt, Value.cells] using this
    rw [show ys[10]? = some (ys[10]'(by rw [hyl]; decide)) from List.getElem?_eq_getElem _] at f10
    obtain ⟨u10, e10, _, w10⟩ := DataW.trod_int Try.underlying3 f10
    obtain rfl : c10 = .int .i64 u10 := by simpa using e10
    exact ⟨u0, u1, u2, u3, u4, u5, u6, u7, u8, u9, u10, rfl, in_i64 w0, in_i64 w1, in_i64 w2, in_i64 w3, in_i64 w4, in_i64 w5, in_i64 w6, in_i64 w7, in_i64 w8, in_i64 w9, in_i64 w10⟩
end Go.Proofs.Ytnjckaifgmliaaa

namespace Go.Proofs.Ytnjckaifgmliaaa.goalTells
open Go.ChangeShapes Go.WideShapes Go.ChangeAt Go.RowKit Lu

set_option maxRecDepth 100000 in
theorem lifted (os : Os) (started : os.Started) (H : Type) (enc : TypeId × Value → H) :
    ReturnsInHanded {} Try.checked os 8 .any (Rows.goalTellsSpec.pre6 enc Try.prog Try.f8 Rows.goalTellsRow.domain false) (Rows.goalTellsSpec.post enc Try.prog Try.f8 false true false false) := by
  refine returnsInHanded_of_change (C := Try.checked) own started (by kernel_rfl) Try.func8
    (ChangeSpec.witness6 (enc := enc) (C := Try.checked) false ⟨#[], #[.agg #[.int .i64 0, .slice none 0 0, .int .i64 0, .int .i64 0, .slice none 0 0, .slice none 0 0, .slice none 0 0, .int .i64 0, .int .i64 0, .int .i64 0, .int .i64 0, .int .i64 0, .int .i64 0, .int .i64 0, .int .i64 0, .int .i64 0, .int .i64 0, .int .i64 0, .slice none 0 0, .int .i64 0, .int .i64 0, .int .i64 0, .slice none 0 0], .agg #[.int .i64 0, .int .i64 0, .int .i64 0, .int .i64 0, .int .i64 0, .int .i64 0, .int .i64 0, .int .i64 0, .int .i64 0, .int .i64 0, .int .i64 0]], []⟩ 8 (by kernel_rfl) (by kernel_rfl) (by kernel_rfl) (by kernel_rfl)) ?_
  intro W base args ds gs before hval0 hW hcnd _
  have hval : ∀ (j : Nat) t v, Try.f8.params[j]? = some t → args[j]? = some v → Value.okWide Try.prog W .any base t v := hval0
  have hW' := hW
  obtain ⟨p, q, hA0, hV, rfl, hfz, hnd⟩ := hW
  have hA : DataW.TrodAll enc Try.prog W 0 (fun _ => true) true Try.f8.params.toList args.toList ds p := hA0
  rw [Try.params8] at hA hval
  obtain ⟨v0, vs0, d0, ds0, p0, q0, hargs, rfl, rfl, h0, r0⟩ := trodAll_cons hA
  obtain ⟨v1, vs1, d1, ds1, p1, q1, rfl, rfl, rfl, h1, r1⟩ := trodAll_cons r0
  obtain ⟨rfl, rfl, rfl⟩ := trodAll_nil r1
  obtain rfl : args = #[v0, v1] := by cases args; simp_all
  obtain ⟨rfl, rfl⟩ := trodVars_none hV
  have k0 := h0
  have lt0 : ∀ x ∈ p0, x.block < W.heap.size := by obtain ⟨m, hm⟩ := k0; exact DataW.trod_lt m _ _ _ hm
  obtain ⟨s0, q0, rfl, w0⟩ := open_Setup (hval 0 30 v0 rfl rfl) h0
  have k1 := h1
  have lt1 : ∀ x ∈ p1, x.block < W.heap.size := by obtain ⟨m, hm⟩ := k1; exact DataW.trod_lt m _ _ _ hm
  obtain ⟨x1_0, x1_1, x1_2, x1_3, x1_4, x1_5, x1_6, x1_7, x1_8, x1_9, x1_10, rfl, y1_0, y1_1, y1_2, y1_3, y1_4, y1_5, y1_6, y1_7, y1_8, y1_9, y1_10⟩ := open_Event (hval 1 47 v1 rfl rfl) h1
  clear hA0 hval0
  refine (goalTells_walk s0 q0 (⟨x1_0, x1_1, x1_2, x1_3, x1_4, x1_5, x1_6, x1_7, x1_8, x1_9, x1_10⟩ : Evt) W w0 ⟨y1_0, y1_1, y1_2, y1_3, y1_4, y1_5, y1_6, y1_7, y1_8, y1_9, y1_10⟩).mono fun e W' ⟨he, bel⟩ => ?_
  subst he
  exact ⟨_, rfl, _, _, _, [], _, [], hW', trodAll_mk1 (shut_bool Try.underlying4 _), (trodAll_cons_mk (Below.trod laidOut (by kernel_rfl) (of_decide_eq_true (by kernel_rfl)) k0 bel lt0) (trodAll_cons_mk (Below.trod laidOut (by kernel_rfl) (of_decide_eq_true (by kernel_rfl)) k1 bel lt1) trodAll_mk0)), rfl, bel.frame _, fun h => by cases h⟩

theorem over : Rows.goalTellsRow.holds Try.pinned (OpenSpec.ofChange Rows.goalTellsSpec) :=
  OpenClaim.holds_of_wide 8 Try.f8 rfl rfl rfl rfl rfl rfl rfl ⟨rfl, rfl, rfl, rfl, rfl⟩ rfl rfl rfl rfl rfl (by kernel_rfl) Try.func8 (by kernel_rfl)
    (of_decide_eq_true (by kernel_rfl)) (by unfold Func.isWrapper; first | (rw [if_pos (by decide +kernel)]; kernel_rfl) | (rw [if_neg (by decide +kernel)]; exact ⟨rfl, rfl⟩))
    (fun os started H enc _ => lifted os started H enc)

/-- THE STATEMENT. -/
theorem proved : Rows.GoalTellsSaid := over
end Go.Proofs.Ytnjckaifgmliaaa.goalTells
