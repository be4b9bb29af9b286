/- THE WALK of way.Dist. -/
import Derived.Test.YtnjckaifgmliaaaWayTable
set_option linter.unusedSimpArgs false
set_option linter.unusedVariables false
namespace Go.Proofs.Ytnjckaifgmliaaa
open Go.RowKit Lu

theorem wayP_parts {P x0 x1 x2 : Int} (h : wayP P (x0, x1, x2) = true) : 0 ≤ x0 ∧ x0 < P ∧ 0 ≤ x1 ∧ x1 < P ∧ ¬ x0 = x1 ∧ 1 ≤ x2 ∧ x2 ≤ 10000 := by
  unfold wayP allP at h
  simp at h
  omega
theorem waysOk {s : Setup} (h : setupP s = true) : ∃ P : Nat, s.places = P ∧ (1 ≤ P ∧ P ≤ 16) ∧ WaysOk P s.ways ∧ s.ways.length ≤ 64 := by
  have hp : placesP s = true := by unfold setupP at h; simp only [Bool.and_eq_true] at h; exact h.1.1.1
  unfold placesP at hp
  simp only [Bool.and_eq_true, decide_eq_true_eq] at hp
  obtain ⟨⟨h1, h2⟩, h3⟩ := hp
  have h1' : 1 ≤ s.places ∧ s.places ≤ 16 := by unfold allP at h1; simpa using h1
  have hall : ∀ x ∈ s.ways, wayP s.places x = true := List.all_eq_true.1 h3
  refine ⟨s.places.toNat, by omega, by omega, ⟨fun x hx => ?_, fun x hx => ?_⟩, h2⟩
  · obtain ⟨x0, x1, x2⟩ := x
    have := wayP_parts (hall _ hx)
    exact ⟨this.2.2.2.2.2.1, this.2.2.2.2.2.2⟩
  · obtain ⟨x0, x1, x2⟩ := x
    have := wayP_parts (hall _ hx)
    simp only
    omega
theorem way_Table (s : Setup) (q : Slices) (w : World) (h : SetupIs w s q) (hc : setupP s = true) :
    Calls Try.prog 67 #[.agg #[.int .i64 s.places, .slice q.wa q.wl q.wc, .int .i64 s.pn, .int .i64 s.pd, .slice q.ea q.el q.ec, .slice q.ca q.cl q.cc, .slice q.ga q.gl q.gc, .int .i64 s.allow, .int .i64 s.unit, .int .i64 s.cap, .int .i64 s.paidBreak, .int .i64 s.autoAfter, .int .i64 s.autoBreak, .int .i64 s.dayReg, .int .i64 s.dayOver, .int .i64 s.weekReg, .int .i64 s.nightFrom, .int .i64 s.nightTo, .slice q.ra q.rl q.rc, .int .i64 s.diff, .int .i64 s.least, .int .i64 s.fault, .slice q.ta q.tl q.tc]] w (TableDone s w) := by
  obtain ⟨P, hPl, hP, hw, _⟩ := waysOk hc
  exact way_Table_yes s q P w h hc hPl hP hw
/-- How far two are. -/
def distP (s : Setup) (a b : Int) : Int := if setupP s = true ∧ (0 ≤ a ∧ a < s.places) ∧ 0 ≤ b ∧ b < s.places then tableP s.places.toNat s.ways a.toNat b.toNat else -1
set_option maxHeartbeats 4000000 in
theorem way_Dist (s : Setup) (q : Slices) (a b r : Int) (w : World) (h : SetupIs w s q) (hr : distP s a b = r) :
    Calls Try.prog 28 #[.agg #[.int .i64 s.places, .slice q.wa q.wl q.wc, .int .i64 s.pn, .int .i64 s.pd, .slice q.ea q.el q.ec, .slice q.ca q.cl q.cc, .slice q.ga q.gl q.gc, .int .i64 s.allow, .int .i64 s.unit, .int .i64 s.cap, .int .i64 s.paidBreak, .int .i64 s.autoAfter, .int .i64 s.autoBreak, .int .i64 s.dayReg, .int .i64 s.dayOver, .int .i64 s.weekReg, .int .i64 s.nightFrom, .int .i64 s.nightTo, .slice q.ra q.rl q.rc, .int .i64 s.diff, .int .i64 s.least, .int .i64 s.fault, .slice q.ta q.tl q.tc], .int .i64 a, .int .i64 b] w fun e w' => e = .returned (.int .i64 r) ∧ Below w.heap.size w w' := by
  unfold distP at hr
  have HR := Lib.hid hr
  clear hr
  have hb : (w.alloc (.cells #[.int .i64 s.places, .slice q.wa q.wl q.wc, .int .i64 s.pn, .int .i64 s.pd, .slice q.ea q.el q.ec, .slice q.ca q.cl q.cc, .slice q.ga q.gl q.gc, .int .i64 s.allow, .int .i64 s.unit, .int .i64 s.cap, .int .i64 s.paidBreak, .int .i64 s.autoAfter, .int .i64 s.autoBreak, .int .i64 s.dayReg, .int .i64 s.dayOver, .int .i64 s.weekReg, .int .i64 s.nightFrom, .int .i64 s.nightTo, .slice q.ra q.rl q.rc, .int .i64 s.diff, .int .i64 s.least, .int .i64 s.fault, .slice q.ta q.tl q.tc] 30)).heap[w.heap.size]? = some (.cells #[.int .i64 s.places, .slice q.wa q.wl q.wc, .int .i64 s.pn, .int .i64 s.pd, .slice q.ea q.el q.ec, .slice q.ca q.cl q.cc, .slice q.ga q.gl q.gc, .int .i64 s.allow, .int .i64 s.unit, .int .i64 s.cap, .int .i64 s.paidBreak, .int .i64 s.autoAfter, .int .i64 s.autoBreak, .int .i64 s.dayReg, .int .i64 s.dayOver, .int .i64 s.weekReg, .int .i64 s.nightFrom, .int .i64 s.nightTo, .slice q.ra q.rl q.rc, .int .i64 s.diff, .int .i64 s.least, .int .i64 s.fault, .slice q.ta q.tl q.tc] 30) := box_new _ _ rfl _ _
  have B0 : Below w.heap.size w (w.alloc (.cells #[.int .i64 s.places, .slice q.wa q.wl q.wc, .int .i64 s.pn, .int .i64 s.pd, .slice q.ea q.el q.ec, .slice q.ca q.cl q.cc, .slice q.ga q.gl q.gc, .int .i64 s.allow, .int .i64 s.unit, .int .i64 s.cap, .int .i64 s.paidBreak, .int .i64 s.autoAfter, .int .i64 s.autoBreak, .int .i64 s.dayReg, .int .i64 s.dayOver, .int .i64 s.weekReg, .int .i64 s.nightFrom, .int .i64 s.nightTo, .slice q.ra q.rl q.rc, .int .i64 s.diff, .int .i64 s.least, .int .i64 s.fault, .slice q.ta q.tl q.tc] 30)) := by go_grown
  by_cases hc : setupP s = true
  · obtain ⟨P, hPl, hP, _, _⟩ := waysOk hc
    have HC := Lib.hid hc
    have HPL := Lib.hid hPl
    clear hc hPl
    go_enter Try.func28, Try.ntmps28
    go_wp2_with (refine wpList_load_box 30 (.tmp 3) rfl rfl w.heap.size rfl 30 #[.int .i64 s.places, .slice q.wa q.wl q.wc, .int .i64 s.pn, .int .i64 s.pd, .slice q.ea q.el q.ec, .slice q.ca q.cl q.cc, .slice q.ga q.gl q.gc, .int .i64 s.allow, .int .i64 s.unit, .int .i64 s.cap, .int .i64 s.paidBreak, .int .i64 s.autoAfter, .int .i64 s.autoBreak, .int .i64 s.dayReg, .int .i64 s.dayOver, .int .i64 s.weekReg, .int .i64 s.nightFrom, .int .i64 s.nightTo, .slice q.ra q.rl q.rc, .int .i64 s.diff, .int .i64 s.least, .int .i64 s.fault, .slice q.ta q.tl q.tc] hb setup_big ?_)
    refine (way_Table s q _ (h.below B0) HC.out).mono ?_
    rintro e w1 ⟨o, base, rb, rfl, ht, ho1, ho2, k1⟩
    have B1 := B0.trans (k1.mono (by simp))
    rw [HPL.out] at ht
    simp only [Int.toNat_natCast] at ht
    have HT := Lib.hid ht
    clear ht k1
    have e0 : s.places.toNat = P := by rw [HPL.out]; simp
    rw [e0]
    have hP0 : (0 : Int) ≤ (P : Int) := by omega
    by_cases c : (0 ≤ a ∧ a < P) ∧ 0 ≤ b ∧ b < P
    · obtain ⟨⟨a0, a1⟩, b0, b1⟩ := c
      obtain ⟨A, rfl⟩ := Int.eq_ofNat_of_zero_le a0
      obtain ⟨B, rfl⟩ := Int.eq_ofNat_of_zero_le b0
      have c1 := HT.out.hdr A (by omega)
      have c2 := HT.out.cell A B (by omega) (by omega)
      have hv : tableP P s.ways A B = r := by rw [← HR.out, if_pos ⟨HC.out, by rw [HPL.out]; omega, by rw [HPL.out]; omega⟩, e0]; simp
      rw [hv] at c2
      clear e0 hv
      go_wp2_with fail
      go_ret
      exact ⟨rfl, B1⟩
    · have hv : r = -1 := by rw [← HR.out, if_neg (by rw [HPL.out]; intro x; exact c x.2)]
      subst hv
      clear e0
      go_wp2_with fail
      all_goals first
        | (go_ret; exact ⟨rfl, B1⟩)
        | exact absurd ⟨⟨by omega, by omega⟩, by omega, by omega⟩ c
        | (exfalso; omega)
  · have hv : r = -1 := by rw [← HR.out, if_neg (by intro x; exact hc x.1)]
    have HC := Lib.hid (Bool.eq_false_iff.2 hc)
    subst hv
    clear hc
    go_enter Try.func28, Try.ntmps28
    go_wp2_with (refine wpList_load_box 30 (.tmp 3) rfl rfl w.heap.size rfl 30 #[.int .i64 s.places, .slice q.wa q.wl q.wc, .int .i64 s.pn, .int .i64 s.pd, .slice q.ea q.el q.ec, .slice q.ca q.cl q.cc, .slice q.ga q.gl q.gc, .int .i64 s.allow, .int .i64 s.unit, .int .i64 s.cap, .int .i64 s.paidBreak, .int .i64 s.autoAfter, .int .i64 s.autoBreak, .int .i64 s.dayReg, .int .i64 s.dayOver, .int .i64 s.weekReg, .int .i64 s.nightFrom, .int .i64 s.nightTo, .slice q.ra q.rl q.rc, .int .i64 s.diff, .int .i64 s.least, .int .i64 s.fault, .slice q.ta q.tl q.tc] hb setup_big ?_)
    refine (way_Table_no s q _ (h.below B0) HC.out).mono ?_
    rintro e w1 ⟨rfl, k1⟩
    have B1 := B0.trans (k1.mono (by simp))
    clear k1
    go_wp2_with fail
    all_goals
      go_ret
      exact ⟨rfl, B1⟩

end Go.Proofs.Ytnjckaifgmliaaa
