/- setup.Check: whether a setup may be. -/
import Derived.Test.YtnjckaifgmliaaaContains2
set_option linter.unusedSimpArgs false
set_option linter.unusedVariables false
namespace Go.Proofs.Ytnjckaifgmliaaa
open Go.RowKit Lu

theorem Ratios_new1 (w : World) (b : Nat) (hb : b = w.heap.size) (x y : Int) (T : TypeId) (h1 : In x) (h2 : In y) :
    Ratios (w.alloc (.cells #[.int .i64 x, .int .i64 y] T)) (some ⟨b, 0, none⟩) 1 [(x, y)] := by
  subst hb
  refine ⟨rfl, by decide, by simp [h1, h2], Or.inr ⟨_, _, rfl, by simp, fun i hi => ?_⟩⟩
  obtain rfl : i = 0 := by omega
  simp [go_sem]
/-- Where a setup's lists lie. -/
structure Slices where
  wa : Option Addr
  wl : Nat
  wc : Nat
  ea : Option Addr
  el : Nat
  ec : Nat
  ca : Option Addr
  cl : Nat
  cc : Nat
  ga : Option Addr
  gl : Nat
  gc : Nat
  ra : Option Addr
  rl : Nat
  rc : Nat
  ta : Option Addr
  tl : Nat
  tc : Nat
/-- A setup's numbers fit, and its lists read as they are. -/
structure SetupIs (w : World) (s : Setup) (q : Slices) : Prop where
  places : In s.places
  pn : In s.pn
  pd : In s.pd
  allow : In s.allow
  unit : In s.unit
  cap : In s.cap
  paidBreak : In s.paidBreak
  autoAfter : In s.autoAfter
  autoBreak : In s.autoBreak
  dayReg : In s.dayReg
  dayOver : In s.dayOver
  weekReg : In s.weekReg
  nightFrom : In s.nightFrom
  nightTo : In s.nightTo
  diff : In s.diff
  least : In s.least
  fault : In s.fault
  ways : Recs3 w q.wa q.wl s.ways
  elements : Recs4 w q.ea q.el s.elements
  classes : Ratios w q.ca q.cl s.classes
  gears : Ratios w q.ga q.gl s.gears
  rates : Ints w q.ra q.rl s.rates
  tiers : Ratios w q.ta q.tl s.tiers
theorem SetupIs.below {w w' : World} {s : Setup} {q : Slices} (h : SetupIs w s q) (k : Below w.heap.size w w') : SetupIs w' s q :=
  ⟨h.places, h.pn, h.pd, h.allow, h.unit, h.cap, h.paidBreak, h.autoAfter, h.autoBreak, h.dayReg, h.dayOver, h.weekReg, h.nightFrom, h.nightTo, h.diff, h.least, h.fault, h.ways.below k, h.elements.below k, h.classes.below k, h.gears.below k, h.rates.below k, h.tiers.below k⟩


set_option maxHeartbeats 4000000 in
/-- setup.places. -/
theorem setup_places (s : Setup) (q : Slices) (r : Bool) (w : World) (h : SetupIs w s q) (hr : placesP s = r) :
    Calls Try.prog 41 #[.agg #[.int .i64 s.places, .slice q.wa q.wl q.wc, .int .i64 s.pn, .int .i64 s.pd, .slice q.ea q.el q.ec, .slice q.ca q.cl q.cc, .slice q.ga q.gl q.gc, .int .i64 s.allow, .int .i64 s.unit, .int .i64 s.cap, .int .i64 s.paidBreak, .int .i64 s.autoAfter, .int .i64 s.autoBreak, .int .i64 s.dayReg, .int .i64 s.dayOver, .int .i64 s.weekReg, .int .i64 s.nightFrom, .int .i64 s.nightTo, .slice q.ra q.rl q.rc, .int .i64 s.diff, .int .i64 s.least, .int .i64 s.fault, .slice q.ta q.tl q.tc]] w fun e w' => e = .returned (.bool r) ∧ Below w.heap.size w w' := by
  by_cases c0 : (allP 1 16 [s.places]) = true
  · by_cases c1 : (decide (s.ways.length ≤ 64)) = true
    · by_cases c2 : (waysP s.places s.ways) = true
      · have hv : placesP s = true := by unfold placesP; rw [c0, c1, c2] <;> rfl
        rw [hv] at hr
        subst hr
        have hP : 1 ≤ s.places ∧ s.places ≤ 16 := by simpa [allP] using c0
        have fc1 : decide ((q.wl : Int) ≤ 64) = true := by have := h.ways.1; simp at c1 ⊢; omega
        have H0 := Lib.hid c0
        have H1 := Lib.hid c1
        have H2 := Lib.hid c2
        clear hv c0 c1 c2
        go_enter Try.func41, Try.ntmps41
        go_wp2_with fail
        refine (setup_all_is 1 16 true _ _ _ [s.places] _ (Ints_new _ _ (by simp) _ _ 1 rfl (by simp [h.places]) (by decide)) H0.out).mono ?_
        rintro e w1 ⟨rfl, k1⟩
        have B1 : Below (w.heap.size + 1) (w.alloc (.cells #[.int .i64 s.places, .slice q.wa q.wl q.wc, .int .i64 s.pn, .int .i64 s.pd, .slice q.ea q.el q.ec, .slice q.ca q.cl q.cc, .slice q.ga q.gl q.gc, .int .i64 s.allow, .int .i64 s.unit, .int .i64 s.cap, .int .i64 s.paidBreak, .int .i64 s.autoAfter, .int .i64 s.autoBreak, .int .i64 s.dayReg, .int .i64 s.dayOver, .int .i64 s.weekReg, .int .i64 s.nightFrom, .int .i64 s.nightTo, .slice q.ra q.rl q.rc, .int .i64 s.diff, .int .i64 s.least, .int .i64 s.fault, .slice q.ta q.tl q.tc] 30)) w1 := (Below.trans (by go_grown) (k1.mono (by first | omega | (simp <;> omega))))
        clear k1
        obtain ⟨hc1, hf1⟩ := old_cells B1
        have z1 : w.heap.size + 1 ≤ w1.heap.size := by have := B1.size; simpa using this
        have Bw1 : Below w.heap.size w w1 := Below.trans (by go_grown) (B1.mono (by omega))
        go_wp2_with fail
        have hcall := contains_way q.wa q.wl q.wc s.ways s.places w.heap.size w1 (h.ways.below Bw1) (by rw [hc1 _ _ (by omega)]; simp [go_sem]) hP
        simp only [H2.out, Bool.not_true, Bool.not_false] at hcall
        refine (hcall).mono ?_
        rintro e w2 ⟨rfl, k2⟩
        have B2 : Below (w.heap.size + 1) (w.alloc (.cells #[.int .i64 s.places, .slice q.wa q.wl q.wc, .int .i64 s.pn, .int .i64 s.pd, .slice q.ea q.el q.ec, .slice q.ca q.cl q.cc, .slice q.ga q.gl q.gc, .int .i64 s.allow, .int .i64 s.unit, .int .i64 s.cap, .int .i64 s.paidBreak, .int .i64 s.autoAfter, .int .i64 s.autoBreak, .int .i64 s.dayReg, .int .i64 s.dayOver, .int .i64 s.weekReg, .int .i64 s.nightFrom, .int .i64 s.nightTo, .slice q.ra q.rl q.rc, .int .i64 s.diff, .int .i64 s.least, .int .i64 s.fault, .slice q.ta q.tl q.tc] 30)) w2 := B1.trans (Below.trans (by go_grown) (k2.mono (by first | omega | (simp <;> omega))))
        clear k2 hc1 hf1 z1
        obtain ⟨hc2, hf2⟩ := old_cells B2
        have z2 : w.heap.size + 1 ≤ w2.heap.size := by have := B2.size; simpa using this
        have Bw2 : Below w.heap.size w w2 := Below.trans (by go_grown) (B2.mono (by omega))
        go_wp2_with fail
        go_ret
        exact ⟨rfl, Bw2⟩
      · replace c2 := Bool.eq_false_iff.2 c2
        have hv : placesP s = false := by unfold placesP; rw [c0, c1, c2] <;> rfl
        rw [hv] at hr
        subst hr
        have hP : 1 ≤ s.places ∧ s.places ≤ 16 := by simpa [allP] using c0
        have fc1 : decide ((q.wl : Int) ≤ 64) = true := by have := h.ways.1; simp at c1 ⊢; omega
        have H0 := Lib.hid c0
        have H1 := Lib.hid c1
        have H2 := Lib.hid c2
        clear hv c0 c1 c2
        go_enter Try.func41, Try.ntmps41
        go_wp2_with fail
        refine (setup_all_is 1 16 true _ _ _ [s.places] _ (Ints_new _ _ (by simp) _ _ 1 rfl (by simp [h.places]) (by decide)) H0.out).mono ?_
        rintro e w1 ⟨rfl, k1⟩
        have B1 : Below (w.heap.size + 1) (w.alloc (.cells #[.int .i64 s.places, .slice q.wa q.wl q.wc, .int .i64 s.pn, .int .i64 s.pd, .slice q.ea q.el q.ec, .slice q.ca q.cl q.cc, .slice q.ga q.gl q.gc, .int .i64 s.allow, .int .i64 s.unit, .int .i64 s.cap, .int .i64 s.paidBreak, .int .i64 s.autoAfter, .int .i64 s.autoBreak, .int .i64 s.dayReg, .int .i64 s.dayOver, .int .i64 s.weekReg, .int .i64 s.nightFrom, .int .i64 s.nightTo, .slice q.ra q.rl q.rc, .int .i64 s.diff, .int .i64 s.least, .int .i64 s.fault, .slice q.ta q.tl q.tc] 30)) w1 := (Below.trans (by go_grown) (k1.mono (by first | omega | (simp <;> omega))))
        clear k1
        obtain ⟨hc1, hf1⟩ := old_cells B1
        have z1 : w.heap.size + 1 ≤ w1.heap.size := by have := B1.size; simpa using this
        have Bw1 : Below w.heap.size w w1 := Below.trans (by go_grown) (B1.mono (by omega))
        go_wp2_with fail
        have hcall := contains_way q.wa q.wl q.wc s.ways s.places w.heap.size w1 (h.ways.below Bw1) (by rw [hc1 _ _ (by omega)]; simp [go_sem]) hP
        simp only [H2.out, Bool.not_true, Bool.not_false] at hcall
        refine (hcall).mono ?_
        rintro e w2 ⟨rfl, k2⟩
        have B2 : Below (w.heap.size + 1) (w.alloc (.cells #[.int .i64 s.places, .slice q.wa q.wl q.wc, .int .i64 s.pn, .int .i64 s.pd, .slice q.ea q.el q.ec, .slice q.ca q.cl q.cc, .slice q.ga q.gl q.gc, .int .i64 s.allow, .int .i64 s.unit, .int .i64 s.cap, .int .i64 s.paidBreak, .int .i64 s.autoAfter, .int .i64 s.autoBreak, .int .i64 s.dayReg, .int .i64 s.dayOver, .int .i64 s.weekReg, .int .i64 s.nightFrom, .int .i64 s.nightTo, .slice q.ra q.rl q.rc, .int .i64 s.diff, .int .i64 s.least, .int .i64 s.fault, .slice q.ta q.tl q.tc] 30)) w2 := B1.trans (Below.trans (by go_grown) (k2.mono (by first | omega | (simp <;> omega))))
        clear k2 hc1 hf1 z1
        obtain ⟨hc2, hf2⟩ := old_cells B2
        have z2 : w.heap.size + 1 ≤ w2.heap.size := by have := B2.size; simpa using this
        have Bw2 : Below w.heap.size w w2 := Below.trans (by go_grown) (B2.mono (by omega))
        go_wp2_with fail
        go_ret
        exact ⟨rfl, Bw2⟩
    · replace c1 := Bool.eq_false_iff.2 c1
      have hv : placesP s = false := by unfold placesP; rw [c0, c1] <;> rfl
      rw [hv] at hr
      subst hr
      have hP : 1 ≤ s.places ∧ s.places ≤ 16 := by simpa [allP] using c0
      have fc1 : decide ((q.wl : Int) ≤ 64) = false := by have := h.ways.1; simp at c1 ⊢; omega
      have H0 := Lib.hid c0
      have H1 := Lib.hid c1
      clear hv c0 c1
      go_enter Try.func41, Try.ntmps41
      go_wp2_with fail
      refine (setup_all_is 1 16 true _ _ _ [s.places] _ (Ints_new _ _ (by simp) _ _ 1 rfl (by simp [h.places]) (by decide)) H0.out).mono ?_
      rintro e w1 ⟨rfl, k1⟩
      have B1 : Below (w.heap.size + 1) (w.alloc (.cells #[.int .i64 s.places, .slice q.wa q.wl q.wc, .int .i64 s.pn, .int .i64 s.pd, .slice q.ea q.el q.ec, .slice q.ca q.cl q.cc, .slice q.ga q.gl q.gc, .int .i64 s.allow, .int .i64 s.unit, .int .i64 s.cap, .int .i64 s.paidBreak, .int .i64 s.autoAfter, .int .i64 s.autoBreak, .int .i64 s.dayReg, .int .i64 s.dayOver, .int .i64 s.weekReg, .int .i64 s.nightFrom, .int .i64 s.nightTo, .slice q.ra q.rl q.rc, .int .i64 s.diff, .int .i64 s.least, .int .i64 s.fault, .slice q.ta q.tl q.tc] 30)) w1 := (Below.trans (by go_grown) (k1.mono (by first | omega | (simp <;> omega))))
      clear k1
      obtain ⟨hc1, hf1⟩ := old_cells B1
      have z1 : w.heap.size + 1 ≤ w1.heap.size := by have := B1.size; simpa using this
      have Bw1 : Below w.heap.size w w1 := Below.trans (by go_grown) (B1.mono (by omega))
      go_wp2_with fail
      go_ret
      exact ⟨rfl, Bw1⟩
  · replace c0 := Bool.eq_false_iff.2 c0
    have hv : placesP s = false := by unfold placesP; rw [c0] <;> rfl
    rw [hv] at hr
    subst hr
    have H0 := Lib.hid c0
    clear hv c0
    go_enter Try.func41, Try.ntmps41
    go_wp2_with fail
    refine (setup_all_is 1 16 false _ _ _ [s.places] _ (Ints_new _ _ (by simp) _ _ 1 rfl (by simp [h.places]) (by decide)) H0.out).mono ?_
    rintro e w1 ⟨rfl, k1⟩
    have B1 : Below (w.heap.size + 1) (w.alloc (.cells #[.int .i64 s.places, .slice q.wa q.wl q.wc, .int .i64 s.pn, .int .i64 s.pd, .slice q.ea q.el q.ec, .slice q.ca q.cl q.cc, .slice q.ga q.gl q.gc, .int .i64 s.allow, .int .i64 s.unit, .int .i64 s.cap, .int .i64 s.paidBreak, .int .i64 s.autoAfter, .int .i64 s.autoBreak, .int .i64 s.dayReg, .int .i64 s.dayOver, .int .i64 s.weekReg, .int .i64 s.nightFrom, .int .i64 s.nightTo, .slice q.ra q.rl q.rc, .int .i64 s.diff, .int .i64 s.least, .int .i64 s.fault, .slice q.ta q.tl q.tc] 30)) w1 := (Below.trans (by go_grown) (k1.mono (by first | omega | (simp <;> omega))))
    clear k1
    obtain ⟨hc1, hf1⟩ := old_cells B1
    have z1 : w.heap.size + 1 ≤ w1.heap.size := by have := B1.size; simpa using this
    have Bw1 : Below w.heap.size w w1 := Below.trans (by go_grown) (B1.mono (by omega))
    go_wp2_with fail
    go_ret
    exact ⟨rfl, Bw1⟩

set_option maxHeartbeats 4000000 in
/-- setup.tables. -/
theorem setup_tables (s : Setup) (q : Slices) (r : Bool) (w : World) (h : SetupIs w s q) (hr : tablesP s = r) :
    Calls Try.prog 42 #[.agg #[.int .i64 s.places, .slice q.wa q.wl q.wc, .int .i64 s.pn, .int .i64 s.pd, .slice q.ea q.el q.ec, .slice q.ca q.cl q.cc, .slice q.ga q.gl q.gc, .int .i64 s.allow, .int .i64 s.unit, .int .i64 s.cap, .int .i64 s.paidBreak, .int .i64 s.autoAfter, .int .i64 s.autoBreak, .int .i64 s.dayReg, .int .i64 s.dayOver, .int .i64 s.weekReg, .int .i64 s.nightFrom, .int .i64 s.nightTo, .slice q.ra q.rl q.rc, .int .i64 s.diff, .int .i64 s.least, .int .i64 s.fault, .slice q.ta q.tl q.tc]] w fun e w' => e = .returned (.bool r) ∧ Below w.heap.size w w' := by
  by_cases c0 : (sharesP [(s.pn, s.pd)]) = true
  · by_cases c1 : (sharesP s.classes) = true
    · by_cases c2 : (sharesP s.gears) = true
      · by_cases c3 : (elementsP s.elements) = true
        · by_cases c4 : (decide (max s.elements.length (max s.classes.length s.gears.length) ≤ 8)) = true
          · have hv : tablesP s = true := by unfold tablesP; rw [c0, c1, c2, c3, c4] <;> rfl
            rw [hv] at hr
            subst hr
            have fc4 : (q.el ≤ 8 ∧ q.cl ≤ 8 ∧ q.gl ≤ 8) := by have h1 := h.elements.1; have h2 := h.classes.1; have h3 := h.gears.1; simp at c4 ⊢; omega
            have H0 := Lib.hid c0
            have H1 := Lib.hid c1
            have H2 := Lib.hid c2
            have H3 := Lib.hid c3
            have H4 := Lib.hid c4
            clear hv c0 c1 c2 c3 c4
            go_enter Try.func42, Try.ntmps42
            go_wp2_with fail
            refine (setup_shares _ _ _ [(s.pn, s.pd)] true _ (Ratios_new1 _ _ (by simp) _ _ _ h.pn h.pd) H0.out).mono ?_
            rintro e w1 ⟨rfl, k1⟩
            have B1 : Below (w.heap.size + 1) (w.alloc (.cells #[.int .i64 s.places, .slice q.wa q.wl q.wc, .int .i64 s.pn, .int .i64 s.pd, .slice q.ea q.el q.ec, .slice q.ca q.cl q.cc, .slice q.ga q.gl q.gc, .int .i64 s.allow, .int .i64 s.unit, .int .i64 s.cap, .int .i64 s.paidBreak, .int .i64 s.autoAfter, .int .i64 s.autoBreak, .int .i64 s.dayReg, .int .i64 s.dayOver, .int .i64 s.weekReg, .int .i64 s.nightFrom, .int .i64 s.nightTo, .slice q.ra q.rl q.rc, .int .i64 s.diff, .int .i64 s.least, .int .i64 s.fault, .slice q.ta q.tl q.tc] 30)) w1 := (Below.trans (by go_grown) (k1.mono (by first | omega | (simp <;> omega))))
            clear k1
            obtain ⟨hc1, hf1⟩ := old_cells B1
            have z1 : w.heap.size + 1 ≤ w1.heap.size := by have := B1.size; simpa using this
            have Bw1 : Below w.heap.size w w1 := Below.trans (by go_grown) (B1.mono (by omega))
            go_wp2_with fail
            refine (setup_shares _ _ _ s.classes true _ (h.classes.below Bw1) H1.out).mono ?_
            rintro e w2 ⟨rfl, k2⟩
            have B2 : Below (w.heap.size + 1) (w.alloc (.cells #[.int .i64 s.places, .slice q.wa q.wl q.wc, .int .i64 s.pn, .int .i64 s.pd, .slice q.ea q.el q.ec, .slice q.ca q.cl q.cc, .slice q.ga q.gl q.gc, .int .i64 s.allow, .int .i64 s.unit, .int .i64 s.cap, .int .i64 s.paidBreak, .int .i64 s.autoAfter, .int .i64 s.autoBreak, .int .i64 s.dayReg, .int .i64 s.dayOver, .int .i64 s.weekReg, .int .i64 s.nightFrom, .int .i64 s.nightTo, .slice q.ra q.rl q.rc, .int .i64 s.diff, .int .i64 s.least, .int .i64 s.fault, .slice q.ta q.tl q.tc] 30)) w2 := B1.trans (Below.trans (by go_grown) (k2.mono (by first | omega | (simp <;> omega))))
            clear k2 hc1 hf1 z1
            obtain ⟨hc2, hf2⟩ := old_cells B2
            have z2 : w.heap.size + 1 ≤ w2.heap.size := by have := B2.size; simpa using this
            have Bw2 : Below w.heap.size w w2 := Below.trans (by go_grown) (B2.mono (by omega))
            go_wp2_with fail
            refine (setup_shares _ _ _ s.gears true _ (h.gears.below Bw2) H2.out).mono ?_
            rintro e w3 ⟨rfl, k3⟩
            have B3 : Below (w.heap.size + 1) (w.alloc (.cells #[.int .i64 s.places, .slice q.wa q.wl q.wc, .int .i64 s.pn, .int .i64 s.pd, .slice q.ea q.el q.ec, .slice q.ca q.cl q.cc, .slice q.ga q.gl q.gc, .int .i64 s.allow, .int .i64 s.unit, .int .i64 s.cap, .int .i64 s.paidBreak, .int .i64 s.autoAfter, .int .i64 s.autoBreak, .int .i64 s.dayReg, .int .i64 s.dayOver, .int .i64 s.weekReg, .int .i64 s.nightFrom, .int .i64 s.nightTo, .slice q.ra q.rl q.rc, .int .i64 s.diff, .int .i64 s.least, .int .i64 s.fault, .slice q.ta q.tl q.tc] 30)) w3 := B2.trans (Below.trans (by go_grown) (k3.mono (by first | omega | (simp <;> omega))))
            clear k3 hc2 hf2 z2
            obtain ⟨hc3, hf3⟩ := old_cells B3
            have z3 : w.heap.size + 1 ≤ w3.heap.size := by have := B3.size; simpa using this
            have Bw3 : Below w.heap.size w w3 := Below.trans (by go_grown) (B3.mono (by omega))
            go_wp2_with fail
            have hcall := contains_element q.ea q.el q.ec s.elements w3 (h.elements.below Bw3)
            simp only [H3.out, Bool.not_true, Bool.not_false] at hcall
            refine (hcall).mono ?_
            rintro e w4 ⟨rfl, k4⟩
            have B4 : Below (w.heap.size + 1) (w.alloc (.cells #[.int .i64 s.places, .slice q.wa q.wl q.wc, .int .i64 s.pn, .int .i64 s.pd, .slice q.ea q.el q.ec, .slice q.ca q.cl q.cc, .slice q.ga q.gl q.gc, .int .i64 s.allow, .int .i64 s.unit, .int .i64 s.cap, .int .i64 s.paidBreak, .int .i64 s.autoAfter, .int .i64 s.autoBreak, .int .i64 s.dayReg, .int .i64 s.dayOver, .int .i64 s.weekReg, .int .i64 s.nightFrom, .int .i64 s.nightTo, .slice q.ra q.rl q.rc, .int .i64 s.diff, .int .i64 s.least, .int .i64 s.fault, .slice q.ta q.tl q.tc] 30)) w4 := B3.trans (Below.trans (by go_grown) (k4.mono (by first | omega | (simp <;> omega))))
            clear k4 hc3 hf3 z3
            obtain ⟨hc4, hf4⟩ := old_cells B4
            have z4 : w.heap.size + 1 ≤ w4.heap.size := by have := B4.size; simpa using this
            have Bw4 : Below w.heap.size w w4 := Below.trans (by go_grown) (B4.mono (by omega))
            go_wp2_with fail
            all_goals (go_ret; refine ⟨?_, Bw4⟩; simp; omega)
          · replace c4 := Bool.eq_false_iff.2 c4
            have hv : tablesP s = false := by unfold tablesP; rw [c0, c1, c2, c3, c4] <;> rfl
            rw [hv] at hr
            subst hr
            have fc4 : ¬ (q.el ≤ 8 ∧ q.cl ≤ 8 ∧ q.gl ≤ 8) := by have h1 := h.elements.1; have h2 := h.classes.1; have h3 := h.gears.1; simp at c4 ⊢; omega
            have H0 := Lib.hid c0
            have H1 := Lib.hid c1
            have H2 := Lib.hid c2
            have H3 := Lib.hid c3
            have H4 := Lib.hid c4
            clear hv c0 c1 c2 c3 c4
            go_enter Try.func42, Try.ntmps42
            go_wp2_with fail
            refine (setup_shares _ _ _ [(s.pn, s.pd)] true _ (Ratios_new1 _ _ (by simp) _ _ _ h.pn h.pd) H0.out).mono ?_
            rintro e w1 ⟨rfl, k1⟩
            have B1 : Below (w.heap.size + 1) (w.alloc (.cells #[.int .i64 s.places, .slice q.wa q.wl q.wc, .int .i64 s.pn, .int .i64 s.pd, .slice q.ea q.el q.ec, .slice q.ca q.cl q.cc, .slice q.ga q.gl q.gc, .int .i64 s.allow, .int .i64 s.unit, .int .i64 s.cap, .int .i64 s.paidBreak, .int .i64 s.autoAfter, .int .i64 s.autoBreak, .int .i64 s.dayReg, .int .i64 s.dayOver, .int .i64 s.weekReg, .int .i64 s.nightFrom, .int .i64 s.nightTo, .slice q.ra q.rl q.rc, .int .i64 s.diff, .int .i64 s.least, .int .i64 s.fault, .slice q.ta q.tl q.tc] 30)) w1 := (Below.trans (by go_grown) (k1.mono (by first | omega | (simp <;> omega))))
            clear k1
            obtain ⟨hc1, hf1⟩ := old_cells B1
            have z1 : w.heap.size + 1 ≤ w1.heap.size := by have := B1.size; simpa using this
            have Bw1 : Below w.heap.size w w1 := Below.trans (by go_grown) (B1.mono (by omega))
            go_wp2_with fail
            refine (setup_shares _ _ _ s.classes true _ (h.classes.below Bw1) H1.out).mono ?_
            rintro e w2 ⟨rfl, k2⟩
            have B2 : Below (w.heap.size + 1) (w.alloc (.cells #[.int .i64 s.places, .slice q.wa q.wl q.wc, .int .i64 s.pn, .int .i64 s.pd, .slice q.ea q.el q.ec, .slice q.ca q.cl q.cc, .slice q.ga q.gl q.gc, .int .i64 s.allow, .int .i64 s.unit, .int .i64 s.cap, .int .i64 s.paidBreak, .int .i64 s.autoAfter, .int .i64 s.autoBreak, .int .i64 s.dayReg, .int .i64 s.dayOver, .int .i64 s.weekReg, .int .i64 s.nightFrom, .int .i64 s.nightTo, .slice q.ra q.rl q.rc, .int .i64 s.diff, .int .i64 s.least, .int .i64 s.fault, .slice q.ta q.tl q.tc] 30)) w2 := B1.trans (Below.trans (by go_grown) (k2.mono (by first | omega | (simp <;> omega))))
            clear k2 hc1 hf1 z1
            obtain ⟨hc2, hf2⟩ := old_cells B2
            have z2 : w.heap.size + 1 ≤ w2.heap.size := by have := B2.size; simpa using this
            have Bw2 : Below w.heap.size w w2 := Below.trans (by go_grown) (B2.mono (by omega))
            go_wp2_with fail
            refine (setup_shares _ _ _ s.gears true _ (h.gears.below Bw2) H2.out).mono ?_
            rintro e w3 ⟨rfl, k3⟩
            have B3 : Below (w.heap.size + 1) (w.alloc (.cells #[.int .i64 s.places, .slice q.wa q.wl q.wc, .int .i64 s.pn, .int .i64 s.pd, .slice q.ea q.el q.ec, .slice q.ca q.cl q.cc, .slice q.ga q.gl q.gc, .int .i64 s.allow, .int .i64 s.unit, .int .i64 s.cap, .int .i64 s.paidBreak, .int .i64 s.autoAfter, .int .i64 s.autoBreak, .int .i64 s.dayReg, .int .i64 s.dayOver, .int .i64 s.weekReg, .int .i64 s.nightFrom, .int .i64 s.nightTo, .slice q.ra q.rl q.rc, .int .i64 s.diff, .int .i64 s.least, .int .i64 s.fault, .slice q.ta q.tl q.tc] 30)) w3 := B2.trans (Below.trans (by go_grown) (k3.mono (by first | omega | (simp <;> omega))))
            clear k3 hc2 hf2 z2
            obtain ⟨hc3, hf3⟩ := old_cells B3
            have z3 : w.heap.size + 1 ≤ w3.heap.size := by have := B3.size; simpa using this
            have Bw3 : Below w.heap.size w w3 := Below.trans (by go_grown) (B3.mono (by omega))
            go_wp2_with fail
            have hcall := contains_element q.ea q.el q.ec s.elements w3 (h.elements.below Bw3)
            simp only [H3.out, Bool.not_true, Bool.not_false] at hcall
            refine (hcall).mono ?_
            rintro e w4 ⟨rfl, k4⟩
            have B4 : Below (w.heap.size + 1) (w.alloc (.cells #[.int .i64 s.places, .slice q.wa q.wl q.wc, .int .i64 s.pn, .int .i64 s.pd, .slice q.ea q.el q.ec, .slice q.ca q.cl q.cc, .slice q.ga q.gl q.gc, .int .i64 s.allow, .int .i64 s.unit, .int .i64 s.cap, .int .i64 s.paidBreak, .int .i64 s.autoAfter, .int .i64 s.autoBreak, .int .i64 s.dayReg, .int .i64 s.dayOver, .int .i64 s.weekReg, .int .i64 s.nightFrom, .int .i64 s.nightTo, .slice q.ra q.rl q.rc, .int .i64 s.diff, .int .i64 s.least, .int .i64 s.fault, .slice q.ta q.tl q.tc] 30)) w4 := B3.trans (Below.trans (by go_grown) (k4.mono (by first | omega | (simp <;> omega))))
            clear k4 hc3 hf3 z3
            obtain ⟨hc4, hf4⟩ := old_cells B4
            have z4 : w.heap.size + 1 ≤ w4.heap.size := by have := B4.size; simpa using this
            have Bw4 : Below w.heap.size w w4 := Below.trans (by go_grown) (B4.mono (by omega))
            go_wp2_with fail
            all_goals (go_ret; refine ⟨?_, Bw4⟩; simp; omega)
        · replace c3 := Bool.eq_false_iff.2 c3
          have hv : tablesP s = false := by unfold tablesP; rw [c0, c1, c2, c3] <;> rfl
          rw [hv] at hr
          subst hr
          have H0 := Lib.hid c0
          have H1 := Lib.hid c1
          have H2 := Lib.hid c2
          have H3 := Lib.hid c3
          clear hv c0 c1 c2 c3
          go_enter Try.func42, Try.ntmps42
          go_wp2_with fail
          refine (setup_shares _ _ _ [(s.pn, s.pd)] true _ (Ratios_new1 _ _ (by simp) _ _ _ h.pn h.pd) H0.out).mono ?_
          rintro e w1 ⟨rfl, k1⟩
          have B1 : Below (w.heap.size + 1) (w.alloc (.cells #[.int .i64 s.places, .slice q.wa q.wl q.wc, .int .i64 s.pn, .int .i64 s.pd, .slice q.ea q.el q.ec, .slice q.ca q.cl q.cc, .slice q.ga q.gl q.gc, .int .i64 s.allow, .int .i64 s.unit, .int .i64 s.cap, .int .i64 s.paidBreak, .int .i64 s.autoAfter, .int .i64 s.autoBreak, .int .i64 s.dayReg, .int .i64 s.dayOver, .int .i64 s.weekReg, .int .i64 s.nightFrom, .int .i64 s.nightTo, .slice q.ra q.rl q.rc, .int .i64 s.diff, .int .i64 s.least, .int .i64 s.fault, .slice q.ta q.tl q.tc] 30)) w1 := (Below.trans (by go_grown) (k1.mono (by first | omega | (simp <;> omega))))
          clear k1
          obtain ⟨hc1, hf1⟩ := old_cells B1
          have z1 : w.heap.size + 1 ≤ w1.heap.size := by have := B1.size; simpa using this
          have Bw1 : Below w.heap.size w w1 := Below.trans (by go_grown) (B1.mono (by omega))
          go_wp2_with fail
          refine (setup_shares _ _ _ s.classes true _ (h.classes.below Bw1) H1.out).mono ?_
          rintro e w2 ⟨rfl, k2⟩
          have B2 : Below (w.heap.size + 1) (w.alloc (.cells #[.int .i64 s.places, .slice q.wa q.wl q.wc, .int .i64 s.pn, .int .i64 s.pd, .slice q.ea q.el q.ec, .slice q.ca q.cl q.cc, .slice q.ga q.gl q.gc, .int .i64 s.allow, .int .i64 s.unit, .int .i64 s.cap, .int .i64 s.paidBreak, .int .i64 s.autoAfter, .int .i64 s.autoBreak, .int .i64 s.dayReg, .int .i64 s.dayOver, .int .i64 s.weekReg, .int .i64 s.nightFrom, .int .i64 s.nightTo, .slice q.ra q.rl q.rc, .int .i64 s.diff, .int .i64 s.least, .int .i64 s.fault, .slice q.ta q.tl q.tc] 30)) w2 := B1.trans (Below.trans (by go_grown) (k2.mono (by first | omega | (simp <;> omega))))
          clear k2 hc1 hf1 z1
          obtain ⟨hc2, hf2⟩ := old_cells B2
          have z2 : w.heap.size + 1 ≤ w2.heap.size := by have := B2.size; simpa using this
          have Bw2 : Below w.heap.size w w2 := Below.trans (by go_grown) (B2.mono (by omega))
          go_wp2_with fail
          refine (setup_shares _ _ _ s.gears true _ (h.gears.below Bw2) H2.out).mono ?_
          rintro e w3 ⟨rfl, k3⟩
          have B3 : Below (w.heap.size + 1) (w.alloc (.cells #[.int .i64 s.places, .slice q.wa q.wl q.wc, .int .i64 s.pn, .int .i64 s.pd, .slice q.ea q.el q.ec, .slice q.ca q.cl q.cc, .slice q.ga q.gl q.gc, .int .i64 s.allow, .int .i64 s.unit, .int .i64 s.cap, .int .i64 s.paidBreak, .int .i64 s.autoAfter, .int .i64 s.autoBreak, .int .i64 s.dayReg, .int .i64 s.dayOver, .int .i64 s.weekReg, .int .i64 s.nightFrom, .int .i64 s.nightTo, .slice q.ra q.rl q.rc, .int .i64 s.diff, .int .i64 s.least, .int .i64 s.fault, .slice q.ta q.tl q.tc] 30)) w3 := B2.trans (Below.trans (by go_grown) (k3.mono (by first | omega | (simp <;> omega))))
          clear k3 hc2 hf2 z2
          obtain ⟨hc3, hf3⟩ := old_cells B3
          have z3 : w.heap.size + 1 ≤ w3.heap.size := by have := B3.size; simpa using this
          have Bw3 : Below w.heap.size w w3 := Below.trans (by go_grown) (B3.mono (by omega))
          go_wp2_with fail
          have hcall := contains_element q.ea q.el q.ec s.elements w3 (h.elements.below Bw3)
          simp only [H3.out, Bool.not_true, Bool.not_false] at hcall
          refine (hcall).mono ?_
          rintro e w4 ⟨rfl, k4⟩
          have B4 : Below (w.heap.size + 1) (w.alloc (.cells #[.int .i64 s.places, .slice q.wa q.wl q.wc, .int .i64 s.pn, .int .i64 s.pd, .slice q.ea q.el q.ec, .slice q.ca q.cl q.cc, .slice q.ga q.gl q.gc, .int .i64 s.allow, .int .i64 s.unit, .int .i64 s.cap, .int .i64 s.paidBreak, .int .i64 s.autoAfter, .int .i64 s.autoBreak, .int .i64 s.dayReg, .int .i64 s.dayOver, .int .i64 s.weekReg, .int .i64 s.nightFrom, .int .i64 s.nightTo, .slice q.ra q.rl q.rc, .int .i64 s.diff, .int .i64 s.least, .int .i64 s.fault, .slice q.ta q.tl q.tc] 30)) w4 := B3.trans (Below.trans (by go_grown) (k4.mono (by first | omega | (simp <;> omega))))
          clear k4 hc3 hf3 z3
          obtain ⟨hc4, hf4⟩ := old_cells B4
          have z4 : w.heap.size + 1 ≤ w4.heap.size := by have := B4.size; simpa using this
          have Bw4 : Below w.heap.size w w4 := Below.trans (by go_grown) (B4.mono (by omega))
          go_wp2_with fail
          go_ret
          exact ⟨rfl, Bw4⟩
      · replace c2 := Bool.eq_false_iff.2 c2
        have hv : tablesP s = false := by unfold tablesP; rw [c0, c1, c2] <;> rfl
        rw [hv] at hr
        subst hr
        have H0 := Lib.hid c0
        have H1 := Lib.hid c1
        have H2 := Lib.hid c2
        clear hv c0 c1 c2
        go_enter Try.func42, Try.ntmps42
        go_wp2_with fail
        refine (setup_shares _ _ _ [(s.pn, s.pd)] true _ (Ratios_new1 _ _ (by simp) _ _ _ h.pn h.pd) H0.out).mono ?_
        rintro e w1 ⟨rfl, k1⟩
        have B1 : Below (w.heap.size + 1) (w.alloc (.cells #[.int .i64 s.places, .slice q.wa q.wl q.wc, .int .i64 s.pn, .int .i64 s.pd, .slice q.ea q.el q.ec, .slice q.ca q.cl q.cc, .slice q.ga q.gl q.gc, .int .i64 s.allow, .int .i64 s.unit, .int .i64 s.cap, .int .i64 s.paidBreak, .int .i64 s.autoAfter, .int .i64 s.autoBreak, .int .i64 s.dayReg, .int .i64 s.dayOver, .int .i64 s.weekReg, .int .i64 s.nightFrom, .int .i64 s.nightTo, .slice q.ra q.rl q.rc, .int .i64 s.diff, .int .i64 s.least, .int .i64 s.fault, .slice q.ta q.tl q.tc] 30)) w1 := (Below.trans (by go_grown) (k1.mono (by first | omega | (simp <;> omega))))
        clear k1
        obtain ⟨hc1, hf1⟩ := old_cells B1
        have z1 : w.heap.size + 1 ≤ w1.heap.size := by have := B1.size; simpa using this
        have Bw1 : Below w.heap.size w w1 := Below.trans (by go_grown) (B1.mono (by omega))
        go_wp2_with fail
        refine (setup_shares _ _ _ s.classes true _ (h.classes.below Bw1) H1.out).mono ?_
        rintro e w2 ⟨rfl, k2⟩
        have B2 : Below (w.heap.size + 1) (w.alloc (.cells #[.int .i64 s.places, .slice q.wa q.wl q.wc, .int .i64 s.pn, .int .i64 s.pd, .slice q.ea q.el q.ec, .slice q.ca q.cl q.cc, .slice q.ga q.gl q.gc, .int .i64 s.allow, .int .i64 s.unit, .int .i64 s.cap, .int .i64 s.paidBreak, .int .i64 s.autoAfter, .int .i64 s.autoBreak, .int .i64 s.dayReg, .int .i64 s.dayOver, .int .i64 s.weekReg, .int .i64 s.nightFrom, .int .i64 s.nightTo, .slice q.ra q.rl q.rc, .int .i64 s.diff, .int .i64 s.least, .int .i64 s.fault, .slice q.ta q.tl q.tc] 30)) w2 := B1.trans (Below.trans (by go_grown) (k2.mono (by first | omega | (simp <;> omega))))
        clear k2 hc1 hf1 z1
        obtain ⟨hc2, hf2⟩ := old_cells B2
        have z2 : w.heap.size + 1 ≤ w2.heap.size := by have := B2.size; simpa using this
        have Bw2 : Below w.heap.size w w2 := Below.trans (by go_grown) (B2.mono (by omega))
        go_wp2_with fail
        refine (setup_shares _ _ _ s.gears false _ (h.gears.below Bw2) H2.out).mono ?_
        rintro e w3 ⟨rfl, k3⟩
        have B3 : Below (w.heap.size + 1) (w.alloc (.cells #[.int .i64 s.places, .slice q.wa q.wl q.wc, .int .i64 s.pn, .int .i64 s.pd, .slice q.ea q.el q.ec, .slice q.ca q.cl q.cc, .slice q.ga q.gl q.gc, .int .i64 s.allow, .int .i64 s.unit, .int .i64 s.cap, .int .i64 s.paidBreak, .int .i64 s.autoAfter, .int .i64 s.autoBreak, .int .i64 s.dayReg, .int .i64 s.dayOver, .int .i64 s.weekReg, .int .i64 s.nightFrom, .int .i64 s.nightTo, .slice q.ra q.rl q.rc, .int .i64 s.diff, .int .i64 s.least, .int .i64 s.fault, .slice q.ta q.tl q.tc] 30)) w3 := B2.trans (Below.trans (by go_grown) (k3.mono (by first | omega | (simp <;> omega))))
        clear k3 hc2 hf2 z2
        obtain ⟨hc3, hf3⟩ := old_cells B3
        have z3 : w.heap.size + 1 ≤ w3.heap.size := by have := B3.size; simpa using this
        have Bw3 : Below w.heap.size w w3 := Below.trans (by go_grown) (B3.mono (by omega))
        go_wp2_with fail
        go_ret
        exact ⟨rfl, Bw3⟩
    · replace c1 := Bool.eq_false_iff.2 c1
      have hv : tablesP s = false := by unfold tablesP; rw [c0, c1] <;> rfl
      rw [hv] at hr
      subst hr
      have H0 := Lib.hid c0
      have H1 := Lib.hid c1
      clear hv c0 c1
      go_enter Try.func42, Try.ntmps42
      go_wp2_with fail
      refine (setup_shares _ _ _ [(s.pn, s.pd)] true _ (Ratios_new1 _ _ (by simp) _ _ _ h.pn h.pd) H0.out).mono ?_
      rintro e w1 ⟨rfl, k1⟩
      have B1 : Below (w.heap.size + 1) (w.alloc (.cells #[.int .i64 s.places, .slice q.wa q.wl q.wc, .int .i64 s.pn, .int .i64 s.pd, .slice q.ea q.el q.ec, .slice q.ca q.cl q.cc, .slice q.ga q.gl q.gc, .int .i64 s.allow, .int .i64 s.unit, .int .i64 s.cap, .int .i64 s.paidBreak, .int .i64 s.autoAfter, .int .i64 s.autoBreak, .int .i64 s.dayReg, .int .i64 s.dayOver, .int .i64 s.weekReg, .int .i64 s.nightFrom, .int .i64 s.nightTo, .slice q.ra q.rl q.rc, .int .i64 s.diff, .int .i64 s.least, .int .i64 s.fault, .slice q.ta q.tl q.tc] 30)) w1 := (Below.trans (by go_grown) (k1.mono (by first | omega | (simp <;> omega))))
      clear k1
      obtain ⟨hc1, hf1⟩ := old_cells B1
      have z1 : w.heap.size + 1 ≤ w1.heap.size := by have := B1.size; simpa using this
      have Bw1 : Below w.heap.size w w1 := Below.trans (by go_grown) (B1.mono (by omega))
      go_wp2_with fail
      refine (setup_shares _ _ _ s.classes false _ (h.classes.below Bw1) H1.out).mono ?_
      rintro e w2 ⟨rfl, k2⟩
      have B2 : Below (w.heap.size + 1) (w.alloc (.cells #[.int .i64 s.places, .slice q.wa q.wl q.wc, .int .i64 s.pn, .int .i64 s.pd, .slice q.ea q.el q.ec, .slice q.ca q.cl q.cc, .slice q.ga q.gl q.gc, .int .i64 s.allow, .int .i64 s.unit, .int .i64 s.cap, .int .i64 s.paidBreak, .int .i64 s.autoAfter, .int .i64 s.autoBreak, .int .i64 s.dayReg, .int .i64 s.dayOver, .int .i64 s.weekReg, .int .i64 s.nightFrom, .int .i64 s.nightTo, .slice q.ra q.rl q.rc, .int .i64 s.diff, .int .i64 s.least, .int .i64 s.fault, .slice q.ta q.tl q.tc] 30)) w2 := B1.trans (Below.trans (by go_grown) (k2.mono (by first | omega | (simp <;> omega))))
      clear k2 hc1 hf1 z1
      obtain ⟨hc2, hf2⟩ := old_cells B2
      have z2 : w.heap.size + 1 ≤ w2.heap.size := by have := B2.size; simpa using this
      have Bw2 : Below w.heap.size w w2 := Below.trans (by go_grown) (B2.mono (by omega))
      go_wp2_with fail
      go_ret
      exact ⟨rfl, Bw2⟩
  · replace c0 := Bool.eq_false_iff.2 c0
    have hv : tablesP s = false := by unfold tablesP; rw [c0] <;> rfl
    rw [hv] at hr
    subst hr
    have H0 := Lib.hid c0
    clear hv c0
    go_enter Try.func42, Try.ntmps42
    go_wp2_with fail
    refine (setup_shares _ _ _ [(s.pn, s.pd)] false _ (Ratios_new1 _ _ (by simp) _ _ _ h.pn h.pd) H0.out).mono ?_
    rintro e w1 ⟨rfl, k1⟩
    have B1 : Below (w.heap.size + 1) (w.alloc (.cells #[.int .i64 s.places, .slice q.wa q.wl q.wc, .int .i64 s.pn, .int .i64 s.pd, .slice q.ea q.el q.ec, .slice q.ca q.cl q.cc, .slice q.ga q.gl q.gc, .int .i64 s.allow, .int .i64 s.unit, .int .i64 s.cap, .int .i64 s.paidBreak, .int .i64 s.autoAfter, .int .i64 s.autoBreak, .int .i64 s.dayReg, .int .i64 s.dayOver, .int .i64 s.weekReg, .int .i64 s.nightFrom, .int .i64 s.nightTo, .slice q.ra q.rl q.rc, .int .i64 s.diff, .int .i64 s.least, .int .i64 s.fault, .slice q.ta q.tl q.tc] 30)) w1 := (Below.trans (by go_grown) (k1.mono (by first | omega | (simp <;> omega))))
    clear k1
    obtain ⟨hc1, hf1⟩ := old_cells B1
    have z1 : w.heap.size + 1 ≤ w1.heap.size := by have := B1.size; simpa using this
    have Bw1 : Below w.heap.size w w1 := Below.trans (by go_grown) (B1.mono (by omega))
    go_wp2_with fail
    go_ret
    exact ⟨rfl, Bw1⟩
end Go.Proofs.Ytnjckaifgmliaaa
