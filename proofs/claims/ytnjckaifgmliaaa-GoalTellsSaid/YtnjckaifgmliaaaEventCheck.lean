/- event.Check: whether an event may be. -/
import Derived.Test.YtnjckaifgmliaaaEventRef
set_option linter.unusedSimpArgs false
set_option linter.unusedVariables false
namespace Go.Proofs.Ytnjckaifgmliaaa
open Go.RowKit Lu

theorem event_iff {s : Setup} {x : Evt} : eventP s x = true ↔ eventE s x := ⟨fun h => of_decide_eq_true h, fun h => decide_eq_true h⟩
theorem below_2 (a b : Int) : belowP [a, b] = decide (a < b) := by simp [belowP]
set_option maxHeartbeats 4000000 in
/-- event.Check. -/
theorem event_Check (s : Setup) (q : Slices) (x : Evt) (r : Bool) (w : World) (h : SetupIs w s q) (hx : EventIs x) (hr : eventP s x = r) : Calls Try.prog 27 #[.agg #[.int .i64 s.places, .slice q.wa q.wl q.wc, .int .i64 s.pn, .int .i64 s.pd, .slice q.ea q.el q.ec, .slice q.ca q.cl q.cc, .slice q.ga q.gl q.gc, .int .i64 s.allow, .int .i64 s.unit, .int .i64 s.cap, .int .i64 s.paidBreak, .int .i64 s.autoAfter, .int .i64 s.autoBreak, .int .i64 s.dayReg, .int .i64 s.dayOver, .int .i64 s.weekReg, .int .i64 s.nightFrom, .int .i64 s.nightTo, .slice q.ra q.rl q.rc, .int .i64 s.diff, .int .i64 s.least, .int .i64 s.fault, .slice q.ta q.tl q.tc], .agg #[.int .i64 x.id, .int .i64 x.worker, .int .i64 x.at', .int .i64 x.kind, .int .i64 x.from', .int .i64 x.to', .int .i64 x.element, .int .i64 x.units, .int .i64 x.class', .int .i64 x.gear, .int .i64 x.code]] w fun e w' => e = .returned (.bool r) ∧ Below w.heap.size w w' := by
  have HR := Lib.hid hr
  clear hr
  have lr := h.rates.1
  have le := h.elements.1
  have lc := h.classes.1
  have lg := h.gears.1
  have hb : ((w.alloc (.cells #[.int .i64 s.places, .slice q.wa q.wl q.wc, .int .i64 s.pn, .int .i64 s.pd, .slice q.ea q.el q.ec, .slice q.ca q.cl q.cc, .slice q.ga q.gl q.gc, .int .i64 s.allow, .int .i64 s.unit, .int .i64 s.cap, .int .i64 s.paidBreak, .int .i64 s.autoAfter, .int .i64 s.autoBreak, .int .i64 s.dayReg, .int .i64 s.dayOver, .int .i64 s.weekReg, .int .i64 s.nightFrom, .int .i64 s.nightTo, .slice q.ra q.rl q.rc, .int .i64 s.diff, .int .i64 s.least, .int .i64 s.fault, .slice q.ta q.tl q.tc] 30)).alloc (.cells #[.int .i64 x.id, .int .i64 x.worker, .int .i64 x.at', .int .i64 x.kind, .int .i64 x.from', .int .i64 x.to', .int .i64 x.element, .int .i64 x.units, .int .i64 x.class', .int .i64 x.gear, .int .i64 x.code] 47)).heap[w.heap.size + 1]? = some (.cells #[.int .i64 x.id, .int .i64 x.worker, .int .i64 x.at', .int .i64 x.kind, .int .i64 x.from', .int .i64 x.to', .int .i64 x.element, .int .i64 x.units, .int .i64 x.class', .int .i64 x.gear, .int .i64 x.code] 47) := box_new _ _ (by simp) _ _
  have hs : ((w.alloc (.cells #[.int .i64 s.places, .slice q.wa q.wl q.wc, .int .i64 s.pn, .int .i64 s.pd, .slice q.ea q.el q.ec, .slice q.ca q.cl q.cc, .slice q.ga q.gl q.gc, .int .i64 s.allow, .int .i64 s.unit, .int .i64 s.cap, .int .i64 s.paidBreak, .int .i64 s.autoAfter, .int .i64 s.autoBreak, .int .i64 s.dayReg, .int .i64 s.dayOver, .int .i64 s.weekReg, .int .i64 s.nightFrom, .int .i64 s.nightTo, .slice q.ra q.rl q.rc, .int .i64 s.diff, .int .i64 s.least, .int .i64 s.fault, .slice q.ta q.tl q.tc] 30)).alloc (.cells #[.int .i64 x.id, .int .i64 x.worker, .int .i64 x.at', .int .i64 x.kind, .int .i64 x.from', .int .i64 x.to', .int .i64 x.element, .int .i64 x.units, .int .i64 x.class', .int .i64 x.gear, .int .i64 x.code] 47)).heap[w.heap.size]? = some (.cells #[.int .i64 s.places, .slice q.wa q.wl q.wc, .int .i64 s.pn, .int .i64 s.pd, .slice q.ea q.el q.ec, .slice q.ca q.cl q.cc, .slice q.ga q.gl q.gc, .int .i64 s.allow, .int .i64 s.unit, .int .i64 s.cap, .int .i64 s.paidBreak, .int .i64 s.autoAfter, .int .i64 s.autoBreak, .int .i64 s.dayReg, .int .i64 s.dayOver, .int .i64 s.weekReg, .int .i64 s.nightFrom, .int .i64 s.nightTo, .slice q.ra q.rl q.rc, .int .i64 s.diff, .int .i64 s.least, .int .i64 s.fault, .slice q.ta q.tl q.tc] 30) := box_keep (B := w.heap.size + 1) (by go_grown) (box_new w _ rfl _ _) (by omega)
  have B0 : Below w.heap.size w ((w.alloc (.cells #[.int .i64 s.places, .slice q.wa q.wl q.wc, .int .i64 s.pn, .int .i64 s.pd, .slice q.ea q.el q.ec, .slice q.ca q.cl q.cc, .slice q.ga q.gl q.gc, .int .i64 s.allow, .int .i64 s.unit, .int .i64 s.cap, .int .i64 s.paidBreak, .int .i64 s.autoAfter, .int .i64 s.autoBreak, .int .i64 s.dayReg, .int .i64 s.dayOver, .int .i64 s.weekReg, .int .i64 s.nightFrom, .int .i64 s.nightTo, .slice q.ra q.rl q.rc, .int .i64 s.diff, .int .i64 s.least, .int .i64 s.fault, .slice q.ta q.tl q.tc] 30)).alloc (.cells #[.int .i64 x.id, .int .i64 x.worker, .int .i64 x.at', .int .i64 x.kind, .int .i64 x.from', .int .i64 x.to', .int .i64 x.element, .int .i64 x.units, .int .i64 x.class', .int .i64 x.gear, .int .i64 x.code] 47)) := by go_grown
  have mr : (q.rl : Int) ≤ 9223372036854775807 := h.rates.2.1
  have me : (q.el : Int) ≤ 9223372036854775807 := h.elements.2.1
  have mc : (q.cl : Int) ≤ 9223372036854775807 := h.classes.2.1
  have mg : (q.gl : Int) ≤ 9223372036854775807 := h.gears.2.1
  obtain ⟨f, hf⟩ : ∃ f, fairP x = f := ⟨_, rfl⟩
  have HFP := Lib.hid hf
  clear hf
  go_enter Try.func27, Try.ntmps27
  go_wp2_with (refine wpList_load_box 47 (.tmp 3) rfl rfl (w.heap.size + 1) rfl 47 #[.int .i64 x.id, .int .i64 x.worker, .int .i64 x.at', .int .i64 x.kind, .int .i64 x.from', .int .i64 x.to', .int .i64 x.element, .int .i64 x.units, .int .i64 x.class', .int .i64 x.gear, .int .i64 x.code] hb event_big ?_)
  refine (event_fair x f _ hx HFP.out).mono ?_
  rintro e1 w1 ⟨rfl, k1⟩
  replace B0 := B0.trans (k1.mono (by simp; omega))
  replace hb := box_keep k1 hb (by simp)
  replace hs := box_keep k1 hs (by simp; omega)
  clear k1
  have c1 : w1.cell? ⟨w.heap.size + 1, 1, none⟩ = some (.int .i64 x.worker) := by simp [World.cell?, hb]
  have c3 : w1.cell? ⟨w.heap.size + 1, 3, none⟩ = some (.int .i64 x.kind) := by simp [World.cell?, hb]
  have c4 : w1.cell? ⟨w.heap.size + 1, 4, none⟩ = some (.int .i64 x.from') := by simp [World.cell?, hb]
  have c5 : w1.cell? ⟨w.heap.size + 1, 5, none⟩ = some (.int .i64 x.to') := by simp [World.cell?, hb]
  have c6 : w1.cell? ⟨w.heap.size + 1, 6, none⟩ = some (.int .i64 x.element) := by simp [World.cell?, hb]
  have c7 : w1.cell? ⟨w.heap.size + 1, 7, none⟩ = some (.int .i64 x.units) := by simp [World.cell?, hb]
  have c8 : w1.cell? ⟨w.heap.size + 1, 8, none⟩ = some (.int .i64 x.class') := by simp [World.cell?, hb]
  have c9 : w1.cell? ⟨w.heap.size + 1, 9, none⟩ = some (.int .i64 x.gear) := by simp [World.cell?, hb]
  have c10 : w1.cell? ⟨w.heap.size + 1, 10, none⟩ = some (.int .i64 x.code) := by simp [World.cell?, hb]
  have s0 : w1.cell? ⟨w.heap.size, 0, none⟩ = some (.int .i64 s.places) := by simp [World.cell?, hs]
  have s4 : w1.cell? ⟨w.heap.size, 4, none⟩ = some (.slice q.ea q.el q.ec) := by simp [World.cell?, hs]
  have s5 : w1.cell? ⟨w.heap.size, 5, none⟩ = some (.slice q.ca q.cl q.cc) := by simp [World.cell?, hs]
  have s6 : w1.cell? ⟨w.heap.size, 6, none⟩ = some (.slice q.ga q.gl q.gc) := by simp [World.cell?, hs]
  have s18 : w1.cell? ⟨w.heap.size, 18, none⟩ = some (.slice q.ra q.rl q.rc) := by simp [World.cell?, hs]
  have z1 : w.heap.size + 1 < w1.heap.size := (Array.getElem?_eq_some_iff.1 hb).1
  have z0 : w.heap.size < w1.heap.size := Nat.lt_of_succ_lt z1
  cases f
  · obtain rfl : r = false := by rw [← HR.out]; exact event_false (by rintro ⟨z1, z2, z3⟩; exact fair_not HFP.out z1)
    go_wp2_with fail
    go_ret
    exact ⟨rfl, B0⟩
  have HF := Lib.hid (fair_of HFP.out)
  by_cases g : x.worker < (q.rl : Int)
  · go_wp2_with fail
    refine (event_below _ _ _ 1 [x.worker, (q.rl : Int)] true _ (Ints_new _ _ (by simp) _ _ 2 rfl (by intro z hz; simp at hz; rcases hz with rfl | rfl; exact hx.worker; unfold In; omega) (by decide)) rfl (by decide) (by rw [below_2]; simpa using g)).mono ?_
    rintro e2 w2 ⟨rfl, n2, rfl⟩
    by_cases p3 : x.kind = 3
    · have e3 : (x.kind == 3) = true := by rw [beq_iff_eq]; exact p3
      have P3 := Lib.hid p3
      have hB : belowP [x.from', s.places, x.to', s.places, x.element, (q.el : Int), x.class', (q.cl : Int), x.gear, (q.gl : Int), x.units, 10001] = r := by
        have hf := HF.out
        rw [← HR.out, Bool.eq_iff_iff, event_iff]
        unfold eventE
        rw [if_pos p3]
        simp [belowP, hf]
        omega
      have HB := Lib.hid hB
      have hin : ∀ z ∈ [x.from', s.places, x.to', s.places, x.element, (q.el : Int), x.class', (q.cl : Int), x.gear, (q.gl : Int), x.units, 10001], In z := by
        intro z hz
        simp only [List.mem_cons, List.not_mem_nil, or_false] at hz
        rcases hz with rfl | rfl | rfl | rfl | rfl | rfl | rfl | rfl | rfl | rfl | rfl | rfl
        · exact hx.from'
        · exact h.places
        · exact hx.to'
        · exact h.places
        · exact hx.element
        · unfold In; omega
        · exact hx.class'
        · unfold In; omega
        · exact hx.gear
        · unfold In; omega
        · exact hx.units
        · unfold In; omega
      have HIN := Lib.hid hin
      have HB0 := Lib.hid B0
      clear p3 hB hin g
      go_wp2_with fail
      refine (event_below _ _ _ 6 [x.from', s.places, x.to', s.places, x.element, (q.el : Int), x.class', (q.cl : Int), x.gear, (q.gl : Int), x.units, 10001] r _ (Ints_new _ _ (by first | rfl | simp [World.drewN] | (simp; rfl)) _ _ 12 rfl HIN.out (by decide)) rfl (by decide) HB.out).mono ?_
      rintro e3 w3 ⟨rfl, n3, rfl⟩
      go_wp2_with fail
      go_ret
      exact ⟨rfl, below_drewN (((below_drewN (HB0.out.alloc HB0.out.size _) _).alloc (by have := HB0.out.size; (try simp); omega) _)) _⟩
    · have e3 : (x.kind == 3) = false := by rw [beq_eq_false_iff_ne]; exact p3
      have B1 := below_drewN (B0.alloc B0.size (.cells #[.int .i64 x.worker, .int .i64 (q.rl : Int)] 3)) n2
      by_cases p4 : x.kind = 4
      · have e4 : (x.kind == 4) = true := by rw [beq_iff_eq]; exact p4
        by_cases g0 : x.code ≤ 99
        · have d0 : decide (x.code ≤ 99) = true := by simpa using g0
          obtain rfl : r = true := by rw [← HR.out]; exact event_true ⟨HF.out, by omega, by rw [if_neg p3]; omega⟩
          clear g0 p3 p4
          go_wp2_with fail
          go_ret
          exact ⟨rfl, B1⟩
        · have d0 : decide (x.code ≤ 99) = false := by simpa using g0
          obtain rfl : r = false := by rw [← HR.out]; exact event_false (by rintro ⟨z1, z2, z3⟩; rw [if_neg p3] at z3; omega)
          clear g0 p3 p4
          go_wp2_with fail
          go_ret
          exact ⟨rfl, B1⟩
      · have e4 : (x.kind == 4) = false := by rw [beq_eq_false_iff_ne]; exact p4
        obtain rfl : r = true := by
          rw [← HR.out]
          have hf := HF.out
          refine event_true ⟨hf, by omega, ?_⟩
          rw [if_neg p3]
          obtain ⟨y1, y2, y3, y4, y5, y6⟩ := hf
          rw [if_neg p4] at y6
          omega
        clear p3 p4
        go_wp2_with fail
        go_ret
        exact ⟨rfl, B1⟩
  · obtain rfl : r = false := by rw [← HR.out]; exact event_false (by rintro ⟨z1, z2, z3⟩; omega)
    have B1 := fun n2 => below_drewN (B0.alloc B0.size (.cells #[.int .i64 x.worker, .int .i64 (q.rl : Int)] 3)) n2
    go_wp2_with fail
    refine (event_below _ _ _ 1 [x.worker, (q.rl : Int)] false _ (Ints_new _ _ (by simp) _ _ 2 rfl (by intro z hz; simp at hz; rcases hz with rfl | rfl; exact hx.worker; unfold In; omega) (by decide)) rfl (by decide) (by rw [below_2]; simpa using g)).mono ?_
    rintro e2 w2 ⟨rfl, n2, rfl⟩
    go_wp2_with fail
    go_ret
    exact ⟨rfl, B1 n2⟩

end Go.Proofs.Ytnjckaifgmliaaa
