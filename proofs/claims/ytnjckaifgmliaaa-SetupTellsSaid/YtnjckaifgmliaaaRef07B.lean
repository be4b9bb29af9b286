/- THE WALKS of layer 7's reference (lumperref07), second part: ways, times, money, Check, Few. -/
import Derived.Test.YtnjckaifgmliaaaRef07A
set_option linter.unusedSimpArgs false
set_option linter.unusedVariables false
namespace Go.Proofs.Ytnjckaifgmliaaa
open Go.RowKit Lu

theorem wayP_eq (P x0 x1 x2 : Int) : wayP P (x0, x1, x2) = (decide (0 ≤ x0) && decide (0 ≤ x1) && decide (x0 < P) && decide (x1 < P) && !(x0 == x1) && decide (1 ≤ x2) && decide (x2 ≤ 10000)) := by
  unfold wayP allP
  rw [Bool.eq_iff_iff]
  simp
  omega
theorem waysP_take {P : Int} {rs : List (Int × Int × Int)} {k : Nat} {x0 x1 x2 : Int} (hd : rs.drop k = (x0, x1, x2) :: rs.drop (k + 1)) (h : waysP P rs = waysP P (rs.drop k)) (c : ¬ (x0 < 0 ∨ x1 < 0 ∨ P ≤ x0 ∨ P ≤ x1 ∨ x0 = x1 ∨ x2 < 1 ∨ 10000 < x2)) : waysP P rs = waysP P (rs.drop (k + 1)) := by
  rw [h, hd]
  show (wayP P (x0, x1, x2) && _) = _
  have hv : wayP P (x0, x1, x2) = true := by
    rw [wayP_eq]
    simp only [not_or] at c
    obtain ⟨c1, c2, c3, c4, c5, c6, c7⟩ := c
    simp [c5]
    omega
  rw [hv]
  rfl
theorem waysP_no {P : Int} {rs : List (Int × Int × Int)} {k : Nat} {x0 x1 x2 : Int} (hd : rs.drop k = (x0, x1, x2) :: rs.drop (k + 1)) (h : waysP P rs = waysP P (rs.drop k)) (c : x0 < 0 ∨ x1 < 0 ∨ P ≤ x0 ∨ P ≤ x1 ∨ x0 = x1 ∨ x2 < 1 ∨ 10000 < x2) : waysP P rs = false := by
  rw [h, hd]
  show (wayP P (x0, x1, x2) && _) = _
  have hv : wayP P (x0, x1, x2) = false := by
    rw [wayP_eq]
    rcases c with c | c | c | c | c | c | c
    · rw [decide_eq_false (show ¬ 0 ≤ x0 by omega)]; simp
    · rw [decide_eq_false (show ¬ 0 ≤ x1 by omega)]; simp
    · rw [decide_eq_false (show ¬ x0 < P by omega)]; simp
    · rw [decide_eq_false (show ¬ x1 < P by omega)]; simp
    · rw [c]; simp
    · rw [decide_eq_false (show ¬ 1 ≤ x2 by omega)]; simp
    · rw [decide_eq_false (show ¬ x2 ≤ 10000 by omega)]; simp
  rw [hv]
  rfl
def ways7P (s : Setup) : Bool := waysP s.places s.ways && decide (s.ways.length ≤ 64) && allP 1 16 [s.places]


set_option maxHeartbeats 4000000 in
theorem ref7_ways (s : Setup) (q : Slices) (r : Bool) (w : World) (h : SetupIs w s q) (hr : ways7P s = r) :
    Calls Try.prog 45 #[.agg #[.int .i64 s.places, .slice q.wa q.wl q.wc, .int .i64 s.pn, .int .i64 s.pd, .slice q.ea q.el q.ec, .slice q.ca q.cl q.cc, .slice q.ga q.gl q.gc, .int .i64 s.allow, .int .i64 s.unit, .int .i64 s.cap, .int .i64 s.paidBreak, .int .i64 s.autoAfter, .int .i64 s.autoBreak, .int .i64 s.dayReg, .int .i64 s.dayOver, .int .i64 s.weekReg, .int .i64 s.nightFrom, .int .i64 s.nightTo, .slice q.ra q.rl q.rc, .int .i64 s.diff, .int .i64 s.least, .int .i64 s.fault, .slice q.ta q.tl q.tc]] w fun e w' => e = .returned (.bool r) ∧ Below w.heap.size w w' := by
  obtain ⟨hl, hm, hin, hc⟩ := h.ways
  have HRR := Lib.hid hr
  clear hr
  have hb0 : Below w.heap.size w (w.alloc (.cells #[.int .i64 s.places, .slice q.wa q.wl q.wc, .int .i64 s.pn, .int .i64 s.pd, .slice q.ea q.el q.ec, .slice q.ca q.cl q.cc, .slice q.ga q.gl q.gc, .int .i64 s.allow, .int .i64 s.unit, .int .i64 s.cap, .int .i64 s.paidBreak, .int .i64 s.autoAfter, .int .i64 s.autoBreak, .int .i64 s.dayReg, .int .i64 s.dayOver, .int .i64 s.weekReg, .int .i64 s.nightFrom, .int .i64 s.nightTo, .slice q.ra q.rl q.rc, .int .i64 s.diff, .int .i64 s.least, .int .i64 s.fault, .slice q.ta q.tl q.tc] 30)) := by go_grown
  have cp0 : (w.alloc (.cells #[.int .i64 s.places, .slice q.wa q.wl q.wc, .int .i64 s.pn, .int .i64 s.pd, .slice q.ea q.el q.ec, .slice q.ca q.cl q.cc, .slice q.ga q.gl q.gc, .int .i64 s.allow, .int .i64 s.unit, .int .i64 s.cap, .int .i64 s.paidBreak, .int .i64 s.autoAfter, .int .i64 s.autoBreak, .int .i64 s.dayReg, .int .i64 s.dayOver, .int .i64 s.weekReg, .int .i64 s.nightFrom, .int .i64 s.nightTo, .slice q.ra q.rl q.rc, .int .i64 s.diff, .int .i64 s.least, .int .i64 s.fault, .slice q.ta q.tl q.tc] 30)).cell? ⟨w.heap.size, 0, none⟩ = some (.int .i64 s.places) := by simp [go_sem]
  have cw0 : (w.alloc (.cells #[.int .i64 s.places, .slice q.wa q.wl q.wc, .int .i64 s.pn, .int .i64 s.pd, .slice q.ea q.el q.ec, .slice q.ca q.cl q.cc, .slice q.ga q.gl q.gc, .int .i64 s.allow, .int .i64 s.unit, .int .i64 s.cap, .int .i64 s.paidBreak, .int .i64 s.autoAfter, .int .i64 s.autoBreak, .int .i64 s.dayReg, .int .i64 s.dayOver, .int .i64 s.weekReg, .int .i64 s.nightFrom, .int .i64 s.nightTo, .slice q.ra q.rl q.rc, .int .i64 s.diff, .int .i64 s.least, .int .i64 s.fault, .slice q.ta q.tl q.tc] 30)).cell? ⟨w.heap.size, 1, none⟩ = some (.slice q.wa q.wl q.wc) := by simp [go_sem]
  have hz0 : w.heap.size < (w.alloc (.cells #[.int .i64 s.places, .slice q.wa q.wl q.wc, .int .i64 s.pn, .int .i64 s.pd, .slice q.ea q.el q.ec, .slice q.ca q.cl q.cc, .slice q.ga q.gl q.gc, .int .i64 s.allow, .int .i64 s.unit, .int .i64 s.cap, .int .i64 s.paidBreak, .int .i64 s.autoAfter, .int .i64 s.autoBreak, .int .i64 s.dayReg, .int .i64 s.dayOver, .int .i64 s.weekReg, .int .i64 s.nightFrom, .int .i64 s.nightTo, .slice q.ra q.rl q.rc, .int .i64 s.diff, .int .i64 s.least, .int .i64 s.fault, .slice q.ta q.tl q.tc] 30)).heap.size := by simp
  go_enter Try.func45, Try.ntmps45
  go_wp2_with fail
  generalize (w.alloc (.cells #[.int .i64 s.places, .slice q.wa q.wl q.wc, .int .i64 s.pn, .int .i64 s.pd, .slice q.ea q.el q.ec, .slice q.ca q.cl q.cc, .slice q.ga q.gl q.gc, .int .i64 s.allow, .int .i64 s.unit, .int .i64 s.cap, .int .i64 s.paidBreak, .int .i64 s.autoAfter, .int .i64 s.autoBreak, .int .i64 s.dayReg, .int .i64 s.dayOver, .int .i64 s.weekReg, .int .i64 s.nightFrom, .int .i64 s.nightTo, .slice q.ra q.rl q.rc, .int .i64 s.diff, .int .i64 s.least, .int .i64 s.fault, .slice q.ta q.tl q.tc] 30)) = W at *
  go_loopw [3] (fun i wr => ∃ k : Nat, k ≤ q.wl ∧ i = .int .i64 k ∧ waysP s.places s.ways = waysP s.places (s.ways.drop k) ∧ Below (w.heap.size + 1) W wr) (fun i _ => q.wl - (intOf i).toNat)
  case atStart => exact ⟨0, Nat.zero_le _, rfl, by simp, Below.refl _ _⟩
  case round =>
    obtain ⟨k, hk, rfl, hrest, hb⟩ := hrel
    have HR := Lib.hid hrest
    clear hrest
    have cp : wr.cell? ⟨w.heap.size, 0, none⟩ = some (.int .i64 s.places) := keepC hb cp0 (by simp)
    have cw : wr.cell? ⟨w.heap.size, 1, none⟩ = some (.slice q.wa q.wl q.wc) := keepC hb cw0 (by simp)
    have hbw : Below w.heap.size w wr := hb0.trans (hb.mono (by omega))
    have hzr : w.heap.size < wr.heap.size := by have := hb.size; omega
    clear cp0 cw0
    by_cases hlt : k < q.wl
    · obtain ⟨b, off, hqa, hbl, hcell⟩ := hc.resolve_left (by omega)
      have hx := hin _ (getD_mem_3 (l := s.ways) (k := k) (by omega))
      have hcl := hcell k hlt
      have d0 : wr.cell? ⟨b, off + k * 3, none⟩ = some (.int .i64 (s.ways.getD k (0, 0, 0)).1) := keepC hbw hcl.1 hbl
      have d1 : wr.cell? ⟨b, off + k * 3 + 1, none⟩ = some (.int .i64 (s.ways.getD k (0, 0, 0)).2.1) := keepC hbw hcl.2.1 hbl
      have d2 : wr.cell? ⟨b, off + k * 3 + 2, none⟩ = some (.int .i64 (s.ways.getD k (0, 0, 0)).2.2) := keepC hbw hcl.2.2 hbl
      have hbr : b < wr.heap.size := Nat.lt_of_lt_of_le hbl hbw.size
      have hd := drop_getD_3 (l := s.ways) (k := k) (by omega)
      have HC := Lib.hid hcell
      clear hcell hc hcl
      obtain ⟨x0, x1, x2, hxy⟩ : ∃ x0 x1 x2, s.ways.getD k (0, 0, 0) = (x0, x1, x2) := ⟨_, _, _, rfl⟩
      rw [hxy] at hx d0 d1 d2 hd
      rw [hqa] at cw
      have HX := Lib.hid hxy
      have HD := Lib.hid hd
      have HQ := Lib.hid hqa
      clear hxy hd hqa
      obtain ⟨hx0, hx1, hx2⟩ := hx
      simp only at d0 d1 d2 hx0 hx1 hx2
      by_cases c0 : x0 < 0
      · have HN := Lib.hid (waysP_no HD.out HR.out (Or.inl c0))
        have e0 : decide (x0 < 0) = true := by simp; omega
        clear c0
        go_wp2_with fail
        go_ret
        exact ⟨by rw [← HRR.out]; unfold ways7P; rw [HN.out]; rfl, by go_grown <;> omega⟩
      · have e0 : decide (x0 < 0) = false := by simp; omega
        by_cases c1 : x1 < 0
        · have HN := Lib.hid (waysP_no HD.out HR.out (Or.inr (Or.inl c1)))
          have e1 : decide (x1 < 0) = true := by simp; omega
          clear c0 c1
          go_wp2_with fail
          go_ret
          exact ⟨by rw [← HRR.out]; unfold ways7P; rw [HN.out]; rfl, by go_grown <;> omega⟩
        · have e1 : decide (x1 < 0) = false := by simp; omega
          by_cases c2 : s.places ≤ x0
          · have HN := Lib.hid (waysP_no HD.out HR.out (Or.inr (Or.inr (Or.inl c2))))
            have e2 : decide (s.places ≤ x0) = true := by simp; omega
            clear c0 c1 c2
            go_wp2_with fail
            go_ret
            exact ⟨by rw [← HRR.out]; unfold ways7P; rw [HN.out]; rfl, by go_grown <;> omega⟩
          · have e2 : decide (s.places ≤ x0) = false := by simp; omega
            by_cases c3 : s.places ≤ x1
            · have HN := Lib.hid (waysP_no HD.out HR.out (Or.inr (Or.inr (Or.inr (Or.inl c3)))))
              have e3 : decide (s.places ≤ x1) = true := by simp; omega
              clear c0 c1 c2 c3
              go_wp2_with fail
              go_ret
              exact ⟨by rw [← HRR.out]; unfold ways7P; rw [HN.out]; rfl, by go_grown <;> omega⟩
            · have e3 : decide (s.places ≤ x1) = false := by simp; omega
              by_cases c4 : x0 = x1
              · have HN := Lib.hid (waysP_no HD.out HR.out (Or.inr (Or.inr (Or.inr (Or.inr (Or.inl c4))))))
                have e4 : (x0 == x1) = true := by simp [c4]
                clear c0 c1 c2 c3 c4
                go_wp2_with fail
                go_ret
                exact ⟨by rw [← HRR.out]; unfold ways7P; rw [HN.out]; rfl, by go_grown <;> omega⟩
              · have e4 : (x0 == x1) = false := by simp [c4]
                by_cases c5 : x2 < 1
                · have HN := Lib.hid (waysP_no HD.out HR.out (Or.inr (Or.inr (Or.inr (Or.inr (Or.inr (Or.inl c5)))))))
                  have e5 : decide (x2 < 1) = true := by simp; omega
                  clear c0 c1 c2 c3 c4 c5
                  go_wp2_with fail
                  go_ret
                  exact ⟨by rw [← HRR.out]; unfold ways7P; rw [HN.out]; rfl, by go_grown <;> omega⟩
                · have e5 : decide (x2 < 1) = false := by simp; omega
                  by_cases c6 : 10000 < x2
                  · have HN := Lib.hid (waysP_no HD.out HR.out (Or.inr (Or.inr (Or.inr (Or.inr (Or.inr (Or.inr (c6))))))))
                    have e6 : decide (10000 < x2) = true := by simp; omega
                    clear c0 c1 c2 c3 c4 c5 c6
                    go_wp2_with fail
                    go_ret
                    exact ⟨by rw [← HRR.out]; unfold ways7P; rw [HN.out]; rfl, by go_grown <;> omega⟩
                  · have e6 : decide (10000 < x2) = false := by simp; omega
                    have HN := Lib.hid (waysP_take HD.out HR.out (by simp only [not_or]; exact ⟨c0, c1, c2, c3, c4, c5, c6⟩))
                    clear c0 c1 c2 c3 c4 c5 c6
                    go_wp2_with fail
                    go_roundw
                    case rel => exact ⟨k + 1, by omega, by go_num, HN.out, by go_grown <;> omega⟩
                    case measure => simp [intOf]; omega

    · have hs : waysP s.places s.ways = true := by rw [HR.out, List.drop_of_length_le (by omega)]; rfl
      have HS := Lib.hid hs
      clear hs
      by_cases h64 : q.wl ≤ 64
      · have g0 : decide ((q.wl : Int) ≤ 64) = true := by simp; omega
        obtain ⟨p, hp⟩ : ∃ p, allP 1 16 [s.places] = p := ⟨_, rfl⟩
        have HP := Lib.hid hp
        clear hp
        go_wp2_with fail
        refine (ref7_within_is _ _ _ _ _ HP.out).mono ?_
        rintro e w2 ⟨rfl, rfl⟩
        go_wp2_with fail
        go_ret
        exact ⟨by rw [← HRR.out]; unfold ways7P; rw [HS.out, HP.out, decide_eq_true (show s.ways.length ≤ 64 by omega)]; rfl, hbw⟩
      · have g0 : decide ((q.wl : Int) ≤ 64) = false := by simp; omega
        go_wp2_with fail
        go_ret
        exact ⟨by rw [← HRR.out]; unfold ways7P; rw [decide_eq_false (show ¬ s.ways.length ≤ 64 by omega)]; simp, hbw⟩


theorem allP_one (lo hi n : Int) : allP lo hi [n] = (decide (lo ≤ n) && decide (n ≤ hi)) := by unfold allP; simp
theorem timesP_eq (s : Setup) : timesP s = (allP 0 100 [s.allow] && allP 1 3600 [s.unit] && allP 60 57600 [s.cap] && allP 0 86400 [s.paidBreak] && allP 0 86400 [s.autoAfter] && allP 0 86400 [s.autoBreak] && allP 0 86400 [s.nightFrom] && allP 0 86400 [s.nightTo] && allP 0 86400 [s.fault] && allP 0 s.dayOver [s.dayReg] && decide (s.dayOver ≤ 86400) && allP 0 604800 [s.weekReg]) := by
  unfold timesP allP
  rw [Bool.eq_iff_iff]
  simp
  omega
theorem ret_bool {a b : Bool} (h : a = b) : Ending.returned (.bool a) = .returned (.bool b) := by rw [h]
set_option maxHeartbeats 4000000 in
theorem ref7_times (s : Setup) (q : Slices) (r : Bool) (w : World) (hr : timesP s = r) :
    Calls Try.prog 49 #[.agg #[.int .i64 s.places, .slice q.wa q.wl q.wc, .int .i64 s.pn, .int .i64 s.pd, .slice q.ea q.el q.ec, .slice q.ca q.cl q.cc, .slice q.ga q.gl q.gc, .int .i64 s.allow, .int .i64 s.unit, .int .i64 s.cap, .int .i64 s.paidBreak, .int .i64 s.autoAfter, .int .i64 s.autoBreak, .int .i64 s.dayReg, .int .i64 s.dayOver, .int .i64 s.weekReg, .int .i64 s.nightFrom, .int .i64 s.nightTo, .slice q.ra q.rl q.rc, .int .i64 s.diff, .int .i64 s.least, .int .i64 s.fault, .slice q.ta q.tl q.tc]] w fun e w' => e = .returned (.bool r) ∧ Below w.heap.size w w' := by
  have HRR := Lib.hid hr
  clear hr
  go_enter Try.func49, Try.ntmps49
  go_wp2_with (go_at_call 90; refine (ref7_within _ _ _ _).mono ?_; rintro e w' ⟨rfl, rfl⟩)
  all_goals
    go_ret
    exact ⟨ret_bool (by rw [← HRR.out, timesP_eq]; clear HRR; first | (simp [*]; done) | (simp_all; done) | (simp_all; omega)), by go_grown⟩

end Go.Proofs.Ytnjckaifgmliaaa
