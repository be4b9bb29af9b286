/- the reference's Check, and event.Check's closure: whether an event may be. -/
import Derived.Test.YtnjckaifgmliaaaEventFair
import Derived.Test.YtnjckaifgmliaaaRef07D
set_option linter.unusedSimpArgs false
set_option linter.unusedVariables false
namespace Go.Proofs.Ytnjckaifgmliaaa
open Go.RowKit Lu

/-! ### the closure: pairs, each of which rises -/
def belowP : List Int → Bool
  | a :: b :: l => decide (a < b) && belowP l
  | _ => true
theorem drop_two {zs : List Int} {m : Nat} (h : m + 1 < zs.length) : zs.drop m = zs.getD m 0 :: zs.getD (m + 1) 0 :: zs.drop (m + 2) := by
  rw [List.drop_eq_getElem_cons (by omega), List.drop_eq_getElem_cons (by omega)]
  simp [List.getD_eq_getElem?_getD, List.getElem?_eq_getElem (show m < zs.length by omega), List.getElem?_eq_getElem h]
set_option maxHeartbeats 1000000 in
theorem event_below (A : Option Addr) (len cap n : Nat) (zs : List Int) (r : Bool) (w : World) (h : Ints w A len zs) (he : len = 2 * n) (hn : n ≤ 100) (hr : belowP zs = r) :
    Calls Try.prog 65 #[.slice A len cap] w fun e w' => e = .returned (.bool r) ∧ ∃ n, w' = w.drewN n := by
  obtain ⟨hl, hm, hin, hc⟩ := h
  have HL := Lib.hid hl
  have HIN := Lib.hid hin
  have HC := Lib.hid hc
  have HE := Lib.hid he
  have HR := Lib.hid hr
  have hlen : len ≤ 200 := by omega
  clear hl hin hc he hr
  go_enter Try.func65, Try.ntmps65
  go_wp2_with fail
  go_loopg [2, 3] len (fun gh vr i wr => ∃ m j : Nat, m ≤ len ∧ Hid (m = 2 * j) ∧ gh = len - m ∧ i = .int .i64 m ∧ Hid (belowP (zs.drop m) = r) ∧ ∃ n, wr = w.drewN n)
  case atStart => exact ⟨0, 0, by omega, Lib.hid rfl, by omega, rfl, Lib.hid HR.out, 0, rfl⟩
  case round =>
    obtain ⟨m, j, hm', HM, rfl, rfl, HB, n, rfl⟩ := hrel
    by_cases hlt : m < len
    · have hm1 : m + 1 < len := by have := HM.out; have := HE.out; omega
      obtain ⟨b, off, rfl, hcell⟩ := HC.out.resolve_left (by omega)
      have c1 := hcell m hlt
      have c2 := hcell (m + 1) hm1
      obtain ⟨u, hu⟩ : ∃ u, zs.getD m 0 = u := ⟨_, rfl⟩
      obtain ⟨v, hv⟩ : ∃ v, zs.getD (m + 1) 0 = v := ⟨_, rfl⟩
      have hb := HB.out
      rw [drop_two (by rw [HL.out]; exact hm1), hu, hv] at hb
      rw [hu] at c1
      rw [hv] at c2
      have HB2 := Lib.hid hb
      have hw1 : IntKind.i64.wrap ((m : Int) + 1) = (m : Int) + 1 := IntWalk.i64_in _ (by omega)
      have hm0 : (0 : Int) ≤ (m : Int) := by omega
      have hlt1 : (m : Int) < (len : Int) := by omega
      have hm2 : (0 : Int) ≤ (m : Int) + 1 := by omega
      have hm3 : (m : Int) + 1 < (len : Int) := by omega
      have ht : ((m : Int) + 1).toNat = m + 1 := by omega
      clear hu hv hb hcell
      by_cases huv : u < v
      · have d : decide (v ≤ u) = false := by rw [decide_eq_false_iff_not]; omega
        have hb3 : belowP (zs.drop (m + 2)) = r := by have := HB2.out; simpa [belowP, huv] using this
        have HB3 := Lib.hid hb3
        clear hb3
        go_wp2_with fail
        go_quiet (fail)
        clear hw1 ht
        go_wp2_with fail
        go_roundg (len - (m + 2))
        case measure => omega
        case rel => exact ⟨m + 2, j + 1, by omega, Lib.hid (by have := HM.out; omega), rfl, by go_num, HB3, _, by first | rfl | exact World.drewN_drewN _ _ _⟩
      · have d : decide (v ≤ u) = true := by rw [decide_eq_true_iff]; omega
        obtain rfl : r = false := by have := HB2.out; rw [← this]; simp [belowP, huv]
        go_wp2_with fail
        go_quiet (fail)
        clear hw1 ht
        go_wp2_with fail
        go_ret
        exact ⟨rfl, _, by first | rfl | exact World.drewN_drewN _ _ _⟩
    · obtain rfl : m = len := by omega
      obtain rfl : r = true := by have := HB.out; rw [← this, List.drop_of_length_le (by rw [HL.out]; omega)]; rfl
      go_wp2_with fail
      go_ret
      exact ⟨rfl, n, rfl⟩

def mn7 (a b c d e f g : Int) : Int := min a (min b (min c (min d (min e (min f g)))))
@[go_sem] theorem run_min_int7 {P : Program} (w : World) (ts : Array TypeId) (t : TypeId) (a b c d e f g : Int) : (Builtin.min_ ts t #[.int .i64 a, .int .i64 b, .int .i64 c, .int .i64 d, .int .i64 e, .int .i64 f, .int .i64 g]).run P w = .ok (.int .i64 (mn7 a b c d e f g)) w := by
  have h : ∀ x y : Int, (if y < x then y else x) = min x y := by intro x y; split <;> omega
  simp [Builtin.min_, Builtin.min2, h, mn7]
set_option maxHeartbeats 4000000 in
theorem ref8_fair (x : Evt) (r : Bool) (w : World) (h : EventIs x) (hr : fairP x = r) :
    Calls Try.prog 97 #[.agg #[.int .i64 x.id, .int .i64 x.worker, .int .i64 x.at', .int .i64 x.kind, .int .i64 x.from', .int .i64 x.to', .int .i64 x.element, .int .i64 x.units, .int .i64 x.class', .int .i64 x.gear, .int .i64 x.code]] w fun e w' => e = .returned (.bool r) ∧ Below w.heap.size w w' := by
  have HR := Lib.hid hr
  clear hr
  by_cases g0 : x.id < 0
  · have d0 : (decide (x.id < 0)) = true := by simpa using g0
    obtain rfl : r = false := by rw [← HR.out]; exact fair_false (by rintro ⟨z1, z2, z3, z4, z5, z6⟩; (try unfold mn7 at *); (try split at z5) <;> (try split at z6) <;> omega)
    clear g0
    go_enter Try.func97, Try.ntmps97
    go_wp2_with fail
    go_ret
    exact ⟨rfl, by go_grown⟩
  · have d0 : (decide (x.id < 0)) = false := by simpa using g0
    by_cases g1 : 100000 < x.id
    · have d1 : (decide (100000 < x.id)) = true := by simpa using g1
      obtain rfl : r = false := by rw [← HR.out]; exact fair_false (by rintro ⟨z1, z2, z3, z4, z5, z6⟩; (try unfold mn7 at *); (try split at z5) <;> (try split at z6) <;> omega)
      clear g0 g1
      go_enter Try.func97, Try.ntmps97
      go_wp2_with fail
      go_ret
      exact ⟨rfl, by go_grown⟩
    · have d1 : (decide (100000 < x.id)) = false := by simpa using g1
      by_cases g2 : x.worker < 0
      · have d2 : (decide (x.worker < 0)) = true := by simpa using g2
        obtain rfl : r = false := by rw [← HR.out]; exact fair_false (by rintro ⟨z1, z2, z3, z4, z5, z6⟩; (try unfold mn7 at *); (try split at z5) <;> (try split at z6) <;> omega)
        clear g0 g1 g2
        go_enter Try.func97, Try.ntmps97
        go_wp2_with fail
        go_ret
        exact ⟨rfl, by go_grown⟩
      · have d2 : (decide (x.worker < 0)) = false := by simpa using g2
        by_cases g3 : x.at' < 0
        · have d3 : (decide (x.at' < 0)) = true := by simpa using g3
          obtain rfl : r = false := by rw [← HR.out]; exact fair_false (by rintro ⟨z1, z2, z3, z4, z5, z6⟩; (try unfold mn7 at *); (try split at z5) <;> (try split at z6) <;> omega)
          clear g0 g1 g2 g3
          go_enter Try.func97, Try.ntmps97
          go_wp2_with fail
          go_ret
          exact ⟨rfl, by go_grown⟩
        · have d3 : (decide (x.at' < 0)) = false := by simpa using g3
          by_cases g4 : 31449599 < x.at'
          · have d4 : (decide (31449599 < x.at')) = true := by simpa using g4
            obtain rfl : r = false := by rw [← HR.out]; exact fair_false (by rintro ⟨z1, z2, z3, z4, z5, z6⟩; (try unfold mn7 at *); (try split at z5) <;> (try split at z6) <;> omega)
            clear g0 g1 g2 g3 g4
            go_enter Try.func97, Try.ntmps97
            go_wp2_with fail
            go_ret
            exact ⟨rfl, by go_grown⟩
          · have d4 : (decide (31449599 < x.at')) = false := by simpa using g4
            by_cases g5 : x.kind < 1
            · have d5 : (decide (x.kind < 1)) = true := by simpa using g5
              obtain rfl : r = false := by rw [← HR.out]; exact fair_false (by rintro ⟨z1, z2, z3, z4, z5, z6⟩; (try unfold mn7 at *); (try split at z5) <;> (try split at z6) <;> omega)
              clear g0 g1 g2 g3 g4 g5
              go_enter Try.func97, Try.ntmps97
              go_wp2_with fail
              go_ret
              exact ⟨rfl, by go_grown⟩
            · have d5 : (decide (x.kind < 1)) = false := by simpa using g5
              by_cases g6 : 7 < x.kind
              · have d6 : (decide (7 < x.kind)) = true := by simpa using g6
                obtain rfl : r = false := by rw [← HR.out]; exact fair_false (by rintro ⟨z1, z2, z3, z4, z5, z6⟩; (try unfold mn7 at *); (try split at z5) <;> (try split at z6) <;> omega)
                clear g0 g1 g2 g3 g4 g5 g6
                go_enter Try.func97, Try.ntmps97
                go_wp2_with fail
                go_ret
                exact ⟨rfl, by go_grown⟩
              · have d6 : (decide (7 < x.kind)) = false := by simpa using g6
                by_cases g7 : mn7 x.from' x.to' x.element x.units x.class' x.gear x.code < 0
                · have d7 : (decide (mn7 x.from' x.to' x.element x.units x.class' x.gear x.code < 0)) = true := by simpa using g7
                  obtain rfl : r = false := by rw [← HR.out]; exact fair_false (by rintro ⟨z1, z2, z3, z4, z5, z6⟩; (try unfold mn7 at *); (try split at z5) <;> (try split at z6) <;> omega)
                  clear g0 g1 g2 g3 g4 g5 g6 g7
                  go_enter Try.func97, Try.ntmps97
                  go_wp2_with fail
                  go_ret
                  exact ⟨rfl, by go_grown⟩
                · have d7 : (decide (mn7 x.from' x.to' x.element x.units x.class' x.gear x.code < 0)) = false := by simpa using g7
                  by_cases p3 : x.kind = 3
                  · have e3 : (x.kind == 3) = true := by rw [beq_iff_eq]; exact p3
                    have e4 : (x.kind == 4) = false := by rw [beq_eq_false_iff_ne]; omega
                    by_cases p0 : x.code = 0
                    · have e0 : (x.code == 0) = true := by rw [beq_iff_eq]; exact p0
                      obtain rfl : r = true := by rw [← HR.out]; exact fair_true (by unfold fairE; (unfold mn7 at *); (try unfold mx6 at *); refine ⟨by omega, by omega, by omega, by omega, ?_, ?_⟩ <;> split <;> omega)
                      clear g0 g1 g2 g3 g4 g5 g6 g7 p3 p0
                      go_enter Try.func97, Try.ntmps97
                      go_wp2_with fail
                      go_ret
                      exact ⟨rfl, by go_grown⟩
                    · have e0 : (x.code == 0) = false := by rw [beq_eq_false_iff_ne]; exact p0
                      obtain rfl : r = false := by rw [← HR.out]; exact fair_false (by unfold fairE; (unfold mn7 at *); (try unfold mx6 at *); rintro ⟨z1, z2, z3, z4, z5, z6⟩; split at z5 <;> split at z6 <;> omega)
                      clear g0 g1 g2 g3 g4 g5 g6 g7 p3 p0
                      go_enter Try.func97, Try.ntmps97
                      go_wp2_with fail
                      go_ret
                      exact ⟨rfl, by go_grown⟩
                  · have e3 : (x.kind == 3) = false := by rw [beq_eq_false_iff_ne]; exact p3
                    by_cases pt : mx6 x.from' x.to' x.element x.units x.class' x.gear = 0
                    rotate_left
                    · have et : (mx6 x.from' x.to' x.element x.units x.class' x.gear == 0) = false := by rw [beq_eq_false_iff_ne]; exact pt
                      obtain rfl : r = false := by rw [← HR.out]; exact fair_false (by unfold fairE; (unfold mn7 at *); (try unfold mx6 at *); rintro ⟨z1, z2, z3, z4, z5, z6⟩; split at z5 <;> split at z6 <;> omega)
                      clear g0 g1 g2 g3 g4 g5 g6 g7 p3 pt
                      go_enter Try.func97, Try.ntmps97
                      go_wp2_with fail
                      go_ret
                      exact ⟨rfl, by go_grown⟩
                    · have et : (mx6 x.from' x.to' x.element x.units x.class' x.gear == 0) = true := by rw [beq_iff_eq]; exact pt
                      by_cases p4 : x.kind = 4
                      · have e4 : (x.kind == 4) = true := by rw [beq_iff_eq]; exact p4
                        obtain rfl : r = true := by rw [← HR.out]; exact fair_true (by unfold fairE; (unfold mn7 at *); (try unfold mx6 at *); refine ⟨by omega, by omega, by omega, by omega, ?_, ?_⟩ <;> split <;> omega)
                        clear g0 g1 g2 g3 g4 g5 g6 g7 p3 pt p4
                        go_enter Try.func97, Try.ntmps97
                        go_wp2_with fail
                        go_ret
                        exact ⟨rfl, by go_grown⟩
                      · have e4 : (x.kind == 4) = false := by rw [beq_eq_false_iff_ne]; exact p4
                        by_cases p0 : x.code = 0
                        · have e0 : (x.code == 0) = true := by rw [beq_iff_eq]; exact p0
                          obtain rfl : r = true := by rw [← HR.out]; exact fair_true (by unfold fairE; (unfold mn7 at *); (try unfold mx6 at *); refine ⟨by omega, by omega, by omega, by omega, ?_, ?_⟩ <;> split <;> omega)
                          clear g0 g1 g2 g3 g4 g5 g6 g7 p3 pt p4 p0
                          go_enter Try.func97, Try.ntmps97
                          go_wp2_with fail
                          go_ret
                          exact ⟨rfl, by go_grown⟩
                        · have e0 : (x.code == 0) = false := by rw [beq_eq_false_iff_ne]; exact p0
                          obtain rfl : r = false := by rw [← HR.out]; exact fair_false (by unfold fairE; (unfold mn7 at *); (try unfold mx6 at *); rintro ⟨z1, z2, z3, z4, z5, z6⟩; split at z5 <;> split at z6 <;> omega)
                          clear g0 g1 g2 g3 g4 g5 g6 g7 p3 pt p4 p0
                          go_enter Try.func97, Try.ntmps97
                          go_wp2_with fail
                          go_ret
                          exact ⟨rfl, by go_grown⟩

theorem event_true {s : Setup} {x : Evt} (h : eventE s x) : eventP s x = true := decide_eq_true h
theorem event_false {s : Setup} {x : Evt} (h : ¬ eventE s x) : eventP s x = false := decide_eq_false h
theorem fair_of {x : Evt} (h : fairP x = true) : fairE x := of_decide_eq_true h
theorem fair_not {x : Evt} (h : fairP x = false) : ¬ fairE x := of_decide_eq_false h
set_option maxHeartbeats 4000000 in
theorem ref8_Check (s : Setup) (q : Slices) (x : Evt) (r : Bool) (w : World) (h : SetupIs w s q) (hx : EventIs x) (hr : eventP s x = r) : Calls Try.prog 59 #[.agg #[.int .i64 s.places, .slice q.wa q.wl q.wc, .int .i64 s.pn, .int .i64 s.pd, .slice q.ea q.el q.ec, .slice q.ca q.cl q.cc, .slice q.ga q.gl q.gc, .int .i64 s.allow, .int .i64 s.unit, .int .i64 s.cap, .int .i64 s.paidBreak, .int .i64 s.autoAfter, .int .i64 s.autoBreak, .int .i64 s.dayReg, .int .i64 s.dayOver, .int .i64 s.weekReg, .int .i64 s.nightFrom, .int .i64 s.nightTo, .slice q.ra q.rl q.rc, .int .i64 s.diff, .int .i64 s.least, .int .i64 s.fault, .slice q.ta q.tl q.tc], .agg #[.int .i64 x.id, .int .i64 x.worker, .int .i64 x.at', .int .i64 x.kind, .int .i64 x.from', .int .i64 x.to', .int .i64 x.element, .int .i64 x.units, .int .i64 x.class', .int .i64 x.gear, .int .i64 x.code]] w fun e w' => e = .returned (.bool r) ∧ Below w.heap.size w w' := by
  have HR := Lib.hid hr
  clear hr
  have lr := h.rates.1
  have le := h.elements.1
  have lc := h.classes.1
  have lg := h.gears.1
  have hb : ((w.alloc (.cells #[.int .i64 s.places, .slice q.wa q.wl q.wc, .int .i64 s.pn, .int .i64 s.pd, .slice q.ea q.el q.ec, .slice q.ca q.cl q.cc, .slice q.ga q.gl q.gc, .int .i64 s.allow, .int .i64 s.unit, .int .i64 s.cap, .int .i64 s.paidBreak, .int .i64 s.autoAfter, .int .i64 s.autoBreak, .int .i64 s.dayReg, .int .i64 s.dayOver, .int .i64 s.weekReg, .int .i64 s.nightFrom, .int .i64 s.nightTo, .slice q.ra q.rl q.rc, .int .i64 s.diff, .int .i64 s.least, .int .i64 s.fault, .slice q.ta q.tl q.tc] 30)).alloc (.cells #[.int .i64 x.id, .int .i64 x.worker, .int .i64 x.at', .int .i64 x.kind, .int .i64 x.from', .int .i64 x.to', .int .i64 x.element, .int .i64 x.units, .int .i64 x.class', .int .i64 x.gear, .int .i64 x.code] 47)).heap[w.heap.size + 1]? = some (.cells #[.int .i64 x.id, .int .i64 x.worker, .int .i64 x.at', .int .i64 x.kind, .int .i64 x.from', .int .i64 x.to', .int .i64 x.element, .int .i64 x.units, .int .i64 x.class', .int .i64 x.gear, .int .i64 x.code] 47) := box_new _ _ (by simp) _ _
  have hs : ((w.alloc (.cells #[.int .i64 s.places, .slice q.wa q.wl q.wc, .int .i64 s.pn, .int .i64 s.pd, .slice q.ea q.el q.ec, .slice q.ca q.cl q.cc, .slice q.ga q.gl q.gc, .int .i64 s.allow, .int .i64 s.unit, .int .i64 s.cap, .int .i64 s.paidBreak, .int .i64 s.autoAfter, .int .i64 s.autoBreak, .int .i64 s.dayReg, .int .i64 s.dayOver, .int .i64 s.weekReg, .int .i64 s.nightFrom, .int .i64 s.nightTo, .slice q.ra q.rl q.rc, .int .i64 s.diff, .int .i64 s.least, .int .i64 s.fault, .slice q.ta q.tl q.tc] 30)).alloc (.cells #[.int .i64 x.id, .int .i64 x.worker, .int .i64 x.at', .int .i64 x.kind, .int .i64 x.from', .int .i64 x.to', .int .i64 x.element, .int .i64 x.units, .int .i64 x.class', .int .i64 x.gear, .int .i64 x.code] 47)).heap[w.heap.size]? = some (.cells #[.int .i64 s.places, .slice q.wa q.wl q.wc, .int .i64 s.pn, .int .i64 s.pd, .slice q.ea q.el q.ec, .slice q.ca q.cl q.cc, .slice q.ga q.gl q.gc, .int .i64 s.allow, .int .i64 s.unit, .int .i64 s.cap, .int .i64 s.paidBreak, .int .i64 s.autoAfter, .int .i64 s.autoBreak, .int .i64 s.dayReg, .int .i64 s.dayOver, .int .i64 s.weekReg, .int .i64 s.nightFrom, .int .i64 s.nightTo, .slice q.ra q.rl q.rc, .int .i64 s.diff, .int .i64 s.least, .int .i64 s.fault, .slice q.ta q.tl q.tc] 30) := box_keep (B := w.heap.size + 1) (by go_grown) (box_new w _ rfl _ _) (by omega)
  have B0 : Below w.heap.size w ((w.alloc (.cells #[.int .i64 s.places, .slice q.wa q.wl q.wc, .int .i64 s.pn, .int .i64 s.pd, .slice q.ea q.el q.ec, .slice q.ca q.cl q.cc, .slice q.ga q.gl q.gc, .int .i64 s.allow, .int .i64 s.unit, .int .i64 s.cap, .int .i64 s.paidBreak, .int .i64 s.autoAfter, .int .i64 s.autoBreak, .int .i64 s.dayReg, .int .i64 s.dayOver, .int .i64 s.weekReg, .int .i64 s.nightFrom, .int .i64 s.nightTo, .slice q.ra q.rl q.rc, .int .i64 s.diff, .int .i64 s.least, .int .i64 s.fault, .slice q.ta q.tl q.tc] 30)).alloc (.cells #[.int .i64 x.id, .int .i64 x.worker, .int .i64 x.at', .int .i64 x.kind, .int .i64 x.from', .int .i64 x.to', .int .i64 x.element, .int .i64 x.units, .int .i64 x.class', .int .i64 x.gear, .int .i64 x.code] 47)) := by go_grown
  obtain ⟨f, hf⟩ : ∃ f, fairP x = f := ⟨_, rfl⟩
  have HFP := Lib.hid hf
  clear hf
  go_enter Try.func59, Try.ntmps59
  go_wp2_with (refine wpList_load_box 47 (.tmp 3) rfl rfl (w.heap.size + 1) rfl 47 #[.int .i64 x.id, .int .i64 x.worker, .int .i64 x.at', .int .i64 x.kind, .int .i64 x.from', .int .i64 x.to', .int .i64 x.element, .int .i64 x.units, .int .i64 x.class', .int .i64 x.gear, .int .i64 x.code] hb event_big ?_)
  refine (ref8_fair x f _ hx HFP.out).mono ?_
  rintro e1 w1 ⟨rfl, k1⟩
  replace B0 := B0.trans (k1.mono (by simp; omega))
  replace hb := box_keep k1 hb (by simp)
  replace hs := box_keep k1 hs (by simp; omega)
  clear k1
  have c1 : w1.cell? ⟨w.heap.size + 1, 1, none⟩ = some (.int .i64 x.worker) := by simp [World.cell?, hb]
  have c3 : w1.cell? ⟨w.heap.size + 1, 3, none⟩ = some (.int .i64 x.kind) := by simp [World.cell?, hb]
  have c4 : w1.cell? ⟨w.heap.size + 1, 4, none⟩ = some (.int .i64 x.from') := by simp [World.cell?, hb]
  have c5 : w1.cell? ⟨w.heap.size + 1, 5, none⟩ = some (.int .i64 x.to') := by simp [World.cell?, hb]
  have c6 : w1.cell? ⟨w.heap.size + 1, 6, none⟩ = some (.int .i64 x.element) := by simp [World.cell?, hb]
  have c7 : w1.cell? ⟨w.heap.size + 1, 7, none⟩ = some (.int .i64 x.units) := by simp [World.cell?, hb]
  have c8 : w1.cell? ⟨w.heap.size + 1, 8, none⟩ = some (.int .i64 x.class') := by simp [World.cell?, hb]
  have c9 : w1.cell? ⟨w.heap.size + 1, 9, none⟩ = some (.int .i64 x.gear) := by simp [World.cell?, hb]
  have c10 : w1.cell? ⟨w.heap.size + 1, 10, none⟩ = some (.int .i64 x.code) := by simp [World.cell?, hb]
  have s0 : w1.cell? ⟨w.heap.size, 0, none⟩ = some (.int .i64 s.places) := by simp [World.cell?, hs]
  have s4 : w1.cell? ⟨w.heap.size, 4, none⟩ = some (.slice q.ea q.el q.ec) := by simp [World.cell?, hs]
  have s5 : w1.cell? ⟨w.heap.size, 5, none⟩ = some (.slice q.ca q.cl q.cc) := by simp [World.cell?, hs]
  have s6 : w1.cell? ⟨w.heap.size, 6, none⟩ = some (.slice q.ga q.gl q.gc) := by simp [World.cell?, hs]
  have s18 : w1.cell? ⟨w.heap.size, 18, none⟩ = some (.slice q.ra q.rl q.rc) := by simp [World.cell?, hs]
  clear hb hs
  cases f
  · obtain rfl : r = false := by rw [← HR.out]; exact event_false (by rintro ⟨z1, z2, z3⟩; exact fair_not HFP.out z1)
    go_wp2_with fail
    go_ret
    exact ⟨rfl, B0⟩
  have HF := Lib.hid (fair_of HFP.out)
  by_cases g : x.worker < (q.rl : Int)
  · have dw : decide ((q.rl : Int) ≤ x.worker) = false := by rw [decide_eq_false_iff_not]; omega
    by_cases p3 : x.kind = 3
    · have e3 : (x.kind == 3) = true := by rw [beq_iff_eq]; exact p3
      have P3 := Lib.hid p3
      by_cases g0 : x.from' < s.places
      rotate_left
      · have d0 : (decide (x.from' < s.places)) = false := by simpa using g0
        obtain rfl : r = false := by rw [← HR.out]; exact event_false (by rintro ⟨z1, z2, z3⟩; rw [if_pos p3] at z3; omega)
        clear p3 g0
        go_wp2_with fail
        go_ret
        exact ⟨rfl, B0⟩
      · have d0 : (decide (x.from' < s.places)) = true := by simpa using g0
        by_cases g1 : x.to' < s.places
        rotate_left
        · have d1 : (decide (x.to' < s.places)) = false := by simpa using g1
          obtain rfl : r = false := by rw [← HR.out]; exact event_false (by rintro ⟨z1, z2, z3⟩; rw [if_pos p3] at z3; omega)
          clear p3 g0 g1
          go_wp2_with fail
          go_ret
          exact ⟨rfl, B0⟩
        · have d1 : (decide (x.to' < s.places)) = true := by simpa using g1
          by_cases g2 : x.element < (q.el : Int)
          rotate_left
          · have d2 : (decide (x.element < (q.el : Int))) = false := by simpa using g2
            obtain rfl : r = false := by rw [← HR.out]; exact event_false (by rintro ⟨z1, z2, z3⟩; rw [if_pos p3] at z3; omega)
            clear p3 g0 g1 g2
            go_wp2_with fail
            go_ret
            exact ⟨rfl, B0⟩
          · have d2 : (decide (x.element < (q.el : Int))) = true := by simpa using g2
            by_cases g3 : x.class' < (q.cl : Int)
            rotate_left
            · have d3 : (decide (x.class' < (q.cl : Int))) = false := by simpa using g3
              obtain rfl : r = false := by rw [← HR.out]; exact event_false (by rintro ⟨z1, z2, z3⟩; rw [if_pos p3] at z3; omega)
              clear p3 g0 g1 g2 g3
              go_wp2_with fail
              go_ret
              exact ⟨rfl, B0⟩
            · have d3 : (decide (x.class' < (q.cl : Int))) = true := by simpa using g3
              by_cases g4 : x.gear < (q.gl : Int)
              rotate_left
              · have d4 : (decide (x.gear < (q.gl : Int))) = false := by simpa using g4
                obtain rfl : r = false := by rw [← HR.out]; exact event_false (by rintro ⟨z1, z2, z3⟩; rw [if_pos p3] at z3; omega)
                clear p3 g0 g1 g2 g3 g4
                go_wp2_with fail
                go_ret
                exact ⟨rfl, B0⟩
              · have d4 : (decide (x.gear < (q.gl : Int))) = true := by simpa using g4
                by_cases g5 : x.units ≤ 10000
                rotate_left
                · have d5 : (decide (x.units ≤ 10000)) = false := by simpa using g5
                  obtain rfl : r = false := by rw [← HR.out]; exact event_false (by rintro ⟨z1, z2, z3⟩; rw [if_pos p3] at z3; omega)
                  clear p3 g0 g1 g2 g3 g4 g5
                  go_wp2_with fail
                  go_ret
                  exact ⟨rfl, B0⟩
                · have d5 : (decide (x.units ≤ 10000)) = true := by simpa using g5
                  obtain rfl : r = true := by rw [← HR.out]; exact event_true ⟨HF.out, by omega, by rw [if_pos p3]; omega⟩
                  clear p3 g0 g1 g2 g3 g4 g5
                  go_wp2_with fail
                  go_ret
                  exact ⟨rfl, B0⟩
    · have e3 : (x.kind == 3) = false := by rw [beq_eq_false_iff_ne]; exact p3
      by_cases g0 : x.code ≤ 99
      · have d0 : decide (x.code ≤ 99) = true := by simpa using g0
        obtain rfl : r = true := by rw [← HR.out]; exact event_true ⟨HF.out, by omega, by rw [if_neg p3]; omega⟩
        clear g0 p3
        go_wp2_with fail
        go_ret
        exact ⟨rfl, B0⟩
      · have d0 : decide (x.code ≤ 99) = false := by simpa using g0
        obtain rfl : r = false := by rw [← HR.out]; exact event_false (by rintro ⟨z1, z2, z3⟩; rw [if_neg p3] at z3; omega)
        clear g0 p3
        go_wp2_with fail
        go_ret
        exact ⟨rfl, B0⟩
  · have dw : decide ((q.rl : Int) ≤ x.worker) = true := by rw [decide_eq_true_iff]; omega
    obtain rfl : r = false := by rw [← HR.out]; exact event_false (by rintro ⟨z1, z2, z3⟩; omega)
    clear g
    go_wp2_with fail
    go_ret
    exact ⟨rfl, B0⟩

end Go.Proofs.Ytnjckaifgmliaaa
