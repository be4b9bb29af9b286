/- THE WALK of PayHours: it returns true, and turns nothing that was there. -/
import Derived.Test.YtjcfflpiajefmaaPayMore
set_option linter.unusedSimpArgs false
set_option linter.unusedVariables false
namespace Go.Proofs.Ytjcfflpiajefmaa
open Go.RowKit Lu

/-- Whole hours are paid without anything left. -/
theorem cent_hours {r d x : Int} {j : Nat} (hh t : Int) (hx : x = 3600 * (2 * hh)) (h0 : 0 ≤ hh ∧ hh ≤ 80) (ht : twiceP r d j = t) : centP r d j x = hh * t := by
  unfold centP
  rw [secP_same (by omega) (by omega), ht, hx]
  have e : 3600 * (2 * hh) * t = 7200 * (hh * t) := by rw [show 3600 * (2 * hh) = 7200 * hh by omega, Int.mul_assoc]
  rw [e]
  generalize hh * t = p
  unfold halfP
  rw [if_neg (by decide)]
  simp only
  split <;> omega
structure Hours (r d hh n c1 c2 c3 c4 c5 c6 d1 d2 d3 d4 d5 d6 : Int) : Prop where
  e1 : c1 = 2 * hh * r
  e2 : 2 * c2 = 3 * (2 * hh) * r
  e3 : c3 = 2 * (2 * hh) * r
  e4 : c4 = c1 + 2 * hh * d
  e5 : c5 = c2 + 2 * hh * d
  e6 : c6 = c3 + 2 * hh * d
  f1 : d1 = n * c1
  f2 : d2 = n * c2
  f3 : d3 = n * c3
  f4 : d4 = n * c4
  f5 : d5 = n * c5
  f6 : d6 = n * c6
theorem hours_of {s : Setup} {worker el tier el2 tier2 hh n c0 c1 c2 c3 c4 c5 c6 d0 d1 d2 d3 d4 d5 d6 b m g er b2 m2 g2 er2 rate rate2 A B : Int}
    (h : PayMain s worker el tier 0 A A A A A A c0 c1 c2 c3 c4 c5 c6 b m g er rate) (k : PayMain s worker el2 tier2 0 B B B B B B d0 d1 d2 d3 d4 d5 d6 b2 m2 g2 er2 rate2)
    (hA : A = 3600 * (2 * hh)) (hB : B = A * n) (h0 : 0 ≤ hh ∧ hh ≤ 15) (hn : 0 ≤ n ∧ n ≤ 4) : rate2 = rate ∧ Hours rate s.diff hh n c1 c2 c3 c4 c5 c6 d1 d2 d3 d4 d5 d6 := by
  have hr : rate2 = rate := k.rt.symm.trans h.rt
  subst hr
  have hm := mul_range hn h0
  have hB' : B = 3600 * (2 * (n * hh)) := by rw [hB, hA, Int.mul_comm _ n, Int.mul_left_comm n 3600, Int.mul_left_comm n 2]
  have key : ∀ (j : Nat) (c d t : Int), twiceP rate2 s.diff j = t → centP rate2 s.diff j A = c → centP rate2 s.diff j B = d → c = hh * t ∧ d = n * c := by
    intro j c d t ht hc hd
    rw [cent_hours hh t hA (by omega) ht] at hc
    rw [cent_hours (n * hh) t hB' (by omega) ht, Int.mul_assoc] at hd
    exact ⟨hc.symm, by rw [← hd, ← hc]⟩
  obtain ⟨a1, b1⟩ := key 1 c1 d1 (2 * rate2) (by unfold twiceP; rw [if_pos (by decide)]; omega) h.k1 k.k1
  obtain ⟨a2, b2⟩ := key 2 c2 d2 (3 * rate2) (by unfold twiceP; rw [if_pos (by decide)]; omega) h.k2 k.k2
  obtain ⟨a3, b3⟩ := key 3 c3 d3 (4 * rate2) (by unfold twiceP; rw [if_pos (by decide)]; omega) h.k3 k.k3
  obtain ⟨a4, b4⟩ := key 4 c4 d4 (2 * rate2 + 2 * s.diff) (by unfold twiceP; rw [if_neg (by decide)]; omega) h.k4 k.k4
  obtain ⟨a5, b5⟩ := key 5 c5 d5 (3 * rate2 + 2 * s.diff) (by unfold twiceP; rw [if_neg (by decide)]; omega) h.k5 k.k5
  obtain ⟨a6, b6⟩ := key 6 c6 d6 (4 * rate2 + 2 * s.diff) (by unfold twiceP; rw [if_neg (by decide)]; omega) h.k6 k.k6
  rw [Int.mul_left_comm] at a1 a2 a3
  rw [Int.mul_add, Int.mul_left_comm hh 2, Int.mul_left_comm hh 2] at a4
  rw [Int.mul_add, Int.mul_left_comm hh 3, Int.mul_left_comm hh 2] at a5
  rw [Int.mul_add, Int.mul_left_comm hh 4, Int.mul_left_comm hh 2] at a6
  have g1 : 2 * hh * rate2 = 2 * (hh * rate2) := Int.mul_assoc _ _ _
  have g2 : 3 * (2 * hh) * rate2 = 6 * (hh * rate2) := by rw [show 3 * (2 * hh) = 6 * hh by omega, Int.mul_assoc]
  have g3 : 2 * (2 * hh) * rate2 = 4 * (hh * rate2) := by rw [show 2 * (2 * hh) = 4 * hh by omega, Int.mul_assoc]
  have g4 : 2 * hh * s.diff = 2 * (hh * s.diff) := Int.mul_assoc _ _ _
  exact ⟨rfl, by omega, by omega, by omega, by omega, by omega, by omega, b1, b2, b3, b4, b5, b6⟩


set_option maxRecDepth 100000 in
set_option maxHeartbeats 4000000 in
theorem payHours_walk (s : Setup) (q : Slices) (worker hours times : Int) (w : World) (h : SetupIs w s q) (_hw : In worker) (hho : 0 ≤ hours ∧ hours ≤ 255) (hti : 0 ≤ times ∧ times ≤ 255) :
    Calls Try.prog 7 #[.agg #[.int .i64 s.places, .slice q.wa q.wl q.wc, .int .i64 s.pn, .int .i64 s.pd, .slice q.ea q.el q.ec, .slice q.ca q.cl q.cc, .slice q.ga q.gl q.gc, .int .i64 s.allow, .int .i64 s.unit, .int .i64 s.cap, .int .i64 s.paidBreak, .int .i64 s.autoAfter, .int .i64 s.autoBreak, .int .i64 s.dayReg, .int .i64 s.dayOver, .int .i64 s.weekReg, .int .i64 s.nightFrom, .int .i64 s.nightTo, .slice q.ra q.rl q.rc, .int .i64 s.diff, .int .i64 s.least, .int .i64 s.fault, .slice q.ta q.tl q.tc], .int .i64 worker, .int .u8 hours, .int .u8 times] w fun e w' => e = .returned (.bool true) ∧ Below w.heap.size w w' := by
  obtain ⟨f, hf⟩ : ∃ f, fairP s worker [0, 0, 0, 0, 0, 0, 0] = f := ⟨_, rfl⟩
  have HF := Lib.hid hf
  clear hf
  have hb : (w.alloc (.cells #[.int .i64 s.places, .slice q.wa q.wl q.wc, .int .i64 s.pn, .int .i64 s.pd, .slice q.ea q.el q.ec, .slice q.ca q.cl q.cc, .slice q.ga q.gl q.gc, .int .i64 s.allow, .int .i64 s.unit, .int .i64 s.cap, .int .i64 s.paidBreak, .int .i64 s.autoAfter, .int .i64 s.autoBreak, .int .i64 s.dayReg, .int .i64 s.dayOver, .int .i64 s.weekReg, .int .i64 s.nightFrom, .int .i64 s.nightTo, .slice q.ra q.rl q.rc, .int .i64 s.diff, .int .i64 s.least, .int .i64 s.fault, .slice q.ta q.tl q.tc] 30)).heap[w.heap.size]? = some (.cells #[.int .i64 s.places, .slice q.wa q.wl q.wc, .int .i64 s.pn, .int .i64 s.pd, .slice q.ea q.el q.ec, .slice q.ca q.cl q.cc, .slice q.ga q.gl q.gc, .int .i64 s.allow, .int .i64 s.unit, .int .i64 s.cap, .int .i64 s.paidBreak, .int .i64 s.autoAfter, .int .i64 s.autoBreak, .int .i64 s.dayReg, .int .i64 s.dayOver, .int .i64 s.weekReg, .int .i64 s.nightFrom, .int .i64 s.nightTo, .slice q.ra q.rl q.rc, .int .i64 s.diff, .int .i64 s.least, .int .i64 s.fault, .slice q.ta q.tl q.tc] 30) := box_new w _ rfl _ _
  have B0 : Below w.heap.size w (w.alloc (.cells #[.int .i64 s.places, .slice q.wa q.wl q.wc, .int .i64 s.pn, .int .i64 s.pd, .slice q.ea q.el q.ec, .slice q.ca q.cl q.cc, .slice q.ga q.gl q.gc, .int .i64 s.allow, .int .i64 s.unit, .int .i64 s.cap, .int .i64 s.paidBreak, .int .i64 s.autoAfter, .int .i64 s.autoBreak, .int .i64 s.dayReg, .int .i64 s.dayOver, .int .i64 s.weekReg, .int .i64 s.nightFrom, .int .i64 s.nightTo, .slice q.ra q.rl q.rc, .int .i64 s.diff, .int .i64 s.least, .int .i64 s.fault, .slice q.ta q.tl q.tc] 30)) := by go_grown
  have z0 : w.heap.size < (w.alloc (.cells #[.int .i64 s.places, .slice q.wa q.wl q.wc, .int .i64 s.pn, .int .i64 s.pd, .slice q.ea q.el q.ec, .slice q.ca q.cl q.cc, .slice q.ga q.gl q.gc, .int .i64 s.allow, .int .i64 s.unit, .int .i64 s.cap, .int .i64 s.paidBreak, .int .i64 s.autoAfter, .int .i64 s.autoBreak, .int .i64 s.dayReg, .int .i64 s.dayOver, .int .i64 s.weekReg, .int .i64 s.nightFrom, .int .i64 s.nightTo, .slice q.ra q.rl q.rc, .int .i64 s.diff, .int .i64 s.least, .int .i64 s.fault, .slice q.ta q.tl q.tc] 30)).heap.size := by simp
  go_enter Try.func7, Try.ntmps7
  go_wp2_with fail
  refine (awake19 _).mono ?_
  rintro e1 w1 ⟨rfl, k1⟩
  replace hb := box_keep k1 hb (by omega)
  replace B0 := B0.trans (k1.mono (by omega))
  replace z0 := Nat.lt_of_lt_of_le z0 k1.size
  clear k1
  go_wp2_with (refine wpList_load_box 30 (.tmp 4) rfl rfl (w.heap.size) rfl 30 #[.int .i64 s.places, .slice q.wa q.wl q.wc, .int .i64 s.pn, .int .i64 s.pd, .slice q.ea q.el q.ec, .slice q.ca q.cl q.cc, .slice q.ga q.gl q.gc, .int .i64 s.allow, .int .i64 s.unit, .int .i64 s.cap, .int .i64 s.paidBreak, .int .i64 s.autoAfter, .int .i64 s.autoBreak, .int .i64 s.dayReg, .int .i64 s.dayOver, .int .i64 s.weekReg, .int .i64 s.nightFrom, .int .i64 s.nightTo, .slice q.ra q.rl q.rc, .int .i64 s.diff, .int .i64 s.least, .int .i64 s.fault, .slice q.ta q.tl q.tc] hb setup_big ?_)
  refine (law_fair s q worker 0 0 0 0 0 0 0 f _ (h.below B0) HF.out).mono ?_
  rintro e2 w2 ⟨rfl, k2⟩
  replace hb := box_keep k2 hb (by omega)
  replace B0 := B0.trans (k2.mono (by omega))
  replace z0 := Nat.lt_of_lt_of_le z0 k2.size
  clear k2
  cases f
  · go_wp2_with fail
    go_ret
    exact ⟨rfl, B0⟩
  · have hfr := fair_of HF.out
    obtain ⟨hh, hhh⟩ : ∃ hh, hours % 16 = hh := ⟨_, rfl⟩
    obtain ⟨n, hn⟩ : ∃ n, times % 5 = n := ⟨_, rfl⟩
    have h0 : 0 ≤ hh ∧ hh ≤ 15 := by omega
    have n0 : 0 ≤ n ∧ n ≤ 4 := by omega
    obtain ⟨a, hA⟩ : ∃ a, 3600 * (2 * hh) = a := ⟨_, rfl⟩
    have ha0 : 0 ≤ a ∧ a ≤ 108000 := by omega
    obtain ⟨bb, hB⟩ : ∃ bb, a * n = bb := ⟨_, rfl⟩
    have hb0 := mul_range ha0 n0
    rw [hB] at hb0
    obtain ⟨c0, c1, c2, c3, c4, c5, c6, b, m, g, er, hp⟩ := payP_shape s worker 0 (-1) [0, a, a, a, a, a, a]
    obtain ⟨d0, d1, d2, d3, d4, d5, d6, b2, m2, g2, er2, hp2⟩ := payP_shape s worker 0 (-1) [0, bb, bb, bb, bb, bb, bb]
    obtain ⟨rate, M⟩ := payMain hfr hp
    obtain ⟨rate2, M2⟩ := payMain hfr hp2
    obtain rfl := M.ez
    obtain rfl := M.cz
    obtain rfl := M2.ez
    obtain rfl := M2.cz
    obtain ⟨hr2, HO⟩ := hours_of M M2 hA.symm hB.symm h0 n0
    have hwl := hfr.lo
    have hwh := hfr.hi
    have hrl := h.rates.1
    obtain ⟨rb, roff, hra, hrc⟩ := h.rates.2.2.2.resolve_left (by omega)
    have hrt := hrc worker.toNat (by omega)
    rw [M.rt] at hrt
    have hw2 : worker < (q.rl : Int) := by omega
    have rr := M.rr
    have rd := M.ok.diff
    have hc1 := M.cent1
    have hc2 := M.cent2
    have hc3 := M.cent3
    have hc4 := M.cent4
    have hc5 := M.cent5
    have hc6 := M.cent6
    have HP := Lib.hid hp
    have HP2 := Lib.hid hp2
    have HHO := Lib.hid HO
    have HRA := Lib.hid hra
    have HRT := Lib.hid hrt
    clear hp hp2 HO hra hrc hrt M M2 hfr hr2
    go_wp2_with (refine wpList_load_box 30 (.tmp 4) rfl rfl (w.heap.size) rfl 30 #[.int .i64 s.places, .slice q.wa q.wl q.wc, .int .i64 s.pn, .int .i64 s.pd, .slice q.ea q.el q.ec, .slice q.ca q.cl q.cc, .slice q.ga q.gl q.gc, .int .i64 s.allow, .int .i64 s.unit, .int .i64 s.cap, .int .i64 s.paidBreak, .int .i64 s.autoAfter, .int .i64 s.autoBreak, .int .i64 s.dayReg, .int .i64 s.dayOver, .int .i64 s.weekReg, .int .i64 s.nightFrom, .int .i64 s.nightTo, .slice q.ra q.rl q.rc, .int .i64 s.diff, .int .i64 s.least, .int .i64 s.fault, .slice q.ta q.tl q.tc] hb setup_big ?_)
    refine (pay_Of_is s q worker 0 a a a a a a 0 (-1) 0 c1 c2 c3 c4 c5 c6 b m g 0 _ (h.below B0) HP.out).mono ?_
    rintro e3 w3 ⟨rfl, k3⟩
    replace hb := box_keep k3 hb (by omega)
    replace B0 := B0.trans (k3.mono (by omega))
    replace z0 := Nat.lt_of_lt_of_le z0 k3.size
    clear k3
    have za : w.heap.size < w3.heap.size := z0
    have ha : (w3.alloc (.cells #[.int .i64 0, .int .i64 c1, .int .i64 c2, .int .i64 c3, .int .i64 c4, .int .i64 c5, .int .i64 c6] 31)).heap[w3.heap.size]? = some (.cells #[.int .i64 0, .int .i64 c1, .int .i64 c2, .int .i64 c3, .int .i64 c4, .int .i64 c5, .int .i64 c6] 31) := box_new _ _ rfl _ _
    have hk : Below w3.heap.size w3 (w3.alloc (.cells #[.int .i64 0, .int .i64 c1, .int .i64 c2, .int .i64 c3, .int .i64 c4, .int .i64 c5, .int .i64 c6] 31)) := by go_grown
    replace hb := box_keep hk hb (by omega)
    replace B0 := B0.trans (hk.mono (by omega))
    replace z0 := Nat.lt_of_lt_of_le z0 hk.size
    clear hk
    go_wp2_with (refine wpList_load_box 30 (.tmp 4) rfl rfl (w.heap.size) rfl 30 #[.int .i64 s.places, .slice q.wa q.wl q.wc, .int .i64 s.pn, .int .i64 s.pd, .slice q.ea q.el q.ec, .slice q.ca q.cl q.cc, .slice q.ga q.gl q.gc, .int .i64 s.allow, .int .i64 s.unit, .int .i64 s.cap, .int .i64 s.paidBreak, .int .i64 s.autoAfter, .int .i64 s.autoBreak, .int .i64 s.dayReg, .int .i64 s.dayOver, .int .i64 s.weekReg, .int .i64 s.nightFrom, .int .i64 s.nightTo, .slice q.ra q.rl q.rc, .int .i64 s.diff, .int .i64 s.least, .int .i64 s.fault, .slice q.ta q.tl q.tc] hb setup_big ?_)
    refine (pay_Of_is s q worker 0 bb bb bb bb bb bb 0 (-1) 0 d1 d2 d3 d4 d5 d6 b2 m2 g2 0 _ (h.below B0) HP2.out).mono ?_
    rintro e4 w4 ⟨rfl, k4⟩
    replace hb := box_keep k4 hb (by omega)
    replace ha := box_keep k4 ha (by simp)
    replace B0 := B0.trans (k4.mono (by omega))
    have z4 : w3.heap.size < w4.heap.size := by have := k4.size; simp at this; omega
    clear k4 z0 hA hB
    have hd : (w4.alloc (.cells #[.int .i64 0, .int .i64 d1, .int .i64 d2, .int .i64 d3, .int .i64 d4, .int .i64 d5, .int .i64 d6] 31)).heap[w4.heap.size]? = some (.cells #[.int .i64 0, .int .i64 d1, .int .i64 d2, .int .i64 d3, .int .i64 d4, .int .i64 d5, .int .i64 d6] 31) := box_new _ _ rfl _ _
    have hk : Below w4.heap.size w4 (w4.alloc (.cells #[.int .i64 0, .int .i64 d1, .int .i64 d2, .int .i64 d3, .int .i64 d4, .int .i64 d5, .int .i64 d6] 31)) := by go_grown
    replace hb := box_keep hk hb (by omega)
    replace ha := box_keep hk ha (by omega)
    replace B0 := B0.trans (hk.mono (by omega))
    clear hk
    have c18 : (w4.alloc (.cells #[.int .i64 0, .int .i64 d1, .int .i64 d2, .int .i64 d3, .int .i64 d4, .int .i64 d5, .int .i64 d6] 31)).cell? ⟨w.heap.size, 18, none⟩ = some (.slice q.ra q.rl q.rc) := by rw [cell_of_block hb]; rfl
    have c19 : (w4.alloc (.cells #[.int .i64 0, .int .i64 d1, .int .i64 d2, .int .i64 d3, .int .i64 d4, .int .i64 d5, .int .i64 d6] 31)).cell? ⟨w.heap.size, 19, none⟩ = some (.int .i64 s.diff) := by rw [cell_of_block hb]; rfl
    rw [HRA.out] at c18
    have crt := keepD B0 HRT.out
    have hrb : rb < w4.heap.size := by have := World.block_lt_of_cell? w _ HRT.out; simp only at this; omega
    have hcv := fun j hj => seven_cell ha j hj
    have hdv := fun j hj => seven_cell hd j hj
    have hall : ∀ j : Nat, j < 7 → [0, d1, d2, d3, d4, d5, d6].getD j 0 = n * [0, c1, c2, c3, c4, c5, c6].getD j 0 := by
      intro j hj
      have O := HHO.out
      rcases (show j = 0 ∨ j = 1 ∨ j = 2 ∨ j = 3 ∨ j = 4 ∨ j = 5 ∨ j = 6 by omega) with rfl | rfl | rfl | rfl | rfl | rfl | rfl
      · exact (Int.mul_zero n).symm
      · exact O.f1
      · exact O.f2
      · exact O.f3
      · exact O.f4
      · exact O.f5
      · exact O.f6
    have hC := seven_all (P := fun z => 0 ≤ z ∧ z ≤ 362880000001) (x0 := 0) (by decide) hc1 hc2 hc3 hc4 hc5 hc6
    have HCV := Lib.hid hcv
    have HDV := Lib.hid hdv
    have HALL := Lib.hid hall
    have HC := Lib.hid hC
    clear hb ha hd hcv hdv hall hC hhh hn
    go_wp2_with fail
    generalize w4.alloc (.cells #[.int .i64 0, .int .i64 d1, .int .i64 d2, .int .i64 d3, .int .i64 d4, .int .i64 d5, .int .i64 d6] 31) = V2 at *
    go_loopw [23] (fun i wr => ∃ k : Nat, k ≤ 7 ∧ i = .int .i64 k ∧ ∃ n, wr = V2.drewN n) (fun i _ => 7 - (intOf i).toNat)
    case atStart => exact ⟨0, by omega, rfl, 0, rfl⟩
    case round =>
      obtain ⟨k, hk, rfl, dr, rfl⟩ := hrel
      by_cases hlt : k < 7
      · have dd0 : V2.cell? ⟨w3.heap.size, k, none⟩ = some (.int .i64 ([0, c1, c2, c3, c4, c5, c6].getD k 0)) := HCV.out k hlt
        have dd1 : V2.cell? ⟨w4.heap.size, k, none⟩ = some (.int .i64 ([0, d1, d2, d3, d4, d5, d6].getD k 0)) := HDV.out k hlt
        rw [HALL.out k hlt] at dd1
        have r3 := HC.out k hlt
        have hki : (k : Int) < 7 := by omega
        generalize [0, c1, c2, c3, c4, c5, c6].getD k 0 = cc at *
        have r4 := mul_range n0 r3
        have i1 : IntKind.i64.wrap (n * cc) = n * cc := IntWalk.i64_in _ (by omega)
        clear c18 c19 crt
        go_wp2_with fail
        go_quiet (fail)
        go_wp2
        go_roundw
        case rel => exact ⟨k + 1, by omega, by go_num, _, rfl⟩
        case measure => simp [intOf]; omega
      · obtain rfl : k = 7 := by omega
        have u1 : V2.cell? ⟨w3.heap.size, 1, none⟩ = some (.int .i64 c1) := HCV.out 1 (by decide)
        have u2 : V2.cell? ⟨w3.heap.size, 2, none⟩ = some (.int .i64 c2) := HCV.out 2 (by decide)
        have u3 : V2.cell? ⟨w3.heap.size, 3, none⟩ = some (.int .i64 c3) := HCV.out 3 (by decide)
        have u4 : V2.cell? ⟨w3.heap.size, 4, none⟩ = some (.int .i64 c4) := HCV.out 4 (by decide)
        have u5 : V2.cell? ⟨w3.heap.size, 5, none⟩ = some (.int .i64 c5) := HCV.out 5 (by decide)
        have u6 : V2.cell? ⟨w3.heap.size, 6, none⟩ = some (.int .i64 c6) := HCV.out 6 (by decide)
        have O := HHO.out
        have p1 := mul_range (a := 2 * hh) (A := 30) (by omega) rr
        have p2 := mul_range (a := 3 * (2 * hh)) (A := 90) (by omega) rr
        have p3 := mul_range (a := 2 * (2 * hh)) (A := 60) (by omega) rr
        have p4 := mul_range (a := 2 * hh) (A := 30) (by omega) rd
        have q1 : (c1 == 2 * hh * rate) = true := beq_iff_eq.2 O.e1
        have q2 : (2 * c2 == 3 * (2 * hh) * rate) = true := beq_iff_eq.2 O.e2
        have q3 : (c3 == 2 * (2 * hh) * rate) = true := beq_iff_eq.2 O.e3
        have q4 : (c4 == c1 + 2 * hh * s.diff) = true := beq_iff_eq.2 O.e4
        have q5 : (c5 == c2 + 2 * hh * s.diff) = true := beq_iff_eq.2 O.e5
        have q6 : (c6 == c3 + 2 * hh * s.diff) = true := beq_iff_eq.2 O.e6
        clear O c18 crt
        go_wp2_with fail
        go_ret
        exact ⟨rfl, (below_drewN_iff dr).2 B0⟩

end Go.Proofs.Ytjcfflpiajefmaa
