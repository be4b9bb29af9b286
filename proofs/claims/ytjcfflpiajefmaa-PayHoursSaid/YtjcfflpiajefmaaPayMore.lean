/- THE WALK of PayMore: it returns true, and turns nothing that was there. -/
import Derived.Test.YtjcfflpiajefmaaPayNear
set_option linter.unusedSimpArgs false
set_option linter.unusedVariables false
namespace Go.Proofs.Ytjcfflpiajefmaa
open Go.RowKit Lu

theorem halfP_mono {a b : Int} (h : a ≤ b) : (halfP a 7200).1 ≤ (halfP b 7200).1 := by
  have e : ∀ c : Int, (halfP c 7200).1 = (if 7200 - c % 7200 ≤ c % 7200 then c / 7200 + 1 else c / 7200) := fun c => by unfold halfP; rw [if_neg (by decide)]
  rw [e, e]
  split <;> split <;> omega
theorem centP_mono {r d x y : Int} {j : Nat} (hr : 0 ≤ r ∧ r ≤ 100000) (hd : 0 ≤ d ∧ d ≤ 100000) (hj : j < 7) (h : x ≤ y) : centP r d j x ≤ centP r d j y := by
  have ht := twiceP_range (cat := (j : Int)) hr hd (by omega)
  unfold centP
  refine halfP_mono (Int.mul_le_mul_of_nonneg_right ?_ ht.1)
  unfold secP
  split <;> split <;> (try split) <;> (try split) <;> omega
section
variable {s : Setup} {worker el tier el2 tier2 x0 x1 x2 x3 x4 x5 x6 y0 y1 y2 y3 y4 y5 y6 c0 c1 c2 c3 c4 c5 c6 d0 d1 d2 d3 d4 d5 d6 b m g er b2 m2 g2 er2 rate rate2 : Int}
theorem PayMain.more (h : PayMain s worker el tier x0 x1 x2 x3 x4 x5 x6 c0 c1 c2 c3 c4 c5 c6 b m g er rate) (k : PayMain s worker el2 tier2 y0 y1 y2 y3 y4 y5 y6 d0 d1 d2 d3 d4 d5 d6 b2 m2 g2 er2 rate2) (kk : Nat)
    (hle : ∀ j : Nat, j < 7 → [x0, x1, x2, x3, x4, x5, x6].getD j 0 ≤ [y0, y1, y2, y3, y4, y5, y6].getD j 0) (heq : ∀ j : Nat, j < 7 → j ≠ kk → [x0, x1, x2, x3, x4, x5, x6].getD j 0 = [y0, y1, y2, y3, y4, y5, y6].getD j 0) (j : Nat) (hj : j < 7) :
    (j ≠ kk → [0, c1, c2, c3, c4, c5, c6].getD j 0 = [0, d1, d2, d3, d4, d5, d6].getD j 0) ∧ [0, c1, c2, c3, c4, c5, c6].getD j 0 ≤ [0, d1, d2, d3, d4, d5, d6].getD j 0 := by
  have hr : rate2 = rate := k.rt.symm.trans h.rt
  subst hr
  have h1 := hle j hj
  have h2 := heq j hj
  rcases (show j = 0 ∨ j = 1 ∨ j = 2 ∨ j = 3 ∨ j = 4 ∨ j = 5 ∨ j = 6 by omega) with rfl | rfl | rfl | rfl | rfl | rfl | rfl
  · exact ⟨fun _ => rfl, Int.le_refl 0⟩
  · exact ⟨fun n => by have e : x1 = y1 := h2 n; subst e; exact h.k1.symm.trans k.k1, by show c1 ≤ d1; rw [← h.k1, ← k.k1]; exact centP_mono h.rr h.ok.diff (by decide) h1⟩
  · exact ⟨fun n => by have e : x2 = y2 := h2 n; subst e; exact h.k2.symm.trans k.k2, by show c2 ≤ d2; rw [← h.k2, ← k.k2]; exact centP_mono h.rr h.ok.diff (by decide) h1⟩
  · exact ⟨fun n => by have e : x3 = y3 := h2 n; subst e; exact h.k3.symm.trans k.k3, by show c3 ≤ d3; rw [← h.k3, ← k.k3]; exact centP_mono h.rr h.ok.diff (by decide) h1⟩
  · exact ⟨fun n => by have e : x4 = y4 := h2 n; subst e; exact h.k4.symm.trans k.k4, by show c4 ≤ d4; rw [← h.k4, ← k.k4]; exact centP_mono h.rr h.ok.diff (by decide) h1⟩
  · exact ⟨fun n => by have e : x5 = y5 := h2 n; subst e; exact h.k5.symm.trans k.k5, by show c5 ≤ d5; rw [← h.k5, ← k.k5]; exact centP_mono h.rr h.ok.diff (by decide) h1⟩
  · exact ⟨fun n => by have e : x6 = y6 := h2 n; subst e; exact h.k6.symm.trans k.k6, by show c6 ≤ d6; rw [← h.k6, ← k.k6]; exact centP_mono h.rr h.ok.diff (by decide) h1⟩
end
theorem getD_arr {x0 x1 x2 x3 x4 x5 x6 : Int} (j : Nat) (hj : j < 7) : (#[Value.int .i64 x0, .int .i64 x1, .int .i64 x2, .int .i64 x3, .int .i64 x4, .int .i64 x5, .int .i64 x6] : Array Value)[j]? = some (.int .i64 ([x0, x1, x2, x3, x4, x5, x6].getD j 0)) := by
  rcases (show j = 0 ∨ j = 1 ∨ j = 2 ∨ j = 3 ∨ j = 4 ∨ j = 5 ∨ j = 6 by omega) with rfl | rfl | rfl | rfl | rfl | rfl | rfl <;> rfl
theorem set_arr (x0 x1 x2 x3 x4 x5 x6 v : Int) (k : Nat) (hk : k < 7) : ∃ y0 y1 y2 y3 y4 y5 y6, (#[Value.int .i64 x0, .int .i64 x1, .int .i64 x2, .int .i64 x3, .int .i64 x4, .int .i64 x5, .int .i64 x6] : Array Value).setIfInBounds k (.int .i64 v) = #[.int .i64 y0, .int .i64 y1, .int .i64 y2, .int .i64 y3, .int .i64 y4, .int .i64 y5, .int .i64 y6] ∧
    ∀ j : Nat, j < 7 → [y0, y1, y2, y3, y4, y5, y6].getD j 0 = if j = k then v else [x0, x1, x2, x3, x4, x5, x6].getD j 0 := by
  rcases (show k = 0 ∨ k = 1 ∨ k = 2 ∨ k = 3 ∨ k = 4 ∨ k = 5 ∨ k = 6 by omega) with rfl | rfl | rfl | rfl | rfl | rfl | rfl
  · exact ⟨v, x1, x2, x3, x4, x5, x6, rfl, fun j hj => by rcases (show j = 0 ∨ j = 1 ∨ j = 2 ∨ j = 3 ∨ j = 4 ∨ j = 5 ∨ j = 6 by omega) with rfl | rfl | rfl | rfl | rfl | rfl | rfl <;> rfl⟩
  · exact ⟨x0, v, x2, x3, x4, x5, x6, rfl, fun j hj => by rcases (show j = 0 ∨ j = 1 ∨ j = 2 ∨ j = 3 ∨ j = 4 ∨ j = 5 ∨ j = 6 by omega) with rfl | rfl | rfl | rfl | rfl | rfl | rfl <;> rfl⟩
  · exact ⟨x0, x1, v, x3, x4, x5, x6, rfl, fun j hj => by rcases (show j = 0 ∨ j = 1 ∨ j = 2 ∨ j = 3 ∨ j = 4 ∨ j = 5 ∨ j = 6 by omega) with rfl | rfl | rfl | rfl | rfl | rfl | rfl <;> rfl⟩
  · exact ⟨x0, x1, x2, v, x4, x5, x6, rfl, fun j hj => by rcases (show j = 0 ∨ j = 1 ∨ j = 2 ∨ j = 3 ∨ j = 4 ∨ j = 5 ∨ j = 6 by omega) with rfl | rfl | rfl | rfl | rfl | rfl | rfl <;> rfl⟩
  · exact ⟨x0, x1, x2, x3, v, x5, x6, rfl, fun j hj => by rcases (show j = 0 ∨ j = 1 ∨ j = 2 ∨ j = 3 ∨ j = 4 ∨ j = 5 ∨ j = 6 by omega) with rfl | rfl | rfl | rfl | rfl | rfl | rfl <;> rfl⟩
  · exact ⟨x0, x1, x2, x3, x4, v, x6, rfl, fun j hj => by rcases (show j = 0 ∨ j = 1 ∨ j = 2 ∨ j = 3 ∨ j = 4 ∨ j = 5 ∨ j = 6 by omega) with rfl | rfl | rfl | rfl | rfl | rfl | rfl <;> rfl⟩
  · exact ⟨x0, x1, x2, x3, x4, x5, v, rfl, fun j hj => by rcases (show j = 0 ∨ j = 1 ∨ j = 2 ∨ j = 3 ∨ j = 4 ∨ j = 5 ∨ j = 6 by omega) with rfl | rfl | rfl | rfl | rfl | rfl | rfl <;> rfl⟩


set_option maxRecDepth 100000 in
set_option maxHeartbeats 4000000 in
theorem payMore_walk (s : Setup) (q : Slices) (worker x0 x1 x2 x3 x4 x5 x6 cat more : Int) (w : World) (h : SetupIs w s q) (_hw : In worker) (_hx0 : In x0) (_hx1 : In x1) (_hx2 : In x2) (_hx3 : In x3) (_hx4 : In x4) (_hx5 : In x5) (_hx6 : In x6) (hca : 0 ≤ cat ∧ cat ≤ 255) (hmo : 0 ≤ more ∧ more ≤ 65535) :
    Calls Try.prog 6 #[.agg #[.int .i64 s.places, .slice q.wa q.wl q.wc, .int .i64 s.pn, .int .i64 s.pd, .slice q.ea q.el q.ec, .slice q.ca q.cl q.cc, .slice q.ga q.gl q.gc, .int .i64 s.allow, .int .i64 s.unit, .int .i64 s.cap, .int .i64 s.paidBreak, .int .i64 s.autoAfter, .int .i64 s.autoBreak, .int .i64 s.dayReg, .int .i64 s.dayOver, .int .i64 s.weekReg, .int .i64 s.nightFrom, .int .i64 s.nightTo, .slice q.ra q.rl q.rc, .int .i64 s.diff, .int .i64 s.least, .int .i64 s.fault, .slice q.ta q.tl q.tc], .int .i64 worker, .agg #[.int .i64 x0, .int .i64 x1, .int .i64 x2, .int .i64 x3, .int .i64 x4, .int .i64 x5, .int .i64 x6], .int .u8 cat, .int .u16 more] w fun e w' => e = .returned (.bool true) ∧ Below w.heap.size w w' := by
  clear _hx0 _hx1 _hx2 _hx3 _hx4 _hx5 _hx6
  obtain ⟨f, hf⟩ : ∃ f, fairP s worker [x0, x1, x2, x3, x4, x5, x6] = f := ⟨_, rfl⟩
  have HF := Lib.hid hf
  clear hf
  have hb : ((w.alloc (.cells #[.int .i64 s.places, .slice q.wa q.wl q.wc, .int .i64 s.pn, .int .i64 s.pd, .slice q.ea q.el q.ec, .slice q.ca q.cl q.cc, .slice q.ga q.gl q.gc, .int .i64 s.allow, .int .i64 s.unit, .int .i64 s.cap, .int .i64 s.paidBreak, .int .i64 s.autoAfter, .int .i64 s.autoBreak, .int .i64 s.dayReg, .int .i64 s.dayOver, .int .i64 s.weekReg, .int .i64 s.nightFrom, .int .i64 s.nightTo, .slice q.ra q.rl q.rc, .int .i64 s.diff, .int .i64 s.least, .int .i64 s.fault, .slice q.ta q.tl q.tc] 30)).alloc (.cells #[.int .i64 x0, .int .i64 x1, .int .i64 x2, .int .i64 x3, .int .i64 x4, .int .i64 x5, .int .i64 x6] 31)).heap[w.heap.size]? = some (.cells #[.int .i64 s.places, .slice q.wa q.wl q.wc, .int .i64 s.pn, .int .i64 s.pd, .slice q.ea q.el q.ec, .slice q.ca q.cl q.cc, .slice q.ga q.gl q.gc, .int .i64 s.allow, .int .i64 s.unit, .int .i64 s.cap, .int .i64 s.paidBreak, .int .i64 s.autoAfter, .int .i64 s.autoBreak, .int .i64 s.dayReg, .int .i64 s.dayOver, .int .i64 s.weekReg, .int .i64 s.nightFrom, .int .i64 s.nightTo, .slice q.ra q.rl q.rc, .int .i64 s.diff, .int .i64 s.least, .int .i64 s.fault, .slice q.ta q.tl q.tc] 30) := box_keep (B := w.heap.size + 1) (by go_grown) (box_new w _ rfl _ _) (by omega)
  have hs : ((w.alloc (.cells #[.int .i64 s.places, .slice q.wa q.wl q.wc, .int .i64 s.pn, .int .i64 s.pd, .slice q.ea q.el q.ec, .slice q.ca q.cl q.cc, .slice q.ga q.gl q.gc, .int .i64 s.allow, .int .i64 s.unit, .int .i64 s.cap, .int .i64 s.paidBreak, .int .i64 s.autoAfter, .int .i64 s.autoBreak, .int .i64 s.dayReg, .int .i64 s.dayOver, .int .i64 s.weekReg, .int .i64 s.nightFrom, .int .i64 s.nightTo, .slice q.ra q.rl q.rc, .int .i64 s.diff, .int .i64 s.least, .int .i64 s.fault, .slice q.ta q.tl q.tc] 30)).alloc (.cells #[.int .i64 x0, .int .i64 x1, .int .i64 x2, .int .i64 x3, .int .i64 x4, .int .i64 x5, .int .i64 x6] 31)).heap[w.heap.size + 1]? = some (.cells #[.int .i64 x0, .int .i64 x1, .int .i64 x2, .int .i64 x3, .int .i64 x4, .int .i64 x5, .int .i64 x6] 31) := box_new _ _ (by simp) _ _
  have B0 : Below w.heap.size w ((w.alloc (.cells #[.int .i64 s.places, .slice q.wa q.wl q.wc, .int .i64 s.pn, .int .i64 s.pd, .slice q.ea q.el q.ec, .slice q.ca q.cl q.cc, .slice q.ga q.gl q.gc, .int .i64 s.allow, .int .i64 s.unit, .int .i64 s.cap, .int .i64 s.paidBreak, .int .i64 s.autoAfter, .int .i64 s.autoBreak, .int .i64 s.dayReg, .int .i64 s.dayOver, .int .i64 s.weekReg, .int .i64 s.nightFrom, .int .i64 s.nightTo, .slice q.ra q.rl q.rc, .int .i64 s.diff, .int .i64 s.least, .int .i64 s.fault, .slice q.ta q.tl q.tc] 30)).alloc (.cells #[.int .i64 x0, .int .i64 x1, .int .i64 x2, .int .i64 x3, .int .i64 x4, .int .i64 x5, .int .i64 x6] 31)) := by go_grown
  have z0 : w.heap.size + 1 < ((w.alloc (.cells #[.int .i64 s.places, .slice q.wa q.wl q.wc, .int .i64 s.pn, .int .i64 s.pd, .slice q.ea q.el q.ec, .slice q.ca q.cl q.cc, .slice q.ga q.gl q.gc, .int .i64 s.allow, .int .i64 s.unit, .int .i64 s.cap, .int .i64 s.paidBreak, .int .i64 s.autoAfter, .int .i64 s.autoBreak, .int .i64 s.dayReg, .int .i64 s.dayOver, .int .i64 s.weekReg, .int .i64 s.nightFrom, .int .i64 s.nightTo, .slice q.ra q.rl q.rc, .int .i64 s.diff, .int .i64 s.least, .int .i64 s.fault, .slice q.ta q.tl q.tc] 30)).alloc (.cells #[.int .i64 x0, .int .i64 x1, .int .i64 x2, .int .i64 x3, .int .i64 x4, .int .i64 x5, .int .i64 x6] 31)).heap.size := by simp
  go_enter Try.func6, Try.ntmps6
  go_wp2_with fail
  refine (awake19 _).mono ?_
  rintro e1 w1 ⟨rfl, k1⟩
  replace hb := box_keep k1 hb (by omega)
  replace hs := box_keep k1 hs (by omega)
  replace B0 := B0.trans (k1.mono (by omega))
  replace z0 := Nat.lt_of_lt_of_le z0 k1.size
  clear k1
  go_wp2_with (first | (refine wpList_load_box 30 (.tmp 5) rfl rfl (w.heap.size) rfl 30 #[.int .i64 s.places, .slice q.wa q.wl q.wc, .int .i64 s.pn, .int .i64 s.pd, .slice q.ea q.el q.ec, .slice q.ca q.cl q.cc, .slice q.ga q.gl q.gc, .int .i64 s.allow, .int .i64 s.unit, .int .i64 s.cap, .int .i64 s.paidBreak, .int .i64 s.autoAfter, .int .i64 s.autoBreak, .int .i64 s.dayReg, .int .i64 s.dayOver, .int .i64 s.weekReg, .int .i64 s.nightFrom, .int .i64 s.nightTo, .slice q.ra q.rl q.rc, .int .i64 s.diff, .int .i64 s.least, .int .i64 s.fault, .slice q.ta q.tl q.tc] hb setup_big ?_) | (refine wpList_load_box 31 (.tmp 7) rfl rfl (w.heap.size + 1) rfl 31 #[.int .i64 x0, .int .i64 x1, .int .i64 x2, .int .i64 x3, .int .i64 x4, .int .i64 x5, .int .i64 x6] hs seven_big ?_))
  refine (law_fair s q worker x0 x1 x2 x3 x4 x5 x6 f _ (h.below B0) HF.out).mono ?_
  rintro e2 w2 ⟨rfl, k2⟩
  replace hb := box_keep k2 hb (by omega)
  replace hs := box_keep k2 hs (by omega)
  replace B0 := B0.trans (k2.mono (by omega))
  replace z0 := Nat.lt_of_lt_of_le z0 k2.size
  clear k2
  cases f
  · go_wp2_with fail
    go_ret
    exact ⟨rfl, B0⟩
  · have hfr := fair_of HF.out
    obtain ⟨kk, hkk⟩ : ∃ kk : Nat, cat % 7 = (kk : Int) := ⟨(cat % 7).toNat, by omega⟩
    have hk7 : kk < 7 := by omega
    have hk7i : (kk : Int) < 7 := by omega
    obtain ⟨x, hx⟩ : ∃ x, [x0, x1, x2, x3, x4, x5, x6].getD kk 0 = x := ⟨_, rfl⟩
    have hxr : 0 ≤ x ∧ x ≤ 604800 := by rw [← hx]; exact seven_all (P := fun z => 0 ≤ z ∧ z ≤ 604800) (hfr.secs x0 (by simp)) (hfr.secs x1 (by simp)) (hfr.secs x2 (by simp)) (hfr.secs x3 (by simp)) (hfr.secs x4 (by simp)) (hfr.secs x5 (by simp)) (hfr.secs x6 (by simp)) kk hk7
    obtain ⟨v, hv⟩ : ∃ v, (if x + more < 604800 then x + more else 604800) = v := ⟨_, rfl⟩
    obtain ⟨y0, y1, y2, y3, y4, y5, y6, hya, hyj⟩ := set_arr x0 x1 x2 x3 x4 x5 x6 v kk hk7
    have hle : ∀ j : Nat, j < 7 → [x0, x1, x2, x3, x4, x5, x6].getD j 0 ≤ [y0, y1, y2, y3, y4, y5, y6].getD j 0 := fun j hj => by
      rw [hyj j hj]
      split
      · rename_i e; subst e; rw [hx, ← hv]; split <;> omega
      · exact Int.le_refl _
    have heq : ∀ j : Nat, j < 7 → j ≠ kk → [x0, x1, x2, x3, x4, x5, x6].getD j 0 = [y0, y1, y2, y3, y4, y5, y6].getD j 0 := fun j hj hn => by rw [hyj j hj, if_neg hn]
    obtain ⟨c0, c1, c2, c3, c4, c5, c6, b, m, g, er, hp⟩ := payP_shape s worker 3600 0 [x0, x1, x2, x3, x4, x5, x6]
    obtain ⟨d0, d1, d2, d3, d4, d5, d6, b2, m2, g2, er2, hp2⟩ := payP_shape s worker 3600 0 [y0, y1, y2, y3, y4, y5, y6]
    obtain ⟨rate, M⟩ := payMain hfr hp
    obtain ⟨rate2, M2⟩ := payMain hfr hp2
    obtain rfl := M.ez
    obtain rfl := M.cz
    obtain rfl := M2.ez
    obtain rfl := M2.cz
    obtain rfl : b = b2 := M.bn.symm.trans M2.bn
    have hmo2 := M.more M2 kk hle heq
    have dx := getD_arr (x0 := x0) (x1 := x1) (x2 := x2) (x3 := x3) (x4 := x4) (x5 := x5) (x6 := x6) kk hk7
    rw [hx] at dx
    have sx := seven_cell hs kk hk7
    rw [hx] at sx
    have HP := Lib.hid hp
    have HP2 := Lib.hid hp2
    have HMO := Lib.hid hmo2
    have HYA := Lib.hid hya
    have HV := Lib.hid hv
    clear hp hp2 hmo2 hya hyj hle heq hx hv M M2 hfr
    go_upto_region 7 with (first | (refine wpList_load_box 30 (.tmp 5) rfl rfl (w.heap.size) rfl 30 #[.int .i64 s.places, .slice q.wa q.wl q.wc, .int .i64 s.pn, .int .i64 s.pd, .slice q.ea q.el q.ec, .slice q.ca q.cl q.cc, .slice q.ga q.gl q.gc, .int .i64 s.allow, .int .i64 s.unit, .int .i64 s.cap, .int .i64 s.paidBreak, .int .i64 s.autoAfter, .int .i64 s.autoBreak, .int .i64 s.dayReg, .int .i64 s.dayOver, .int .i64 s.weekReg, .int .i64 s.nightFrom, .int .i64 s.nightTo, .slice q.ra q.rl q.rc, .int .i64 s.diff, .int .i64 s.least, .int .i64 s.fault, .slice q.ta q.tl q.tc] hb setup_big ?_) | (refine wpList_load_box 31 (.tmp 7) rfl rfl (w.heap.size + 1) rfl 31 #[.int .i64 x0, .int .i64 x1, .int .i64 x2, .int .i64 x3, .int .i64 x4, .int .i64 x5, .int .i64 x6] hs seven_big ?_))
    rw [HV.out]
    refine gen_wp (S := fun W => W.heap[w.heap.size]? = some (.cells #[.int .i64 s.places, .slice q.wa q.wl q.wc, .int .i64 s.pn, .int .i64 s.pd, .slice q.ea q.el q.ec, .slice q.ca q.cl q.cc, .slice q.ga q.gl q.gc, .int .i64 s.allow, .int .i64 s.unit, .int .i64 s.cap, .int .i64 s.paidBreak, .int .i64 s.autoAfter, .int .i64 s.autoBreak, .int .i64 s.dayReg, .int .i64 s.dayOver, .int .i64 s.weekReg, .int .i64 s.nightFrom, .int .i64 s.nightTo, .slice q.ra q.rl q.rc, .int .i64 s.diff, .int .i64 s.least, .int .i64 s.fault, .slice q.ta q.tl q.tc] 30) ∧ W.heap[w.heap.size + 1]? = some (.cells #[.int .i64 x0, .int .i64 x1, .int .i64 x2, .int .i64 x3, .int .i64 x4, .int .i64 x5, .int .i64 x6] 31) ∧ W.heap[w2.heap.size]? = some (.cells #[.int .i64 y0, .int .i64 y1, .int .i64 y2, .int .i64 y3, .int .i64 y4, .int .i64 y5, .int .i64 y6] 31) ∧ Below w.heap.size w W ∧ w2.heap.size < W.heap.size) ?_ (fun W4 hW => ?_)
    · rw [← List.setIfInBounds_toArray, HYA.out]
      have hk : Below w2.heap.size w2 (w2.alloc (.cells #[.int .i64 y0, .int .i64 y1, .int .i64 y2, .int .i64 y3, .int .i64 y4, .int .i64 y5, .int .i64 y6] 31)) := by go_grown
      exact ⟨box_keep hk hb (by omega), box_keep hk hs (by omega), box_new _ _ rfl _ _, B0.trans (hk.mono (by omega)), by simp⟩
    have zz : w.heap.size + 1 < w2.heap.size := z0
    clear hb hs B0 z0 dx sx HV HYA
    obtain ⟨hb, hs, hy, B0, z0⟩ := hW
    go_wp2_with (first | (refine wpList_load_box 30 (.tmp 5) rfl rfl (w.heap.size) rfl 30 #[.int .i64 s.places, .slice q.wa q.wl q.wc, .int .i64 s.pn, .int .i64 s.pd, .slice q.ea q.el q.ec, .slice q.ca q.cl q.cc, .slice q.ga q.gl q.gc, .int .i64 s.allow, .int .i64 s.unit, .int .i64 s.cap, .int .i64 s.paidBreak, .int .i64 s.autoAfter, .int .i64 s.autoBreak, .int .i64 s.dayReg, .int .i64 s.dayOver, .int .i64 s.weekReg, .int .i64 s.nightFrom, .int .i64 s.nightTo, .slice q.ra q.rl q.rc, .int .i64 s.diff, .int .i64 s.least, .int .i64 s.fault, .slice q.ta q.tl q.tc] hb setup_big ?_) | (refine wpList_load_box 31 (.tmp 7) rfl rfl (w.heap.size + 1) rfl 31 #[.int .i64 x0, .int .i64 x1, .int .i64 x2, .int .i64 x3, .int .i64 x4, .int .i64 x5, .int .i64 x6] hs seven_big ?_))
    refine (pay_Of_is s q worker x0 x1 x2 x3 x4 x5 x6 3600 0 0 c1 c2 c3 c4 c5 c6 b m g 0 _ (h.below B0) HP.out).mono ?_
    rintro e5 w5 ⟨rfl, k5⟩
    replace hb := box_keep k5 hb (by omega)
    replace hy := box_keep k5 hy z0
    replace B0 := B0.trans (k5.mono (by omega))
    replace z0 := Nat.lt_of_lt_of_le z0 k5.size
    clear k5 hs
    have ha : (w5.alloc (.cells #[.int .i64 0, .int .i64 c1, .int .i64 c2, .int .i64 c3, .int .i64 c4, .int .i64 c5, .int .i64 c6] 31)).heap[w5.heap.size]? = some (.cells #[.int .i64 0, .int .i64 c1, .int .i64 c2, .int .i64 c3, .int .i64 c4, .int .i64 c5, .int .i64 c6] 31) := box_new _ _ rfl _ _
    have hk : Below w5.heap.size w5 (w5.alloc (.cells #[.int .i64 0, .int .i64 c1, .int .i64 c2, .int .i64 c3, .int .i64 c4, .int .i64 c5, .int .i64 c6] 31)) := by go_grown
    replace hb := box_keep hk hb (by omega)
    replace hy := box_keep hk hy z0
    replace B0 := B0.trans (hk.mono (by omega))
    clear hk
    go_wp2_with (first | (refine wpList_load_box 30 (.tmp 5) rfl rfl (w.heap.size) rfl 30 #[.int .i64 s.places, .slice q.wa q.wl q.wc, .int .i64 s.pn, .int .i64 s.pd, .slice q.ea q.el q.ec, .slice q.ca q.cl q.cc, .slice q.ga q.gl q.gc, .int .i64 s.allow, .int .i64 s.unit, .int .i64 s.cap, .int .i64 s.paidBreak, .int .i64 s.autoAfter, .int .i64 s.autoBreak, .int .i64 s.dayReg, .int .i64 s.dayOver, .int .i64 s.weekReg, .int .i64 s.nightFrom, .int .i64 s.nightTo, .slice q.ra q.rl q.rc, .int .i64 s.diff, .int .i64 s.least, .int .i64 s.fault, .slice q.ta q.tl q.tc] hb setup_big ?_) | (refine wpList_load_box 31 (.tmp 13) rfl rfl w2.heap.size rfl 31 #[.int .i64 y0, .int .i64 y1, .int .i64 y2, .int .i64 y3, .int .i64 y4, .int .i64 y5, .int .i64 y6] hy seven_big ?_))
    refine (pay_Of_is s q worker y0 y1 y2 y3 y4 y5 y6 3600 0 0 d1 d2 d3 d4 d5 d6 b m2 g2 0 _ (h.below B0) HP2.out).mono ?_
    rintro e6 w6 ⟨rfl, k6⟩
    replace ha := box_keep k6 ha (by simp)
    replace B0 := B0.trans (k6.mono (by have := B0.size; omega))
    have z6 : w5.heap.size < w6.heap.size := by have := k6.size; simp at this; omega
    clear k6 hb hy
    have hd : (w6.alloc (.cells #[.int .i64 0, .int .i64 d1, .int .i64 d2, .int .i64 d3, .int .i64 d4, .int .i64 d5, .int .i64 d6] 31)).heap[w6.heap.size]? = some (.cells #[.int .i64 0, .int .i64 d1, .int .i64 d2, .int .i64 d3, .int .i64 d4, .int .i64 d5, .int .i64 d6] 31) := box_new _ _ rfl _ _
    have hk : Below w6.heap.size w6 (w6.alloc (.cells #[.int .i64 0, .int .i64 d1, .int .i64 d2, .int .i64 d3, .int .i64 d4, .int .i64 d5, .int .i64 d6] 31)) := by go_grown
    replace ha := box_keep hk ha (by omega)
    replace B0 := B0.trans (hk.mono (by have := B0.size; omega))
    have hcv := fun j hj => seven_cell ha j hj
    have hdv := fun j hj => seven_cell hd j hj
    have HCV := Lib.hid hcv
    have HDV := Lib.hid hdv
    clear hk ha hd hcv hdv hkk
    go_wp2_with fail
    generalize w6.alloc (.cells #[.int .i64 0, .int .i64 d1, .int .i64 d2, .int .i64 d3, .int .i64 d4, .int .i64 d5, .int .i64 d6] 31) = V2 at *
    go_loopw [24] (fun i wr => ∃ k : Nat, k ≤ 7 ∧ i = .int .i64 k ∧ ∃ n, wr = V2.drewN n) (fun i _ => 7 - (intOf i).toNat)
    case atStart => exact ⟨0, by omega, rfl, 0, rfl⟩
    case round =>
      obtain ⟨k, hk, rfl, n, rfl⟩ := hrel
      by_cases hlt : k < 7
      · have dd0 : V2.cell? ⟨w5.heap.size, k, none⟩ = some (.int .i64 ([0, c1, c2, c3, c4, c5, c6].getD k 0)) := HCV.out k hlt
        have dd1 : V2.cell? ⟨w6.heap.size, k, none⟩ = some (.int .i64 ([0, d1, d2, d3, d4, d5, d6].getD k 0)) := HDV.out k hlt
        obtain ⟨p1, p2⟩ := HMO.out k hlt
        have hki : (k : Int) < 7 := by omega
        generalize [0, c1, c2, c3, c4, c5, c6].getD k 0 = a at *
        generalize [0, d1, d2, d3, d4, d5, d6].getD k 0 = c at *
        by_cases e : k = kk
        · subst e
          have q3 : decide (c < a) = false := by simp; omega
          have P1 := Lib.hid p1
          clear p1
          go_wp2_with fail
          go_quiet (fail)
          go_wp2
          go_roundw
          case rel => exact ⟨k + 1, by omega, by go_num, _, rfl⟩
          case measure => simp [intOf]; omega
        · obtain rfl := p1 e
          have q1 : ((k : Int) == (kk : Int)) = false := by simp; omega
          have q2 : ((k : Int) != (kk : Int)) = true := by simp; omega
          go_wp2_with fail
          go_quiet (fail)
          go_wp2
          go_roundw
          case rel => exact ⟨k + 1, by omega, by go_num, _, rfl⟩
          case measure => simp [intOf]; omega
      · obtain rfl : k = 7 := by omega
        go_wp2_with fail
        go_ret
        exact ⟨rfl, (below_drewN_iff n).2 B0⟩

end Go.Proofs.Ytjcfflpiajefmaa
