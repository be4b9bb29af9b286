/- pay.Of's loop and what follows. -/
import Derived.Test.YtjcfflpiajefmaaPayOf
import Derived.ArgAppend
import Derived.Test.YtjcfflpiajefmaaContains
set_option linter.unusedSimpArgs false
set_option linter.unusedVariables false
namespace Go.Proofs.Ytjcfflpiajefmaa
open Go.RowKit Lu

theorem pay_twice (s : Setup) (q : Slices) (rate cat r : Int) (w : World) (h1 : 0 ≤ rate ∧ rate ≤ 100000) (h2 : 0 ≤ s.diff ∧ s.diff ≤ 100000) (hc : 0 ≤ cat ∧ cat ≤ 6) (hr : twiceP rate s.diff cat = r) :
    Calls Try.prog 29 #[.agg #[.int .i64 s.places, .slice q.wa q.wl q.wc, .int .i64 s.pn, .int .i64 s.pd, .slice q.ea q.el q.ec, .slice q.ca q.cl q.cc, .slice q.ga q.gl q.gc, .int .i64 s.allow, .int .i64 s.unit, .int .i64 s.cap, .int .i64 s.paidBreak, .int .i64 s.autoAfter, .int .i64 s.autoBreak, .int .i64 s.dayReg, .int .i64 s.dayOver, .int .i64 s.weekReg, .int .i64 s.nightFrom, .int .i64 s.nightTo, .slice q.ra q.rl q.rc, .int .i64 s.diff, .int .i64 s.least, .int .i64 s.fault, .slice q.ta q.tl q.tc], .int .i64 rate, .int .i64 cat] w fun e w' => e = .returned (.int .i64 r) ∧ Below w.heap.size w w' := by
  unfold twiceP at hr
  by_cases h : cat ≤ 3
  · rw [if_pos h] at hr
    exact twice_low s q rate cat r w h1 ⟨hc.1, h⟩ hr
  · rw [if_neg h] at hr
    exact twice_high s q rate cat r w h1 h2 (by omega) hr


set_option maxRecDepth 100000 in
set_option maxHeartbeats 2000000 in
theorem pay_Of_pays (s : Setup) (q : Slices) (worker x0 x1 x2 x3 x4 x5 x6 el tier : Int) (w : World) (h : SetupIs w s q) (hc : setupP s = true) (hw : 0 ≤ worker ∧ worker < s.rates.length) (rate : Int) (C : Nat → Int) (b m g : Int) (hrt : s.rates.getD worker.toNat 0 = rate) (hC : ∀ j : Nat, j < 7 → centP rate s.diff j ([x0, x1, x2, x3, x4, x5, x6].getD j 0) = C j) (hrate : 0 ≤ rate ∧ rate ≤ 100000) (hdiff : 0 ≤ s.diff ∧ s.diff ≤ 100000) (hleast : 0 ≤ s.least ∧ s.least ≤ 100000) (htiers : ∀ t ∈ s.tiers, 0 ≤ t.2 ∧ t.2 ≤ 100000) (hbn : (if 0 ≤ tier ∧ tier < s.tiers.length then (halfP (secP el * (s.tiers.getD tier.toNat (0, 0)).2) 3600).1 else 0) = b) (hmn : moreP (upP (paidTo (fun j => [x0, x1, x2, x3, x4, x5, x6].getD j 0) 7 * s.least) 3600).1 (C 1 + C 2 + C 3 + C 4 + C 5 + C 6 + b) = m) (hgn : C 1 + C 2 + C 3 + C 4 + C 5 + C 6 + b + m = g) :
    Calls Try.prog 16 #[.agg #[.int .i64 s.places, .slice q.wa q.wl q.wc, .int .i64 s.pn, .int .i64 s.pd, .slice q.ea q.el q.ec, .slice q.ca q.cl q.cc, .slice q.ga q.gl q.gc, .int .i64 s.allow, .int .i64 s.unit, .int .i64 s.cap, .int .i64 s.paidBreak, .int .i64 s.autoAfter, .int .i64 s.autoBreak, .int .i64 s.dayReg, .int .i64 s.dayOver, .int .i64 s.weekReg, .int .i64 s.nightFrom, .int .i64 s.nightTo, .slice q.ra q.rl q.rc, .int .i64 s.diff, .int .i64 s.least, .int .i64 s.fault, .slice q.ta q.tl q.tc], .int .i64 worker, .agg #[.int .i64 x0, .int .i64 x1, .int .i64 x2, .int .i64 x3, .int .i64 x4, .int .i64 x5, .int .i64 x6], .int .i64 el, .int .i64 tier] w fun e w' => e = .returned (.tuple #[.agg #[.int .i64 0, .int .i64 (C 1), .int .i64 (C 2), .int .i64 (C 3), .int .i64 (C 4), .int .i64 (C 5), .int .i64 (C 6)], .int .i64 b, .int .i64 m, .int .i64 g, .int .i64 0]) ∧ Below w.heap.size w w' := by
  have HC := Lib.hid hc
  clear hc
  have hl := h.rates.1
  have d0 : decide (worker < 0) = false := by simp; omega
  have d1 : decide ((q.rl : Int) ≤ worker) = false := by simp; omega
  obtain ⟨rb, roff, hra, hrc⟩ := h.rates.2.2.2.resolve_left (by omega)
  have hrc' := hrc worker.toNat (by omega)
  rw [hrt] at hrc'
  have hrb : rb < w.heap.size := World.block_lt_of_cell? w _ hrc'
  obtain ⟨Y, hY⟩ : ∃ Y : Nat → Int, ∀ j, [x0, x1, x2, x3, x4, x5, x6].getD j 0 = Y j := ⟨_, fun _ => rfl⟩
  simp only [hY] at hC
  rw [show (fun j => [x0, x1, x2, x3, x4, x5, x6].getD j 0) = Y from funext hY] at hmn
  obtain ⟨L, eL, hup⟩ : ∃ L eL, upP (paidTo Y 7 * s.least) 3600 = (L, eL) := ⟨_, _, rfl⟩
  have hp7 := paidTo_range Y 7
  have hpl := mul_range hp7 hleast
  have hLr := up_range hpl
  rw [hup] at hmn hLr
  have hbr0 : 0 ≤ b ∧ b ≤ 362880000001 := by
    rw [← hbn]
    split
    · rename_i hcnd
      have := half_range (b := 3600) (mul_range (secP_range el) (htiers (s.tiers.getD tier.toNat (0, 0)) (getD_mem2 (by omega)))) (by decide)
      omega
    · omega
  have hc1r : 0 ≤ C 1 ∧ C 1 ≤ 362880000001 := by rw [← hC 1 (by decide)]; exact centP_range hrate hdiff (by decide)
  have hc2r : 0 ≤ C 2 ∧ C 2 ≤ 362880000001 := by rw [← hC 2 (by decide)]; exact centP_range hrate hdiff (by decide)
  have hc3r : 0 ≤ C 3 ∧ C 3 ≤ 362880000001 := by rw [← hC 3 (by decide)]; exact centP_range hrate hdiff (by decide)
  have hc4r : 0 ≤ C 4 ∧ C 4 ≤ 362880000001 := by rw [← hC 4 (by decide)]; exact centP_range hrate hdiff (by decide)
  have hc5r : 0 ≤ C 5 ∧ C 5 ≤ 362880000001 := by rw [← hC 5 (by decide)]; exact centP_range hrate hdiff (by decide)
  have hc6r : 0 ≤ C 6 ∧ C 6 ≤ 362880000001 := by rw [← hC 6 (by decide)]; exact centP_range hrate hdiff (by decide)
  have hsum := sumP_cents hc1r hc2r hc3r hc4r hc5r hc6r hbr0
  have HSUM := Lib.hid hsum
  have HUP := Lib.hid hup
  have HB := Lib.hid hbn
  have HM := Lib.hid hmn
  have HG := Lib.hid hgn
  have HTI := Lib.hid htiers
  clear hsum hup hbn hmn hgn htiers
  have HY := Lib.hid hY
  have HCC := Lib.hid hC
  have HRC := Lib.hid hrc'
  have HRA := Lib.hid hra
  clear hrc hrc' hrt hC hY hra
  have hb0 : (((w.alloc (.cells #[.int .i64 s.places, .slice q.wa q.wl q.wc, .int .i64 s.pn, .int .i64 s.pd, .slice q.ea q.el q.ec, .slice q.ca q.cl q.cc, .slice q.ga q.gl q.gc, .int .i64 s.allow, .int .i64 s.unit, .int .i64 s.cap, .int .i64 s.paidBreak, .int .i64 s.autoAfter, .int .i64 s.autoBreak, .int .i64 s.dayReg, .int .i64 s.dayOver, .int .i64 s.weekReg, .int .i64 s.nightFrom, .int .i64 s.nightTo, .slice q.ra q.rl q.rc, .int .i64 s.diff, .int .i64 s.least, .int .i64 s.fault, .slice q.ta q.tl q.tc] 30)).alloc (.cells #[.int .i64 x0, .int .i64 x1, .int .i64 x2, .int .i64 x3, .int .i64 x4, .int .i64 x5, .int .i64 x6] 31)).alloc (.cells #[.int .i64 0, .int .i64 0, .int .i64 0, .int .i64 0, .int .i64 0, .int .i64 0, .int .i64 0] 31)).heap[w.heap.size]? = some (.cells #[.int .i64 s.places, .slice q.wa q.wl q.wc, .int .i64 s.pn, .int .i64 s.pd, .slice q.ea q.el q.ec, .slice q.ca q.cl q.cc, .slice q.ga q.gl q.gc, .int .i64 s.allow, .int .i64 s.unit, .int .i64 s.cap, .int .i64 s.paidBreak, .int .i64 s.autoAfter, .int .i64 s.autoBreak, .int .i64 s.dayReg, .int .i64 s.dayOver, .int .i64 s.weekReg, .int .i64 s.nightFrom, .int .i64 s.nightTo, .slice q.ra q.rl q.rc, .int .i64 s.diff, .int .i64 s.least, .int .i64 s.fault, .slice q.ta q.tl q.tc] 30) := box_keep (B := w.heap.size + 1) (by go_grown) (box_new w _ rfl _ _) (by omega)
  go_enter Try.func16, Try.ntmps16
  go_wp2_with (refine wpList_load_box 30 (.tmp 5) rfl rfl w.heap.size rfl 30 #[.int .i64 s.places, .slice q.wa q.wl q.wc, .int .i64 s.pn, .int .i64 s.pd, .slice q.ea q.el q.ec, .slice q.ca q.cl q.cc, .slice q.ga q.gl q.gc, .int .i64 s.allow, .int .i64 s.unit, .int .i64 s.cap, .int .i64 s.paidBreak, .int .i64 s.autoAfter, .int .i64 s.autoBreak, .int .i64 s.dayReg, .int .i64 s.dayOver, .int .i64 s.weekReg, .int .i64 s.nightFrom, .int .i64 s.nightTo, .slice q.ra q.rl q.rc, .int .i64 s.diff, .int .i64 s.least, .int .i64 s.fault, .slice q.ta q.tl q.tc] hb0 setup_big ?_)
  refine (setup_Check s q true _ (h.below (by go_grown)) HC.out).mono ?_
  rintro e w1 ⟨rfl, k1⟩
  have B1 : Below (w.heap.size + 3) (((w.alloc (.cells #[.int .i64 s.places, .slice q.wa q.wl q.wc, .int .i64 s.pn, .int .i64 s.pd, .slice q.ea q.el q.ec, .slice q.ca q.cl q.cc, .slice q.ga q.gl q.gc, .int .i64 s.allow, .int .i64 s.unit, .int .i64 s.cap, .int .i64 s.paidBreak, .int .i64 s.autoAfter, .int .i64 s.autoBreak, .int .i64 s.dayReg, .int .i64 s.dayOver, .int .i64 s.weekReg, .int .i64 s.nightFrom, .int .i64 s.nightTo, .slice q.ra q.rl q.rc, .int .i64 s.diff, .int .i64 s.least, .int .i64 s.fault, .slice q.ta q.tl q.tc] 30)).alloc (.cells #[.int .i64 x0, .int .i64 x1, .int .i64 x2, .int .i64 x3, .int .i64 x4, .int .i64 x5, .int .i64 x6] 31)).alloc (.cells #[.int .i64 0, .int .i64 0, .int .i64 0, .int .i64 0, .int .i64 0, .int .i64 0, .int .i64 0] 31)) w1 := k1.mono (by simp)
  clear k1
  obtain ⟨hc1, hf1⟩ := old_cells B1
  have z1 : w.heap.size + 3 ≤ w1.heap.size := by have := B1.size; simpa using this
  have Bw1 : Below w.heap.size w w1 := Below.trans (by go_grown) (B1.mono (by omega))
  have hb1 := box_keep B1 hb0 (by omega)
  have c18 : w1.cell? ⟨w.heap.size, 18, none⟩ = some (.slice q.ra q.rl q.rc) := by rw [hc1 _ _ (by omega)]; simp [go_sem]
  rw [HRA.out] at c18
  have c20a : w1.cell? ⟨w.heap.size, 20, none⟩ = some (.int .i64 s.least) := by rw [hc1 _ _ (by omega)]; simp [go_sem]
  have c22 : w1.cell? ⟨w.heap.size, 22, none⟩ = some (.slice q.ta q.tl q.tc) := by rw [hc1 _ _ (by omega)]; simp [go_sem]
  have crt : w1.cell? ⟨rb, roff + worker.toNat, none⟩ = some (.int .i64 rate) := keepC Bw1 HRC.out hrb
  have cx : ∀ j : Nat, j < 7 → w1.cell? ⟨w.heap.size + 1, j, none⟩ = some (.int .i64 ([x0, x1, x2, x3, x4, x5, x6].getD j 0)) := by
    intro j hj
    rw [hc1 _ _ (by omega)]
    rcases (show j = 0 ∨ j = 1 ∨ j = 2 ∨ j = 3 ∨ j = 4 ∨ j = 5 ∨ j = 6 by omega) with rfl | rfl | rfl | rfl | rfl | rfl | rfl <;> simp [go_sem]
  have cc : ∀ j : Nat, j < 7 → w1.cell? ⟨w.heap.size + 2, j, none⟩ = some (.int .i64 0) := by
    intro j hj
    rw [hc1 _ _ (by omega)]
    rcases (show j = 0 ∨ j = 1 ∨ j = 2 ∨ j = 3 ∨ j = 4 ∨ j = 5 ∨ j = 6 by omega) with rfl | rfl | rfl | rfl | rfl | rfl | rfl <;> simp [go_sem]
  have cf : ∀ j : Nat, j < 7 → w1.frozen? ⟨w.heap.size + 2, j, none⟩ = false := by
    intro j hj
    rw [hf1 _ _ (by omega)]
    rcases (show j = 0 ∨ j = 1 ∨ j = 2 ∨ j = 3 ∨ j = 4 ∨ j = 5 ∨ j = 6 by omega) with rfl | rfl | rfl | rfl | rfl | rfl | rfl <;> simp [go_sem]
  clear hc1 hf1
  simp only [HY.out] at cx
  have HX := Lib.hid cx
  have HZ := Lib.hid cc
  have HF := Lib.hid cf
  clear cx cc cf
  go_wp2_with fail
  go_loopw [15, 34] (fun paid i wr => ∃ k : Nat, k ≤ 7 ∧ i = .int .i64 k ∧ paid = .int .i64 (paidTo Y k) ∧ Below (w.heap.size + 2) w1 wr ∧ w.heap.size + 3 ≤ wr.heap.size ∧ (∀ j : Nat, j < 7 → wr.cell? ⟨w.heap.size + 2, j, none⟩ = some (.int .i64 (if 1 ≤ j ∧ j < k then C j else 0))) ∧ (∀ j : Nat, j < 7 → wr.frozen? ⟨w.heap.size + 2, j, none⟩ = false)) (fun _ i _ => 7 - (intOf i).toNat)
  case atStart =>
    refine ⟨0, by omega, rfl, rfl, Below.refl _ _, z1, fun j hj => ?_, HF.out⟩
    rw [if_neg (by omega)]
    exact HZ.out j hj
  case round =>
    obtain ⟨k, hk, rfl, rfl, hb, hz, hcc, hff⟩ := hrel
    have HCELL := Lib.hid hcc
    have HFROZ := Lib.hid hff
    clear hcc hff
    by_cases hlt : k < 7
    · by_cases h0 : k = 0
      · subst h0
        go_wp2_with fail
        go_roundw
        case rel =>
          refine ⟨1, by omega, by go_num, rfl, hb, hz, fun j hj => ?_, HFROZ.out⟩
          have := HCELL.out j hj
          rw [if_neg (by omega)] at this ⊢
          exact this
        case measure => simp [intOf]
      · have hw1 : (0 : Int) ≤ worker := hw.1
        have hw2 : worker < (q.rl : Int) := by omega
        have hk7 : (k : Int) < 7 := by omega
        have dx : wr.cell? ⟨w.heap.size + 1, k, none⟩ = some (.int .i64 (Y k)) := keepC hb (HX.out k hlt) (by simp)
        have hbr := box_keep hb hb1 (by omega)
        have c18r : wr.cell? ⟨w.heap.size, 18, none⟩ = some (.slice (some ⟨rb, roff, none⟩) q.rl q.rc) := keepC hb c18 (by simp)
        have crtr : wr.cell? ⟨rb, roff + worker.toNat, none⟩ = some (.int .i64 rate) := keepC hb crt (by simp; omega)
        have e0 : ((k : Int) == 0) = false := by simp; omega
        have hlo := secP_range (Y k)
        have hpt := paidTo_range Y k
        have htw := twiceP_range (cat := (k : Int)) hrate hdiff (by omega)
        obtain ⟨n, hn⟩ : ∃ n, secP (Y k) = n := ⟨_, rfl⟩
        obtain ⟨t, ht⟩ : ∃ t, twiceP rate s.diff k = t := ⟨_, rfl⟩
        have hcv := HCC.out k hlt
        unfold centP at hcv
        have hps : paidTo Y (k + 1) = paidTo Y k + n := by show paidTo Y k + (if k = 0 then 0 else secP (Y k)) = _; rw [if_neg h0, hn]
        rw [hn, ht] at hcv
        rw [hn] at hlo
        rw [ht] at htw
        have hm := mul_range hlo htw
        generalize paidTo Y k = p at *
        have i1 : IntKind.i64.wrap (p + n) = p + n := IntWalk.i64_in _ (by omega)
        have i2 : IntKind.i64.wrap (n * t) = n * t := IntWalk.i64_in _ (by omega)
        have HN := Lib.hid hn
        have HT := Lib.hid ht
        have HV := Lib.hid hcv
        have HPS := Lib.hid hps
        clear hn ht hcv hps
        go_wp2_with fail
        refine (pay_seconds _ _ _ HN.out).mono ?_
        rintro e w2 ⟨rfl, rfl⟩
        go_wp2_with fail
        refine wp_region_held_drew (S := (fun w' => w'.heap[w.heap.size]? = some (.cells #[.int .i64 s.places, .slice q.wa q.wl q.wc, .int .i64 s.pn, .int .i64 s.pd, .slice q.ea q.el q.ec, .slice q.ca q.cl q.cc, .slice q.ga q.gl q.gc, .int .i64 s.allow, .int .i64 s.unit, .int .i64 s.cap, .int .i64 s.paidBreak, .int .i64 s.autoAfter, .int .i64 s.autoBreak, .int .i64 s.dayReg, .int .i64 s.dayOver, .int .i64 s.weekReg, .int .i64 s.nightFrom, .int .i64 s.nightTo, .slice q.ra q.rl q.rc, .int .i64 s.diff, .int .i64 s.least, .int .i64 s.fault, .slice q.ta q.tl q.tc] 30) ∧ w'.cell? ⟨w.heap.size, 18, none⟩ = some (.slice (some ⟨rb, roff, none⟩) q.rl q.rc) ∧ w'.cell? ⟨rb, roff + worker.toNat, none⟩ = some (.int .i64 rate))) (by kernel_rfl) ?_ (fun hHeld => ?_)
        · exact ⟨hbr, c18r, crtr⟩
        refine wpAnyH_take (i := 0) (oi := ⟨some 46, _, _, _, _, none⟩) (v := ?_) rfl (by kernel_rfl) (by kernel_rfl) (by kernel_rfl) (fun _ _ _ h => h) (Or.inl ⟨by rfl, ?_⟩) (by assumption) ?_
        rotate_left
        · intro wz hSw; (try dsimp only at hSw); go_simp; (try with_reducible rfl)
        try simp only [Act.put, List.setIfInBounds_toArray, List.set_cons_zero, List.set_cons_succ]
        refine wpAnyH_take (i := 1) (oi := ⟨some 47, _, _, _, _, none⟩) (v := ?_) rfl (by kernel_rfl) (by kernel_rfl) (by kernel_rfl) (fun _ _ _ h => h) (Or.inl ⟨by rfl, ?_⟩) (by assumption) ?_
        rotate_left
        · intro wz hSw; (try dsimp only at hSw); go_simp; (try with_reducible rfl)
        try simp only [Act.put, List.setIfInBounds_toArray, List.set_cons_zero, List.set_cons_succ]
        refine wpAnyH_take (i := 2) (oi := ⟨some 48, _, _, _, _, none⟩) (v := _) rfl (by kernel_rfl) (by kernel_rfl) (by kernel_rfl) (fun _ _ _ h => h) (Or.inl ⟨by rfl, runs_load_box 30 (.tmp 5) rfl w.heap.size rfl 30 _ (fun _ h => h.1) setup_big⟩) (by assumption) ?_
        try simp only [Act.put, List.setIfInBounds_toArray, List.set_cons_zero, List.set_cons_succ]
        refine wpAnyH_take (i := 3) (oi := ⟨some 49, _, _, _, _, none⟩) (v := ?_) rfl (by kernel_rfl) (by kernel_rfl) (by kernel_rfl) (fun _ _ _ h => h) (Or.inl ⟨by rfl, ?_⟩) (by assumption) ?_
        rotate_left
        · intro wz hSw; (try dsimp only at hSw); go_simp; (try with_reducible rfl)
        try simp only [Act.put, List.setIfInBounds_toArray, List.set_cons_zero, List.set_cons_succ]
        refine wpAnyH_take (i := 4) (oi := ⟨some 50, _, _, _, _, none⟩) (v := ?_) rfl (by kernel_rfl) (by kernel_rfl) (by kernel_rfl) (fun _ _ _ h => h) (Or.inl ⟨by rfl, ?_⟩) (by assumption) ?_
        rotate_left
        · intro wz hSw; (try dsimp only at hSw); go_simp; (try with_reducible rfl)
        try simp only [Act.put, List.setIfInBounds_toArray, List.set_cons_zero, List.set_cons_succ]
        refine wpAnyH_take (i := 5) (oi := ⟨some 51, _, _, _, _, none⟩) (v := ?_) rfl (by kernel_rfl) (by kernel_rfl) (by kernel_rfl) (fun _ _ _ h => h) (Or.inl ⟨by rfl, ?_⟩) (by assumption) ?_
        rotate_left
        · intro wz hSw; (try dsimp only at hSw); go_simp; (try with_reducible rfl)
        try simp only [Act.put, List.setIfInBounds_toArray, List.set_cons_zero, List.set_cons_succ]
        refine wpAnyH_take (i := 6) (oi := ⟨some 52, _, _, _, _, none⟩) (v := ?_) rfl (by kernel_rfl) (by kernel_rfl) (by kernel_rfl) (fun _ _ _ h => h) (Or.inl ⟨by rfl, ?_⟩) (by assumption) ?_
        rotate_left
        · intro wz hSw; (try dsimp only at hSw); go_simp; (try rw [if_pos hw2]); (try with_reducible rfl)
        try simp only [Act.put, List.setIfInBounds_toArray, List.set_cons_zero, List.set_cons_succ]
        refine wpAnyH_take (i := 7) (oi := ⟨some 53, _, _, _, _, none⟩) (v := ?_) rfl (by kernel_rfl) (by kernel_rfl) (by kernel_rfl) (fun _ _ _ h => h) (Or.inl ⟨by rfl, ?_⟩) (by assumption) ?_
        rotate_left
        · intro wz hSw; (try dsimp only at hSw); go_simp; (try with_reducible rfl)
        try simp only [Act.put, List.setIfInBounds_toArray, List.set_cons_zero, List.set_cons_succ]
        refine wpAnyH_take (i := 8) (oi := ⟨some 54, _, _, _, _, none⟩) (v := ?_) rfl (by kernel_rfl) (by kernel_rfl) (by kernel_rfl) (fun _ _ _ h => h) (Or.inl ⟨by rfl, ?_⟩) (by assumption) ?_
        rotate_left
        · intro wz hSw; (try dsimp only at hSw); go_simp; (try with_reducible rfl)
        try simp only [Act.put, List.setIfInBounds_toArray, List.set_cons_zero, List.set_cons_succ]
        refine wpAnyH_ready (rs := [9]) (by kernel_rfl) (by simp) ?_
        refine AllReadyH.cons (o := ⟨some 55, _, _, _, _, none⟩) rfl (fun K hK => ?_) AllReadyH.nil
        go_simp
        refine (pay_twice s q rate k _ _ hrate hdiff (by omega) HT.out).mono ?_
        rintro e w2 ⟨rfl, k2⟩
        refine hK.out _ _ ?_ (fun hHeld => ?_)
        · exact ⟨box_keep k2 hbr (by first | omega | (simp; omega)), keepD k2 c18r, keepD k2 crtr⟩
        clear hK K
        try simp only [Act.put, List.setIfInBounds_toArray, List.set_cons_zero, List.set_cons_succ]
        refine wpAnyH_take (i := 10) (oi := ⟨some 56, _, _, _, _, none⟩) (v := ?_) rfl (by kernel_rfl) (by kernel_rfl) (by kernel_rfl) (fun _ _ _ h => h) (Or.inl ⟨by rfl, ?_⟩) (by assumption) ?_
        rotate_left
        · intro wz hSw; (try dsimp only at hSw); go_simp; (try with_reducible rfl)
        try simp only [Act.put, List.setIfInBounds_toArray, List.set_cons_zero, List.set_cons_succ]
        refine wpAnyH_ready (rs := [11]) (by kernel_rfl) (by simp) ?_
        refine AllReadyH.cons (o := ⟨some 57, _, _, _, _, none⟩) rfl (fun K hK => ?_) AllReadyH.nil
        go_simp
        refine (pay_half _ _ _ _ (by unfold In; omega) (by decide) HV.out).mono ?_
        rintro e w3 ⟨rfl, n3, rfl⟩
        have k3 := (below_drewN_iff n3).2 k2
        have k5 : Below (w.heap.size + 2) (w2.drewN n3) ((w2.drewN n3).setCell ⟨w.heap.size + 2, k, none⟩ (.int .i64 (C k))) := by go_grown
        refine hK.out _ _ ?_ (fun hHeld => ?_)
        · exact ⟨box_keep k3 hbr (by first | omega | (simp; omega)), keepD k3 c18r, keepD k3 crtr⟩
        clear hK K
        try simp only [Act.put, List.setIfInBounds_toArray, List.set_cons_zero, List.set_cons_succ]
        refine wpAnyH_take (i := 12) (oi := ⟨some 58, _, _, _, _, none⟩) (v := ?_) rfl (by kernel_rfl) (by kernel_rfl) (by kernel_rfl) (fun _ _ _ h => h) (Or.inl ⟨by rfl, ?_⟩) (by assumption) ?_
        rotate_left
        · intro wz hSw; (try dsimp only at hSw); go_simp; (try rw [if_pos hk7]); (try with_reducible rfl)
        try simp only [Act.put, List.setIfInBounds_toArray, List.set_cons_zero, List.set_cons_succ]
        refine wpAnyH_ready (rs := [13]) (by kernel_rfl) (by simp) ?_
        refine AllReadyH.cons (o := ⟨none, _, _, _, _, none⟩) rfl (fun K hK => ?_) AllReadyH.nil
        have e1 : w2.cell? ⟨w.heap.size + 2, k, none⟩ = some (.int .i64 (if 1 ≤ k ∧ k < k then C k else 0)) := keepD k2 (HCELL.out k hlt)
        have e2 : w2.frozen? ⟨w.heap.size + 2, k, none⟩ = false := keepF k2 (HFROZ.out k hlt) (by simp; omega)
        have zz : w.heap.size + 2 < w2.heap.size := by have := k2.size; simp at this; omega
        go_simp
        refine hK.out _ _ ?_ (fun hHeld => ?_)
        · exact ⟨box_keep k5 (box_keep k3 hbr (by first | omega | (simp; omega))) (by omega), keepC k5 (keepD k3 c18r) (by simp), keepC k5 (keepD k3 crtr) (by simp; omega)⟩
        clear hK K
        try simp only [Act.put, List.setIfInBounds_toArray, List.set_cons_zero, List.set_cons_succ]
        refine wpAnyH_done (by kernel_rfl) ?_ _
        go_wp2
        go_roundw
        case rel =>
          refine ⟨k + 1, by omega, by go_num, by rw [HPS.out], ?_, ?_, fun j hj => ?_, fun j hj => ?_⟩
          · exact (hb.trans ((Below.refl _ _).drew)).trans ((k3.mono (by simp; omega)).trans k5)
          · exact Nat.le_trans hz (Nat.le_trans k3.size k5.size)
          · by_cases hjk : j = k
            · subst hjk
              rw [if_pos (by omega)]
              simp [go_sem, e1]
            · have c1 := keepD k2 (HCELL.out j hj)
              rw [show (if 1 ≤ j ∧ j < k + 1 then C j else 0) = if 1 ≤ j ∧ j < k then C j else 0 by split <;> split <;> first | rfl | omega]
              have hne : ¬ k = j := fun h => hjk h.symm
              simp [go_sem, hne, c1]
          · have f1 := keepF k2 (HFROZ.out j hj) (by simp; omega)
            simp [go_sem, f1]
        case measure => simp [intOf]; omega
    · obtain rfl : k = 7 := by omega
      generalize paidTo Y 7 = p at *
      have a0 : wr.cell? ⟨w.heap.size + 2, 0, none⟩ = some (.int .i64 0) := by simpa using HCELL.out 0 (by omega)
      have a1 : wr.cell? ⟨w.heap.size + 2, 1, none⟩ = some (.int .i64 (C 1)) := by simpa using HCELL.out 1 (by omega)
      have a2 : wr.cell? ⟨w.heap.size + 2, 2, none⟩ = some (.int .i64 (C 2)) := by simpa using HCELL.out 2 (by omega)
      have a3 : wr.cell? ⟨w.heap.size + 2, 3, none⟩ = some (.int .i64 (C 3)) := by simpa using HCELL.out 3 (by omega)
      have a4 : wr.cell? ⟨w.heap.size + 2, 4, none⟩ = some (.int .i64 (C 4)) := by simpa using HCELL.out 4 (by omega)
      have a5 : wr.cell? ⟨w.heap.size + 2, 5, none⟩ = some (.int .i64 (C 5)) := by simpa using HCELL.out 5 (by omega)
      have a6 : wr.cell? ⟨w.heap.size + 2, 6, none⟩ = some (.int .i64 (C 6)) := by simpa using HCELL.out 6 (by omega)
      have f0 := HFROZ.out 0 (by omega)
      have f1 := HFROZ.out 1 (by omega)
      have f2 := HFROZ.out 2 (by omega)
      have f3 := HFROZ.out 3 (by omega)
      have f4 := HFROZ.out 4 (by omega)
      have f5 := HFROZ.out 5 (by omega)
      have f6 := HFROZ.out 6 (by omega)
      have c22r : wr.cell? ⟨w.heap.size, 22, none⟩ = some (.slice q.ta q.tl q.tc) := keepC hb c22 (by simp)
      have c20 : wr.cell? ⟨w.heap.size, 20, none⟩ = some (.int .i64 s.least) := keepC hb c20a (by simp)
      have bwr := hb
      by_cases t0 : tier < 0
      · have g0 : decide (0 ≤ tier) = false := by simp; omega
        obtain rfl : b = 0 := by rw [← HB.out, if_neg (by omega)]
        obtain ⟨i0, hi, hz0, hz1, hz2⟩ := info_parts infoInt
        have hold : ∀ b' : Addr, some (⟨w.heap.size + 2, 0, none⟩ : Addr) = some b' → ∀ j u, [Value.int .i64 0, .int .i64 (C 1), .int .i64 (C 2), .int .i64 (C 3), .int .i64 (C 4), .int .i64 (C 5), .int .i64 (C 6)][j]? = some u → (wr.alloc (.cells #[.int .i64 0] 3)).cell? (b'.add j) = some u := by
          intro b' hb' j u hu
          cases hb'
          rw [Addr.add_lit]
          have hj : j < 7 := by simpa using (List.getElem?_eq_some_iff.1 hu).1
          rcases (show j = 0 ∨ j = 1 ∨ j = 2 ∨ j = 3 ∨ j = 4 ∨ j = 5 ∨ j = 6 by omega) with rfl | rfl | rfl | rfl | rfl | rfl | rfl <;> obtain rfl := Option.some.inj hu
          · exact keepA _ a0
          · exact keepA _ a1
          · exact keepA _ a2
          · exact keepA _ a3
          · exact keepA _ a4
          · exact keepA _ a5
          · exact keepA _ a6
        have hnew : ∀ j u, [Value.int .i64 0][j]? = some u → (wr.alloc (.cells #[.int .i64 0] 3)).cell? ((⟨wr.heap.size, 0, none⟩ : Addr).add j) = some u := by
          intro j u hu
          rw [Addr.add_lit]
          obtain rfl : j = 0 := by have := (List.getElem?_eq_some_iff.1 hu).1; simpa using this
          obtain rfl := Option.some.inj hu
          simp [go_sem]
        have HOLD := Lib.hid hold
        have HNEW := Lib.hid hnew
        clear hold hnew
        go_wp2_with (at_builtin; (refine wpList_append_grows _ rfl (.tmp 80) (.tmp 82) 27 rfl 3 i0 (.int .i64 0) 1 8 Try.underlying27 hi hz0 hz1 hz2 rfl (by decide) (some ⟨w.heap.size + 2, 0, none⟩) 7 7 [.int .i64 0, .int .i64 (C 1), .int .i64 (C 2), .int .i64 (C 3), .int .i64 (C 4), .int .i64 (C 5), .int .i64 (C 6)] rfl (by simp) rfl HOLD.out ⟨wr.heap.size, 0, none⟩ 1 1 [.int .i64 0] rfl rfl HNEW.out (fun u hu => by rw [List.mem_singleton.1 hu]; rfl) (by decide) (by decide) (by decide) ?_; intro v1 W1 own1 grow1))
        have bW : Below wr.heap.size wr W1 := Below.grown ((Below.refl _ _).alloc (Nat.le_refl _) _) grow1 (by simp) (fun k hk => by cases hk)
        obtain ⟨A1, C1, hv1, cells1⟩ := Cells.of_own own1
        subst hv1
        clear own1 grow1
        have I1 : Ints W1 A1 8 [0, C 1, C 2, C 3, C 4, C 5, C 6, 0] := .of_cells rfl (by decide) (by
          intro z hz
          simp only [List.mem_cons, List.not_mem_nil, or_false] at hz
          unfold In
          rcases hz with rfl | rfl | rfl | rfl | rfl | rfl | rfl | rfl <;> omega) cells1
        go_wp2_with fail
        refine (num_Sum_is A1 8 _ _ _ _ _ I1 HSUM.out).mono ?_
        rintro e W2 ⟨rfl, rfl⟩
        have e0 := keepD bW a0
        have e1 := keepD bW a1
        have e2 := keepD bW a2
        have e3 := keepD bW a3
        have e4 := keepD bW a4
        have e5 := keepD bW a5
        have e6 := keepD bW a6
        have p0 := keepF bW f0 (by simp; omega)
        have p1 := keepF bW f1 (by simp; omega)
        have p2 := keepF bW f2 (by simp; omega)
        have p3 := keepF bW f3 (by simp; omega)
        have p4 := keepF bW f4 (by simp; omega)
        have p5 := keepF bW f5 (by simp; omega)
        have p6 := keepF bW f6 (by simp; omega)
        have el20 := keepD bW c20
        have zW : w.heap.size + 2 < W1.heap.size := by have := bW.size; omega
        have bWw : Below w.heap.size w W1 := Bw1.trans ((bwr.mono (by omega)).trans (bW.mono (by omega)))
        clear a0 a1 a2 a3 a4 a5 a6 f0 f1 f2 f3 f4 f5 f6 c20 bW bwr
        try clear hb0 hb1 B1 c18 c20a c22 crt z1 d0 d1 hrate hdiff hl
        go_wp2_with fail
        refine (num_Up_is _ _ _ _ _ (by unfold In; omega) (by decide) HUP.out).mono ?_
        rintro e W3 ⟨rfl, n3, rfl⟩
        go_wp2_with fail
        all_goals
          refine bodyPost_ret (v := .tuple #[.agg #[.int .i64 0, .int .i64 (C 1), .int .i64 (C 2), .int .i64 (C 3), .int .i64 (C 4), .int .i64 (C 5), .int .i64 (C 6)], .int .i64 0, .int .i64 m, .int .i64 g, .int .i64 0]) ?_ rfl ⟨rfl, ?_⟩
          · simp [results, Try.results16, go_sem, e0, e1, e2, e3, e4, e5, e6, zW]
            have hm := HM.out
            have hg := HG.out
            unfold moreP at hm
            first
              | (rw [if_pos (by omega)] at hm; exact ⟨by omega, by omega⟩)
              | (rw [if_neg (by omega)] at hm; exact ⟨by omega, by omega⟩)
          · refine bWw.trans ?_
            go_grown
            exact (below_drewN_iff _).2 (Below.refl _ _)
      · by_cases t1 : tier < q.tl
        · have g0 : decide (0 ≤ tier) = true := by simp; omega
          have htl := h.tiers.1
          obtain ⟨tb, toff, hta, htb, htc⟩ := h.tiers.2.2.2.resolve_left (by omega)
          have htc' := (htc tier.toNat (by omega)).2
          obtain ⟨bo, hbo⟩ : ∃ bo, (s.tiers.getD tier.toNat (0, 0)).2 = bo := ⟨_, rfl⟩
          rw [hbo] at htc'
          have hbor : 0 ≤ bo ∧ bo ≤ 100000 := by rw [← hbo]; exact HTI.out _ (getD_mem2 (by omega))
          have cbo : wr.cell? ⟨tb, toff + tier.toNat * 2 + 1, none⟩ = some (.int .i64 bo) := keepC hb (keepC Bw1 htc' htb) (by show tb < _; omega)
          rw [hta] at c22r
          have hbn := HB.out
          rw [if_pos ⟨by omega, by omega⟩, hbo] at hbn
          obtain ⟨n, hn⟩ : ∃ n, secP el = n := ⟨_, rfl⟩
          rw [hn] at hbn
          have hnr : 0 ≤ n ∧ n ≤ 604800 := hn ▸ secP_range el
          have hnb := mul_range hnr hbor
          have i2 : IntKind.i64.wrap (n * bo) = n * bo := IntWalk.i64_in _ (by omega)
          have g3 : (0 : Int) ≤ tier := by omega
          have HN := Lib.hid hn
          have HBV := Lib.hid hbn
          clear hn hbn hbo hta htc htc' htl hb0 hb1 B1 c18 c20a c22 crt z1 d0 d1 hrate hdiff hl
          go_wp2_with fail
          refine wp_region_held_drew (S := (fun w' => w'.cell? ⟨w.heap.size, 22, none⟩ = some (.slice (some ⟨tb, toff, none⟩) q.tl q.tc) ∧ w'.cell? ⟨tb, toff + tier.toNat * 2 + 1, none⟩ = some (.int .i64 bo))) (by kernel_rfl) ?_ (fun hHeld => ?_)
          · exact ⟨c22r, cbo⟩
          refine wpAnyH_take (i := 0) (oi := ⟨some 69, _, _, _, _, none⟩) (v := ?_) rfl (by kernel_rfl) (by kernel_rfl) (by kernel_rfl) (fun _ _ _ h => h) (Or.inl ⟨by rfl, ?_⟩) (by assumption) ?_
          rotate_left
          · intro wz hSw; (try dsimp only at hSw); go_simp; (try with_reducible rfl)
          try simp only [Act.put, List.setIfInBounds_toArray, List.set_cons_zero, List.set_cons_succ]
          refine wpAnyH_take (i := 2) (oi := ⟨some 71, _, _, _, _, none⟩) (v := ?_) rfl (by kernel_rfl) (by kernel_rfl) (by kernel_rfl) (fun _ _ _ h => h) (Or.inl ⟨by rfl, ?_⟩) (by assumption) ?_
          rotate_left
          · intro wz hSw; (try dsimp only at hSw); go_simp; (try with_reducible rfl)
          try simp only [Act.put, List.setIfInBounds_toArray, List.set_cons_zero, List.set_cons_succ]
          refine wpAnyH_take (i := 3) (oi := ⟨some 72, _, _, _, _, none⟩) (v := ?_) rfl (by kernel_rfl) (by kernel_rfl) (by kernel_rfl) (fun _ _ _ h => h) (Or.inl ⟨by rfl, ?_⟩) (by assumption) ?_
          rotate_left
          · intro wz hSw; (try dsimp only at hSw); go_simp; (try with_reducible rfl)
          try simp only [Act.put, List.setIfInBounds_toArray, List.set_cons_zero, List.set_cons_succ]
          refine wpAnyH_take (i := 4) (oi := ⟨some 73, _, _, _, _, none⟩) (v := ?_) rfl (by kernel_rfl) (by kernel_rfl) (by kernel_rfl) (fun _ _ _ h => h) (Or.inl ⟨by rfl, ?_⟩) (by assumption) ?_
          rotate_left
          · intro wz hSw; (try dsimp only at hSw); go_simp; (try with_reducible rfl)
          try simp only [Act.put, List.setIfInBounds_toArray, List.set_cons_zero, List.set_cons_succ]
          refine wpAnyH_take (i := 5) (oi := ⟨some 74, _, _, _, _, none⟩) (v := ?_) rfl (by kernel_rfl) (by kernel_rfl) (by kernel_rfl) (fun _ _ _ h => h) (Or.inl ⟨by rfl, ?_⟩) (by assumption) ?_
          rotate_left
          · intro wz hSw; (try dsimp only at hSw); go_simp; (try rw [if_pos t1]); (try with_reducible rfl)
          try simp only [Act.put, List.setIfInBounds_toArray, List.set_cons_zero, List.set_cons_succ]
          refine wpAnyH_take (i := 6) (oi := ⟨some 75, _, _, _, _, none⟩) (v := ?_) rfl (by kernel_rfl) (by kernel_rfl) (by kernel_rfl) (fun _ _ _ h => h) (Or.inl ⟨by rfl, ?_⟩) (by assumption) ?_
          rotate_left
          · intro wz hSw; (try dsimp only at hSw); go_simp; (try with_reducible rfl)
          try simp only [Act.put, List.setIfInBounds_toArray, List.set_cons_zero, List.set_cons_succ]
          refine wpAnyH_take (i := 7) (oi := ⟨some 76, _, _, _, _, none⟩) (v := ?_) rfl (by kernel_rfl) (by kernel_rfl) (by kernel_rfl) (fun _ _ _ h => h) (Or.inl ⟨by rfl, ?_⟩) (by assumption) ?_
          rotate_left
          · intro wz hSw; (try dsimp only at hSw); go_simp; (try with_reducible rfl)
          try simp only [Act.put, List.setIfInBounds_toArray, List.set_cons_zero, List.set_cons_succ]
          refine wpAnyH_ready (rs := [1]) (by kernel_rfl) (by simp) ?_
          refine AllReadyH.cons (o := ⟨some 70, _, _, _, _, none⟩) rfl (fun K hK => ?_) AllReadyH.nil
          go_simp
          refine (pay_seconds _ _ _ HN.out).mono ?_
          rintro e w2 ⟨rfl, rfl⟩
          refine hK.out _ _ ?_ (fun hHeld => ?_)
          · exact ⟨c22r, cbo⟩
          clear hK K
          try simp only [Act.put, List.setIfInBounds_toArray, List.set_cons_zero, List.set_cons_succ]
          refine wpAnyH_take (i := 8) (oi := ⟨some 77, _, _, _, _, none⟩) (v := ?_) rfl (by kernel_rfl) (by kernel_rfl) (by kernel_rfl) (fun _ _ _ h => h) (Or.inl ⟨by rfl, ?_⟩) (by assumption) ?_
          rotate_left
          · intro wz hSw; (try dsimp only at hSw); go_simp; (try with_reducible rfl)
          try simp only [Act.put, List.setIfInBounds_toArray, List.set_cons_zero, List.set_cons_succ]
          refine wpAnyH_ready (rs := [9]) (by kernel_rfl) (by simp) ?_
          refine AllReadyH.cons (o := ⟨some 78, _, _, _, _, none⟩) rfl (fun K hK => ?_) AllReadyH.nil
          go_simp
          refine (pay_half _ _ _ _ (by unfold In; omega) (by decide) HBV.out).mono ?_
          rintro e w3 ⟨rfl, n3, hw3⟩
          have k3 : Below wr.heap.size wr w3 := by rw [hw3]; exact (below_drewN_iff n3).2 ((Below.refl _ _).drew)
          clear hw3
          refine hK.out _ _ ?_ (fun hHeld => ?_)
          · exact ⟨keepD k3 c22r, keepD k3 cbo⟩
          clear hK K
          try simp only [Act.put, List.setIfInBounds_toArray, List.set_cons_zero, List.set_cons_succ]
          refine wpAnyH_take (i := 10) (oi := ⟨some 11, _, _, _, _, none⟩) (v := ?_) rfl (by kernel_rfl) (by kernel_rfl) (by kernel_rfl) (fun _ _ _ h => h) (Or.inl ⟨by rfl, ?_⟩) (by assumption) ?_
          rotate_left
          · intro wz hSw; (try dsimp only at hSw); go_simp; (try with_reducible rfl)
          try simp only [Act.put, List.setIfInBounds_toArray, List.set_cons_zero, List.set_cons_succ]
          refine wpAnyH_done (by kernel_rfl) ?_ _
          have bw3 : Below (w.heap.size + 2) w1 w3 := hb.trans (k3.mono (by omega))
          have hz3 : w.heap.size + 3 ≤ w3.heap.size := Nat.le_trans hz k3.size
          replace a0 := keepD k3 a0
          replace a1 := keepD k3 a1
          replace a2 := keepD k3 a2
          replace a3 := keepD k3 a3
          replace a4 := keepD k3 a4
          replace a5 := keepD k3 a5
          replace a6 := keepD k3 a6
          replace f0 := keepF k3 f0 (by simp; omega)
          replace f1 := keepF k3 f1 (by simp; omega)
          replace f2 := keepF k3 f2 (by simp; omega)
          replace f3 := keepF k3 f3 (by simp; omega)
          replace f4 := keepF k3 f4 (by simp; omega)
          replace f5 := keepF k3 f5 (by simp; omega)
          replace f6 := keepF k3 f6 (by simp; omega)
          replace c20 := keepD k3 c20
          clear c22r cbo k3 i2
          obtain ⟨i0, hi, hz0, hz1, hz2⟩ := info_parts infoInt
          have hold : ∀ b' : Addr, some (⟨w.heap.size + 2, 0, none⟩ : Addr) = some b' → ∀ j u, [Value.int .i64 0, .int .i64 (C 1), .int .i64 (C 2), .int .i64 (C 3), .int .i64 (C 4), .int .i64 (C 5), .int .i64 (C 6)][j]? = some u → (w3.alloc (.cells #[.int .i64 b] 3)).cell? (b'.add j) = some u := by
            intro b' hb' j u hu
            cases hb'
            rw [Addr.add_lit]
            have hj : j < 7 := by simpa using (List.getElem?_eq_some_iff.1 hu).1
            rcases (show j = 0 ∨ j = 1 ∨ j = 2 ∨ j = 3 ∨ j = 4 ∨ j = 5 ∨ j = 6 by omega) with rfl | rfl | rfl | rfl | rfl | rfl | rfl <;> obtain rfl := Option.some.inj hu
            · exact keepA _ a0
            · exact keepA _ a1
            · exact keepA _ a2
            · exact keepA _ a3
            · exact keepA _ a4
            · exact keepA _ a5
            · exact keepA _ a6
          have hnew : ∀ j u, [Value.int .i64 b][j]? = some u → (w3.alloc (.cells #[.int .i64 b] 3)).cell? ((⟨w3.heap.size, 0, none⟩ : Addr).add j) = some u := by
            intro j u hu
            rw [Addr.add_lit]
            obtain rfl : j = 0 := by have := (List.getElem?_eq_some_iff.1 hu).1; simpa using this
            obtain rfl := Option.some.inj hu
            simp [go_sem]
          have HOLD := Lib.hid hold
          have HNEW := Lib.hid hnew
          clear hold hnew
          go_wp2_with (at_builtin; (refine wpList_append_grows _ rfl (.tmp 80) (.tmp 82) 27 rfl 3 i0 (.int .i64 0) 1 8 Try.underlying27 hi hz0 hz1 hz2 rfl (by decide) (some ⟨w.heap.size + 2, 0, none⟩) 7 7 [.int .i64 0, .int .i64 (C 1), .int .i64 (C 2), .int .i64 (C 3), .int .i64 (C 4), .int .i64 (C 5), .int .i64 (C 6)] rfl (by simp) rfl HOLD.out ⟨w3.heap.size, 0, none⟩ 1 1 [.int .i64 b] rfl rfl HNEW.out (fun u hu => by rw [List.mem_singleton.1 hu]; rfl) (by decide) (by decide) (by decide) ?_; intro v1 W1 own1 grow1))
          have bW : Below w3.heap.size w3 W1 := Below.grown ((Below.refl _ _).alloc (Nat.le_refl _) _) grow1 (by simp) (fun k hk => by cases hk)
          obtain ⟨A1, C1, hv1, cells1⟩ := Cells.of_own own1
          subst hv1
          clear own1 grow1
          have I1 : Ints W1 A1 8 [0, C 1, C 2, C 3, C 4, C 5, C 6, b] := .of_cells rfl (by decide) (by
            intro z hz
            simp only [List.mem_cons, List.not_mem_nil, or_false] at hz
            unfold In
            rcases hz with rfl | rfl | rfl | rfl | rfl | rfl | rfl | rfl <;> omega) cells1
          go_wp2_with fail
          refine (num_Sum_is A1 8 _ _ _ _ _ I1 HSUM.out).mono ?_
          rintro e W2 ⟨rfl, rfl⟩
          have e0 := keepD bW a0
          have e1 := keepD bW a1
          have e2 := keepD bW a2
          have e3 := keepD bW a3
          have e4 := keepD bW a4
          have e5 := keepD bW a5
          have e6 := keepD bW a6
          have p0 := keepF bW f0 (by simp; omega)
          have p1 := keepF bW f1 (by simp; omega)
          have p2 := keepF bW f2 (by simp; omega)
          have p3 := keepF bW f3 (by simp; omega)
          have p4 := keepF bW f4 (by simp; omega)
          have p5 := keepF bW f5 (by simp; omega)
          have p6 := keepF bW f6 (by simp; omega)
          have el20 := keepD bW c20
          have zW : w.heap.size + 2 < W1.heap.size := by have := bW.size; omega
          have bWw : Below w.heap.size w W1 := Bw1.trans ((bw3.mono (by omega)).trans (bW.mono (by omega)))
          clear a0 a1 a2 a3 a4 a5 a6 f0 f1 f2 f3 f4 f5 f6 c20 bW bw3
          try clear hb0 hb1 B1 c18 c20a c22 crt z1 d0 d1 hrate hdiff hl
          go_wp2_with fail
          refine (num_Up_is _ _ _ _ _ (by unfold In; omega) (by decide) HUP.out).mono ?_
          rintro e W3 ⟨rfl, n3, rfl⟩
          go_wp2_with fail
          all_goals
            refine bodyPost_ret (v := .tuple #[.agg #[.int .i64 0, .int .i64 (C 1), .int .i64 (C 2), .int .i64 (C 3), .int .i64 (C 4), .int .i64 (C 5), .int .i64 (C 6)], .int .i64 b, .int .i64 m, .int .i64 g, .int .i64 0]) ?_ rfl ⟨rfl, ?_⟩
            · simp [results, Try.results16, go_sem, e0, e1, e2, e3, e4, e5, e6, zW]
              have hm := HM.out
              have hg := HG.out
              unfold moreP at hm
              first
                | (rw [if_pos (by omega)] at hm; exact ⟨by omega, by omega⟩)
                | (rw [if_neg (by omega)] at hm; exact ⟨by omega, by omega⟩)
            · refine bWw.trans ?_
              go_grown
              exact (below_drewN_iff _).2 (Below.refl _ _)
        · have g0 : decide (0 ≤ tier) = true := by simp; omega
          have g1 : decide (tier < (q.tl : Int)) = false := by simp; omega
          obtain rfl : b = 0 := by rw [← HB.out, if_neg (by have := h.tiers.1; omega)]
          obtain ⟨i0, hi, hz0, hz1, hz2⟩ := info_parts infoInt
          have hold : ∀ b' : Addr, some (⟨w.heap.size + 2, 0, none⟩ : Addr) = some b' → ∀ j u, [Value.int .i64 0, .int .i64 (C 1), .int .i64 (C 2), .int .i64 (C 3), .int .i64 (C 4), .int .i64 (C 5), .int .i64 (C 6)][j]? = some u → (wr.alloc (.cells #[.int .i64 0] 3)).cell? (b'.add j) = some u := by
            intro b' hb' j u hu
            cases hb'
            rw [Addr.add_lit]
            have hj : j < 7 := by simpa using (List.getElem?_eq_some_iff.1 hu).1
            rcases (show j = 0 ∨ j = 1 ∨ j = 2 ∨ j = 3 ∨ j = 4 ∨ j = 5 ∨ j = 6 by omega) with rfl | rfl | rfl | rfl | rfl | rfl | rfl <;> obtain rfl := Option.some.inj hu
            · exact keepA _ a0
            · exact keepA _ a1
            · exact keepA _ a2
            · exact keepA _ a3
            · exact keepA _ a4
            · exact keepA _ a5
            · exact keepA _ a6
          have hnew : ∀ j u, [Value.int .i64 0][j]? = some u → (wr.alloc (.cells #[.int .i64 0] 3)).cell? ((⟨wr.heap.size, 0, none⟩ : Addr).add j) = some u := by
            intro j u hu
            rw [Addr.add_lit]
            obtain rfl : j = 0 := by have := (List.getElem?_eq_some_iff.1 hu).1; simpa using this
            obtain rfl := Option.some.inj hu
            simp [go_sem]
          have HOLD := Lib.hid hold
          have HNEW := Lib.hid hnew
          clear hold hnew
          go_wp2_with (at_builtin; (refine wpList_append_grows _ rfl (.tmp 80) (.tmp 82) 27 rfl 3 i0 (.int .i64 0) 1 8 Try.underlying27 hi hz0 hz1 hz2 rfl (by decide) (some ⟨w.heap.size + 2, 0, none⟩) 7 7 [.int .i64 0, .int .i64 (C 1), .int .i64 (C 2), .int .i64 (C 3), .int .i64 (C 4), .int .i64 (C 5), .int .i64 (C 6)] rfl (by simp) rfl HOLD.out ⟨wr.heap.size, 0, none⟩ 1 1 [.int .i64 0] rfl rfl HNEW.out (fun u hu => by rw [List.mem_singleton.1 hu]; rfl) (by decide) (by decide) (by decide) ?_; intro v1 W1 own1 grow1))
          have bW : Below wr.heap.size wr W1 := Below.grown ((Below.refl _ _).alloc (Nat.le_refl _) _) grow1 (by simp) (fun k hk => by cases hk)
          obtain ⟨A1, C1, hv1, cells1⟩ := Cells.of_own own1
          subst hv1
          clear own1 grow1
          have I1 : Ints W1 A1 8 [0, C 1, C 2, C 3, C 4, C 5, C 6, 0] := .of_cells rfl (by decide) (by
            intro z hz
            simp only [List.mem_cons, List.not_mem_nil, or_false] at hz
            unfold In
            rcases hz with rfl | rfl | rfl | rfl | rfl | rfl | rfl | rfl <;> omega) cells1
          go_wp2_with fail
          refine (num_Sum_is A1 8 _ _ _ _ _ I1 HSUM.out).mono ?_
          rintro e W2 ⟨rfl, rfl⟩
          have e0 := keepD bW a0
          have e1 := keepD bW a1
          have e2 := keepD bW a2
          have e3 := keepD bW a3
          have e4 := keepD bW a4
          have e5 := keepD bW a5
          have e6 := keepD bW a6
          have p0 := keepF bW f0 (by simp; omega)
          have p1 := keepF bW f1 (by simp; omega)
          have p2 := keepF bW f2 (by simp; omega)
          have p3 := keepF bW f3 (by simp; omega)
          have p4 := keepF bW f4 (by simp; omega)
          have p5 := keepF bW f5 (by simp; omega)
          have p6 := keepF bW f6 (by simp; omega)
          have el20 := keepD bW c20
          have zW : w.heap.size + 2 < W1.heap.size := by have := bW.size; omega
          have bWw : Below w.heap.size w W1 := Bw1.trans ((bwr.mono (by omega)).trans (bW.mono (by omega)))
          clear a0 a1 a2 a3 a4 a5 a6 f0 f1 f2 f3 f4 f5 f6 c20 bW bwr
          try clear hb0 hb1 B1 c18 c20a c22 crt z1 d0 d1 hrate hdiff hl
          go_wp2_with fail
          refine (num_Up_is _ _ _ _ _ (by unfold In; omega) (by decide) HUP.out).mono ?_
          rintro e W3 ⟨rfl, n3, rfl⟩
          go_wp2_with fail
          all_goals
            refine bodyPost_ret (v := .tuple #[.agg #[.int .i64 0, .int .i64 (C 1), .int .i64 (C 2), .int .i64 (C 3), .int .i64 (C 4), .int .i64 (C 5), .int .i64 (C 6)], .int .i64 0, .int .i64 m, .int .i64 g, .int .i64 0]) ?_ rfl ⟨rfl, ?_⟩
            · simp [results, Try.results16, go_sem, e0, e1, e2, e3, e4, e5, e6, zW]
              have hm := HM.out
              have hg := HG.out
              unfold moreP at hm
              first
                | (rw [if_pos (by omega)] at hm; exact ⟨by omega, by omega⟩)
                | (rw [if_neg (by omega)] at hm; exact ⟨by omega, by omega⟩)
            · refine bWw.trans ?_
              go_grown
              exact (below_drewN_iff _).2 (Below.refl _ _)

end Go.Proofs.Ytjcfflpiajefmaa
