/- lumperref10.Of: how long a task is to take, the reference's answer: a task that has one. -/
import Derived.Test.YtnjckaifgmliaaaRef10A
set_option linter.unusedSimpArgs false
set_option linter.unusedVariables false
namespace Go.Proofs.Ytnjckaifgmliaaa
open Go.RowKit Lu

theorem step_no {f : Int → Int → Int → Int → (Int × Int) × Int} {a b : Int × Int} {e x y e' : Int} (he : e ≠ 0) (h : stepP f a b e = ((x, y), e')) : x = 0 ∧ y = 0 ∧ e' = e := by
  unfold stepP at h
  rw [if_neg he] at h
  simp at h
  exact ⟨h.1.1.symm, h.1.2.symm, h.2.symm⟩
theorem prop5 {f1 f2 : Int → Int → Int → Int → (Int × Int) × Int} {a1 b1 a2 b2 : Int × Int} {e5 bx by_ e6 n d e : Int} (he : e5 ≠ 0) (h6 : stepP f1 a1 b1 e5 = ((bx, by_), e6)) (h7 : stepP f2 a2 b2 e6 = ((n, d), e)) : n = 0 ∧ d = 0 ∧ e = e5 := by
  obtain ⟨_, _, rfl⟩ := step_no he h6
  exact step_no he h7
theorem prop3 {f1 f2 f3 f4 : Int → Int → Int → Int → (Int × Int) × Int} {a1 b1 a2 b2 a3 b3 a4 b4 : Int × Int} {e3 h1x h1y e4 h2x h2y e5 bx by_ e6 n d e : Int} (he : e3 ≠ 0) (h4 : stepP f3 a3 b3 e3 = ((h1x, h1y), e4)) (h5 : stepP f4 a4 b4 e4 = ((h2x, h2y), e5)) (h6 : stepP f1 a1 b1 e5 = ((bx, by_), e6)) (h7 : stepP f2 a2 b2 e6 = ((n, d), e)) : n = 0 ∧ d = 0 ∧ e = e3 := by
  obtain ⟨_, _, rfl⟩ := step_no he h4
  obtain ⟨_, _, rfl⟩ := step_no he h5
  exact prop5 he h6 h7
theorem prop2 {f1 f2 f3 f4 f5 : Int → Int → Int → Int → (Int × Int) × Int} {a1 b1 a2 b2 a3 b3 a4 b4 a5 b5 : Int × Int} {e2 h0x h0y e3 h1x h1y e4 h2x h2y e5 bx by_ e6 n d e : Int} (he : e2 ≠ 0) (h3 : stepP f5 a5 b5 e2 = ((h0x, h0y), e3)) (h4 : stepP f3 a3 b3 e3 = ((h1x, h1y), e4)) (h5 : stepP f4 a4 b4 e4 = ((h2x, h2y), e5)) (h6 : stepP f1 a1 b1 e5 = ((bx, by_), e6)) (h7 : stepP f2 a2 b2 e6 = ((n, d), e)) : n = 0 ∧ d = 0 ∧ e = e2 := by
  obtain ⟨_, _, rfl⟩ := step_no he h3
  exact prop3 he h4 h5 h6 h7
set_option maxRecDepth 100000 in
set_option maxHeartbeats 4000000 in
theorem ref10_yes (s : Setup) (q : Slices) (x : Evt) (w : World) (h : SetupIs w s q) (hx : EventIs x) (hc : setupP s = true) (he : eventP s x = true) (HK : Hid (x.kind = 3)) (far : Int) (HD : Hid (distP s x.from' x.to' = far)) (HN : Hid (¬ far < 0))
    (ci gi ei : Nat) (Hci : Hid (x.class' = ci)) (Hgi : Hid (x.gear = gi)) (Hei : Hid (x.element = ei)) (hci : ci < q.cl) (hgi : gi < q.gl) (hei : ei < q.el)
    (c1 c2 g1 g2 f1 f2 u1 u2 tx ty e1 ux uy e2 h0x h0y e3 h1x h1y e4 h2x h2y e5 ax ay eA bx by_ e6 n d e : Int) (Hc : Hid (s.classes.getD ci (0, 0) = (c1, c2))) (Hg : Hid (s.gears.getD gi (0, 0) = (g1, g2))) (He : Hid (s.elements.getD ei (0, 0, 0, 0) = (f1, f2, u1, u2)))
    (ifar : In far) (ic : In c1 ∧ In c2) (ig : In g1 ∧ In g2) (ie : In f1 ∧ In f2 ∧ In u1 ∧ In u2) (i1 : In tx ∧ In ty) (i2 : In ux ∧ In uy) (i3 : In h0x ∧ In h0y) (i4 : In h1x ∧ In h1y) (i5 : In h2x ∧ In h2y) (i6 : In bx ∧ In by_) (ia : In ax ∧ In ay) (hal : 0 ≤ s.allow ∧ s.allow ≤ 100)
    (ST1 : Hid (stepP mulRP (far, 1) (s.pn, s.pd) 0 = ((tx, ty), e1))) (ST2 : Hid (stepP mulRP (tx, ty) (g1, g2) e1 = ((ux, uy), e2))) (ST3 : Hid (stepP mulRP (u1, u2) (x.units, 1) e2 = ((h0x, h0y), e3))) (ST4 : Hid (stepP addRP (f1, f2) (h0x, h0y) e3 = ((h1x, h1y), e4)))
    (ST5 : Hid (stepP mulRP (h1x, h1y) (c1, c2) e4 = ((h2x, h2y), e5))) (HA : Hid (mkP (100 + s.allow) 100 = ((ax, ay), eA))) (ST6 : Hid (stepP addRP (ux, uy) (h2x, h2y) e5 = ((bx, by_), e6))) (ST7 : Hid (stepP mulRP (bx, by_) (ax, ay) e6 = ((n, d), e))) : Calls Try.prog 26 #[.agg #[.int .i64 s.places, .slice q.wa q.wl q.wc, .int .i64 s.pn, .int .i64 s.pd, .slice q.ea q.el q.ec, .slice q.ca q.cl q.cc, .slice q.ga q.gl q.gc, .int .i64 s.allow, .int .i64 s.unit, .int .i64 s.cap, .int .i64 s.paidBreak, .int .i64 s.autoAfter, .int .i64 s.autoBreak, .int .i64 s.dayReg, .int .i64 s.dayOver, .int .i64 s.weekReg, .int .i64 s.nightFrom, .int .i64 s.nightTo, .slice q.ra q.rl q.rc, .int .i64 s.diff, .int .i64 s.least, .int .i64 s.fault, .slice q.ta q.tl q.tc], .agg #[.int .i64 x.id, .int .i64 x.worker, .int .i64 x.at', .int .i64 x.kind, .int .i64 x.from', .int .i64 x.to', .int .i64 x.element, .int .i64 x.units, .int .i64 x.class', .int .i64 x.gear, .int .i64 x.code]] w fun r w' => r = .returned (.tuple #[.agg #[.int .i64 n, .int .i64 d], .int .i64 e]) ∧ Below w.heap.size w w' := by
  have SU1 : Hid (e3 = 0 → sumRP [(f1, f2), (h0x, h0y)] = ((h1x, h1y), e4)) := Lib.hid (fun z => by have := ST4.out; rw [z] at this; rw [sumRP_pair]; exact this)
  have SU2 : Hid (e5 = 0 → sumRP [(ux, uy), (h2x, h2y)] = ((bx, by_), e6)) := Lib.hid (fun z => by have := ST6.out; rw [z] at this; rw [sumRP_pair]; exact this)
  obtain ⟨cb, co, hcc, hcl, hcell⟩ := h.classes.2.2.2.resolve_left (by omega)
  obtain ⟨gb, go, hgg, hgl, hgell⟩ := h.gears.2.2.2.resolve_left (by omega)
  obtain ⟨eb, eo, hee, hel, heell⟩ := h.elements.2.2.2.resolve_left (by omega)
  have d1 := hcell ci hci
  have d2 := hgell gi hgi
  have d3 := heell ei hei
  replace hcc := Lib.hid hcc
  replace hgg := Lib.hid hgg
  replace hee := Lib.hid hee
  rw [Hc.out] at d1
  rw [Hg.out] at d2
  rw [He.out] at d3
  clear hcell hgell heell
  have hs : (((w.alloc (.cells #[.int .i64 s.places, .slice q.wa q.wl q.wc, .int .i64 s.pn, .int .i64 s.pd, .slice q.ea q.el q.ec, .slice q.ca q.cl q.cc, .slice q.ga q.gl q.gc, .int .i64 s.allow, .int .i64 s.unit, .int .i64 s.cap, .int .i64 s.paidBreak, .int .i64 s.autoAfter, .int .i64 s.autoBreak, .int .i64 s.dayReg, .int .i64 s.dayOver, .int .i64 s.weekReg, .int .i64 s.nightFrom, .int .i64 s.nightTo, .slice q.ra q.rl q.rc, .int .i64 s.diff, .int .i64 s.least, .int .i64 s.fault, .slice q.ta q.tl q.tc] 30)).alloc (.cells #[.int .i64 x.id, .int .i64 x.worker, .int .i64 x.at', .int .i64 x.kind, .int .i64 x.from', .int .i64 x.to', .int .i64 x.element, .int .i64 x.units, .int .i64 x.class', .int .i64 x.gear, .int .i64 x.code] 47)).alloc (.cells #[.int .i64 0, .int .i64 0] 24)).heap[w.heap.size]? = some (.cells #[.int .i64 s.places, .slice q.wa q.wl q.wc, .int .i64 s.pn, .int .i64 s.pd, .slice q.ea q.el q.ec, .slice q.ca q.cl q.cc, .slice q.ga q.gl q.gc, .int .i64 s.allow, .int .i64 s.unit, .int .i64 s.cap, .int .i64 s.paidBreak, .int .i64 s.autoAfter, .int .i64 s.autoBreak, .int .i64 s.dayReg, .int .i64 s.dayOver, .int .i64 s.weekReg, .int .i64 s.nightFrom, .int .i64 s.nightTo, .slice q.ra q.rl q.rc, .int .i64 s.diff, .int .i64 s.least, .int .i64 s.fault, .slice q.ta q.tl q.tc] 30) := box_keep (B := w.heap.size + 1) (by go_grown) (box_new w _ rfl _ _) (by omega)
  have hb : (((w.alloc (.cells #[.int .i64 s.places, .slice q.wa q.wl q.wc, .int .i64 s.pn, .int .i64 s.pd, .slice q.ea q.el q.ec, .slice q.ca q.cl q.cc, .slice q.ga q.gl q.gc, .int .i64 s.allow, .int .i64 s.unit, .int .i64 s.cap, .int .i64 s.paidBreak, .int .i64 s.autoAfter, .int .i64 s.autoBreak, .int .i64 s.dayReg, .int .i64 s.dayOver, .int .i64 s.weekReg, .int .i64 s.nightFrom, .int .i64 s.nightTo, .slice q.ra q.rl q.rc, .int .i64 s.diff, .int .i64 s.least, .int .i64 s.fault, .slice q.ta q.tl q.tc] 30)).alloc (.cells #[.int .i64 x.id, .int .i64 x.worker, .int .i64 x.at', .int .i64 x.kind, .int .i64 x.from', .int .i64 x.to', .int .i64 x.element, .int .i64 x.units, .int .i64 x.class', .int .i64 x.gear, .int .i64 x.code] 47)).alloc (.cells #[.int .i64 0, .int .i64 0] 24)).heap[w.heap.size + 1]? = some (.cells #[.int .i64 x.id, .int .i64 x.worker, .int .i64 x.at', .int .i64 x.kind, .int .i64 x.from', .int .i64 x.to', .int .i64 x.element, .int .i64 x.units, .int .i64 x.class', .int .i64 x.gear, .int .i64 x.code] 47) := box_keep (B := w.heap.size + 2) (by go_grown) (box_new _ _ (by simp) _ _) (by omega)
  have hR : Own (((w.alloc (.cells #[.int .i64 s.places, .slice q.wa q.wl q.wc, .int .i64 s.pn, .int .i64 s.pd, .slice q.ea q.el q.ec, .slice q.ca q.cl q.cc, .slice q.ga q.gl q.gc, .int .i64 s.allow, .int .i64 s.unit, .int .i64 s.cap, .int .i64 s.paidBreak, .int .i64 s.autoAfter, .int .i64 s.autoBreak, .int .i64 s.dayReg, .int .i64 s.dayOver, .int .i64 s.weekReg, .int .i64 s.nightFrom, .int .i64 s.nightTo, .slice q.ra q.rl q.rc, .int .i64 s.diff, .int .i64 s.least, .int .i64 s.fault, .slice q.ta q.tl q.tc] 30)).alloc (.cells #[.int .i64 x.id, .int .i64 x.worker, .int .i64 x.at', .int .i64 x.kind, .int .i64 x.from', .int .i64 x.to', .int .i64 x.element, .int .i64 x.units, .int .i64 x.class', .int .i64 x.gear, .int .i64 x.code] 47)).alloc (.cells #[.int .i64 0, .int .i64 0] 24)) (w.heap.size + 2) 0 0 := Own.new' (by simp)
  have B0 : Below w.heap.size w (((w.alloc (.cells #[.int .i64 s.places, .slice q.wa q.wl q.wc, .int .i64 s.pn, .int .i64 s.pd, .slice q.ea q.el q.ec, .slice q.ca q.cl q.cc, .slice q.ga q.gl q.gc, .int .i64 s.allow, .int .i64 s.unit, .int .i64 s.cap, .int .i64 s.paidBreak, .int .i64 s.autoAfter, .int .i64 s.autoBreak, .int .i64 s.dayReg, .int .i64 s.dayOver, .int .i64 s.weekReg, .int .i64 s.nightFrom, .int .i64 s.nightTo, .slice q.ra q.rl q.rc, .int .i64 s.diff, .int .i64 s.least, .int .i64 s.fault, .slice q.ta q.tl q.tc] 30)).alloc (.cells #[.int .i64 x.id, .int .i64 x.worker, .int .i64 x.at', .int .i64 x.kind, .int .i64 x.from', .int .i64 x.to', .int .i64 x.element, .int .i64 x.units, .int .i64 x.class', .int .i64 x.gear, .int .i64 x.code] 47)).alloc (.cells #[.int .i64 0, .int .i64 0] 24)) := by go_grown
  go_enter Try.func26, Try.ntmps26
  go_wp2_with (refine wpList_load_box 30 (.tmp 2) rfl rfl w.heap.size rfl 30 #[.int .i64 s.places, .slice q.wa q.wl q.wc, .int .i64 s.pn, .int .i64 s.pd, .slice q.ea q.el q.ec, .slice q.ca q.cl q.cc, .slice q.ga q.gl q.gc, .int .i64 s.allow, .int .i64 s.unit, .int .i64 s.cap, .int .i64 s.paidBreak, .int .i64 s.autoAfter, .int .i64 s.autoBreak, .int .i64 s.dayReg, .int .i64 s.dayOver, .int .i64 s.weekReg, .int .i64 s.nightFrom, .int .i64 s.nightTo, .slice q.ra q.rl q.rc, .int .i64 s.diff, .int .i64 s.least, .int .i64 s.fault, .slice q.ta q.tl q.tc] hs setup_big ?_)
  refine (ref7_Check s q true _ (h.below (by go_grown)) hc).mono ?_
  rintro eA0 wA ⟨rfl, kA⟩
  replace B0 := B0.trans (kA.mono (by first | (simp; done) | (simp; omega)))
  replace hs := box_keep kA hs (by first | (simp; done) | (simp; omega))
  replace hb := box_keep kA hb (by first | (simp; done) | (simp; omega))
  replace hR := hR.below kA
  clear kA
  go_wp2_with (first | (refine wpList_load_box 30 (.tmp 2) rfl rfl w.heap.size rfl 30 #[.int .i64 s.places, .slice q.wa q.wl q.wc, .int .i64 s.pn, .int .i64 s.pd, .slice q.ea q.el q.ec, .slice q.ca q.cl q.cc, .slice q.ga q.gl q.gc, .int .i64 s.allow, .int .i64 s.unit, .int .i64 s.cap, .int .i64 s.paidBreak, .int .i64 s.autoAfter, .int .i64 s.autoBreak, .int .i64 s.dayReg, .int .i64 s.dayOver, .int .i64 s.weekReg, .int .i64 s.nightFrom, .int .i64 s.nightTo, .slice q.ra q.rl q.rc, .int .i64 s.diff, .int .i64 s.least, .int .i64 s.fault, .slice q.ta q.tl q.tc] hs setup_big ?_) | (refine wpList_load_box 47 (.tmp 3) rfl rfl (w.heap.size + 1) rfl 47 #[.int .i64 x.id, .int .i64 x.worker, .int .i64 x.at', .int .i64 x.kind, .int .i64 x.from', .int .i64 x.to', .int .i64 x.element, .int .i64 x.units, .int .i64 x.class', .int .i64 x.gear, .int .i64 x.code] hb event_big ?_))
  refine (ref8_Check s q x true _ (h.below B0) hx he).mono ?_
  rintro eA0 wB ⟨rfl, kA⟩
  replace B0 := B0.trans (kA.mono (by have := hR.lt; omega))
  replace hs := box_keep kA hs (by have := hR.lt; omega)
  replace hb := box_keep kA hb (by have := hR.lt; omega)
  replace hR := hR.below kA
  clear kA
  have c3 : wB.cell? ⟨w.heap.size + 1, 3, none⟩ = some (.int .i64 x.kind) := by simp [World.cell?, hb]
  have c4 : wB.cell? ⟨w.heap.size + 1, 4, none⟩ = some (.int .i64 x.from') := by simp [World.cell?, hb]
  have c5 : wB.cell? ⟨w.heap.size + 1, 5, none⟩ = some (.int .i64 x.to') := by simp [World.cell?, hb]
  have k3 : (x.kind == 3) = true := by rw [beq_iff_eq]; exact HK.out
  have k3' : (x.kind != 3) = false := by rw [bne_eq_false_iff_eq]; exact HK.out
  go_wp2_with (refine wpList_load_box 30 (.tmp 2) rfl rfl w.heap.size rfl 30 #[.int .i64 s.places, .slice q.wa q.wl q.wc, .int .i64 s.pn, .int .i64 s.pd, .slice q.ea q.el q.ec, .slice q.ca q.cl q.cc, .slice q.ga q.gl q.gc, .int .i64 s.allow, .int .i64 s.unit, .int .i64 s.cap, .int .i64 s.paidBreak, .int .i64 s.autoAfter, .int .i64 s.autoBreak, .int .i64 s.dayReg, .int .i64 s.dayOver, .int .i64 s.weekReg, .int .i64 s.nightFrom, .int .i64 s.nightTo, .slice q.ra q.rl q.rc, .int .i64 s.diff, .int .i64 s.least, .int .i64 s.fault, .slice q.ta q.tl q.tc] hs setup_big ?_)
  refine (ref9_Dist s q _ _ far _ (h.below B0) HD.out).mono ?_
  rintro eA0 wC ⟨rfl, kA⟩
  replace B0 := B0.trans (kA.mono (by have := hR.lt; omega))
  replace hs := box_keep kA hs (by have := hR.lt; omega)
  replace hb := box_keep kA hb (by have := hR.lt; omega)
  replace hR := hR.below kA
  clear kA c3 c4 c5 k3 k3'
  have n3 : decide (far < 0) = false := by rw [decide_eq_false_iff_not]; have := HN.out; omega
  have W1 := B0
  have ei0 : (0 : Int) ≤ (ei : Int) := by omega
  have ei1 : (ei : Int) < (q.el : Int) := by omega
  have gi0 : (0 : Int) ≤ (gi : Int) := by omega
  have gi1 : (gi : Int) < (q.gl : Int) := by omega
  have ci0 : (0 : Int) ≤ (ci : Int) := by omega
  have ci1 : (ci : Int) < (q.cl : Int) := by omega
  have z0 : w.heap.size < wC.heap.size := by have := hR.lt; omega
  have z1 : w.heap.size + 1 < wC.heap.size := by have := hR.lt; omega
  have hG : RS w [(⟨w.heap.size, 2, none⟩, .int .i64 s.pn), (⟨w.heap.size, 3, none⟩, .int .i64 s.pd), (⟨w.heap.size, 4, none⟩, .slice (some ⟨eb, eo, none⟩) q.el q.ec), (⟨w.heap.size, 5, none⟩, .slice (some ⟨cb, co, none⟩) q.cl q.cc), (⟨w.heap.size, 6, none⟩, .slice (some ⟨gb, go, none⟩) q.gl q.gc), (⟨w.heap.size, 7, none⟩, .int .i64 s.allow), (⟨w.heap.size + 1, 6, none⟩, .int .i64 (ei : Int)), (⟨w.heap.size + 1, 7, none⟩, .int .i64 x.units), (⟨w.heap.size + 1, 8, none⟩, .int .i64 (ci : Int)), (⟨w.heap.size + 1, 9, none⟩, .int .i64 (gi : Int)), (⟨cb, co + ci * 2, none⟩, .int .i64 c1), (⟨cb, co + ci * 2 + 1, none⟩, .int .i64 c2), (⟨gb, go + gi * 2, none⟩, .int .i64 g1), (⟨gb, go + gi * 2 + 1, none⟩, .int .i64 g2), (⟨eb, eo + ei * 4, none⟩, .int .i64 f1), (⟨eb, eo + ei * 4 + 1, none⟩, .int .i64 f2), (⟨eb, eo + ei * 4 + 2, none⟩, .int .i64 u1), (⟨eb, eo + ei * 4 + 3, none⟩, .int .i64 u2)] wC := by
    refine ⟨?_, hR, B0, ?_⟩
    · intro c hcm
      simp only [List.mem_cons, List.not_mem_nil, or_false] at hcm
      rcases hcm with rfl | rfl | rfl | rfl | rfl | rfl | rfl | rfl | rfl | rfl | rfl | rfl | rfl | rfl | rfl | rfl | rfl | rfl
      · simp [World.cell?, hs]
      · simp [World.cell?, hs]
      · rw [← hee.out]; simp [World.cell?, hs]
      · rw [← hcc.out]; simp [World.cell?, hs]
      · rw [← hgg.out]; simp [World.cell?, hs]
      · simp [World.cell?, hs]
      · rw [← Hei.out]; simp [World.cell?, hb]
      · simp [World.cell?, hb]
      · rw [← Hci.out]; simp [World.cell?, hb]
      · rw [← Hgi.out]; simp [World.cell?, hb]
      · exact keepC W1 d1.1 hcl
      · exact keepC W1 d1.2 hcl
      · exact keepC W1 d2.1 hgl
      · exact keepC W1 d2.2 hgl
      · exact keepC W1 d3.1 hel
      · exact keepC W1 d3.2.1 hel
      · exact keepC W1 d3.2.2.1 hel
      · exact keepC W1 d3.2.2.2 hel
    · intro c hcm
      simp only [List.mem_cons, List.not_mem_nil, or_false] at hcm
      rcases hcm with rfl | rfl | rfl | rfl | rfl | rfl | rfl | rfl | rfl | rfl | rfl | rfl | rfl | rfl | rfl | rfl | rfl | rfl <;> (simp only; omega)
  have p2 := hG.cs.atR 0 rfl
  have p3 := hG.cs.atR 1 rfl
  clear hs hb hR B0 d1 d2 d3
  go_wp2_with fail
  refine (ref2_Mul_is far 1 s.pn s.pd tx ty e1 _ ifar (by decide) h.pn h.pd ST1.out).mono ?_
  rintro eA0 wD ⟨rfl, kA⟩
  replace hG := hG.below kA
  clear kA p2 p3 n3
  go_upto_region 9 with fail
  refine gen_code (S := fun V => RS w [(⟨w.heap.size, 2, none⟩, .int .i64 s.pn), (⟨w.heap.size, 3, none⟩, .int .i64 s.pd), (⟨w.heap.size, 4, none⟩, .slice (some ⟨eb, eo, none⟩) q.el q.ec), (⟨w.heap.size, 5, none⟩, .slice (some ⟨cb, co, none⟩) q.cl q.cc), (⟨w.heap.size, 6, none⟩, .slice (some ⟨gb, go, none⟩) q.gl q.gc), (⟨w.heap.size, 7, none⟩, .int .i64 s.allow), (⟨w.heap.size + 1, 6, none⟩, .int .i64 (ei : Int)), (⟨w.heap.size + 1, 7, none⟩, .int .i64 x.units), (⟨w.heap.size + 1, 8, none⟩, .int .i64 (ci : Int)), (⟨w.heap.size + 1, 9, none⟩, .int .i64 (gi : Int)), (⟨cb, co + ci * 2, none⟩, .int .i64 c1), (⟨cb, co + ci * 2 + 1, none⟩, .int .i64 c2), (⟨gb, go + gi * 2, none⟩, .int .i64 g1), (⟨gb, go + gi * 2 + 1, none⟩, .int .i64 g2), (⟨eb, eo + ei * 4, none⟩, .int .i64 f1), (⟨eb, eo + ei * 4 + 1, none⟩, .int .i64 f2), (⟨eb, eo + ei * 4 + 2, none⟩, .int .i64 u1), (⟨eb, eo + ei * 4 + 3, none⟩, .int .i64 u2)] V ∧ Own V wD.heap.size tx ty) ⟨hG.alloc _, Own.new' rfl⟩ (fun V hV => ?_)
  have hF := hG.fresh
  obtain ⟨hG, hO⟩ := hV
  generalize wD.heap.size = g9 at *
  go_cut [10] (fun v V' => v = .int .i64 e2 ∧ RS w [(⟨g9, 0, none⟩, .int .i64 ux), (⟨g9, 1, none⟩, .int .i64 uy), (⟨w.heap.size, 2, none⟩, .int .i64 s.pn), (⟨w.heap.size, 3, none⟩, .int .i64 s.pd), (⟨w.heap.size, 4, none⟩, .slice (some ⟨eb, eo, none⟩) q.el q.ec), (⟨w.heap.size, 5, none⟩, .slice (some ⟨cb, co, none⟩) q.cl q.cc), (⟨w.heap.size, 6, none⟩, .slice (some ⟨gb, go, none⟩) q.gl q.gc), (⟨w.heap.size, 7, none⟩, .int .i64 s.allow), (⟨w.heap.size + 1, 6, none⟩, .int .i64 (ei : Int)), (⟨w.heap.size + 1, 7, none⟩, .int .i64 x.units), (⟨w.heap.size + 1, 8, none⟩, .int .i64 (ci : Int)), (⟨w.heap.size + 1, 9, none⟩, .int .i64 (gi : Int)), (⟨cb, co + ci * 2, none⟩, .int .i64 c1), (⟨cb, co + ci * 2 + 1, none⟩, .int .i64 c2), (⟨gb, go + gi * 2, none⟩, .int .i64 g1), (⟨gb, go + gi * 2 + 1, none⟩, .int .i64 g2), (⟨eb, eo + ei * 4, none⟩, .int .i64 f1), (⟨eb, eo + ei * 4 + 1, none⟩, .int .i64 f2), (⟨eb, eo + ei * 4 + 2, none⟩, .int .i64 u1), (⟨eb, eo + ei * 4 + 3, none⟩, .int .i64 u2)] V')
  case first =>
   as_aux_lemma =>
    refine wp_region_held_drew (S := Cs [(⟨w.heap.size, 2, none⟩, .int .i64 s.pn), (⟨w.heap.size, 3, none⟩, .int .i64 s.pd), (⟨w.heap.size, 4, none⟩, .slice (some ⟨eb, eo, none⟩) q.el q.ec), (⟨w.heap.size, 5, none⟩, .slice (some ⟨cb, co, none⟩) q.cl q.cc), (⟨w.heap.size, 6, none⟩, .slice (some ⟨gb, go, none⟩) q.gl q.gc), (⟨w.heap.size, 7, none⟩, .int .i64 s.allow), (⟨w.heap.size + 1, 6, none⟩, .int .i64 (ei : Int)), (⟨w.heap.size + 1, 7, none⟩, .int .i64 x.units), (⟨w.heap.size + 1, 8, none⟩, .int .i64 (ci : Int)), (⟨w.heap.size + 1, 9, none⟩, .int .i64 (gi : Int)), (⟨cb, co + ci * 2, none⟩, .int .i64 c1), (⟨cb, co + ci * 2 + 1, none⟩, .int .i64 c2), (⟨gb, go + gi * 2, none⟩, .int .i64 g1), (⟨gb, go + gi * 2 + 1, none⟩, .int .i64 g2), (⟨eb, eo + ei * 4, none⟩, .int .i64 f1), (⟨eb, eo + ei * 4 + 1, none⟩, .int .i64 f2), (⟨eb, eo + ei * 4 + 2, none⟩, .int .i64 u1), (⟨eb, eo + ei * 4 + 3, none⟩, .int .i64 u2)]) (by kernel_rfl) hG.cs.drew (fun hHeld => ?_)
    clear hHeld
    replace hG := hG.drew
    replace hO := hO.drew
    refine wpAnyH_take (i := 1) (oi := ⟨some 53, _, _, _, _, none⟩) (v := ?_) rfl (by kernel_rfl) (by kernel_rfl) (by kernel_rfl) (fun _ _ _ h => h) (Or.inl ⟨by rfl, ?_⟩) hG.cs ?_
    rotate_left
    · intro wz hSw; go_simp; (try with_reducible rfl)
    try simp only [Act.put, List.setIfInBounds_toArray, List.set_cons_zero, List.set_cons_succ]
    refine wpAnyH_take (i := 2) (oi := ⟨some 54, _, _, _, _, none⟩) (v := ?_) rfl (by kernel_rfl) (by kernel_rfl) (by kernel_rfl) (fun _ _ _ h => h) (Or.inl ⟨by rfl, ?_⟩) hG.cs ?_
    rotate_left
    · intro wz hSw; go_simp; (try with_reducible rfl)
    try simp only [Act.put, List.setIfInBounds_toArray, List.set_cons_zero, List.set_cons_succ]
    refine wpAnyH_take (i := 3) (oi := ⟨some 55, _, _, _, _, none⟩) (v := ?_) rfl (by kernel_rfl) (by kernel_rfl) (by kernel_rfl) (fun _ _ _ h => h) (Or.inl ⟨by rfl, ?_⟩) hG.cs ?_
    rotate_left
    · intro wz hSw; have t4 := hSw.atR 4 rfl; go_simp; (try with_reducible rfl)
    try simp only [Act.put, List.setIfInBounds_toArray, List.set_cons_zero, List.set_cons_succ]
    refine wpAnyH_take (i := 4) (oi := ⟨some 56, _, _, _, _, none⟩) (v := ?_) rfl (by kernel_rfl) (by kernel_rfl) (by kernel_rfl) (fun _ _ _ h => h) (Or.inl ⟨by rfl, ?_⟩) hG.cs ?_
    rotate_left
    · intro wz hSw; go_simp; (try with_reducible rfl)
    try simp only [Act.put, List.setIfInBounds_toArray, List.set_cons_zero, List.set_cons_succ]
    refine wpAnyH_take (i := 5) (oi := ⟨some 57, _, _, _, _, none⟩) (v := ?_) rfl (by kernel_rfl) (by kernel_rfl) (by kernel_rfl) (fun _ _ _ h => h) (Or.inl ⟨by rfl, ?_⟩) hG.cs ?_
    rotate_left
    · intro wz hSw; have t9 := hSw.atR 9 rfl; go_simp; (try with_reducible rfl)
    try simp only [Act.put, List.setIfInBounds_toArray, List.set_cons_zero, List.set_cons_succ]
    refine wpAnyH_take (i := 6) (oi := ⟨some 58, _, _, _, _, none⟩) (v := ?_) rfl (by kernel_rfl) (by kernel_rfl) (by kernel_rfl) (fun _ _ _ h => h) (Or.inl ⟨by rfl, ?_⟩) hG.cs ?_
    rotate_left
    · intro wz hSw; go_simp; (try with_reducible rfl)
    try simp only [Act.put, List.setIfInBounds_toArray, List.set_cons_zero, List.set_cons_succ]
    refine wpAnyH_take (i := 7) (oi := ⟨some 59, _, _, _, _, none⟩) (v := ?_) rfl (by kernel_rfl) (by kernel_rfl) (by kernel_rfl) (fun _ _ _ h => h) (Or.inl ⟨by rfl, ?_⟩) hG.cs ?_
    rotate_left
    · intro wz hSw; have t12 := hSw.atR 12 rfl; have t13 := hSw.atR 13 rfl; go_simp; (try with_reducible rfl)
    try simp only [Act.put, List.setIfInBounds_toArray, List.set_cons_zero, List.set_cons_succ]
    refine wpAnyH_ready (rs := [0]) (by kernel_rfl) (by simp) ?_
    refine AllReadyH.cons (o := ⟨some 52, _, _, _, _, none⟩) rfl (fun K hK => ?_) AllReadyH.nil
    obtain ⟨_, o0, o1, o2, o3⟩ := id hO
    go_simp
    clear o0 o1 o2 o3
    refine hK.out _ _ ?_ (fun hHeld => ?_)
    · exact hG.cs
    clear hK K hHeld
    try simp only [Act.put, List.setIfInBounds_toArray, List.set_cons_zero, List.set_cons_succ]
    refine wpAnyH_ready (rs := [8]) (by kernel_rfl) (by simp) ?_
    refine AllReadyH.cons (o := ⟨some 60, _, _, _, _, none⟩) rfl (fun K hK => ?_) AllReadyH.nil
    go_simp
    refine (ref10_times tx ty g1 g2 e1 ux uy e2 _ i1.1 i1.2 ig.1 ig.2 ST2.out).mono ?_
    rintro e2 v2 ⟨rfl, kA⟩
    replace hG := hG.below kA
    replace hO := hO.below kA
    clear kA
    refine hK.out _ _ ?_ (fun hHeld => ?_)
    · exact hG.cs
    clear hK K hHeld
    try simp only [Act.put, List.setIfInBounds_toArray, List.set_cons_zero, List.set_cons_succ]
    refine wpAnyH_take (i := 9) (oi := ⟨some 51, _, _, _, _, none⟩) (v := ?_) rfl (by kernel_rfl) (by kernel_rfl) (by kernel_rfl) (fun _ _ _ h => h) (Or.inl ⟨by rfl, ?_⟩) hG.cs ?_
    rotate_left
    · intro wz hSw; go_simp; (try with_reducible rfl)
    try simp only [Act.put, List.setIfInBounds_toArray, List.set_cons_zero, List.set_cons_succ]
    refine wpAnyH_take (i := 10) (oi := ⟨some 61, _, _, _, _, none⟩) (v := ?_) rfl (by kernel_rfl) (by kernel_rfl) (by kernel_rfl) (fun _ _ _ h => h) (Or.inl ⟨by rfl, ?_⟩) hG.cs ?_
    rotate_left
    · intro wz hSw; go_simp; (try with_reducible rfl)
    try simp only [Act.put, List.setIfInBounds_toArray, List.set_cons_zero, List.set_cons_succ]
    refine wpAnyH_take (i := 11) (oi := ⟨some 62, _, _, _, _, none⟩) (v := ?_) rfl (by kernel_rfl) (by kernel_rfl) (by kernel_rfl) (fun _ _ _ h => h) (Or.inl ⟨by rfl, ?_⟩) hG.cs ?_
    rotate_left
    · intro wz hSw; go_simp; (try with_reducible rfl)
    try simp only [Act.put, List.setIfInBounds_toArray, List.set_cons_zero, List.set_cons_succ]
    refine wpAnyH_ready (rs := [12]) (by kernel_rfl) (by simp) ?_
    refine AllReadyH.cons (o := ⟨none, _, _, _, _, none⟩) rfl (fun K hK => ?_) AllReadyH.nil
    obtain ⟨_, o0, o1, o2, o3⟩ := id hO
    go_simp
    clear o0 o1 o2 o3
    replace hG := hG.put hF (.int .i64 ux) (.int .i64 uy)
    replace hO := own_putR hO ux uy
    refine hK.out _ _ ?_ (fun hHeld => ?_)
    · exact hG.cs
    clear hK K hHeld
    try simp only [Act.put, List.setIfInBounds_toArray, List.set_cons_zero, List.set_cons_succ]
    refine wpAnyH_take (i := 13) (oi := ⟨some 10, _, _, _, _, none⟩) (v := ?_) rfl (by kernel_rfl) (by kernel_rfl) (by kernel_rfl) (fun _ _ _ h => h) (Or.inl ⟨by rfl, ?_⟩) hG.cs ?_
    rotate_left
    · intro wz hSw; go_simp; (try with_reducible rfl)
    try simp only [Act.put, List.setIfInBounds_toArray, List.set_cons_zero, List.set_cons_succ]
    refine wpAnyH_done (by kernel_rfl) ?_ _
    go_wp2_with fail
    go_meet
    case rel => exact ⟨rfl, hG.more hO hF⟩
  case rest =>
  obtain ⟨rfl, hG⟩ := hcut
  clear hO hF
  generalize wc = V2 at *
  by_cases he2 : e2 = 0
  rotate_left
  · obtain ⟨rfl, rfl, rfl⟩ := prop2 he2 ST3.out ST4.out ST5.out ST6.out ST7.out
    have q1 : (e == 0) = false := by rw [beq_eq_false_iff_ne]; exact he2
    have q2 : (e != 0) = true := by rw [bne_iff_ne]; exact he2
    clear ST3 ST4 ST5 ST6 ST7
    obtain ⟨rl, r0, r1, r2, r3⟩ := hG.own
    have hBl := hG.bel
    go_wp2_with fail
    refine bodyPost_ret (v := .tuple #[.agg #[.int .i64 0, .int .i64 0], .int .i64 e]) (by simp [results, Try.results26, go_sem, r0, r1]) rfl ⟨rfl, (hBl.setCell (by simp; omega) _).setCell (by simp; omega) _⟩
  obtain rfl := he2
  go_upto_region 12 with fail
  go_cut [11, 12] (fun vp v V' => ∃ g, vp = .pointer (some ⟨g, 0, none⟩) ∧ v = .int .i64 e3 ∧ RS w [(⟨g9, 0, none⟩, .int .i64 ux), (⟨g9, 1, none⟩, .int .i64 uy), (⟨w.heap.size, 2, none⟩, .int .i64 s.pn), (⟨w.heap.size, 3, none⟩, .int .i64 s.pd), (⟨w.heap.size, 4, none⟩, .slice (some ⟨eb, eo, none⟩) q.el q.ec), (⟨w.heap.size, 5, none⟩, .slice (some ⟨cb, co, none⟩) q.cl q.cc), (⟨w.heap.size, 6, none⟩, .slice (some ⟨gb, go, none⟩) q.gl q.gc), (⟨w.heap.size, 7, none⟩, .int .i64 s.allow), (⟨w.heap.size + 1, 6, none⟩, .int .i64 (ei : Int)), (⟨w.heap.size + 1, 7, none⟩, .int .i64 x.units), (⟨w.heap.size + 1, 8, none⟩, .int .i64 (ci : Int)), (⟨w.heap.size + 1, 9, none⟩, .int .i64 (gi : Int)), (⟨cb, co + ci * 2, none⟩, .int .i64 c1), (⟨cb, co + ci * 2 + 1, none⟩, .int .i64 c2), (⟨gb, go + gi * 2, none⟩, .int .i64 g1), (⟨gb, go + gi * 2 + 1, none⟩, .int .i64 g2), (⟨eb, eo + ei * 4, none⟩, .int .i64 f1), (⟨eb, eo + ei * 4 + 1, none⟩, .int .i64 f2), (⟨eb, eo + ei * 4 + 2, none⟩, .int .i64 u1), (⟨eb, eo + ei * 4 + 3, none⟩, .int .i64 u2)] V' ∧ Own V' g h0x h0y ∧ FreshR w [(⟨g9, 0, none⟩, .int .i64 ux), (⟨g9, 1, none⟩, .int .i64 uy), (⟨w.heap.size, 2, none⟩, .int .i64 s.pn), (⟨w.heap.size, 3, none⟩, .int .i64 s.pd), (⟨w.heap.size, 4, none⟩, .slice (some ⟨eb, eo, none⟩) q.el q.ec), (⟨w.heap.size, 5, none⟩, .slice (some ⟨cb, co, none⟩) q.cl q.cc), (⟨w.heap.size, 6, none⟩, .slice (some ⟨gb, go, none⟩) q.gl q.gc), (⟨w.heap.size, 7, none⟩, .int .i64 s.allow), (⟨w.heap.size + 1, 6, none⟩, .int .i64 (ei : Int)), (⟨w.heap.size + 1, 7, none⟩, .int .i64 x.units), (⟨w.heap.size + 1, 8, none⟩, .int .i64 (ci : Int)), (⟨w.heap.size + 1, 9, none⟩, .int .i64 (gi : Int)), (⟨cb, co + ci * 2, none⟩, .int .i64 c1), (⟨cb, co + ci * 2 + 1, none⟩, .int .i64 c2), (⟨gb, go + gi * 2, none⟩, .int .i64 g1), (⟨gb, go + gi * 2 + 1, none⟩, .int .i64 g2), (⟨eb, eo + ei * 4, none⟩, .int .i64 f1), (⟨eb, eo + ei * 4 + 1, none⟩, .int .i64 f2), (⟨eb, eo + ei * 4 + 2, none⟩, .int .i64 u1), (⟨eb, eo + ei * 4 + 3, none⟩, .int .i64 u2)] g)
  case first =>
   as_aux_lemma =>
    refine wp_region_held_drew (S := Cs [(⟨g9, 0, none⟩, .int .i64 ux), (⟨g9, 1, none⟩, .int .i64 uy), (⟨w.heap.size, 2, none⟩, .int .i64 s.pn), (⟨w.heap.size, 3, none⟩, .int .i64 s.pd), (⟨w.heap.size, 4, none⟩, .slice (some ⟨eb, eo, none⟩) q.el q.ec), (⟨w.heap.size, 5, none⟩, .slice (some ⟨cb, co, none⟩) q.cl q.cc), (⟨w.heap.size, 6, none⟩, .slice (some ⟨gb, go, none⟩) q.gl q.gc), (⟨w.heap.size, 7, none⟩, .int .i64 s.allow), (⟨w.heap.size + 1, 6, none⟩, .int .i64 (ei : Int)), (⟨w.heap.size + 1, 7, none⟩, .int .i64 x.units), (⟨w.heap.size + 1, 8, none⟩, .int .i64 (ci : Int)), (⟨w.heap.size + 1, 9, none⟩, .int .i64 (gi : Int)), (⟨cb, co + ci * 2, none⟩, .int .i64 c1), (⟨cb, co + ci * 2 + 1, none⟩, .int .i64 c2), (⟨gb, go + gi * 2, none⟩, .int .i64 g1), (⟨gb, go + gi * 2 + 1, none⟩, .int .i64 g2), (⟨eb, eo + ei * 4, none⟩, .int .i64 f1), (⟨eb, eo + ei * 4 + 1, none⟩, .int .i64 f2), (⟨eb, eo + ei * 4 + 2, none⟩, .int .i64 u1), (⟨eb, eo + ei * 4 + 3, none⟩, .int .i64 u2)]) (by kernel_rfl) hG.cs.drew (fun hHeld => ?_)
    clear hHeld
    replace hG := hG.drew
    refine wpAnyH_take (i := 0) (oi := ⟨some 68, _, _, _, _, none⟩) (v := ?_) rfl (by kernel_rfl) (by kernel_rfl) (by kernel_rfl) (fun _ _ _ h => h) (Or.inl ⟨by rfl, ?_⟩) hG.cs ?_
    rotate_left
    · intro wz hSw; go_simp; (try with_reducible rfl)
    try simp only [Act.put, List.setIfInBounds_toArray, List.set_cons_zero, List.set_cons_succ]
    refine wpAnyH_take (i := 1) (oi := ⟨some 69, _, _, _, _, none⟩) (v := ?_) rfl (by kernel_rfl) (by kernel_rfl) (by kernel_rfl) (fun _ _ _ h => h) (Or.inl ⟨by rfl, ?_⟩) hG.cs ?_
    rotate_left
    · intro wz hSw; have t4 := hSw.atR 4 rfl; go_simp; (try with_reducible rfl)
    try simp only [Act.put, List.setIfInBounds_toArray, List.set_cons_zero, List.set_cons_succ]
    refine wpAnyH_take (i := 2) (oi := ⟨some 70, _, _, _, _, none⟩) (v := ?_) rfl (by kernel_rfl) (by kernel_rfl) (by kernel_rfl) (fun _ _ _ h => h) (Or.inl ⟨by rfl, ?_⟩) hG.cs ?_
    rotate_left
    · intro wz hSw; go_simp; (try with_reducible rfl)
    try simp only [Act.put, List.setIfInBounds_toArray, List.set_cons_zero, List.set_cons_succ]
    refine wpAnyH_take (i := 3) (oi := ⟨some 71, _, _, _, _, none⟩) (v := ?_) rfl (by kernel_rfl) (by kernel_rfl) (by kernel_rfl) (fun _ _ _ h => h) (Or.inl ⟨by rfl, ?_⟩) hG.cs ?_
    rotate_left
    · intro wz hSw; have t8 := hSw.atR 8 rfl; go_simp; (try with_reducible rfl)
    try simp only [Act.put, List.setIfInBounds_toArray, List.set_cons_zero, List.set_cons_succ]
    refine wpAnyH_take (i := 4) (oi := ⟨some 72, _, _, _, _, none⟩) (v := ?_) rfl (by kernel_rfl) (by kernel_rfl) (by kernel_rfl) (fun _ _ _ h => h) (Or.inl ⟨by rfl, ?_⟩) hG.cs ?_
    rotate_left
    · intro wz hSw; go_simp; (try with_reducible rfl)
    try simp only [Act.put, List.setIfInBounds_toArray, List.set_cons_zero, List.set_cons_succ]
    refine wpAnyH_take (i := 5) (oi := ⟨some 73, _, _, _, _, none⟩) (v := ?_) rfl (by kernel_rfl) (by kernel_rfl) (by kernel_rfl) (fun _ _ _ h => h) (Or.inl ⟨by rfl, ?_⟩) hG.cs ?_
    rotate_left
    · intro wz hSw; go_simp; (try with_reducible rfl)
    try simp only [Act.put, List.setIfInBounds_toArray, List.set_cons_zero, List.set_cons_succ]
    refine wpAnyH_take (i := 6) (oi := ⟨some 74, _, _, _, _, none⟩) (v := ?_) rfl (by kernel_rfl) (by kernel_rfl) (by kernel_rfl) (fun _ _ _ h => h) (Or.inl ⟨by rfl, ?_⟩) hG.cs ?_
    rotate_left
    · intro wz hSw; have t18 := hSw.atR 18 rfl; have t19 := hSw.atR 19 rfl; go_simp; (try with_reducible rfl)
    try simp only [Act.put, List.setIfInBounds_toArray, List.set_cons_zero, List.set_cons_succ]
    refine wpAnyH_take (i := 7) (oi := ⟨some 75, _, _, _, _, none⟩) (v := ?_) rfl (by kernel_rfl) (by kernel_rfl) (by kernel_rfl) (fun _ _ _ h => h) (Or.inl ⟨by rfl, ?_⟩) hG.cs ?_
    rotate_left
    · intro wz hSw; go_simp; (try with_reducible rfl)
    try simp only [Act.put, List.setIfInBounds_toArray, List.set_cons_zero, List.set_cons_succ]
    refine wpAnyH_take (i := 8) (oi := ⟨some 76, _, _, _, _, none⟩) (v := ?_) rfl (by kernel_rfl) (by kernel_rfl) (by kernel_rfl) (fun _ _ _ h => h) (Or.inl ⟨by rfl, ?_⟩) hG.cs ?_
    rotate_left
    · intro wz hSw; have t9 := hSw.atR 9 rfl; go_simp; (try with_reducible rfl)
    try simp only [Act.put, List.setIfInBounds_toArray, List.set_cons_zero, List.set_cons_succ]
    refine wpAnyH_take (i := 9) (oi := ⟨some 77, _, _, _, _, none⟩) (v := ?_) rfl (by kernel_rfl) (by kernel_rfl) (by kernel_rfl) (fun _ _ _ h => h) (Or.inl ⟨by rfl, ?_⟩) hG.cs ?_
    rotate_left
    · intro wz hSw; go_simp; (try with_reducible rfl)
    try simp only [Act.put, List.setIfInBounds_toArray, List.set_cons_zero, List.set_cons_succ]
    refine wpAnyH_ready (rs := [10, 14]) (by kernel_rfl) (by simp) ?_
    refine (AllReadyH.cons (o := ⟨some 78, _, _, _, _, none⟩) rfl (fun K hK => ?_) (AllReadyH.cons (o := ⟨some 11, _, _, _, _, none⟩) rfl (fun K hK => ?_) AllReadyH.nil))
    · skip
      go_simp
      refine (ref2_Mul_is u1 u2 x.units 1 h0x h0y e3 _ ie.2.2.1 ie.2.2.2 hx.units (by decide) ST3.out).mono ?_
      rintro e1 v1 ⟨rfl, kA⟩
      replace hG := hG.below kA
      clear kA
      refine hK.out _ _ ?_ (fun hHeld => ?_)
      · exact hG.cs
      clear hK K hHeld
      try simp only [Act.put, List.setIfInBounds_toArray, List.set_cons_zero, List.set_cons_succ]
      refine wpAnyH_take (i := 11) (oi := ⟨some 67, _, _, _, _, none⟩) (v := ?_) rfl (by kernel_rfl) (by kernel_rfl) (by kernel_rfl) (fun _ _ _ h => h) (Or.inl ⟨by rfl, ?_⟩) hG.cs ?_
      rotate_left
      · intro wz hSw; go_simp; (try with_reducible rfl)
      try simp only [Act.put, List.setIfInBounds_toArray, List.set_cons_zero, List.set_cons_succ]
      refine wpAnyH_take (i := 12) (oi := ⟨some 79, _, _, _, _, none⟩) (v := ?_) rfl (by kernel_rfl) (by kernel_rfl) (by kernel_rfl) (fun _ _ _ h => h) (Or.inl ⟨by rfl, ?_⟩) hG.cs ?_
      rotate_left
      · intro wz hSw; go_simp; (try with_reducible rfl)
      try simp only [Act.put, List.setIfInBounds_toArray, List.set_cons_zero, List.set_cons_succ]
      refine wpAnyH_take (i := 13) (oi := ⟨some 80, _, _, _, _, none⟩) (v := ?_) rfl (by kernel_rfl) (by kernel_rfl) (by kernel_rfl) (fun _ _ _ h => h) (Or.inl ⟨by rfl, ?_⟩) hG.cs ?_
      rotate_left
      · intro wz hSw; go_simp; (try with_reducible rfl)
      try simp only [Act.put, List.setIfInBounds_toArray, List.set_cons_zero, List.set_cons_succ]
      refine wpAnyH_ready (rs := [14]) (by kernel_rfl) (by simp) ?_
      refine AllReadyH.cons (o := ⟨some 11, _, _, _, _, none⟩) rfl (fun K hK => ?_) AllReadyH.nil
      go_simp
      have hF : FreshR w [(⟨g9, 0, none⟩, .int .i64 ux), (⟨g9, 1, none⟩, .int .i64 uy), (⟨w.heap.size, 2, none⟩, .int .i64 s.pn), (⟨w.heap.size, 3, none⟩, .int .i64 s.pd), (⟨w.heap.size, 4, none⟩, .slice (some ⟨eb, eo, none⟩) q.el q.ec), (⟨w.heap.size, 5, none⟩, .slice (some ⟨cb, co, none⟩) q.cl q.cc), (⟨w.heap.size, 6, none⟩, .slice (some ⟨gb, go, none⟩) q.gl q.gc), (⟨w.heap.size, 7, none⟩, .int .i64 s.allow), (⟨w.heap.size + 1, 6, none⟩, .int .i64 (ei : Int)), (⟨w.heap.size + 1, 7, none⟩, .int .i64 x.units), (⟨w.heap.size + 1, 8, none⟩, .int .i64 (ci : Int)), (⟨w.heap.size + 1, 9, none⟩, .int .i64 (gi : Int)), (⟨cb, co + ci * 2, none⟩, .int .i64 c1), (⟨cb, co + ci * 2 + 1, none⟩, .int .i64 c2), (⟨gb, go + gi * 2, none⟩, .int .i64 g1), (⟨gb, go + gi * 2 + 1, none⟩, .int .i64 g2), (⟨eb, eo + ei * 4, none⟩, .int .i64 f1), (⟨eb, eo + ei * 4 + 1, none⟩, .int .i64 f2), (⟨eb, eo + ei * 4 + 2, none⟩, .int .i64 u1), (⟨eb, eo + ei * 4 + 3, none⟩, .int .i64 u2)] v1.heap.size := hG.fresh
      have hO : Own (v1.alloc (.cells #[.int .i64 0, .int .i64 0] 24)) v1.heap.size 0 0 := Own.new' rfl
      have hGp := hG
      replace hG := hG.alloc (.cells #[.int .i64 0, .int .i64 0] 24)
      refine hK.out _ _ ?_ (fun hHeld => ?_)
      · exact hG.cs
      clear hK K hHeld
      try simp only [Act.put, List.setIfInBounds_toArray, List.set_cons_zero, List.set_cons_succ]
      refine wpAnyH_ready (rs := [15]) (by kernel_rfl) (by simp) ?_
      refine AllReadyH.cons (o := ⟨none, _, _, _, _, none⟩) rfl (fun K hK => ?_) AllReadyH.nil
      obtain ⟨_, o0, o1, o2, o3⟩ := id hO
      go_simp
      clear o0 o1 o2 o3
      replace hG := hGp.alloc (.cells #[.int .i64 h0x, .int .i64 h0y] 24)
      replace hO : Own (v1.alloc (.cells #[.int .i64 h0x, .int .i64 h0y] 24)) v1.heap.size h0x h0y := Own.new' rfl
      refine hK.out _ _ ?_ (fun hHeld => ?_)
      · exact hG.cs
      clear hK K hHeld
      try simp only [Act.put, List.setIfInBounds_toArray, List.set_cons_zero, List.set_cons_succ]
      refine wpAnyH_take (i := 16) (oi := ⟨some 12, _, _, _, _, none⟩) (v := ?_) rfl (by kernel_rfl) (by kernel_rfl) (by kernel_rfl) (fun _ _ _ h => h) (Or.inl ⟨by rfl, ?_⟩) hG.cs ?_
      rotate_left
      · intro wz hSw; go_simp; (try with_reducible rfl)
      try simp only [Act.put, List.setIfInBounds_toArray, List.set_cons_zero, List.set_cons_succ]
      refine wpAnyH_done (by kernel_rfl) ?_ _
      go_wp2_with fail
      go_meet
      case rel => exact ⟨_, rfl, rfl, hG, hO, hF⟩
    · skip
      go_simp
      have hF : FreshR w [(⟨g9, 0, none⟩, .int .i64 ux), (⟨g9, 1, none⟩, .int .i64 uy), (⟨w.heap.size, 2, none⟩, .int .i64 s.pn), (⟨w.heap.size, 3, none⟩, .int .i64 s.pd), (⟨w.heap.size, 4, none⟩, .slice (some ⟨eb, eo, none⟩) q.el q.ec), (⟨w.heap.size, 5, none⟩, .slice (some ⟨cb, co, none⟩) q.cl q.cc), (⟨w.heap.size, 6, none⟩, .slice (some ⟨gb, go, none⟩) q.gl q.gc), (⟨w.heap.size, 7, none⟩, .int .i64 s.allow), (⟨w.heap.size + 1, 6, none⟩, .int .i64 (ei : Int)), (⟨w.heap.size + 1, 7, none⟩, .int .i64 x.units), (⟨w.heap.size + 1, 8, none⟩, .int .i64 (ci : Int)), (⟨w.heap.size + 1, 9, none⟩, .int .i64 (gi : Int)), (⟨cb, co + ci * 2, none⟩, .int .i64 c1), (⟨cb, co + ci * 2 + 1, none⟩, .int .i64 c2), (⟨gb, go + gi * 2, none⟩, .int .i64 g1), (⟨gb, go + gi * 2 + 1, none⟩, .int .i64 g2), (⟨eb, eo + ei * 4, none⟩, .int .i64 f1), (⟨eb, eo + ei * 4 + 1, none⟩, .int .i64 f2), (⟨eb, eo + ei * 4 + 2, none⟩, .int .i64 u1), (⟨eb, eo + ei * 4 + 3, none⟩, .int .i64 u2)] V2.heap.size := hG.fresh
      have hO : Own (V2.drew.alloc (.cells #[.int .i64 0, .int .i64 0] 24)) V2.heap.size 0 0 := Own.new' rfl
      have hGp := hG
      replace hG := hG.alloc (.cells #[.int .i64 0, .int .i64 0] 24)
      refine hK.out _ _ ?_ (fun hHeld => ?_)
      · exact hG.cs
      clear hK K hHeld
      try simp only [Act.put, List.setIfInBounds_toArray, List.set_cons_zero, List.set_cons_succ]
      refine wpAnyH_ready (rs := [10]) (by kernel_rfl) (by simp) ?_
      refine AllReadyH.cons (o := ⟨some 78, _, _, _, _, none⟩) rfl (fun K hK => ?_) AllReadyH.nil
      go_simp
      refine (ref2_Mul_is u1 u2 x.units 1 h0x h0y e3 _ ie.2.2.1 ie.2.2.2 hx.units (by decide) ST3.out).mono ?_
      rintro e2 v2 ⟨rfl, kA⟩
      replace hG := hG.below kA
      replace hO := hO.below kA
      clear kA
      refine hK.out _ _ ?_ (fun hHeld => ?_)
      · exact hG.cs
      clear hK K hHeld
      try simp only [Act.put, List.setIfInBounds_toArray, List.set_cons_zero, List.set_cons_succ]
      refine wpAnyH_take (i := 11) (oi := ⟨some 67, _, _, _, _, none⟩) (v := ?_) rfl (by kernel_rfl) (by kernel_rfl) (by kernel_rfl) (fun _ _ _ h => h) (Or.inl ⟨by rfl, ?_⟩) hG.cs ?_
      rotate_left
      · intro wz hSw; go_simp; (try with_reducible rfl)
      try simp only [Act.put, List.setIfInBounds_toArray, List.set_cons_zero, List.set_cons_succ]
      refine wpAnyH_take (i := 12) (oi := ⟨some 79, _, _, _, _, none⟩) (v := ?_) rfl (by kernel_rfl) (by kernel_rfl) (by kernel_rfl) (fun _ _ _ h => h) (Or.inl ⟨by rfl, ?_⟩) hG.cs ?_
      rotate_left
      · intro wz hSw; go_simp; (try with_reducible rfl)
      try simp only [Act.put, List.setIfInBounds_toArray, List.set_cons_zero, List.set_cons_succ]
      refine wpAnyH_take (i := 13) (oi := ⟨some 80, _, _, _, _, none⟩) (v := ?_) rfl (by kernel_rfl) (by kernel_rfl) (by kernel_rfl) (fun _ _ _ h => h) (Or.inl ⟨by rfl, ?_⟩) hG.cs ?_
      rotate_left
      · intro wz hSw; go_simp; (try with_reducible rfl)
      try simp only [Act.put, List.setIfInBounds_toArray, List.set_cons_zero, List.set_cons_succ]
      refine wpAnyH_ready (rs := [15]) (by kernel_rfl) (by simp) ?_
      refine AllReadyH.cons (o := ⟨none, _, _, _, _, none⟩) rfl (fun K hK => ?_) AllReadyH.nil
      obtain ⟨_, o0, o1, o2, o3⟩ := id hO
      go_simp
      clear o0 o1 o2 o3
      replace hG := hG.put hF (.int .i64 h0x) (.int .i64 h0y)
      replace hO := own_putR hO h0x h0y
      refine hK.out _ _ ?_ (fun hHeld => ?_)
      · exact hG.cs
      clear hK K hHeld
      try simp only [Act.put, List.setIfInBounds_toArray, List.set_cons_zero, List.set_cons_succ]
      refine wpAnyH_take (i := 16) (oi := ⟨some 12, _, _, _, _, none⟩) (v := ?_) rfl (by kernel_rfl) (by kernel_rfl) (by kernel_rfl) (fun _ _ _ h => h) (Or.inl ⟨by rfl, ?_⟩) hG.cs ?_
      rotate_left
      · intro wz hSw; go_simp; (try with_reducible rfl)
      try simp only [Act.put, List.setIfInBounds_toArray, List.set_cons_zero, List.set_cons_succ]
      refine wpAnyH_done (by kernel_rfl) ?_ _
      go_wp2_with fail
      go_meet
      case rel => exact ⟨_, rfl, rfl, hG, hO, hF⟩
  case rest =>
  obtain ⟨g3, rfl, rfl, hG, hO, hF⟩ := hcut
  generalize wc = V3 at *
  by_cases he3 : e3 = 0
  rotate_left
  · obtain ⟨rfl, rfl, rfl⟩ := prop3 he3 ST4.out ST5.out ST6.out ST7.out
    have q1 : (e == 0) = false := by rw [beq_eq_false_iff_ne]; exact he3
    have q2 : (e != 0) = true := by rw [bne_iff_ne]; exact he3
    clear ST3 ST4 ST5 ST6 ST7 hO hF
    obtain ⟨rl, r0, r1, r2, r3⟩ := hG.own
    have hBl := hG.bel
    go_wp2_with fail
    refine bodyPost_ret (v := .tuple #[.agg #[.int .i64 0, .int .i64 0], .int .i64 e]) (by simp [results, Try.results26, go_sem, r0, r1]) rfl ⟨rfl, (hBl.setCell (by simp; omega) _).setCell (by simp; omega) _⟩
  obtain rfl := he3
  go_upto_region 15 with fail
  go_cut [12] (fun v V' => v = .int .i64 e4 ∧ RS w [(⟨g9, 0, none⟩, .int .i64 ux), (⟨g9, 1, none⟩, .int .i64 uy), (⟨w.heap.size, 2, none⟩, .int .i64 s.pn), (⟨w.heap.size, 3, none⟩, .int .i64 s.pd), (⟨w.heap.size, 4, none⟩, .slice (some ⟨eb, eo, none⟩) q.el q.ec), (⟨w.heap.size, 5, none⟩, .slice (some ⟨cb, co, none⟩) q.cl q.cc), (⟨w.heap.size, 6, none⟩, .slice (some ⟨gb, go, none⟩) q.gl q.gc), (⟨w.heap.size, 7, none⟩, .int .i64 s.allow), (⟨w.heap.size + 1, 6, none⟩, .int .i64 (ei : Int)), (⟨w.heap.size + 1, 7, none⟩, .int .i64 x.units), (⟨w.heap.size + 1, 8, none⟩, .int .i64 (ci : Int)), (⟨w.heap.size + 1, 9, none⟩, .int .i64 (gi : Int)), (⟨cb, co + ci * 2, none⟩, .int .i64 c1), (⟨cb, co + ci * 2 + 1, none⟩, .int .i64 c2), (⟨gb, go + gi * 2, none⟩, .int .i64 g1), (⟨gb, go + gi * 2 + 1, none⟩, .int .i64 g2), (⟨eb, eo + ei * 4, none⟩, .int .i64 f1), (⟨eb, eo + ei * 4 + 1, none⟩, .int .i64 f2), (⟨eb, eo + ei * 4 + 2, none⟩, .int .i64 u1), (⟨eb, eo + ei * 4 + 3, none⟩, .int .i64 u2)] V' ∧ Own V' g3 h1x h1y)
  case first =>
   as_aux_lemma =>
    refine wp_region_held_drew (S := Cs [(⟨g9, 0, none⟩, .int .i64 ux), (⟨g9, 1, none⟩, .int .i64 uy), (⟨w.heap.size, 2, none⟩, .int .i64 s.pn), (⟨w.heap.size, 3, none⟩, .int .i64 s.pd), (⟨w.heap.size, 4, none⟩, .slice (some ⟨eb, eo, none⟩) q.el q.ec), (⟨w.heap.size, 5, none⟩, .slice (some ⟨cb, co, none⟩) q.cl q.cc), (⟨w.heap.size, 6, none⟩, .slice (some ⟨gb, go, none⟩) q.gl q.gc), (⟨w.heap.size, 7, none⟩, .int .i64 s.allow), (⟨w.heap.size + 1, 6, none⟩, .int .i64 (ei : Int)), (⟨w.heap.size + 1, 7, none⟩, .int .i64 x.units), (⟨w.heap.size + 1, 8, none⟩, .int .i64 (ci : Int)), (⟨w.heap.size + 1, 9, none⟩, .int .i64 (gi : Int)), (⟨cb, co + ci * 2, none⟩, .int .i64 c1), (⟨cb, co + ci * 2 + 1, none⟩, .int .i64 c2), (⟨gb, go + gi * 2, none⟩, .int .i64 g1), (⟨gb, go + gi * 2 + 1, none⟩, .int .i64 g2), (⟨eb, eo + ei * 4, none⟩, .int .i64 f1), (⟨eb, eo + ei * 4 + 1, none⟩, .int .i64 f2), (⟨eb, eo + ei * 4 + 2, none⟩, .int .i64 u1), (⟨eb, eo + ei * 4 + 3, none⟩, .int .i64 u2)]) (by kernel_rfl) hG.cs.drew (fun hHeld => ?_)
    clear hHeld
    replace hG := hG.drew
    replace hO := hO.drew
    refine wpAnyH_take (i := 0) (oi := ⟨some 86, _, _, _, _, none⟩) (v := ?_) rfl (by kernel_rfl) (by kernel_rfl) (by kernel_rfl) (fun _ _ _ h => h) (Or.inl ⟨by rfl, ?_⟩) hG.cs ?_
    rotate_left
    · intro wz hSw; go_simp; (try with_reducible rfl)
    try simp only [Act.put, List.setIfInBounds_toArray, List.set_cons_zero, List.set_cons_succ]
    refine wpAnyH_take (i := 1) (oi := ⟨some 87, _, _, _, _, none⟩) (v := ?_) rfl (by kernel_rfl) (by kernel_rfl) (by kernel_rfl) (fun _ _ _ h => h) (Or.inl ⟨by rfl, ?_⟩) hG.cs ?_
    rotate_left
    · intro wz hSw; have t4 := hSw.atR 4 rfl; go_simp; (try with_reducible rfl)
    try simp only [Act.put, List.setIfInBounds_toArray, List.set_cons_zero, List.set_cons_succ]
    refine wpAnyH_take (i := 2) (oi := ⟨some 88, _, _, _, _, none⟩) (v := ?_) rfl (by kernel_rfl) (by kernel_rfl) (by kernel_rfl) (fun _ _ _ h => h) (Or.inl ⟨by rfl, ?_⟩) hG.cs ?_
    rotate_left
    · intro wz hSw; go_simp; (try with_reducible rfl)
    try simp only [Act.put, List.setIfInBounds_toArray, List.set_cons_zero, List.set_cons_succ]
    refine wpAnyH_take (i := 3) (oi := ⟨some 89, _, _, _, _, none⟩) (v := ?_) rfl (by kernel_rfl) (by kernel_rfl) (by kernel_rfl) (fun _ _ _ h => h) (Or.inl ⟨by rfl, ?_⟩) hG.cs ?_
    rotate_left
    · intro wz hSw; have t8 := hSw.atR 8 rfl; go_simp; (try with_reducible rfl)
    try simp only [Act.put, List.setIfInBounds_toArray, List.set_cons_zero, List.set_cons_succ]
    refine wpAnyH_take (i := 4) (oi := ⟨some 90, _, _, _, _, none⟩) (v := ?_) rfl (by kernel_rfl) (by kernel_rfl) (by kernel_rfl) (fun _ _ _ h => h) (Or.inl ⟨by rfl, ?_⟩) hG.cs ?_
    rotate_left
    · intro wz hSw; go_simp; (try with_reducible rfl)
    try simp only [Act.put, List.setIfInBounds_toArray, List.set_cons_zero, List.set_cons_succ]
    refine wpAnyH_take (i := 5) (oi := ⟨some 91, _, _, _, _, none⟩) (v := ?_) rfl (by kernel_rfl) (by kernel_rfl) (by kernel_rfl) (fun _ _ _ h => h) (Or.inl ⟨by rfl, ?_⟩) hG.cs ?_
    rotate_left
    · intro wz hSw; go_simp; (try with_reducible rfl)
    try simp only [Act.put, List.setIfInBounds_toArray, List.set_cons_zero, List.set_cons_succ]
    refine wpAnyH_take (i := 6) (oi := ⟨some 92, _, _, _, _, none⟩) (v := ?_) rfl (by kernel_rfl) (by kernel_rfl) (by kernel_rfl) (fun _ _ _ h => h) (Or.inl ⟨by rfl, ?_⟩) hG.cs ?_
    rotate_left
    · intro wz hSw; have t16 := hSw.atR 16 rfl; have t17 := hSw.atR 17 rfl; go_simp; (try with_reducible rfl)
    try simp only [Act.put, List.setIfInBounds_toArray, List.set_cons_zero, List.set_cons_succ]
    refine wpAnyH_ready (rs := [7]) (by kernel_rfl) (by simp) ?_
    refine AllReadyH.cons (o := ⟨some 93, _, _, _, _, none⟩) rfl (fun K hK => ?_) AllReadyH.nil
    obtain ⟨_, o0, o1, o2, o3⟩ := id hO
    go_simp
    clear o0 o1 o2 o3
    refine hK.out _ _ ?_ (fun hHeld => ?_)
    · exact hG.cs
    clear hK K hHeld
    try simp only [Act.put, List.setIfInBounds_toArray, List.set_cons_zero, List.set_cons_succ]
    refine wpAnyH_ready (rs := [8]) (by kernel_rfl) (by simp) ?_
    refine AllReadyH.cons (o := ⟨some 94, _, _, _, _, none⟩) rfl (fun K hK => ?_) AllReadyH.nil
    go_simp
    replace hG := hG.alloc (.cells #[.int .i64 f1, .int .i64 f2, .int .i64 h0x, .int .i64 h0y] 24)
    replace hO := hO.alloc (.cells #[.int .i64 f1, .int .i64 f2, .int .i64 h0x, .int .i64 h0y] 24)
    refine hK.out _ _ ?_ (fun hHeld => ?_)
    · exact hG.cs
    clear hK K hHeld
    try simp only [Act.put, List.setIfInBounds_toArray, List.set_cons_zero, List.set_cons_succ]
    refine wpAnyH_ready (rs := [9]) (by kernel_rfl) (by simp) ?_
    refine AllReadyH.cons (o := ⟨some 95, _, _, _, _, none⟩) rfl (fun K hK => ?_) AllReadyH.nil
    go_simp
    refine (ref2_Sum_is _ _ _ [(f1, f2), (h0x, h0y)] h1x h1y e4 _ ((Ratios_new2 _ _ (by first | rfl | simp) _ _ _ _ _ ie.1 ie.2.1 i3.1 i3.2).below ((Below.refl _ _).drew)) (SU1.out (by first | rfl | trivial))).mono ?_
    rintro e3 v3 ⟨rfl, kA⟩
    replace hG := hG.below kA
    replace hO := hO.below kA
    clear kA
    refine hK.out _ _ ?_ (fun hHeld => ?_)
    · exact hG.cs
    clear hK K hHeld
    try simp only [Act.put, List.setIfInBounds_toArray, List.set_cons_zero, List.set_cons_succ]
    refine wpAnyH_take (i := 10) (oi := ⟨some 85, _, _, _, _, none⟩) (v := ?_) rfl (by kernel_rfl) (by kernel_rfl) (by kernel_rfl) (fun _ _ _ h => h) (Or.inl ⟨by rfl, ?_⟩) hG.cs ?_
    rotate_left
    · intro wz hSw; go_simp; (try with_reducible rfl)
    try simp only [Act.put, List.setIfInBounds_toArray, List.set_cons_zero, List.set_cons_succ]
    refine wpAnyH_take (i := 11) (oi := ⟨some 96, _, _, _, _, none⟩) (v := ?_) rfl (by kernel_rfl) (by kernel_rfl) (by kernel_rfl) (fun _ _ _ h => h) (Or.inl ⟨by rfl, ?_⟩) hG.cs ?_
    rotate_left
    · intro wz hSw; go_simp; (try with_reducible rfl)
    try simp only [Act.put, List.setIfInBounds_toArray, List.set_cons_zero, List.set_cons_succ]
    refine wpAnyH_take (i := 12) (oi := ⟨some 97, _, _, _, _, none⟩) (v := ?_) rfl (by kernel_rfl) (by kernel_rfl) (by kernel_rfl) (fun _ _ _ h => h) (Or.inl ⟨by rfl, ?_⟩) hG.cs ?_
    rotate_left
    · intro wz hSw; go_simp; (try with_reducible rfl)
    try simp only [Act.put, List.setIfInBounds_toArray, List.set_cons_zero, List.set_cons_succ]
    refine wpAnyH_ready (rs := [13]) (by kernel_rfl) (by simp) ?_
    refine AllReadyH.cons (o := ⟨none, _, _, _, _, none⟩) rfl (fun K hK => ?_) AllReadyH.nil
    obtain ⟨_, o0, o1, o2, o3⟩ := id hO
    go_simp
    clear o0 o1 o2 o3
    replace hG := hG.put hF (.int .i64 h1x) (.int .i64 h1y)
    replace hO := own_putR hO h1x h1y
    refine hK.out _ _ ?_ (fun hHeld => ?_)
    · exact hG.cs
    clear hK K hHeld
    try simp only [Act.put, List.setIfInBounds_toArray, List.set_cons_zero, List.set_cons_succ]
    refine wpAnyH_take (i := 14) (oi := ⟨some 12, _, _, _, _, none⟩) (v := ?_) rfl (by kernel_rfl) (by kernel_rfl) (by kernel_rfl) (fun _ _ _ h => h) (Or.inl ⟨by rfl, ?_⟩) hG.cs ?_
    rotate_left
    · intro wz hSw; go_simp; (try with_reducible rfl)
    try simp only [Act.put, List.setIfInBounds_toArray, List.set_cons_zero, List.set_cons_succ]
    refine wpAnyH_done (by kernel_rfl) ?_ _
    go_wp2_with fail
    go_meet
    case rel => exact ⟨rfl, hG, hO⟩
  case rest =>
  obtain ⟨rfl, hG, hO⟩ := hcut
  generalize wc = V4 at *
  go_upto_region 16 with fail
  go_cut [12] (fun v V' => v = .int .i64 e5 ∧ RS w [(⟨g3, 0, none⟩, .int .i64 h2x), (⟨g3, 1, none⟩, .int .i64 h2y), (⟨g9, 0, none⟩, .int .i64 ux), (⟨g9, 1, none⟩, .int .i64 uy), (⟨w.heap.size, 2, none⟩, .int .i64 s.pn), (⟨w.heap.size, 3, none⟩, .int .i64 s.pd), (⟨w.heap.size, 4, none⟩, .slice (some ⟨eb, eo, none⟩) q.el q.ec), (⟨w.heap.size, 5, none⟩, .slice (some ⟨cb, co, none⟩) q.cl q.cc), (⟨w.heap.size, 6, none⟩, .slice (some ⟨gb, go, none⟩) q.gl q.gc), (⟨w.heap.size, 7, none⟩, .int .i64 s.allow), (⟨w.heap.size + 1, 6, none⟩, .int .i64 (ei : Int)), (⟨w.heap.size + 1, 7, none⟩, .int .i64 x.units), (⟨w.heap.size + 1, 8, none⟩, .int .i64 (ci : Int)), (⟨w.heap.size + 1, 9, none⟩, .int .i64 (gi : Int)), (⟨cb, co + ci * 2, none⟩, .int .i64 c1), (⟨cb, co + ci * 2 + 1, none⟩, .int .i64 c2), (⟨gb, go + gi * 2, none⟩, .int .i64 g1), (⟨gb, go + gi * 2 + 1, none⟩, .int .i64 g2), (⟨eb, eo + ei * 4, none⟩, .int .i64 f1), (⟨eb, eo + ei * 4 + 1, none⟩, .int .i64 f2), (⟨eb, eo + ei * 4 + 2, none⟩, .int .i64 u1), (⟨eb, eo + ei * 4 + 3, none⟩, .int .i64 u2)] V')
  case first =>
   as_aux_lemma =>
    refine wp_region_held_drew (S := Cs [(⟨g9, 0, none⟩, .int .i64 ux), (⟨g9, 1, none⟩, .int .i64 uy), (⟨w.heap.size, 2, none⟩, .int .i64 s.pn), (⟨w.heap.size, 3, none⟩, .int .i64 s.pd), (⟨w.heap.size, 4, none⟩, .slice (some ⟨eb, eo, none⟩) q.el q.ec), (⟨w.heap.size, 5, none⟩, .slice (some ⟨cb, co, none⟩) q.cl q.cc), (⟨w.heap.size, 6, none⟩, .slice (some ⟨gb, go, none⟩) q.gl q.gc), (⟨w.heap.size, 7, none⟩, .int .i64 s.allow), (⟨w.heap.size + 1, 6, none⟩, .int .i64 (ei : Int)), (⟨w.heap.size + 1, 7, none⟩, .int .i64 x.units), (⟨w.heap.size + 1, 8, none⟩, .int .i64 (ci : Int)), (⟨w.heap.size + 1, 9, none⟩, .int .i64 (gi : Int)), (⟨cb, co + ci * 2, none⟩, .int .i64 c1), (⟨cb, co + ci * 2 + 1, none⟩, .int .i64 c2), (⟨gb, go + gi * 2, none⟩, .int .i64 g1), (⟨gb, go + gi * 2 + 1, none⟩, .int .i64 g2), (⟨eb, eo + ei * 4, none⟩, .int .i64 f1), (⟨eb, eo + ei * 4 + 1, none⟩, .int .i64 f2), (⟨eb, eo + ei * 4 + 2, none⟩, .int .i64 u1), (⟨eb, eo + ei * 4 + 3, none⟩, .int .i64 u2)]) (by kernel_rfl) hG.cs.drew (fun hHeld => ?_)
    clear hHeld
    replace hG := hG.drew
    replace hO := hO.drew
    refine wpAnyH_take (i := 1) (oi := ⟨some 100, _, _, _, _, none⟩) (v := ?_) rfl (by kernel_rfl) (by kernel_rfl) (by kernel_rfl) (fun _ _ _ h => h) (Or.inl ⟨by rfl, ?_⟩) hG.cs ?_
    rotate_left
    · intro wz hSw; go_simp; (try with_reducible rfl)
    try simp only [Act.put, List.setIfInBounds_toArray, List.set_cons_zero, List.set_cons_succ]
    refine wpAnyH_take (i := 2) (oi := ⟨some 101, _, _, _, _, none⟩) (v := ?_) rfl (by kernel_rfl) (by kernel_rfl) (by kernel_rfl) (fun _ _ _ h => h) (Or.inl ⟨by rfl, ?_⟩) hG.cs ?_
    rotate_left
    · intro wz hSw; go_simp; (try with_reducible rfl)
    try simp only [Act.put, List.setIfInBounds_toArray, List.set_cons_zero, List.set_cons_succ]
    refine wpAnyH_take (i := 3) (oi := ⟨some 102, _, _, _, _, none⟩) (v := ?_) rfl (by kernel_rfl) (by kernel_rfl) (by kernel_rfl) (fun _ _ _ h => h) (Or.inl ⟨by rfl, ?_⟩) hG.cs ?_
    rotate_left
    · intro wz hSw; have t5 := hSw.atR 5 rfl; go_simp; (try with_reducible rfl)
    try simp only [Act.put, List.setIfInBounds_toArray, List.set_cons_zero, List.set_cons_succ]
    refine wpAnyH_take (i := 4) (oi := ⟨some 103, _, _, _, _, none⟩) (v := ?_) rfl (by kernel_rfl) (by kernel_rfl) (by kernel_rfl) (fun _ _ _ h => h) (Or.inl ⟨by rfl, ?_⟩) hG.cs ?_
    rotate_left
    · intro wz hSw; go_simp; (try with_reducible rfl)
    try simp only [Act.put, List.setIfInBounds_toArray, List.set_cons_zero, List.set_cons_succ]
    refine wpAnyH_take (i := 5) (oi := ⟨some 104, _, _, _, _, none⟩) (v := ?_) rfl (by kernel_rfl) (by kernel_rfl) (by kernel_rfl) (fun _ _ _ h => h) (Or.inl ⟨by rfl, ?_⟩) hG.cs ?_
    rotate_left
    · intro wz hSw; have t10 := hSw.atR 10 rfl; go_simp; (try with_reducible rfl)
    try simp only [Act.put, List.setIfInBounds_toArray, List.set_cons_zero, List.set_cons_succ]
    refine wpAnyH_take (i := 6) (oi := ⟨some 105, _, _, _, _, none⟩) (v := ?_) rfl (by kernel_rfl) (by kernel_rfl) (by kernel_rfl) (fun _ _ _ h => h) (Or.inl ⟨by rfl, ?_⟩) hG.cs ?_
    rotate_left
    · intro wz hSw; go_simp; (try with_reducible rfl)
    try simp only [Act.put, List.setIfInBounds_toArray, List.set_cons_zero, List.set_cons_succ]
    refine wpAnyH_take (i := 7) (oi := ⟨some 106, _, _, _, _, none⟩) (v := ?_) rfl (by kernel_rfl) (by kernel_rfl) (by kernel_rfl) (fun _ _ _ h => h) (Or.inl ⟨by rfl, ?_⟩) hG.cs ?_
    rotate_left
    · intro wz hSw; have t12 := hSw.atR 12 rfl; have t13 := hSw.atR 13 rfl; go_simp; (try with_reducible rfl)
    try simp only [Act.put, List.setIfInBounds_toArray, List.set_cons_zero, List.set_cons_succ]
    refine wpAnyH_ready (rs := [0]) (by kernel_rfl) (by simp) ?_
    refine AllReadyH.cons (o := ⟨some 99, _, _, _, _, none⟩) rfl (fun K hK => ?_) AllReadyH.nil
    obtain ⟨_, o0, o1, o2, o3⟩ := id hO
    go_simp
    clear o0 o1 o2 o3
    refine hK.out _ _ ?_ (fun hHeld => ?_)
    · exact hG.cs
    clear hK K hHeld
    try simp only [Act.put, List.setIfInBounds_toArray, List.set_cons_zero, List.set_cons_succ]
    refine wpAnyH_ready (rs := [8]) (by kernel_rfl) (by simp) ?_
    refine AllReadyH.cons (o := ⟨some 107, _, _, _, _, none⟩) rfl (fun K hK => ?_) AllReadyH.nil
    go_simp
    refine (ref10_times h1x h1y c1 c2 e4 h2x h2y e5 _ i4.1 i4.2 ic.1 ic.2 ST5.out).mono ?_
    rintro e2 v2 ⟨rfl, kA⟩
    replace hG := hG.below kA
    replace hO := hO.below kA
    clear kA
    refine hK.out _ _ ?_ (fun hHeld => ?_)
    · exact hG.cs
    clear hK K hHeld
    try simp only [Act.put, List.setIfInBounds_toArray, List.set_cons_zero, List.set_cons_succ]
    refine wpAnyH_take (i := 9) (oi := ⟨some 98, _, _, _, _, none⟩) (v := ?_) rfl (by kernel_rfl) (by kernel_rfl) (by kernel_rfl) (fun _ _ _ h => h) (Or.inl ⟨by rfl, ?_⟩) hG.cs ?_
    rotate_left
    · intro wz hSw; go_simp; (try with_reducible rfl)
    try simp only [Act.put, List.setIfInBounds_toArray, List.set_cons_zero, List.set_cons_succ]
    refine wpAnyH_take (i := 10) (oi := ⟨some 108, _, _, _, _, none⟩) (v := ?_) rfl (by kernel_rfl) (by kernel_rfl) (by kernel_rfl) (fun _ _ _ h => h) (Or.inl ⟨by rfl, ?_⟩) hG.cs ?_
    rotate_left
    · intro wz hSw; go_simp; (try with_reducible rfl)
    try simp only [Act.put, List.setIfInBounds_toArray, List.set_cons_zero, List.set_cons_succ]
    refine wpAnyH_take (i := 11) (oi := ⟨some 109, _, _, _, _, none⟩) (v := ?_) rfl (by kernel_rfl) (by kernel_rfl) (by kernel_rfl) (fun _ _ _ h => h) (Or.inl ⟨by rfl, ?_⟩) hG.cs ?_
    rotate_left
    · intro wz hSw; go_simp; (try with_reducible rfl)
    try simp only [Act.put, List.setIfInBounds_toArray, List.set_cons_zero, List.set_cons_succ]
    refine wpAnyH_ready (rs := [12]) (by kernel_rfl) (by simp) ?_
    refine AllReadyH.cons (o := ⟨none, _, _, _, _, none⟩) rfl (fun K hK => ?_) AllReadyH.nil
    obtain ⟨_, o0, o1, o2, o3⟩ := id hO
    go_simp
    clear o0 o1 o2 o3
    replace hG := hG.put hF (.int .i64 h2x) (.int .i64 h2y)
    replace hO := own_putR hO h2x h2y
    refine hK.out _ _ ?_ (fun hHeld => ?_)
    · exact hG.cs
    clear hK K hHeld
    try simp only [Act.put, List.setIfInBounds_toArray, List.set_cons_zero, List.set_cons_succ]
    refine wpAnyH_take (i := 13) (oi := ⟨some 12, _, _, _, _, none⟩) (v := ?_) rfl (by kernel_rfl) (by kernel_rfl) (by kernel_rfl) (fun _ _ _ h => h) (Or.inl ⟨by rfl, ?_⟩) hG.cs ?_
    rotate_left
    · intro wz hSw; go_simp; (try with_reducible rfl)
    try simp only [Act.put, List.setIfInBounds_toArray, List.set_cons_zero, List.set_cons_succ]
    refine wpAnyH_done (by kernel_rfl) ?_ _
    go_wp2_with fail
    go_meet
    case rel => exact ⟨rfl, hG.more hO hF⟩
  case rest =>
  obtain ⟨rfl, hG⟩ := hcut
  clear hO hF
  generalize wc = V5 at *
  by_cases he5 : e5 = 0
  rotate_left
  · obtain ⟨rfl, rfl, rfl⟩ := prop5 he5 ST6.out ST7.out
    have q1 : (e == 0) = false := by rw [beq_eq_false_iff_ne]; exact he5
    have q2 : (e != 0) = true := by rw [bne_iff_ne]; exact he5
    clear ST3 ST4 ST5 ST6 ST7
    obtain ⟨rl, r0, r1, r2, r3⟩ := hG.own
    have hBl := hG.bel
    go_wp2_with fail
    refine bodyPost_ret (v := .tuple #[.agg #[.int .i64 0, .int .i64 0], .int .i64 e]) (by simp [results, Try.results26, go_sem, r0, r1]) rfl ⟨rfl, (hBl.setCell (by simp; omega) _).setCell (by simp; omega) _⟩
  obtain rfl := he5
  have y0 := hG.cs.atR 0 rfl
  have y1 := hG.cs.atR 1 rfl
  have y2 := hG.cs.atR 2 rfl
  have y3 := hG.cs.atR 3 rfl
  go_wp2_with fail
  refine (ref2_Sum_is _ _ _ [(ux, uy), (h2x, h2y)] bx by_ e6 _ (Ratios_new2 _ _ (by first | rfl | simp) _ _ _ _ _ i2.1 i2.2 i5.1 i5.2) (SU2.out (by first | rfl | trivial))).mono ?_
  rintro eA0 V6 ⟨rfl, kA⟩
  replace hG := (hG.alloc (.cells #[.int .i64 ux, .int .i64 uy, .int .i64 h2x, .int .i64 h2y] 24)).below kA
  clear kA y0 y1 y2 y3
  go_upto_region 20 with fail
  refine gen_code (S := RS w ([(⟨V6.heap.size, 0, none⟩, .int .i64 bx), (⟨V6.heap.size, 1, none⟩, .int .i64 by_), (⟨g3, 0, none⟩, .int .i64 h2x), (⟨g3, 1, none⟩, .int .i64 h2y), (⟨g9, 0, none⟩, .int .i64 ux), (⟨g9, 1, none⟩, .int .i64 uy), (⟨w.heap.size, 2, none⟩, .int .i64 s.pn), (⟨w.heap.size, 3, none⟩, .int .i64 s.pd), (⟨w.heap.size, 4, none⟩, .slice (some ⟨eb, eo, none⟩) q.el q.ec), (⟨w.heap.size, 5, none⟩, .slice (some ⟨cb, co, none⟩) q.cl q.cc), (⟨w.heap.size, 6, none⟩, .slice (some ⟨gb, go, none⟩) q.gl q.gc), (⟨w.heap.size, 7, none⟩, .int .i64 s.allow), (⟨w.heap.size + 1, 6, none⟩, .int .i64 (ei : Int)), (⟨w.heap.size + 1, 7, none⟩, .int .i64 x.units), (⟨w.heap.size + 1, 8, none⟩, .int .i64 (ci : Int)), (⟨w.heap.size + 1, 9, none⟩, .int .i64 (gi : Int)), (⟨cb, co + ci * 2, none⟩, .int .i64 c1), (⟨cb, co + ci * 2 + 1, none⟩, .int .i64 c2), (⟨gb, go + gi * 2, none⟩, .int .i64 g1), (⟨gb, go + gi * 2 + 1, none⟩, .int .i64 g2), (⟨eb, eo + ei * 4, none⟩, .int .i64 f1), (⟨eb, eo + ei * 4 + 1, none⟩, .int .i64 f2), (⟨eb, eo + ei * 4 + 2, none⟩, .int .i64 u1), (⟨eb, eo + ei * 4 + 3, none⟩, .int .i64 u2)])) ((hG.alloc (.cells #[.int .i64 bx, .int .i64 by_] 24)).more (Own.new' rfl) hG.fresh) (fun V7 hG => ?_)
  generalize V6.heap.size = g13 at *
  have s7 := hG.cs.atR 11 rfl
  go_wp2_with fail
  refine (ref2_Make_is (100 + s.allow) 100 ax ay eA _ (by unfold In; omega) (by decide) HA.out).mono ?_
  rintro eA0 V8 ⟨rfl, kA⟩
  replace hG := hG.below kA
  clear kA s7
  go_upto_region 21 with fail
  refine gen_code (S := RS w ([(⟨V8.heap.size, 0, none⟩, .int .i64 ax), (⟨V8.heap.size, 1, none⟩, .int .i64 ay), (⟨g13, 0, none⟩, .int .i64 bx), (⟨g13, 1, none⟩, .int .i64 by_), (⟨g3, 0, none⟩, .int .i64 h2x), (⟨g3, 1, none⟩, .int .i64 h2y), (⟨g9, 0, none⟩, .int .i64 ux), (⟨g9, 1, none⟩, .int .i64 uy), (⟨w.heap.size, 2, none⟩, .int .i64 s.pn), (⟨w.heap.size, 3, none⟩, .int .i64 s.pd), (⟨w.heap.size, 4, none⟩, .slice (some ⟨eb, eo, none⟩) q.el q.ec), (⟨w.heap.size, 5, none⟩, .slice (some ⟨cb, co, none⟩) q.cl q.cc), (⟨w.heap.size, 6, none⟩, .slice (some ⟨gb, go, none⟩) q.gl q.gc), (⟨w.heap.size, 7, none⟩, .int .i64 s.allow), (⟨w.heap.size + 1, 6, none⟩, .int .i64 (ei : Int)), (⟨w.heap.size + 1, 7, none⟩, .int .i64 x.units), (⟨w.heap.size + 1, 8, none⟩, .int .i64 (ci : Int)), (⟨w.heap.size + 1, 9, none⟩, .int .i64 (gi : Int)), (⟨cb, co + ci * 2, none⟩, .int .i64 c1), (⟨cb, co + ci * 2 + 1, none⟩, .int .i64 c2), (⟨gb, go + gi * 2, none⟩, .int .i64 g1), (⟨gb, go + gi * 2 + 1, none⟩, .int .i64 g2), (⟨eb, eo + ei * 4, none⟩, .int .i64 f1), (⟨eb, eo + ei * 4 + 1, none⟩, .int .i64 f2), (⟨eb, eo + ei * 4 + 2, none⟩, .int .i64 u1), (⟨eb, eo + ei * 4 + 3, none⟩, .int .i64 u2)])) ((hG.alloc (.cells #[.int .i64 ax, .int .i64 ay] 24)).more (Own.new' rfl) hG.fresh) (fun V9 hG => ?_)
  generalize V8.heap.size = g15 at *
  have y0 := hG.cs.atR 0 rfl
  have y1 := hG.cs.atR 1 rfl
  have y2 := hG.cs.atR 2 rfl
  have y3 := hG.cs.atR 3 rfl
  go_wp2_with fail
  refine (ref10_times bx by_ ax ay e6 n d e _ i6.1 i6.2 ia.1 ia.2 ST7.out).mono ?_
  rintro eA0 V10 ⟨rfl, kA⟩
  replace hG := hG.below kA
  clear kA y0 y1 y2 y3
  obtain ⟨rl, r0, r1, r2, r3⟩ := hG.own
  have hBl := hG.bel
  go_wp2_with fail
  refine bodyPost_ret (v := .tuple #[.agg #[.int .i64 n, .int .i64 d], .int .i64 e]) (by simp [results, Try.results26, go_sem, r0, r1]) rfl ⟨rfl, (hBl.setCell (by simp; omega) _).setCell (by simp; omega) _⟩
end Go.Proofs.Ytnjckaifgmliaaa
