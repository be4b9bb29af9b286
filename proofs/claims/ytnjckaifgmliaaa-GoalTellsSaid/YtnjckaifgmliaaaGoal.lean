/- goal.Of: how long a task is to take. -/
import Derived.Test.YtnjckaifgmliaaaGoalBase
import Derived.Test.YtnjckaifgmliaaaEventCheck
import Derived.Test.YtnjckaifgmliaaaWayDist
set_option linter.unusedSimpArgs false
set_option linter.unusedVariables false
namespace Go.Proofs.Ytnjckaifgmliaaa
open Go.RowKit Lu

theorem Cs.at {L : List (Addr × Value)} {V : World} (h : Cs L V) (i : Nat) {c : Addr × Value} (hi : L[i]? = some c) : V.cell? c.1 = some c.2 := h c (List.mem_of_getElem? hi)
/-- What stands while a goal is reckoned: the cells that are read, what is wrong, the result's block. -/
structure GS (w : World) (B : Nat) (L : List (Addr × Value)) (e : Int) (V : World) : Prop where
  cs : Cs L V
  wr : Wrong V B e
  own : Own V (w.heap.size + 2) 0 0
  bel : Below w.heap.size w V
  hB : w.heap.size + 2 < B
  ne : ∀ c ∈ L, c.1.block ≠ B
  nr : ∀ c ∈ L, c.1.block ≠ w.heap.size + 2
section
variable {w V V' : World} {B : Nat} {L : List (Addr × Value)} {e e' : Int}
theorem GS.below (h : GS w B L e V) (k : Below V.heap.size V V') : GS w B L e V' :=
  ⟨h.cs.below k, h.wr.below k, h.own.below k, h.bel.trans (k.mono h.bel.size), h.hB, h.ne, h.nr⟩
theorem GS.alloc (h : GS w B L e V) (o : Obj) : GS w B L e (V.alloc o) := h.below ((Below.refl _ _).alloc (Nat.le_refl _) o)
theorem GS.drew (h : GS w B L e V) : GS w B L e V.drew := ⟨h.cs, h.wr.drew, h.own.drew, h.bel.drew, h.hB, h.ne, h.nr⟩
theorem GS.next (h : GS w B L e V) (hg : V.grownBy V' (some B)) (hw : Wrong V' B e') : GS w B L e' V' :=
  ⟨h.cs.grown hg h.ne, hw, h.own.grown hg (by have := h.hB; omega), below_grown h.bel hg (by have := h.hB; omega), h.hB, h.ne, h.nr⟩
/-- A block of the call's own that nobody reads yet. -/
structure Fresh (w : World) (B : Nat) (L : List (Addr × Value)) (g : Nat) : Prop where
  ne : ∀ c ∈ L, c.1.block ≠ g
  nB : g ≠ B
  nr : g ≠ w.heap.size + 2
  ge : w.heap.size ≤ g
theorem GS.fresh (h : GS w B L e V) : Fresh w B L V.heap.size :=
  ⟨fun c hc => Nat.ne_of_lt (World.block_lt_of_cell? V _ (h.cs c hc)), Nat.ne_of_gt h.wr.lt, Nat.ne_of_gt h.own.lt, h.bel.size⟩
theorem GS.more (h : GS w B L e V) {g : Nat} {x y : Int} (ho : Own V g x y) (hf : Fresh w B L g) : GS w B ((⟨g, 0, none⟩, .int .i64 x) :: (⟨g, 1, none⟩, .int .i64 y) :: L) e V :=
  ⟨fun c hc => by
    simp only [List.mem_cons] at hc
    rcases hc with rfl | rfl | hc
    · exact ho.c0
    · exact ho.c1
    · exact h.cs c hc, h.wr, h.own, h.bel, h.hB, fun c hc => by
    simp only [List.mem_cons] at hc
    rcases hc with rfl | rfl | hc
    · exact hf.nB
    · exact hf.nB
    · exact h.ne c hc, fun c hc => by
    simp only [List.mem_cons] at hc
    rcases hc with rfl | rfl | hc
    · exact hf.nr
    · exact hf.nr
    · exact h.nr c hc⟩
theorem own_put {W : World} {g : Nat} {a b : Int} (h : Own W g a b) (x y : Int) : Own ((W.setCell ⟨g, 0, none⟩ (.int .i64 x)).setCell ⟨g, 1, none⟩ (.int .i64 y)) g x y := by
  obtain ⟨l, c0, c1, f0, f1⟩ := h
  exact ⟨by simpa using l, by simp [go_sem, c0, c1], by simp [go_sem, c0, c1], by simp [go_sem, f0, f1], by simp [go_sem, f0, f1]⟩
theorem GS.put (h : GS w B L e V) {g : Nat} (hf : Fresh w B L g) (x y : Value) : GS w B L e ((V.setCell ⟨g, 0, none⟩ x).setCell ⟨g, 1, none⟩ y) := by
  have hk : ∀ (k : Nat), k ≠ g → (((V.setCell ⟨g, 0, none⟩ x).setCell ⟨g, 1, none⟩ y)).heap[k]? = V.heap[k]? := fun k hk => by
    rw [Below.heap_setCell _ _ _ _ (by simpa using hk), Below.heap_setCell _ _ _ _ (by simpa using hk)]
  have hn := h.wr.lt
  have hB := h.hB
  refine ⟨fun c hc => (World.cell?_of_block (hk _ (hf.ne c hc))).trans (h.cs c hc), ⟨by simpa using hn, (World.cell?_of_block (a := ⟨B, 0, none⟩) (hk _ (fun e => hf.nB e.symm))).trans h.wr.cell, (World.frozen?_of_block (a := ⟨B, 0, none⟩) (hk _ (fun e => hf.nB e.symm))).trans h.wr.fz⟩, ?_,
    (h.bel.setCell hf.ge _).setCell hf.ge _, h.hB, h.ne, h.nr⟩
  have hr := hk (w.heap.size + 2) (fun e => hf.nr e.symm)
  exact ⟨by simpa using h.own.lt, (World.cell?_of_block (a := ⟨w.heap.size + 2, 0, none⟩) hr).trans h.own.c0, (World.cell?_of_block (a := ⟨w.heap.size + 2, 1, none⟩) hr).trans h.own.c1, (World.frozen?_of_block (a := ⟨w.heap.size + 2, 0, none⟩) hr).trans h.own.f0, (World.frozen?_of_block (a := ⟨w.heap.size + 2, 1, none⟩) hr).trans h.own.f1⟩
theorem GS.cons (h : GS w B L e V) {p : Addr} {v : Value} (hc : V.cell? p = some v) (h1 : p.block ≠ B) (h2 : p.block ≠ w.heap.size + 2) : GS w B ((p, v) :: L) e V :=
  ⟨fun c hc' => by
    rcases List.mem_cons.1 hc' with rfl | hc'
    · exact hc
    · exact h.cs c hc', h.wr, h.own, h.bel, h.hB, fun c hc' => by
    rcases List.mem_cons.1 hc' with rfl | hc'
    · exact h1
    · exact h.ne c hc', fun c hc' => by
    rcases List.mem_cons.1 hc' with rfl | hc'
    · exact h2
    · exact h.nr c hc'⟩
end

def FAR (s : Setup) (x : Evt) : Int := distP s x.from' x.to'
set_option maxRecDepth 100000 in
set_option maxHeartbeats 4000000 in
theorem goal_yes (s : Setup) (q : Slices) (x : Evt) (w : World) (h : SetupIs w s q) (hx : EventIs x) (hc : setupP s = true) (he : eventP s x = true) (HK : Hid (x.kind = 3)) (far : Int) (HD : Hid (distP s x.from' x.to' = far)) (HN : Hid (far ≠ -1))
    (ci gi ei : Nat) (Hci : Hid (x.class' = ci)) (Hgi : Hid (x.gear = gi)) (Hei : Hid (x.element = ei)) (hci : ci < q.cl) (hgi : gi < q.gl) (hei : ei < q.el)
    (c1 c2 g1 g2 f1 f2 u1 u2 tx ty e1 ux uy e2 h0x h0y e3 h1x h1y e4 h2x h2y e5 ax ay eA bx by_ e6 n d e : Int) (Hc : Hid (s.classes.getD ci (0, 0) = (c1, c2))) (Hg : Hid (s.gears.getD gi (0, 0) = (g1, g2))) (He : Hid (s.elements.getD ei (0, 0, 0, 0) = (f1, f2, u1, u2)))
    (ifar : In far) (ic : In c1 ∧ In c2) (ig : In g1 ∧ In g2) (ie : In f1 ∧ In f2 ∧ In u1 ∧ In u2) (i1 : In tx ∧ In ty) (i2 : In ux ∧ In uy) (i3 : In h0x ∧ In h0y) (i4 : In h1x ∧ In h1y) (i5 : In h2x ∧ In h2y) (i6 : In bx ∧ In by_) (ia : In ax ∧ In ay) (hal : 0 ≤ s.allow ∧ s.allow ≤ 100)
    (ST1 : Hid (stepP mulRP (far, 1) (s.pn, s.pd) 0 = ((tx, ty), e1))) (ST2 : Hid (stepP mulRP (tx, ty) (g1, g2) e1 = ((ux, uy), e2))) (ST3 : Hid (stepP mulRP (u1, u2) (x.units, 1) e2 = ((h0x, h0y), e3))) (ST4 : Hid (stepP addRP (f1, f2) (h0x, h0y) e3 = ((h1x, h1y), e4)))
    (ST5 : Hid (stepP mulRP (h1x, h1y) (c1, c2) e4 = ((h2x, h2y), e5))) (HA : Hid (mkP (100 + s.allow) 100 = ((ax, ay), eA))) (ST6 : Hid (stepP addRP (ux, uy) (h2x, h2y) e5 = ((bx, by_), e6))) (ST7 : Hid (stepP mulRP (bx, by_) (ax, ay) e6 = ((n, d), e))) : Calls Try.prog 25 #[.agg #[.int .i64 s.places, .slice q.wa q.wl q.wc, .int .i64 s.pn, .int .i64 s.pd, .slice q.ea q.el q.ec, .slice q.ca q.cl q.cc, .slice q.ga q.gl q.gc, .int .i64 s.allow, .int .i64 s.unit, .int .i64 s.cap, .int .i64 s.paidBreak, .int .i64 s.autoAfter, .int .i64 s.autoBreak, .int .i64 s.dayReg, .int .i64 s.dayOver, .int .i64 s.weekReg, .int .i64 s.nightFrom, .int .i64 s.nightTo, .slice q.ra q.rl q.rc, .int .i64 s.diff, .int .i64 s.least, .int .i64 s.fault, .slice q.ta q.tl q.tc], .agg #[.int .i64 x.id, .int .i64 x.worker, .int .i64 x.at', .int .i64 x.kind, .int .i64 x.from', .int .i64 x.to', .int .i64 x.element, .int .i64 x.units, .int .i64 x.class', .int .i64 x.gear, .int .i64 x.code]] w fun r w' => r = .returned (.tuple #[.agg #[.int .i64 n, .int .i64 d], .int .i64 e]) ∧ Below w.heap.size w w' := by
  obtain ⟨cb, co, hcc, hcl, hcell⟩ := h.classes.2.2.2.resolve_left (by omega)
  obtain ⟨gb, go, hgg, hgl, hgell⟩ := h.gears.2.2.2.resolve_left (by omega)
  obtain ⟨eb, eo, hee, hel, heell⟩ := h.elements.2.2.2.resolve_left (by omega)
  have d1 := hcell ci hci
  have d2 := hgell gi hgi
  have d3 := heell ei hei
  replace hcc := Lib.hid hcc
  replace hgg := Lib.hid hgg
  replace hee := Lib.hid hee
  rw [Hc.out] at d1
  rw [Hg.out] at d2
  rw [He.out] at d3
  clear hcell hgell heell
  have hs : (((w.alloc (.cells #[.int .i64 s.places, .slice q.wa q.wl q.wc, .int .i64 s.pn, .int .i64 s.pd, .slice q.ea q.el q.ec, .slice q.ca q.cl q.cc, .slice q.ga q.gl q.gc, .int .i64 s.allow, .int .i64 s.unit, .int .i64 s.cap, .int .i64 s.paidBreak, .int .i64 s.autoAfter, .int .i64 s.autoBreak, .int .i64 s.dayReg, .int .i64 s.dayOver, .int .i64 s.weekReg, .int .i64 s.nightFrom, .int .i64 s.nightTo, .slice q.ra q.rl q.rc, .int .i64 s.diff, .int .i64 s.least, .int .i64 s.fault, .slice q.ta q.tl q.tc] 30)).alloc (.cells #[.int .i64 x.id, .int .i64 x.worker, .int .i64 x.at', .int .i64 x.kind, .int .i64 x.from', .int .i64 x.to', .int .i64 x.element, .int .i64 x.units, .int .i64 x.class', .int .i64 x.gear, .int .i64 x.code] 47)).alloc (.cells #[.int .i64 0, .int .i64 0] 24)).heap[w.heap.size]? = some (.cells #[.int .i64 s.places, .slice q.wa q.wl q.wc, .int .i64 s.pn, .int .i64 s.pd, .slice q.ea q.el q.ec, .slice q.ca q.cl q.cc, .slice q.ga q.gl q.gc, .int .i64 s.allow, .int .i64 s.unit, .int .i64 s.cap, .int .i64 s.paidBreak, .int .i64 s.autoAfter, .int .i64 s.autoBreak, .int .i64 s.dayReg, .int .i64 s.dayOver, .int .i64 s.weekReg, .int .i64 s.nightFrom, .int .i64 s.nightTo, .slice q.ra q.rl q.rc, .int .i64 s.diff, .int .i64 s.least, .int .i64 s.fault, .slice q.ta q.tl q.tc] 30) := box_keep (B := w.heap.size + 1) (by go_grown) (box_new w _ rfl _ _) (by omega)
  have hb : (((w.alloc (.cells #[.int .i64 s.places, .slice q.wa q.wl q.wc, .int .i64 s.pn, .int .i64 s.pd, .slice q.ea q.el q.ec, .slice q.ca q.cl q.cc, .slice q.ga q.gl q.gc, .int .i64 s.allow, .int .i64 s.unit, .int .i64 s.cap, .int .i64 s.paidBreak, .int .i64 s.autoAfter, .int .i64 s.autoBreak, .int .i64 s.dayReg, .int .i64 s.dayOver, .int .i64 s.weekReg, .int .i64 s.nightFrom, .int .i64 s.nightTo, .slice q.ra q.rl q.rc, .int .i64 s.diff, .int .i64 s.least, .int .i64 s.fault, .slice q.ta q.tl q.tc] 30)).alloc (.cells #[.int .i64 x.id, .int .i64 x.worker, .int .i64 x.at', .int .i64 x.kind, .int .i64 x.from', .int .i64 x.to', .int .i64 x.element, .int .i64 x.units, .int .i64 x.class', .int .i64 x.gear, .int .i64 x.code] 47)).alloc (.cells #[.int .i64 0, .int .i64 0] 24)).heap[w.heap.size + 1]? = some (.cells #[.int .i64 x.id, .int .i64 x.worker, .int .i64 x.at', .int .i64 x.kind, .int .i64 x.from', .int .i64 x.to', .int .i64 x.element, .int .i64 x.units, .int .i64 x.class', .int .i64 x.gear, .int .i64 x.code] 47) := box_keep (B := w.heap.size + 2) (by go_grown) (box_new _ _ (by simp) _ _) (by omega)
  have hR : Own (((w.alloc (.cells #[.int .i64 s.places, .slice q.wa q.wl q.wc, .int .i64 s.pn, .int .i64 s.pd, .slice q.ea q.el q.ec, .slice q.ca q.cl q.cc, .slice q.ga q.gl q.gc, .int .i64 s.allow, .int .i64 s.unit, .int .i64 s.cap, .int .i64 s.paidBreak, .int .i64 s.autoAfter, .int .i64 s.autoBreak, .int .i64 s.dayReg, .int .i64 s.dayOver, .int .i64 s.weekReg, .int .i64 s.nightFrom, .int .i64 s.nightTo, .slice q.ra q.rl q.rc, .int .i64 s.diff, .int .i64 s.least, .int .i64 s.fault, .slice q.ta q.tl q.tc] 30)).alloc (.cells #[.int .i64 x.id, .int .i64 x.worker, .int .i64 x.at', .int .i64 x.kind, .int .i64 x.from', .int .i64 x.to', .int .i64 x.element, .int .i64 x.units, .int .i64 x.class', .int .i64 x.gear, .int .i64 x.code] 47)).alloc (.cells #[.int .i64 0, .int .i64 0] 24)) (w.heap.size + 2) 0 0 := Own.new' (by simp)
  have B0 : Below w.heap.size w (((w.alloc (.cells #[.int .i64 s.places, .slice q.wa q.wl q.wc, .int .i64 s.pn, .int .i64 s.pd, .slice q.ea q.el q.ec, .slice q.ca q.cl q.cc, .slice q.ga q.gl q.gc, .int .i64 s.allow, .int .i64 s.unit, .int .i64 s.cap, .int .i64 s.paidBreak, .int .i64 s.autoAfter, .int .i64 s.autoBreak, .int .i64 s.dayReg, .int .i64 s.dayOver, .int .i64 s.weekReg, .int .i64 s.nightFrom, .int .i64 s.nightTo, .slice q.ra q.rl q.rc, .int .i64 s.diff, .int .i64 s.least, .int .i64 s.fault, .slice q.ta q.tl q.tc] 30)).alloc (.cells #[.int .i64 x.id, .int .i64 x.worker, .int .i64 x.at', .int .i64 x.kind, .int .i64 x.from', .int .i64 x.to', .int .i64 x.element, .int .i64 x.units, .int .i64 x.class', .int .i64 x.gear, .int .i64 x.code] 47)).alloc (.cells #[.int .i64 0, .int .i64 0] 24)) := by go_grown
  go_enter Try.func25, Try.ntmps25
  go_wp2_with (refine wpList_load_box 30 (.tmp 2) rfl rfl w.heap.size rfl 30 #[.int .i64 s.places, .slice q.wa q.wl q.wc, .int .i64 s.pn, .int .i64 s.pd, .slice q.ea q.el q.ec, .slice q.ca q.cl q.cc, .slice q.ga q.gl q.gc, .int .i64 s.allow, .int .i64 s.unit, .int .i64 s.cap, .int .i64 s.paidBreak, .int .i64 s.autoAfter, .int .i64 s.autoBreak, .int .i64 s.dayReg, .int .i64 s.dayOver, .int .i64 s.weekReg, .int .i64 s.nightFrom, .int .i64 s.nightTo, .slice q.ra q.rl q.rc, .int .i64 s.diff, .int .i64 s.least, .int .i64 s.fault, .slice q.ta q.tl q.tc] hs setup_big ?_)
  refine (setup_Check s q true _ (h.below (by go_grown)) hc).mono ?_
  rintro eA wA ⟨rfl, kA⟩
  replace B0 := B0.trans (kA.mono (by first | (simp; done) | (simp; omega)))
  replace hs := box_keep kA hs (by first | (simp; done) | (simp; omega))
  replace hb := box_keep kA hb (by first | (simp; done) | (simp; omega))
  replace hR := hR.below kA
  clear kA
  go_wp2_with (first | (refine wpList_load_box 30 (.tmp 2) rfl rfl w.heap.size rfl 30 #[.int .i64 s.places, .slice q.wa q.wl q.wc, .int .i64 s.pn, .int .i64 s.pd, .slice q.ea q.el q.ec, .slice q.ca q.cl q.cc, .slice q.ga q.gl q.gc, .int .i64 s.allow, .int .i64 s.unit, .int .i64 s.cap, .int .i64 s.paidBreak, .int .i64 s.autoAfter, .int .i64 s.autoBreak, .int .i64 s.dayReg, .int .i64 s.dayOver, .int .i64 s.weekReg, .int .i64 s.nightFrom, .int .i64 s.nightTo, .slice q.ra q.rl q.rc, .int .i64 s.diff, .int .i64 s.least, .int .i64 s.fault, .slice q.ta q.tl q.tc] hs setup_big ?_) | (refine wpList_load_box 47 (.tmp 3) rfl rfl (w.heap.size + 1) rfl 47 #[.int .i64 x.id, .int .i64 x.worker, .int .i64 x.at', .int .i64 x.kind, .int .i64 x.from', .int .i64 x.to', .int .i64 x.element, .int .i64 x.units, .int .i64 x.class', .int .i64 x.gear, .int .i64 x.code] hb event_big ?_))
  refine (event_Check s q x true _ (h.below B0) hx he).mono ?_
  rintro eA wB ⟨rfl, kA⟩
  replace B0 := B0.trans (kA.mono (by have := hR.lt; omega))
  replace hs := box_keep kA hs (by have := hR.lt; omega)
  replace hb := box_keep kA hb (by have := hR.lt; omega)
  replace hR := hR.below kA
  clear kA
  have c3 : wB.cell? ⟨w.heap.size + 1, 3, none⟩ = some (.int .i64 x.kind) := by simp [World.cell?, hb]
  have c4 : wB.cell? ⟨w.heap.size + 1, 4, none⟩ = some (.int .i64 x.from') := by simp [World.cell?, hb]
  have c5 : wB.cell? ⟨w.heap.size + 1, 5, none⟩ = some (.int .i64 x.to') := by simp [World.cell?, hb]
  have k3 : (x.kind == 3) = true := by rw [beq_iff_eq]; exact HK.out
  have k3' : (x.kind != 3) = false := by rw [bne_eq_false_iff_eq]; exact HK.out
  go_wp2_with (refine wpList_load_box 30 (.tmp 2) rfl rfl w.heap.size rfl 30 #[.int .i64 s.places, .slice q.wa q.wl q.wc, .int .i64 s.pn, .int .i64 s.pd, .slice q.ea q.el q.ec, .slice q.ca q.cl q.cc, .slice q.ga q.gl q.gc, .int .i64 s.allow, .int .i64 s.unit, .int .i64 s.cap, .int .i64 s.paidBreak, .int .i64 s.autoAfter, .int .i64 s.autoBreak, .int .i64 s.dayReg, .int .i64 s.dayOver, .int .i64 s.weekReg, .int .i64 s.nightFrom, .int .i64 s.nightTo, .slice q.ra q.rl q.rc, .int .i64 s.diff, .int .i64 s.least, .int .i64 s.fault, .slice q.ta q.tl q.tc] hs setup_big ?_)
  refine (way_Dist s q _ _ far _ (h.below B0) HD.out).mono ?_
  rintro eA wC ⟨rfl, kA⟩
  replace B0 := B0.trans (kA.mono (by have := hR.lt; omega))
  replace hs := box_keep kA hs (by have := hR.lt; omega)
  replace hb := box_keep kA hb (by have := hR.lt; omega)
  replace hR := hR.below kA
  clear kA c3 c4 c5 k3 k3'
  have n3 : (far == -1) = false := by rw [beq_eq_false_iff_ne]; exact HN.out
  have y4 : wC.cell? ⟨w.heap.size, 4, none⟩ = some (.slice (some ⟨eb, eo, none⟩) q.el q.ec) := by rw [← hee.out]; simp [World.cell?, hs]
  have y6 : wC.cell? ⟨w.heap.size + 1, 6, none⟩ = some (.int .i64 (ei : Int)) := by rw [← Hei.out]; simp [World.cell?, hb]
  have a0 := keepC B0 d3.1 hel
  have a1 := keepC B0 d3.2.1 hel
  have a2 := keepC B0 d3.2.2.1 hel
  have a3 := keepC B0 d3.2.2.2 hel
  have ei0 : (0 : Int) ≤ (ei : Int) := by omega
  have ei1 : (ei : Int) < (q.el : Int) := by omega
  have gi0 : (0 : Int) ≤ (gi : Int) := by omega
  have gi1 : (gi : Int) < (q.gl : Int) := by omega
  have ci0 : (0 : Int) ≤ (ci : Int) := by omega
  have ci1 : (ci : Int) < (q.cl : Int) := by omega
  have hold : ∀ {p : Addr} {v : Value}, w.cell? p = some v → p.block < wC.heap.size := fun hc => Nat.lt_of_lt_of_le (World.block_lt_of_cell? w _ hc) B0.size
  have z0 : w.heap.size < wC.heap.size := by have := hR.lt; omega
  have z1 : w.heap.size + 1 < wC.heap.size := by have := hR.lt; omega
  have zE : eb < wC.heap.size := by omega
  have zC : cb < wC.heap.size := by omega
  have zG : gb < wC.heap.size := by omega
  go_upto_region 11 with fail
  refine gen_code (S := GS w wC.heap.size [(⟨w.heap.size, 2, none⟩, .int .i64 s.pn), (⟨w.heap.size, 3, none⟩, .int .i64 s.pd), (⟨w.heap.size, 5, none⟩, .slice (some ⟨cb, co, none⟩) q.cl q.cc), (⟨w.heap.size, 6, none⟩, .slice (some ⟨gb, go, none⟩) q.gl q.gc), (⟨w.heap.size, 7, none⟩, .int .i64 s.allow), (⟨w.heap.size + 1, 7, none⟩, .int .i64 x.units), (⟨w.heap.size + 1, 8, none⟩, .int .i64 (ci : Int)), (⟨w.heap.size + 1, 9, none⟩, .int .i64 (gi : Int)), (⟨cb, co + ci * 2, none⟩, .int .i64 c1), (⟨cb, co + ci * 2 + 1, none⟩, .int .i64 c2), (⟨gb, go + gi * 2, none⟩, .int .i64 g1), (⟨gb, go + gi * 2 + 1, none⟩, .int .i64 g2), (⟨wC.heap.size + 1, 0, none⟩, .int .i64 f1), (⟨wC.heap.size + 1, 1, none⟩, .int .i64 f2), (⟨wC.heap.size + 1, 2, none⟩, .int .i64 u1), (⟨wC.heap.size + 1, 3, none⟩, .int .i64 u2)] 0) ?_ (fun V hG => ?_)
  · have W1 := B0
    refine ⟨?_, ⟨by simp; omega, by simp [go_sem], by simp [go_sem]⟩, (hR.alloc _).alloc _, by go_grown, by have := hR.lt; omega, ?_, ?_⟩
    · intro c hcm
      simp only [List.mem_cons, List.not_mem_nil, or_false] at hcm
      rcases hcm with rfl | rfl | rfl | rfl | rfl | rfl | rfl | rfl | rfl | rfl | rfl | rfl | rfl | rfl | rfl | rfl
      · exact keepA _ (keepA _ (by simp [World.cell?, hs]))
      · exact keepA _ (keepA _ (by simp [World.cell?, hs]))
      · exact keepA _ (keepA _ (by rw [← hcc.out]; simp [World.cell?, hs]))
      · exact keepA _ (keepA _ (by rw [← hgg.out]; simp [World.cell?, hs]))
      · exact keepA _ (keepA _ (by simp [World.cell?, hs]))
      · exact keepA _ (keepA _ (by simp [World.cell?, hb]))
      · exact keepA _ (keepA _ (by rw [← Hci.out]; simp [World.cell?, hb]))
      · exact keepA _ (keepA _ (by rw [← Hgi.out]; simp [World.cell?, hb]))
      · exact keepA _ (keepA _ (keepC W1 d1.1 hcl))
      · exact keepA _ (keepA _ (keepC W1 d1.2 hcl))
      · exact keepA _ (keepA _ (keepC W1 d2.1 hgl))
      · exact keepA _ (keepA _ (keepC W1 d2.2 hgl))
      · simp [go_sem]
      · simp [go_sem]
      · simp [go_sem]
      · simp [go_sem]
    · intro c hcm
      simp only [List.mem_cons, List.not_mem_nil, or_false] at hcm
      rcases hcm with rfl | rfl | rfl | rfl | rfl | rfl | rfl | rfl | rfl | rfl | rfl | rfl | rfl | rfl | rfl | rfl <;> (simp only; omega)
    · intro c hcm
      simp only [List.mem_cons, List.not_mem_nil, or_false] at hcm
      rcases hcm with rfl | rfl | rfl | rfl | rfl | rfl | rfl | rfl | rfl | rfl | rfl | rfl | rfl | rfl | rfl | rfl <;> (simp only; omega)
  generalize wC.heap.size = B at *
  clear hs hb hR B0 y4 y6 a0 a1 a2 a3 hold d1 d2 d3 n3
  go_cut [12] (fun v V' => ∃ g, v = .pointer (some ⟨g, 0, none⟩) ∧ GS w B ([(⟨g, 0, none⟩, .int .i64 ux), (⟨g, 1, none⟩, .int .i64 uy), (⟨w.heap.size, 2, none⟩, .int .i64 s.pn), (⟨w.heap.size, 3, none⟩, .int .i64 s.pd), (⟨w.heap.size, 5, none⟩, .slice (some ⟨cb, co, none⟩) q.cl q.cc), (⟨w.heap.size, 6, none⟩, .slice (some ⟨gb, go, none⟩) q.gl q.gc), (⟨w.heap.size, 7, none⟩, .int .i64 s.allow), (⟨w.heap.size + 1, 7, none⟩, .int .i64 x.units), (⟨w.heap.size + 1, 8, none⟩, .int .i64 (ci : Int)), (⟨w.heap.size + 1, 9, none⟩, .int .i64 (gi : Int)), (⟨cb, co + ci * 2, none⟩, .int .i64 c1), (⟨cb, co + ci * 2 + 1, none⟩, .int .i64 c2), (⟨gb, go + gi * 2, none⟩, .int .i64 g1), (⟨gb, go + gi * 2 + 1, none⟩, .int .i64 g2), (⟨B + 1, 0, none⟩, .int .i64 f1), (⟨B + 1, 1, none⟩, .int .i64 f2), (⟨B + 1, 2, none⟩, .int .i64 u1), (⟨B + 1, 3, none⟩, .int .i64 u2)]) e2 V')
  case first =>
   as_aux_lemma =>
    refine wp_region_held_drew (S := Cs [(⟨w.heap.size, 2, none⟩, .int .i64 s.pn), (⟨w.heap.size, 3, none⟩, .int .i64 s.pd), (⟨w.heap.size, 5, none⟩, .slice (some ⟨cb, co, none⟩) q.cl q.cc), (⟨w.heap.size, 6, none⟩, .slice (some ⟨gb, go, none⟩) q.gl q.gc), (⟨w.heap.size, 7, none⟩, .int .i64 s.allow), (⟨w.heap.size + 1, 7, none⟩, .int .i64 x.units), (⟨w.heap.size + 1, 8, none⟩, .int .i64 (ci : Int)), (⟨w.heap.size + 1, 9, none⟩, .int .i64 (gi : Int)), (⟨cb, co + ci * 2, none⟩, .int .i64 c1), (⟨cb, co + ci * 2 + 1, none⟩, .int .i64 c2), (⟨gb, go + gi * 2, none⟩, .int .i64 g1), (⟨gb, go + gi * 2 + 1, none⟩, .int .i64 g2), (⟨B + 1, 0, none⟩, .int .i64 f1), (⟨B + 1, 1, none⟩, .int .i64 f2), (⟨B + 1, 2, none⟩, .int .i64 u1), (⟨B + 1, 3, none⟩, .int .i64 u2)]) (by kernel_rfl) hG.cs.drew (fun hHeld => ?_)
    clear hHeld
    replace hG := hG.drew
    refine wpAnyH_take (i := 0) (oi := ⟨some 48, _, _, _, _, none⟩) (v := ?_) rfl (by kernel_rfl) (by kernel_rfl) (by kernel_rfl) (fun _ _ _ h => h) (Or.inl ⟨by rfl, ?_⟩) hG.cs ?_
    rotate_left
    · intro wz hSw; go_simp; (try with_reducible rfl)
    try simp only [Act.put, List.setIfInBounds_toArray, List.set_cons_zero, List.set_cons_succ]
    refine wpAnyH_take (i := 1) (oi := ⟨some 49, _, _, _, _, none⟩) (v := ?_) rfl (by kernel_rfl) (by kernel_rfl) (by kernel_rfl) (fun _ _ _ h => h) (Or.inl ⟨by rfl, ?_⟩) hG.cs ?_
    rotate_left
    · intro wz hSw; go_simp; (try with_reducible rfl)
    try simp only [Act.put, List.setIfInBounds_toArray, List.set_cons_zero, List.set_cons_succ]
    refine wpAnyH_take (i := 2) (oi := ⟨some 50, _, _, _, _, none⟩) (v := ?_) rfl (by kernel_rfl) (by kernel_rfl) (by kernel_rfl) (fun _ _ _ h => h) (Or.inl ⟨by rfl, ?_⟩) hG.cs ?_
    rotate_left
    · intro wz hSw; go_simp; (try with_reducible rfl)
    try simp only [Act.put, List.setIfInBounds_toArray, List.set_cons_zero, List.set_cons_succ]
    refine wpAnyH_take (i := 3) (oi := ⟨some 51, _, _, _, _, none⟩) (v := ?_) rfl (by kernel_rfl) (by kernel_rfl) (by kernel_rfl) (fun _ _ _ h => h) (Or.inl ⟨by rfl, ?_⟩) hG.cs ?_
    rotate_left
    · intro wz hSw; go_simp; (try with_reducible rfl)
    try simp only [Act.put, List.setIfInBounds_toArray, List.set_cons_zero, List.set_cons_succ]
    refine wpAnyH_take (i := 5) (oi := ⟨some 53, _, _, _, _, none⟩) (v := ?_) rfl (by kernel_rfl) (by kernel_rfl) (by kernel_rfl) (fun _ _ _ h => h) (Or.inl ⟨by rfl, ?_⟩) hG.cs ?_
    rotate_left
    · intro wz hSw; go_simp; (try with_reducible rfl)
    try simp only [Act.put, List.setIfInBounds_toArray, List.set_cons_zero, List.set_cons_succ]
    refine wpAnyH_take (i := 6) (oi := ⟨some 54, _, _, _, _, none⟩) (v := ?_) rfl (by kernel_rfl) (by kernel_rfl) (by kernel_rfl) (fun _ _ _ h => h) (Or.inl ⟨by rfl, ?_⟩) hG.cs ?_
    rotate_left
    · intro wz hSw; have t0 := hSw.at 0 rfl; have t1 := hSw.at 1 rfl; go_simp; (try with_reducible rfl)
    try simp only [Act.put, List.setIfInBounds_toArray, List.set_cons_zero, List.set_cons_succ]
    refine wpAnyH_take (i := 8) (oi := ⟨some 56, _, _, _, _, none⟩) (v := ?_) rfl (by kernel_rfl) (by kernel_rfl) (by kernel_rfl) (fun _ _ _ h => h) (Or.inl ⟨by rfl, ?_⟩) hG.cs ?_
    rotate_left
    · intro wz hSw; go_simp; (try with_reducible rfl)
    try simp only [Act.put, List.setIfInBounds_toArray, List.set_cons_zero, List.set_cons_succ]
    refine wpAnyH_take (i := 9) (oi := ⟨some 57, _, _, _, _, none⟩) (v := ?_) rfl (by kernel_rfl) (by kernel_rfl) (by kernel_rfl) (fun _ _ _ h => h) (Or.inl ⟨by rfl, ?_⟩) hG.cs ?_
    rotate_left
    · intro wz hSw; have t3 := hSw.at 3 rfl; go_simp; (try with_reducible rfl)
    try simp only [Act.put, List.setIfInBounds_toArray, List.set_cons_zero, List.set_cons_succ]
    refine wpAnyH_take (i := 10) (oi := ⟨some 58, _, _, _, _, none⟩) (v := ?_) rfl (by kernel_rfl) (by kernel_rfl) (by kernel_rfl) (fun _ _ _ h => h) (Or.inl ⟨by rfl, ?_⟩) hG.cs ?_
    rotate_left
    · intro wz hSw; go_simp; (try with_reducible rfl)
    try simp only [Act.put, List.setIfInBounds_toArray, List.set_cons_zero, List.set_cons_succ]
    refine wpAnyH_take (i := 11) (oi := ⟨some 59, _, _, _, _, none⟩) (v := ?_) rfl (by kernel_rfl) (by kernel_rfl) (by kernel_rfl) (fun _ _ _ h => h) (Or.inl ⟨by rfl, ?_⟩) hG.cs ?_
    rotate_left
    · intro wz hSw; have t7 := hSw.at 7 rfl; go_simp; (try with_reducible rfl)
    try simp only [Act.put, List.setIfInBounds_toArray, List.set_cons_zero, List.set_cons_succ]
    refine wpAnyH_take (i := 12) (oi := ⟨some 60, _, _, _, _, none⟩) (v := ?_) rfl (by kernel_rfl) (by kernel_rfl) (by kernel_rfl) (fun _ _ _ h => h) (Or.inl ⟨by rfl, ?_⟩) hG.cs ?_
    rotate_left
    · intro wz hSw; go_simp; (try with_reducible rfl)
    try simp only [Act.put, List.setIfInBounds_toArray, List.set_cons_zero, List.set_cons_succ]
    refine wpAnyH_take (i := 13) (oi := ⟨some 61, _, _, _, _, none⟩) (v := ?_) rfl (by kernel_rfl) (by kernel_rfl) (by kernel_rfl) (fun _ _ _ h => h) (Or.inl ⟨by rfl, ?_⟩) hG.cs ?_
    rotate_left
    · intro wz hSw; have t10 := hSw.at 10 rfl; have t11 := hSw.at 11 rfl; go_simp; (try with_reducible rfl)
    try simp only [Act.put, List.setIfInBounds_toArray, List.set_cons_zero, List.set_cons_succ]
    refine wpAnyH_ready (rs := [4, 15]) (by kernel_rfl) (by simp) ?_
    refine (AllReadyH.cons (o := ⟨some 52, _, _, _, _, none⟩) rfl (fun K hK => ?_) (AllReadyH.cons (o := ⟨some 12, _, _, _, _, none⟩) rfl (fun K hK => ?_) AllReadyH.nil))
    · skip
      go_simp
      refine (goal_whole far _).mono ?_
      rintro e1 v1 ⟨rfl, kA⟩
      replace hG := hG.below kA
      clear kA
      refine hK.out _ _ ?_ (fun hHeld => ?_)
      · exact hG.cs
      clear hK K hHeld
      try simp only [Act.put, List.setIfInBounds_toArray, List.set_cons_zero, List.set_cons_succ]
      refine wpAnyH_ready (rs := [7, 15]) (by kernel_rfl) (by simp) ?_
      refine (AllReadyH.cons (o := ⟨some 55, _, _, _, _, none⟩) rfl (fun K hK => ?_) (AllReadyH.cons (o := ⟨some 12, _, _, _, _, none⟩) rfl (fun K hK => ?_) AllReadyH.nil))
      · skip
        go_simp
        refine (goal_then_mul far 1 s.pn s.pd 0 tx ty e1 B _ ifar (by decide) h.pn h.pd hG.wr ST1.out).mono ?_
        rintro e2 v2 ⟨rfl, hWn, hgn⟩
        replace hG := hG.next hgn hWn
        clear hWn hgn
        refine hK.out _ _ ?_ (fun hHeld => ?_)
        · exact hG.cs
        clear hK K hHeld
        try simp only [Act.put, List.setIfInBounds_toArray, List.set_cons_zero, List.set_cons_succ]
        refine wpAnyH_ready (rs := [14, 15]) (by kernel_rfl) (by simp) ?_
        refine (AllReadyH.cons (o := ⟨some 62, _, _, _, _, none⟩) rfl (fun K hK => ?_) (AllReadyH.cons (o := ⟨some 12, _, _, _, _, none⟩) rfl (fun K hK => ?_) AllReadyH.nil))
        · skip
          go_simp
          refine (goal_then_mul tx ty g1 g2 e1 ux uy e2 B _ i1.1 i1.2 ig.1 ig.2 hG.wr ST2.out).mono ?_
          rintro e3 v3 ⟨rfl, hWn, hgn⟩
          replace hG := hG.next hgn hWn
          clear hWn hgn
          refine hK.out _ _ ?_ (fun hHeld => ?_)
          · exact hG.cs
          clear hK K hHeld
          try simp only [Act.put, List.setIfInBounds_toArray, List.set_cons_zero, List.set_cons_succ]
          refine wpAnyH_ready (rs := [15]) (by kernel_rfl) (by simp) ?_
          refine AllReadyH.cons (o := ⟨some 12, _, _, _, _, none⟩) rfl (fun K hK => ?_) AllReadyH.nil
          go_simp
          have hF : Fresh w B [(⟨w.heap.size, 2, none⟩, .int .i64 s.pn), (⟨w.heap.size, 3, none⟩, .int .i64 s.pd), (⟨w.heap.size, 5, none⟩, .slice (some ⟨cb, co, none⟩) q.cl q.cc), (⟨w.heap.size, 6, none⟩, .slice (some ⟨gb, go, none⟩) q.gl q.gc), (⟨w.heap.size, 7, none⟩, .int .i64 s.allow), (⟨w.heap.size + 1, 7, none⟩, .int .i64 x.units), (⟨w.heap.size + 1, 8, none⟩, .int .i64 (ci : Int)), (⟨w.heap.size + 1, 9, none⟩, .int .i64 (gi : Int)), (⟨cb, co + ci * 2, none⟩, .int .i64 c1), (⟨cb, co + ci * 2 + 1, none⟩, .int .i64 c2), (⟨gb, go + gi * 2, none⟩, .int .i64 g1), (⟨gb, go + gi * 2 + 1, none⟩, .int .i64 g2), (⟨B + 1, 0, none⟩, .int .i64 f1), (⟨B + 1, 1, none⟩, .int .i64 f2), (⟨B + 1, 2, none⟩, .int .i64 u1), (⟨B + 1, 3, none⟩, .int .i64 u2)] v3.heap.size := hG.fresh
          have hO : Own (v3.alloc (.cells #[.int .i64 0, .int .i64 0] 24)) v3.heap.size 0 0 := Own.new' rfl
          have hGp := hG
          replace hG := hG.alloc (.cells #[.int .i64 0, .int .i64 0] 24)
          refine hK.out _ _ ?_ (fun hHeld => ?_)
          · exact hG.cs
          clear hK K hHeld
          try simp only [Act.put, List.setIfInBounds_toArray, List.set_cons_zero, List.set_cons_succ]
          refine wpAnyH_ready (rs := [16]) (by kernel_rfl) (by simp) ?_
          refine AllReadyH.cons (o := ⟨none, _, _, _, _, none⟩) rfl (fun K hK => ?_) AllReadyH.nil
          obtain ⟨_, o0, o1, o2, o3⟩ := id hO
          go_simp
          clear o0 o1 o2 o3
          replace hG := hGp.alloc (.cells #[.int .i64 ux, .int .i64 uy] 24)
          replace hO : Own (v3.alloc (.cells #[.int .i64 ux, .int .i64 uy] 24)) v3.heap.size ux uy := Own.new' rfl
          refine hK.out _ _ ?_ (fun hHeld => ?_)
          · exact hG.cs
          clear hK K hHeld
          try simp only [Act.put, List.setIfInBounds_toArray, List.set_cons_zero, List.set_cons_succ]
          refine wpAnyH_done (by kernel_rfl) ?_ _
          go_wp2_with fail
          go_meet
          case rel => exact ⟨_, rfl, hG.more hO hF⟩
        · skip
          go_simp
          have hF : Fresh w B [(⟨w.heap.size, 2, none⟩, .int .i64 s.pn), (⟨w.heap.size, 3, none⟩, .int .i64 s.pd), (⟨w.heap.size, 5, none⟩, .slice (some ⟨cb, co, none⟩) q.cl q.cc), (⟨w.heap.size, 6, none⟩, .slice (some ⟨gb, go, none⟩) q.gl q.gc), (⟨w.heap.size, 7, none⟩, .int .i64 s.allow), (⟨w.heap.size + 1, 7, none⟩, .int .i64 x.units), (⟨w.heap.size + 1, 8, none⟩, .int .i64 (ci : Int)), (⟨w.heap.size + 1, 9, none⟩, .int .i64 (gi : Int)), (⟨cb, co + ci * 2, none⟩, .int .i64 c1), (⟨cb, co + ci * 2 + 1, none⟩, .int .i64 c2), (⟨gb, go + gi * 2, none⟩, .int .i64 g1), (⟨gb, go + gi * 2 + 1, none⟩, .int .i64 g2), (⟨B + 1, 0, none⟩, .int .i64 f1), (⟨B + 1, 1, none⟩, .int .i64 f2), (⟨B + 1, 2, none⟩, .int .i64 u1), (⟨B + 1, 3, none⟩, .int .i64 u2)] v2.heap.size := hG.fresh
          have hO : Own (v2.alloc (.cells #[.int .i64 0, .int .i64 0] 24)) v2.heap.size 0 0 := Own.new' rfl
          have hGp := hG
          replace hG := hG.alloc (.cells #[.int .i64 0, .int .i64 0] 24)
          refine hK.out _ _ ?_ (fun hHeld => ?_)
          · exact hG.cs
          clear hK K hHeld
          try simp only [Act.put, List.setIfInBounds_toArray, List.set_cons_zero, List.set_cons_succ]
          refine wpAnyH_ready (rs := [14]) (by kernel_rfl) (by simp) ?_
          refine AllReadyH.cons (o := ⟨some 62, _, _, _, _, none⟩) rfl (fun K hK => ?_) AllReadyH.nil
          go_simp
          refine (goal_then_mul tx ty g1 g2 e1 ux uy e2 B _ i1.1 i1.2 ig.1 ig.2 hG.wr ST2.out).mono ?_
          rintro e4 v4 ⟨rfl, hWn, hgn⟩
          replace hG := hG.next hgn hWn
          replace hO := hO.grown hgn hF.nB
          clear hWn hgn
          refine hK.out _ _ ?_ (fun hHeld => ?_)
          · exact hG.cs
          clear hK K hHeld
          try simp only [Act.put, List.setIfInBounds_toArray, List.set_cons_zero, List.set_cons_succ]
          refine wpAnyH_ready (rs := [16]) (by kernel_rfl) (by simp) ?_
          refine AllReadyH.cons (o := ⟨none, _, _, _, _, none⟩) rfl (fun K hK => ?_) AllReadyH.nil
          obtain ⟨_, o0, o1, o2, o3⟩ := id hO
          go_simp
          clear o0 o1 o2 o3
          replace hG := hG.put hF (.int .i64 ux) (.int .i64 uy)
          replace hO := own_put hO ux uy
          refine hK.out _ _ ?_ (fun hHeld => ?_)
          · exact hG.cs
          clear hK K hHeld
          try simp only [Act.put, List.setIfInBounds_toArray, List.set_cons_zero, List.set_cons_succ]
          refine wpAnyH_done (by kernel_rfl) ?_ _
          go_wp2_with fail
          go_meet
          case rel => exact ⟨_, rfl, hG.more hO hF⟩
      · skip
        go_simp
        have hF : Fresh w B [(⟨w.heap.size, 2, none⟩, .int .i64 s.pn), (⟨w.heap.size, 3, none⟩, .int .i64 s.pd), (⟨w.heap.size, 5, none⟩, .slice (some ⟨cb, co, none⟩) q.cl q.cc), (⟨w.heap.size, 6, none⟩, .slice (some ⟨gb, go, none⟩) q.gl q.gc), (⟨w.heap.size, 7, none⟩, .int .i64 s.allow), (⟨w.heap.size + 1, 7, none⟩, .int .i64 x.units), (⟨w.heap.size + 1, 8, none⟩, .int .i64 (ci : Int)), (⟨w.heap.size + 1, 9, none⟩, .int .i64 (gi : Int)), (⟨cb, co + ci * 2, none⟩, .int .i64 c1), (⟨cb, co + ci * 2 + 1, none⟩, .int .i64 c2), (⟨gb, go + gi * 2, none⟩, .int .i64 g1), (⟨gb, go + gi * 2 + 1, none⟩, .int .i64 g2), (⟨B + 1, 0, none⟩, .int .i64 f1), (⟨B + 1, 1, none⟩, .int .i64 f2), (⟨B + 1, 2, none⟩, .int .i64 u1), (⟨B + 1, 3, none⟩, .int .i64 u2)] v1.heap.size := hG.fresh
        have hO : Own (v1.alloc (.cells #[.int .i64 0, .int .i64 0] 24)) v1.heap.size 0 0 := Own.new' rfl
        have hGp := hG
        replace hG := hG.alloc (.cells #[.int .i64 0, .int .i64 0] 24)
        refine hK.out _ _ ?_ (fun hHeld => ?_)
        · exact hG.cs
        clear hK K hHeld
        try simp only [Act.put, List.setIfInBounds_toArray, List.set_cons_zero, List.set_cons_succ]
        refine wpAnyH_ready (rs := [7]) (by kernel_rfl) (by simp) ?_
        refine AllReadyH.cons (o := ⟨some 55, _, _, _, _, none⟩) rfl (fun K hK => ?_) AllReadyH.nil
        go_simp
        refine (goal_then_mul far 1 s.pn s.pd 0 tx ty e1 B _ ifar (by decide) h.pn h.pd hG.wr ST1.out).mono ?_
        rintro e3 v3 ⟨rfl, hWn, hgn⟩
        replace hG := hG.next hgn hWn
        replace hO := hO.grown hgn hF.nB
        clear hWn hgn
        refine hK.out _ _ ?_ (fun hHeld => ?_)
        · exact hG.cs
        clear hK K hHeld
        try simp only [Act.put, List.setIfInBounds_toArray, List.set_cons_zero, List.set_cons_succ]
        refine wpAnyH_ready (rs := [14]) (by kernel_rfl) (by simp) ?_
        refine AllReadyH.cons (o := ⟨some 62, _, _, _, _, none⟩) rfl (fun K hK => ?_) AllReadyH.nil
        go_simp
        refine (goal_then_mul tx ty g1 g2 e1 ux uy e2 B _ i1.1 i1.2 ig.1 ig.2 hG.wr ST2.out).mono ?_
        rintro e4 v4 ⟨rfl, hWn, hgn⟩
        replace hG := hG.next hgn hWn
        replace hO := hO.grown hgn hF.nB
        clear hWn hgn
        refine hK.out _ _ ?_ (fun hHeld => ?_)
        · exact hG.cs
        clear hK K hHeld
        try simp only [Act.put, List.setIfInBounds_toArray, List.set_cons_zero, List.set_cons_succ]
        refine wpAnyH_ready (rs := [16]) (by kernel_rfl) (by simp) ?_
        refine AllReadyH.cons (o := ⟨none, _, _, _, _, none⟩) rfl (fun K hK => ?_) AllReadyH.nil
        obtain ⟨_, o0, o1, o2, o3⟩ := id hO
        go_simp
        clear o0 o1 o2 o3
        replace hG := hG.put hF (.int .i64 ux) (.int .i64 uy)
        replace hO := own_put hO ux uy
        refine hK.out _ _ ?_ (fun hHeld => ?_)
        · exact hG.cs
        clear hK K hHeld
        try simp only [Act.put, List.setIfInBounds_toArray, List.set_cons_zero, List.set_cons_succ]
        refine wpAnyH_done (by kernel_rfl) ?_ _
        go_wp2_with fail
        go_meet
        case rel => exact ⟨_, rfl, hG.more hO hF⟩
    · skip
      go_simp
      have hF : Fresh w B [(⟨w.heap.size, 2, none⟩, .int .i64 s.pn), (⟨w.heap.size, 3, none⟩, .int .i64 s.pd), (⟨w.heap.size, 5, none⟩, .slice (some ⟨cb, co, none⟩) q.cl q.cc), (⟨w.heap.size, 6, none⟩, .slice (some ⟨gb, go, none⟩) q.gl q.gc), (⟨w.heap.size, 7, none⟩, .int .i64 s.allow), (⟨w.heap.size + 1, 7, none⟩, .int .i64 x.units), (⟨w.heap.size + 1, 8, none⟩, .int .i64 (ci : Int)), (⟨w.heap.size + 1, 9, none⟩, .int .i64 (gi : Int)), (⟨cb, co + ci * 2, none⟩, .int .i64 c1), (⟨cb, co + ci * 2 + 1, none⟩, .int .i64 c2), (⟨gb, go + gi * 2, none⟩, .int .i64 g1), (⟨gb, go + gi * 2 + 1, none⟩, .int .i64 g2), (⟨B + 1, 0, none⟩, .int .i64 f1), (⟨B + 1, 1, none⟩, .int .i64 f2), (⟨B + 1, 2, none⟩, .int .i64 u1), (⟨B + 1, 3, none⟩, .int .i64 u2)] V.heap.size := hG.fresh
      have hO : Own (V.drew.alloc (.cells #[.int .i64 0, .int .i64 0] 24)) V.heap.size 0 0 := Own.new' rfl
      have hGp := hG
      replace hG := hG.alloc (.cells #[.int .i64 0, .int .i64 0] 24)
      refine hK.out _ _ ?_ (fun hHeld => ?_)
      · exact hG.cs
      clear hK K hHeld
      try simp only [Act.put, List.setIfInBounds_toArray, List.set_cons_zero, List.set_cons_succ]
      refine wpAnyH_ready (rs := [4]) (by kernel_rfl) (by simp) ?_
      refine AllReadyH.cons (o := ⟨some 52, _, _, _, _, none⟩) rfl (fun K hK => ?_) AllReadyH.nil
      go_simp
      refine (goal_whole far _).mono ?_
      rintro e2 v2 ⟨rfl, kA⟩
      replace hG := hG.below kA
      replace hO := hO.below kA
      clear kA
      refine hK.out _ _ ?_ (fun hHeld => ?_)
      · exact hG.cs
      clear hK K hHeld
      try simp only [Act.put, List.setIfInBounds_toArray, List.set_cons_zero, List.set_cons_succ]
      refine wpAnyH_ready (rs := [7]) (by kernel_rfl) (by simp) ?_
      refine AllReadyH.cons (o := ⟨some 55, _, _, _, _, none⟩) rfl (fun K hK => ?_) AllReadyH.nil
      go_simp
      refine (goal_then_mul far 1 s.pn s.pd 0 tx ty e1 B _ ifar (by decide) h.pn h.pd hG.wr ST1.out).mono ?_
      rintro e3 v3 ⟨rfl, hWn, hgn⟩
      replace hG := hG.next hgn hWn
      replace hO := hO.grown hgn hF.nB
      clear hWn hgn
      refine hK.out _ _ ?_ (fun hHeld => ?_)
      · exact hG.cs
      clear hK K hHeld
      try simp only [Act.put, List.setIfInBounds_toArray, List.set_cons_zero, List.set_cons_succ]
      refine wpAnyH_ready (rs := [14]) (by kernel_rfl) (by simp) ?_
      refine AllReadyH.cons (o := ⟨some 62, _, _, _, _, none⟩) rfl (fun K hK => ?_) AllReadyH.nil
      go_simp
      refine (goal_then_mul tx ty g1 g2 e1 ux uy e2 B _ i1.1 i1.2 ig.1 ig.2 hG.wr ST2.out).mono ?_
      rintro e4 v4 ⟨rfl, hWn, hgn⟩
      replace hG := hG.next hgn hWn
      replace hO := hO.grown hgn hF.nB
      clear hWn hgn
      refine hK.out _ _ ?_ (fun hHeld => ?_)
      · exact hG.cs
      clear hK K hHeld
      try simp only [Act.put, List.setIfInBounds_toArray, List.set_cons_zero, List.set_cons_succ]
      refine wpAnyH_ready (rs := [16]) (by kernel_rfl) (by simp) ?_
      refine AllReadyH.cons (o := ⟨none, _, _, _, _, none⟩) rfl (fun K hK => ?_) AllReadyH.nil
      obtain ⟨_, o0, o1, o2, o3⟩ := id hO
      go_simp
      clear o0 o1 o2 o3
      replace hG := hG.put hF (.int .i64 ux) (.int .i64 uy)
      replace hO := own_put hO ux uy
      refine hK.out _ _ ?_ (fun hHeld => ?_)
      · exact hG.cs
      clear hK K hHeld
      try simp only [Act.put, List.setIfInBounds_toArray, List.set_cons_zero, List.set_cons_succ]
      refine wpAnyH_done (by kernel_rfl) ?_ _
      go_wp2_with fail
      go_meet
      case rel => exact ⟨_, rfl, hG.more hO hF⟩
  case rest =>
  obtain ⟨gT, rfl, hG⟩ := hcut
  generalize wc = V2 at *
  go_upto_region 12 with fail
  go_cut [13] (fun v V' => ∃ g, v = .pointer (some ⟨g, 0, none⟩) ∧ GS w B [(⟨gT, 0, none⟩, .int .i64 ux), (⟨gT, 1, none⟩, .int .i64 uy), (⟨w.heap.size, 2, none⟩, .int .i64 s.pn), (⟨w.heap.size, 3, none⟩, .int .i64 s.pd), (⟨w.heap.size, 5, none⟩, .slice (some ⟨cb, co, none⟩) q.cl q.cc), (⟨w.heap.size, 6, none⟩, .slice (some ⟨gb, go, none⟩) q.gl q.gc), (⟨w.heap.size, 7, none⟩, .int .i64 s.allow), (⟨w.heap.size + 1, 7, none⟩, .int .i64 x.units), (⟨w.heap.size + 1, 8, none⟩, .int .i64 (ci : Int)), (⟨w.heap.size + 1, 9, none⟩, .int .i64 (gi : Int)), (⟨cb, co + ci * 2, none⟩, .int .i64 c1), (⟨cb, co + ci * 2 + 1, none⟩, .int .i64 c2), (⟨gb, go + gi * 2, none⟩, .int .i64 g1), (⟨gb, go + gi * 2 + 1, none⟩, .int .i64 g2), (⟨B + 1, 0, none⟩, .int .i64 f1), (⟨B + 1, 1, none⟩, .int .i64 f2), (⟨B + 1, 2, none⟩, .int .i64 u1), (⟨B + 1, 3, none⟩, .int .i64 u2)] e4 V' ∧ Own V' g h1x h1y ∧ Fresh w B [(⟨gT, 0, none⟩, .int .i64 ux), (⟨gT, 1, none⟩, .int .i64 uy), (⟨w.heap.size, 2, none⟩, .int .i64 s.pn), (⟨w.heap.size, 3, none⟩, .int .i64 s.pd), (⟨w.heap.size, 5, none⟩, .slice (some ⟨cb, co, none⟩) q.cl q.cc), (⟨w.heap.size, 6, none⟩, .slice (some ⟨gb, go, none⟩) q.gl q.gc), (⟨w.heap.size, 7, none⟩, .int .i64 s.allow), (⟨w.heap.size + 1, 7, none⟩, .int .i64 x.units), (⟨w.heap.size + 1, 8, none⟩, .int .i64 (ci : Int)), (⟨w.heap.size + 1, 9, none⟩, .int .i64 (gi : Int)), (⟨cb, co + ci * 2, none⟩, .int .i64 c1), (⟨cb, co + ci * 2 + 1, none⟩, .int .i64 c2), (⟨gb, go + gi * 2, none⟩, .int .i64 g1), (⟨gb, go + gi * 2 + 1, none⟩, .int .i64 g2), (⟨B + 1, 0, none⟩, .int .i64 f1), (⟨B + 1, 1, none⟩, .int .i64 f2), (⟨B + 1, 2, none⟩, .int .i64 u1), (⟨B + 1, 3, none⟩, .int .i64 u2)] g)
  case first =>
   as_aux_lemma =>
    refine wp_region_held_drew (S := Cs [(⟨gT, 0, none⟩, .int .i64 ux), (⟨gT, 1, none⟩, .int .i64 uy), (⟨w.heap.size, 2, none⟩, .int .i64 s.pn), (⟨w.heap.size, 3, none⟩, .int .i64 s.pd), (⟨w.heap.size, 5, none⟩, .slice (some ⟨cb, co, none⟩) q.cl q.cc), (⟨w.heap.size, 6, none⟩, .slice (some ⟨gb, go, none⟩) q.gl q.gc), (⟨w.heap.size, 7, none⟩, .int .i64 s.allow), (⟨w.heap.size + 1, 7, none⟩, .int .i64 x.units), (⟨w.heap.size + 1, 8, none⟩, .int .i64 (ci : Int)), (⟨w.heap.size + 1, 9, none⟩, .int .i64 (gi : Int)), (⟨cb, co + ci * 2, none⟩, .int .i64 c1), (⟨cb, co + ci * 2 + 1, none⟩, .int .i64 c2), (⟨gb, go + gi * 2, none⟩, .int .i64 g1), (⟨gb, go + gi * 2 + 1, none⟩, .int .i64 g2), (⟨B + 1, 0, none⟩, .int .i64 f1), (⟨B + 1, 1, none⟩, .int .i64 f2), (⟨B + 1, 2, none⟩, .int .i64 u1), (⟨B + 1, 3, none⟩, .int .i64 u2)]) (by kernel_rfl) hG.cs.drew (fun hHeld => ?_)
    clear hHeld
    replace hG := hG.drew
    refine wpAnyH_take (i := 0) (oi := ⟨some 63, _, _, _, _, none⟩) (v := ?_) rfl (by kernel_rfl) (by kernel_rfl) (by kernel_rfl) (fun _ _ _ h => h) (Or.inl ⟨by rfl, ?_⟩) hG.cs ?_
    rotate_left
    · intro wz hSw; go_simp; (try with_reducible rfl)
    try simp only [Act.put, List.setIfInBounds_toArray, List.set_cons_zero, List.set_cons_succ]
    refine wpAnyH_take (i := 1) (oi := ⟨some 64, _, _, _, _, none⟩) (v := ?_) rfl (by kernel_rfl) (by kernel_rfl) (by kernel_rfl) (fun _ _ _ h => h) (Or.inl ⟨by rfl, ?_⟩) hG.cs ?_
    rotate_left
    · intro wz hSw; go_simp; (try with_reducible rfl)
    try simp only [Act.put, List.setIfInBounds_toArray, List.set_cons_zero, List.set_cons_succ]
    refine wpAnyH_take (i := 2) (oi := ⟨some 65, _, _, _, _, none⟩) (v := ?_) rfl (by kernel_rfl) (by kernel_rfl) (by kernel_rfl) (fun _ _ _ h => h) (Or.inl ⟨by rfl, ?_⟩) hG.cs ?_
    rotate_left
    · intro wz hSw; go_simp; (try with_reducible rfl)
    try simp only [Act.put, List.setIfInBounds_toArray, List.set_cons_zero, List.set_cons_succ]
    refine wpAnyH_take (i := 3) (oi := ⟨some 66, _, _, _, _, none⟩) (v := ?_) rfl (by kernel_rfl) (by kernel_rfl) (by kernel_rfl) (fun _ _ _ h => h) (Or.inl ⟨by rfl, ?_⟩) hG.cs ?_
    rotate_left
    · intro wz hSw; have t14 := hSw.at 14 rfl; have t15 := hSw.at 15 rfl; go_simp; (try with_reducible rfl)
    try simp only [Act.put, List.setIfInBounds_toArray, List.set_cons_zero, List.set_cons_succ]
    refine wpAnyH_take (i := 4) (oi := ⟨some 67, _, _, _, _, none⟩) (v := ?_) rfl (by kernel_rfl) (by kernel_rfl) (by kernel_rfl) (fun _ _ _ h => h) (Or.inl ⟨by rfl, ?_⟩) hG.cs ?_
    rotate_left
    · intro wz hSw; go_simp; (try with_reducible rfl)
    try simp only [Act.put, List.setIfInBounds_toArray, List.set_cons_zero, List.set_cons_succ]
    refine wpAnyH_take (i := 5) (oi := ⟨some 68, _, _, _, _, none⟩) (v := ?_) rfl (by kernel_rfl) (by kernel_rfl) (by kernel_rfl) (fun _ _ _ h => h) (Or.inl ⟨by rfl, ?_⟩) hG.cs ?_
    rotate_left
    · intro wz hSw; go_simp; (try with_reducible rfl)
    try simp only [Act.put, List.setIfInBounds_toArray, List.set_cons_zero, List.set_cons_succ]
    refine wpAnyH_take (i := 6) (oi := ⟨some 69, _, _, _, _, none⟩) (v := ?_) rfl (by kernel_rfl) (by kernel_rfl) (by kernel_rfl) (fun _ _ _ h => h) (Or.inl ⟨by rfl, ?_⟩) hG.cs ?_
    rotate_left
    · intro wz hSw; have t16 := hSw.at 16 rfl; have t17 := hSw.at 17 rfl; go_simp; (try with_reducible rfl)
    try simp only [Act.put, List.setIfInBounds_toArray, List.set_cons_zero, List.set_cons_succ]
    refine wpAnyH_take (i := 7) (oi := ⟨some 70, _, _, _, _, none⟩) (v := ?_) rfl (by kernel_rfl) (by kernel_rfl) (by kernel_rfl) (fun _ _ _ h => h) (Or.inl ⟨by rfl, ?_⟩) hG.cs ?_
    rotate_left
    · intro wz hSw; go_simp; (try with_reducible rfl)
    try simp only [Act.put, List.setIfInBounds_toArray, List.set_cons_zero, List.set_cons_succ]
    refine wpAnyH_take (i := 8) (oi := ⟨some 71, _, _, _, _, none⟩) (v := ?_) rfl (by kernel_rfl) (by kernel_rfl) (by kernel_rfl) (fun _ _ _ h => h) (Or.inl ⟨by rfl, ?_⟩) hG.cs ?_
    rotate_left
    · intro wz hSw; go_simp; (try with_reducible rfl)
    try simp only [Act.put, List.setIfInBounds_toArray, List.set_cons_zero, List.set_cons_succ]
    refine wpAnyH_take (i := 9) (oi := ⟨some 72, _, _, _, _, none⟩) (v := ?_) rfl (by kernel_rfl) (by kernel_rfl) (by kernel_rfl) (fun _ _ _ h => h) (Or.inl ⟨by rfl, ?_⟩) hG.cs ?_
    rotate_left
    · intro wz hSw; have t7 := hSw.at 7 rfl; go_simp; (try with_reducible rfl)
    try simp only [Act.put, List.setIfInBounds_toArray, List.set_cons_zero, List.set_cons_succ]
    refine wpAnyH_ready (rs := [10, 13]) (by kernel_rfl) (by simp) ?_
    refine (AllReadyH.cons (o := ⟨some 73, _, _, _, _, none⟩) rfl (fun K hK => ?_) (AllReadyH.cons (o := ⟨some 13, _, _, _, _, none⟩) rfl (fun K hK => ?_) AllReadyH.nil))
    · skip
      go_simp
      refine (goal_whole x.units _).mono ?_
      rintro e1 v1 ⟨rfl, kA⟩
      replace hG := hG.below kA
      clear kA
      refine hK.out _ _ ?_ (fun hHeld => ?_)
      · exact hG.cs
      clear hK K hHeld
      try simp only [Act.put, List.setIfInBounds_toArray, List.set_cons_zero, List.set_cons_succ]
      refine wpAnyH_ready (rs := [11, 13]) (by kernel_rfl) (by simp) ?_
      refine (AllReadyH.cons (o := ⟨some 74, _, _, _, _, none⟩) rfl (fun K hK => ?_) (AllReadyH.cons (o := ⟨some 13, _, _, _, _, none⟩) rfl (fun K hK => ?_) AllReadyH.nil))
      · skip
        go_simp
        refine (goal_then_mul u1 u2 x.units 1 e2 h0x h0y e3 B _ ie.2.2.1 ie.2.2.2 hx.units (by decide) hG.wr ST3.out).mono ?_
        rintro e2 v2 ⟨rfl, hWn, hgn⟩
        replace hG := hG.next hgn hWn
        clear hWn hgn
        refine hK.out _ _ ?_ (fun hHeld => ?_)
        · exact hG.cs
        clear hK K hHeld
        try simp only [Act.put, List.setIfInBounds_toArray, List.set_cons_zero, List.set_cons_succ]
        refine wpAnyH_ready (rs := [12, 13]) (by kernel_rfl) (by simp) ?_
        refine (AllReadyH.cons (o := ⟨some 75, _, _, _, _, none⟩) rfl (fun K hK => ?_) (AllReadyH.cons (o := ⟨some 13, _, _, _, _, none⟩) rfl (fun K hK => ?_) AllReadyH.nil))
        · skip
          go_simp
          refine (goal_then_add f1 f2 h0x h0y e3 h1x h1y e4 B _ ie.1 ie.2.1 i3.1 i3.2 hG.wr ST4.out).mono ?_
          rintro e3 v3 ⟨rfl, hWn, hgn⟩
          replace hG := hG.next hgn hWn
          clear hWn hgn
          refine hK.out _ _ ?_ (fun hHeld => ?_)
          · exact hG.cs
          clear hK K hHeld
          try simp only [Act.put, List.setIfInBounds_toArray, List.set_cons_zero, List.set_cons_succ]
          refine wpAnyH_ready (rs := [13]) (by kernel_rfl) (by simp) ?_
          refine AllReadyH.cons (o := ⟨some 13, _, _, _, _, none⟩) rfl (fun K hK => ?_) AllReadyH.nil
          go_simp
          have hF : Fresh w B [(⟨gT, 0, none⟩, .int .i64 ux), (⟨gT, 1, none⟩, .int .i64 uy), (⟨w.heap.size, 2, none⟩, .int .i64 s.pn), (⟨w.heap.size, 3, none⟩, .int .i64 s.pd), (⟨w.heap.size, 5, none⟩, .slice (some ⟨cb, co, none⟩) q.cl q.cc), (⟨w.heap.size, 6, none⟩, .slice (some ⟨gb, go, none⟩) q.gl q.gc), (⟨w.heap.size, 7, none⟩, .int .i64 s.allow), (⟨w.heap.size + 1, 7, none⟩, .int .i64 x.units), (⟨w.heap.size + 1, 8, none⟩, .int .i64 (ci : Int)), (⟨w.heap.size + 1, 9, none⟩, .int .i64 (gi : Int)), (⟨cb, co + ci * 2, none⟩, .int .i64 c1), (⟨cb, co + ci * 2 + 1, none⟩, .int .i64 c2), (⟨gb, go + gi * 2, none⟩, .int .i64 g1), (⟨gb, go + gi * 2 + 1, none⟩, .int .i64 g2), (⟨B + 1, 0, none⟩, .int .i64 f1), (⟨B + 1, 1, none⟩, .int .i64 f2), (⟨B + 1, 2, none⟩, .int .i64 u1), (⟨B + 1, 3, none⟩, .int .i64 u2)] v3.heap.size := hG.fresh
          have hO : Own (v3.alloc (.cells #[.int .i64 0, .int .i64 0] 24)) v3.heap.size 0 0 := Own.new' rfl
          have hGp := hG
          replace hG := hG.alloc (.cells #[.int .i64 0, .int .i64 0] 24)
          refine hK.out _ _ ?_ (fun hHeld => ?_)
          · exact hG.cs
          clear hK K hHeld
          try simp only [Act.put, List.setIfInBounds_toArray, List.set_cons_zero, List.set_cons_succ]
          refine wpAnyH_ready (rs := [14]) (by kernel_rfl) (by simp) ?_
          refine AllReadyH.cons (o := ⟨none, _, _, _, _, none⟩) rfl (fun K hK => ?_) AllReadyH.nil
          obtain ⟨_, o0, o1, o2, o3⟩ := id hO
          go_simp
          clear o0 o1 o2 o3
          replace hG := hGp.alloc (.cells #[.int .i64 h1x, .int .i64 h1y] 24)
          replace hO : Own (v3.alloc (.cells #[.int .i64 h1x, .int .i64 h1y] 24)) v3.heap.size h1x h1y := Own.new' rfl
          refine hK.out _ _ ?_ (fun hHeld => ?_)
          · exact hG.cs
          clear hK K hHeld
          try simp only [Act.put, List.setIfInBounds_toArray, List.set_cons_zero, List.set_cons_succ]
          refine wpAnyH_done (by kernel_rfl) ?_ _
          go_wp2_with fail
          go_meet
          case rel => exact ⟨_, rfl, hG, hO, hF⟩
        · skip
          go_simp
          have hF : Fresh w B [(⟨gT, 0, none⟩, .int .i64 ux), (⟨gT, 1, none⟩, .int .i64 uy), (⟨w.heap.size, 2, none⟩, .int .i64 s.pn), (⟨w.heap.size, 3, none⟩, .int .i64 s.pd), (⟨w.heap.size, 5, none⟩, .slice (some ⟨cb, co, none⟩) q.cl q.cc), (⟨w.heap.size, 6, none⟩, .slice (some ⟨gb, go, none⟩) q.gl q.gc), (⟨w.heap.size, 7, none⟩, .int .i64 s.allow), (⟨w.heap.size + 1, 7, none⟩, .int .i64 x.units), (⟨w.heap.size + 1, 8, none⟩, .int .i64 (ci : Int)), (⟨w.heap.size + 1, 9, none⟩, .int .i64 (gi : Int)), (⟨cb, co + ci * 2, none⟩, .int .i64 c1), (⟨cb, co + ci * 2 + 1, none⟩, .int .i64 c2), (⟨gb, go + gi * 2, none⟩, .int .i64 g1), (⟨gb, go + gi * 2 + 1, none⟩, .int .i64 g2), (⟨B + 1, 0, none⟩, .int .i64 f1), (⟨B + 1, 1, none⟩, .int .i64 f2), (⟨B + 1, 2, none⟩, .int .i64 u1), (⟨B + 1, 3, none⟩, .int .i64 u2)] v2.heap.size := hG.fresh
          have hO : Own (v2.alloc (.cells #[.int .i64 0, .int .i64 0] 24)) v2.heap.size 0 0 := Own.new' rfl
          have hGp := hG
          replace hG := hG.alloc (.cells #[.int .i64 0, .int .i64 0] 24)
          refine hK.out _ _ ?_ (fun hHeld => ?_)
          · exact hG.cs
          clear hK K hHeld
          try simp only [Act.put, List.setIfInBounds_toArray, List.set_cons_zero, List.set_cons_succ]
          refine wpAnyH_ready (rs := [12]) (by kernel_rfl) (by simp) ?_
          refine AllReadyH.cons (o := ⟨some 75, _, _, _, _, none⟩) rfl (fun K hK => ?_) AllReadyH.nil
          go_simp
          refine (goal_then_add f1 f2 h0x h0y e3 h1x h1y e4 B _ ie.1 ie.2.1 i3.1 i3.2 hG.wr ST4.out).mono ?_
          rintro e4 v4 ⟨rfl, hWn, hgn⟩
          replace hG := hG.next hgn hWn
          replace hO := hO.grown hgn hF.nB
          clear hWn hgn
          refine hK.out _ _ ?_ (fun hHeld => ?_)
          · exact hG.cs
          clear hK K hHeld
          try simp only [Act.put, List.setIfInBounds_toArray, List.set_cons_zero, List.set_cons_succ]
          refine wpAnyH_ready (rs := [14]) (by kernel_rfl) (by simp) ?_
          refine AllReadyH.cons (o := ⟨none, _, _, _, _, none⟩) rfl (fun K hK => ?_) AllReadyH.nil
          obtain ⟨_, o0, o1, o2, o3⟩ := id hO
          go_simp
          clear o0 o1 o2 o3
          replace hG := hG.put hF (.int .i64 h1x) (.int .i64 h1y)
          replace hO := own_put hO h1x h1y
          refine hK.out _ _ ?_ (fun hHeld => ?_)
          · exact hG.cs
          clear hK K hHeld
          try simp only [Act.put, List.setIfInBounds_toArray, List.set_cons_zero, List.set_cons_succ]
          refine wpAnyH_done (by kernel_rfl) ?_ _
          go_wp2_with fail
          go_meet
          case rel => exact ⟨_, rfl, hG, hO, hF⟩
      · skip
        go_simp
        have hF : Fresh w B [(⟨gT, 0, none⟩, .int .i64 ux), (⟨gT, 1, none⟩, .int .i64 uy), (⟨w.heap.size, 2, none⟩, .int .i64 s.pn), (⟨w.heap.size, 3, none⟩, .int .i64 s.pd), (⟨w.heap.size, 5, none⟩, .slice (some ⟨cb, co, none⟩) q.cl q.cc), (⟨w.heap.size, 6, none⟩, .slice (some ⟨gb, go, none⟩) q.gl q.gc), (⟨w.heap.size, 7, none⟩, .int .i64 s.allow), (⟨w.heap.size + 1, 7, none⟩, .int .i64 x.units), (⟨w.heap.size + 1, 8, none⟩, .int .i64 (ci : Int)), (⟨w.heap.size + 1, 9, none⟩, .int .i64 (gi : Int)), (⟨cb, co + ci * 2, none⟩, .int .i64 c1), (⟨cb, co + ci * 2 + 1, none⟩, .int .i64 c2), (⟨gb, go + gi * 2, none⟩, .int .i64 g1), (⟨gb, go + gi * 2 + 1, none⟩, .int .i64 g2), (⟨B + 1, 0, none⟩, .int .i64 f1), (⟨B + 1, 1, none⟩, .int .i64 f2), (⟨B + 1, 2, none⟩, .int .i64 u1), (⟨B + 1, 3, none⟩, .int .i64 u2)] v1.heap.size := hG.fresh
        have hO : Own (v1.alloc (.cells #[.int .i64 0, .int .i64 0] 24)) v1.heap.size 0 0 := Own.new' rfl
        have hGp := hG
        replace hG := hG.alloc (.cells #[.int .i64 0, .int .i64 0] 24)
        refine hK.out _ _ ?_ (fun hHeld => ?_)
        · exact hG.cs
        clear hK K hHeld
        try simp only [Act.put, List.setIfInBounds_toArray, List.set_cons_zero, List.set_cons_succ]
        refine wpAnyH_ready (rs := [11]) (by kernel_rfl) (by simp) ?_
        refine AllReadyH.cons (o := ⟨some 74, _, _, _, _, none⟩) rfl (fun K hK => ?_) AllReadyH.nil
        go_simp
        refine (goal_then_mul u1 u2 x.units 1 e2 h0x h0y e3 B _ ie.2.2.1 ie.2.2.2 hx.units (by decide) hG.wr ST3.out).mono ?_
        rintro e3 v3 ⟨rfl, hWn, hgn⟩
        replace hG := hG.next hgn hWn
        replace hO := hO.grown hgn hF.nB
        clear hWn hgn
        refine hK.out _ _ ?_ (fun hHeld => ?_)
        · exact hG.cs
        clear hK K hHeld
        try simp only [Act.put, List.setIfInBounds_toArray, List.set_cons_zero, List.set_cons_succ]
        refine wpAnyH_ready (rs := [12]) (by kernel_rfl) (by simp) ?_
        refine AllReadyH.cons (o := ⟨some 75, _, _, _, _, none⟩) rfl (fun K hK => ?_) AllReadyH.nil
        go_simp
        refine (goal_then_add f1 f2 h0x h0y e3 h1x h1y e4 B _ ie.1 ie.2.1 i3.1 i3.2 hG.wr ST4.out).mono ?_
        rintro e4 v4 ⟨rfl, hWn, hgn⟩
        replace hG := hG.next hgn hWn
        replace hO := hO.grown hgn hF.nB
        clear hWn hgn
        refine hK.out _ _ ?_ (fun hHeld => ?_)
        · exact hG.cs
        clear hK K hHeld
        try simp only [Act.put, List.setIfInBounds_toArray, List.set_cons_zero, List.set_cons_succ]
        refine wpAnyH_ready (rs := [14]) (by kernel_rfl) (by simp) ?_
        refine AllReadyH.cons (o := ⟨none, _, _, _, _, none⟩) rfl (fun K hK => ?_) AllReadyH.nil
        obtain ⟨_, o0, o1, o2, o3⟩ := id hO
        go_simp
        clear o0 o1 o2 o3
        replace hG := hG.put hF (.int .i64 h1x) (.int .i64 h1y)
        replace hO := own_put hO h1x h1y
        refine hK.out _ _ ?_ (fun hHeld => ?_)
        · exact hG.cs
        clear hK K hHeld
        try simp only [Act.put, List.setIfInBounds_toArray, List.set_cons_zero, List.set_cons_succ]
        refine wpAnyH_done (by kernel_rfl) ?_ _
        go_wp2_with fail
        go_meet
        case rel => exact ⟨_, rfl, hG, hO, hF⟩
    · skip
      go_simp
      have hF : Fresh w B [(⟨gT, 0, none⟩, .int .i64 ux), (⟨gT, 1, none⟩, .int .i64 uy), (⟨w.heap.size, 2, none⟩, .int .i64 s.pn), (⟨w.heap.size, 3, none⟩, .int .i64 s.pd), (⟨w.heap.size, 5, none⟩, .slice (some ⟨cb, co, none⟩) q.cl q.cc), (⟨w.heap.size, 6, none⟩, .slice (some ⟨gb, go, none⟩) q.gl q.gc), (⟨w.heap.size, 7, none⟩, .int .i64 s.allow), (⟨w.heap.size + 1, 7, none⟩, .int .i64 x.units), (⟨w.heap.size + 1, 8, none⟩, .int .i64 (ci : Int)), (⟨w.heap.size + 1, 9, none⟩, .int .i64 (gi : Int)), (⟨cb, co + ci * 2, none⟩, .int .i64 c1), (⟨cb, co + ci * 2 + 1, none⟩, .int .i64 c2), (⟨gb, go + gi * 2, none⟩, .int .i64 g1), (⟨gb, go + gi * 2 + 1, none⟩, .int .i64 g2), (⟨B + 1, 0, none⟩, .int .i64 f1), (⟨B + 1, 1, none⟩, .int .i64 f2), (⟨B + 1, 2, none⟩, .int .i64 u1), (⟨B + 1, 3, none⟩, .int .i64 u2)] V2.heap.size := hG.fresh
      have hO : Own (V2.drew.alloc (.cells #[.int .i64 0, .int .i64 0] 24)) V2.heap.size 0 0 := Own.new' rfl
      have hGp := hG
      replace hG := hG.alloc (.cells #[.int .i64 0, .int .i64 0] 24)
      refine hK.out _ _ ?_ (fun hHeld => ?_)
      · exact hG.cs
      clear hK K hHeld
      try simp only [Act.put, List.setIfInBounds_toArray, List.set_cons_zero, List.set_cons_succ]
      refine wpAnyH_ready (rs := [10]) (by kernel_rfl) (by simp) ?_
      refine AllReadyH.cons (o := ⟨some 73, _, _, _, _, none⟩) rfl (fun K hK => ?_) AllReadyH.nil
      go_simp
      refine (goal_whole x.units _).mono ?_
      rintro e2 v2 ⟨rfl, kA⟩
      replace hG := hG.below kA
      replace hO := hO.below kA
      clear kA
      refine hK.out _ _ ?_ (fun hHeld => ?_)
      · exact hG.cs
      clear hK K hHeld
      try simp only [Act.put, List.setIfInBounds_toArray, List.set_cons_zero, List.set_cons_succ]
      refine wpAnyH_ready (rs := [11]) (by kernel_rfl) (by simp) ?_
      refine AllReadyH.cons (o := ⟨some 74, _, _, _, _, none⟩) rfl (fun K hK => ?_) AllReadyH.nil
      go_simp
      refine (goal_then_mul u1 u2 x.units 1 e2 h0x h0y e3 B _ ie.2.2.1 ie.2.2.2 hx.units (by decide) hG.wr ST3.out).mono ?_
      rintro e3 v3 ⟨rfl, hWn, hgn⟩
      replace hG := hG.next hgn hWn
      replace hO := hO.grown hgn hF.nB
      clear hWn hgn
      refine hK.out _ _ ?_ (fun hHeld => ?_)
      · exact hG.cs
      clear hK K hHeld
      try simp only [Act.put, List.setIfInBounds_toArray, List.set_cons_zero, List.set_cons_succ]
      refine wpAnyH_ready (rs := [12]) (by kernel_rfl) (by simp) ?_
      refine AllReadyH.cons (o := ⟨some 75, _, _, _, _, none⟩) rfl (fun K hK => ?_) AllReadyH.nil
      go_simp
      refine (goal_then_add f1 f2 h0x h0y e3 h1x h1y e4 B _ ie.1 ie.2.1 i3.1 i3.2 hG.wr ST4.out).mono ?_
      rintro e4 v4 ⟨rfl, hWn, hgn⟩
      replace hG := hG.next hgn hWn
      replace hO := hO.grown hgn hF.nB
      clear hWn hgn
      refine hK.out _ _ ?_ (fun hHeld => ?_)
      · exact hG.cs
      clear hK K hHeld
      try simp only [Act.put, List.setIfInBounds_toArray, List.set_cons_zero, List.set_cons_succ]
      refine wpAnyH_ready (rs := [14]) (by kernel_rfl) (by simp) ?_
      refine AllReadyH.cons (o := ⟨none, _, _, _, _, none⟩) rfl (fun K hK => ?_) AllReadyH.nil
      obtain ⟨_, o0, o1, o2, o3⟩ := id hO
      go_simp
      clear o0 o1 o2 o3
      replace hG := hG.put hF (.int .i64 h1x) (.int .i64 h1y)
      replace hO := own_put hO h1x h1y
      refine hK.out _ _ ?_ (fun hHeld => ?_)
      · exact hG.cs
      clear hK K hHeld
      try simp only [Act.put, List.setIfInBounds_toArray, List.set_cons_zero, List.set_cons_succ]
      refine wpAnyH_done (by kernel_rfl) ?_ _
      go_wp2_with fail
      go_meet
      case rel => exact ⟨_, rfl, hG, hO, hF⟩
  case rest =>
  obtain ⟨g3, rfl, hG, hO, hF⟩ := hcut
  generalize wc = V3 at *
  go_upto_region 13 with fail
  go_cut [] (fun V' => GS w B [(⟨g3, 0, none⟩, .int .i64 h2x), (⟨g3, 1, none⟩, .int .i64 h2y), (⟨gT, 0, none⟩, .int .i64 ux), (⟨gT, 1, none⟩, .int .i64 uy), (⟨w.heap.size, 2, none⟩, .int .i64 s.pn), (⟨w.heap.size, 3, none⟩, .int .i64 s.pd), (⟨w.heap.size, 5, none⟩, .slice (some ⟨cb, co, none⟩) q.cl q.cc), (⟨w.heap.size, 6, none⟩, .slice (some ⟨gb, go, none⟩) q.gl q.gc), (⟨w.heap.size, 7, none⟩, .int .i64 s.allow), (⟨w.heap.size + 1, 7, none⟩, .int .i64 x.units), (⟨w.heap.size + 1, 8, none⟩, .int .i64 (ci : Int)), (⟨w.heap.size + 1, 9, none⟩, .int .i64 (gi : Int)), (⟨cb, co + ci * 2, none⟩, .int .i64 c1), (⟨cb, co + ci * 2 + 1, none⟩, .int .i64 c2), (⟨gb, go + gi * 2, none⟩, .int .i64 g1), (⟨gb, go + gi * 2 + 1, none⟩, .int .i64 g2), (⟨B + 1, 0, none⟩, .int .i64 f1), (⟨B + 1, 1, none⟩, .int .i64 f2), (⟨B + 1, 2, none⟩, .int .i64 u1), (⟨B + 1, 3, none⟩, .int .i64 u2)] e5 V')
  case first =>
   as_aux_lemma =>
    refine wp_region_held_drew (S := Cs [(⟨gT, 0, none⟩, .int .i64 ux), (⟨gT, 1, none⟩, .int .i64 uy), (⟨w.heap.size, 2, none⟩, .int .i64 s.pn), (⟨w.heap.size, 3, none⟩, .int .i64 s.pd), (⟨w.heap.size, 5, none⟩, .slice (some ⟨cb, co, none⟩) q.cl q.cc), (⟨w.heap.size, 6, none⟩, .slice (some ⟨gb, go, none⟩) q.gl q.gc), (⟨w.heap.size, 7, none⟩, .int .i64 s.allow), (⟨w.heap.size + 1, 7, none⟩, .int .i64 x.units), (⟨w.heap.size + 1, 8, none⟩, .int .i64 (ci : Int)), (⟨w.heap.size + 1, 9, none⟩, .int .i64 (gi : Int)), (⟨cb, co + ci * 2, none⟩, .int .i64 c1), (⟨cb, co + ci * 2 + 1, none⟩, .int .i64 c2), (⟨gb, go + gi * 2, none⟩, .int .i64 g1), (⟨gb, go + gi * 2 + 1, none⟩, .int .i64 g2), (⟨B + 1, 0, none⟩, .int .i64 f1), (⟨B + 1, 1, none⟩, .int .i64 f2), (⟨B + 1, 2, none⟩, .int .i64 u1), (⟨B + 1, 3, none⟩, .int .i64 u2)]) (by kernel_rfl) hG.cs.drew (fun hHeld => ?_)
    clear hHeld
    replace hG := hG.drew
    replace hO := hO.drew
    refine wpAnyH_take (i := 0) (oi := ⟨some 76, _, _, _, _, none⟩) (v := ?_) rfl (by kernel_rfl) (by kernel_rfl) (by kernel_rfl) (fun _ _ _ h => h) (Or.inl ⟨by rfl, ?_⟩) hG.cs ?_
    rotate_left
    · intro wz hSw; go_simp; (try with_reducible rfl)
    try simp only [Act.put, List.setIfInBounds_toArray, List.set_cons_zero, List.set_cons_succ]
    refine wpAnyH_take (i := 2) (oi := ⟨some 78, _, _, _, _, none⟩) (v := ?_) rfl (by kernel_rfl) (by kernel_rfl) (by kernel_rfl) (fun _ _ _ h => h) (Or.inl ⟨by rfl, ?_⟩) hG.cs ?_
    rotate_left
    · intro wz hSw; go_simp; (try with_reducible rfl)
    try simp only [Act.put, List.setIfInBounds_toArray, List.set_cons_zero, List.set_cons_succ]
    refine wpAnyH_take (i := 3) (oi := ⟨some 79, _, _, _, _, none⟩) (v := ?_) rfl (by kernel_rfl) (by kernel_rfl) (by kernel_rfl) (fun _ _ _ h => h) (Or.inl ⟨by rfl, ?_⟩) hG.cs ?_
    rotate_left
    · intro wz hSw; have t4 := hSw.at 4 rfl; go_simp; (try with_reducible rfl)
    try simp only [Act.put, List.setIfInBounds_toArray, List.set_cons_zero, List.set_cons_succ]
    refine wpAnyH_take (i := 4) (oi := ⟨some 80, _, _, _, _, none⟩) (v := ?_) rfl (by kernel_rfl) (by kernel_rfl) (by kernel_rfl) (fun _ _ _ h => h) (Or.inl ⟨by rfl, ?_⟩) hG.cs ?_
    rotate_left
    · intro wz hSw; go_simp; (try with_reducible rfl)
    try simp only [Act.put, List.setIfInBounds_toArray, List.set_cons_zero, List.set_cons_succ]
    refine wpAnyH_take (i := 5) (oi := ⟨some 81, _, _, _, _, none⟩) (v := ?_) rfl (by kernel_rfl) (by kernel_rfl) (by kernel_rfl) (fun _ _ _ h => h) (Or.inl ⟨by rfl, ?_⟩) hG.cs ?_
    rotate_left
    · intro wz hSw; have t8 := hSw.at 8 rfl; go_simp; (try with_reducible rfl)
    try simp only [Act.put, List.setIfInBounds_toArray, List.set_cons_zero, List.set_cons_succ]
    refine wpAnyH_take (i := 6) (oi := ⟨some 82, _, _, _, _, none⟩) (v := ?_) rfl (by kernel_rfl) (by kernel_rfl) (by kernel_rfl) (fun _ _ _ h => h) (Or.inl ⟨by rfl, ?_⟩) hG.cs ?_
    rotate_left
    · intro wz hSw; go_simp; (try with_reducible rfl)
    try simp only [Act.put, List.setIfInBounds_toArray, List.set_cons_zero, List.set_cons_succ]
    refine wpAnyH_take (i := 7) (oi := ⟨some 83, _, _, _, _, none⟩) (v := ?_) rfl (by kernel_rfl) (by kernel_rfl) (by kernel_rfl) (fun _ _ _ h => h) (Or.inl ⟨by rfl, ?_⟩) hG.cs ?_
    rotate_left
    · intro wz hSw; have t10 := hSw.at 10 rfl; have t11 := hSw.at 11 rfl; go_simp; (try with_reducible rfl)
    try simp only [Act.put, List.setIfInBounds_toArray, List.set_cons_zero, List.set_cons_succ]
    refine wpAnyH_ready (rs := [1]) (by kernel_rfl) (by simp) ?_
    refine AllReadyH.cons (o := ⟨some 77, _, _, _, _, none⟩) rfl (fun K hK => ?_) AllReadyH.nil
    obtain ⟨_, o0, o1, o2, o3⟩ := id hO
    go_simp
    clear o0 o1 o2 o3
    refine hK.out _ _ ?_ (fun hHeld => ?_)
    · exact hG.cs
    clear hK K hHeld
    try simp only [Act.put, List.setIfInBounds_toArray, List.set_cons_zero, List.set_cons_succ]
    refine wpAnyH_ready (rs := [8]) (by kernel_rfl) (by simp) ?_
    refine AllReadyH.cons (o := ⟨some 84, _, _, _, _, none⟩) rfl (fun K hK => ?_) AllReadyH.nil
    go_simp
    refine (goal_then_mul h1x h1y c1 c2 e4 h2x h2y e5 B _ i4.1 i4.2 ic.1 ic.2 hG.wr ST5.out).mono ?_
    rintro e2 v2 ⟨rfl, hWn, hgn⟩
    replace hG := hG.next hgn hWn
    replace hO := hO.grown hgn hF.nB
    clear hWn hgn
    refine hK.out _ _ ?_ (fun hHeld => ?_)
    · exact hG.cs
    clear hK K hHeld
    try simp only [Act.put, List.setIfInBounds_toArray, List.set_cons_zero, List.set_cons_succ]
    refine wpAnyH_ready (rs := [9]) (by kernel_rfl) (by simp) ?_
    refine AllReadyH.cons (o := ⟨none, _, _, _, _, none⟩) rfl (fun K hK => ?_) AllReadyH.nil
    obtain ⟨_, o0, o1, o2, o3⟩ := id hO
    go_simp
    clear o0 o1 o2 o3
    replace hG := hG.put hF (.int .i64 h2x) (.int .i64 h2y)
    replace hO := own_put hO h2x h2y
    refine hK.out _ _ ?_ (fun hHeld => ?_)
    · exact hG.cs
    clear hK K hHeld
    try simp only [Act.put, List.setIfInBounds_toArray, List.set_cons_zero, List.set_cons_succ]
    refine wpAnyH_done (by kernel_rfl) ?_ _
    go_wp2_with fail
    go_meet
    case rel => exact hG.more hO hF
  case rest =>
  have hG := hcut
  clear hcut hO hF
  generalize wc = V4 at *
  have s7 := hG.cs.at 8 rfl
  go_wp2_with fail
  refine (ratio_Make_is (100 + s.allow) 100 ax ay eA _ (by unfold In; omega) (by decide) HA.out).mono ?_
  rintro e9 V5 ⟨rfl, kA⟩
  replace hG := hG.below kA
  clear kA s7
  go_upto_region 15 with fail
  refine gen_code (S := GS w B ([(⟨V5.heap.size, 0, none⟩, .int .i64 ax), (⟨V5.heap.size, 1, none⟩, .int .i64 ay), (⟨g3, 0, none⟩, .int .i64 h2x), (⟨g3, 1, none⟩, .int .i64 h2y), (⟨gT, 0, none⟩, .int .i64 ux), (⟨gT, 1, none⟩, .int .i64 uy), (⟨w.heap.size, 2, none⟩, .int .i64 s.pn), (⟨w.heap.size, 3, none⟩, .int .i64 s.pd), (⟨w.heap.size, 5, none⟩, .slice (some ⟨cb, co, none⟩) q.cl q.cc), (⟨w.heap.size, 6, none⟩, .slice (some ⟨gb, go, none⟩) q.gl q.gc), (⟨w.heap.size, 7, none⟩, .int .i64 s.allow), (⟨w.heap.size + 1, 7, none⟩, .int .i64 x.units), (⟨w.heap.size + 1, 8, none⟩, .int .i64 (ci : Int)), (⟨w.heap.size + 1, 9, none⟩, .int .i64 (gi : Int)), (⟨cb, co + ci * 2, none⟩, .int .i64 c1), (⟨cb, co + ci * 2 + 1, none⟩, .int .i64 c2), (⟨gb, go + gi * 2, none⟩, .int .i64 g1), (⟨gb, go + gi * 2 + 1, none⟩, .int .i64 g2), (⟨B + 1, 0, none⟩, .int .i64 f1), (⟨B + 1, 1, none⟩, .int .i64 f2), (⟨B + 1, 2, none⟩, .int .i64 u1), (⟨B + 1, 3, none⟩, .int .i64 u2)]) e5) ((hG.alloc (.cells #[.int .i64 ax, .int .i64 ay] 24)).more (Own.new' rfl) hG.fresh) (fun V6 hG => ?_)
  generalize V5.heap.size = gA at *
  go_cut [16] (fun v V' => ∃ g, v = .pointer (some ⟨g, 0, none⟩) ∧ GS w B [(⟨g, 0, none⟩, .int .i64 n), (⟨g, 1, none⟩, .int .i64 d), (⟨gA, 0, none⟩, .int .i64 ax), (⟨gA, 1, none⟩, .int .i64 ay), (⟨g3, 0, none⟩, .int .i64 h2x), (⟨g3, 1, none⟩, .int .i64 h2y), (⟨gT, 0, none⟩, .int .i64 ux), (⟨gT, 1, none⟩, .int .i64 uy), (⟨w.heap.size, 2, none⟩, .int .i64 s.pn), (⟨w.heap.size, 3, none⟩, .int .i64 s.pd), (⟨w.heap.size, 5, none⟩, .slice (some ⟨cb, co, none⟩) q.cl q.cc), (⟨w.heap.size, 6, none⟩, .slice (some ⟨gb, go, none⟩) q.gl q.gc), (⟨w.heap.size, 7, none⟩, .int .i64 s.allow), (⟨w.heap.size + 1, 7, none⟩, .int .i64 x.units), (⟨w.heap.size + 1, 8, none⟩, .int .i64 (ci : Int)), (⟨w.heap.size + 1, 9, none⟩, .int .i64 (gi : Int)), (⟨cb, co + ci * 2, none⟩, .int .i64 c1), (⟨cb, co + ci * 2 + 1, none⟩, .int .i64 c2), (⟨gb, go + gi * 2, none⟩, .int .i64 g1), (⟨gb, go + gi * 2 + 1, none⟩, .int .i64 g2), (⟨B + 1, 0, none⟩, .int .i64 f1), (⟨B + 1, 1, none⟩, .int .i64 f2), (⟨B + 1, 2, none⟩, .int .i64 u1), (⟨B + 1, 3, none⟩, .int .i64 u2)] e V')
  case first =>
   as_aux_lemma =>
    refine wp_region_held_drew (S := Cs [(⟨gA, 0, none⟩, .int .i64 ax), (⟨gA, 1, none⟩, .int .i64 ay), (⟨g3, 0, none⟩, .int .i64 h2x), (⟨g3, 1, none⟩, .int .i64 h2y), (⟨gT, 0, none⟩, .int .i64 ux), (⟨gT, 1, none⟩, .int .i64 uy), (⟨w.heap.size, 2, none⟩, .int .i64 s.pn), (⟨w.heap.size, 3, none⟩, .int .i64 s.pd), (⟨w.heap.size, 5, none⟩, .slice (some ⟨cb, co, none⟩) q.cl q.cc), (⟨w.heap.size, 6, none⟩, .slice (some ⟨gb, go, none⟩) q.gl q.gc), (⟨w.heap.size, 7, none⟩, .int .i64 s.allow), (⟨w.heap.size + 1, 7, none⟩, .int .i64 x.units), (⟨w.heap.size + 1, 8, none⟩, .int .i64 (ci : Int)), (⟨w.heap.size + 1, 9, none⟩, .int .i64 (gi : Int)), (⟨cb, co + ci * 2, none⟩, .int .i64 c1), (⟨cb, co + ci * 2 + 1, none⟩, .int .i64 c2), (⟨gb, go + gi * 2, none⟩, .int .i64 g1), (⟨gb, go + gi * 2 + 1, none⟩, .int .i64 g2), (⟨B + 1, 0, none⟩, .int .i64 f1), (⟨B + 1, 1, none⟩, .int .i64 f2), (⟨B + 1, 2, none⟩, .int .i64 u1), (⟨B + 1, 3, none⟩, .int .i64 u2)]) (by kernel_rfl) hG.cs.drew (fun hHeld => ?_)
    clear hHeld
    replace hG := hG.drew
    refine wpAnyH_take (i := 0) (oi := ⟨some 92, _, _, _, _, none⟩) (v := ?_) rfl (by kernel_rfl) (by kernel_rfl) (by kernel_rfl) (fun _ _ _ h => h) (Or.inl ⟨by rfl, ?_⟩) hG.cs ?_
    rotate_left
    · intro wz hSw; go_simp; (try with_reducible rfl)
    try simp only [Act.put, List.setIfInBounds_toArray, List.set_cons_zero, List.set_cons_succ]
    refine wpAnyH_take (i := 1) (oi := ⟨some 93, _, _, _, _, none⟩) (v := ?_) rfl (by kernel_rfl) (by kernel_rfl) (by kernel_rfl) (fun _ _ _ h => h) (Or.inl ⟨by rfl, ?_⟩) hG.cs ?_
    rotate_left
    · intro wz hSw; go_simp; (try with_reducible rfl)
    try simp only [Act.put, List.setIfInBounds_toArray, List.set_cons_zero, List.set_cons_succ]
    refine wpAnyH_take (i := 2) (oi := ⟨some 94, _, _, _, _, none⟩) (v := ?_) rfl (by kernel_rfl) (by kernel_rfl) (by kernel_rfl) (fun _ _ _ h => h) (Or.inl ⟨by rfl, ?_⟩) hG.cs ?_
    rotate_left
    · intro wz hSw; go_simp; (try with_reducible rfl)
    try simp only [Act.put, List.setIfInBounds_toArray, List.set_cons_zero, List.set_cons_succ]
    refine wpAnyH_take (i := 3) (oi := ⟨some 95, _, _, _, _, none⟩) (v := ?_) rfl (by kernel_rfl) (by kernel_rfl) (by kernel_rfl) (fun _ _ _ h => h) (Or.inl ⟨by rfl, ?_⟩) hG.cs ?_
    rotate_left
    · intro wz hSw; have t4 := hSw.at 4 rfl; have t5 := hSw.at 5 rfl; go_simp; (try with_reducible rfl)
    try simp only [Act.put, List.setIfInBounds_toArray, List.set_cons_zero, List.set_cons_succ]
    refine wpAnyH_take (i := 4) (oi := ⟨some 96, _, _, _, _, none⟩) (v := ?_) rfl (by kernel_rfl) (by kernel_rfl) (by kernel_rfl) (fun _ _ _ h => h) (Or.inl ⟨by rfl, ?_⟩) hG.cs ?_
    rotate_left
    · intro wz hSw; have t2 := hSw.at 2 rfl; have t3 := hSw.at 3 rfl; go_simp; (try with_reducible rfl)
    try simp only [Act.put, List.setIfInBounds_toArray, List.set_cons_zero, List.set_cons_succ]
    refine wpAnyH_take (i := 6) (oi := ⟨some 98, _, _, _, _, none⟩) (v := ?_) rfl (by kernel_rfl) (by kernel_rfl) (by kernel_rfl) (fun _ _ _ h => h) (Or.inl ⟨by rfl, ?_⟩) hG.cs ?_
    rotate_left
    · intro wz hSw; have t0 := hSw.at 0 rfl; have t1 := hSw.at 1 rfl; go_simp; (try with_reducible rfl)
    try simp only [Act.put, List.setIfInBounds_toArray, List.set_cons_zero, List.set_cons_succ]
    refine wpAnyH_ready (rs := [5, 8]) (by kernel_rfl) (by simp) ?_
    refine (AllReadyH.cons (o := ⟨some 97, _, _, _, _, none⟩) rfl (fun K hK => ?_) (AllReadyH.cons (o := ⟨some 16, _, _, _, _, none⟩) rfl (fun K hK => ?_) AllReadyH.nil))
    · skip
      go_simp
      refine (goal_then_add ux uy h2x h2y e5 bx by_ e6 B _ i2.1 i2.2 i5.1 i5.2 hG.wr ST6.out).mono ?_
      rintro e1 v1 ⟨rfl, hWn, hgn⟩
      replace hG := hG.next hgn hWn
      clear hWn hgn
      refine hK.out _ _ ?_ (fun hHeld => ?_)
      · exact hG.cs
      clear hK K hHeld
      try simp only [Act.put, List.setIfInBounds_toArray, List.set_cons_zero, List.set_cons_succ]
      refine wpAnyH_ready (rs := [7, 8]) (by kernel_rfl) (by simp) ?_
      refine (AllReadyH.cons (o := ⟨some 99, _, _, _, _, none⟩) rfl (fun K hK => ?_) (AllReadyH.cons (o := ⟨some 16, _, _, _, _, none⟩) rfl (fun K hK => ?_) AllReadyH.nil))
      · skip
        go_simp
        refine (goal_then_mul bx by_ ax ay e6 n d e B _ i6.1 i6.2 ia.1 ia.2 hG.wr ST7.out).mono ?_
        rintro e2 v2 ⟨rfl, hWn, hgn⟩
        replace hG := hG.next hgn hWn
        clear hWn hgn
        refine hK.out _ _ ?_ (fun hHeld => ?_)
        · exact hG.cs
        clear hK K hHeld
        try simp only [Act.put, List.setIfInBounds_toArray, List.set_cons_zero, List.set_cons_succ]
        refine wpAnyH_ready (rs := [8]) (by kernel_rfl) (by simp) ?_
        refine AllReadyH.cons (o := ⟨some 16, _, _, _, _, none⟩) rfl (fun K hK => ?_) AllReadyH.nil
        go_simp
        have hF : Fresh w B [(⟨gA, 0, none⟩, .int .i64 ax), (⟨gA, 1, none⟩, .int .i64 ay), (⟨g3, 0, none⟩, .int .i64 h2x), (⟨g3, 1, none⟩, .int .i64 h2y), (⟨gT, 0, none⟩, .int .i64 ux), (⟨gT, 1, none⟩, .int .i64 uy), (⟨w.heap.size, 2, none⟩, .int .i64 s.pn), (⟨w.heap.size, 3, none⟩, .int .i64 s.pd), (⟨w.heap.size, 5, none⟩, .slice (some ⟨cb, co, none⟩) q.cl q.cc), (⟨w.heap.size, 6, none⟩, .slice (some ⟨gb, go, none⟩) q.gl q.gc), (⟨w.heap.size, 7, none⟩, .int .i64 s.allow), (⟨w.heap.size + 1, 7, none⟩, .int .i64 x.units), (⟨w.heap.size + 1, 8, none⟩, .int .i64 (ci : Int)), (⟨w.heap.size + 1, 9, none⟩, .int .i64 (gi : Int)), (⟨cb, co + ci * 2, none⟩, .int .i64 c1), (⟨cb, co + ci * 2 + 1, none⟩, .int .i64 c2), (⟨gb, go + gi * 2, none⟩, .int .i64 g1), (⟨gb, go + gi * 2 + 1, none⟩, .int .i64 g2), (⟨B + 1, 0, none⟩, .int .i64 f1), (⟨B + 1, 1, none⟩, .int .i64 f2), (⟨B + 1, 2, none⟩, .int .i64 u1), (⟨B + 1, 3, none⟩, .int .i64 u2)] v2.heap.size := hG.fresh
        have hO : Own (v2.alloc (.cells #[.int .i64 0, .int .i64 0] 24)) v2.heap.size 0 0 := Own.new' rfl
        have hGp := hG
        replace hG := hG.alloc (.cells #[.int .i64 0, .int .i64 0] 24)
        refine hK.out _ _ ?_ (fun hHeld => ?_)
        · exact hG.cs
        clear hK K hHeld
        try simp only [Act.put, List.setIfInBounds_toArray, List.set_cons_zero, List.set_cons_succ]
        refine wpAnyH_ready (rs := [9]) (by kernel_rfl) (by simp) ?_
        refine AllReadyH.cons (o := ⟨none, _, _, _, _, none⟩) rfl (fun K hK => ?_) AllReadyH.nil
        obtain ⟨_, o0, o1, o2, o3⟩ := id hO
        go_simp
        clear o0 o1 o2 o3
        replace hG := hGp.alloc (.cells #[.int .i64 n, .int .i64 d] 24)
        replace hO : Own (v2.alloc (.cells #[.int .i64 n, .int .i64 d] 24)) v2.heap.size n d := Own.new' rfl
        refine hK.out _ _ ?_ (fun hHeld => ?_)
        · exact hG.cs
        clear hK K hHeld
        try simp only [Act.put, List.setIfInBounds_toArray, List.set_cons_zero, List.set_cons_succ]
        refine wpAnyH_done (by kernel_rfl) ?_ _
        go_wp2_with fail
        go_meet
        case rel => exact ⟨_, rfl, hG.more hO hF⟩
      · skip
        go_simp
        have hF : Fresh w B [(⟨gA, 0, none⟩, .int .i64 ax), (⟨gA, 1, none⟩, .int .i64 ay), (⟨g3, 0, none⟩, .int .i64 h2x), (⟨g3, 1, none⟩, .int .i64 h2y), (⟨gT, 0, none⟩, .int .i64 ux), (⟨gT, 1, none⟩, .int .i64 uy), (⟨w.heap.size, 2, none⟩, .int .i64 s.pn), (⟨w.heap.size, 3, none⟩, .int .i64 s.pd), (⟨w.heap.size, 5, none⟩, .slice (some ⟨cb, co, none⟩) q.cl q.cc), (⟨w.heap.size, 6, none⟩, .slice (some ⟨gb, go, none⟩) q.gl q.gc), (⟨w.heap.size, 7, none⟩, .int .i64 s.allow), (⟨w.heap.size + 1, 7, none⟩, .int .i64 x.units), (⟨w.heap.size + 1, 8, none⟩, .int .i64 (ci : Int)), (⟨w.heap.size + 1, 9, none⟩, .int .i64 (gi : Int)), (⟨cb, co + ci * 2, none⟩, .int .i64 c1), (⟨cb, co + ci * 2 + 1, none⟩, .int .i64 c2), (⟨gb, go + gi * 2, none⟩, .int .i64 g1), (⟨gb, go + gi * 2 + 1, none⟩, .int .i64 g2), (⟨B + 1, 0, none⟩, .int .i64 f1), (⟨B + 1, 1, none⟩, .int .i64 f2), (⟨B + 1, 2, none⟩, .int .i64 u1), (⟨B + 1, 3, none⟩, .int .i64 u2)] v1.heap.size := hG.fresh
        have hO : Own (v1.alloc (.cells #[.int .i64 0, .int .i64 0] 24)) v1.heap.size 0 0 := Own.new' rfl
        have hGp := hG
        replace hG := hG.alloc (.cells #[.int .i64 0, .int .i64 0] 24)
        refine hK.out _ _ ?_ (fun hHeld => ?_)
        · exact hG.cs
        clear hK K hHeld
        try simp only [Act.put, List.setIfInBounds_toArray, List.set_cons_zero, List.set_cons_succ]
        refine wpAnyH_ready (rs := [7]) (by kernel_rfl) (by simp) ?_
        refine AllReadyH.cons (o := ⟨some 99, _, _, _, _, none⟩) rfl (fun K hK => ?_) AllReadyH.nil
        go_simp
        refine (goal_then_mul bx by_ ax ay e6 n d e B _ i6.1 i6.2 ia.1 ia.2 hG.wr ST7.out).mono ?_
        rintro e3 v3 ⟨rfl, hWn, hgn⟩
        replace hG := hG.next hgn hWn
        replace hO := hO.grown hgn hF.nB
        clear hWn hgn
        refine hK.out _ _ ?_ (fun hHeld => ?_)
        · exact hG.cs
        clear hK K hHeld
        try simp only [Act.put, List.setIfInBounds_toArray, List.set_cons_zero, List.set_cons_succ]
        refine wpAnyH_ready (rs := [9]) (by kernel_rfl) (by simp) ?_
        refine AllReadyH.cons (o := ⟨none, _, _, _, _, none⟩) rfl (fun K hK => ?_) AllReadyH.nil
        obtain ⟨_, o0, o1, o2, o3⟩ := id hO
        go_simp
        clear o0 o1 o2 o3
        replace hG := hG.put hF (.int .i64 n) (.int .i64 d)
        replace hO := own_put hO n d
        refine hK.out _ _ ?_ (fun hHeld => ?_)
        · exact hG.cs
        clear hK K hHeld
        try simp only [Act.put, List.setIfInBounds_toArray, List.set_cons_zero, List.set_cons_succ]
        refine wpAnyH_done (by kernel_rfl) ?_ _
        go_wp2_with fail
        go_meet
        case rel => exact ⟨_, rfl, hG.more hO hF⟩
    · skip
      go_simp
      have hF : Fresh w B [(⟨gA, 0, none⟩, .int .i64 ax), (⟨gA, 1, none⟩, .int .i64 ay), (⟨g3, 0, none⟩, .int .i64 h2x), (⟨g3, 1, none⟩, .int .i64 h2y), (⟨gT, 0, none⟩, .int .i64 ux), (⟨gT, 1, none⟩, .int .i64 uy), (⟨w.heap.size, 2, none⟩, .int .i64 s.pn), (⟨w.heap.size, 3, none⟩, .int .i64 s.pd), (⟨w.heap.size, 5, none⟩, .slice (some ⟨cb, co, none⟩) q.cl q.cc), (⟨w.heap.size, 6, none⟩, .slice (some ⟨gb, go, none⟩) q.gl q.gc), (⟨w.heap.size, 7, none⟩, .int .i64 s.allow), (⟨w.heap.size + 1, 7, none⟩, .int .i64 x.units), (⟨w.heap.size + 1, 8, none⟩, .int .i64 (ci : Int)), (⟨w.heap.size + 1, 9, none⟩, .int .i64 (gi : Int)), (⟨cb, co + ci * 2, none⟩, .int .i64 c1), (⟨cb, co + ci * 2 + 1, none⟩, .int .i64 c2), (⟨gb, go + gi * 2, none⟩, .int .i64 g1), (⟨gb, go + gi * 2 + 1, none⟩, .int .i64 g2), (⟨B + 1, 0, none⟩, .int .i64 f1), (⟨B + 1, 1, none⟩, .int .i64 f2), (⟨B + 1, 2, none⟩, .int .i64 u1), (⟨B + 1, 3, none⟩, .int .i64 u2)] V6.heap.size := hG.fresh
      have hO : Own (V6.drew.alloc (.cells #[.int .i64 0, .int .i64 0] 24)) V6.heap.size 0 0 := Own.new' rfl
      have hGp := hG
      replace hG := hG.alloc (.cells #[.int .i64 0, .int .i64 0] 24)
      refine hK.out _ _ ?_ (fun hHeld => ?_)
      · exact hG.cs
      clear hK K hHeld
      try simp only [Act.put, List.setIfInBounds_toArray, List.set_cons_zero, List.set_cons_succ]
      refine wpAnyH_ready (rs := [5]) (by kernel_rfl) (by simp) ?_
      refine AllReadyH.cons (o := ⟨some 97, _, _, _, _, none⟩) rfl (fun K hK => ?_) AllReadyH.nil
      go_simp
      refine (goal_then_add ux uy h2x h2y e5 bx by_ e6 B _ i2.1 i2.2 i5.1 i5.2 hG.wr ST6.out).mono ?_
      rintro e2 v2 ⟨rfl, hWn, hgn⟩
      replace hG := hG.next hgn hWn
      replace hO := hO.grown hgn hF.nB
      clear hWn hgn
      refine hK.out _ _ ?_ (fun hHeld => ?_)
      · exact hG.cs
      clear hK K hHeld
      try simp only [Act.put, List.setIfInBounds_toArray, List.set_cons_zero, List.set_cons_succ]
      refine wpAnyH_ready (rs := [7]) (by kernel_rfl) (by simp) ?_
      refine AllReadyH.cons (o := ⟨some 99, _, _, _, _, none⟩) rfl (fun K hK => ?_) AllReadyH.nil
      go_simp
      refine (goal_then_mul bx by_ ax ay e6 n d e B _ i6.1 i6.2 ia.1 ia.2 hG.wr ST7.out).mono ?_
      rintro e3 v3 ⟨rfl, hWn, hgn⟩
      replace hG := hG.next hgn hWn
      replace hO := hO.grown hgn hF.nB
      clear hWn hgn
      refine hK.out _ _ ?_ (fun hHeld => ?_)
      · exact hG.cs
      clear hK K hHeld
      try simp only [Act.put, List.setIfInBounds_toArray, List.set_cons_zero, List.set_cons_succ]
      refine wpAnyH_ready (rs := [9]) (by kernel_rfl) (by simp) ?_
      refine AllReadyH.cons (o := ⟨none, _, _, _, _, none⟩) rfl (fun K hK => ?_) AllReadyH.nil
      obtain ⟨_, o0, o1, o2, o3⟩ := id hO
      go_simp
      clear o0 o1 o2 o3
      replace hG := hG.put hF (.int .i64 n) (.int .i64 d)
      replace hO := own_put hO n d
      refine hK.out _ _ ?_ (fun hHeld => ?_)
      · exact hG.cs
      clear hK K hHeld
      try simp only [Act.put, List.setIfInBounds_toArray, List.set_cons_zero, List.set_cons_succ]
      refine wpAnyH_done (by kernel_rfl) ?_ _
      go_wp2_with fail
      go_meet
      case rel => exact ⟨_, rfl, hG.more hO hF⟩
  case rest =>
  obtain ⟨gO, rfl, hG⟩ := hcut
  generalize wc = V7 at *
  have cW := hG.wr.cell
  have t0 := hG.cs.at 0 rfl
  have t1 := hG.cs.at 1 rfl
  obtain ⟨rl, r0, r1, r2, r3⟩ := hG.own
  have hBl := hG.bel
  have hne : ¬ B = w.heap.size + 1 + 1 := by have := hG.hB; omega
  have hne' : ¬ w.heap.size + 1 + 1 = B := by have := hG.hB; omega
  by_cases h0 : e = 0
  · obtain rfl := h0
    go_wp2_with fail
    refine bodyPost_ret (v := .tuple #[.agg #[.int .i64 n, .int .i64 d], .int .i64 0]) (by simp [results, Try.results25, go_sem, r0, r1]) rfl ⟨rfl, (hBl.setCell (by simp; omega) _).setCell (by simp; omega) _⟩
  · have d1 : (e == 0) = false := by rw [beq_eq_false_iff_ne]; exact h0
    have d2 : (e != 0) = true := by rw [bne_iff_ne]; exact h0
    obtain ⟨rfl, rfl⟩ := stepP_err (fun _ _ _ _ _ _ _ => mul_err) ST7.out h0
    go_upto_region 17 with fail
    refine wp_region_held_drew (S := (fun V => V.cell? ⟨B, 0, none⟩ = some (.int .i64 e))) (by kernel_rfl) ?_ (fun hHeld => ?_)
    · exact cW
    refine wpAnyH_take (i := 0) (oi := ⟨some 102, _, _, _, _, none⟩) (v := ?_) rfl (by kernel_rfl) (by kernel_rfl) (by kernel_rfl) (fun _ _ _ h => h) (Or.inl ⟨by rfl, ?_⟩) (by assumption) ?_
    rotate_left
    · intro wz hSw; (try dsimp only at hSw); go_simp; (try with_reducible rfl)
    try simp only [Act.put, List.setIfInBounds_toArray, List.set_cons_zero, List.set_cons_succ]
    refine wpAnyH_take (i := 1) (oi := ⟨some 103, _, _, _, _, none⟩) (v := ?_) rfl (by kernel_rfl) (by kernel_rfl) (by kernel_rfl) (fun _ _ _ h => h) (Or.inl ⟨by rfl, ?_⟩) (by assumption) ?_
    rotate_left
    · intro wz hSw; (try dsimp only at hSw); go_simp; (try with_reducible rfl)
    try simp only [Act.put, List.setIfInBounds_toArray, List.set_cons_zero, List.set_cons_succ]
    refine wpAnyH_ready (rs := [2]) (by kernel_rfl) (by simp) ?_
    refine AllReadyH.cons (o := ⟨none, _, _, _, _, none⟩) rfl (fun K hK => ?_) AllReadyH.nil
    go_simp
    refine hK.out _ _ ?_ (fun hHeld => ?_)
    · simp [go_sem, hne, hne', cW]
    clear hK K
    try simp only [Act.put, List.setIfInBounds_toArray, List.set_cons_zero, List.set_cons_succ]
    refine wpAnyH_take (i := 3) (oi := ⟨some 5, _, _, _, _, none⟩) (v := ?_) rfl (by kernel_rfl) (by kernel_rfl) (by kernel_rfl) (fun _ _ _ h => h) (Or.inl ⟨by rfl, ?_⟩) (by assumption) ?_
    rotate_left
    · intro wz hSw; (try dsimp only at hSw); go_simp; (try with_reducible rfl)
    try simp only [Act.put, List.setIfInBounds_toArray, List.set_cons_zero, List.set_cons_succ]
    refine wpAnyH_done (by kernel_rfl) ?_ _
    go_wp2_with fail
    refine bodyPost_ret (v := .tuple #[.agg #[.int .i64 0, .int .i64 0], .int .i64 e]) (by simp [results, Try.results25, go_sem, r0, r1]) rfl ⟨rfl, (hBl.drew.setCell (by simp; omega) _).setCell (by simp; omega) _⟩

end Go.Proofs.Ytnjckaifgmliaaa
