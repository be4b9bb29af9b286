/- THE WALK of lumperref19.Of's main path. -/
import Derived.Test.YtjcfflpiajefmaaRef19B
import Derived.Test.YtjcfflpiajefmaaPayOf2
import Derived.Deep.DeepCutAuto
import Derived.Deep.MidRow
set_option linter.unusedSimpArgs false
set_option linter.unusedVariables false
namespace Go.Proofs.Ytjcfflpiajefmaa
open Go.RowKit Lu

theorem ref_Up_is (a b : Int) (w : World) (s x : Int) (ha : In a) (hb : In b) (hs : upP a b = (s, x)) :
    Calls Try.prog 35 #[.int .i64 a, .int .i64 b] w fun e w' => e = .returned (.tuple #[.int .i64 s, .int .i64 x]) ∧ w = w' := by
  have := ref_Up a b ha hb w
  rwa [hs] at this
theorem RefPay.start {w w1 : World} {s : Setup} {q : Slices} {Y : Nat → Int} (T : TypeId) (u1 u2 u3 : Int) (b : Below w.heap.size w w1) (z : w.heap.size + 3 ≤ w1.heap.size)
    (sec : ∀ j : Nat, j < 7 → w1.cell? ⟨w.heap.size + 1, j, none⟩ = some (.int .i64 (Y j)))
    (diff : w1.cell? ⟨w.heap.size, 19, none⟩ = some (.int .i64 s.diff)) (least : w1.cell? ⟨w.heap.size, 20, none⟩ = some (.int .i64 s.least)) (tiers : w1.cell? ⟨w.heap.size, 22, none⟩ = some (.slice q.ta q.tl q.tc))
    (res : ∀ j : Nat, j < 11 → w1.cell? ⟨w.heap.size + 2, j, none⟩ = some (.int .i64 0)) (rfz : ∀ j : Nat, j < 11 → w1.frozen? ⟨w.heap.size + 2, j, none⟩ = false) :
    RefPay w (w1.alloc (.cells #[.int .i64 0, .int .i64 u1, .int .i64 u2, .int .i64 u3, .int .i64 0, .int .i64 0, .int .i64 0, .int .i64 0, .int .i64 0, .int .i64 0, .int .i64 0] T)) s q Y w1.heap.size (upd (upd (upd (fun _ => 0) 1 u1) 2 u2) 3 u3) := by
  have k : Below w1.heap.size w1 (w1.alloc (.cells #[.int .i64 0, .int .i64 u1, .int .i64 u2, .int .i64 u3, .int .i64 0, .int .i64 0, .int .i64 0, .int .i64 0, .int .i64 0, .int .i64 0, .int .i64 0] T)) := by go_grown
  refine ⟨b.trans (k.mono (by omega)), by omega, by simp, ?_, ?_, fun i hi => keepD k (sec i hi), keepD k diff, keepD k least, keepD k tiers, fun i hi => keepD k (res i hi), fun i hi => keepF k (rfz i hi) (by simp only; omega)⟩
  · intro j hj
    rcases (show j = 0 ∨ j = 1 ∨ j = 2 ∨ j = 3 ∨ j = 4 ∨ j = 5 ∨ j = 6 ∨ j = 7 ∨ j = 8 ∨ j = 9 ∨ j = 10 by omega) with rfl | rfl | rfl | rfl | rfl | rfl | rfl | rfl | rfl | rfl | rfl <;> simp [go_sem, upd]
  · intro j hj
    rcases (show j = 0 ∨ j = 1 ∨ j = 2 ∨ j = 3 ∨ j = 4 ∨ j = 5 ∨ j = 6 ∨ j = 7 ∨ j = 8 ∨ j = 9 ∨ j = 10 by omega) with rfl | rfl | rfl | rfl | rfl | rfl | rfl | rfl | rfl | rfl | rfl <;> simp [go_sem]
theorem gotTo_range {C : Nat → Int} {b M : Int} (hb : 0 ≤ b ∧ b ≤ M) (h : ∀ j : Nat, 1 ≤ j → j < 7 → 0 ≤ C j ∧ C j ≤ M) (k : Nat) (hk : k ≤ 7) : 0 ≤ gotTo C b k ∧ gotTo C b k ≤ M + M * k := by
  induction k with
  | zero => simp [gotTo]; omega
  | succ k ih =>
    have := ih (by omega)
    have e : M * ((k + 1 : Nat) : Int) = M * k + M := by rw [Int.natCast_add, Int.mul_add]; simp
    rw [e]
    unfold gotTo
    by_cases k0 : k = 0
    · rw [if_pos k0]; omega
    · rw [if_neg k0]
      have := h k (by omega) (by omega)
      omega
theorem gotTo_all (C : Nat → Int) (b : Int) : gotTo C b 7 = C 1 + C 2 + C 3 + C 4 + C 5 + C 6 + b := by
  simp [gotTo]
  omega
theorem Below.setCells {B : Nat} {a w : World} (h : Below B a w) (b : Nat) (hb : B ≤ b) (o : Nat) (xs : List Value) : Below B a (w.setCells b o xs) := by
  induction xs generalizing w o with
  | nil => exact h
  | cons x xs ih => exact ih (h.setCell (p := ⟨b, o, none⟩) hb x) (o + 1)
theorem wpList_store_whole {P : Program} {ops : Array Oper} {rest : List Oper} {op : Oper} {a : Act} {w : World} {Q : Exit → Act → World → Prop} (hgd : op.guard = none) (ty : TypeId) (x y : Operand) (ho : op.op = .store ty x y)
    (b o : Nat) (cs : List Value) (hx : a.eval x = .pointer (some ⟨b, o, none⟩)) (hy : a.eval y = .agg cs.toArray)
    (ht : w.there b o cs.length) (hi : (P.info? ty).map (·.size) = some cs.length) (h1 : ∀ v ∈ cs, v.oneCell' = true) (B : Nat) (hB : B ≤ b)
    (h : ∀ W, W.rangeAt b o cs → Below B w W → wpList P ops Q rest (a.put op.dst undef) W) : wpList P ops Q (op :: rest) a w :=
  wpList_store_mid hgd ty x y ho b o cs.toArray hx hy (by simpa using ht) (by simpa using hi) (all_oneCell_toArray h1)
    (h _ (by simpa using World.rangeAt_setCells_same w b o cs ht) (Below.setCells (Below.refl _ _) b hB o _))
theorem results_cell {fn : Func} {a : Tmp} {t : TypeId} (h : fn.results = #[.cell a t]) (tmps : Array Value) (P : Program) (w : World) (p : Addr) (v : Value) (hp : tmps.getD a undef = .pointer (some p)) (hl : (loadVar t p).run P w = .ok v w) :
    (results fn tmps).run P w = .ok v w := by
  have hp' : tmps[a]?.getD undef = .pointer (some p) := by simpa using hp
  simp [results, h, hp', asAddr, hl]
def payL (C : Nat → Int) (b m g : Int) : List Value := [.int .i64 0, .int .i64 (C 1), .int .i64 (C 2), .int .i64 (C 3), .int .i64 (C 4), .int .i64 (C 5), .int .i64 (C 6), .int .i64 b, .int .i64 m, .int .i64 g, .int .i64 0]
/-- What lies where, once all is told but makeup and gross. -/
def payF (C : Nat → Int) (b : Int) : Nat → Int := fun j => if 1 ≤ j ∧ j < 7 then C j else if j = 7 then b else 0
theorem payF_none (C : Nat → Int) (b : Int) (hb : b = 0) : upd (upd (upd (upd (upd (upd (fun _ => 0) 1 (C 1)) 2 (C 2)) 3 (C 3)) 4 (C 4)) 5 (C 5)) 6 (C 6) = payF C b := by
  subst hb
  funext j
  unfold upd payF
  by_cases h : j < 8
  · rcases (show j = 0 ∨ j = 1 ∨ j = 2 ∨ j = 3 ∨ j = 4 ∨ j = 5 ∨ j = 6 ∨ j = 7 by omega) with rfl | rfl | rfl | rfl | rfl | rfl | rfl | rfl <;> simp
  · rw [if_neg (by omega), if_neg (by omega), if_neg (by omega), if_neg (by omega), if_neg (by omega), if_neg (by omega), if_neg (by omega), if_neg (by omega)]
theorem payF_some (C : Nat → Int) (b : Int) : upd (upd (upd (upd (upd (upd (upd (fun _ => 0) 1 (C 1)) 2 (C 2)) 3 (C 3)) 4 (C 4)) 5 (C 5)) 6 (C 6)) 7 b = payF C b := by
  funext j
  unfold upd payF
  by_cases h : j < 8
  · rcases (show j = 0 ∨ j = 1 ∨ j = 2 ∨ j = 3 ∨ j = 4 ∨ j = 5 ∨ j = 6 ∨ j = 7 by omega) with rfl | rfl | rfl | rfl | rfl | rfl | rfl | rfl <;> simp
  · rw [if_neg (by omega), if_neg (by omega), if_neg (by omega), if_neg (by omega), if_neg (by omega), if_neg (by omega), if_neg (by omega), if_neg (by omega), if_neg (by omega)]

theorem RefPay.range {w W : World} {s : Setup} {q : Slices} {Y : Nat → Int} {P : Nat} {C : Nat → Int} {b m g : Int} (h : RefPay w W s q Y P (upd (upd (payF C b) 8 m) 9 g)) : W.rangeAt P 0 (payL C b m g) := by
  intro j v hv
  have hj : j < 11 := by simpa [payL] using (List.getElem?_eq_some_iff.1 hv).1
  have hp := h.pay j hj
  rw [Nat.zero_add]
  rw [hp, ← hv]
  rcases (show j = 0 ∨ j = 1 ∨ j = 2 ∨ j = 3 ∨ j = 4 ∨ j = 5 ∨ j = 6 ∨ j = 7 ∨ j = 8 ∨ j = 9 ∨ j = 10 by omega) with rfl | rfl | rfl | rfl | rfl | rfl | rfl | rfl | rfl | rfl | rfl <;> simp [payL, upd, payF]
theorem RefPay.there {w W : World} {s : Setup} {q : Slices} {Y : Nat → Int} {P : Nat} {f : Nat → Int} (h : RefPay w W s q Y P f) : W.there (w.heap.size + 2) 0 11 := by
  intro j hj
  rw [Nat.zero_add]
  exact ⟨by rw [h.res j hj]; rfl, h.rfz j hj⟩
theorem payL_one (C : Nat → Int) (b m g : Int) : ∀ v ∈ payL C b m g, v.oneCell' = true := by
  intro v hv
  simp only [payL, List.mem_cons, List.not_mem_nil, or_false] at hv
  rcases hv with rfl | rfl | rfl | rfl | rfl | rfl | rfl | rfl | rfl | rfl | rfl <;> rfl
theorem pay_size : (Try.prog.info? 38).map (·.size) = some 11 := by kernel_rfl
theorem payL_size (C : Nat → Int) (b m g : Int) : (Try.prog.info? 38).map (·.size) = some (payL C b m g).length := by
  rw [pay_size]; rfl
theorem pay_row : Try.prog.underlying 38 = Try.prog.underlying 38 := rfl


set_option maxRecDepth 100000 in
set_option maxHeartbeats 4000000 in
theorem ref19_Of_pays (s : Setup) (q : Slices) (worker x0 x1 x2 x3 x4 x5 x6 el tier : Int) (w : World) (h : SetupIs w s q) (hc : setupP s = true) (hw : 0 ≤ worker ∧ worker < s.rates.length) (rate : Int) (C : Nat → Int) (b m g : Int) (hrt : s.rates.getD worker.toNat 0 = rate) (hC : ∀ j : Nat, j < 7 → centP rate s.diff j ([x0, x1, x2, x3, x4, x5, x6].getD j 0) = C j) (hrate : 0 ≤ rate ∧ rate ≤ 100000) (hdiff : 0 ≤ s.diff ∧ s.diff ≤ 100000) (hleast : 0 ≤ s.least ∧ s.least ≤ 100000) (htiers : ∀ t ∈ s.tiers, 0 ≤ t.2 ∧ t.2 ≤ 100000) (hbn : (if 0 ≤ tier ∧ tier < s.tiers.length then (halfP (secP el * (s.tiers.getD tier.toNat (0, 0)).2) 3600).1 else 0) = b) (hmn : moreP (upP (paidTo (fun j => [x0, x1, x2, x3, x4, x5, x6].getD j 0) 7 * s.least) 3600).1 (C 1 + C 2 + C 3 + C 4 + C 5 + C 6 + b) = m) (hgn : C 1 + C 2 + C 3 + C 4 + C 5 + C 6 + b + m = g) :
    Calls Try.prog 17 #[.agg #[.int .i64 s.places, .slice q.wa q.wl q.wc, .int .i64 s.pn, .int .i64 s.pd, .slice q.ea q.el q.ec, .slice q.ca q.cl q.cc, .slice q.ga q.gl q.gc, .int .i64 s.allow, .int .i64 s.unit, .int .i64 s.cap, .int .i64 s.paidBreak, .int .i64 s.autoAfter, .int .i64 s.autoBreak, .int .i64 s.dayReg, .int .i64 s.dayOver, .int .i64 s.weekReg, .int .i64 s.nightFrom, .int .i64 s.nightTo, .slice q.ra q.rl q.rc, .int .i64 s.diff, .int .i64 s.least, .int .i64 s.fault, .slice q.ta q.tl q.tc], .int .i64 worker, .agg #[.int .i64 x0, .int .i64 x1, .int .i64 x2, .int .i64 x3, .int .i64 x4, .int .i64 x5, .int .i64 x6], .int .i64 el, .int .i64 tier] w fun e w' => e = .returned (.agg #[.int .i64 0, .int .i64 (C 1), .int .i64 (C 2), .int .i64 (C 3), .int .i64 (C 4), .int .i64 (C 5), .int .i64 (C 6), .int .i64 b, .int .i64 m, .int .i64 g, .int .i64 0]) ∧ Below w.heap.size w w' := by
  have HC := Lib.hid hc
  clear hc
  have hl := h.rates.1
  have d0 : decide (worker < 0) = false := by simp; omega
  have d1 : decide ((q.rl : Int) ≤ worker) = false := by simp; omega
  obtain ⟨rb, roff, hra, hrc⟩ := h.rates.2.2.2.resolve_left (by omega)
  have hrc' := hrc worker.toNat (by omega)
  rw [hrt] at hrc'
  have hrb : rb < w.heap.size := World.block_lt_of_cell? w _ hrc'
  obtain ⟨Y, hY⟩ : ∃ Y : Nat → Int, ∀ j, [x0, x1, x2, x3, x4, x5, x6].getD j 0 = Y j := ⟨_, fun _ => rfl⟩
  simp only [hY] at hC
  rw [show (fun j => [x0, x1, x2, x3, x4, x5, x6].getD j 0) = Y from funext hY] at hmn
  obtain ⟨L, eL, hup⟩ : ∃ L eL, upP (paidTo Y 7 * s.least) 3600 = (L, eL) := ⟨_, _, rfl⟩
  have hp7 := paidTo_range Y 7
  have hpl := mul_range hp7 hleast
  have hLr := up_range hpl
  rw [hup] at hmn hLr
  have hbr0 : 0 ≤ b ∧ b ≤ 362880000001 := by
    rw [← hbn]
    split
    · rename_i hcnd
      have := half_range (b := 3600) (mul_range (secP_range el) (htiers (s.tiers.getD tier.toNat (0, 0)) (getD_mem2 (by omega)))) (by decide)
      omega
    · omega
  have hcr : ∀ j : Nat, 1 ≤ j → j < 7 → 0 ≤ C j ∧ C j ≤ 362880000001 := fun j _ hj => by rw [← hC j hj]; exact centP_range hrate hdiff hj
  have hr4 : 0 ≤ rate + s.diff ∧ rate + s.diff ≤ 600000 := by omega
  have hr5 : 0 ≤ rate * 3 + s.diff * 2 ∧ rate * 3 + s.diff * 2 ≤ 600000 := by omega
  have hr6 : 0 ≤ rate * 2 + s.diff ∧ rate * 2 + s.diff ≤ 600000 := by omega
  obtain ⟨t1, ht1⟩ : ∃ t, secP (Y 1) = t := ⟨_, rfl⟩
  have m1 := mul_range (show 0 ≤ t1 ∧ t1 ≤ 604800 from ht1 ▸ secP_range (Y 1)) hrate
  have hh1 := (cent1 rate s.diff (Y 1) t1 ht1).trans (hC 1 (by decide))
  have T1 := Lib.hid ht1
  have K1 := Lib.hid hh1
  clear ht1 hh1
  obtain ⟨t2, ht2⟩ : ∃ t, secP (Y 2) = t := ⟨_, rfl⟩
  have m2 := mul_range (show 0 ≤ t2 ∧ t2 ≤ 604800 from ht2 ▸ secP_range (Y 2)) hrate
  have hh2 := (cent2 rate s.diff (Y 2) t2 ht2).trans (hC 2 (by decide))
  have T2 := Lib.hid ht2
  have K2 := Lib.hid hh2
  clear ht2 hh2
  obtain ⟨t3, ht3⟩ : ∃ t, secP (Y 3) = t := ⟨_, rfl⟩
  have m3 := mul_range (show 0 ≤ t3 ∧ t3 ≤ 604800 from ht3 ▸ secP_range (Y 3)) hrate
  have hh3 := (cent3 rate s.diff (Y 3) t3 ht3).trans (hC 3 (by decide))
  have T3 := Lib.hid ht3
  have K3 := Lib.hid hh3
  clear ht3 hh3
  obtain ⟨t4, ht4⟩ : ∃ t, secP (Y 4) = t := ⟨_, rfl⟩
  have m4 := mul_range (show 0 ≤ t4 ∧ t4 ≤ 604800 from ht4 ▸ secP_range (Y 4)) hr4
  have hh4 := (cent4 rate s.diff (Y 4) t4 ht4).trans (hC 4 (by decide))
  have T4 := Lib.hid ht4
  have K4 := Lib.hid hh4
  clear ht4 hh4
  obtain ⟨t5, ht5⟩ : ∃ t, secP (Y 5) = t := ⟨_, rfl⟩
  have m5 := mul_range (show 0 ≤ t5 ∧ t5 ≤ 604800 from ht5 ▸ secP_range (Y 5)) hr5
  have hh5 := (cent5 rate s.diff (Y 5) t5 ht5).trans (hC 5 (by decide))
  have T5 := Lib.hid ht5
  have K5 := Lib.hid hh5
  clear ht5 hh5
  obtain ⟨t6, ht6⟩ : ∃ t, secP (Y 6) = t := ⟨_, rfl⟩
  have m6 := mul_range (show 0 ≤ t6 ∧ t6 ≤ 604800 from ht6 ▸ secP_range (Y 6)) hr6
  have hh6 := (cent6 rate s.diff (Y 6) t6 ht6).trans (hC 6 (by decide))
  have T6 := Lib.hid ht6
  have K6 := Lib.hid hh6
  clear ht6 hh6
  have i4a : IntKind.i64.wrap (rate + s.diff) = rate + s.diff := IntWalk.i64_in _ (by omega)
  have i5a : IntKind.i64.wrap (rate * 3) = rate * 3 := IntWalk.i64_in _ (by omega)
  have i5b : IntKind.i64.wrap (s.diff * 2) = s.diff * 2 := IntWalk.i64_in _ (by omega)
  have i5c : IntKind.i64.wrap (rate * 3 + s.diff * 2) = rate * 3 + s.diff * 2 := IntWalk.i64_in _ (by omega)
  have i6a : IntKind.i64.wrap (rate * 2) = rate * 2 := IntWalk.i64_in _ (by omega)
  have i6b : IntKind.i64.wrap (rate * 2 + s.diff) = rate * 2 + s.diff := IntWalk.i64_in _ (by omega)
  have i4 : IntKind.i64.wrap (t4 * (rate + s.diff)) = t4 * (rate + s.diff) := IntWalk.i64_in _ (by omega)
  have i5 : IntKind.i64.wrap (t5 * (rate * 3 + s.diff * 2)) = t5 * (rate * 3 + s.diff * 2) := IntWalk.i64_in _ (by omega)
  have i6 : IntKind.i64.wrap (t6 * (rate * 2 + s.diff)) = t6 * (rate * 2 + s.diff) := IntWalk.i64_in _ (by omega)
  have HUP := Lib.hid hup
  have HB := Lib.hid hbn
  have HM := Lib.hid hmn
  have HG := Lib.hid hgn
  have HTI := Lib.hid htiers
  have HY := Lib.hid hY
  have HCC := Lib.hid hC
  have HCR := Lib.hid hcr
  have HRC := Lib.hid hrc'
  have HRA := Lib.hid hra
  clear hup hbn hmn hgn htiers hrc hrc' hrt hC hY hra hcr
  have hb0 : (((w.alloc (.cells #[.int .i64 s.places, .slice q.wa q.wl q.wc, .int .i64 s.pn, .int .i64 s.pd, .slice q.ea q.el q.ec, .slice q.ca q.cl q.cc, .slice q.ga q.gl q.gc, .int .i64 s.allow, .int .i64 s.unit, .int .i64 s.cap, .int .i64 s.paidBreak, .int .i64 s.autoAfter, .int .i64 s.autoBreak, .int .i64 s.dayReg, .int .i64 s.dayOver, .int .i64 s.weekReg, .int .i64 s.nightFrom, .int .i64 s.nightTo, .slice q.ra q.rl q.rc, .int .i64 s.diff, .int .i64 s.least, .int .i64 s.fault, .slice q.ta q.tl q.tc] 30)).alloc (.cells #[.int .i64 x0, .int .i64 x1, .int .i64 x2, .int .i64 x3, .int .i64 x4, .int .i64 x5, .int .i64 x6] 31)).alloc (.cells #[.int .i64 0, .int .i64 0, .int .i64 0, .int .i64 0, .int .i64 0, .int .i64 0, .int .i64 0, .int .i64 0, .int .i64 0, .int .i64 0, .int .i64 0] 38)).heap[w.heap.size]? = some (.cells #[.int .i64 s.places, .slice q.wa q.wl q.wc, .int .i64 s.pn, .int .i64 s.pd, .slice q.ea q.el q.ec, .slice q.ca q.cl q.cc, .slice q.ga q.gl q.gc, .int .i64 s.allow, .int .i64 s.unit, .int .i64 s.cap, .int .i64 s.paidBreak, .int .i64 s.autoAfter, .int .i64 s.autoBreak, .int .i64 s.dayReg, .int .i64 s.dayOver, .int .i64 s.weekReg, .int .i64 s.nightFrom, .int .i64 s.nightTo, .slice q.ra q.rl q.rc, .int .i64 s.diff, .int .i64 s.least, .int .i64 s.fault, .slice q.ta q.tl q.tc] 30) := box_keep (B := w.heap.size + 1) (by go_grown) (box_new w _ rfl _ _) (by omega)
  go_enter Try.func17, Try.ntmps17
  go_wp2_with (refine wpList_load_box 30 (.tmp 5) rfl rfl w.heap.size rfl 30 #[.int .i64 s.places, .slice q.wa q.wl q.wc, .int .i64 s.pn, .int .i64 s.pd, .slice q.ea q.el q.ec, .slice q.ca q.cl q.cc, .slice q.ga q.gl q.gc, .int .i64 s.allow, .int .i64 s.unit, .int .i64 s.cap, .int .i64 s.paidBreak, .int .i64 s.autoAfter, .int .i64 s.autoBreak, .int .i64 s.dayReg, .int .i64 s.dayOver, .int .i64 s.weekReg, .int .i64 s.nightFrom, .int .i64 s.nightTo, .slice q.ra q.rl q.rc, .int .i64 s.diff, .int .i64 s.least, .int .i64 s.fault, .slice q.ta q.tl q.tc] hb0 setup_big ?_)
  refine (ref7_Check s q true _ (h.below (by go_grown)) HC.out).mono ?_
  rintro e w1 ⟨rfl, k1⟩
  have B1 : Below (w.heap.size + 3) (((w.alloc (.cells #[.int .i64 s.places, .slice q.wa q.wl q.wc, .int .i64 s.pn, .int .i64 s.pd, .slice q.ea q.el q.ec, .slice q.ca q.cl q.cc, .slice q.ga q.gl q.gc, .int .i64 s.allow, .int .i64 s.unit, .int .i64 s.cap, .int .i64 s.paidBreak, .int .i64 s.autoAfter, .int .i64 s.autoBreak, .int .i64 s.dayReg, .int .i64 s.dayOver, .int .i64 s.weekReg, .int .i64 s.nightFrom, .int .i64 s.nightTo, .slice q.ra q.rl q.rc, .int .i64 s.diff, .int .i64 s.least, .int .i64 s.fault, .slice q.ta q.tl q.tc] 30)).alloc (.cells #[.int .i64 x0, .int .i64 x1, .int .i64 x2, .int .i64 x3, .int .i64 x4, .int .i64 x5, .int .i64 x6] 31)).alloc (.cells #[.int .i64 0, .int .i64 0, .int .i64 0, .int .i64 0, .int .i64 0, .int .i64 0, .int .i64 0, .int .i64 0, .int .i64 0, .int .i64 0, .int .i64 0] 38)) w1 := k1.mono (by simp)
  clear k1 hb0
  obtain ⟨hc1, hf1⟩ := old_cells B1
  have z1 : w.heap.size + 3 ≤ w1.heap.size := by have := B1.size; simpa using this
  have Bw1 : Below w.heap.size w w1 := Below.trans (by go_grown) (B1.mono (by omega))
  have c18 : w1.cell? ⟨w.heap.size, 18, none⟩ = some (.slice q.ra q.rl q.rc) := by rw [hc1 _ _ (by omega)]; simp [go_sem]
  rw [HRA.out] at c18
  have c19 : w1.cell? ⟨w.heap.size, 19, none⟩ = some (.int .i64 s.diff) := by rw [hc1 _ _ (by omega)]; simp [go_sem]
  have c20 : w1.cell? ⟨w.heap.size, 20, none⟩ = some (.int .i64 s.least) := by rw [hc1 _ _ (by omega)]; simp [go_sem]
  have c22 : w1.cell? ⟨w.heap.size, 22, none⟩ = some (.slice q.ta q.tl q.tc) := by rw [hc1 _ _ (by omega)]; simp [go_sem]
  have crt : w1.cell? ⟨rb, roff + worker.toNat, none⟩ = some (.int .i64 rate) := keepC Bw1 HRC.out hrb
  have cx : ∀ j : Nat, j < 7 → w1.cell? ⟨w.heap.size + 1, j, none⟩ = some (.int .i64 ([x0, x1, x2, x3, x4, x5, x6].getD j 0)) := by
    intro j hj
    rw [hc1 _ _ (by omega)]
    rcases (show j = 0 ∨ j = 1 ∨ j = 2 ∨ j = 3 ∨ j = 4 ∨ j = 5 ∨ j = 6 by omega) with rfl | rfl | rfl | rfl | rfl | rfl | rfl <;> simp [go_sem]
  have cc : ∀ j : Nat, j < 11 → w1.cell? ⟨w.heap.size + 2, j, none⟩ = some (.int .i64 0) := by
    intro j hj
    rw [hc1 _ _ (by omega)]
    rcases (show j = 0 ∨ j = 1 ∨ j = 2 ∨ j = 3 ∨ j = 4 ∨ j = 5 ∨ j = 6 ∨ j = 7 ∨ j = 8 ∨ j = 9 ∨ j = 10 by omega) with rfl | rfl | rfl | rfl | rfl | rfl | rfl | rfl | rfl | rfl | rfl <;> simp [go_sem]
  have cf : ∀ j : Nat, j < 11 → w1.frozen? ⟨w.heap.size + 2, j, none⟩ = false := by
    intro j hj
    rw [hf1 _ _ (by omega)]
    rcases (show j = 0 ∨ j = 1 ∨ j = 2 ∨ j = 3 ∨ j = 4 ∨ j = 5 ∨ j = 6 ∨ j = 7 ∨ j = 8 ∨ j = 9 ∨ j = 10 by omega) with rfl | rfl | rfl | rfl | rfl | rfl | rfl | rfl | rfl | rfl | rfl <;> simp [go_sem]
  clear hc1 hf1 B1
  simp only [HY.out] at cx
  have x1 := cx 1 (by decide)
  have x2 := cx 2 (by decide)
  have x3 := cx 3 (by decide)
  have HS0 := Lib.hid (RefPay.start 38 (C 1) (C 2) (C 3) Bw1 z1 cx c19 c20 c22 cc cf)
  clear cx cc cf c19 c20 c22
  have zl0 : w.heap.size < w1.heap.size := by omega
  have zl1 : w.heap.size + 1 < w1.heap.size := by omega
  have zl2 : w.heap.size + 2 < w1.heap.size := by omega
  have nb1 : ¬ w1.heap.size = w.heap.size + 1 := by omega
  have nb2 : ¬ w.heap.size + 1 = w1.heap.size := by omega
  have ri : (0 : Int) ≤ worker := hw.1
  have ri2 : worker < (q.rl : Int) := by omega
  have hrb1 : rb < w1.heap.size := by omega
  go_wp2_with fail
  refine (ref19_time _ _ _ T1.out).mono ?_
  rintro e w2 ⟨rfl, rfl⟩
  go_wp2_with fail
  refine (ref19_near _ _ _ _ (by unfold In; omega) (by decide) K1.out).mono ?_
  rintro e w2 ⟨rfl, rfl⟩
  go_wp2_with fail
  refine (ref19_time _ _ _ T2.out).mono ?_
  rintro e w2 ⟨rfl, rfl⟩
  go_wp2_with fail
  refine (ref19_near _ _ _ _ (by unfold In; omega) (by decide) K2.out).mono ?_
  rintro e w2 ⟨rfl, rfl⟩
  go_wp2_with fail
  refine (ref19_time _ _ _ T3.out).mono ?_
  rintro e w2 ⟨rfl, rfl⟩
  go_wp2_with fail
  refine (ref19_near _ _ _ _ (by unfold In; omega) (by decide) K3.out).mono ?_
  rintro e w2 ⟨rfl, rfl⟩
  go_wp2_with fail
  refine gen_wp (S := fun W => RefPay w W s q Y w1.heap.size (upd (upd (upd (fun _ => 0) 1 (C 1)) 2 (C 2)) 3 (C 3))) HS0.out (fun W3 hW => ?_)
  clear x1 x2 x3 HS0 crt c18 T1 T2 T3 K1 K2 K3 HRA HRC hrb m1 m2 m3 d0 d1 Bw1 ri ri2 hrb1 z1 hl
  have xj := hW.sec 4 (by decide)
  have cd := hW.diff
  have pj := hW.pay 4 (by decide)
  have fj := hW.fz 4 (by decide)
  have lo := hW.lt
  have HW := Lib.hid hW
  clear hW
  refine wp_region_held_drew (S := (fun w' => w'.cell? ⟨w.heap.size + 1, 4, none⟩ = some (.int .i64 (Y 4)) ∧ w'.cell? ⟨w.heap.size, 19, none⟩ = some (.int .i64 s.diff))) (by kernel_rfl) ?_ (fun hHeld => ?_)
  · exact ⟨xj, cd⟩
  refine wpAnyH_take (i := 0) (oi := ⟨some 65, _, _, _, _, none⟩) (v := ?_) rfl (by kernel_rfl) (by kernel_rfl) (by kernel_rfl) (fun _ _ _ h => h) (Or.inl ⟨by rfl, ?_⟩) (by assumption) ?_
  rotate_left
  · intro wz hSw; (try dsimp only at hSw); go_simp; (try with_reducible rfl)
  try simp only [Act.put, List.setIfInBounds_toArray, List.set_cons_zero, List.set_cons_succ]
  refine wpAnyH_take (i := 1) (oi := ⟨some 66, _, _, _, _, none⟩) (v := ?_) rfl (by kernel_rfl) (by kernel_rfl) (by kernel_rfl) (fun _ _ _ h => h) (Or.inl ⟨by rfl, ?_⟩) (by assumption) ?_
  rotate_left
  · intro wz hSw; (try dsimp only at hSw); go_simp; (try with_reducible rfl)
  try simp only [Act.put, List.setIfInBounds_toArray, List.set_cons_zero, List.set_cons_succ]
  refine wpAnyH_take (i := 3) (oi := ⟨some 68, _, _, _, _, none⟩) (v := ?_) rfl (by kernel_rfl) (by kernel_rfl) (by kernel_rfl) (fun _ _ _ h => h) (Or.inl ⟨by rfl, ?_⟩) (by assumption) ?_
  rotate_left
  · intro wz hSw; (try dsimp only at hSw); go_simp; (try with_reducible rfl)
  try simp only [Act.put, List.setIfInBounds_toArray, List.set_cons_zero, List.set_cons_succ]
  refine wpAnyH_take (i := 4) (oi := ⟨some 69, _, _, _, _, none⟩) (v := ?_) rfl (by kernel_rfl) (by kernel_rfl) (by kernel_rfl) (fun _ _ _ h => h) (Or.inl ⟨by rfl, ?_⟩) (by assumption) ?_
  rotate_left
  · intro wz hSw; (try dsimp only at hSw); go_simp; (try with_reducible rfl)
  try simp only [Act.put, List.setIfInBounds_toArray, List.set_cons_zero, List.set_cons_succ]
  refine wpAnyH_take (i := 5) (oi := ⟨some 70, _, _, _, _, none⟩) (v := ?_) rfl (by kernel_rfl) (by kernel_rfl) (by kernel_rfl) (fun _ _ _ h => h) (Or.inl ⟨by rfl, ?_⟩) (by assumption) ?_
  rotate_left
  · intro wz hSw; (try dsimp only at hSw); go_simp; (try with_reducible rfl)
  try simp only [Act.put, List.setIfInBounds_toArray, List.set_cons_zero, List.set_cons_succ]
  refine wpAnyH_take (i := 6) (oi := ⟨some 71, _, _, _, _, none⟩) (v := ?_) rfl (by kernel_rfl) (by kernel_rfl) (by kernel_rfl) (fun _ _ _ h => h) (Or.inl ⟨by rfl, ?_⟩) (by assumption) ?_
  rotate_left
  · intro wz hSw; (try dsimp only at hSw); go_simp; (try with_reducible rfl)
  try simp only [Act.put, List.setIfInBounds_toArray, List.set_cons_zero, List.set_cons_succ]
  refine wpAnyH_take (i := 9) (oi := ⟨some 74, _, _, _, _, none⟩) (v := ?_) rfl (by kernel_rfl) (by kernel_rfl) (by kernel_rfl) (fun _ _ _ h => h) (Or.inl ⟨by rfl, ?_⟩) (by assumption) ?_
  rotate_left
  · intro wz hSw; (try dsimp only at hSw); go_simp; (try with_reducible rfl)
  try simp only [Act.put, List.setIfInBounds_toArray, List.set_cons_zero, List.set_cons_succ]
  refine wpAnyH_ready (rs := [2]) (by kernel_rfl) (by simp) ?_
  refine AllReadyH.cons (o := ⟨some 67, _, _, _, _, none⟩) rfl (fun K hK => ?_) AllReadyH.nil
  go_simp
  refine (ref19_time _ _ _ T4.out).mono ?_
  rintro e w2 ⟨rfl, rfl⟩
  refine hK.out _ _ ?_ (fun hHeld => ?_)
  · exact ⟨xj, cd⟩
  clear hK K
  try simp only [Act.put, List.setIfInBounds_toArray, List.set_cons_zero, List.set_cons_succ]
  refine wpAnyH_take (i := 7) (oi := ⟨some 72, _, _, _, _, none⟩) (v := ?_) rfl (by kernel_rfl) (by kernel_rfl) (by kernel_rfl) (fun _ _ _ h => h) (Or.inl ⟨by rfl, ?_⟩) (by assumption) ?_
  rotate_left
  · intro wz hSw; (try dsimp only at hSw); go_simp; (try with_reducible rfl)
  try simp only [Act.put, List.setIfInBounds_toArray, List.set_cons_zero, List.set_cons_succ]
  refine wpAnyH_ready (rs := [8]) (by kernel_rfl) (by simp) ?_
  refine AllReadyH.cons (o := ⟨some 73, _, _, _, _, none⟩) rfl (fun K hK => ?_) AllReadyH.nil
  go_simp
  refine (ref19_near _ _ _ _ (by unfold In; omega) (by decide) K4.out).mono ?_
  rintro e w2 ⟨rfl, rfl⟩
  refine hK.out _ _ ?_ (fun hHeld => ?_)
  · exact ⟨xj, cd⟩
  clear hK K
  try simp only [Act.put, List.setIfInBounds_toArray, List.set_cons_zero, List.set_cons_succ]
  refine wpAnyH_take (i := 10) (oi := ⟨some 75, _, _, _, _, none⟩) (v := ?_) rfl (by kernel_rfl) (by kernel_rfl) (by kernel_rfl) (fun _ _ _ h => h) (Or.inl ⟨by rfl, ?_⟩) (by assumption) ?_
  rotate_left
  · intro wz hSw; (try dsimp only at hSw); go_simp; (try with_reducible rfl)
  try simp only [Act.put, List.setIfInBounds_toArray, List.set_cons_zero, List.set_cons_succ]
  refine wpAnyH_ready (rs := [11]) (by kernel_rfl) (by simp) ?_
  refine AllReadyH.cons (o := ⟨none, _, _, _, _, none⟩) rfl (fun K hK => ?_) AllReadyH.nil
  have k5 : Below w1.heap.size W3.drew (W3.drew.setCell ⟨w1.heap.size, 4, none⟩ (.int .i64 (C 4))) := by go_grown
  go_simp
  refine hK.out _ _ ?_ (fun hHeld => ?_)
  · exact ⟨keepC k5 xj (by simp only; omega), keepC k5 cd (by simp only; omega)⟩
  clear hK K
  try simp only [Act.put, List.setIfInBounds_toArray, List.set_cons_zero, List.set_cons_succ]
  refine wpAnyH_done (by kernel_rfl) ?_ _
  go_wp2_with fail
  refine gen_wp (S := fun W => RefPay w W s q Y w1.heap.size (upd (upd (upd (upd (fun _ => 0) 1 (C 1)) 2 (C 2)) 3 (C 3)) 4 (C 4))) (HW.out.drew.set 4 (C 4) (by decide)) (fun W4 hW => ?_)
  clear HW xj cd pj fj lo T4 K4 k5
  have xj := hW.sec 5 (by decide)
  have cd := hW.diff
  have pj := hW.pay 5 (by decide)
  have fj := hW.fz 5 (by decide)
  have lo := hW.lt
  have HW := Lib.hid hW
  clear hW
  refine wp_region_held_drew (S := (fun w' => w'.cell? ⟨w.heap.size + 1, 5, none⟩ = some (.int .i64 (Y 5)) ∧ w'.cell? ⟨w.heap.size, 19, none⟩ = some (.int .i64 s.diff))) (by kernel_rfl) ?_ (fun hHeld => ?_)
  · exact ⟨xj, cd⟩
  refine wpAnyH_take (i := 0) (oi := ⟨some 76, _, _, _, _, none⟩) (v := ?_) rfl (by kernel_rfl) (by kernel_rfl) (by kernel_rfl) (fun _ _ _ h => h) (Or.inl ⟨by rfl, ?_⟩) (by assumption) ?_
  rotate_left
  · intro wz hSw; (try dsimp only at hSw); go_simp; (try with_reducible rfl)
  try simp only [Act.put, List.setIfInBounds_toArray, List.set_cons_zero, List.set_cons_succ]
  refine wpAnyH_take (i := 1) (oi := ⟨some 77, _, _, _, _, none⟩) (v := ?_) rfl (by kernel_rfl) (by kernel_rfl) (by kernel_rfl) (fun _ _ _ h => h) (Or.inl ⟨by rfl, ?_⟩) (by assumption) ?_
  rotate_left
  · intro wz hSw; (try dsimp only at hSw); go_simp; (try with_reducible rfl)
  try simp only [Act.put, List.setIfInBounds_toArray, List.set_cons_zero, List.set_cons_succ]
  refine wpAnyH_take (i := 3) (oi := ⟨some 79, _, _, _, _, none⟩) (v := ?_) rfl (by kernel_rfl) (by kernel_rfl) (by kernel_rfl) (fun _ _ _ h => h) (Or.inl ⟨by rfl, ?_⟩) (by assumption) ?_
  rotate_left
  · intro wz hSw; (try dsimp only at hSw); go_simp; (try with_reducible rfl)
  try simp only [Act.put, List.setIfInBounds_toArray, List.set_cons_zero, List.set_cons_succ]
  refine wpAnyH_take (i := 4) (oi := ⟨some 80, _, _, _, _, none⟩) (v := ?_) rfl (by kernel_rfl) (by kernel_rfl) (by kernel_rfl) (fun _ _ _ h => h) (Or.inl ⟨by rfl, ?_⟩) (by assumption) ?_
  rotate_left
  · intro wz hSw; (try dsimp only at hSw); go_simp; (try with_reducible rfl)
  try simp only [Act.put, List.setIfInBounds_toArray, List.set_cons_zero, List.set_cons_succ]
  refine wpAnyH_take (i := 5) (oi := ⟨some 81, _, _, _, _, none⟩) (v := ?_) rfl (by kernel_rfl) (by kernel_rfl) (by kernel_rfl) (fun _ _ _ h => h) (Or.inl ⟨by rfl, ?_⟩) (by assumption) ?_
  rotate_left
  · intro wz hSw; (try dsimp only at hSw); go_simp; (try with_reducible rfl)
  try simp only [Act.put, List.setIfInBounds_toArray, List.set_cons_zero, List.set_cons_succ]
  refine wpAnyH_take (i := 6) (oi := ⟨some 82, _, _, _, _, none⟩) (v := ?_) rfl (by kernel_rfl) (by kernel_rfl) (by kernel_rfl) (fun _ _ _ h => h) (Or.inl ⟨by rfl, ?_⟩) (by assumption) ?_
  rotate_left
  · intro wz hSw; (try dsimp only at hSw); go_simp; (try with_reducible rfl)
  try simp only [Act.put, List.setIfInBounds_toArray, List.set_cons_zero, List.set_cons_succ]
  refine wpAnyH_take (i := 7) (oi := ⟨some 83, _, _, _, _, none⟩) (v := ?_) rfl (by kernel_rfl) (by kernel_rfl) (by kernel_rfl) (fun _ _ _ h => h) (Or.inl ⟨by rfl, ?_⟩) (by assumption) ?_
  rotate_left
  · intro wz hSw; (try dsimp only at hSw); go_simp; (try with_reducible rfl)
  try simp only [Act.put, List.setIfInBounds_toArray, List.set_cons_zero, List.set_cons_succ]
  refine wpAnyH_take (i := 8) (oi := ⟨some 84, _, _, _, _, none⟩) (v := ?_) rfl (by kernel_rfl) (by kernel_rfl) (by kernel_rfl) (fun _ _ _ h => h) (Or.inl ⟨by rfl, ?_⟩) (by assumption) ?_
  rotate_left
  · intro wz hSw; (try dsimp only at hSw); go_simp; (try with_reducible rfl)
  try simp only [Act.put, List.setIfInBounds_toArray, List.set_cons_zero, List.set_cons_succ]
  refine wpAnyH_take (i := 11) (oi := ⟨some 87, _, _, _, _, none⟩) (v := ?_) rfl (by kernel_rfl) (by kernel_rfl) (by kernel_rfl) (fun _ _ _ h => h) (Or.inl ⟨by rfl, ?_⟩) (by assumption) ?_
  rotate_left
  · intro wz hSw; (try dsimp only at hSw); go_simp; (try with_reducible rfl)
  try simp only [Act.put, List.setIfInBounds_toArray, List.set_cons_zero, List.set_cons_succ]
  refine wpAnyH_ready (rs := [2]) (by kernel_rfl) (by simp) ?_
  refine AllReadyH.cons (o := ⟨some 78, _, _, _, _, none⟩) rfl (fun K hK => ?_) AllReadyH.nil
  go_simp
  refine (ref19_time _ _ _ T5.out).mono ?_
  rintro e w2 ⟨rfl, rfl⟩
  refine hK.out _ _ ?_ (fun hHeld => ?_)
  · exact ⟨xj, cd⟩
  clear hK K
  try simp only [Act.put, List.setIfInBounds_toArray, List.set_cons_zero, List.set_cons_succ]
  refine wpAnyH_take (i := 9) (oi := ⟨some 85, _, _, _, _, none⟩) (v := ?_) rfl (by kernel_rfl) (by kernel_rfl) (by kernel_rfl) (fun _ _ _ h => h) (Or.inl ⟨by rfl, ?_⟩) (by assumption) ?_
  rotate_left
  · intro wz hSw; (try dsimp only at hSw); go_simp; (try with_reducible rfl)
  try simp only [Act.put, List.setIfInBounds_toArray, List.set_cons_zero, List.set_cons_succ]
  refine wpAnyH_ready (rs := [10]) (by kernel_rfl) (by simp) ?_
  refine AllReadyH.cons (o := ⟨some 86, _, _, _, _, none⟩) rfl (fun K hK => ?_) AllReadyH.nil
  go_simp
  refine (ref19_near _ _ _ _ (by unfold In; omega) (by decide) K5.out).mono ?_
  rintro e w2 ⟨rfl, rfl⟩
  refine hK.out _ _ ?_ (fun hHeld => ?_)
  · exact ⟨xj, cd⟩
  clear hK K
  try simp only [Act.put, List.setIfInBounds_toArray, List.set_cons_zero, List.set_cons_succ]
  refine wpAnyH_take (i := 12) (oi := ⟨some 88, _, _, _, _, none⟩) (v := ?_) rfl (by kernel_rfl) (by kernel_rfl) (by kernel_rfl) (fun _ _ _ h => h) (Or.inl ⟨by rfl, ?_⟩) (by assumption) ?_
  rotate_left
  · intro wz hSw; (try dsimp only at hSw); go_simp; (try with_reducible rfl)
  try simp only [Act.put, List.setIfInBounds_toArray, List.set_cons_zero, List.set_cons_succ]
  refine wpAnyH_ready (rs := [13]) (by kernel_rfl) (by simp) ?_
  refine AllReadyH.cons (o := ⟨none, _, _, _, _, none⟩) rfl (fun K hK => ?_) AllReadyH.nil
  have k5 : Below w1.heap.size W4.drew (W4.drew.setCell ⟨w1.heap.size, 5, none⟩ (.int .i64 (C 5))) := by go_grown
  go_simp
  refine hK.out _ _ ?_ (fun hHeld => ?_)
  · exact ⟨keepC k5 xj (by simp only; omega), keepC k5 cd (by simp only; omega)⟩
  clear hK K
  try simp only [Act.put, List.setIfInBounds_toArray, List.set_cons_zero, List.set_cons_succ]
  refine wpAnyH_done (by kernel_rfl) ?_ _
  go_wp2_with fail
  refine gen_wp (S := fun W => RefPay w W s q Y w1.heap.size (upd (upd (upd (upd (upd (fun _ => 0) 1 (C 1)) 2 (C 2)) 3 (C 3)) 4 (C 4)) 5 (C 5))) (HW.out.drew.set 5 (C 5) (by decide)) (fun W5 hW => ?_)
  clear HW xj cd pj fj lo T5 K5 k5
  have xj := hW.sec 6 (by decide)
  have cd := hW.diff
  have pj := hW.pay 6 (by decide)
  have fj := hW.fz 6 (by decide)
  have lo := hW.lt
  have HW := Lib.hid hW
  clear hW
  refine wp_region_held_drew (S := (fun w' => w'.cell? ⟨w.heap.size + 1, 6, none⟩ = some (.int .i64 (Y 6)) ∧ w'.cell? ⟨w.heap.size, 19, none⟩ = some (.int .i64 s.diff))) (by kernel_rfl) ?_ (fun hHeld => ?_)
  · exact ⟨xj, cd⟩
  refine wpAnyH_take (i := 0) (oi := ⟨some 89, _, _, _, _, none⟩) (v := ?_) rfl (by kernel_rfl) (by kernel_rfl) (by kernel_rfl) (fun _ _ _ h => h) (Or.inl ⟨by rfl, ?_⟩) (by assumption) ?_
  rotate_left
  · intro wz hSw; (try dsimp only at hSw); go_simp; (try with_reducible rfl)
  try simp only [Act.put, List.setIfInBounds_toArray, List.set_cons_zero, List.set_cons_succ]
  refine wpAnyH_take (i := 1) (oi := ⟨some 90, _, _, _, _, none⟩) (v := ?_) rfl (by kernel_rfl) (by kernel_rfl) (by kernel_rfl) (fun _ _ _ h => h) (Or.inl ⟨by rfl, ?_⟩) (by assumption) ?_
  rotate_left
  · intro wz hSw; (try dsimp only at hSw); go_simp; (try with_reducible rfl)
  try simp only [Act.put, List.setIfInBounds_toArray, List.set_cons_zero, List.set_cons_succ]
  refine wpAnyH_take (i := 3) (oi := ⟨some 92, _, _, _, _, none⟩) (v := ?_) rfl (by kernel_rfl) (by kernel_rfl) (by kernel_rfl) (fun _ _ _ h => h) (Or.inl ⟨by rfl, ?_⟩) (by assumption) ?_
  rotate_left
  · intro wz hSw; (try dsimp only at hSw); go_simp; (try with_reducible rfl)
  try simp only [Act.put, List.setIfInBounds_toArray, List.set_cons_zero, List.set_cons_succ]
  refine wpAnyH_take (i := 4) (oi := ⟨some 93, _, _, _, _, none⟩) (v := ?_) rfl (by kernel_rfl) (by kernel_rfl) (by kernel_rfl) (fun _ _ _ h => h) (Or.inl ⟨by rfl, ?_⟩) (by assumption) ?_
  rotate_left
  · intro wz hSw; (try dsimp only at hSw); go_simp; (try with_reducible rfl)
  try simp only [Act.put, List.setIfInBounds_toArray, List.set_cons_zero, List.set_cons_succ]
  refine wpAnyH_take (i := 5) (oi := ⟨some 94, _, _, _, _, none⟩) (v := ?_) rfl (by kernel_rfl) (by kernel_rfl) (by kernel_rfl) (fun _ _ _ h => h) (Or.inl ⟨by rfl, ?_⟩) (by assumption) ?_
  rotate_left
  · intro wz hSw; (try dsimp only at hSw); go_simp; (try with_reducible rfl)
  try simp only [Act.put, List.setIfInBounds_toArray, List.set_cons_zero, List.set_cons_succ]
  refine wpAnyH_take (i := 6) (oi := ⟨some 95, _, _, _, _, none⟩) (v := ?_) rfl (by kernel_rfl) (by kernel_rfl) (by kernel_rfl) (fun _ _ _ h => h) (Or.inl ⟨by rfl, ?_⟩) (by assumption) ?_
  rotate_left
  · intro wz hSw; (try dsimp only at hSw); go_simp; (try with_reducible rfl)
  try simp only [Act.put, List.setIfInBounds_toArray, List.set_cons_zero, List.set_cons_succ]
  refine wpAnyH_take (i := 7) (oi := ⟨some 96, _, _, _, _, none⟩) (v := ?_) rfl (by kernel_rfl) (by kernel_rfl) (by kernel_rfl) (fun _ _ _ h => h) (Or.inl ⟨by rfl, ?_⟩) (by assumption) ?_
  rotate_left
  · intro wz hSw; (try dsimp only at hSw); go_simp; (try with_reducible rfl)
  try simp only [Act.put, List.setIfInBounds_toArray, List.set_cons_zero, List.set_cons_succ]
  refine wpAnyH_take (i := 10) (oi := ⟨some 99, _, _, _, _, none⟩) (v := ?_) rfl (by kernel_rfl) (by kernel_rfl) (by kernel_rfl) (fun _ _ _ h => h) (Or.inl ⟨by rfl, ?_⟩) (by assumption) ?_
  rotate_left
  · intro wz hSw; (try dsimp only at hSw); go_simp; (try with_reducible rfl)
  try simp only [Act.put, List.setIfInBounds_toArray, List.set_cons_zero, List.set_cons_succ]
  refine wpAnyH_ready (rs := [2]) (by kernel_rfl) (by simp) ?_
  refine AllReadyH.cons (o := ⟨some 91, _, _, _, _, none⟩) rfl (fun K hK => ?_) AllReadyH.nil
  go_simp
  refine (ref19_time _ _ _ T6.out).mono ?_
  rintro e w2 ⟨rfl, rfl⟩
  refine hK.out _ _ ?_ (fun hHeld => ?_)
  · exact ⟨xj, cd⟩
  clear hK K
  try simp only [Act.put, List.setIfInBounds_toArray, List.set_cons_zero, List.set_cons_succ]
  refine wpAnyH_take (i := 8) (oi := ⟨some 97, _, _, _, _, none⟩) (v := ?_) rfl (by kernel_rfl) (by kernel_rfl) (by kernel_rfl) (fun _ _ _ h => h) (Or.inl ⟨by rfl, ?_⟩) (by assumption) ?_
  rotate_left
  · intro wz hSw; (try dsimp only at hSw); go_simp; (try with_reducible rfl)
  try simp only [Act.put, List.setIfInBounds_toArray, List.set_cons_zero, List.set_cons_succ]
  refine wpAnyH_ready (rs := [9]) (by kernel_rfl) (by simp) ?_
  refine AllReadyH.cons (o := ⟨some 98, _, _, _, _, none⟩) rfl (fun K hK => ?_) AllReadyH.nil
  go_simp
  refine (ref19_near _ _ _ _ (by unfold In; omega) (by decide) K6.out).mono ?_
  rintro e w2 ⟨rfl, rfl⟩
  refine hK.out _ _ ?_ (fun hHeld => ?_)
  · exact ⟨xj, cd⟩
  clear hK K
  try simp only [Act.put, List.setIfInBounds_toArray, List.set_cons_zero, List.set_cons_succ]
  refine wpAnyH_take (i := 11) (oi := ⟨some 100, _, _, _, _, none⟩) (v := ?_) rfl (by kernel_rfl) (by kernel_rfl) (by kernel_rfl) (fun _ _ _ h => h) (Or.inl ⟨by rfl, ?_⟩) (by assumption) ?_
  rotate_left
  · intro wz hSw; (try dsimp only at hSw); go_simp; (try with_reducible rfl)
  try simp only [Act.put, List.setIfInBounds_toArray, List.set_cons_zero, List.set_cons_succ]
  refine wpAnyH_ready (rs := [12]) (by kernel_rfl) (by simp) ?_
  refine AllReadyH.cons (o := ⟨none, _, _, _, _, none⟩) rfl (fun K hK => ?_) AllReadyH.nil
  have k5 : Below w1.heap.size W5.drew (W5.drew.setCell ⟨w1.heap.size, 6, none⟩ (.int .i64 (C 6))) := by go_grown
  go_simp
  refine hK.out _ _ ?_ (fun hHeld => ?_)
  · exact ⟨keepC k5 xj (by simp only; omega), keepC k5 cd (by simp only; omega)⟩
  clear hK K
  try simp only [Act.put, List.setIfInBounds_toArray, List.set_cons_zero, List.set_cons_succ]
  refine wpAnyH_done (by kernel_rfl) ?_ _
  have c22 := HW.out.tiers
  have p70 := HW.out.pay 7 (by decide)
  have HW6 := Lib.hid (HW.out.drew.set 6 (C 6) (by decide))
  have nb5 : ¬ w1.heap.size = w.heap.size := by omega
  have nb6 : ¬ w.heap.size = w1.heap.size := by omega
  clear m4 m5 m6 hr4 hr5 hr6 i4a i5a i5b i5c i6a i6b i4 i5 i6 nb1 nb2 HW xj cd pj fj T6 K6 k5
  simp only [upd] at p70
  simp only [reduceIte, Nat.reduceEqDiff] at p70
  go_step
  go_step
  go_step
  go_cut [] (fun wx => RefPay w wx s q Y w1.heap.size (payF C b))
  case first =>
    by_cases t0 : tier < 0
    · have g0 : decide (0 ≤ tier) = false := by simp; omega
      have b0 : b = 0 := by rw [← HB.out, if_neg (by omega)]
      have B0 := Lib.hid b0
      clear b0
      go_wp2_with fail
      go_meet
      case rel => rw [← payF_none C b B0.out]; exact HW6.out
    · by_cases t1 : tier < q.tl
      · have g0 : decide (0 ≤ tier) = true := by simp; omega
        have htl := h.tiers.1
        obtain ⟨tb, toff, hta, htb, htc⟩ := h.tiers.2.2.2.resolve_left (by omega)
        have htc' := (htc tier.toNat (by omega)).2
        obtain ⟨bo, hbo⟩ : ∃ bo, (s.tiers.getD tier.toNat (0, 0)).2 = bo := ⟨_, rfl⟩
        rw [hbo] at htc'
        have hbor : 0 ≤ bo ∧ bo ≤ 100000 := by rw [← hbo]; exact HTI.out _ (getD_mem2 (by omega))
        have HTB := Lib.hid htc'
        have hbn := HB.out
        rw [if_pos ⟨by omega, by omega⟩, hbo] at hbn
        obtain ⟨n, hn⟩ : ∃ n, secP el = n := ⟨_, rfl⟩
        rw [hn] at hbn
        have hnr : 0 ≤ n ∧ n ≤ 604800 := hn ▸ secP_range el
        have hnb := mul_range hnr hbor
        have i2 : IntKind.i64.wrap (n * bo) = n * bo := IntWalk.i64_in _ (by omega)
        have g3 : (0 : Int) ≤ tier := by omega
        have g4 : tier < (q.tl : Int) := t1
        have HN := Lib.hid hn
        have HBV := Lib.hid hbn
        have HTA := Lib.hid hta
        clear hn hbn hbo htc htc' htl hta
        go_wp2_with fail
        refine gen_wp (S := fun W => RefPay w W s q Y w1.heap.size (upd (upd (upd (upd (upd (upd (fun _ => 0) 1 (C 1)) 2 (C 2)) 3 (C 3)) 4 (C 4)) 5 (C 5)) 6 (C 6))) HW6.out (fun W6 hW => ?_)
        have p7 := hW.pay 7 (by decide)
        have f7 := hW.fz 7 (by decide)
        replace lo := hW.lt
        replace c22 := hW.tiers
        rw [HTA.out] at c22
        have cbo : W6.cell? ⟨tb, toff + tier.toNat * 2 + 1, none⟩ = some (.int .i64 bo) := keepC hW.bel HTB.out htb
        have HW0 := Lib.hid hW
        clear hW HW6 p70
        refine wp_region_held_drew (S := (fun w' => w'.cell? ⟨w.heap.size, 22, none⟩ = some (.slice (some ⟨tb, toff, none⟩) q.tl q.tc) ∧ w'.cell? ⟨tb, toff + tier.toNat * 2 + 1, none⟩ = some (.int .i64 bo))) (by kernel_rfl) ?_ (fun hHeld => ?_)
        · exact ⟨c22, cbo⟩
        refine wpAnyH_take (i := 0) (oi := ⟨some 110, _, _, _, _, none⟩) (v := ?_) rfl (by kernel_rfl) (by kernel_rfl) (by kernel_rfl) (fun _ _ _ h => h) (Or.inl ⟨by rfl, ?_⟩) (by assumption) ?_
        rotate_left
        · intro wz hSw; (try dsimp only at hSw); go_simp; (try with_reducible rfl)
        try simp only [Act.put, List.setIfInBounds_toArray, List.set_cons_zero, List.set_cons_succ]
        refine wpAnyH_take (i := 2) (oi := ⟨some 112, _, _, _, _, none⟩) (v := ?_) rfl (by kernel_rfl) (by kernel_rfl) (by kernel_rfl) (fun _ _ _ h => h) (Or.inl ⟨by rfl, ?_⟩) (by assumption) ?_
        rotate_left
        · intro wz hSw; (try dsimp only at hSw); go_simp; (try with_reducible rfl)
        try simp only [Act.put, List.setIfInBounds_toArray, List.set_cons_zero, List.set_cons_succ]
        refine wpAnyH_take (i := 3) (oi := ⟨some 113, _, _, _, _, none⟩) (v := ?_) rfl (by kernel_rfl) (by kernel_rfl) (by kernel_rfl) (fun _ _ _ h => h) (Or.inl ⟨by rfl, ?_⟩) (by assumption) ?_
        rotate_left
        · intro wz hSw; (try dsimp only at hSw); go_simp; (try with_reducible rfl)
        try simp only [Act.put, List.setIfInBounds_toArray, List.set_cons_zero, List.set_cons_succ]
        refine wpAnyH_take (i := 4) (oi := ⟨some 114, _, _, _, _, none⟩) (v := ?_) rfl (by kernel_rfl) (by kernel_rfl) (by kernel_rfl) (fun _ _ _ h => h) (Or.inl ⟨by rfl, ?_⟩) (by assumption) ?_
        rotate_left
        · intro wz hSw; (try dsimp only at hSw); go_simp; (try with_reducible rfl)
        try simp only [Act.put, List.setIfInBounds_toArray, List.set_cons_zero, List.set_cons_succ]
        refine wpAnyH_take (i := 5) (oi := ⟨some 115, _, _, _, _, none⟩) (v := ?_) rfl (by kernel_rfl) (by kernel_rfl) (by kernel_rfl) (fun _ _ _ h => h) (Or.inl ⟨by rfl, ?_⟩) (by assumption) ?_
        rotate_left
        · intro wz hSw; (try dsimp only at hSw); go_simp; (try rw [if_pos g4]); (try with_reducible rfl)
        try simp only [Act.put, List.setIfInBounds_toArray, List.set_cons_zero, List.set_cons_succ]
        refine wpAnyH_take (i := 6) (oi := ⟨some 116, _, _, _, _, none⟩) (v := ?_) rfl (by kernel_rfl) (by kernel_rfl) (by kernel_rfl) (fun _ _ _ h => h) (Or.inl ⟨by rfl, ?_⟩) (by assumption) ?_
        rotate_left
        · intro wz hSw; (try dsimp only at hSw); go_simp; (try with_reducible rfl)
        try simp only [Act.put, List.setIfInBounds_toArray, List.set_cons_zero, List.set_cons_succ]
        refine wpAnyH_take (i := 7) (oi := ⟨some 117, _, _, _, _, none⟩) (v := ?_) rfl (by kernel_rfl) (by kernel_rfl) (by kernel_rfl) (fun _ _ _ h => h) (Or.inl ⟨by rfl, ?_⟩) (by assumption) ?_
        rotate_left
        · intro wz hSw; (try dsimp only at hSw); go_simp; (try with_reducible rfl)
        try simp only [Act.put, List.setIfInBounds_toArray, List.set_cons_zero, List.set_cons_succ]
        refine wpAnyH_ready (rs := [1]) (by kernel_rfl) (by simp) ?_
        refine AllReadyH.cons (o := ⟨some 111, _, _, _, _, none⟩) rfl (fun K hK => ?_) AllReadyH.nil
        go_simp
        refine (ref19_time _ _ _ HN.out).mono ?_
        rintro e w2 ⟨rfl, rfl⟩
        refine hK.out _ _ ?_ (fun hHeld => ?_)
        · exact ⟨c22, cbo⟩
        clear hK K
        try simp only [Act.put, List.setIfInBounds_toArray, List.set_cons_zero, List.set_cons_succ]
        refine wpAnyH_take (i := 8) (oi := ⟨some 118, _, _, _, _, none⟩) (v := ?_) rfl (by kernel_rfl) (by kernel_rfl) (by kernel_rfl) (fun _ _ _ h => h) (Or.inl ⟨by rfl, ?_⟩) (by assumption) ?_
        rotate_left
        · intro wz hSw; (try dsimp only at hSw); go_simp; (try with_reducible rfl)
        try simp only [Act.put, List.setIfInBounds_toArray, List.set_cons_zero, List.set_cons_succ]
        refine wpAnyH_ready (rs := [9]) (by kernel_rfl) (by simp) ?_
        refine AllReadyH.cons (o := ⟨some 119, _, _, _, _, none⟩) rfl (fun K hK => ?_) AllReadyH.nil
        go_simp
        refine (ref19_near _ _ _ _ (by unfold In; omega) (by decide) HBV.out).mono ?_
        rintro e w2 ⟨rfl, rfl⟩
        refine hK.out _ _ ?_ (fun hHeld => ?_)
        · exact ⟨c22, cbo⟩
        clear hK K
        try simp only [Act.put, List.setIfInBounds_toArray, List.set_cons_zero, List.set_cons_succ]
        refine wpAnyH_take (i := 10) (oi := ⟨some 120, _, _, _, _, none⟩) (v := ?_) rfl (by kernel_rfl) (by kernel_rfl) (by kernel_rfl) (fun _ _ _ h => h) (Or.inl ⟨by rfl, ?_⟩) (by assumption) ?_
        rotate_left
        · intro wz hSw; (try dsimp only at hSw); go_simp; (try with_reducible rfl)
        try simp only [Act.put, List.setIfInBounds_toArray, List.set_cons_zero, List.set_cons_succ]
        refine wpAnyH_ready (rs := [11]) (by kernel_rfl) (by simp) ?_
        refine AllReadyH.cons (o := ⟨none, _, _, _, _, none⟩) rfl (fun K hK => ?_) AllReadyH.nil
        have k5 : Below w1.heap.size W6.drew (W6.drew.setCell ⟨w1.heap.size, 7, none⟩ (.int .i64 b)) := by go_grown
        go_simp
        refine hK.out _ _ ?_ (fun hHeld => ?_)
        · exact ⟨keepC k5 c22 (by simp only; omega), keepC k5 cbo (by simp only; omega)⟩
        clear hK K
        try simp only [Act.put, List.setIfInBounds_toArray, List.set_cons_zero, List.set_cons_succ]
        refine wpAnyH_done (by kernel_rfl) ?_ _
        go_wp2_with fail
        go_meet
        case rel => rw [← payF_some]; exact HW0.out.drew.set 7 b (by decide)
      · have g0 : decide (0 ≤ tier) = true := by simp; omega
        have g1 : decide (tier < (q.tl : Int)) = false := by simp; omega
        have b0 : b = 0 := by rw [← HB.out, if_neg (by have := h.tiers.1; omega)]
        have B0 := Lib.hid b0
        clear b0
        go_wp2_with fail
        go_meet
        case rel => rw [← payF_none C b B0.out]; exact HW6.out
  case rest =>
    have HW := Lib.hid hcut
    clear hcut HW6 c22 p70 nb5 nb6
    generalize wc = W7 at *
    have pb : W7.cell? ⟨w1.heap.size, 7, none⟩ = some (.int .i64 b) := HW.out.pay 7 (by decide)
    go_wp2_with fail
    clear pb
    go_loop [14, 15, 16] (fun paid got i => ∃ k : Nat, 1 ≤ k ∧ k ≤ 7 ∧ i = .int .i64 k ∧ paid = .int .i64 (paidTo Y k) ∧ got = .int .i64 (gotTo C b k)) (fun _ _ i => 7 - (intOf i).toNat)
    case atStart => exact ⟨1, by omega, by omega, rfl, rfl, by simp [gotTo]⟩
    case round =>
      obtain ⟨k, hk1, hk, rfl, rfl, rfl⟩ := hrel
      by_cases hlt : k < 7
      · have xk := HW.out.sec k hlt
        have pk : W7.cell? ⟨w1.heap.size, k, none⟩ = some (.int .i64 (C k)) := by
          have := HW.out.pay k (by omega)
          unfold payF at this
          rw [if_pos ⟨hk1, hlt⟩] at this
          exact this
        have r1 := paidTo_range Y k
        have r2 := gotTo_range hbr0 HCR.out k hk
        have r3 := secP_range (Y k)
        have r4 := HCR.out k hk1 hlt
        have e1 : paidTo Y (k + 1) = paidTo Y k + secP (Y k) := by show paidTo Y k + (if k = 0 then 0 else secP (Y k)) = _; rw [if_neg (by omega)]
        have e2 : gotTo C b (k + 1) = gotTo C b k + C k := by show gotTo C b k + (if k = 0 then 0 else C k) = _; rw [if_neg (by omega)]
        obtain ⟨n, hn⟩ : ∃ n, secP (Y k) = n := ⟨_, rfl⟩
        rw [hn] at r3 e1
        have hkk : (k : Int) < 7 := by omega
        have E1 := Lib.hid e1
        have E2 := Lib.hid e2
        have HN := Lib.hid hn
        clear e1 e2 hn
        generalize paidTo Y k = p at *
        generalize gotTo C b k = gt at *
        go_wp2_with fail
        refine (ref19_time _ _ _ HN.out).mono ?_
        rintro e w2 ⟨rfl, rfl⟩
        go_wp2_with fail
        go_round
        case rel => exact ⟨k + 1, by omega, by omega, by go_num, by rw [E1.out], by rw [E2.out]⟩
        case measure => simp [intOf]; omega
      · obtain rfl : k = 7 := by omega
        have r2 := gotTo_range hbr0 HCR.out 7 (by omega)
        have hga := gotTo_all C b
        have f8 := HW.out.fz 8 (by decide)
        have f9 := HW.out.fz 9 (by decide)
        have q8 : W7.cell? ⟨w1.heap.size, 8, none⟩ = some (.int .i64 0) := HW.out.pay 8 (by decide)
        have q9 : W7.cell? ⟨w1.heap.size, 9, none⟩ = some (.int .i64 0) := HW.out.pay 9 (by decide)
        have cl := HW.out.least
        have hm := HM.out
        have hg := HG.out
        rw [← hga] at hm hg
        have HM2 := Lib.hid hm
        have HG2 := Lib.hid hg
        clear hm hg hga HM HG hp7
        generalize gotTo C b 7 = gt at *
        generalize paidTo Y 7 = p at *
        go_wp2_with fail
        refine (ref_Up_is _ _ _ _ _ (by unfold In; omega) (by decide) HUP.out).mono ?_
        rintro e w2 ⟨rfl, rfl⟩
        go_upto_region 26 with fail
        have hm : (if gt < L then L - gt else 0) = m := HM2.out
        have hg := HG2.out
        refine gen_wp (S := fun W => RefPay w W s q Y w1.heap.size (upd (upd (payF C b) 8 m) 9 g)) (by rw [← hg, ← hm]; exact (HW.out.set 8 _ (by decide)).set 9 _ (by decide)) (fun W8 hW => ?_)
        clear HM2 HG2 q8 q9 f8 f9 cl hm hg
        have bel := hW.bel
        have hr := hW.range
        have ht : W8.there (w.heap.size + 1 + 1) 0 (payL C b m g).length := hW.there
        have HR := Lib.hid hr
        have HT := Lib.hid ht
        clear hW HW hr ht
        go_step
        refine wpList_load_mid rfl 38 (.tmp 13) rfl w1.heap.size 0 rfl _ _ HR.out Try.underlying38 rfl pay_size ?_
        try simp only [Act.put, List.setIfInBounds_toArray, List.set_cons_zero, List.set_cons_succ]
        refine wpList_store_whole rfl 38 (.tmp 10) (.tmp 157) rfl (w.heap.size + 1 + 1) 0 (payL C b m g) rfl rfl HT.out (payL_size _ _ _ _) (payL_one _ _ _ _) w.heap.size (by omega) ?_
        intro W9 hr9 hb9
        have HR9 := Lib.hid hr9
        clear hr9 HR HT
        try simp only [Act.put, List.setIfInBounds_toArray, List.set_cons_zero, List.set_cons_succ]
        go_step
        go_step
        go_step
        go_step
        refine bodyPost_ret (v := .agg (payL C b m g).toArray) ?_ rfl ⟨rfl, bel.trans hb9⟩
        have hl := run_loadVar_mid (P := Try.prog) W9 (w.heap.size + 1 + 1) 0 38 _ _ HR9.out Try.underlying38 rfl (payL_size _ _ _ _)
        exact results_cell Try.results17 _ _ _ _ _ rfl hl

end Go.Proofs.Ytjcfflpiajefmaa
