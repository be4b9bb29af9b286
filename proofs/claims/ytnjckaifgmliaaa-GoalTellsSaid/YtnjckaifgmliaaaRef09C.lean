/- THE WALKS of layer 9's reference, third part: Table, Dist, Same; what is read of a table. -/
import Derived.Test.YtnjckaifgmliaaaRef09B
import Derived.Test.YtnjckaifgmliaaaRef07D
set_option linter.unusedSimpArgs false
set_option linter.unusedVariables false
namespace Go.Proofs.Ytnjckaifgmliaaa
open Go.RowKit Lu

/-- A table that is read: the rows' slices in block o. -/
structure TabR (W : World) (o P K : Nat) (rb cp : Nat → Nat) (t : Nat → Nat → Int) : Prop where
  hdr : ∀ i, i < K → W.cell? ⟨o, i, none⟩ = some (.slice (some ⟨rb i, 0, none⟩) P (cp i))
  cell : ∀ i j, i < K → j < P → W.cell? ⟨rb i, j, none⟩ = some (.int .i64 (t i j))
theorem TabR.below {W W' : World} {o P K : Nat} {rb cp : Nat → Nat} {t : Nat → Nat → Int} (h : TabR W o P K rb cp t) (k : Below W.heap.size W W') : TabR W' o P K rb cp t :=
  ⟨fun i hi => keepD k (h.hdr i hi), fun i j hi hj => keepD k (h.cell i j hi hj)⟩
theorem TabR.drewN {W : World} {o P K : Nat} {rb cp : Nat → Nat} {t : Nat → Nat → Int} (h : TabR W o P K rb cp t) (n : Nat) : TabR (W.drewN n) o P K rb cp t := ⟨h.hdr, h.cell⟩
theorem Tab.r {W : World} {o base P K : Nat} {rb : Nat → Nat} {t : Nat → Nat → Int} (h : Tab W o base P K rb t) : TabR W o P K rb (fun _ => P) t := ⟨h.hdr, h.cell⟩
theorem RowAt.grown {W W' : World} {g P : Nat} {r : Nat → Int} {row : Option Nat} (h : RowAt W g P r) (hg : W.grownBy W' row) (hne : some g ≠ row) : RowAt W' g P r := by
  have hb := hg.block g h.lt hne
  exact ⟨Nat.lt_of_lt_of_le h.lt hg.size, fun j hj => (World.cell?_of_block (a := ⟨g, j, none⟩) hb).trans (h.cell j hj), fun j hj => (World.frozen?_of_block (a := ⟨g, j, none⟩) hb).trans (h.fz j hj), by obtain ⟨c, z, hc⟩ := h.ty; exact ⟨c, z, hb.trans hc⟩⟩
theorem own_below {w w' : World} {base : Nat} {e : TypeId} {size : Nat} {v : Value} {n : Nat} {xs : List Value} (h : w.ownsRow base e size v n xs) (k : Below w.heap.size w w') : w'.ownsRow base e size v n xs := by
  refine ⟨h.1, ?_⟩
  rcases h.2 with hn | ⟨g, cap, cur, hv, hb, hg, rest⟩
  · exact .inl hn
  · exact .inr ⟨g, cap, cur, hv, hb, (k.block g (block_lt hg)).trans hg, rest⟩
/-- A row of ints is not the row of the rows. -/
theorem RowAt.ne_own {W : World} {g P : Nat} {r : Nat → Int} {base : Nat} {size n : Nat} {v : Value} {xs : List Value} (h : RowAt W g P r) (ho : W.ownsRow base 27 size v n xs) : some g ≠ v.ownBlock := by
  intro e
  obtain ⟨c, z, hc⟩ := h.ty
  rcases ho.2 with ⟨rfl, _⟩ | ⟨g', cap, cur, rfl, _, hg, _⟩
  · cases e
  · obtain rfl : g = g' := by simpa [Value.ownBlock] using e
    rw [hg] at hc
    simp at hc
def RefTable (s : Setup) (w : World) (e : Ending) (w' : World) : Prop :=
  ∃ o cap rb cp, e = .returned (.slice (some ⟨o, 0, none⟩) s.places.toNat cap) ∧ TabR w' o s.places.toNat s.places.toNat rb cp (tableP s.places.toNat s.ways) ∧ Below w.heap.size w w'
def rowsL (P : Nat) (rb cp : Nat → Nat) (k : Nat) : List Value := (List.range k).map fun i => .slice (some ⟨rb i, 0, none⟩) P (cp i)
theorem rowsL_succ (P : Nat) (rb cp : Nat → Nat) (k g c : Nat) : rowsL P rb cp k ++ [.slice (some ⟨g, 0, none⟩) P c] = rowsL P (fun i => if i = k then g else rb i) (fun i => if i = k then c else cp i) (k + 1) := by
  unfold rowsL
  rw [List.range_succ, List.map_append]
  congr 1
  · refine List.map_congr_left fun i hi => ?_
    have : ¬ i = k := by have := List.mem_range.1 hi; omega
    simp only [if_neg this]
  · simp
set_option maxHeartbeats 4000000 in
theorem ref9_Dist (s : Setup) (q : Slices) (a b r : Int) (w : World) (h : SetupIs w s q) (hr : distP s a b = r) :
    Calls Try.prog 60 #[.agg #[.int .i64 s.places, .slice q.wa q.wl q.wc, .int .i64 s.pn, .int .i64 s.pd, .slice q.ea q.el q.ec, .slice q.ca q.cl q.cc, .slice q.ga q.gl q.gc, .int .i64 s.allow, .int .i64 s.unit, .int .i64 s.cap, .int .i64 s.paidBreak, .int .i64 s.autoAfter, .int .i64 s.autoBreak, .int .i64 s.dayReg, .int .i64 s.dayOver, .int .i64 s.weekReg, .int .i64 s.nightFrom, .int .i64 s.nightTo, .slice q.ra q.rl q.rc, .int .i64 s.diff, .int .i64 s.least, .int .i64 s.fault, .slice q.ta q.tl q.tc], .int .i64 a, .int .i64 b] w fun e w' => e = .returned (.int .i64 r) ∧ Below w.heap.size w w' := by
  unfold distP at hr
  have HR := Lib.hid hr
  clear hr
  have hb : (w.alloc (.cells #[.int .i64 s.places, .slice q.wa q.wl q.wc, .int .i64 s.pn, .int .i64 s.pd, .slice q.ea q.el q.ec, .slice q.ca q.cl q.cc, .slice q.ga q.gl q.gc, .int .i64 s.allow, .int .i64 s.unit, .int .i64 s.cap, .int .i64 s.paidBreak, .int .i64 s.autoAfter, .int .i64 s.autoBreak, .int .i64 s.dayReg, .int .i64 s.dayOver, .int .i64 s.weekReg, .int .i64 s.nightFrom, .int .i64 s.nightTo, .slice q.ra q.rl q.rc, .int .i64 s.diff, .int .i64 s.least, .int .i64 s.fault, .slice q.ta q.tl q.tc] 30)).heap[w.heap.size]? = some (.cells #[.int .i64 s.places, .slice q.wa q.wl q.wc, .int .i64 s.pn, .int .i64 s.pd, .slice q.ea q.el q.ec, .slice q.ca q.cl q.cc, .slice q.ga q.gl q.gc, .int .i64 s.allow, .int .i64 s.unit, .int .i64 s.cap, .int .i64 s.paidBreak, .int .i64 s.autoAfter, .int .i64 s.autoBreak, .int .i64 s.dayReg, .int .i64 s.dayOver, .int .i64 s.weekReg, .int .i64 s.nightFrom, .int .i64 s.nightTo, .slice q.ra q.rl q.rc, .int .i64 s.diff, .int .i64 s.least, .int .i64 s.fault, .slice q.ta q.tl q.tc] 30) := box_new _ _ rfl _ _
  have B0 : Below w.heap.size w (w.alloc (.cells #[.int .i64 s.places, .slice q.wa q.wl q.wc, .int .i64 s.pn, .int .i64 s.pd, .slice q.ea q.el q.ec, .slice q.ca q.cl q.cc, .slice q.ga q.gl q.gc, .int .i64 s.allow, .int .i64 s.unit, .int .i64 s.cap, .int .i64 s.paidBreak, .int .i64 s.autoAfter, .int .i64 s.autoBreak, .int .i64 s.dayReg, .int .i64 s.dayOver, .int .i64 s.weekReg, .int .i64 s.nightFrom, .int .i64 s.nightTo, .slice q.ra q.rl q.rc, .int .i64 s.diff, .int .i64 s.least, .int .i64 s.fault, .slice q.ta q.tl q.tc] 30)) := by go_grown
  by_cases hc : setupP s = true
  · obtain ⟨P, hPl, hP, hw, hwl⟩ := waysOk hc
    have HC := Lib.hid hc
    have HPL := Lib.hid hPl
    clear hc hPl
    go_enter Try.func60, Try.ntmps60
    go_wp2_with (refine wpList_load_box 30 (.tmp 3) rfl rfl w.heap.size rfl 30 #[.int .i64 s.places, .slice q.wa q.wl q.wc, .int .i64 s.pn, .int .i64 s.pd, .slice q.ea q.el q.ec, .slice q.ca q.cl q.cc, .slice q.ga q.gl q.gc, .int .i64 s.allow, .int .i64 s.unit, .int .i64 s.cap, .int .i64 s.paidBreak, .int .i64 s.autoAfter, .int .i64 s.autoBreak, .int .i64 s.dayReg, .int .i64 s.dayOver, .int .i64 s.weekReg, .int .i64 s.nightFrom, .int .i64 s.nightTo, .slice q.ra q.rl q.rc, .int .i64 s.diff, .int .i64 s.least, .int .i64 s.fault, .slice q.ta q.tl q.tc] hb setup_big ?_)
    refine (ref7_Check s q true _ (h.below B0) HC.out).mono ?_
    rintro e w1 ⟨rfl, k1⟩
    replace hb := box_keep k1 hb (by simp)
    have B1 := B0.trans (k1.mono (by simp))
    have z1 : w.heap.size < w1.heap.size := by have := k1.size; simp at this; omega
    have cN : w1.cell? ⟨w.heap.size, 0, none⟩ = some (.int .i64 (P : Int)) := by rw [← HPL.out]; simp [World.cell?, hb]
    clear k1
    have e0 : s.places.toNat = P := by rw [HPL.out]; simp
    by_cases c : (0 ≤ a ∧ a < P) ∧ 0 ≤ b ∧ b < P
    · obtain ⟨⟨a0, a1⟩, b0, b1⟩ := c
      obtain ⟨A, rfl⟩ := Int.eq_ofNat_of_zero_le a0
      obtain ⟨B, rfl⟩ := Int.eq_ofNat_of_zero_le b0
      have hA : A < P := by omega
      have hB : B < P := by omega
      have hv : tableP P s.ways A B = r := by rw [← HR.out, if_pos ⟨HC.out, by rw [HPL.out]; omega, by rw [HPL.out]; omega⟩, e0]; simp
      have HV := Lib.hid hv
      have E0 := Lib.hid e0
      clear hv e0
      have d1 : decide ((A : Int) < 0) = false := by rw [decide_eq_false_iff_not]; omega
      have d2 : decide ((B : Int) < 0) = false := by rw [decide_eq_false_iff_not]; omega
      have d3 : decide ((P : Int) ≤ (A : Int)) = false := by rw [decide_eq_false_iff_not]; omega
      have d4 : decide ((P : Int) ≤ (B : Int)) = false := by rw [decide_eq_false_iff_not]; omega
      go_wp2_with (refine wpList_load_box 30 (.tmp 3) rfl rfl w.heap.size rfl 30 #[.int .i64 s.places, .slice q.wa q.wl q.wc, .int .i64 s.pn, .int .i64 s.pd, .slice q.ea q.el q.ec, .slice q.ca q.cl q.cc, .slice q.ga q.gl q.gc, .int .i64 s.allow, .int .i64 s.unit, .int .i64 s.cap, .int .i64 s.paidBreak, .int .i64 s.autoAfter, .int .i64 s.autoBreak, .int .i64 s.dayReg, .int .i64 s.dayOver, .int .i64 s.weekReg, .int .i64 s.nightFrom, .int .i64 s.nightTo, .slice q.ra q.rl q.rc, .int .i64 s.diff, .int .i64 s.least, .int .i64 s.fault, .slice q.ta q.tl q.tc] hb setup_big ?_)
      refine (ref9_from s q P A w1 (h.below B1) HPL.out hP hw hwl hA).mono ?_
      rintro e w2 ⟨g, cap, rfl, hrow, hg, k2⟩
      rw [E0.out] at hrow
      rw [E0.out]
      have c2 := hrow.cell B hB
      rw [HV.out] at c2
      have B2 := B1.trans (k2.mono (by omega))
      clear hrow k2 hb
      go_wp2_with fail
      go_ret
      exact ⟨rfl, B2⟩
    · have hv : r = -1 := by rw [← HR.out, if_neg (by rw [HPL.out]; intro x; exact c x.2)]
      subst hv
      clear e0
      go_wp2_with (refine wpList_load_box 30 (.tmp 3) rfl rfl w.heap.size rfl 30 #[.int .i64 s.places, .slice q.wa q.wl q.wc, .int .i64 s.pn, .int .i64 s.pd, .slice q.ea q.el q.ec, .slice q.ca q.cl q.cc, .slice q.ga q.gl q.gc, .int .i64 s.allow, .int .i64 s.unit, .int .i64 s.cap, .int .i64 s.paidBreak, .int .i64 s.autoAfter, .int .i64 s.autoBreak, .int .i64 s.dayReg, .int .i64 s.dayOver, .int .i64 s.weekReg, .int .i64 s.nightFrom, .int .i64 s.nightTo, .slice q.ra q.rl q.rc, .int .i64 s.diff, .int .i64 s.least, .int .i64 s.fault, .slice q.ta q.tl q.tc] hb setup_big ?_)
      all_goals first
        | (go_ret; exact ⟨rfl, B1⟩)
        | exact absurd ⟨⟨by omega, by omega⟩, by omega, by omega⟩ c
        | (exfalso; simp_all; omega)
        | (exfalso; omega)
  · have hv : r = -1 := by rw [← HR.out, if_neg (by intro x; exact hc x.1)]
    have HC := Lib.hid (Bool.eq_false_iff.2 hc)
    subst hv
    clear hc
    go_enter Try.func60, Try.ntmps60
    go_wp2_with (refine wpList_load_box 30 (.tmp 3) rfl rfl w.heap.size rfl 30 #[.int .i64 s.places, .slice q.wa q.wl q.wc, .int .i64 s.pn, .int .i64 s.pd, .slice q.ea q.el q.ec, .slice q.ca q.cl q.cc, .slice q.ga q.gl q.gc, .int .i64 s.allow, .int .i64 s.unit, .int .i64 s.cap, .int .i64 s.paidBreak, .int .i64 s.autoAfter, .int .i64 s.autoBreak, .int .i64 s.dayReg, .int .i64 s.dayOver, .int .i64 s.weekReg, .int .i64 s.nightFrom, .int .i64 s.nightTo, .slice q.ra q.rl q.rc, .int .i64 s.diff, .int .i64 s.least, .int .i64 s.fault, .slice q.ta q.tl q.tc] hb setup_big ?_)
    refine (ref7_Check s q false _ (h.below B0) HC.out).mono ?_
    rintro e w1 ⟨rfl, k1⟩
    have B1 := B0.trans (k1.mono (by simp))
    clear k1
    go_wp2_with fail
    all_goals
      go_ret
      exact ⟨rfl, B1⟩

end Go.Proofs.Ytnjckaifgmliaaa
