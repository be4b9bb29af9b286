/- THE WALKS of layer 9's reference, third part: Table, Dist, Same; what is read of a table. -/
import Derived.Test.YtjcfflpiajefmaaRef09B
import Derived.Test.YtjcfflpiajefmaaRef07D
set_option linter.unusedSimpArgs false
set_option linter.unusedVariables false
namespace Go.Proofs.Ytjcfflpiajefmaa
open Go.RowKit Lu

/-- A table that is read: the rows' slices in block o. -/
structure TabR (W : World) (o P K : Nat) (rb cp : Nat → Nat) (t : Nat → Nat → Int) : Prop where
  hdr : ∀ i, i < K → W.cell? ⟨o, i, none⟩ = some (.slice (some ⟨rb i, 0, none⟩) P (cp i))
  cell : ∀ i j, i < K → j < P → W.cell? ⟨rb i, j, none⟩ = some (.int .i64 (t i j))
theorem TabR.below {W W' : World} {o P K : Nat} {rb cp : Nat → Nat} {t : Nat → Nat → Int} (h : TabR W o P K rb cp t) (k : Below W.heap.size W W') : TabR W' o P K rb cp t :=
  ⟨fun i hi => keepD k (h.hdr i hi), fun i j hi hj => keepD k (h.cell i j hi hj)⟩
theorem TabR.drewN {W : World} {o P K : Nat} {rb cp : Nat → Nat} {t : Nat → Nat → Int} (h : TabR W o P K rb cp t) (n : Nat) : TabR (W.drewN n) o P K rb cp t := ⟨h.hdr, h.cell⟩
theorem Tab.r {W : World} {o base P K : Nat} {rb : Nat → Nat} {t : Nat → Nat → Int} (h : Tab W o base P K rb t) : TabR W o P K rb (fun _ => P) t := ⟨h.hdr, h.cell⟩
theorem RowAt.grown {W W' : World} {g P : Nat} {r : Nat → Int} {row : Option Nat} (h : RowAt W g P r) (hg : W.grownBy W' row) (hne : some g ≠ row) : RowAt W' g P r := by
  have hb := hg.block g h.lt hne
  exact ⟨Nat.lt_of_lt_of_le h.lt hg.size, fun j hj => (World.cell?_of_block (a := ⟨g, j, none⟩) hb).trans (h.cell j hj), fun j hj => (World.frozen?_of_block (a := ⟨g, j, none⟩) hb).trans (h.fz j hj), by obtain ⟨c, z, hc⟩ := h.ty; exact ⟨c, z, hb.trans hc⟩⟩
theorem own_below {w w' : World} {base : Nat} {e : TypeId} {size : Nat} {v : Value} {n : Nat} {xs : List Value} (h : w.ownsRow base e size v n xs) (k : Below w.heap.size w w') : w'.ownsRow base e size v n xs := by
  refine ⟨h.1, ?_⟩
  rcases h.2 with hn | ⟨g, cap, cur, hv, hb, hg, rest⟩
  · exact .inl hn
  · exact .inr ⟨g, cap, cur, hv, hb, (k.block g (block_lt hg)).trans hg, rest⟩
/-- A row of ints is not the row of the rows. -/
theorem RowAt.ne_own {W : World} {g P : Nat} {r : Nat → Int} {base : Nat} {size n : Nat} {v : Value} {xs : List Value} (h : RowAt W g P r) (ho : W.ownsRow base 27 size v n xs) : some g ≠ v.ownBlock := by
  intro e
  obtain ⟨c, z, hc⟩ := h.ty
  rcases ho.2 with ⟨rfl, _⟩ | ⟨g', cap, cur, rfl, _, hg, _⟩
  · cases e
  · obtain rfl : g = g' := by simpa [Value.ownBlock] using e
    rw [hg] at hc
    simp at hc
def RefTable (s : Setup) (w : World) (e : Ending) (w' : World) : Prop :=
  ∃ o cap rb cp, e = .returned (.slice (some ⟨o, 0, none⟩) s.places.toNat cap) ∧ TabR w' o s.places.toNat s.places.toNat rb cp (tableP s.places.toNat s.ways) ∧ Below w.heap.size w w'
set_option maxHeartbeats 4000000 in
theorem ref9_Table_no (s : Setup) (q : Slices) (w : World) (h : SetupIs w s q) (hc : setupP s = false) :
    Calls Try.prog 22 #[.agg #[.int .i64 s.places, .slice q.wa q.wl q.wc, .int .i64 s.pn, .int .i64 s.pd, .slice q.ea q.el q.ec, .slice q.ca q.cl q.cc, .slice q.ga q.gl q.gc, .int .i64 s.allow, .int .i64 s.unit, .int .i64 s.cap, .int .i64 s.paidBreak, .int .i64 s.autoAfter, .int .i64 s.autoBreak, .int .i64 s.dayReg, .int .i64 s.dayOver, .int .i64 s.weekReg, .int .i64 s.nightFrom, .int .i64 s.nightTo, .slice q.ra q.rl q.rc, .int .i64 s.diff, .int .i64 s.least, .int .i64 s.fault, .slice q.ta q.tl q.tc]] w fun e w' => e = .returned (.slice none 0 0) ∧ Below w.heap.size w w' := by
  have HC := Lib.hid hc
  clear hc
  have hb : (w.alloc (.cells #[.int .i64 s.places, .slice q.wa q.wl q.wc, .int .i64 s.pn, .int .i64 s.pd, .slice q.ea q.el q.ec, .slice q.ca q.cl q.cc, .slice q.ga q.gl q.gc, .int .i64 s.allow, .int .i64 s.unit, .int .i64 s.cap, .int .i64 s.paidBreak, .int .i64 s.autoAfter, .int .i64 s.autoBreak, .int .i64 s.dayReg, .int .i64 s.dayOver, .int .i64 s.weekReg, .int .i64 s.nightFrom, .int .i64 s.nightTo, .slice q.ra q.rl q.rc, .int .i64 s.diff, .int .i64 s.least, .int .i64 s.fault, .slice q.ta q.tl q.tc] 30)).heap[w.heap.size]? = some (.cells #[.int .i64 s.places, .slice q.wa q.wl q.wc, .int .i64 s.pn, .int .i64 s.pd, .slice q.ea q.el q.ec, .slice q.ca q.cl q.cc, .slice q.ga q.gl q.gc, .int .i64 s.allow, .int .i64 s.unit, .int .i64 s.cap, .int .i64 s.paidBreak, .int .i64 s.autoAfter, .int .i64 s.autoBreak, .int .i64 s.dayReg, .int .i64 s.dayOver, .int .i64 s.weekReg, .int .i64 s.nightFrom, .int .i64 s.nightTo, .slice q.ra q.rl q.rc, .int .i64 s.diff, .int .i64 s.least, .int .i64 s.fault, .slice q.ta q.tl q.tc] 30) := box_new _ _ rfl _ _
  have B0 : Below w.heap.size w (w.alloc (.cells #[.int .i64 s.places, .slice q.wa q.wl q.wc, .int .i64 s.pn, .int .i64 s.pd, .slice q.ea q.el q.ec, .slice q.ca q.cl q.cc, .slice q.ga q.gl q.gc, .int .i64 s.allow, .int .i64 s.unit, .int .i64 s.cap, .int .i64 s.paidBreak, .int .i64 s.autoAfter, .int .i64 s.autoBreak, .int .i64 s.dayReg, .int .i64 s.dayOver, .int .i64 s.weekReg, .int .i64 s.nightFrom, .int .i64 s.nightTo, .slice q.ra q.rl q.rc, .int .i64 s.diff, .int .i64 s.least, .int .i64 s.fault, .slice q.ta q.tl q.tc] 30)) := by go_grown
  go_enter Try.func22, Try.ntmps22
  go_wp2_with (refine wpList_load_box 30 (.tmp 1) rfl rfl w.heap.size rfl 30 #[.int .i64 s.places, .slice q.wa q.wl q.wc, .int .i64 s.pn, .int .i64 s.pd, .slice q.ea q.el q.ec, .slice q.ca q.cl q.cc, .slice q.ga q.gl q.gc, .int .i64 s.allow, .int .i64 s.unit, .int .i64 s.cap, .int .i64 s.paidBreak, .int .i64 s.autoAfter, .int .i64 s.autoBreak, .int .i64 s.dayReg, .int .i64 s.dayOver, .int .i64 s.weekReg, .int .i64 s.nightFrom, .int .i64 s.nightTo, .slice q.ra q.rl q.rc, .int .i64 s.diff, .int .i64 s.least, .int .i64 s.fault, .slice q.ta q.tl q.tc] hb setup_big ?_)
  refine (ref7_Check s q false _ (h.below B0) HC.out).mono ?_
  rintro e w1 ⟨rfl, k1⟩
  have B1 := B0.trans (k1.mono (by simp))
  go_wp2_with fail
  go_ret
  exact ⟨rfl, B1⟩
def rowsL (P : Nat) (rb cp : Nat → Nat) (k : Nat) : List Value := (List.range k).map fun i => .slice (some ⟨rb i, 0, none⟩) P (cp i)
theorem rowsL_succ (P : Nat) (rb cp : Nat → Nat) (k g c : Nat) : rowsL P rb cp k ++ [.slice (some ⟨g, 0, none⟩) P c] = rowsL P (fun i => if i = k then g else rb i) (fun i => if i = k then c else cp i) (k + 1) := by
  unfold rowsL
  rw [List.range_succ, List.map_append]
  congr 1
  · refine List.map_congr_left fun i hi => ?_
    have : ¬ i = k := by have := List.mem_range.1 hi; omega
    simp only [if_neg this]
  · simp
set_option maxRecDepth 100000 in
set_option maxHeartbeats 8000000 in
theorem ref9_Table (s : Setup) (q : Slices) (w : World) (h : SetupIs w s q) (hc : setupP s = true) :
    Calls Try.prog 22 #[.agg #[.int .i64 s.places, .slice q.wa q.wl q.wc, .int .i64 s.pn, .int .i64 s.pd, .slice q.ea q.el q.ec, .slice q.ca q.cl q.cc, .slice q.ga q.gl q.gc, .int .i64 s.allow, .int .i64 s.unit, .int .i64 s.cap, .int .i64 s.paidBreak, .int .i64 s.autoAfter, .int .i64 s.autoBreak, .int .i64 s.dayReg, .int .i64 s.dayOver, .int .i64 s.weekReg, .int .i64 s.nightFrom, .int .i64 s.nightTo, .slice q.ra q.rl q.rc, .int .i64 s.diff, .int .i64 s.least, .int .i64 s.fault, .slice q.ta q.tl q.tc]] w (RefTable s w) := by
  obtain ⟨P, hPl, hP, hw, hwl⟩ := waysOk hc
  obtain ⟨i0, hi, hz0, hz1, hz2⟩ := info_parts infoRows
  have HC := Lib.hid hc
  clear hc
  have hb : (w.alloc (.cells #[.int .i64 s.places, .slice q.wa q.wl q.wc, .int .i64 s.pn, .int .i64 s.pd, .slice q.ea q.el q.ec, .slice q.ca q.cl q.cc, .slice q.ga q.gl q.gc, .int .i64 s.allow, .int .i64 s.unit, .int .i64 s.cap, .int .i64 s.paidBreak, .int .i64 s.autoAfter, .int .i64 s.autoBreak, .int .i64 s.dayReg, .int .i64 s.dayOver, .int .i64 s.weekReg, .int .i64 s.nightFrom, .int .i64 s.nightTo, .slice q.ra q.rl q.rc, .int .i64 s.diff, .int .i64 s.least, .int .i64 s.fault, .slice q.ta q.tl q.tc] 30)).heap[w.heap.size]? = some (.cells #[.int .i64 s.places, .slice q.wa q.wl q.wc, .int .i64 s.pn, .int .i64 s.pd, .slice q.ea q.el q.ec, .slice q.ca q.cl q.cc, .slice q.ga q.gl q.gc, .int .i64 s.allow, .int .i64 s.unit, .int .i64 s.cap, .int .i64 s.paidBreak, .int .i64 s.autoAfter, .int .i64 s.autoBreak, .int .i64 s.dayReg, .int .i64 s.dayOver, .int .i64 s.weekReg, .int .i64 s.nightFrom, .int .i64 s.nightTo, .slice q.ra q.rl q.rc, .int .i64 s.diff, .int .i64 s.least, .int .i64 s.fault, .slice q.ta q.tl q.tc] 30) := box_new _ _ rfl _ _
  have B0 : Below w.heap.size w (w.alloc (.cells #[.int .i64 s.places, .slice q.wa q.wl q.wc, .int .i64 s.pn, .int .i64 s.pd, .slice q.ea q.el q.ec, .slice q.ca q.cl q.cc, .slice q.ga q.gl q.gc, .int .i64 s.allow, .int .i64 s.unit, .int .i64 s.cap, .int .i64 s.paidBreak, .int .i64 s.autoAfter, .int .i64 s.autoBreak, .int .i64 s.dayReg, .int .i64 s.dayOver, .int .i64 s.weekReg, .int .i64 s.nightFrom, .int .i64 s.nightTo, .slice q.ra q.rl q.rc, .int .i64 s.diff, .int .i64 s.least, .int .i64 s.fault, .slice q.ta q.tl q.tc] 30)) := by go_grown
  have HPL := Lib.hid hPl
  clear hPl
  go_enter Try.func22, Try.ntmps22
  go_wp2_with (refine wpList_load_box 30 (.tmp 1) rfl rfl w.heap.size rfl 30 #[.int .i64 s.places, .slice q.wa q.wl q.wc, .int .i64 s.pn, .int .i64 s.pd, .slice q.ea q.el q.ec, .slice q.ca q.cl q.cc, .slice q.ga q.gl q.gc, .int .i64 s.allow, .int .i64 s.unit, .int .i64 s.cap, .int .i64 s.paidBreak, .int .i64 s.autoAfter, .int .i64 s.autoBreak, .int .i64 s.dayReg, .int .i64 s.dayOver, .int .i64 s.weekReg, .int .i64 s.nightFrom, .int .i64 s.nightTo, .slice q.ra q.rl q.rc, .int .i64 s.diff, .int .i64 s.least, .int .i64 s.fault, .slice q.ta q.tl q.tc] hb setup_big ?_)
  refine (ref7_Check s q true _ (h.below B0) HC.out).mono ?_
  rintro e w1 ⟨rfl, k1⟩
  replace hb := box_keep k1 hb (by simp)
  have B1 := B0.trans (k1.mono (by simp))
  have z1 : w.heap.size < w1.heap.size := by have := k1.size; simp at this; omega
  have cN : w1.cell? ⟨w.heap.size, 0, none⟩ = some (.int .i64 (P : Int)) := by rw [← HPL.out]; simp [World.cell?, hb]
  clear k1 B0
  have hP0 : (0 : Int) ≤ (P : Int) := by omega
  have HB := Lib.hid hb
  clear hb
  go_wp2_with fail
  go_loopw [4, 5] (fun v i wr => ∃ k : Nat, ∃ rb cp : Nat → Nat, k ≤ P ∧ i = .int .i64 k ∧ wr.ownsRow (w.heap.size + 1) 27 1 v k (rowsL P rb cp k) ∧ (∀ i, i < k → RowAt wr (rb i) P (tableP P s.ways i)) ∧ Below (w.heap.size + 1) w1 wr) (fun _ i _ => P - (intOf i).toNat)
  case atStart => exact ⟨0, fun _ => 0, fun _ => 0, by omega, rfl, ⟨rfl, .inl ⟨rfl, rfl⟩⟩, fun i hi => by omega, Below.refl _ _⟩
  case round =>
    obtain ⟨k, rb, cp, hk, rfl, hown, hrows, Br⟩ := hrel
    have cNr := keepC Br cN (by simp)
    have zr : w.heap.size + 1 ≤ wr.heap.size := by have := Br.size; omega
    have HOWN := Lib.hid hown
    have HROWS := Lib.hid hrows
    clear hown hrows
    by_cases hlt : k < P
    · have hk0 : (0 : Int) ≤ (k : Int) := by omega
      have hk1 : (k : Int) < (P : Int) := by omega
      have hb := box_keep Br HB.out (by omega)
      have hsi := h.below (B1.trans (Br.mono (by omega)))
      clear cNr
      have cNr := keepC Br cN (by simp)
      go_wp2_with (refine wpList_load_box 30 (.tmp 1) rfl rfl w.heap.size rfl 30 #[.int .i64 s.places, .slice q.wa q.wl q.wc, .int .i64 s.pn, .int .i64 s.pd, .slice q.ea q.el q.ec, .slice q.ca q.cl q.cc, .slice q.ga q.gl q.gc, .int .i64 s.allow, .int .i64 s.unit, .int .i64 s.cap, .int .i64 s.paidBreak, .int .i64 s.autoAfter, .int .i64 s.autoBreak, .int .i64 s.dayReg, .int .i64 s.dayOver, .int .i64 s.weekReg, .int .i64 s.nightFrom, .int .i64 s.nightTo, .slice q.ra q.rl q.rc, .int .i64 s.diff, .int .i64 s.least, .int .i64 s.fault, .slice q.ta q.tl q.tc] hb setup_big ?_)
      refine (ref9_from s q P k wr hsi HPL.out hP hw hwl hlt).mono ?_
      rintro e w2 ⟨g, cap, rfl, hrow, hg, k2⟩
      rw [HPL.out] at hrow
      simp only [Int.toNat_natCast] at hrow
      have eP : s.places.toNat = P := by rw [HPL.out]; simp
      rw [eP]
      clear eP hb
      have own2 := own_below HOWN.out k2
      have rows2 : ∀ i, i < k → RowAt w2 (rb i) P (tableP P s.ways i) := fun i hi => (HROWS.out i hi).below k2
      have z2 : w.heap.size + 1 ≤ w2.heap.size := Nat.le_trans zr k2.size
      have B2 : Below (w.heap.size + 1) w1 w2 := Br.trans (k2.mono zr)
      clear k2 HOWN HROWS Br cNr
      have hn : Cells (w2.alloc (.cells #[.slice (some ⟨g, 0, none⟩) P cap] 27)) (some ⟨w2.heap.size, 0, none⟩) [.slice (some ⟨g, 0, none⟩) P cap] := .inr ⟨w2.heap.size, 0, rfl, fun i u hu => by
        obtain rfl : i = 0 := by have := (List.getElem?_eq_some_iff.1 hu).1; simpa using this
        simp at hu
        subst hu
        simp [go_sem]⟩
      have HN := Lib.hid hn
      have OWN2 := Lib.hid own2
      have ROWS2 := Lib.hid rows2
      have ROW := Lib.hid hrow
      clear hn own2 rows2 hrow
      go_wp2_with (at_builtin; (refine wpList_append_cells _ rfl (.tmp 16) (.tmp 20) 50 rfl (w.heap.size + 1) 27 i0 (.slice none 0 0) 1 24 Try.underlying50 hi hz0 hz1 hz2 rfl (by decide) _ k _ rfl (OWN2.out.alloc _) (some ⟨w2.heap.size, 0, none⟩) 1 1 [.slice (some ⟨g, 0, none⟩) P cap] rfl rfl HN.out (by simp) (by intro u hu; simp at hu; subst hu; rfl) (by unfold maxLen; omega) (by omega) (by simp; omega) ?_; intro v' W' own' grow'))
      have Bg := below_own (B2.alloc (by omega) (.cells #[.slice (some ⟨g, 0, none⟩) P cap] 27)) (OWN2.out.alloc _) grow' (Nat.le_refl _) (by simp; omega)
      rw [rowsL_succ] at own'
      have al : Below w2.heap.size w2 (w2.alloc (.cells #[.slice (some ⟨g, 0, none⟩) P cap] 27)) := by go_grown
      have rows' : ∀ i, i < k + 1 → RowAt W' ((fun i => if i = k then g else rb i) i) P (tableP P s.ways i) := by
        intro i hi
        simp only
        by_cases e : i = k
        · subst e
          rw [if_pos rfl]
          exact (ROW.out.below al).grown grow' ((ROW.out.below al).ne_own (OWN2.out.alloc _))
        · rw [if_neg e]
          exact ((ROWS2.out i (by omega)).below al).grown grow' (((ROWS2.out i (by omega)).below al).ne_own (OWN2.out.alloc _))
      go_roundw
      case rel => exact ⟨k + 1, _, _, by omega, by go_num, own', rows', Bg⟩
      case measure => simp [intOf]; omega
    · obtain rfl : P = k := by omega
      obtain ⟨g, cap, hv⟩ : ∃ g cap, u4 = .slice (some ⟨g, 0, none⟩) P cap := by
        rcases HOWN.out.2 with ⟨_, h0⟩ | ⟨g, cap, _, hv, _⟩
        · omega
        · exact ⟨g, cap, hv⟩
      subst hv
      go_wp2_with fail
      go_ret
      refine ⟨g, cap, rb, cp, by rw [HPL.out]; simp, ?_, B1.trans (Br.mono (by omega))⟩
      rw [HPL.out]
      simp only [Int.toNat_natCast]
      refine ⟨fun i hi => ?_, fun i j hi hj => (HROWS.out i hi).cell j hj⟩
      rw [HOWN.out.cellAt i (by omega)]
      unfold rowsL
      rw [List.getElem?_map, List.getElem?_range hi]
      rfl

set_option maxHeartbeats 4000000 in
/-- Two tables of the same numbers are the same. -/
theorem ref9_Same (o P c : Nat) (rb cp : Nat → Nat) (o' c' : Nat) (rb' cp' : Nat → Nat) (t : Nat → Nat → Int) (hP : P ≤ 16) (W : World) (h : TabR W o P P rb cp t) (h' : TabR W o' P P rb' cp' t) :
    Calls Try.prog 20 #[.slice (some ⟨o, 0, none⟩) P c, .slice (some ⟨o', 0, none⟩) P c'] W fun e w' => e = .returned (.bool true) ∧ ∃ n, w' = W.drewN n := by
  have H := Lib.hid h
  have H' := Lib.hid h'
  clear h h'
  have hP0 : (0 : Int) ≤ (P : Int) := by omega
  go_enter Try.func20, Try.ntmps20
  go_wp2_with fail
  go_loopg [5] P (fun g i wr => ∃ k : Nat, k ≤ P ∧ g = P - k ∧ i = .int .i64 k ∧ ∃ n, wr = W.drewN n)
  case atStart => exact ⟨0, by omega, by omega, rfl, 0, rfl⟩
  case round =>
    obtain ⟨k, hk, rfl, rfl, n, rfl⟩ := hrel
    by_cases hlt : k < P
    · have hk0 : (0 : Int) ≤ (k : Int) := by omega
      have hk1 : (k : Int) < (P : Int) := by omega
      have c1 := H.out.hdr k hlt
      have c2 := H'.out.hdr k hlt
      go_wp2_with fail
      go_quiet (fail)
      go_wp2_with fail
      go_loopg [6] P (fun g i wr => ∃ j : Nat, j ≤ P ∧ g = P - j ∧ i = .int .i64 j ∧ ∃ n, wr = W.drewN n)
      case atStart => exact ⟨0, by omega, by omega, rfl, _, by first | rfl | exact World.drewN_drewN _ _ _⟩
      case round =>
        obtain ⟨j, hj, rfl, rfl, n2, rfl⟩ := hrel
        by_cases hltj : j < P
        · have hj0 : (0 : Int) ≤ (j : Int) := by omega
          have hj1 : (j : Int) < (P : Int) := by omega
          have c3 := H.out.cell k j hlt hltj
          have c4 := H'.out.cell k j hlt hltj
          go_wp2_with fail
          go_quiet (fail)
          go_wp2_with fail
          go_roundg (P - (j + 1))
          case measure => omega
          case rel => exact ⟨j + 1, by omega, rfl, by go_num, _, by first | rfl | exact World.drewN_drewN _ _ _⟩
        · obtain rfl : P = j := by omega
          go_wp2_with fail
          go_roundg (P - (k + 1))
          case measure => omega
          case rel => exact ⟨k + 1, by omega, rfl, by go_num, n2, rfl⟩
    · obtain rfl : P = k := by omega
      go_wp2_with fail
      go_ret
      exact ⟨rfl, n, rfl⟩
theorem ref9_Same_none (W : World) :
    Calls Try.prog 20 #[.slice none 0 0, .slice none 0 0] W fun e w' => e = .returned (.bool true) ∧ ∃ n, w' = W.drewN n := by
  go_enter Try.func20, Try.ntmps20
  go_wp2_with fail
  go_loopw [5] (fun i wr => i = .int .i64 0 ∧ wr = W) (fun _ _ => 0)
  case atStart => exact ⟨rfl, rfl⟩
  case round =>
    obtain ⟨rfl, rfl⟩ := hrel
    go_wp2_with fail
    go_ret
    exact ⟨rfl, 0, rfl⟩

set_option maxHeartbeats 4000000 in
theorem ref9_Dist (s : Setup) (q : Slices) (a b r : Int) (w : World) (h : SetupIs w s q) (hr : distP s a b = r) :
    Calls Try.prog 24 #[.agg #[.int .i64 s.places, .slice q.wa q.wl q.wc, .int .i64 s.pn, .int .i64 s.pd, .slice q.ea q.el q.ec, .slice q.ca q.cl q.cc, .slice q.ga q.gl q.gc, .int .i64 s.allow, .int .i64 s.unit, .int .i64 s.cap, .int .i64 s.paidBreak, .int .i64 s.autoAfter, .int .i64 s.autoBreak, .int .i64 s.dayReg, .int .i64 s.dayOver, .int .i64 s.weekReg, .int .i64 s.nightFrom, .int .i64 s.nightTo, .slice q.ra q.rl q.rc, .int .i64 s.diff, .int .i64 s.least, .int .i64 s.fault, .slice q.ta q.tl q.tc], .int .i64 a, .int .i64 b] w fun e w' => e = .returned (.int .i64 r) ∧ Below w.heap.size w w' := by
  unfold distP at hr
  have HR := Lib.hid hr
  clear hr
  have hb : (w.alloc (.cells #[.int .i64 s.places, .slice q.wa q.wl q.wc, .int .i64 s.pn, .int .i64 s.pd, .slice q.ea q.el q.ec, .slice q.ca q.cl q.cc, .slice q.ga q.gl q.gc, .int .i64 s.allow, .int .i64 s.unit, .int .i64 s.cap, .int .i64 s.paidBreak, .int .i64 s.autoAfter, .int .i64 s.autoBreak, .int .i64 s.dayReg, .int .i64 s.dayOver, .int .i64 s.weekReg, .int .i64 s.nightFrom, .int .i64 s.nightTo, .slice q.ra q.rl q.rc, .int .i64 s.diff, .int .i64 s.least, .int .i64 s.fault, .slice q.ta q.tl q.tc] 30)).heap[w.heap.size]? = some (.cells #[.int .i64 s.places, .slice q.wa q.wl q.wc, .int .i64 s.pn, .int .i64 s.pd, .slice q.ea q.el q.ec, .slice q.ca q.cl q.cc, .slice q.ga q.gl q.gc, .int .i64 s.allow, .int .i64 s.unit, .int .i64 s.cap, .int .i64 s.paidBreak, .int .i64 s.autoAfter, .int .i64 s.autoBreak, .int .i64 s.dayReg, .int .i64 s.dayOver, .int .i64 s.weekReg, .int .i64 s.nightFrom, .int .i64 s.nightTo, .slice q.ra q.rl q.rc, .int .i64 s.diff, .int .i64 s.least, .int .i64 s.fault, .slice q.ta q.tl q.tc] 30) := box_new _ _ rfl _ _
  have B0 : Below w.heap.size w (w.alloc (.cells #[.int .i64 s.places, .slice q.wa q.wl q.wc, .int .i64 s.pn, .int .i64 s.pd, .slice q.ea q.el q.ec, .slice q.ca q.cl q.cc, .slice q.ga q.gl q.gc, .int .i64 s.allow, .int .i64 s.unit, .int .i64 s.cap, .int .i64 s.paidBreak, .int .i64 s.autoAfter, .int .i64 s.autoBreak, .int .i64 s.dayReg, .int .i64 s.dayOver, .int .i64 s.weekReg, .int .i64 s.nightFrom, .int .i64 s.nightTo, .slice q.ra q.rl q.rc, .int .i64 s.diff, .int .i64 s.least, .int .i64 s.fault, .slice q.ta q.tl q.tc] 30)) := by go_grown
  by_cases hc : setupP s = true
  · obtain ⟨P, hPl, hP, hw, hwl⟩ := waysOk hc
    have HC := Lib.hid hc
    have HPL := Lib.hid hPl
    clear hc hPl
    go_enter Try.func24, Try.ntmps24
    go_wp2_with (refine wpList_load_box 30 (.tmp 3) rfl rfl w.heap.size rfl 30 #[.int .i64 s.places, .slice q.wa q.wl q.wc, .int .i64 s.pn, .int .i64 s.pd, .slice q.ea q.el q.ec, .slice q.ca q.cl q.cc, .slice q.ga q.gl q.gc, .int .i64 s.allow, .int .i64 s.unit, .int .i64 s.cap, .int .i64 s.paidBreak, .int .i64 s.autoAfter, .int .i64 s.autoBreak, .int .i64 s.dayReg, .int .i64 s.dayOver, .int .i64 s.weekReg, .int .i64 s.nightFrom, .int .i64 s.nightTo, .slice q.ra q.rl q.rc, .int .i64 s.diff, .int .i64 s.least, .int .i64 s.fault, .slice q.ta q.tl q.tc] hb setup_big ?_)
    refine (ref7_Check s q true _ (h.below B0) HC.out).mono ?_
    rintro e w1 ⟨rfl, k1⟩
    replace hb := box_keep k1 hb (by simp)
    have B1 := B0.trans (k1.mono (by simp))
    have z1 : w.heap.size < w1.heap.size := by have := k1.size; simp at this; omega
    have cN : w1.cell? ⟨w.heap.size, 0, none⟩ = some (.int .i64 (P : Int)) := by rw [← HPL.out]; simp [World.cell?, hb]
    clear k1
    have e0 : s.places.toNat = P := by rw [HPL.out]; simp
    by_cases c : (0 ≤ a ∧ a < P) ∧ 0 ≤ b ∧ b < P
    · obtain ⟨⟨a0, a1⟩, b0, b1⟩ := c
      obtain ⟨A, rfl⟩ := Int.eq_ofNat_of_zero_le a0
      obtain ⟨B, rfl⟩ := Int.eq_ofNat_of_zero_le b0
      have hA : A < P := by omega
      have hB : B < P := by omega
      have hv : tableP P s.ways A B = r := by rw [← HR.out, if_pos ⟨HC.out, by rw [HPL.out]; omega, by rw [HPL.out]; omega⟩, e0]; simp
      have HV := Lib.hid hv
      have E0 := Lib.hid e0
      clear hv e0
      have d1 : decide ((A : Int) < 0) = false := by rw [decide_eq_false_iff_not]; omega
      have d2 : decide ((B : Int) < 0) = false := by rw [decide_eq_false_iff_not]; omega
      have d3 : decide ((P : Int) ≤ (A : Int)) = false := by rw [decide_eq_false_iff_not]; omega
      have d4 : decide ((P : Int) ≤ (B : Int)) = false := by rw [decide_eq_false_iff_not]; omega
      go_wp2_with (refine wpList_load_box 30 (.tmp 3) rfl rfl w.heap.size rfl 30 #[.int .i64 s.places, .slice q.wa q.wl q.wc, .int .i64 s.pn, .int .i64 s.pd, .slice q.ea q.el q.ec, .slice q.ca q.cl q.cc, .slice q.ga q.gl q.gc, .int .i64 s.allow, .int .i64 s.unit, .int .i64 s.cap, .int .i64 s.paidBreak, .int .i64 s.autoAfter, .int .i64 s.autoBreak, .int .i64 s.dayReg, .int .i64 s.dayOver, .int .i64 s.weekReg, .int .i64 s.nightFrom, .int .i64 s.nightTo, .slice q.ra q.rl q.rc, .int .i64 s.diff, .int .i64 s.least, .int .i64 s.fault, .slice q.ta q.tl q.tc] hb setup_big ?_)
      refine (ref9_from s q P A w1 (h.below B1) HPL.out hP hw hwl hA).mono ?_
      rintro e w2 ⟨g, cap, rfl, hrow, hg, k2⟩
      rw [E0.out] at hrow
      rw [E0.out]
      have c2 := hrow.cell B hB
      rw [HV.out] at c2
      have B2 := B1.trans (k2.mono (by omega))
      clear hrow k2 hb
      go_wp2_with fail
      go_ret
      exact ⟨rfl, B2⟩
    · have hv : r = -1 := by rw [← HR.out, if_neg (by rw [HPL.out]; intro x; exact c x.2)]
      subst hv
      clear e0
      go_wp2_with (refine wpList_load_box 30 (.tmp 3) rfl rfl w.heap.size rfl 30 #[.int .i64 s.places, .slice q.wa q.wl q.wc, .int .i64 s.pn, .int .i64 s.pd, .slice q.ea q.el q.ec, .slice q.ca q.cl q.cc, .slice q.ga q.gl q.gc, .int .i64 s.allow, .int .i64 s.unit, .int .i64 s.cap, .int .i64 s.paidBreak, .int .i64 s.autoAfter, .int .i64 s.autoBreak, .int .i64 s.dayReg, .int .i64 s.dayOver, .int .i64 s.weekReg, .int .i64 s.nightFrom, .int .i64 s.nightTo, .slice q.ra q.rl q.rc, .int .i64 s.diff, .int .i64 s.least, .int .i64 s.fault, .slice q.ta q.tl q.tc] hb setup_big ?_)
      all_goals first
        | (go_ret; exact ⟨rfl, B1⟩)
        | exact absurd ⟨⟨by omega, by omega⟩, by omega, by omega⟩ c
        | (exfalso; simp_all; omega)
        | (exfalso; omega)
  · have hv : r = -1 := by rw [← HR.out, if_neg (by intro x; exact hc x.1)]
    have HC := Lib.hid (Bool.eq_false_iff.2 hc)
    subst hv
    clear hc
    go_enter Try.func24, Try.ntmps24
    go_wp2_with (refine wpList_load_box 30 (.tmp 3) rfl rfl w.heap.size rfl 30 #[.int .i64 s.places, .slice q.wa q.wl q.wc, .int .i64 s.pn, .int .i64 s.pd, .slice q.ea q.el q.ec, .slice q.ca q.cl q.cc, .slice q.ga q.gl q.gc, .int .i64 s.allow, .int .i64 s.unit, .int .i64 s.cap, .int .i64 s.paidBreak, .int .i64 s.autoAfter, .int .i64 s.autoBreak, .int .i64 s.dayReg, .int .i64 s.dayOver, .int .i64 s.weekReg, .int .i64 s.nightFrom, .int .i64 s.nightTo, .slice q.ra q.rl q.rc, .int .i64 s.diff, .int .i64 s.least, .int .i64 s.fault, .slice q.ta q.tl q.tc] hb setup_big ?_)
    refine (ref7_Check s q false _ (h.below B0) HC.out).mono ?_
    rintro e w1 ⟨rfl, k1⟩
    have B1 := B0.trans (k1.mono (by simp))
    clear k1
    go_wp2_with fail
    all_goals
      go_ret
      exact ⟨rfl, B1⟩

end Go.Proofs.Ytjcfflpiajefmaa
