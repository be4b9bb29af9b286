/- THE WALK of way.Table. -/
import Derived.Test.YtnjckaifgmliaaaWayNear
import Derived.Deep.LoopGhost
import Derived.WalkMore
import Derived.Scope
set_option linter.unusedSimpArgs false
set_option linter.unusedVariables false
namespace Go.Proofs.Ytnjckaifgmliaaa
open Go.RowKit Lu

theorem infoRows : (Try.prog.info? 27).map (fun i => (i.zero, i.size, i.bytes)) = some (some (.slice none 0 0), 1, 24) := by kernel_rfl
theorem run_make_rows (n : Nat) (hn : n ≤ 1000) (W : World) :
    (Instr.makeSlice 89 (.int .i64 (n : Int)) (.int .i64 (n : Int))).run Try.prog W = .ok (.slice (some ⟨W.heap.size, 0, none⟩) n n) (W.alloc (.cells (List.replicate n (Value.slice none 0 0)).toArray 27)) := by
  obtain ⟨i0, hi, hz0, hz1, hz2⟩ := info_parts infoRows
  have h := run_make (P := Try.prog) W 89 27 i0 (.slice none 0 0) Try.underlying89 hi hz0 .i64 .i64 n n (by omega) (by omega) (by rw [hz2]; omega) (by omega)
  rw [h, hz1]
  simp only [Int.toNat_natCast, Nat.mul_one]
  have e : madeCells (Value.slice none 0 0).cells n = (List.replicate n (Value.slice none 0 0)).toArray := by
    apply Array.toList_inj.1
    show (madeCells #[Value.slice none 0 0] n).toList = _
    rw [toList_madeCells_one]
  rw [e]
theorem there_rows (W : World) (n : Nat) (T : TypeId) : (W.alloc (.cells (List.replicate n (Value.slice none 0 0)).toArray T)).there W.heap.size 0 n := by
  intro j hj
  rw [Nat.zero_add]
  exact ⟨by rw [World.cell?_alloc_new]; simp [hj], World.frozen?_alloc_new _ _ _ _⟩
theorem there_below {W W' : World} {o n : Nat} (h : W.there o 0 n) (k : Below W.heap.size W W') (ho : o < W.heap.size) : W'.there o 0 n := by
  intro j hj
  have := h j hj
  rw [k.cell (p := ⟨o, 0 + j, none⟩) ho, k.frozen (p := ⟨o, 0 + j, none⟩) ho]
  exact this
/-- One row more. -/
theorem Tab.add {W : World} {o base P k g : Nat} {rb : Nat → Nat} {T : TypeId} (h : Tab W o base P k rb startT) (hk : k < P) (ht : W.there o 0 P) (ho : o < W.heap.size) (hg : W.heap[g]? = some (.cells (List.replicate P (Value.int .i64 (-1))).toArray T)) (hlow : base ≤ g) (hnew : ∀ i, i < k → rb i ≠ g) :
    Tab ((W.setCell ⟨o, k, none⟩ (.slice (some ⟨g, 0, none⟩) P P)).setCell ⟨g, k, none⟩ (.int .i64 0)) o base P (k + 1) (fun i => if i = k then g else rb i) startT ∧
    ((W.setCell ⟨o, k, none⟩ (.slice (some ⟨g, 0, none⟩) P P)).setCell ⟨g, k, none⟩ (.int .i64 0)).there o 0 P ∧
    Below o W ((W.setCell ⟨o, k, none⟩ (.slice (some ⟨g, 0, none⟩) P P)).setCell ⟨g, k, none⟩ (.int .i64 0)) := by
  have hob := h.ob
  have hgl := block_lt hg
  have hgo : ¬ g = o := by omega
  have hog : ¬ o = g := by omega
  have B : Below o W ((W.setCell ⟨o, k, none⟩ (.slice (some ⟨g, 0, none⟩) P P)).setCell ⟨g, k, none⟩ (.int .i64 0)) := Below.setCell (p := ⟨g, k, none⟩) (Below.setCell (p := ⟨o, k, none⟩) (Below.refl o W) (Nat.le_refl o) _) (show o ≤ g by omega) _
  obtain ⟨u, hu⟩ := Option.isSome_iff_exists.1 (ht k hk).1
  rw [Nat.zero_add] at hu
  have gc : ∀ j, j < P → W.cell? ⟨g, j, none⟩ = some (.int .i64 (-1)) := fun j hj => by simp [World.cell?, hg, hj]
  have gf : ∀ j, W.frozen? ⟨g, j, none⟩ = false := fun j => by simp [World.frozen?, hg]
  have rne : ∀ i, i < k → ¬ rb i = o := fun i hi => by have := h.low i hi; omega
  have rne' : ∀ i, i < k → ¬ o = rb i := fun i hi => by have := h.low i hi; omega
  refine ⟨⟨hob, fun i hi => ?_, fun i hi => ?_, fun i j hi hj e => ?_, fun i hi => ?_, fun i j hi hj => ?_, fun i j hi hj => ?_⟩, fun j hj => ?_, B⟩
  · show base ≤ if i = k then g else rb i
    split
    · exact hlow
    · exact h.low i (by omega)
  · show (if i = k then g else rb i) < _
    refine Nat.lt_of_lt_of_le ?_ B.size
    split
    · exact hgl
    · exact h.lt i (by omega)
  · by_cases c : i = k <;> by_cases d : j = k
    · omega
    · simp only [if_pos c, if_neg d] at e
      exact absurd e.symm (hnew j (by omega))
    · simp only [if_neg c, if_pos d] at e
      exact absurd e (hnew i (by omega))
    · simp only [if_neg c, if_neg d] at e
      exact h.inj i j (by omega) (by omega) e
  · by_cases c : i = k
    · subst c
      simp [go_sem, hgo, hog, hu]
    · have hi' : i < k := by omega
      have hc := h.hdr i hi'
      have c' : ¬ k = i := fun x => c x.symm
      simp [go_sem, hgo, hog, hc, c, c']
  · by_cases c : i = k
    · subst c
      have hc := gc j hj
      by_cases d : j = i
      · subst d
        simp [go_sem, hgo, hog, hc, startT]
      · have d' : ¬ i = j := fun x => d x.symm
        simp [go_sem, hgo, hog, hc, startT, d']
    · have hi' : i < k := by omega
      have hc := h.cell i j hi' hj
      have n1 := hnew i hi'
      have n2 : ¬ g = rb i := fun x => n1 x.symm
      have n3 := rne i hi'
      have n4 := rne' i hi'
      simp [go_sem, hc, c, n1, n2, n3, n4]
  · by_cases c : i = k
    · subst c
      simp [go_sem, gf]
    · have hi' : i < k := by omega
      simp [go_sem, c, h.fz i j hi' hj]
  · have htj := ht j hj
    rw [Nat.zero_add] at htj ⊢
    obtain ⟨x, hx⟩ := Option.isSome_iff_exists.1 htj.1
    refine ⟨?_, by simp [go_sem, htj.2]⟩
    by_cases c : k = j
    · subst c
      simp [go_sem, hgo, hx]
    · simp [go_sem, hgo, hx, c]


def TableDone (s : Setup) (w : World) (e : Ending) (w' : World) : Prop :=
  ∃ o base rb, e = .returned (.slice (some ⟨o, 0, none⟩) s.places.toNat s.places.toNat) ∧ Tab w' o base s.places.toNat s.places.toNat rb (tableP s.places.toNat s.ways) ∧ w.heap.size ≤ o ∧ o < w'.heap.size ∧ Below w.heap.size w w'
set_option maxHeartbeats 4000000 in
theorem way_Table_no (s : Setup) (q : Slices) (w : World) (h : SetupIs w s q) (hc : setupP s = false) :
    Calls Try.prog 67 #[.agg #[.int .i64 s.places, .slice q.wa q.wl q.wc, .int .i64 s.pn, .int .i64 s.pd, .slice q.ea q.el q.ec, .slice q.ca q.cl q.cc, .slice q.ga q.gl q.gc, .int .i64 s.allow, .int .i64 s.unit, .int .i64 s.cap, .int .i64 s.paidBreak, .int .i64 s.autoAfter, .int .i64 s.autoBreak, .int .i64 s.dayReg, .int .i64 s.dayOver, .int .i64 s.weekReg, .int .i64 s.nightFrom, .int .i64 s.nightTo, .slice q.ra q.rl q.rc, .int .i64 s.diff, .int .i64 s.least, .int .i64 s.fault, .slice q.ta q.tl q.tc]] w fun e w' => e = .returned (.slice none 0 0) ∧ Below w.heap.size w w' := by
  have HC := Lib.hid hc
  clear hc
  have hb : (w.alloc (.cells #[.int .i64 s.places, .slice q.wa q.wl q.wc, .int .i64 s.pn, .int .i64 s.pd, .slice q.ea q.el q.ec, .slice q.ca q.cl q.cc, .slice q.ga q.gl q.gc, .int .i64 s.allow, .int .i64 s.unit, .int .i64 s.cap, .int .i64 s.paidBreak, .int .i64 s.autoAfter, .int .i64 s.autoBreak, .int .i64 s.dayReg, .int .i64 s.dayOver, .int .i64 s.weekReg, .int .i64 s.nightFrom, .int .i64 s.nightTo, .slice q.ra q.rl q.rc, .int .i64 s.diff, .int .i64 s.least, .int .i64 s.fault, .slice q.ta q.tl q.tc] 30)).heap[w.heap.size]? = some (.cells #[.int .i64 s.places, .slice q.wa q.wl q.wc, .int .i64 s.pn, .int .i64 s.pd, .slice q.ea q.el q.ec, .slice q.ca q.cl q.cc, .slice q.ga q.gl q.gc, .int .i64 s.allow, .int .i64 s.unit, .int .i64 s.cap, .int .i64 s.paidBreak, .int .i64 s.autoAfter, .int .i64 s.autoBreak, .int .i64 s.dayReg, .int .i64 s.dayOver, .int .i64 s.weekReg, .int .i64 s.nightFrom, .int .i64 s.nightTo, .slice q.ra q.rl q.rc, .int .i64 s.diff, .int .i64 s.least, .int .i64 s.fault, .slice q.ta q.tl q.tc] 30) := box_new _ _ rfl _ _
  have B0 : Below w.heap.size w (w.alloc (.cells #[.int .i64 s.places, .slice q.wa q.wl q.wc, .int .i64 s.pn, .int .i64 s.pd, .slice q.ea q.el q.ec, .slice q.ca q.cl q.cc, .slice q.ga q.gl q.gc, .int .i64 s.allow, .int .i64 s.unit, .int .i64 s.cap, .int .i64 s.paidBreak, .int .i64 s.autoAfter, .int .i64 s.autoBreak, .int .i64 s.dayReg, .int .i64 s.dayOver, .int .i64 s.weekReg, .int .i64 s.nightFrom, .int .i64 s.nightTo, .slice q.ra q.rl q.rc, .int .i64 s.diff, .int .i64 s.least, .int .i64 s.fault, .slice q.ta q.tl q.tc] 30)) := by go_grown
  go_enter Try.func67, Try.ntmps67
  go_wp2_with (refine wpList_load_box 30 (.tmp 1) rfl rfl w.heap.size rfl 30 #[.int .i64 s.places, .slice q.wa q.wl q.wc, .int .i64 s.pn, .int .i64 s.pd, .slice q.ea q.el q.ec, .slice q.ca q.cl q.cc, .slice q.ga q.gl q.gc, .int .i64 s.allow, .int .i64 s.unit, .int .i64 s.cap, .int .i64 s.paidBreak, .int .i64 s.autoAfter, .int .i64 s.autoBreak, .int .i64 s.dayReg, .int .i64 s.dayOver, .int .i64 s.weekReg, .int .i64 s.nightFrom, .int .i64 s.nightTo, .slice q.ra q.rl q.rc, .int .i64 s.diff, .int .i64 s.least, .int .i64 s.fault, .slice q.ta q.tl q.tc] hb setup_big ?_)
  refine (setup_Check s q false _ (h.below B0) HC.out).mono ?_
  rintro e w1 ⟨rfl, k1⟩
  have B1 := B0.trans (k1.mono (by simp))
  go_wp2_with fail
  go_ret
  exact ⟨rfl, B1⟩
set_option maxRecDepth 100000 in
set_option maxHeartbeats 8000000 in
theorem way_Table_yes (s : Setup) (q : Slices) (P : Nat) (w : World) (h : SetupIs w s q) (hc : setupP s = true) (hPl : s.places = P) (hP : 1 ≤ P ∧ P ≤ 16) (hw : WaysOk P s.ways) :
    Calls Try.prog 67 #[.agg #[.int .i64 s.places, .slice q.wa q.wl q.wc, .int .i64 s.pn, .int .i64 s.pd, .slice q.ea q.el q.ec, .slice q.ca q.cl q.cc, .slice q.ga q.gl q.gc, .int .i64 s.allow, .int .i64 s.unit, .int .i64 s.cap, .int .i64 s.paidBreak, .int .i64 s.autoAfter, .int .i64 s.autoBreak, .int .i64 s.dayReg, .int .i64 s.dayOver, .int .i64 s.weekReg, .int .i64 s.nightFrom, .int .i64 s.nightTo, .slice q.ra q.rl q.rc, .int .i64 s.diff, .int .i64 s.least, .int .i64 s.fault, .slice q.ta q.tl q.tc]] w (TableDone s w) := by
  have HC := Lib.hid hc
  clear hc
  have hb : (w.alloc (.cells #[.int .i64 s.places, .slice q.wa q.wl q.wc, .int .i64 s.pn, .int .i64 s.pd, .slice q.ea q.el q.ec, .slice q.ca q.cl q.cc, .slice q.ga q.gl q.gc, .int .i64 s.allow, .int .i64 s.unit, .int .i64 s.cap, .int .i64 s.paidBreak, .int .i64 s.autoAfter, .int .i64 s.autoBreak, .int .i64 s.dayReg, .int .i64 s.dayOver, .int .i64 s.weekReg, .int .i64 s.nightFrom, .int .i64 s.nightTo, .slice q.ra q.rl q.rc, .int .i64 s.diff, .int .i64 s.least, .int .i64 s.fault, .slice q.ta q.tl q.tc] 30)).heap[w.heap.size]? = some (.cells #[.int .i64 s.places, .slice q.wa q.wl q.wc, .int .i64 s.pn, .int .i64 s.pd, .slice q.ea q.el q.ec, .slice q.ca q.cl q.cc, .slice q.ga q.gl q.gc, .int .i64 s.allow, .int .i64 s.unit, .int .i64 s.cap, .int .i64 s.paidBreak, .int .i64 s.autoAfter, .int .i64 s.autoBreak, .int .i64 s.dayReg, .int .i64 s.dayOver, .int .i64 s.weekReg, .int .i64 s.nightFrom, .int .i64 s.nightTo, .slice q.ra q.rl q.rc, .int .i64 s.diff, .int .i64 s.least, .int .i64 s.fault, .slice q.ta q.tl q.tc] 30) := box_new _ _ rfl _ _
  have B0 : Below w.heap.size w (w.alloc (.cells #[.int .i64 s.places, .slice q.wa q.wl q.wc, .int .i64 s.pn, .int .i64 s.pd, .slice q.ea q.el q.ec, .slice q.ca q.cl q.cc, .slice q.ga q.gl q.gc, .int .i64 s.allow, .int .i64 s.unit, .int .i64 s.cap, .int .i64 s.paidBreak, .int .i64 s.autoAfter, .int .i64 s.autoBreak, .int .i64 s.dayReg, .int .i64 s.dayOver, .int .i64 s.weekReg, .int .i64 s.nightFrom, .int .i64 s.nightTo, .slice q.ra q.rl q.rc, .int .i64 s.diff, .int .i64 s.least, .int .i64 s.fault, .slice q.ta q.tl q.tc] 30)) := by go_grown
  have HPL := Lib.hid hPl
  clear hPl
  have hmk := run_make_rows P (by omega)
  go_enter Try.func67, Try.ntmps67
  go_wp2_with (refine wpList_load_box 30 (.tmp 1) rfl rfl w.heap.size rfl 30 #[.int .i64 s.places, .slice q.wa q.wl q.wc, .int .i64 s.pn, .int .i64 s.pd, .slice q.ea q.el q.ec, .slice q.ca q.cl q.cc, .slice q.ga q.gl q.gc, .int .i64 s.allow, .int .i64 s.unit, .int .i64 s.cap, .int .i64 s.paidBreak, .int .i64 s.autoAfter, .int .i64 s.autoBreak, .int .i64 s.dayReg, .int .i64 s.dayOver, .int .i64 s.weekReg, .int .i64 s.nightFrom, .int .i64 s.nightTo, .slice q.ra q.rl q.rc, .int .i64 s.diff, .int .i64 s.least, .int .i64 s.fault, .slice q.ta q.tl q.tc] hb setup_big ?_)
  refine (setup_Check s q true _ (h.below B0) HC.out).mono ?_
  rintro e w1 ⟨rfl, k1⟩
  replace hb := box_keep k1 hb (by simp)
  have B1 := B0.trans (k1.mono (by simp))
  have z1 : w.heap.size < w1.heap.size := by have := k1.size; simp at this; omega
  have cN : w1.cell? ⟨w.heap.size, 0, none⟩ = some (.int .i64 (P : Int)) := by rw [← HPL.out]; simp [World.cell?, hb]
  have cW : w1.cell? ⟨w.heap.size, 1, none⟩ = some (.slice q.wa q.wl q.wc) := by simp [World.cell?, hb]
  clear k1 hb B0
  have hP0 : (0 : Int) ≤ (P : Int) := by omega
  go_wp2_with fail
  have hre : Array.replicate P (Value.slice none 0 0) = (List.replicate P (Value.slice none 0 0)).toArray := by simp
  rw [hre]
  refine gen_code (S := fun W => W.there w1.heap.size 0 P ∧ W.cell? ⟨w1.heap.size + 1, 0, none⟩ = some (.slice (some ⟨w1.heap.size, 0, none⟩) P P) ∧ Below w1.heap.size w1 W ∧ w1.heap.size + 1 < W.heap.size) ?_ (fun W0 hW => ?_)
  · refine ⟨there_below (there_rows w1 P 27) (by go_grown) (by simp), by simp [go_sem], by go_grown, by simp⟩
  obtain ⟨ht0, cp0, B2, z2⟩ := hW
  clear hmk hre
  go_loopw [20] (fun i wr => ∃ k : Nat, ∃ rb : Nat → Nat, k ≤ P ∧ i = .int .i64 k ∧ Tab wr w1.heap.size (w1.heap.size + 2) P k rb startT ∧ wr.there w1.heap.size 0 P ∧ wr.cell? ⟨w1.heap.size + 1, 0, none⟩ = some (.slice (some ⟨w1.heap.size, 0, none⟩) P P) ∧ Below w1.heap.size w1 wr ∧ w1.heap.size + 1 < wr.heap.size) (fun i _ => P - (intOf i).toNat)
  case atStart =>
    exact ⟨0, fun _ => 0, by omega, rfl, ⟨by omega, fun i hi => by omega, fun i hi => by omega, fun i j hi => by omega, fun i hi => by omega, fun i j hi => by omega, fun i j hi => by omega⟩, ht0, cp0, B2, z2⟩
  case round =>
    obtain ⟨k, rb, hk, rfl, htab, ht, cp, Br, zr⟩ := hrel
    have HTAB := Lib.hid htab
    have HTH := Lib.hid ht
    clear htab ht ht0 cp0 B2 z2
    by_cases hlt : k < P
    · have hk0 : (0 : Int) ≤ (k : Int) := by omega
      have hk1 : (k : Int) < (P : Int) := by omega
      have cN' : wr.cell? ⟨w.heap.size, 0, none⟩ = some (.int .i64 (P : Int)) := keepC Br cN z1
      have nq1 : ¬ w1.heap.size = w1.heap.size + 1 := by omega
      have nq2 : ¬ w1.heap.size + 1 = w1.heap.size := by omega
      have nq3 : ¬ w1.heap.size = w.heap.size := by omega
      have nq4 : ¬ w.heap.size = w1.heap.size := by omega
      clear cN cW
      have cN := cN'
      clear cN'
      go_wp2_with fail
      refine wp_region_held_drew (S := (fun w' => w'.cell? ⟨w1.heap.size + 1, 0, none⟩ = some (.slice (some ⟨w1.heap.size, 0, none⟩) P P) ∧ w'.cell? ⟨w.heap.size, 0, none⟩ = some (.int .i64 (P : Int)))) (by kernel_rfl) ?_ (fun hHeld => ?_)
      · exact ⟨cp, cN⟩
      refine wpAnyH_take (i := 0) (oi := ⟨some 23, _, _, _, _, none⟩) (v := ?_) rfl (by kernel_rfl) (by kernel_rfl) (by kernel_rfl) (fun _ _ _ h => h) (Or.inl ⟨by rfl, ?_⟩) (by assumption) ?_
      rotate_left
      · intro wz hSw; (try dsimp only at hSw); go_simp; (try with_reducible rfl)
      try simp only [Act.put, List.setIfInBounds_toArray, List.set_cons_zero, List.set_cons_succ]
      refine wpAnyH_take (i := 1) (oi := ⟨some 24, _, _, _, _, none⟩) (v := ?_) rfl (by kernel_rfl) (by kernel_rfl) (by kernel_rfl) (fun _ _ _ h => h) (Or.inl ⟨by rfl, ?_⟩) (by assumption) ?_
      rotate_left
      · intro wz hSw; (try dsimp only at hSw); go_simp; (try with_reducible rfl)
      try simp only [Act.put, List.setIfInBounds_toArray, List.set_cons_zero, List.set_cons_succ]
      refine wpAnyH_take (i := 3) (oi := ⟨some 26, _, _, _, _, none⟩) (v := ?_) rfl (by kernel_rfl) (by kernel_rfl) (by kernel_rfl) (fun _ _ _ h => h) (Or.inl ⟨by rfl, ?_⟩) (by assumption) ?_
      rotate_left
      · intro wz hSw; (try dsimp only at hSw); go_simp; (try with_reducible rfl)
      try simp only [Act.put, List.setIfInBounds_toArray, List.set_cons_zero, List.set_cons_succ]
      refine wpAnyH_take (i := 4) (oi := ⟨some 27, _, _, _, _, none⟩) (v := ?_) rfl (by kernel_rfl) (by kernel_rfl) (by kernel_rfl) (fun _ _ _ h => h) (Or.inl ⟨by rfl, ?_⟩) (by assumption) ?_
      rotate_left
      · intro wz hSw; (try dsimp only at hSw); go_simp; (try with_reducible rfl)
      try simp only [Act.put, List.setIfInBounds_toArray, List.set_cons_zero, List.set_cons_succ]
      refine wpAnyH_ready (rs := [2]) (by kernel_rfl) (by simp) ?_
      refine AllReadyH.cons (o := ⟨some 25, _, _, _, _, none⟩) rfl (fun K hK => ?_) AllReadyH.nil
      go_simp
      refine hK.out _ _ ?_ (fun hHeld => ?_)
      · exact ⟨keepA _ cp, keepA _ cN⟩
      clear hK K
      try simp only [Act.put, List.setIfInBounds_toArray, List.set_cons_zero, List.set_cons_succ]
      refine wpAnyH_ready (rs := [5]) (by kernel_rfl) (by simp) ?_
      refine AllReadyH.cons (o := ⟨some 28, _, _, _, _, none⟩) rfl (fun K hK => ?_) AllReadyH.nil
      go_simp
      refine (slices_Repeat (-1) P hP wr.heap.size _ (by simp [go_sem])).mono ?_
      rintro e w3 ⟨g, rfl, hg1, hg2, hg3, k3⟩
      refine hK.out _ _ ?_ (fun hHeld => ?_)
      · exact ⟨keepD k3 (keepA (.cells #[.int .i64 (-1)] 3) cp), keepD k3 (keepA (.cells #[.int .i64 (-1)] 3) cN)⟩
      clear hK K
      try simp only [Act.put, List.setIfInBounds_toArray, List.set_cons_zero, List.set_cons_succ]
      refine wpAnyH_take (i := 6) (oi := ⟨some 29, _, _, _, _, none⟩) (v := ?_) rfl (by kernel_rfl) (by kernel_rfl) (by kernel_rfl) (fun _ _ _ h => h) (Or.inl ⟨by rfl, ?_⟩) (by assumption) ?_
      rotate_left
      · intro wz hSw; (try dsimp only at hSw); go_simp; (try with_reducible rfl)
      try simp only [Act.put, List.setIfInBounds_toArray, List.set_cons_zero, List.set_cons_succ]
      refine wpAnyH_ready (rs := [7]) (by kernel_rfl) (by simp) ?_
      refine AllReadyH.cons (o := ⟨none, _, _, _, _, none⟩) rfl (fun K hK => ?_) AllReadyH.nil
      have cp3 : w3.cell? ⟨w1.heap.size + 1, 0, none⟩ = some (.slice (some ⟨w1.heap.size, 0, none⟩) P P) := keepD k3 (keepA (.cells #[.int .i64 (-1)] 3) cp)
      have cN3 : w3.cell? ⟨w.heap.size, 0, none⟩ = some (.int .i64 (P : Int)) := keepD k3 (keepA (.cells #[.int .i64 (-1)] 3) cN)
      have hk3 : Below wr.heap.size wr w3 := Below.trans (by go_grown) (k3.mono (by simp))
      have ht3 := there_below HTH.out hk3 (by omega)
      obtain ⟨u, hu⟩ := Option.isSome_iff_exists.1 (ht3 k hlt).1
      have hf3 := (ht3 k hlt).2
      rw [Nat.zero_add] at hu hf3
      have gB : wr.heap.size < g := by simp at hg1; omega
      go_simp
      refine hK.out _ _ ?_ (fun hHeld => ?_)
      · exact ⟨by simp [go_sem, cp3, nq1, nq2], by simp [go_sem, cN3, nq3, nq4]⟩
      clear hK K
      try simp only [Act.put, List.setIfInBounds_toArray, List.set_cons_zero, List.set_cons_succ]
      refine wpAnyH_done (by kernel_rfl) ?_ _
      have hTab3 := HTAB.out.below (by omega) hk3
      have gcell : w3.cell? ⟨g, k, none⟩ = some (.int .i64 (-1)) := by simp [World.cell?, hg3, hlt]
      have gfz : w3.frozen? ⟨g, k, none⟩ = false := by simp [World.frozen?, hg3]
      have nq5 : ¬ g = w1.heap.size := by omega
      have nq6 : ¬ w1.heap.size = g := by omega
      have nq7 : ¬ g = w1.heap.size + 1 := by omega
      have nq8 : ¬ w1.heap.size + 1 = g := by omega
      have hadd := hTab3.add (g := g) (T := 3) hlt ht3 (by omega) (by rw [hg3]) (by omega) (fun i hi => by have := HTAB.out.lt i hi; omega)
      have HADD := Lib.hid hadd
      clear hadd hTab3
      go_wp2
      go_roundw
      case rel =>
        refine ⟨k + 1, fun i => if i = k then g else rb i, by omega, by go_num, HADD.out.1, HADD.out.2.1, ?_, ?_, ?_⟩
        · simp [go_sem, cp3, nq1, nq2, nq7, nq8]
        · exact Br.trans ((hk3.mono (by omega)).trans (HADD.out.2.2))
        · exact Nat.lt_of_lt_of_le zr (Nat.le_trans hk3.size HADD.out.2.2.size)
      case measure => simp [intOf]; omega
    · obtain rfl : P = k := by omega
      have cN' : wr.cell? ⟨w.heap.size, 0, none⟩ = some (.int .i64 (P : Int)) := keepC Br cN z1
      have cW' : wr.cell? ⟨w.heap.size, 1, none⟩ = some (.slice q.wa q.wl q.wc) := keepC Br cW z1
      obtain ⟨aw, haw⟩ : ∃ aw, q.wa = aw := ⟨_, rfl⟩
      rw [haw] at cW'
      have HAW := Lib.hid haw
      clear cN cW haw
      go_wp2_with fail
      have hwl := h.ways.1
      have hwm := h.ways.2.1
      have HWC := Lib.hid h.ways.2.2.2
      refine gen_code (S := fun V => Tab V w1.heap.size (w1.heap.size + 2) P P rb startT ∧ V.cell? ⟨w1.heap.size + 1, 0, none⟩ = some (.slice (some ⟨w1.heap.size, 0, none⟩) P P) ∧ V.cell? ⟨w.heap.size, 0, none⟩ = some (.int .i64 (P : Int)) ∧ w1.heap.size + 2 ≤ V.heap.size ∧ Below w.heap.size w V) ⟨HTAB.out, cp, cN', by omega, B1.trans (Br.mono (by omega))⟩ (fun V hV => ?_)
      clear HTH zr HTAB cp cN' cW' B1 Br
      obtain ⟨htab, cp, cN, zV, BV⟩ := hV
      have HTAB := Lib.hid htab
      clear htab
      go_loopw [41] (fun i wq => ∃ k : Nat, k ≤ q.wl ∧ i = .int .i64 k ∧ Tab wq w1.heap.size (w1.heap.size + 2) P P rb (addWays startT (s.ways.take k)) ∧ Below (w1.heap.size + 2) V wq) (fun i _ => q.wl - (intOf i).toNat)
      case atStart => exact ⟨0, by omega, rfl, by rw [List.take_zero]; exact HTAB.out, Below.refl _ _⟩
      case round =>
        obtain ⟨k, hk, rfl, htq, Bq⟩ := hrel
        have HTQ := Lib.hid htq
        have cpq : wr.cell? ⟨w1.heap.size + 1, 0, none⟩ = some (.slice (some ⟨w1.heap.size, 0, none⟩) P P) := keepC Bq cp (by simp)
        have zr : w1.heap.size + 2 ≤ wr.heap.size := Nat.le_trans zV Bq.size
        clear htq
        by_cases hlt : k < q.wl
        · obtain ⟨b, off, hqa, hbl, hcell⟩ := HWC.out.resolve_left (by omega)
          obtain rfl : aw = some ⟨b, off, none⟩ := HAW.out.symm.trans hqa
          clear hqa
          have Bw : Below w.heap.size w wr := BV.trans (Bq.mono (by omega))
          have hcl := hcell k hlt
          have d0 := keepC Bw hcl.1 hbl
          have d1 := keepC Bw hcl.2.1 hbl
          have d2 := keepC Bw hcl.2.2 hbl
          have hmem := getD_mem_3 (l := s.ways) (k := k) (by omega)
          have htake : s.ways.take (k + 1) = s.ways.take k ++ [s.ways.getD k (0, 0, 0)] := by
            rw [List.take_succ_eq_append_getElem (by omega), List.getD_eq_getElem?_getD, List.getElem?_eq_getElem (by omega)]; rfl
          obtain ⟨x0, x1, x2, hxy⟩ : ∃ x0 x1 x2, s.ways.getD k (0, 0, 0) = (x0, x1, x2) := ⟨_, _, _, rfl⟩
          rw [hxy] at d0 d1 d2 hmem htake
          have hlo := hw.lo _ hmem
          have hpo := hw.pos _ hmem
          simp only at d0 d1 d2 hlo hpo
          obtain ⟨A, rfl⟩ := Int.eq_ofNat_of_zero_le hlo.1
          obtain ⟨B, rfl⟩ := Int.eq_ofNat_of_zero_le hlo.2.2.1
          have hA : A < P := by omega
          have hB : B < P := by omega
          have hbr : b < wr.heap.size := Nat.lt_of_lt_of_le hbl Bw.size
          have hk1 : (k : Int) < (q.wl : Int) := by omega
          have HTK := Lib.hid htake
          have HXY := Lib.hid hxy
          have HCELL := Lib.hid hcell
          clear htake hxy hcell hcl hmem
          go_wp2_with fail
          have HT1 := HTQ.out.below (by omega) (show Below wr.heap.size wr (wr.alloc (.cells #[.int .i64 (A : Int), .int .i64 (B : Int), .int .i64 x2] 58)) by go_grown)
          have hnr : ∀ i, i < P → rb i ≠ wr.heap.size := fun i hi => by have := HTQ.out.lt i hi; omega
          have hnp : ∀ i, i < P → rb i ≠ w1.heap.size + 1 := fun i hi => by have := HTQ.out.low i hi; omega
          have HNR := Lib.hid hnr
          have HNP := Lib.hid hnp
          clear hnr hnp
          refine (way_near w1.heap.size (w1.heap.size + 2) P rb _ (w1.heap.size + 1) A B x2 _ HT1 (keepA _ cpq) hA hB hP.2).mono ?_
          rintro e4 w4 ⟨rfl, ht4, k4, o4⟩
          have g0 : w4.cell? ⟨wr.heap.size, 0, none⟩ = some (.int .i64 (A : Int)) := (o4 _ _ HNR.out).trans (by simp [go_sem])
          have g1 : w4.cell? ⟨wr.heap.size, 1, none⟩ = some (.int .i64 (B : Int)) := (o4 _ _ HNR.out).trans (by simp [go_sem])
          have g2 : w4.cell? ⟨wr.heap.size, 2, none⟩ = some (.int .i64 x2) := (o4 _ _ HNR.out).trans (by simp [go_sem])
          have cp4 : w4.cell? ⟨w1.heap.size + 1, 0, none⟩ = some (.slice (some ⟨w1.heap.size, 0, none⟩) P P) := (o4 _ _ HNP.out).trans (keepA _ cpq)
          have HT4 := Lib.hid ht4
          have Bw4 : Below (w1.heap.size + 2) V w4 := (Bq.alloc zr _).trans k4
          clear ht4 o4 k4 HT1 d0 d1 d2 cpq
          go_wp2_with fail
          refine (way_near w1.heap.size (w1.heap.size + 2) P rb _ (w1.heap.size + 1) B A x2 _ HT4.out cp4 hB hA hP.2).mono ?_
          rintro e5 w5 ⟨rfl, ht5, k5, o5⟩
          have HT5 := Lib.hid ht5
          clear ht5 o5
          go_wp2_with fail
          go_roundw
          case rel =>
            refine ⟨k + 1, by omega, by go_num, ?_, Bw4.trans k5⟩
            have e : addWays startT (s.ways.take (k + 1)) = near (near (addWays startT (s.ways.take k)) A B x2) B A x2 := by
              rw [HTK.out]
              unfold addWays
              rw [List.foldl_append]
              rfl
            rw [e]
            exact HT5.out
          case measure => simp [intOf]; omega
        · obtain rfl : q.wl = k := by omega
          have htk : s.ways.take q.wl = s.ways := List.take_of_length_le (by omega)
          have HTW := Lib.hid htk
          clear htk
          have cN' : wr.cell? ⟨w.heap.size, 0, none⟩ = some (.int .i64 (P : Int)) := keepC Bq cN (by simp only; omega)
          go_wp2_with fail
          refine gen_code (S := fun V => Tab V w1.heap.size (w1.heap.size + 2) P P rb (addWays startT s.ways) ∧ V.cell? ⟨w1.heap.size + 1, 0, none⟩ = some (.slice (some ⟨w1.heap.size, 0, none⟩) P P) ∧ V.cell? ⟨w.heap.size, 0, none⟩ = some (.int .i64 (P : Int)) ∧ w1.heap.size + 2 ≤ V.heap.size ∧ Below w.heap.size w V) ⟨by have := HTQ.out; rw [HTW.out] at this; exact this, cpq, cN', zr, BV.trans (Bq.mono (by omega))⟩ (fun V2 hV2 => ?_)
          clear HTQ HTW cpq cN' cp cN zr zV Bq BV hP0 HTAB
          obtain ⟨ht2, cp, cN, zV, BV⟩ := hV2
          obtain ⟨t0, ht0⟩ : ∃ t0, addWays startT s.ways = t0 := ⟨_, rfl⟩
          have htb : ∀ k, k ≤ P → Table s.ways P k (byT t0 k) := fun k hk => by rw [← ht0]; exact byT_table (Told.all hw s.ways [] startT (fun _ hx => hx) .start).table k hk
          have hbd : ∀ k, k ≤ 16 → ∀ a b, byT t0 k a b ≤ 1000000000 := fun k hk => by rw [← ht0]; exact byT_le (addWays_le hw s.ways startT (fun _ hx => hx) startT_le) k hk
          have htp : tableP P s.ways = byT t0 P := by rw [← ht0]; rfl
          rw [ht0] at ht2
          have HT0 := Lib.hid ht0
          have HTB := Lib.hid htb
          have HBD := Lib.hid hbd
          have HTP := Lib.hid htp
          have HT2 := Lib.hid ht2
          clear ht0 htb hbd htp ht2
          go_loopg [64] P (fun g i wx => ∃ k : Nat, k ≤ P ∧ g = P - k ∧ i = .int .i64 k ∧ Tab wx w1.heap.size (w1.heap.size + 2) P P rb (byT t0 k) ∧ Below (w1.heap.size + 2) V2 wx)
          case atStart => exact ⟨0, by omega, by omega, rfl, HT2.out, Below.refl _ _⟩
          case round =>
            obtain ⟨k, hk, rfl, rfl, htk, Bk⟩ := hrel
            have cpk := keepC Bk cp (by simp)
            have cNk := keepC Bk cN (by simp only; omega)
            have HTK := Lib.hid htk
            clear htk HT2
            by_cases hlt : k < P
            · have hk0 : (0 : Int) ≤ (k : Int) := by omega
              have hk1 : (k : Int) < (P : Int) := by omega
              have hT := HTB.out k hk
              have hBd := HBD.out k (by omega)
              obtain ⟨t, htt⟩ : ∃ t, byT t0 k = t := ⟨_, rfl⟩
              rw [htt] at hT
              simp only [htt] at hBd
              have HTK2 := HTK.out
              rw [htt] at HTK2
              clear HTK
              have HTK := Lib.hid HTK2
              have HTT := Lib.hid htt
              clear htt HTK2
              have HT := Lib.hid hT
              have HBd := Lib.hid hBd
              clear hT hBd
              go_wp2_with fail
              go_step3
              go_wp2_with fail
              go_step3
              go_wp2_with fail
              go_loopg [69] P (fun g i wx => ∃ a : Nat, a ≤ P ∧ g = P - a ∧ i = .int .i64 a ∧ Tab wx w1.heap.size (w1.heap.size + 2) P P rb (mixT t k a 0) ∧ Below (w1.heap.size + 2) V2 wx)
              case atStart => exact ⟨0, by omega, by omega, rfl, by rw [mixT_start]; exact HTK.out, Bk⟩
              case round =>
                obtain ⟨a, ha, rfl, rfl, hta, Ba⟩ := hrel
                have cpa := keepC Ba cp (by simp)
                have HTA := Lib.hid hta
                clear hta HTK cpk cNk Bk
                by_cases hlta : a < P
                · have ha0 : (0 : Int) ≤ (a : Int) := by omega
                  have ha1 : (a : Int) < (P : Int) := by omega
                  have c1 := HTA.out.hdr a hlta
                  have c2 := HTA.out.cell a k hlta hlt
                  rw [mixT_col HT.out hlt a 0 a hlta] at c2
                  have hge : t a k = -1 ∨ 0 ≤ t a k := by rcases HT.out.sound a k hlta hlt with z | ⟨z, _⟩ <;> omega
                  rcases hge with hfar | hnear
                  · have e1 : (t a k == -1) = true := by simp [hfar]
                    go_wp2_with fail
                    go_roundg (P - (a + 1))
                    case measure => omega
                    case rel => exact ⟨a + 1, by omega, rfl, by go_num, HTA.out.same fun i j hi hj => (mixT_skip_row HT.out hlt a i j hlta hj hfar).symm, Ba⟩
                  · have e1 : (t a k == -1) = false := by simp; omega
                    have c3 := HTA.out.hdr k hlt
                    have hB1 := HBd.out a k
                    go_wp2_with fail
                    go_loopg [85] P (fun g i wx => ∃ b : Nat, b ≤ P ∧ g = P - b ∧ i = .int .i64 b ∧ Tab wx w1.heap.size (w1.heap.size + 2) P P rb (mixT t k a b) ∧ Below (w1.heap.size + 2) V2 wx)
                    case atStart => exact ⟨0, by omega, by omega, rfl, HTA.out, Ba⟩
                    case round =>
                      obtain ⟨b, hb, rfl, rfl, htb, Bb⟩ := hrel
                      have cpb := keepC Bb cp (by simp)
                      have HTBB := Lib.hid htb
                      clear htb HTA cpa Ba c1 c2 c3 e1
                      by_cases hltb : b < P
                      · have hb0 : (0 : Int) ≤ (b : Int) := by omega
                        have hb1 : (b : Int) < (P : Int) := by omega
                        have c1 := HTBB.out.hdr a hlta
                        have c2 := HTBB.out.cell a k hlta hlt
                        have c4 := HTBB.out.cell k b hlt hltb
                        rw [mixT_col HT.out hlt a b a hlta] at c2
                        rw [mixT_row HT.out hlt a b b hltb] at c4
                        have hB2 := HBd.out k b
                        have hge2 : t k b = -1 ∨ 0 ≤ t k b := by rcases HT.out.sound k b hlt hltb with z | ⟨z, _⟩ <;> omega
                        rcases hge2 with hfar | hnear2
                        · have q1 : (t k b == -1) = true := by simp [hfar]
                          have q2 : (t k b != -1) = false := by simp [hfar]
                          go_wp2_with fail
                          go_roundg (P - (b + 1))
                          case measure => omega
                          case rel => exact ⟨b + 1, by omega, rfl, by go_num, by rw [mixT_skip HT.out hlt a b hlta hltb (.inr hfar)]; exact HTBB.out, Bb⟩
                        · have q1 : (t k b == -1) = false := by simp; omega
                          have q2 : (t k b != -1) = true := by simp; omega
                          go_wp2_with fail
                          refine (way_near w1.heap.size (w1.heap.size + 2) P rb _ (w1.heap.size + 1) a b (t a k + t k b) _ HTBB.out cpb hlta hltb hP.2).mono ?_
                          rintro e5 w5 ⟨rfl, ht5, k5, o5⟩
                          rw [mixT_step HT.out hlt a b hlta hltb hnear hnear2] at ht5
                          have HT5 := Lib.hid ht5
                          clear ht5 o5 HTBB cpb c1 c2 c4
                          go_wp2_with fail
                          go_roundg (P - (b + 1))
                          case measure => omega
                          case rel => exact ⟨b + 1, by omega, rfl, by go_num, HT5.out, Bb.trans k5⟩
                      · obtain rfl : P = b := by omega
                        go_wp2_with fail
                        go_roundg (P - (a + 1))
                        case measure => omega
                        case rel => exact ⟨a + 1, by omega, rfl, by go_num, HTBB.out.same fun i j _ hj => mixT_wrap a i j hj, Bb⟩
                · obtain rfl : P = a := by omega
                  go_wp2_with fail
                  rw [Exit.noGoto_normal]
                  go_wp2_with fail
                  go_roundg (P - (k + 1))
                  case measure => omega
                  case rel => exact ⟨k + 1, by omega, rfl, by go_num, HTA.out.same fun i j hi _ => (mixT_end i j hi).trans (by show _ = nextT (byT t0 k) k i j; rw [HTT.out]), Ba⟩
            · obtain rfl : P = k := by omega
              go_wp2_with fail
              go_ret
              refine ⟨w1.heap.size, w1.heap.size + 2, rb, ?_, ?_, by omega, ?_, BV.trans (Bk.mono (by omega))⟩
              · rw [HPL.out]; simp
              · rw [HPL.out]; simp only [Int.toNat_natCast]; rw [HTP.out]; exact HTK.out
              · have := Bk.size; omega

end Go.Proofs.Ytnjckaifgmliaaa
