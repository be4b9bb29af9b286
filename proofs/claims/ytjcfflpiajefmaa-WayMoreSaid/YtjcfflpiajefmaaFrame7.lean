/- WHAT THE STATEMENTS' FRAMES SHARE: a setup that came in; seven seconds that came in. -/
import Derived.Test.YtjcfflpiajefmaaFrame2
import Derived.Test.YtjcfflpiajefmaaSetupCheck
set_option linter.unusedSimpArgs false
set_option linter.unusedVariables false
namespace Go.Proofs.Ytjcfflpiajefmaa
open Go.ChangeShapes Go.WideShapes Go.ChangeAt Go.RowKit Go.Joins Go.Deep Lu

theorem slice_of {H : Type} {enc : TypeId × Value → H} {W : World} {base fuel : Nat} {sp : Nat → Bool} {held : Bool} {t e : TypeId} {c : Value} {x : DataW H × List MemPlace} (ht : Try.prog.underlying t = some (.slice e))
    (h : DataW.trod enc Try.prog W base sp held fuel t [c] = some x) : ∃ a len cap, c = .slice a len cap := by
  rcases open_slice ht h with ⟨hcs, _⟩ | ⟨a, len, cap, m, n, D, Pl, hcs, _⟩
  · exact ⟨none, 0, 0, by simpa using hcs⟩
  · exact ⟨some a, len, cap, by simpa using hcs⟩


theorem ratio_cells {H : Type} {enc : TypeId × Value → H} {W : World} {base fuel : Nat} {sp : Nat → Bool} {held : Bool} {c0 c1 : Value} {x : DataW H × List MemPlace}
    (h : DataW.trod enc Try.prog W base sp held fuel 24 [c0, c1] = some x) : ∃ u v : Int, c0 = .int .i64 u ∧ c1 = .int .i64 v ∧ (Lit.int .i64 u).wf = true ∧ (Lit.int .i64 v).wf = true := by
  obtain ⟨ys, k, _, _, hlen, hyl, hfs⟩ := DataW.trod_struct Try.underlying24 h
  have f0 : DataW.trod enc Try.prog W base sp held k 3 [c0] = ys[0]? := by have := hfs 0 _ rfl; simpa [cellsInt] using this
  have f1 : DataW.trod enc Try.prog W base sp held k 3 [c1] = ys[1]? := by have := hfs 1 _ rfl; simpa [cellsInt] using this
  have g0 : ys[0]? = some (ys[0]'(by rw [hyl]; decide)) := List.getElem?_eq_getElem _
  have g1 : ys[1]? = some (ys[1]'(by rw [hyl]; decide)) := List.getElem?_eq_getElem _
  rw [g0] at f0
  rw [g1] at f1
  obtain ⟨u, e0, _, wu⟩ := DataW.trod_int Try.underlying3 f0
  obtain ⟨v, e1, _, wv⟩ := DataW.trod_int Try.underlying3 f1
  simp at e0 e1
  exact ⟨u, v, e0, e1, wu, wv⟩


theorem cells_Ways : Try.prog.cellsOf 55 = 3 := by kernel_rfl
set_option maxRecDepth 100000 in
theorem open_Ways {H : Type} {enc : TypeId × Value → H} {W : World} {base : Nat} {sp : Nat → Bool} {held : Bool} {a : Option Addr} {len cap : Nat} {d : DataW H} {p : List MemPlace}
    (h : DataW.Trod enc Try.prog W base sp held 22 (.slice a len cap) d p) : ∃ rs, Recs3 W a len rs := by
  obtain ⟨fuel, hf⟩ := h
  rcases open_slice Try.underlying22 hf with ⟨hcs, _⟩ | ⟨x, l, c, m, n, D, Pl, hcs, hb, hl, hm, hmm, hx, hi⟩
  · simp [Value.cells] at hcs
    obtain ⟨rfl, rfl, rfl⟩ := hcs
    exact ⟨[], rfl, by decide, by simp, Or.inl rfl⟩
  · simp [Value.cells] at hcs
    obtain ⟨rfl, rfl, rfl⟩ := hcs
    unfold maxLen at hm
    have hlm : len ≤ m := by rw [hmm]; split <;> omega
    have each : ∀ i, ∃ r : Int × Int × Int, i < len → In r.1 ∧ In r.2.1 ∧ In r.2.2 ∧ W.cell? (x.add (i * 3)) = some (.int .i64 r.1) ∧ W.cell? (x.add (i * 3 + 1)) = some (.int .i64 r.2.1) ∧ W.cell? (x.add (i * 3 + 2)) = some (.int .i64 r.2.2) := by
      intro i
      by_cases hlt : i < len
      · obtain ⟨cs, hc, ht⟩ := hi i (by omega)
        rw [cells_Ways] at hc
        obtain ⟨ys, k, _, _, hlen, hyl, hfs⟩ := DataW.trod_struct Try.underlying55 ht
        obtain ⟨_, hcl, hat⟩ := World.cells?_some hc
        match cs, hcl with
        | [c0, c1, c2], _ =>
          have f0 : DataW.trod enc Try.prog W base sp held k 3 [c0] = ys[0]? := by have := hfs 0 _ rfl; simpa [cellsInt, cellsRatio] using this
          have g0 : ys[0]? = some (ys[0]'(by rw [hyl]; decide)) := List.getElem?_eq_getElem _
          rw [g0] at f0
          obtain ⟨u0, e0, _, w0⟩ := DataW.trod_int Try.underlying3 f0
          have f1 : DataW.trod enc Try.prog W base sp held k 3 [c1] = ys[1]? := by have := hfs 1 _ rfl; simpa [cellsInt, cellsRatio] using this
          have g1 : ys[1]? = some (ys[1]'(by rw [hyl]; decide)) := List.getElem?_eq_getElem _
          rw [g1] at f1
          obtain ⟨u1, e1, _, w1⟩ := DataW.trod_int Try.underlying3 f1
          have f2 : DataW.trod enc Try.prog W base sp held k 3 [c2] = ys[2]? := by have := hfs 2 _ rfl; simpa [cellsInt, cellsRatio] using this
          have g2 : ys[2]? = some (ys[2]'(by rw [hyl]; decide)) := List.getElem?_eq_getElem _
          rw [g2] at f2
          obtain ⟨u2, e2, _, w2⟩ := DataW.trod_int Try.underlying3 f2
          simp at e0 e1 e2
          subst e0 e1 e2
          refine ⟨(u0, u1, u2), fun _ => ⟨in_i64 w0, in_i64 w1, in_i64 w2, ?_, ?_, ?_⟩⟩
          · have := hat 0 (by decide)
            rw [add_add] at this
            exact this
          · have := hat 1 (by decide)
            rw [add_add] at this
            exact this
          · have := hat 2 (by decide)
            rw [add_add] at this
            exact this
      · exact ⟨(0, 0, 0), fun h => absurd h hlt⟩
    obtain ⟨f, hf'⟩ := Classical.axiomOfChoice each
    have hget : ∀ i, i < len → ((List.range len).map f).getD i (0, 0, 0) = f i := by
      intro i hlt
      rw [List.getD_eq_getElem?_getD, List.getElem?_map, List.getElem?_range hlt]
      rfl
    refine ⟨(List.range len).map f, by simp, by omega, ?_, ?_⟩
    · intro r hr
      obtain ⟨i, hi', rfl⟩ := List.mem_map.1 hr
      have := hf' i (List.mem_range.1 hi')
      exact ⟨this.1, this.2.1, this.2.2.1⟩
    · by_cases h0 : len = 0
      · exact Or.inl h0
      · right
        obtain ⟨b, off, spot⟩ := x
        have hc := (hf' 0 (by omega)).2.2.2.1
        have hspot : spot = none := by simpa [Addr.add] using World.cell?_spot hc
        subst hspot
        have hblk : b < W.heap.size := by
          have := World.block_lt_of_cell? W _ hc
          simpa [Addr.add] using this
        refine ⟨b, off, rfl, hblk, fun i hlt => ?_⟩
        have := hf' i hlt
        rw [hget i hlt]
        rw [Addr.add_lit, Addr.add_lit, Addr.add_lit] at this
        exact ⟨this.2.2.2.1, by rw [Nat.add_assoc]; exact this.2.2.2.2.1, by rw [Nat.add_assoc]; exact this.2.2.2.2.2⟩


theorem cells_Elements : Try.prog.cellsOf 79 = 4 := by kernel_rfl
set_option maxRecDepth 100000 in
theorem open_Elements {H : Type} {enc : TypeId × Value → H} {W : World} {base : Nat} {sp : Nat → Bool} {held : Bool} {a : Option Addr} {len cap : Nat} {d : DataW H} {p : List MemPlace}
    (h : DataW.Trod enc Try.prog W base sp held 25 (.slice a len cap) d p) : ∃ rs, Recs4 W a len rs := by
  obtain ⟨fuel, hf⟩ := h
  rcases open_slice Try.underlying25 hf with ⟨hcs, _⟩ | ⟨x, l, c, m, n, D, Pl, hcs, hb, hl, hm, hmm, hx, hi⟩
  · simp [Value.cells] at hcs
    obtain ⟨rfl, rfl, rfl⟩ := hcs
    exact ⟨[], rfl, by decide, by simp, Or.inl rfl⟩
  · simp [Value.cells] at hcs
    obtain ⟨rfl, rfl, rfl⟩ := hcs
    unfold maxLen at hm
    have hlm : len ≤ m := by rw [hmm]; split <;> omega
    have each : ∀ i, ∃ r : Int × Int × Int × Int, i < len → In r.1 ∧ In r.2.1 ∧ In r.2.2.1 ∧ In r.2.2.2 ∧ W.cell? (x.add (i * 4)) = some (.int .i64 r.1) ∧ W.cell? (x.add (i * 4 + 1)) = some (.int .i64 r.2.1) ∧ W.cell? (x.add (i * 4 + 2)) = some (.int .i64 r.2.2.1) ∧ W.cell? (x.add (i * 4 + 3)) = some (.int .i64 r.2.2.2) := by
      intro i
      by_cases hlt : i < len
      · obtain ⟨cs, hc, ht⟩ := hi i (by omega)
        rw [cells_Elements] at hc
        obtain ⟨ys, k, _, _, hlen, hyl, hfs⟩ := DataW.trod_struct Try.underlying79 ht
        obtain ⟨_, hcl, hat⟩ := World.cells?_some hc
        match cs, hcl with
        | [c0, c1, c2, c3], _ =>
          have f0 : DataW.trod enc Try.prog W base sp held k 24 [c0, c1] = ys[0]? := by have := hfs 0 _ rfl; simpa [cellsInt, cellsRatio] using this
          have g0 : ys[0]? = some (ys[0]'(by rw [hyl]; decide)) := List.getElem?_eq_getElem _
          rw [g0] at f0
          obtain ⟨u0, u1, e0, e1, w0, w1⟩ := ratio_cells f0
          have f1 : DataW.trod enc Try.prog W base sp held k 24 [c2, c3] = ys[1]? := by have := hfs 1 _ rfl; simpa [cellsInt, cellsRatio] using this
          have g1 : ys[1]? = some (ys[1]'(by rw [hyl]; decide)) := List.getElem?_eq_getElem _
          rw [g1] at f1
          obtain ⟨u2, u3, e2, e3, w2, w3⟩ := ratio_cells f1
          subst e0 e1 e2 e3
          refine ⟨(u0, u1, u2, u3), fun _ => ⟨in_i64 w0, in_i64 w1, in_i64 w2, in_i64 w3, ?_, ?_, ?_, ?_⟩⟩
          · have := hat 0 (by decide)
            rw [add_add] at this
            exact this
          · have := hat 1 (by decide)
            rw [add_add] at this
            exact this
          · have := hat 2 (by decide)
            rw [add_add] at this
            exact this
          · have := hat 3 (by decide)
            rw [add_add] at this
            exact this
      · exact ⟨(0, 0, 0, 0), fun h => absurd h hlt⟩
    obtain ⟨f, hf'⟩ := Classical.axiomOfChoice each
    have hget : ∀ i, i < len → ((List.range len).map f).getD i (0, 0, 0, 0) = f i := by
      intro i hlt
      rw [List.getD_eq_getElem?_getD, List.getElem?_map, List.getElem?_range hlt]
      rfl
    refine ⟨(List.range len).map f, by simp, by omega, ?_, ?_⟩
    · intro r hr
      obtain ⟨i, hi', rfl⟩ := List.mem_map.1 hr
      have := hf' i (List.mem_range.1 hi')
      exact ⟨this.1, this.2.1, this.2.2.1, this.2.2.2.1⟩
    · by_cases h0 : len = 0
      · exact Or.inl h0
      · right
        obtain ⟨b, off, spot⟩ := x
        have hc := (hf' 0 (by omega)).2.2.2.2.1
        have hspot : spot = none := by simpa [Addr.add] using World.cell?_spot hc
        subst hspot
        have hblk : b < W.heap.size := by
          have := World.block_lt_of_cell? W _ hc
          simpa [Addr.add] using this
        refine ⟨b, off, rfl, hblk, fun i hlt => ?_⟩
        have := hf' i hlt
        rw [hget i hlt]
        rw [Addr.add_lit, Addr.add_lit, Addr.add_lit, Addr.add_lit] at this
        exact ⟨this.2.2.2.2.1, by rw [Nat.add_assoc]; exact this.2.2.2.2.2.1, by rw [Nat.add_assoc]; exact this.2.2.2.2.2.2.1, by rw [Nat.add_assoc]; exact this.2.2.2.2.2.2.2⟩


theorem cells_Tiers : Try.prog.cellsOf 47 = 2 := by kernel_rfl
set_option maxRecDepth 100000 in
theorem open_Tiers {H : Type} {enc : TypeId × Value → H} {W : World} {base : Nat} {sp : Nat → Bool} {held : Bool} {a : Option Addr} {len cap : Nat} {d : DataW H} {p : List MemPlace}
    (h : DataW.Trod enc Try.prog W base sp held 28 (.slice a len cap) d p) : ∃ rs, Ratios W a len rs := by
  obtain ⟨fuel, hf⟩ := h
  rcases open_slice Try.underlying28 hf with ⟨hcs, _⟩ | ⟨x, l, c, m, n, D, Pl, hcs, hb, hl, hm, hmm, hx, hi⟩
  · simp [Value.cells] at hcs
    obtain ⟨rfl, rfl, rfl⟩ := hcs
    exact ⟨[], rfl, by decide, by simp, Or.inl rfl⟩
  · simp [Value.cells] at hcs
    obtain ⟨rfl, rfl, rfl⟩ := hcs
    unfold maxLen at hm
    have hlm : len ≤ m := by rw [hmm]; split <;> omega
    have each : ∀ i, ∃ r : Int × Int, i < len → In r.1 ∧ In r.2 ∧ W.cell? (x.add (i * 2)) = some (.int .i64 r.1) ∧ W.cell? (x.add (i * 2 + 1)) = some (.int .i64 r.2) := by
      intro i
      by_cases hlt : i < len
      · obtain ⟨cs, hc, ht⟩ := hi i (by omega)
        rw [cells_Tiers] at hc
        obtain ⟨ys, k, _, _, hlen, hyl, hfs⟩ := DataW.trod_struct Try.underlying47 ht
        obtain ⟨_, hcl, hat⟩ := World.cells?_some hc
        match cs, hcl with
        | [c0, c1], _ =>
          have f0 : DataW.trod enc Try.prog W base sp held k 3 [c0] = ys[0]? := by have := hfs 0 _ rfl; simpa [cellsInt, cellsRatio] using this
          have g0 : ys[0]? = some (ys[0]'(by rw [hyl]; decide)) := List.getElem?_eq_getElem _
          rw [g0] at f0
          obtain ⟨u0, e0, _, w0⟩ := DataW.trod_int Try.underlying3 f0
          have f1 : DataW.trod enc Try.prog W base sp held k 3 [c1] = ys[1]? := by have := hfs 1 _ rfl; simpa [cellsInt, cellsRatio] using this
          have g1 : ys[1]? = some (ys[1]'(by rw [hyl]; decide)) := List.getElem?_eq_getElem _
          rw [g1] at f1
          obtain ⟨u1, e1, _, w1⟩ := DataW.trod_int Try.underlying3 f1
          simp at e0 e1
          subst e0 e1
          refine ⟨(u0, u1), fun _ => ⟨in_i64 w0, in_i64 w1, ?_, ?_⟩⟩
          · have := hat 0 (by decide)
            rw [add_add] at this
            exact this
          · have := hat 1 (by decide)
            rw [add_add] at this
            exact this
      · exact ⟨(0, 0), fun h => absurd h hlt⟩
    obtain ⟨f, hf'⟩ := Classical.axiomOfChoice each
    have hget : ∀ i, i < len → ((List.range len).map f).getD i (0, 0) = f i := by
      intro i hlt
      rw [List.getD_eq_getElem?_getD, List.getElem?_map, List.getElem?_range hlt]
      rfl
    refine ⟨(List.range len).map f, by simp, by omega, ?_, ?_⟩
    · intro r hr
      obtain ⟨i, hi', rfl⟩ := List.mem_map.1 hr
      have := hf' i (List.mem_range.1 hi')
      exact ⟨this.1, this.2.1⟩
    · by_cases h0 : len = 0
      · exact Or.inl h0
      · right
        obtain ⟨b, off, spot⟩ := x
        have hc := (hf' 0 (by omega)).2.2.1
        have hspot : spot = none := by simpa [Addr.add] using World.cell?_spot hc
        subst hspot
        have hblk : b < W.heap.size := by
          have := World.block_lt_of_cell? W _ hc
          simpa [Addr.add] using this
        refine ⟨b, off, rfl, hblk, fun i hlt => ?_⟩
        have := hf' i hlt
        rw [hget i hlt]
        rw [Addr.add_lit, Addr.add_lit] at this
        exact ⟨this.2.2.1, by rw [Nat.add_assoc]; exact this.2.2.2⟩


theorem cells_Setup : Try.prog.cellsOf 30 = 23 := by kernel_rfl
theorem cells_sl0 : Try.prog.cellsOf 22 = 1 := by kernel_rfl
theorem cells_sl1 : Try.prog.cellsOf 25 = 1 := by kernel_rfl
theorem cells_sl2 : Try.prog.cellsOf 26 = 1 := by kernel_rfl
theorem cells_sl3 : Try.prog.cellsOf 27 = 1 := by kernel_rfl
theorem cells_sl4 : Try.prog.cellsOf 28 = 1 := by kernel_rfl
set_option maxRecDepth 100000 in
set_option maxHeartbeats 4000000 in
theorem open_Setup {H : Type} {enc : TypeId × Value → H} {W : World} {b0 base : Nat} {sp : Nat → Bool} {held : Bool} {r : Reach} {v : Value} {d : DataW H} {p : List MemPlace}
    (hv : Value.okWide Try.prog W r b0 30 v) (h : DataW.Trod enc Try.prog W base sp held 30 v d p) : ∃ s q, v = .agg #[.int .i64 s.places, .slice q.wa q.wl q.wc, .int .i64 s.pn, .int .i64 s.pd, .slice q.ea q.el q.ec, .slice q.ca q.cl q.cc, .slice q.ga q.gl q.gc, .int .i64 s.allow, .int .i64 s.unit, .int .i64 s.cap, .int .i64 s.paidBreak, .int .i64 s.autoAfter, .int .i64 s.autoBreak, .int .i64 s.dayReg, .int .i64 s.dayOver, .int .i64 s.weekReg, .int .i64 s.nightFrom, .int .i64 s.nightTo, .slice q.ra q.rl q.rc, .int .i64 s.diff, .int .i64 s.least, .int .i64 s.fault, .slice q.ta q.tl q.tc] ∧ SetupIs W s q := by
  obtain ⟨cs, rfl, hsz⟩ := okWide_struct Try.underlying30 hv
  obtain ⟨l⟩ := cs
  match l, hsz.trans cells_Setup with
  | [c0, c1, c2, c3, c4, c5, c6, c7, c8, c9, c10, c11, c12, c13, c14, c15, c16, c17, c18, c19, c20, c21, c22], _ =>
    obtain ⟨fuel, hf⟩ := h
    obtain ⟨ys, n, _, _, hlen, hyl, hg⟩ := DataW.trod_struct Try.underlying30 hf
    have f0 : DataW.trod enc Try.prog W base sp held n 3 [c0] = ys[0]? := by have := hg 0 _ rfl; simpa [cellsInt, cellsRatio, cells_sl0, cells_sl1, cells_sl2, cells_sl3, cells_sl4, Value.cells] using this
    rw [show ys[0]? = some (ys[0]'(by rw [hyl]; decide)) from List.getElem?_eq_getElem _] at f0
    obtain ⟨u0, e0, _, w0⟩ := DataW.trod_int Try.underlying3 f0
    obtain rfl : c0 = .int .i64 u0 := by simpa using e0
    have f1 : DataW.trod enc Try.prog W base sp held n 22 [c1] = ys[1]? := by have := hg 1 _ rfl; simpa [cellsInt, cellsRatio, cells_sl0, cells_sl1, cells_sl2, cells_sl3, cells_sl4, Value.cells] using this
    rw [show ys[1]? = some (ys[1]'(by rw [hyl]; decide)) from List.getElem?_eq_getElem _] at f1
    obtain ⟨a1, l1, k1, rfl⟩ := slice_of Try.underlying22 f1
    obtain ⟨z1, w1⟩ := open_Ways ⟨_, f1⟩
    have f2 : DataW.trod enc Try.prog W base sp held n 24 [c2, c3] = ys[2]? := by have := hg 2 _ rfl; simpa [cellsInt, cellsRatio, cells_sl0, cells_sl1, cells_sl2, cells_sl3, cells_sl4, Value.cells] using this
    rw [show ys[2]? = some (ys[2]'(by rw [hyl]; decide)) from List.getElem?_eq_getElem _] at f2
    obtain ⟨u2, u3, rfl, rfl, w2, w3⟩ := ratio_cells f2
    have f3 : DataW.trod enc Try.prog W base sp held n 25 [c4] = ys[3]? := by have := hg 3 _ rfl; simpa [cellsInt, cellsRatio, cells_sl0, cells_sl1, cells_sl2, cells_sl3, cells_sl4, Value.cells] using this
    rw [show ys[3]? = some (ys[3]'(by rw [hyl]; decide)) from List.getElem?_eq_getElem _] at f3
    obtain ⟨a4, l4, k4, rfl⟩ := slice_of Try.underlying25 f3
    obtain ⟨z4, w4⟩ := open_Elements ⟨_, f3⟩
    have f4 : DataW.trod enc Try.prog W base sp held n 26 [c5] = ys[4]? := by have := hg 4 _ rfl; simpa [cellsInt, cellsRatio, cells_sl0, cells_sl1, cells_sl2, cells_sl3, cells_sl4, Value.cells] using this
    rw [show ys[4]? = some (ys[4]'(by rw [hyl]; decide)) from List.getElem?_eq_getElem _] at f4
    obtain ⟨a5, l5, k5, rfl⟩ := slice_of Try.underlying26 f4
    obtain ⟨z5, w5⟩ := open_Ratios ⟨_, f4⟩
    have f5 : DataW.trod enc Try.prog W base sp held n 26 [c6] = ys[5]? := by have := hg 5 _ rfl; simpa [cellsInt, cellsRatio, cells_sl0, cells_sl1, cells_sl2, cells_sl3, cells_sl4, Value.cells] using this
    rw [show ys[5]? = some (ys[5]'(by rw [hyl]; decide)) from List.getElem?_eq_getElem _] at f5
    obtain ⟨a6, l6, k6, rfl⟩ := slice_of Try.underlying26 f5
    obtain ⟨z6, w6⟩ := open_Ratios ⟨_, f5⟩
    have f6 : DataW.trod enc Try.prog W base sp held n 3 [c7] = ys[6]? := by have := hg 6 _ rfl; simpa [cellsInt, cellsRatio, cells_sl0, cells_sl1, cells_sl2, cells_sl3, cells_sl4, Value.cells] using this
    rw [show ys[6]? = some (ys[6]'(by rw [hyl]; decide)) from List.getElem?_eq_getElem _] at f6
    obtain ⟨u7, e7, _, w7⟩ := DataW.trod_int Try.underlying3 f6
    obtain rfl : c7 = .int .i64 u7 := by simpa using e7
    have f7 : DataW.trod enc Try.prog W base sp held n 3 [c8] = ys[7]? := by have := hg 7 _ rfl; simpa [cellsInt, cellsRatio, cells_sl0, cells_sl1, cells_sl2, cells_sl3, cells_sl4, Value.cells] using this
    rw [show ys[7]? = some (ys[7]'(by rw [hyl]; decide)) from List.getElem?_eq_getElem _] at f7
    obtain ⟨u8, e8, _, w8⟩ := DataW.trod_int Try.underlying3 f7
    obtain rfl : c8 = .int .i64 u8 := by simpa using e8
    have f8 : DataW.trod enc Try.prog W base sp held n 3 [c9] = ys[8]? := by have := hg 8 _ rfl; simpa [cellsInt, cellsRatio, cells_sl0, cells_sl1, cells_sl2, cells_sl3, cells_sl4, Value.cells] using this
    rw [show ys[8]? = some (ys[8]'(by rw [hyl]; decide)) from List.getElem?_eq_getElem _] at f8
    obtain ⟨u9, e9, _, w9⟩ := DataW.trod_int Try.underlying3 f8
    obtain rfl : c9 = .int .i64 u9 := by simpa using e9
    have f9 : DataW.trod enc Try.prog W base sp held n 3 [c10] = ys[9]? := by have := hg 9 _ rfl; simpa [cellsInt, cellsRatio, cells_sl0, cells_sl1, cells_sl2, cells_sl3, cells_sl4, Value.cells] using this
    rw [show ys[9]? = some (ys[9]'(by rw [hyl]; decide)) from List.getElem?_eq_getElem _] at f9
    obtain ⟨u10, e10, _, w10⟩ := DataW.trod_int Try.underlying3 f9
    obtain rfl : c10 = .int .i64 u10 := by simpa using e10
    have f10 : DataW.trod enc Try.prog W base sp held n 3 [c11] = ys[10]? := by have := hg 10 _ rfl; simpa [cellsInt, cellsRatio, cells_sl0, cells_sl1, cells_sl2, cells_sl3, cells_sl4, Value.cells] using this
    rw [show ys[10]? = some (ys[10]'(by rw [hyl]; decide)) from List.getElem?_eq_getElem _] at f10
    obtain ⟨u11, e11, _, w11⟩ := DataW.trod_int Try.underlying3 f10
    obtain rfl : c11 = .int .i64 u11 := by simpa using e11
    have f11 : DataW.trod enc Try.prog W base sp held n 3 [c12] = ys[11]? := by have := hg 11 _ rfl; simpa [cellsInt, cellsRatio, cells_sl0, cells_sl1, cells_sl2, cells_sl3, cells_sl4, Value.cells] using this
    rw [show ys[11]? = some (ys[11]'(by rw [hyl]; decide)) from List.getElem?_eq_getElem _] at f11
    obtain ⟨u12, e12, _, w12⟩ := DataW.trod_int Try.underlying3 f11
    obtain rfl : c12 = .int .i64 u12 := by simpa using e12
    have f12 : DataW.trod enc Try.prog W base sp held n 3 [c13] = ys[12]? := by have := hg 12 _ rfl; simpa [cellsInt, cellsRatio, cells_sl0, cells_sl1, cells_sl2, cells_sl3, cells_sl4, Value.cells] using this
    rw [show ys[12]? = some (ys[12]'(by rw [hyl]; decide)) from List.getElem?_eq_getElem _] at f12
    obtain ⟨u13, e13, _, w13⟩ := DataW.trod_int Try.underlying3 f12
    obtain rfl : c13 = .int .i64 u13 := by simpa using e13
    have f13 : DataW.trod enc Try.prog W base sp held n 3 [c14] = ys[13]? := by have := hg 13 _ rfl; simpa [cellsInt, cellsRatio, cells_sl0, cells_sl1, cells_sl2, cells_sl3, cells_sl4, Value.cells] using this
    rw [show ys[13]? = some (ys[13]'(by rw [hyl]; decide)) from List.getElem?_eq_getElem _] at f13
    obtain ⟨u14, e14, _, w14⟩ := DataW.trod_int Try.underlying3 f13
    obtain rfl : c14 = .int .i64 u14 := by simpa using e14
    have f14 : DataW.trod enc Try.prog W base sp held n 3 [c15] = ys[14]? := by have := hg 14 _ rfl; simpa [cellsInt, cellsRatio, cells_sl0, cells_sl1, cells_sl2, cells_sl3, cells_sl4, Value.cells] using this
    rw [show ys[14]? = some (ys[14]'(by rw [hyl]; decide)) from List.getElem?_eq_getElem _] at f14
    obtain ⟨u15, e15, _, w15⟩ := DataW.trod_int Try.underlying3 f14
    obtain rfl : c15 = .int .i64 u15 := by simpa using e15
    have f15 : DataW.trod enc Try.prog W base sp held n 3 [c16] = ys[15]? := by have := hg 15 _ rfl; simpa [cellsInt, cellsRatio, cells_sl0, cells_sl1, cells_sl2, cells_sl3, cells_sl4, Value.cells] using this
    rw [show ys[15]? = some (ys[15]'(by rw [hyl]; decide)) from List.getElem?_eq_getElem _] at f15
    obtain ⟨u16, e16, _, w16⟩ := DataW.trod_int Try.underlying3 f15
    obtain rfl : c16 = .int .i64 u16 := by simpa using e16
    have f16 : DataW.trod enc Try.prog W base sp held n 3 [c17] = ys[16]? := by have := hg 16 _ rfl; simpa [cellsInt, cellsRatio, cells_sl0, cells_sl1, cells_sl2, cells_sl3, cells_sl4, Value.cells] using this
    rw [show ys[16]? = some (ys[16]'(by rw [hyl]; decide)) from List.getElem?_eq_getElem _] at f16
    obtain ⟨u17, e17, _, w17⟩ := DataW.trod_int Try.underlying3 f16
    obtain rfl : c17 = .int .i64 u17 := by simpa using e17
    have f17 : DataW.trod enc Try.prog W base sp held n 27 [c18] = ys[17]? := by have := hg 17 _ rfl; simpa [cellsInt, cellsRatio, cells_sl0, cells_sl1, cells_sl2, cells_sl3, cells_sl4, Value.cells] using this
    rw [show ys[17]? = some (ys[17]'(by rw [hyl]; decide)) from List.getElem?_eq_getElem _] at f17
    obtain ⟨a18, l18, k18, rfl⟩ := slice_of Try.underlying27 f17
    obtain ⟨z18, w18⟩ := open_Ints ⟨_, f17⟩
    have f18 : DataW.trod enc Try.prog W base sp held n 3 [c19] = ys[18]? := by have := hg 18 _ rfl; simpa [cellsInt, cellsRatio, cells_sl0, cells_sl1, cells_sl2, cells_sl3, cells_sl4, Value.cells] using this
    rw [show ys[18]? = some (ys[18]'(by rw [hyl]; decide)) from List.getElem?_eq_getElem _] at f18
    obtain ⟨u19, e19, _, w19⟩ := DataW.trod_int Try.underlying3 f18
    obtain rfl : c19 = .int .i64 u19 := by simpa using e19
    have f19 : DataW.trod enc Try.prog W base sp held n 3 [c20] = ys[19]? := by have := hg 19 _ rfl; simpa [cellsInt, cellsRatio, cells_sl0, cells_sl1, cells_sl2, cells_sl3, cells_sl4, Value.cells] using this
    rw [show ys[19]? = some (ys[19]'(by rw [hyl]; decide)) from List.getElem?_eq_getElem _] at f19
    obtain ⟨u20, e20, _, w20⟩ := DataW.trod_int Try.underlying3 f19
    obtain rfl : c20 = .int .i64 u20 := by simpa using e20
    have f20 : DataW.trod enc Try.prog W base sp held n 3 [c21] = ys[20]? := by have := hg 20 _ rfl; simpa [cellsInt, cellsRatio, cells_sl0, cells_sl1, cells_sl2, cells_sl3, cells_sl4, Value.cells] using this
    rw [show ys[20]? = some (ys[20]'(by rw [hyl]; decide)) from List.getElem?_eq_getElem _] at f20
    obtain ⟨u21, e21, _, w21⟩ := DataW.trod_int Try.underlying3 f20
    obtain rfl : c21 = .int .i64 u21 := by simpa using e21
    have f21 : DataW.trod enc Try.prog W base sp held n 28 [c22] = ys[21]? := by have := hg 21 _ rfl; simpa [cellsInt, cellsRatio, cells_sl0, cells_sl1, cells_sl2, cells_sl3, cells_sl4, Value.cells] using this
    rw [show ys[21]? = some (ys[21]'(by rw [hyl]; decide)) from List.getElem?_eq_getElem _] at f21
    obtain ⟨a22, l22, k22, rfl⟩ := slice_of Try.underlying28 f21
    obtain ⟨z22, w22⟩ := open_Tiers ⟨_, f21⟩
    exact ⟨⟨u0, z1, u2, u3, z4, z5, z6, u7, u8, u9, u10, u11, u12, u13, u14, u15, u16, u17, z18, u19, u20, u21, z22⟩, ⟨a1, l1, k1, a4, l4, k4, a5, l5, k5, a6, l6, k6, a18, l18, k18, a22, l22, k22⟩, rfl, ⟨in_i64 w0, in_i64 w2, in_i64 w3, in_i64 w7, in_i64 w8, in_i64 w9, in_i64 w10, in_i64 w11, in_i64 w12, in_i64 w13, in_i64 w14, in_i64 w15, in_i64 w16, in_i64 w17, in_i64 w19, in_i64 w20, in_i64 w21, w1, w4, w5, w6, w18, w22⟩⟩

end Go.Proofs.Ytjcfflpiajefmaa
