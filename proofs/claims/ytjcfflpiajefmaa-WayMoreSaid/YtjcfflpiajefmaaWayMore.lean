/- THE WALK of WayMore: it returns true, and turns nothing that was there. A condition: the ways, one more, take no more than 2^47 bytes. -/
import Derived.Test.YtjcfflpiajefmaaWayTurns
import Derived.Deep.DeepCutAuto
set_option linter.unusedSimpArgs false
set_option linter.unusedVariables false
namespace Go.Proofs.Ytjcfflpiajefmaa
open Go.RowKit Lu

/-! ### Ways as cells -/
def flat3 (l : WayL) : List Value := l.flatMap fun r => [.int .i64 r.1, .int .i64 r.2.1, .int .i64 r.2.2]
theorem flat3_cons (x : Int × Int × Int) (l : WayL) : flat3 (x :: l) = .int .i64 x.1 :: .int .i64 x.2.1 :: .int .i64 x.2.2 :: flat3 l := rfl
theorem flat3_snoc (l : WayL) (x : Int × Int × Int) : flat3 (l ++ [x]) = flat3 l ++ [.int .i64 x.1, .int .i64 x.2.1, .int .i64 x.2.2] := by
  unfold flat3
  rw [List.flatMap_append]
  rfl
theorem flat3_length (l : WayL) : (flat3 l).length = l.length * 3 := by
  induction l with
  | nil => rfl
  | cons x l ih => rw [flat3_cons]; simp only [List.length_cons, ih]; omega
theorem flat3_one (l : WayL) : ∀ u ∈ flat3 l, u.oneCell' = true := by
  intro u hu
  unfold flat3 at hu
  simp only [List.mem_flatMap, List.mem_cons, List.not_mem_nil, or_false] at hu
  obtain ⟨r, _, rfl | rfl | rfl⟩ := hu <;> rfl
theorem flat3_at (l : WayL) : ∀ i, i < l.length → (flat3 l)[i * 3]? = some (.int .i64 (l.getD i (0, 0, 0)).1) ∧ (flat3 l)[i * 3 + 1]? = some (.int .i64 (l.getD i (0, 0, 0)).2.1) ∧ (flat3 l)[i * 3 + 2]? = some (.int .i64 (l.getD i (0, 0, 0)).2.2) := by
  induction l with
  | nil => intro i hi; simp at hi
  | cons x l ih =>
    intro i hi
    rw [flat3_cons]
    cases i with
    | zero => exact ⟨rfl, rfl, rfl⟩
    | succ i =>
      have := ih i (by simpa using hi)
      rw [show (i + 1) * 3 = i * 3 + 1 + 1 + 1 by omega]
      simpa using this
theorem Recs3.cells {w : World} {a : Option Addr} {len : Nat} {rs : WayL} (h : Recs3 w a len rs) : Cells w a (flat3 rs) := by
  obtain ⟨hl, _, _, hc⟩ := h
  rcases hc with h0 | ⟨b, off, ha, _, hc⟩
  · left
    rw [List.eq_nil_of_length_eq_zero (by omega : rs.length = 0)]
    rfl
  · refine Or.inr ⟨b, off, ha, fun i u hi => ?_⟩
    have hlt : i < (flat3 rs).length := (List.getElem?_eq_some_iff.1 hi).1
    rw [flat3_length] at hlt
    have hk := hc (i / 3) (by omega)
    have hf := flat3_at rs (i / 3) (by omega)
    rcases (show i = i / 3 * 3 ∨ i = i / 3 * 3 + 1 ∨ i = i / 3 * 3 + 2 by omega) with e | e | e
    · rw [e, hf.1] at hi; rw [e, ← hi]; exact hk.1
    · rw [e, hf.2.1] at hi; rw [e, ← hi, ← Nat.add_assoc]; exact hk.2.1
    · rw [e, hf.2.2] at hi; rw [e, ← hi, ← Nat.add_assoc]; exact hk.2.2
theorem Recs3.of_own {w : World} {base g n C : Nat} {rs : WayL} (h : w.ownsRow base 55 3 (.slice (some ⟨g, 0, none⟩) n C) n (flat3 rs)) (hm : (n : Int) ≤ 9223372036854775807) (hin : ∀ r ∈ rs, In r.1 ∧ In r.2.1 ∧ In r.2.2) : Recs3 w (some ⟨g, 0, none⟩) n rs := by
  have hl : rs.length = n := by have := h.1; rw [flat3_length] at this; omega
  refine ⟨hl, hm, hin, .inr ⟨g, 0, rfl, (h.lt g rfl).2, fun i hi => ?_⟩⟩
  have hf := flat3_at rs i (by omega)
  have c0 := h.cellAt (i * 3) (by omega)
  have c1 := h.cellAt (i * 3 + 1) (by omega)
  have c2 := h.cellAt (i * 3 + 2) (by omega)
  rw [hf.1] at c0
  rw [hf.2.1] at c1
  rw [hf.2.2] at c2
  rw [Nat.zero_add]
  exact ⟨c0, c1, c2⟩
theorem Recs3.none {w : World} {a : Option Addr} {len : Nat} {rs : WayL} (h : Recs3 w a len rs) : a = none → len = 0 := by
  intro ha
  rcases h.2.2.2 with h0 | ⟨b, off, hb, _⟩
  · exact h0
  · rw [ha] at hb; cases hb
theorem own_cell {W W' : World} {base : Nat} {e : TypeId} {size n : Nat} {v : Value} {xs : List Value} (own : W.ownsRow base e size v n xs) (hg : W.grownBy W' v.ownBlock) {p : Addr} {u : Value} (c : W.cell? p = some u) (hp : p.block < base) : W'.cell? p = some u :=
  hg.cell c fun e => by have := own.lt _ e.symm; omega
/-- append, the source whatever it is, as a step of a drawn region. -/
theorem step_append_cells {P : Program} {ops : Array Oper} {o : Oper} {a : Act} {w : World} {K : Act → World → Prop} {Q : Exit → Act → World → Prop} {E : Prop} (hgd : o.guard = .none) (s x : Operand) (t : TypeId)
    (ho : o.op = .call { callee := .builtin .append, args := #[s, x], argTypes := #[t, t] })
    (base : Nat) (e : TypeId) (i : TypeInfo) (z : Value) (size bytes : Nat) (ht : P.underlying t = some (.slice e)) (hi : P.info? e = some i) (hz : i.zero = some z)
    (hsize : i.size = size) (hby : i.bytes = bytes) (hzs : z.cells.size = size) (hsz : 0 < size)
    (v : Value) (n : Nat) (xs : List Value) (hs : a.eval s = v) (hown : w.ownsRow base e size v n xs)
    (A : Option Addr) (m c : Nat) (news : List Value) (hx : a.eval x = .slice A m c) (hl : news.length = m * size) (hnews : Cells w A news) (hA : A = .none → m = 0) (h1 : ∀ u ∈ news, u.oneCell' = true)
    (h63 : n + m ≤ maxLen) (hbytes : (n + m) * bytes ≤ 140737488355328) (hbase : base ≤ w.heap.size)
    (h : ∀ v' w', w'.ownsRow base e size v' (n + m) (xs ++ news) → w.grownBy w' v.ownBlock → K (a.put o.dst v') w') : if Region.wanted o (yielded ops a.tmps) = true then Oper.wp P o a w K Q else E := by
  have hw : Region.wanted o (yielded ops a.tmps) = true := by simp [Region.wanted, hgd]
  rw [if_pos hw]
  cases A with
  | none =>
    obtain rfl := hA rfl
    obtain rfl : news = [] := List.eq_nil_of_length_eq_zero (by rw [hl, Nat.zero_mul])
    have hr := run_append_none (P := P) w base t o.type e i size ht hi v n xs hown c
    unfold Oper.wp execOp
    simp only [ho, resolve, invoke, builtin, Sem.run_bind, Sem.run_pure, Result.andThen_ok, List.map_toArray, List.map_cons, List.map_nil, hs, hx, hr]
    exact h v w (by simpa using hown) (World.grownBy.refl w _)
  | some ad =>
    have hn : ∀ j u, news[j]? = some u → w.cell? (ad.add j) = some u := by
      rcases hnews with rfl | ⟨b, off, hb, hc⟩
      · intro j u hj; simp at hj
      · intro j u hj
        obtain rfl : ad = ⟨b, off, .none⟩ := Option.some.inj hb
        rw [Addr.add_lit]
        exact hc j u hj
    exact wp_append_own w s x t ho base e i z size bytes ht hi hz hsize hby hzs hsz v n xs hs hown ad m c news hx hl hn h1 h63 hbytes hbase fun v' w' h2 h3 _ => h v' w' h2 h3
theorem infoWay : (Try.prog.info? 55).map (fun i => (i.zero, i.size, i.bytes)) = some (some (.agg #[.int .i64 0, .int .i64 0, .int .i64 0]), 3, 24) := by kernel_rfl
theorem block_setCell {w : World} {N i : Nat} {cs : Array Value} {t : TypeId} (h : w.heap[N]? = some (.cells cs t)) (v : Value) : (w.setCell ⟨N, i, none⟩ v).heap[N]? = some (.cells (cs.setIfInBounds i v) t) := by
  simp [World.setCell, Array.getElem?_modify, h]
theorem setup_one (s : Setup) (q : Slices) : (#[.int .i64 s.places, .slice q.wa q.wl q.wc, .int .i64 s.pn, .int .i64 s.pd, .slice q.ea q.el q.ec, .slice q.ca q.cl q.cc, .slice q.ga q.gl q.gc, .int .i64 s.allow, .int .i64 s.unit, .int .i64 s.cap, .int .i64 s.paidBreak, .int .i64 s.autoAfter, .int .i64 s.autoBreak, .int .i64 s.dayReg, .int .i64 s.dayOver, .int .i64 s.weekReg, .int .i64 s.nightFrom, .int .i64 s.nightTo, .slice q.ra q.rl q.rc, .int .i64 s.diff, .int .i64 s.least, .int .i64 s.fault, .slice q.ta q.tl q.tc] : Array Value).all (·.oneCell') = true := by
  apply all_oneCell_toArray
  intro v hv
  simp only [List.mem_cons, List.not_mem_nil, or_false] at hv
  rcases hv with rfl | rfl | rfl | rfl | rfl | rfl | rfl | rfl | rfl | rfl | rfl | rfl | rfl | rfl | rfl | rfl | rfl | rfl | rfl | rfl | rfl | rfl | rfl <;> rfl
theorem drewN1 (w : World) (a b : Nat) : ∃ n, (w.drewN a).drewN b = w.drewN n := ⟨a + b, by simp [World.drewN, Nat.add_assoc]⟩
theorem drewN2 (w : World) (a b c : Nat) : ∃ n, ((w.drewN a).drewN b).drewN c = w.drewN n := ⟨a + b + c, by simp [World.drewN, Nat.add_assoc]⟩
def moreS (s : Setup) (x : Int × Int × Int) : Setup := { s with ways := s.ways ++ [x] }
def moreQ (q : Slices) (A : Option Addr) (C : Nat) : Slices := { q with wa := A, wl := q.wl + 1, wc := C }
theorem SetupIs.more {w : World} {s : Setup} {q : Slices} {x : Int × Int × Int} {A : Option Addr} {C : Nat} (h : SetupIs w s q) (hr : Recs3 w A (q.wl + 1) (s.ways ++ [x])) : SetupIs w (moreS s x) (moreQ q A C) :=
  ⟨h.places, h.pn, h.pd, h.allow, h.unit, h.cap, h.paidBreak, h.autoAfter, h.autoBreak, h.dayReg, h.dayOver, h.weekReg, h.nightFrom, h.nightTo, h.diff, h.least, h.fault, hr, h.elements, h.classes, h.gears, h.rates, h.tiers⟩
set_option maxRecDepth 100000 in
set_option maxHeartbeats 8000000 in
theorem wayMore_walk (s : Setup) (q : Slices) (x0 x1 x2 : Int) (w : World) (h : SetupIs w s q) (hx0 : In x0) (hx1 : In x1) (hx2 : In x2) (hreach : q.wl * 24 ≤ 140737488351232) :
    Calls Try.prog 13 #[.agg #[.int .i64 s.places, .slice q.wa q.wl q.wc, .int .i64 s.pn, .int .i64 s.pd, .slice q.ea q.el q.ec, .slice q.ca q.cl q.cc, .slice q.ga q.gl q.gc, .int .i64 s.allow, .int .i64 s.unit, .int .i64 s.cap, .int .i64 s.paidBreak, .int .i64 s.autoAfter, .int .i64 s.autoBreak, .int .i64 s.dayReg, .int .i64 s.dayOver, .int .i64 s.weekReg, .int .i64 s.nightFrom, .int .i64 s.nightTo, .slice q.ra q.rl q.rc, .int .i64 s.diff, .int .i64 s.least, .int .i64 s.fault, .slice q.ta q.tl q.tc], .agg #[.int .i64 x0, .int .i64 x1, .int .i64 x2]] w fun e w' => e = .returned (.bool true) ∧ Below w.heap.size w w' := by
  obtain ⟨i0, hi, hz0, hz1, hz2⟩ := info_parts infoWay
  have hb : ((w.alloc (.cells #[.int .i64 s.places, .slice q.wa q.wl q.wc, .int .i64 s.pn, .int .i64 s.pd, .slice q.ea q.el q.ec, .slice q.ca q.cl q.cc, .slice q.ga q.gl q.gc, .int .i64 s.allow, .int .i64 s.unit, .int .i64 s.cap, .int .i64 s.paidBreak, .int .i64 s.autoAfter, .int .i64 s.autoBreak, .int .i64 s.dayReg, .int .i64 s.dayOver, .int .i64 s.weekReg, .int .i64 s.nightFrom, .int .i64 s.nightTo, .slice q.ra q.rl q.rc, .int .i64 s.diff, .int .i64 s.least, .int .i64 s.fault, .slice q.ta q.tl q.tc] 30)).alloc (.cells #[.int .i64 x0, .int .i64 x1, .int .i64 x2] 55)).heap[w.heap.size]? = some (.cells #[.int .i64 s.places, .slice q.wa q.wl q.wc, .int .i64 s.pn, .int .i64 s.pd, .slice q.ea q.el q.ec, .slice q.ca q.cl q.cc, .slice q.ga q.gl q.gc, .int .i64 s.allow, .int .i64 s.unit, .int .i64 s.cap, .int .i64 s.paidBreak, .int .i64 s.autoAfter, .int .i64 s.autoBreak, .int .i64 s.dayReg, .int .i64 s.dayOver, .int .i64 s.weekReg, .int .i64 s.nightFrom, .int .i64 s.nightTo, .slice q.ra q.rl q.rc, .int .i64 s.diff, .int .i64 s.least, .int .i64 s.fault, .slice q.ta q.tl q.tc] 30) := box_keep (B := w.heap.size + 1) (by go_grown) (box_new w _ rfl _ _) (by omega)
  have hxb : ((w.alloc (.cells #[.int .i64 s.places, .slice q.wa q.wl q.wc, .int .i64 s.pn, .int .i64 s.pd, .slice q.ea q.el q.ec, .slice q.ca q.cl q.cc, .slice q.ga q.gl q.gc, .int .i64 s.allow, .int .i64 s.unit, .int .i64 s.cap, .int .i64 s.paidBreak, .int .i64 s.autoAfter, .int .i64 s.autoBreak, .int .i64 s.dayReg, .int .i64 s.dayOver, .int .i64 s.weekReg, .int .i64 s.nightFrom, .int .i64 s.nightTo, .slice q.ra q.rl q.rc, .int .i64 s.diff, .int .i64 s.least, .int .i64 s.fault, .slice q.ta q.tl q.tc] 30)).alloc (.cells #[.int .i64 x0, .int .i64 x1, .int .i64 x2] 55)).heap[w.heap.size + 1]? = some (.cells #[.int .i64 x0, .int .i64 x1, .int .i64 x2] 55) := box_new _ _ (by simp) _ _
  have B0 : Below w.heap.size w ((w.alloc (.cells #[.int .i64 s.places, .slice q.wa q.wl q.wc, .int .i64 s.pn, .int .i64 s.pd, .slice q.ea q.el q.ec, .slice q.ca q.cl q.cc, .slice q.ga q.gl q.gc, .int .i64 s.allow, .int .i64 s.unit, .int .i64 s.cap, .int .i64 s.paidBreak, .int .i64 s.autoAfter, .int .i64 s.autoBreak, .int .i64 s.dayReg, .int .i64 s.dayOver, .int .i64 s.weekReg, .int .i64 s.nightFrom, .int .i64 s.nightTo, .slice q.ra q.rl q.rc, .int .i64 s.diff, .int .i64 s.least, .int .i64 s.fault, .slice q.ta q.tl q.tc] 30)).alloc (.cells #[.int .i64 x0, .int .i64 x1, .int .i64 x2] 55)) := by go_grown
  have z0 : w.heap.size + 1 < ((w.alloc (.cells #[.int .i64 s.places, .slice q.wa q.wl q.wc, .int .i64 s.pn, .int .i64 s.pd, .slice q.ea q.el q.ec, .slice q.ca q.cl q.cc, .slice q.ga q.gl q.gc, .int .i64 s.allow, .int .i64 s.unit, .int .i64 s.cap, .int .i64 s.paidBreak, .int .i64 s.autoAfter, .int .i64 s.autoBreak, .int .i64 s.dayReg, .int .i64 s.dayOver, .int .i64 s.weekReg, .int .i64 s.nightFrom, .int .i64 s.nightTo, .slice q.ra q.rl q.rc, .int .i64 s.diff, .int .i64 s.least, .int .i64 s.fault, .slice q.ta q.tl q.tc] 30)).alloc (.cells #[.int .i64 x0, .int .i64 x1, .int .i64 x2] 55)).heap.size := by simp
  go_enter Try.func13, Try.ntmps13
  go_wp2_with fail
  refine (awake09 _).mono ?_
  rintro e1 w1 ⟨rfl, k1⟩
  replace hb := box_keep k1 hb (by omega)
  replace hxb := box_keep k1 hxb (by omega)
  replace B0 := B0.trans (k1.mono (by omega))
  replace z0 := Nat.lt_of_lt_of_le z0 k1.size
  clear k1
  go_wp2_with (first
    | (refine wpList_load_box 30 (.tmp 2) rfl rfl w.heap.size rfl 30 #[.int .i64 s.places, .slice q.wa q.wl q.wc, .int .i64 s.pn, .int .i64 s.pd, .slice q.ea q.el q.ec, .slice q.ca q.cl q.cc, .slice q.ga q.gl q.gc, .int .i64 s.allow, .int .i64 s.unit, .int .i64 s.cap, .int .i64 s.paidBreak, .int .i64 s.autoAfter, .int .i64 s.autoBreak, .int .i64 s.dayReg, .int .i64 s.dayOver, .int .i64 s.weekReg, .int .i64 s.nightFrom, .int .i64 s.nightTo, .slice q.ra q.rl q.rc, .int .i64 s.diff, .int .i64 s.least, .int .i64 s.fault, .slice q.ta q.tl q.tc] hb setup_big ?_)
    | (refine wpList_store_new _ _ _ rfl 30 (.tmp 6) (.tmp 15) rfl #[.int .i64 s.places, .slice q.wa q.wl q.wc, .int .i64 s.pn, .int .i64 s.pd, .slice q.ea q.el q.ec, .slice q.ca q.cl q.cc, .slice q.ga q.gl q.gc, .int .i64 s.allow, .int .i64 s.unit, .int .i64 s.cap, .int .i64 s.paidBreak, .int .i64 s.autoAfter, .int .i64 s.autoBreak, .int .i64 s.dayReg, .int .i64 s.dayOver, .int .i64 s.weekReg, .int .i64 s.nightFrom, .int .i64 s.nightTo, .slice q.ra q.rl q.rc, .int .i64 s.diff, .int .i64 s.least, .int .i64 s.fault, .slice q.ta q.tl q.tc] w1.heap.size rfl rfl rfl rfl setup_size (setup_one s q) ?_))
  simp only [Act.put]
  refine gen_code (S := fun V => V.heap[w.heap.size]? = some (.cells #[.int .i64 s.places, .slice q.wa q.wl q.wc, .int .i64 s.pn, .int .i64 s.pd, .slice q.ea q.el q.ec, .slice q.ca q.cl q.cc, .slice q.ga q.gl q.gc, .int .i64 s.allow, .int .i64 s.unit, .int .i64 s.cap, .int .i64 s.paidBreak, .int .i64 s.autoAfter, .int .i64 s.autoBreak, .int .i64 s.dayReg, .int .i64 s.dayOver, .int .i64 s.weekReg, .int .i64 s.nightFrom, .int .i64 s.nightTo, .slice q.ra q.rl q.rc, .int .i64 s.diff, .int .i64 s.least, .int .i64 s.fault, .slice q.ta q.tl q.tc] 30) ∧ V.heap[w.heap.size + 1]? = some (.cells #[.int .i64 x0, .int .i64 x1, .int .i64 x2] 55) ∧ V.heap[w1.heap.size]? = some (.cells #[.int .i64 s.places, .slice q.wa q.wl q.wc, .int .i64 s.pn, .int .i64 s.pd, .slice q.ea q.el q.ec, .slice q.ca q.cl q.cc, .slice q.ga q.gl q.gc, .int .i64 s.allow, .int .i64 s.unit, .int .i64 s.cap, .int .i64 s.paidBreak, .int .i64 s.autoAfter, .int .i64 s.autoBreak, .int .i64 s.dayReg, .int .i64 s.dayOver, .int .i64 s.weekReg, .int .i64 s.nightFrom, .int .i64 s.nightTo, .slice q.ra q.rl q.rc, .int .i64 s.diff, .int .i64 s.least, .int .i64 s.fault, .slice q.ta q.tl q.tc] 30) ∧ w1.heap.size + 1 ≤ V.heap.size ∧ Below w.heap.size w V) ⟨box_keep (B := w1.heap.size) (by go_grown) hb (by omega), box_keep (B := w1.heap.size) (by go_grown) hxb (by omega), box_new _ _ rfl _ _, by simp, B0.trans (Below.mono (B := w1.heap.size) (by go_grown) (by omega))⟩ (fun V0 hV => ?_)
  generalize w1.heap.size = N at *
  clear hb hxb B0
  obtain ⟨hb, hxb, h6, zN, hBw⟩ := hV
  have H6 := Lib.hid h6
  have HB := Lib.hid hb
  have HXB := Lib.hid hxb
  have HFL := Lib.hid (show (flat3 s.ways).length = q.wl * 3 by rw [flat3_length, h.ways.1])
  have HCL := Lib.hid h.ways.cells
  have HNN := Lib.hid h.ways.none
  have HIN := Lib.hid (show ∀ r ∈ s.ways ++ [(x0, x1, x2)], In r.1 ∧ In r.2.1 ∧ In r.2.2 by
    intro r hr
    rcases List.mem_append.1 hr with hr | hr
    · exact h.ways.2.2.1 r hr
    · simp only [List.mem_singleton] at hr
      subst hr
      exact ⟨hx0, hx1, hx2⟩)
  clear hx0 hx1 hx2
  go_cut [] (fun V => ∃ A C, V.heap[N]? = some (.cells #[.int .i64 s.places, .slice A (q.wl + 1) C, .int .i64 s.pn, .int .i64 s.pd, .slice q.ea q.el q.ec, .slice q.ca q.cl q.cc, .slice q.ga q.gl q.gc, .int .i64 s.allow, .int .i64 s.unit, .int .i64 s.cap, .int .i64 s.paidBreak, .int .i64 s.autoAfter, .int .i64 s.autoBreak, .int .i64 s.dayReg, .int .i64 s.dayOver, .int .i64 s.weekReg, .int .i64 s.nightFrom, .int .i64 s.nightTo, .slice q.ra q.rl q.rc, .int .i64 s.diff, .int .i64 s.least, .int .i64 s.fault, .slice q.ta q.tl q.tc] 30) ∧ Recs3 V A (q.wl + 1) (s.ways ++ [(x0, x1, x2)]) ∧ Below N V0 V)
  case first =>
   as_aux_lemma =>
    have c1 : V0.cell? ⟨w.heap.size, 1, none⟩ = some (.slice q.wa q.wl q.wc) := by simp [World.cell?, hb]
    have g0 : V0.cell? ⟨w.heap.size + 1, 0, none⟩ = some (.int .i64 x0) := by simp [World.cell?, hxb]
    have g1 : V0.cell? ⟨w.heap.size + 1, 1, none⟩ = some (.int .i64 x1) := by simp [World.cell?, hxb]
    have g2 : V0.cell? ⟨w.heap.size + 1, 2, none⟩ = some (.int .i64 x2) := by simp [World.cell?, hxb]
    clear hb hxb h6
    refine wp_region_held_drew (S := (fun w' => w'.cell? ⟨w.heap.size, 1, none⟩ = some (.slice q.wa q.wl q.wc) ∧ w'.cell? ⟨w.heap.size + 1, 0, none⟩ = some (.int .i64 x0) ∧ w'.cell? ⟨w.heap.size + 1, 1, none⟩ = some (.int .i64 x1) ∧ w'.cell? ⟨w.heap.size + 1, 2, none⟩ = some (.int .i64 x2))) (by kernel_rfl) ?_ (fun hHeld => ?_)
    · exact ⟨c1, g0, g1, g2⟩
    replace c1 : V0.drew.cell? _ = _ := c1
    replace g0 : V0.drew.cell? _ = _ := g0
    replace g1 : V0.drew.cell? _ = _ := g1
    replace g2 : V0.drew.cell? _ = _ := g2
    have Bc : Below (N + 1) V0 V0.drew := (Below.refl _ _).drew
    refine wpAnyH_take (i := 1) (oi := ⟨some 17, _, _, _, _, none⟩) (v := ?_) rfl (by kernel_rfl) (by kernel_rfl) (by kernel_rfl) (fun _ _ _ h => h) (Or.inl ⟨by rfl, ?_⟩) (by assumption) ?_
    rotate_left
    · intro wz hSw; (try dsimp only at hSw); go_simp; (try with_reducible rfl)
    try simp only [Act.put, List.setIfInBounds_toArray, List.set_cons_zero, List.set_cons_succ]
    refine wpAnyH_take (i := 2) (oi := ⟨some 18, _, _, _, _, none⟩) (v := ?_) rfl (by kernel_rfl) (by kernel_rfl) (by kernel_rfl) (fun _ _ _ h => h) (Or.inl ⟨by rfl, ?_⟩) (by assumption) ?_
    rotate_left
    · intro wz hSw; (try dsimp only at hSw); go_simp; (try with_reducible rfl)
    try simp only [Act.put, List.setIfInBounds_toArray, List.set_cons_zero, List.set_cons_succ]
    refine wpAnyH_take (i := 4) (oi := ⟨some 20, _, _, _, _, none⟩) (v := ?_) rfl (by kernel_rfl) (by kernel_rfl) (by kernel_rfl) (fun _ _ _ h => h) (Or.inl ⟨by rfl, ?_⟩) (by assumption) ?_
    rotate_left
    · intro wz hSw; (try dsimp only at hSw); go_simp; (try with_reducible rfl)
    try simp only [Act.put, List.setIfInBounds_toArray, List.set_cons_zero, List.set_cons_succ]
    refine wpAnyH_ready (rs := [0, 5]) (by kernel_rfl) (by simp) ?_
    refine (AllReadyH.cons (o := ⟨some 16, _, _, _, _, none⟩) rfl (fun K hK => ?_) (AllReadyH.cons (o := ⟨some 21, _, _, _, _, none⟩) rfl (fun K hK => ?_) AllReadyH.nil))
    · skip
      go_simp
      have own0 := own_empty V0.drew 55 3 (N + 1) (V0.heap.size) (Nat.le_trans zN Bc.size) (by simp)
      replace Bc := Bc.alloc (Nat.le_trans zN Bc.size) (.cells #[] 55)
      replace c1 := keepA (.cells #[] 55) c1
      replace g0 := keepA (.cells #[] 55) g0
      replace g1 := keepA (.cells #[] 55) g1
      replace g2 := keepA (.cells #[] 55) g2
      have own := own0
      refine hK.out _ _ ?_ (fun hHeld => ?_)
      · exact ⟨c1, g0, g1, g2⟩
      clear hK K
      try simp only [Act.put, List.setIfInBounds_toArray, List.set_cons_zero, List.set_cons_succ]
      refine wpAnyH_ready (rs := [3, 5]) (by kernel_rfl) (by simp) ?_
      refine (AllReadyH.cons (o := ⟨some 19, _, _, _, _, none⟩) rfl (fun K hK => ?_) (AllReadyH.cons (o := ⟨some 21, _, _, _, _, none⟩) rfl (fun K hK => ?_) AllReadyH.nil))
      · skip
        refine step_append_cells rfl (.tmp 16) (.tmp 18) 22 rfl (N + 1) 55 i0 (.agg #[.int .i64 0, .int .i64 0, .int .i64 0]) 3 24 Try.underlying22 hi hz0 hz1 hz2 rfl (by decide) _ 0 [] rfl own q.wa q.wl q.wc (flat3 s.ways) rfl HFL.out (HCL.out.below (hBw.trans (Bc.mono (by omega)))) HNN.out (flat3_one _) (by unfold maxLen; omega) (by omega) (Nat.le_trans zN Bc.size) ?_
        intro v3 W3 own3 grow3
        replace c1 := own_cell own grow3 c1 (by simp only; omega)
        replace g0 := own_cell own grow3 g0 (by simp only; omega)
        replace g1 := own_cell own grow3 g1 (by simp only; omega)
        replace g2 := own_cell own grow3 g2 (by simp only; omega)
        replace Bc := below_own Bc own grow3 (Nat.le_refl _) (Nat.le_trans zN Bc.size)
        replace own := own3
        refine hK.out _ _ ?_ (fun hHeld => ?_)
        · exact ⟨c1, g0, g1, g2⟩
        clear hK K
        try simp only [Act.put, List.setIfInBounds_toArray, List.set_cons_zero, List.set_cons_succ]
        refine wpAnyH_ready (rs := [5]) (by kernel_rfl) (by simp) ?_
        refine AllReadyH.cons (o := ⟨some 21, _, _, _, _, none⟩) rfl (fun K hK => ?_) AllReadyH.nil
        go_simp
        have p0' : (W3.alloc (.cells #[.int .i64 x0, .int .i64 x1, .int .i64 x2] 55)).cell? ⟨W3.heap.size, 0, none⟩ = some (.int .i64 x0) := by simp [go_sem]
        have p1' : (W3.alloc (.cells #[.int .i64 x0, .int .i64 x1, .int .i64 x2] 55)).cell? ⟨W3.heap.size, 1, none⟩ = some (.int .i64 x1) := by simp [go_sem]
        have p2' : (W3.alloc (.cells #[.int .i64 x0, .int .i64 x1, .int .i64 x2] 55)).cell? ⟨W3.heap.size, 2, none⟩ = some (.int .i64 x2) := by simp [go_sem]
        have pz : N + 1 ≤ W3.heap.size := Nat.le_trans zN Bc.size
        replace Bc := Bc.alloc (Nat.le_trans zN Bc.size) (.cells #[.int .i64 x0, .int .i64 x1, .int .i64 x2] 55)
        replace c1 := keepA (.cells #[.int .i64 x0, .int .i64 x1, .int .i64 x2] 55) c1
        replace g0 := keepA (.cells #[.int .i64 x0, .int .i64 x1, .int .i64 x2] 55) g0
        replace g1 := keepA (.cells #[.int .i64 x0, .int .i64 x1, .int .i64 x2] 55) g1
        replace g2 := keepA (.cells #[.int .i64 x0, .int .i64 x1, .int .i64 x2] 55) g2
        replace own := own.alloc (.cells #[.int .i64 x0, .int .i64 x1, .int .i64 x2] 55)
        have p0 := p0'; have p1 := p1'; have p2 := p2'
        refine hK.out _ _ ?_ (fun hHeld => ?_)
        · exact ⟨c1, g0, g1, g2⟩
        clear hK K
        try simp only [Act.put, List.setIfInBounds_toArray, List.set_cons_zero, List.set_cons_succ]
        refine wpAnyH_ready (rs := [6]) (by kernel_rfl) (by simp) ?_
        refine AllReadyH.cons (o := ⟨some 22, _, _, _, _, none⟩) rfl (fun K hK => ?_) AllReadyH.nil
        have hn6 : Cells (W3.alloc (.cells #[.int .i64 x0, .int .i64 x1, .int .i64 x2] 55)) (some ⟨W3.heap.size, 0, none⟩) [.int .i64 x0, .int .i64 x1, .int .i64 x2] := .inr ⟨_, 0, rfl, fun i u hu => by
          rcases (show i = 0 ∨ i = 1 ∨ i = 2 by have := (List.getElem?_eq_some_iff.1 hu).1; simp at this; omega) with rfl | rfl | rfl
          · simp at hu; subst hu; exact p0
          · simp at hu; subst hu; exact p1
          · simp at hu; subst hu; exact p2⟩
        refine step_append_cells rfl (.tmp 19) (.tmp 21) 22 rfl (N + 1) 55 i0 (.agg #[.int .i64 0, .int .i64 0, .int .i64 0]) 3 24 Try.underlying22 hi hz0 hz1 hz2 rfl (by decide) _ (0 + q.wl) _ rfl own (some ⟨W3.heap.size, 0, none⟩) 1 1 [.int .i64 x0, .int .i64 x1, .int .i64 x2] rfl rfl hn6 (by simp) (by intro u hu; simp at hu; rcases hu with rfl | rfl | rfl <;> rfl) (by unfold maxLen; omega) (by omega) (Nat.le_trans zN Bc.size) ?_
        intro v6 W6 own6 grow6
        rw [show 0 + q.wl + 1 = q.wl + 1 by omega] at own6
        replace c1 := own_cell own grow6 c1 (by simp only; omega)
        replace g0 := own_cell own grow6 g0 (by simp only; omega)
        replace g1 := own_cell own grow6 g1 (by simp only; omega)
        replace g2 := own_cell own grow6 g2 (by simp only; omega)
        replace Bc := below_own Bc own grow6 (Nat.le_refl _) (Nat.le_trans zN Bc.size)
        obtain ⟨g, C, rfl⟩ : ∃ g C, v6 = .slice (some ⟨g, 0, none⟩) (q.wl + 1) C := by
          rcases own6.2 with ⟨_, h0⟩ | ⟨g, cap, _, hv, _⟩
          · omega
          · exact ⟨g, cap, hv⟩
        refine hK.out _ _ ?_ (fun hHeld => ?_)
        · exact ⟨c1, g0, g1, g2⟩
        clear hK K
        try simp only [Act.put, List.setIfInBounds_toArray, List.set_cons_zero, List.set_cons_succ]
        refine wpAnyH_take (i := 7) (oi := ⟨some 23, _, _, _, _, none⟩) (v := ?_) rfl (by kernel_rfl) (by kernel_rfl) (by kernel_rfl) (fun _ _ _ h => h) (Or.inl ⟨by rfl, ?_⟩) (by assumption) ?_
        rotate_left
        · intro wz hSw; (try dsimp only at hSw); go_simp; (try with_reducible rfl)
        try simp only [Act.put, List.setIfInBounds_toArray, List.set_cons_zero, List.set_cons_succ]
        refine wpAnyH_ready (rs := [8]) (by kernel_rfl) (by simp) ?_
        refine AllReadyH.cons (o := ⟨none, _, _, _, _, none⟩) rfl (fun K hK => ?_) AllReadyH.nil
        have hN := (Bc.block N (by omega)).trans H6.out
        have n6 : W6.cell? ⟨N, 1, none⟩ = some (.slice q.wa q.wl q.wc) := by simp [World.cell?, hN]
        have f6 : W6.frozen? ⟨N, 1, none⟩ = false := by simp [World.frozen?, hN]
        go_simp
        have Bs := Below.setCell (p := ⟨N, 1, none⟩) (Below.refl N W6) (Nat.le_refl _) (.slice (some ⟨g, 0, none⟩) (q.wl + 1) C)
        replace c1 := keepC Bs c1 (by simp only; omega)
        replace g0 := keepC Bs g0 (by simp only; omega)
        replace g1 := keepC Bs g1 (by simp only; omega)
        replace g2 := keepC Bs g2 (by simp only; omega)
        refine hK.out _ _ ?_ (fun hHeld => ?_)
        · exact ⟨c1, g0, g1, g2⟩
        clear hK K
        try simp only [Act.put, List.setIfInBounds_toArray, List.set_cons_zero, List.set_cons_succ]
        refine wpAnyH_done (by kernel_rfl) ?_ _
        go_wp2_with fail
        go_meet
        case rel =>
          have own7 := ownsRow_setCell_below own6 (a := ⟨N, 1, none⟩) (by simp) (.slice (some ⟨g, 0, none⟩) (q.wl + 1) C)
          rw [List.nil_append, show flat3 s.ways ++ [.int .i64 x0, .int .i64 x1, .int .i64 x2] = flat3 (s.ways ++ [(x0, x1, x2)]) from (flat3_snoc s.ways (x0, x1, x2)).symm] at own7
          refine ⟨some ⟨g, 0, none⟩, C, ?_, Recs3.of_own own7 (by omega) HIN.out, ?_⟩
          · have := block_setCell (i := 1) hN (.slice (some ⟨g, 0, none⟩) (q.wl + 1) C); simpa using this
          · exact (Bc.mono (by omega)).trans Bs
      · skip
        go_simp
        have p0' : ((V0.drew.alloc (.cells #[] 55)).alloc (.cells #[.int .i64 x0, .int .i64 x1, .int .i64 x2] 55)).cell? ⟨V0.heap.size + 1, 0, none⟩ = some (.int .i64 x0) := by simp [go_sem]
        have p1' : ((V0.drew.alloc (.cells #[] 55)).alloc (.cells #[.int .i64 x0, .int .i64 x1, .int .i64 x2] 55)).cell? ⟨V0.heap.size + 1, 1, none⟩ = some (.int .i64 x1) := by simp [go_sem]
        have p2' : ((V0.drew.alloc (.cells #[] 55)).alloc (.cells #[.int .i64 x0, .int .i64 x1, .int .i64 x2] 55)).cell? ⟨V0.heap.size + 1, 2, none⟩ = some (.int .i64 x2) := by simp [go_sem]
        have pz : N + 1 ≤ V0.heap.size + 1 := by omega
        replace Bc := Bc.alloc (Nat.le_trans zN Bc.size) (.cells #[.int .i64 x0, .int .i64 x1, .int .i64 x2] 55)
        replace c1 := keepA (.cells #[.int .i64 x0, .int .i64 x1, .int .i64 x2] 55) c1
        replace g0 := keepA (.cells #[.int .i64 x0, .int .i64 x1, .int .i64 x2] 55) g0
        replace g1 := keepA (.cells #[.int .i64 x0, .int .i64 x1, .int .i64 x2] 55) g1
        replace g2 := keepA (.cells #[.int .i64 x0, .int .i64 x1, .int .i64 x2] 55) g2
        replace own := own.alloc (.cells #[.int .i64 x0, .int .i64 x1, .int .i64 x2] 55)
        have p0 := p0'; have p1 := p1'; have p2 := p2'
        refine hK.out _ _ ?_ (fun hHeld => ?_)
        · exact ⟨c1, g0, g1, g2⟩
        clear hK K
        try simp only [Act.put, List.setIfInBounds_toArray, List.set_cons_zero, List.set_cons_succ]
        refine wpAnyH_ready (rs := [3]) (by kernel_rfl) (by simp) ?_
        refine AllReadyH.cons (o := ⟨some 19, _, _, _, _, none⟩) rfl (fun K hK => ?_) AllReadyH.nil
        refine step_append_cells rfl (.tmp 16) (.tmp 18) 22 rfl (N + 1) 55 i0 (.agg #[.int .i64 0, .int .i64 0, .int .i64 0]) 3 24 Try.underlying22 hi hz0 hz1 hz2 rfl (by decide) _ 0 [] rfl own q.wa q.wl q.wc (flat3 s.ways) rfl HFL.out (HCL.out.below (hBw.trans (Bc.mono (by omega)))) HNN.out (flat3_one _) (by unfold maxLen; omega) (by omega) (Nat.le_trans zN Bc.size) ?_
        intro v3 W3 own3 grow3
        replace c1 := own_cell own grow3 c1 (by simp only; omega)
        replace g0 := own_cell own grow3 g0 (by simp only; omega)
        replace g1 := own_cell own grow3 g1 (by simp only; omega)
        replace g2 := own_cell own grow3 g2 (by simp only; omega)
        replace p0 := grow3.cell p0 (by simp [Act.eval, Value.ownBlock]; try omega)
        replace p1 := grow3.cell p1 (by simp [Act.eval, Value.ownBlock]; try omega)
        replace p2 := grow3.cell p2 (by simp [Act.eval, Value.ownBlock]; try omega)
        replace Bc := below_own Bc own grow3 (Nat.le_refl _) (Nat.le_trans zN Bc.size)
        replace own := own3
        refine hK.out _ _ ?_ (fun hHeld => ?_)
        · exact ⟨c1, g0, g1, g2⟩
        clear hK K
        try simp only [Act.put, List.setIfInBounds_toArray, List.set_cons_zero, List.set_cons_succ]
        refine wpAnyH_ready (rs := [6]) (by kernel_rfl) (by simp) ?_
        refine AllReadyH.cons (o := ⟨some 22, _, _, _, _, none⟩) rfl (fun K hK => ?_) AllReadyH.nil
        have hn6 : Cells W3 (some ⟨V0.heap.size + 1, 0, none⟩) [.int .i64 x0, .int .i64 x1, .int .i64 x2] := .inr ⟨_, 0, rfl, fun i u hu => by
          rcases (show i = 0 ∨ i = 1 ∨ i = 2 by have := (List.getElem?_eq_some_iff.1 hu).1; simp at this; omega) with rfl | rfl | rfl
          · simp at hu; subst hu; exact p0
          · simp at hu; subst hu; exact p1
          · simp at hu; subst hu; exact p2⟩
        refine step_append_cells rfl (.tmp 19) (.tmp 21) 22 rfl (N + 1) 55 i0 (.agg #[.int .i64 0, .int .i64 0, .int .i64 0]) 3 24 Try.underlying22 hi hz0 hz1 hz2 rfl (by decide) _ (0 + q.wl) _ rfl own (some ⟨V0.heap.size + 1, 0, none⟩) 1 1 [.int .i64 x0, .int .i64 x1, .int .i64 x2] rfl rfl hn6 (by simp) (by intro u hu; simp at hu; rcases hu with rfl | rfl | rfl <;> rfl) (by unfold maxLen; omega) (by omega) (Nat.le_trans zN Bc.size) ?_
        intro v6 W6 own6 grow6
        rw [show 0 + q.wl + 1 = q.wl + 1 by omega] at own6
        replace c1 := own_cell own grow6 c1 (by simp only; omega)
        replace g0 := own_cell own grow6 g0 (by simp only; omega)
        replace g1 := own_cell own grow6 g1 (by simp only; omega)
        replace g2 := own_cell own grow6 g2 (by simp only; omega)
        replace Bc := below_own Bc own grow6 (Nat.le_refl _) (Nat.le_trans zN Bc.size)
        obtain ⟨g, C, rfl⟩ : ∃ g C, v6 = .slice (some ⟨g, 0, none⟩) (q.wl + 1) C := by
          rcases own6.2 with ⟨_, h0⟩ | ⟨g, cap, _, hv, _⟩
          · omega
          · exact ⟨g, cap, hv⟩
        refine hK.out _ _ ?_ (fun hHeld => ?_)
        · exact ⟨c1, g0, g1, g2⟩
        clear hK K
        try simp only [Act.put, List.setIfInBounds_toArray, List.set_cons_zero, List.set_cons_succ]
        refine wpAnyH_take (i := 7) (oi := ⟨some 23, _, _, _, _, none⟩) (v := ?_) rfl (by kernel_rfl) (by kernel_rfl) (by kernel_rfl) (fun _ _ _ h => h) (Or.inl ⟨by rfl, ?_⟩) (by assumption) ?_
        rotate_left
        · intro wz hSw; (try dsimp only at hSw); go_simp; (try with_reducible rfl)
        try simp only [Act.put, List.setIfInBounds_toArray, List.set_cons_zero, List.set_cons_succ]
        refine wpAnyH_ready (rs := [8]) (by kernel_rfl) (by simp) ?_
        refine AllReadyH.cons (o := ⟨none, _, _, _, _, none⟩) rfl (fun K hK => ?_) AllReadyH.nil
        have hN := (Bc.block N (by omega)).trans H6.out
        have n6 : W6.cell? ⟨N, 1, none⟩ = some (.slice q.wa q.wl q.wc) := by simp [World.cell?, hN]
        have f6 : W6.frozen? ⟨N, 1, none⟩ = false := by simp [World.frozen?, hN]
        go_simp
        have Bs := Below.setCell (p := ⟨N, 1, none⟩) (Below.refl N W6) (Nat.le_refl _) (.slice (some ⟨g, 0, none⟩) (q.wl + 1) C)
        replace c1 := keepC Bs c1 (by simp only; omega)
        replace g0 := keepC Bs g0 (by simp only; omega)
        replace g1 := keepC Bs g1 (by simp only; omega)
        replace g2 := keepC Bs g2 (by simp only; omega)
        refine hK.out _ _ ?_ (fun hHeld => ?_)
        · exact ⟨c1, g0, g1, g2⟩
        clear hK K
        try simp only [Act.put, List.setIfInBounds_toArray, List.set_cons_zero, List.set_cons_succ]
        refine wpAnyH_done (by kernel_rfl) ?_ _
        go_wp2_with fail
        go_meet
        case rel =>
          have own7 := ownsRow_setCell_below own6 (a := ⟨N, 1, none⟩) (by simp) (.slice (some ⟨g, 0, none⟩) (q.wl + 1) C)
          rw [List.nil_append, show flat3 s.ways ++ [.int .i64 x0, .int .i64 x1, .int .i64 x2] = flat3 (s.ways ++ [(x0, x1, x2)]) from (flat3_snoc s.ways (x0, x1, x2)).symm] at own7
          refine ⟨some ⟨g, 0, none⟩, C, ?_, Recs3.of_own own7 (by omega) HIN.out, ?_⟩
          · have := block_setCell (i := 1) hN (.slice (some ⟨g, 0, none⟩) (q.wl + 1) C); simpa using this
          · exact (Bc.mono (by omega)).trans Bs
    · skip
      go_simp
      have p0' : (V0.drew.alloc (.cells #[.int .i64 x0, .int .i64 x1, .int .i64 x2] 55)).cell? ⟨V0.heap.size, 0, none⟩ = some (.int .i64 x0) := by simp [go_sem]
      have p1' : (V0.drew.alloc (.cells #[.int .i64 x0, .int .i64 x1, .int .i64 x2] 55)).cell? ⟨V0.heap.size, 1, none⟩ = some (.int .i64 x1) := by simp [go_sem]
      have p2' : (V0.drew.alloc (.cells #[.int .i64 x0, .int .i64 x1, .int .i64 x2] 55)).cell? ⟨V0.heap.size, 2, none⟩ = some (.int .i64 x2) := by simp [go_sem]
      have pz : N + 1 ≤ V0.heap.size := by omega
      replace Bc := Bc.alloc (Nat.le_trans zN Bc.size) (.cells #[.int .i64 x0, .int .i64 x1, .int .i64 x2] 55)
      replace c1 := keepA (.cells #[.int .i64 x0, .int .i64 x1, .int .i64 x2] 55) c1
      replace g0 := keepA (.cells #[.int .i64 x0, .int .i64 x1, .int .i64 x2] 55) g0
      replace g1 := keepA (.cells #[.int .i64 x0, .int .i64 x1, .int .i64 x2] 55) g1
      replace g2 := keepA (.cells #[.int .i64 x0, .int .i64 x1, .int .i64 x2] 55) g2
      have p0 := p0'; have p1 := p1'; have p2 := p2'
      refine hK.out _ _ ?_ (fun hHeld => ?_)
      · exact ⟨c1, g0, g1, g2⟩
      clear hK K
      try simp only [Act.put, List.setIfInBounds_toArray, List.set_cons_zero, List.set_cons_succ]
      refine wpAnyH_ready (rs := [0]) (by kernel_rfl) (by simp) ?_
      refine AllReadyH.cons (o := ⟨some 16, _, _, _, _, none⟩) rfl (fun K hK => ?_) AllReadyH.nil
      go_simp
      have own0 := own_empty (V0.drew.alloc (.cells #[.int .i64 x0, .int .i64 x1, .int .i64 x2] 55)) 55 3 (N + 1) (V0.heap.size + 1) (Nat.le_trans zN Bc.size) (by simp)
      replace Bc := Bc.alloc (Nat.le_trans zN Bc.size) (.cells #[] 55)
      replace c1 := keepA (.cells #[] 55) c1
      replace g0 := keepA (.cells #[] 55) g0
      replace g1 := keepA (.cells #[] 55) g1
      replace g2 := keepA (.cells #[] 55) g2
      replace p0 := keepA (.cells #[] 55) p0
      replace p1 := keepA (.cells #[] 55) p1
      replace p2 := keepA (.cells #[] 55) p2
      have own := own0
      refine hK.out _ _ ?_ (fun hHeld => ?_)
      · exact ⟨c1, g0, g1, g2⟩
      clear hK K
      try simp only [Act.put, List.setIfInBounds_toArray, List.set_cons_zero, List.set_cons_succ]
      refine wpAnyH_ready (rs := [3]) (by kernel_rfl) (by simp) ?_
      refine AllReadyH.cons (o := ⟨some 19, _, _, _, _, none⟩) rfl (fun K hK => ?_) AllReadyH.nil
      refine step_append_cells rfl (.tmp 16) (.tmp 18) 22 rfl (N + 1) 55 i0 (.agg #[.int .i64 0, .int .i64 0, .int .i64 0]) 3 24 Try.underlying22 hi hz0 hz1 hz2 rfl (by decide) _ 0 [] rfl own q.wa q.wl q.wc (flat3 s.ways) rfl HFL.out (HCL.out.below (hBw.trans (Bc.mono (by omega)))) HNN.out (flat3_one _) (by unfold maxLen; omega) (by omega) (Nat.le_trans zN Bc.size) ?_
      intro v3 W3 own3 grow3
      replace c1 := own_cell own grow3 c1 (by simp only; omega)
      replace g0 := own_cell own grow3 g0 (by simp only; omega)
      replace g1 := own_cell own grow3 g1 (by simp only; omega)
      replace g2 := own_cell own grow3 g2 (by simp only; omega)
      replace p0 := grow3.cell p0 (by simp [Act.eval, Value.ownBlock]; try omega)
      replace p1 := grow3.cell p1 (by simp [Act.eval, Value.ownBlock]; try omega)
      replace p2 := grow3.cell p2 (by simp [Act.eval, Value.ownBlock]; try omega)
      replace Bc := below_own Bc own grow3 (Nat.le_refl _) (Nat.le_trans zN Bc.size)
      replace own := own3
      refine hK.out _ _ ?_ (fun hHeld => ?_)
      · exact ⟨c1, g0, g1, g2⟩
      clear hK K
      try simp only [Act.put, List.setIfInBounds_toArray, List.set_cons_zero, List.set_cons_succ]
      refine wpAnyH_ready (rs := [6]) (by kernel_rfl) (by simp) ?_
      refine AllReadyH.cons (o := ⟨some 22, _, _, _, _, none⟩) rfl (fun K hK => ?_) AllReadyH.nil
      have hn6 : Cells W3 (some ⟨V0.heap.size, 0, none⟩) [.int .i64 x0, .int .i64 x1, .int .i64 x2] := .inr ⟨_, 0, rfl, fun i u hu => by
        rcases (show i = 0 ∨ i = 1 ∨ i = 2 by have := (List.getElem?_eq_some_iff.1 hu).1; simp at this; omega) with rfl | rfl | rfl
        · simp at hu; subst hu; exact p0
        · simp at hu; subst hu; exact p1
        · simp at hu; subst hu; exact p2⟩
      refine step_append_cells rfl (.tmp 19) (.tmp 21) 22 rfl (N + 1) 55 i0 (.agg #[.int .i64 0, .int .i64 0, .int .i64 0]) 3 24 Try.underlying22 hi hz0 hz1 hz2 rfl (by decide) _ (0 + q.wl) _ rfl own (some ⟨V0.heap.size, 0, none⟩) 1 1 [.int .i64 x0, .int .i64 x1, .int .i64 x2] rfl rfl hn6 (by simp) (by intro u hu; simp at hu; rcases hu with rfl | rfl | rfl <;> rfl) (by unfold maxLen; omega) (by omega) (Nat.le_trans zN Bc.size) ?_
      intro v6 W6 own6 grow6
      rw [show 0 + q.wl + 1 = q.wl + 1 by omega] at own6
      replace c1 := own_cell own grow6 c1 (by simp only; omega)
      replace g0 := own_cell own grow6 g0 (by simp only; omega)
      replace g1 := own_cell own grow6 g1 (by simp only; omega)
      replace g2 := own_cell own grow6 g2 (by simp only; omega)
      replace Bc := below_own Bc own grow6 (Nat.le_refl _) (Nat.le_trans zN Bc.size)
      obtain ⟨g, C, rfl⟩ : ∃ g C, v6 = .slice (some ⟨g, 0, none⟩) (q.wl + 1) C := by
        rcases own6.2 with ⟨_, h0⟩ | ⟨g, cap, _, hv, _⟩
        · omega
        · exact ⟨g, cap, hv⟩
      refine hK.out _ _ ?_ (fun hHeld => ?_)
      · exact ⟨c1, g0, g1, g2⟩
      clear hK K
      try simp only [Act.put, List.setIfInBounds_toArray, List.set_cons_zero, List.set_cons_succ]
      refine wpAnyH_take (i := 7) (oi := ⟨some 23, _, _, _, _, none⟩) (v := ?_) rfl (by kernel_rfl) (by kernel_rfl) (by kernel_rfl) (fun _ _ _ h => h) (Or.inl ⟨by rfl, ?_⟩) (by assumption) ?_
      rotate_left
      · intro wz hSw; (try dsimp only at hSw); go_simp; (try with_reducible rfl)
      try simp only [Act.put, List.setIfInBounds_toArray, List.set_cons_zero, List.set_cons_succ]
      refine wpAnyH_ready (rs := [8]) (by kernel_rfl) (by simp) ?_
      refine AllReadyH.cons (o := ⟨none, _, _, _, _, none⟩) rfl (fun K hK => ?_) AllReadyH.nil
      have hN := (Bc.block N (by omega)).trans H6.out
      have n6 : W6.cell? ⟨N, 1, none⟩ = some (.slice q.wa q.wl q.wc) := by simp [World.cell?, hN]
      have f6 : W6.frozen? ⟨N, 1, none⟩ = false := by simp [World.frozen?, hN]
      go_simp
      have Bs := Below.setCell (p := ⟨N, 1, none⟩) (Below.refl N W6) (Nat.le_refl _) (.slice (some ⟨g, 0, none⟩) (q.wl + 1) C)
      replace c1 := keepC Bs c1 (by simp only; omega)
      replace g0 := keepC Bs g0 (by simp only; omega)
      replace g1 := keepC Bs g1 (by simp only; omega)
      replace g2 := keepC Bs g2 (by simp only; omega)
      refine hK.out _ _ ?_ (fun hHeld => ?_)
      · exact ⟨c1, g0, g1, g2⟩
      clear hK K
      try simp only [Act.put, List.setIfInBounds_toArray, List.set_cons_zero, List.set_cons_succ]
      refine wpAnyH_done (by kernel_rfl) ?_ _
      go_wp2_with fail
      go_meet
      case rel =>
        have own7 := ownsRow_setCell_below own6 (a := ⟨N, 1, none⟩) (by simp) (.slice (some ⟨g, 0, none⟩) (q.wl + 1) C)
        rw [List.nil_append, show flat3 s.ways ++ [.int .i64 x0, .int .i64 x1, .int .i64 x2] = flat3 (s.ways ++ [(x0, x1, x2)]) from (flat3_snoc s.ways (x0, x1, x2)).symm] at own7
        refine ⟨some ⟨g, 0, none⟩, C, ?_, Recs3.of_own own7 (by omega) HIN.out, ?_⟩
        · have := block_setCell (i := 1) hN (.slice (some ⟨g, 0, none⟩) (q.wl + 1) C); simpa using this
        · exact (Bc.mono (by omega)).trans Bs
  case rest =>
    generalize wc = V at *
    obtain ⟨A, C, hm, hrec, Bv⟩ := hcut
    replace hb := box_keep Bv HB.out (by omega)
    replace hxb := box_keep Bv HXB.out (by omega)
    have B1 : Below w.heap.size w V := hBw.trans (Bv.mono (by omega))
    have zV : N < V.heap.size := block_lt hm
    have hsm : SetupIs V (moreS s (x0, x1, x2)) (moreQ q A C) := (h.below B1).more hrec
    have HSM := Lib.hid hsm
    clear hrec Bv h6 hi hz0 hz1 hz2 zN hBw H6 HB HXB HFL HCL HNN HIN hsm
    obtain ⟨f, hf⟩ : ∃ f, fewP (moreS s (x0, x1, x2)) = f := ⟨_, rfl⟩
    obtain ⟨c', hc'⟩ : ∃ c, setupP (moreS s (x0, x1, x2)) = c := ⟨_, rfl⟩
    obtain ⟨c, hc⟩ : ∃ c, setupP s = c := ⟨_, rfl⟩
    have HF := Lib.hid hf
    have HC' := Lib.hid hc'
    have HC := Lib.hid hc
    clear hf hc' hc
    go_wp2_with (refine wpList_load_box 30 (.tmp 6) rfl rfl N rfl 30 #[.int .i64 s.places, .slice A (q.wl + 1) C, .int .i64 s.pn, .int .i64 s.pd, .slice q.ea q.el q.ec, .slice q.ca q.cl q.cc, .slice q.ga q.gl q.gc, .int .i64 s.allow, .int .i64 s.unit, .int .i64 s.cap, .int .i64 s.paidBreak, .int .i64 s.autoAfter, .int .i64 s.autoBreak, .int .i64 s.dayReg, .int .i64 s.dayOver, .int .i64 s.weekReg, .int .i64 s.nightFrom, .int .i64 s.nightTo, .slice q.ra q.rl q.rc, .int .i64 s.diff, .int .i64 s.least, .int .i64 s.fault, .slice q.ta q.tl q.tc] hm setup_big ?_)
    refine (ref7_Few (moreS s (x0, x1, x2)) (moreQ q A C) f _ HSM.out HF.out).mono ?_
    rintro e2 w2 ⟨rfl, k2⟩
    replace hb := box_keep k2 hb (by omega)
    replace hxb := box_keep k2 hxb (by omega)
    replace hm := box_keep k2 hm (by omega)
    replace HSM := Lib.hid (HSM.out.below k2)
    replace B1 := B1.trans (k2.mono (by omega))
    replace zV := Nat.lt_of_lt_of_le zV k2.size
    clear k2
    cases f
    · go_wp2_with fail
      go_ret
      exact ⟨rfl, B1⟩
    go_wp2_with (refine wpList_load_box 30 (.tmp 6) rfl rfl N rfl 30 #[.int .i64 s.places, .slice A (q.wl + 1) C, .int .i64 s.pn, .int .i64 s.pd, .slice q.ea q.el q.ec, .slice q.ca q.cl q.cc, .slice q.ga q.gl q.gc, .int .i64 s.allow, .int .i64 s.unit, .int .i64 s.cap, .int .i64 s.paidBreak, .int .i64 s.autoAfter, .int .i64 s.autoBreak, .int .i64 s.dayReg, .int .i64 s.dayOver, .int .i64 s.weekReg, .int .i64 s.nightFrom, .int .i64 s.nightTo, .slice q.ra q.rl q.rc, .int .i64 s.diff, .int .i64 s.least, .int .i64 s.fault, .slice q.ta q.tl q.tc] hm setup_big ?_)
    refine (setup_Check (moreS s (x0, x1, x2)) (moreQ q A C) c' _ HSM.out HC'.out).mono ?_
    rintro e3 w3 ⟨rfl, k3⟩
    replace hb := box_keep k3 hb (by omega)
    replace hxb := box_keep k3 hxb (by omega)
    replace hm := box_keep k3 hm (by omega)
    replace HSM := Lib.hid (HSM.out.below k3)
    replace B1 := B1.trans (k3.mono (by omega))
    replace zV := Nat.lt_of_lt_of_le zV k3.size
    clear k3
    cases c'
    · go_wp2_with fail
      go_ret
      exact ⟨rfl, B1⟩
    go_wp2_with (refine wpList_load_box 30 (.tmp 2) rfl rfl w.heap.size rfl 30 #[.int .i64 s.places, .slice q.wa q.wl q.wc, .int .i64 s.pn, .int .i64 s.pd, .slice q.ea q.el q.ec, .slice q.ca q.cl q.cc, .slice q.ga q.gl q.gc, .int .i64 s.allow, .int .i64 s.unit, .int .i64 s.cap, .int .i64 s.paidBreak, .int .i64 s.autoAfter, .int .i64 s.autoBreak, .int .i64 s.dayReg, .int .i64 s.dayOver, .int .i64 s.weekReg, .int .i64 s.nightFrom, .int .i64 s.nightTo, .slice q.ra q.rl q.rc, .int .i64 s.diff, .int .i64 s.least, .int .i64 s.fault, .slice q.ta q.tl q.tc] hb setup_big ?_)
    refine (setup_Check s q c _ (h.below B1) HC.out).mono ?_
    rintro e4 w4 ⟨rfl, k4⟩
    replace hb := box_keep k4 hb (by omega)
    replace hxb := box_keep k4 hxb (by omega)
    replace hm := box_keep k4 hm (by omega)
    replace HSM := Lib.hid (HSM.out.below k4)
    replace B1 := B1.trans (k4.mono (by omega))
    replace zV := Nat.lt_of_lt_of_le zV k4.size
    clear k4
    cases c
    · go_wp2_with fail
      go_ret
      exact ⟨rfl, B1⟩
    obtain ⟨P, hPl, hP, hw, hwl⟩ := waysOk HC.out
    obtain ⟨P', hPl', _, hw', hwl'⟩ := waysOk HC'.out
    obtain rfl : P' = P := by
      have e : s.places = P' := hPl'
      omega
    have HPL := Lib.hid hPl
    have HPL' := Lib.hid hPl'
    clear hPl hPl'
    have hlo := hw'.lo (x0, x1, x2) (by show (x0, x1, x2) ∈ s.ways ++ [(x0, x1, x2)]; simp)
    have hpo := hw'.pos (x0, x1, x2) (by show (x0, x1, x2) ∈ s.ways ++ [(x0, x1, x2)]; simp)
    simp only at hlo hpo
    obtain ⟨X, rfl⟩ := Int.eq_ofNat_of_zero_le hlo.1
    obtain ⟨Y, rfl⟩ := Int.eq_ofNat_of_zero_le hlo.2.2.1
    go_wp2_with (refine wpList_load_box 30 (.tmp 2) rfl rfl w.heap.size rfl 30 #[.int .i64 s.places, .slice q.wa q.wl q.wc, .int .i64 s.pn, .int .i64 s.pd, .slice q.ea q.el q.ec, .slice q.ca q.cl q.cc, .slice q.ga q.gl q.gc, .int .i64 s.allow, .int .i64 s.unit, .int .i64 s.cap, .int .i64 s.paidBreak, .int .i64 s.autoAfter, .int .i64 s.autoBreak, .int .i64 s.dayReg, .int .i64 s.dayOver, .int .i64 s.weekReg, .int .i64 s.nightFrom, .int .i64 s.nightTo, .slice q.ra q.rl q.rc, .int .i64 s.diff, .int .i64 s.least, .int .i64 s.fault, .slice q.ta q.tl q.tc] hb setup_big ?_)
    refine (way_Table_at s q P' _ (h.below B1) HC.out HPL.out).mono ?_
    rintro e5 w5 ⟨o, base, rb, rfl, ht, _, _, k5⟩
    have HT := Lib.hid ht.r
    replace hb := box_keep k5 hb (by omega)
    replace hxb := box_keep k5 hxb (by omega)
    replace hm := box_keep k5 hm (by omega)
    replace HSM := Lib.hid (HSM.out.below k5)
    replace B1 := B1.trans (k5.mono (by omega))
    replace zV := Nat.lt_of_lt_of_le zV k5.size
    clear k5 ht
    go_wp2_with (refine wpList_load_box 30 (.tmp 6) rfl rfl N rfl 30 #[.int .i64 s.places, .slice A (q.wl + 1) C, .int .i64 s.pn, .int .i64 s.pd, .slice q.ea q.el q.ec, .slice q.ca q.cl q.cc, .slice q.ga q.gl q.gc, .int .i64 s.allow, .int .i64 s.unit, .int .i64 s.cap, .int .i64 s.paidBreak, .int .i64 s.autoAfter, .int .i64 s.autoBreak, .int .i64 s.dayReg, .int .i64 s.dayOver, .int .i64 s.weekReg, .int .i64 s.nightFrom, .int .i64 s.nightTo, .slice q.ra q.rl q.rc, .int .i64 s.diff, .int .i64 s.least, .int .i64 s.fault, .slice q.ta q.tl q.tc] hm setup_big ?_)
    refine (way_Table_at (moreS s ((X : Int), (Y : Int), x2)) (moreQ q A C) P' _ HSM.out HC'.out HPL'.out).mono ?_
    rintro e6 w6 ⟨o', base', rb', rfl, ht', _, _, k6⟩
    have HT' := Lib.hid ht'.r
    replace HT := Lib.hid (HT.out.below k6)
    replace hb := box_keep k6 hb (by omega)
    replace hxb := box_keep k6 hxb (by omega)
    replace B1 := B1.trans (k6.mono (by omega))
    replace zV := Nat.lt_of_lt_of_le zV k6.size
    have cN : w6.cell? ⟨w.heap.size, 0, none⟩ = some (.int .i64 (P' : Int)) := by rw [← HPL.out]; simp [World.cell?, hb]
    have g0 : w6.cell? ⟨w.heap.size + 1, 0, none⟩ = some (.int .i64 (X : Int)) := by simp [World.cell?, hxb]
    have g1 : w6.cell? ⟨w.heap.size + 1, 1, none⟩ = some (.int .i64 (Y : Int)) := by simp [World.cell?, hxb]
    have g2 : w6.cell? ⟨w.heap.size + 1, 2, none⟩ = some (.int .i64 x2) := by simp [World.cell?, hxb]
    clear k6 ht' hm hb hxb HSM
    have hdt := tableP_dists hw
    have hdu : Dists (s.ways ++ [((X : Int), (Y : Int), x2)]) P' (tableP P' (moreS s ((X : Int), (Y : Int), x2)).ways) := tableP_dists hw'
    have hM := metersP_nonneg hw.pos
    obtain ⟨t, htt⟩ : ∃ t, tableP P' s.ways = t := ⟨_, rfl⟩
    obtain ⟨u, huu⟩ : ∃ u, tableP P' (moreS s ((X : Int), (Y : Int), x2)).ways = u := ⟨_, rfl⟩
    rw [htt] at HT hdt
    rw [huu] at HT' hdu
    have hmore : ∀ a b, a < P' → b < P' → u a b = wasP t X Y x2 a b := fun a b ha hb => hdt.more hw hw' hdu ha hb
    have hbd : ∀ a b, a < P' → b < P' → -1 ≤ t a b ∧ t a b ≤ 640000 := fun a b ha hb => ⟨(hdt a b ha hb).ge, by have := hdt.all hw ha hb; omega⟩
    have HMORE := Lib.hid hmore
    have HBD := Lib.hid hbd
    have hX : X < P' := by omega
    have hY : Y < P' := by omega
    have hX0 : (0 : Int) ≤ (X : Int) := by omega
    have hX1 : (X : Int) < (P' : Int) := by omega
    have hY0 : (0 : Int) ≤ (Y : Int) := by omega
    have hY1 : (Y : Int) < (P' : Int) := by omega
    have hP0 : (0 : Int) ≤ (P' : Int) := by omega
    have hx2 : 0 ≤ x2 ∧ x2 ≤ 10000 := by omega
    clear hdt hdu hM htt huu hmore hbd hlo hpo hw hw' hwl hwl' HF HC HC' HPL HPL'
    go_wp2_with fail
    refine (law9_square o P' P' rb _ t _ rfl hP.2 _ HT.out).mono ?_
    rintro e7 w7 ⟨rfl, rfl⟩
    go_wp2_with fail
    refine (law9_square o' P' P' rb' _ u _ rfl hP.2 _ HT'.out).mono ?_
    rintro e8 w8 ⟨rfl, rfl⟩
    go_wp2_with fail
    go_loopg [9] P' (fun g i wr => ∃ a : Nat, a ≤ P' ∧ g = P' - a ∧ i = .int .i64 a ∧ ∃ n, wr = w8.drewN n)
    case atStart => exact ⟨0, by omega, by omega, rfl, 0, rfl⟩
    case round =>
      obtain ⟨a, ha, rfl, rfl, n, rfl⟩ := hrel
      by_cases hlta : a < P'
      · have ha0 : (0 : Int) ≤ (a : Int) := by omega
        have ha1 : (a : Int) < (P' : Int) := by omega
        go_wp2_with fail
        go_loopg [10] P' (fun g i wr => ∃ b : Nat, b ≤ P' ∧ g = P' - b ∧ i = .int .i64 b ∧ ∃ n, wr = w8.drewN n)
        case atStart => exact ⟨0, by omega, by omega, rfl, n, rfl⟩
        case round =>
          obtain ⟨b, hb, rfl, rfl, n2, rfl⟩ := hrel
          by_cases hltb : b < P'
          · have hb0 : (0 : Int) ≤ (b : Int) := by omega
            have hb1 : (b : Int) < (P' : Int) := by omega
            have r1 := HT.out.hdr a hlta
            have r2 := HT.out.hdr X hX
            have r3 := HT.out.hdr Y hY
            have r4 := HT'.out.hdr a hlta
            have c1 := HT.out.cell a b hlta hltb
            have c2 := HT.out.cell a X hlta hX
            have c3 := HT.out.cell Y b hY hltb
            have c4 := HT.out.cell a Y hlta hY
            have c5 := HT.out.cell X b hX hltb
            have c6 := HT'.out.cell a b hlta hltb
            have hmo := HMORE.out a b hlta hltb
            have b2 := HBD.out a X hlta hX
            have b3 := HBD.out Y b hY hltb
            have b4 := HBD.out a Y hlta hY
            have b5 := HBD.out X b hX hltb
            unfold wasP at hmo
            rw [hmo] at c6
            obtain ⟨z, hz⟩ : ∃ z, t a b = z := ⟨_, rfl⟩
            obtain ⟨xa, hxa⟩ : ∃ z, t a X = z := ⟨_, rfl⟩
            obtain ⟨bb, hbb⟩ : ∃ z, t Y b = z := ⟨_, rfl⟩
            obtain ⟨xb, hxb⟩ : ∃ z, t a Y = z := ⟨_, rfl⟩
            obtain ⟨ab, hab⟩ : ∃ z, t X b = z := ⟨_, rfl⟩
            rw [hz, hxa, hbb, hxb, hab] at c6
            rw [hz] at c1
            rw [hxa] at c2 b2
            rw [hbb] at c3 b3
            rw [hxb] at c4 b4
            rw [hab] at c5 b5
            obtain ⟨z1, hz1⟩ : ∃ z1, (if 0 ≤ xa ∧ 0 ≤ bb ∧ (z < 0 ∨ xa + x2 + bb < z) then xa + x2 + bb else z) = z1 := ⟨_, rfl⟩
            rw [hz1] at c6
            obtain ⟨z2, hz2⟩ : ∃ z2, (if 0 ≤ xb ∧ 0 ≤ ab ∧ (z1 < 0 ∨ xb + x2 + ab < z1) then xb + x2 + ab else z1) = z2 := ⟨_, rfl⟩
            simp only [hz2] at c6
            have HZ1 := Lib.hid hz1
            have HZ2 := Lib.hid hz2
            have wx1 : IntKind.i64.wrap (xa + x2) = xa + x2 := IntWalk.i64_in _ (by omega)
            have wx2 : IntKind.i64.wrap (xa + x2 + bb) = xa + x2 + bb := IntWalk.i64_in _ (by omega)
            have wx3 : IntKind.i64.wrap (xb + x2) = xb + x2 := IntWalk.i64_in _ (by omega)
            have wx4 : IntKind.i64.wrap (xb + x2 + ab) = xb + x2 + ab := IntWalk.i64_in _ (by omega)
            clear hmo hz hxa hbb hxb hab hz1 hz2 b2 b3 b4 b5
            go_wp2_with fail
            go_cut [12] (fun v wx => v = .bool (decide (0 ≤ xa) && decide (0 ≤ bb)) ∧ ∃ n, wx = w8.drewN n)
            case first =>
             as_aux_lemma =>
              by_cases e1 : 0 ≤ xa
              · by_cases e2 : 0 ≤ bb
                · have d1 : decide (0 ≤ xa) = true := by rw [decide_eq_true_iff]; exact e1
                  have d2 : decide (0 ≤ bb) = true := by rw [decide_eq_true_iff]; exact e2
                  go_quiet (fail)
                  go_wp2_with fail
                  go_meet
                  case rel => exact ⟨by rw [d1, d2]; rfl, _, by first | rfl | exact World.drewN_drewN _ _ _⟩
                · have d1 : decide (0 ≤ xa) = true := by rw [decide_eq_true_iff]; exact e1
                  have d2 : decide (0 ≤ bb) = false := by rw [decide_eq_false_iff_not]; exact e2
                  go_quiet (fail)
                  go_wp2_with fail
                  go_meet
                  case rel => exact ⟨by rw [d1, d2]; rfl, _, by first | rfl | exact World.drewN_drewN _ _ _⟩
              · have d1 : decide (0 ≤ xa) = false := by rw [decide_eq_false_iff_not]; exact e1
                go_quiet (fail)
                go_wp2_with fail
                go_meet
                case rel => exact ⟨by rw [d1]; rfl, _, by first | rfl | exact World.drewN_drewN _ _ _⟩
            case rest =>
            obtain ⟨rfl, n12, rfl⟩ := hcut
            obtain ⟨th, hth⟩ : ∃ p, (decide (0 ≤ xa) && decide (0 ≤ bb)) = p := ⟨_, rfl⟩
            rw [hth]
            have HTH := Lib.hid hth
            clear hth
            go_wp2_with fail
            go_cut [13] (fun v wx => v = .bool (decide (0 ≤ xb) && decide (0 ≤ ab)) ∧ ∃ n, wx = w8.drewN n)
            case first =>
             as_aux_lemma =>
              by_cases e1 : 0 ≤ xb
              · by_cases e2 : 0 ≤ ab
                · have d1 : decide (0 ≤ xb) = true := by rw [decide_eq_true_iff]; exact e1
                  have d2 : decide (0 ≤ ab) = true := by rw [decide_eq_true_iff]; exact e2
                  go_quiet (fail)
                  go_wp2_with fail
                  go_meet
                  case rel => exact ⟨by rw [d1, d2]; rfl, _, by first | rfl | exact World.drewN_drewN _ _ _⟩
                · have d1 : decide (0 ≤ xb) = true := by rw [decide_eq_true_iff]; exact e1
                  have d2 : decide (0 ≤ ab) = false := by rw [decide_eq_false_iff_not]; exact e2
                  go_quiet (fail)
                  go_wp2_with fail
                  go_meet
                  case rel => exact ⟨by rw [d1, d2]; rfl, _, by first | rfl | exact World.drewN_drewN _ _ _⟩
              · have d1 : decide (0 ≤ xb) = false := by rw [decide_eq_false_iff_not]; exact e1
                go_quiet (fail)
                go_wp2_with fail
                go_meet
                case rel => exact ⟨by rw [d1]; rfl, _, by first | rfl | exact World.drewN_drewN _ _ _⟩
            case rest =>
            obtain ⟨rfl, n13, rfl⟩ := hcut
            obtain ⟨bk, hbk⟩ : ∃ p, (decide (0 ≤ xb) && decide (0 ≤ ab)) = p := ⟨_, rfl⟩
            rw [hbk]
            have HBK := Lib.hid hbk
            clear hbk
            iterate 2 (first | go_values | go_skip | go_guarded | go_step | go_upon | go_back)
            go_cut [11] (fun v wx => v = .int .i64 z1 ∧ ∃ n, wx = w8.drewN n)
            case first =>
             as_aux_lemma =>
              cases th
              · have hn : ¬ (0 ≤ xa ∧ 0 ≤ bb) := by have := HTH.out; simp at this; omega
                have hr : z1 = z := by rw [← HZ1.out, if_neg (fun y => hn ⟨y.1, y.2.1⟩)]
                have HR := Lib.hid hr
                clear hr hn
                go_wp2_with fail
                go_quiet (fail)
                go_wp2_with fail
                go_meet
                case rel => exact ⟨by rw [HR.out], _, by first | rfl | exact World.drewN_drewN _ _ _⟩
              · have hy : 0 ≤ xa ∧ 0 ≤ bb := by have := HTH.out; simpa using this
                have HY := Lib.hid hy
                clear hy
                by_cases e1 : z < 0
                · have d1 : decide (z < 0) = true := by rw [decide_eq_true_iff]; exact e1
                  have hr : z1 = xa + x2 + bb := by rw [← HZ1.out, if_pos ⟨HY.out.1, HY.out.2, .inl e1⟩]
                  have HR := Lib.hid hr
                  clear hr
                  clear e1
                  go_wp2_with fail
                  go_quiet (fail)
                  go_wp2_with fail
                  go_quiet (fail)
                  go_wp2_with fail
                  go_meet
                  case rel => exact ⟨by rw [HR.out], drewN2 _ _ _ _⟩
                · have d1 : decide (z < 0) = false := by rw [decide_eq_false_iff_not]; exact e1
                  by_cases e2 : xa + x2 + bb < z
                  · have d2 : decide (xa + x2 + bb < z) = true := by rw [decide_eq_true_iff]; exact e2
                    have hr : z1 = xa + x2 + bb := by rw [← HZ1.out, if_pos ⟨HY.out.1, HY.out.2, .inr e2⟩]
                    have HR := Lib.hid hr
                    clear hr
                    clear e1
                    clear e2
                    go_wp2_with fail
                    go_quiet (fail)
                    go_wp2_with fail
                    go_quiet (fail)
                    go_wp2_with fail
                    go_meet
                    case rel => exact ⟨by rw [HR.out], drewN2 _ _ _ _⟩
                  · have d2 : decide (xa + x2 + bb < z) = false := by rw [decide_eq_false_iff_not]; exact e2
                    have hr : z1 = z := by rw [← HZ1.out, if_neg (fun y => y.2.2.elim e1 e2)]
                    have HR := Lib.hid hr
                    clear hr
                    clear e1
                    clear e2
                    go_wp2_with fail
                    go_quiet (fail)
                    go_wp2_with fail
                    go_meet
                    case rel => exact ⟨by rw [HR.out], drewN1 _ _ _⟩
            case rest =>
            obtain ⟨rfl, np, rfl⟩ := hcut
            iterate 2 (first | go_values | go_skip | go_guarded | go_step | go_upon | go_back)
            go_cut [11] (fun v wx => v = .int .i64 z2 ∧ ∃ n, wx = w8.drewN n)
            case first =>
             as_aux_lemma =>
              cases bk
              · have hn : ¬ (0 ≤ xb ∧ 0 ≤ ab) := by have := HBK.out; simp at this; omega
                have hr : z2 = z1 := by rw [← HZ2.out, if_neg (fun y => hn ⟨y.1, y.2.1⟩)]
                have HR := Lib.hid hr
                clear hr hn
                go_wp2_with fail
                go_quiet (fail)
                go_wp2_with fail
                go_meet
                case rel => exact ⟨by rw [HR.out], _, by first | rfl | exact World.drewN_drewN _ _ _⟩
              · have hy : 0 ≤ xb ∧ 0 ≤ ab := by have := HBK.out; simpa using this
                have HY := Lib.hid hy
                clear hy
                by_cases e1 : z1 < 0
                · have d1 : decide (z1 < 0) = true := by rw [decide_eq_true_iff]; exact e1
                  have hr : z2 = xb + x2 + ab := by rw [← HZ2.out, if_pos ⟨HY.out.1, HY.out.2, .inl e1⟩]
                  have HR := Lib.hid hr
                  clear hr
                  clear e1
                  go_wp2_with fail
                  go_quiet (fail)
                  go_wp2_with fail
                  go_quiet (fail)
                  go_wp2_with fail
                  go_meet
                  case rel => exact ⟨by rw [HR.out], drewN2 _ _ _ _⟩
                · have d1 : decide (z1 < 0) = false := by rw [decide_eq_false_iff_not]; exact e1
                  by_cases e2 : xb + x2 + ab < z1
                  · have d2 : decide (xb + x2 + ab < z1) = true := by rw [decide_eq_true_iff]; exact e2
                    have hr : z2 = xb + x2 + ab := by rw [← HZ2.out, if_pos ⟨HY.out.1, HY.out.2, .inr e2⟩]
                    have HR := Lib.hid hr
                    clear hr
                    clear e1
                    clear e2
                    go_wp2_with fail
                    go_quiet (fail)
                    go_wp2_with fail
                    go_quiet (fail)
                    go_wp2_with fail
                    go_meet
                    case rel => exact ⟨by rw [HR.out], drewN2 _ _ _ _⟩
                  · have d2 : decide (xb + x2 + ab < z1) = false := by rw [decide_eq_false_iff_not]; exact e2
                    have hr : z2 = z1 := by rw [← HZ2.out, if_neg (fun y => y.2.2.elim e1 e2)]
                    have HR := Lib.hid hr
                    clear hr
                    clear e1
                    clear e2
                    go_wp2_with fail
                    go_quiet (fail)
                    go_wp2_with fail
                    go_meet
                    case rel => exact ⟨by rw [HR.out], drewN1 _ _ _⟩
            case rest =>
            obtain ⟨rfl, nq, rfl⟩ := hcut
            go_wp2_with fail
            go_roundg (P' - (b + 1))
            case measure => omega
            case rel => exact ⟨b + 1, by omega, rfl, by go_num, _, rfl⟩
          · obtain rfl : P' = b := by omega
            go_wp2_with fail
            go_roundg (P' - (a + 1))
            case measure => omega
            case rel => exact ⟨a + 1, by omega, rfl, by go_num, n2, rfl⟩
      · obtain rfl : P' = a := by omega
        go_wp2_with fail
        go_ret
        exact ⟨rfl, below_drewN B1 n⟩
end Go.Proofs.Ytjcfflpiajefmaa
