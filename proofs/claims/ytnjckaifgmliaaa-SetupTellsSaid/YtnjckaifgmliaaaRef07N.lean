/- THE WALK of lumperref07.numbers: a setup's numbers, one behind the other. -/
import Derived.Test.YtnjckaifgmliaaaRef07D
import Derived.Test.YtnjckaifgmliaaaPlainHand2
import Derived.Test.YtnjckaifgmliaaaRepeat
import Derived.OrdersHeld
import Derived.Deep.DeepCutAuto
import Derived.Deep.AppendLies
set_option linter.unusedSimpArgs false
set_option linter.unusedVariables false
namespace Go.Proofs.Ytnjckaifgmliaaa
open Go.RowKit Lu

theorem news_new (W : World) (T : TypeId) (vs : List Value) (b : Nat) (hb : b = W.heap.size) : ∀ (j : Nat) (u : Value), vs[j]? = some u → (W.alloc (.cells vs.toArray T)).cell? ((⟨b, 0, none⟩ : Addr).add j) = some u := by
  subst hb
  intro j u hu
  rw [Addr.add_lit, Nat.zero_add]
  unfold World.cell?
  simp only [heap_alloc_new]
  simpa using hu
theorem one_of_ints (zs : List Int) : ∀ u ∈ zs.map (Value.int .i64), u.oneCell' = true := ints_oneCell .i64 zs
theorem own_below' {w w' : World} {base : Nat} {e : TypeId} {size : Nat} {v : Value} {n : Nat} {xs : List Value} (h : w.ownsRow base e size v n xs) (k : Below w.heap.size w w') : w'.ownsRow base e size v n xs := by
  refine ⟨h.1, ?_⟩
  rcases h.2 with h0 | ⟨g, cap, cur, hv, hg, hh, hr⟩
  · exact .inl h0
  · exact .inr ⟨g, cap, cur, hv, hg, (k.block g (block_lt hh)).trans hh, hr⟩
/-- What numbers has come to: the box of the setup, and a row of its own. -/
structure NumSt (w wr : World) (s : Setup) (q : Slices) (v : Value) (L : List Int) : Prop where
  own : wr.ownsRow (w.heap.size + 1) 3 1 v L.length (L.map (Value.int .i64))
  box : wr.heap[w.heap.size]? = some (.cells #[.int .i64 s.places, .slice q.wa q.wl q.wc, .int .i64 s.pn, .int .i64 s.pd, .slice q.ea q.el q.ec, .slice q.ca q.cl q.cc, .slice q.ga q.gl q.gc, .int .i64 s.allow, .int .i64 s.unit, .int .i64 s.cap, .int .i64 s.paidBreak, .int .i64 s.autoAfter, .int .i64 s.autoBreak, .int .i64 s.dayReg, .int .i64 s.dayOver, .int .i64 s.weekReg, .int .i64 s.nightFrom, .int .i64 s.nightTo, .slice q.ra q.rl q.rc, .int .i64 s.diff, .int .i64 s.least, .int .i64 s.fault, .slice q.ta q.tl q.tc] 30)
  low : Below w.heap.size w wr
  sz : w.heap.size + 1 ≤ wr.heap.size
theorem NumSt.drew {w wr : World} {s : Setup} {q : Slices} {v : Value} {L : List Int} (h : NumSt w wr s q v L) : NumSt w wr.drew s q v L := ⟨own_below' h.own ((Below.refl _ _).drew), h.box, h.low.drew, h.sz⟩
/-- Something new. -/
theorem NumSt.alloc {w wr : World} {s : Setup} {q : Slices} {v : Value} {L : List Int} (h : NumSt w wr s q v L) (x : Obj) : NumSt w (wr.alloc x) s q v L := by
  have k0 : Below wr.heap.size wr (wr.alloc x) := by go_grown
  exact ⟨own_below' h.own k0, box_keep k0 h.box (block_lt h.box), h.low.trans (k0.mono h.low.size), by have := h.sz; simp; omega⟩
/-- One more append. -/
theorem NumSt.grown {w wr w' : World} {s : Setup} {q : Slices} {v v' : Value} {L M : List Int} (h : NumSt w wr s q v L) (hown : w'.ownsRow (w.heap.size + 1) 3 1 v' (L.length + M.length) (L.map (Value.int .i64) ++ M.map (Value.int .i64)))
    (hg : wr.grownBy w' v.ownBlock) : NumSt w w' s q v' (L ++ M) := by
  have B := below_own (B := w.heap.size + 1) (Below.refl _ _) h.own hg (Nat.le_refl _) h.sz
  exact ⟨by rw [List.length_append, List.map_append]; exact hown, box_keep B h.box (by omega), h.low.trans (B.mono (by omega)), Nat.le_trans h.sz B.size⟩
theorem NumSt.cell {w wr : World} {s : Setup} {q : Slices} {v : Value} {L : List Int} (h : NumSt w wr s q v L) {b i : Nat} {x : Value} (hc : w.cell? ⟨b, i, none⟩ = some x) : wr.cell? ⟨b, i, none⟩ = some x := keepD h.low hc
theorem elem_cells (W : World) (T : TypeId) (a b c d : Int) (n : Nat) (hn : n = W.heap.size) : (W.alloc (.cells #[.int .i64 a, .int .i64 b, .int .i64 c, .int .i64 d] T)).cell? ⟨n, 0, none⟩ = some (.int .i64 a) ∧ (W.alloc (.cells #[.int .i64 a, .int .i64 b, .int .i64 c, .int .i64 d] T)).cell? ⟨n, 1, none⟩ = some (.int .i64 b) ∧ (W.alloc (.cells #[.int .i64 a, .int .i64 b, .int .i64 c, .int .i64 d] T)).cell? ⟨n, 2, none⟩ = some (.int .i64 c) ∧ (W.alloc (.cells #[.int .i64 a, .int .i64 b, .int .i64 c, .int .i64 d] T)).cell? ⟨n, 3, none⟩ = some (.int .i64 d) := by
  subst hn
  simp [go_sem]
theorem step_append_cells {P : Program} {w : World} {ops : Array Oper} {o : Oper} {a : Act} {K : Act → World → Prop} {Q : Exit → Act → World → Prop} {E : Prop} (hgd : o.guard = none) (s x : Operand) (t : TypeId)
    (ho : o.op = .call { callee := .builtin .append, args := #[s, x], argTypes := #[t, t] })
    (base : Nat) (e : TypeId) (i : TypeInfo) (z : Value) (size bytes : Nat) (ht : P.underlying t = some (.slice e)) (hi : P.info? e = some i) (hz : i.zero = some z)
    (hsize : i.size = size) (hby : i.bytes = bytes) (hzs : z.cells.size = size) (hsz : 0 < size)
    (v : Value) (n : Nat) (xs : List Value) (hs : a.eval s = v) (hown : w.ownsRow base e size v n xs)
    (A : Option Addr) (m c : Nat) (news : List Value) (hx : a.eval x = .slice A m c) (hl : news.length = m * size) (hnews : Cells w A news) (hA : A = none → m = 0) (h1 : ∀ u ∈ news, u.oneCell' = true)
    (h63 : n + m ≤ maxLen) (hbytes : (n + m) * bytes ≤ 140737488355328) (hbase : base ≤ w.heap.size)
    (h : ∀ v' w', w'.ownsRow base e size v' (n + m) (xs ++ news) → w.grownBy w' v.ownBlock → K (a.put o.dst v') w') :
    if Region.wanted o (yielded ops a.tmps) = true then Oper.wp P o a w K Q else E := by
  have hw : Region.wanted o (yielded ops a.tmps) = true := by simp [Region.wanted, hgd]
  rw [if_pos hw]
  cases A with
  | none =>
    obtain rfl := hA rfl
    obtain rfl : news = [] := List.eq_nil_of_length_eq_zero (by rw [hl, Nat.zero_mul])
    have hr := run_append_none (P := P) w base t o.type e i size ht hi v n xs hown c
    unfold Oper.wp execOp
    simp only [ho, resolve, invoke, builtin, Sem.run_bind, Sem.run_pure, Result.andThen_ok, List.map_toArray, List.map_cons, List.map_nil, hs, hx, hr]
    exact h v w (by simpa using hown) (World.grownBy.refl w _)
  | some ad =>
    have hn : ∀ j u, news[j]? = some u → w.cell? (ad.add j) = some u := by
      rcases hnews with rfl | ⟨b, off, hb, hc⟩
      · intro j u hj; simp at hj
      · intro j u hj
        obtain rfl : ad = ⟨b, off, none⟩ := Option.some.inj hb
        rw [Addr.add_lit]
        exact hc j u hj
    exact wp_append_own w s x t ho base e i z size bytes ht hi hz hsize hby hzs hsz v n xs hs hown ad m c news hx hl hn h1 h63 hbytes hbase fun v' w' h2 h3 _ => h v' w' h2 h3
theorem elem_size : (Try.prog.info? 74).map (·.size) = some 4 := by kernel_rfl
set_option maxRecDepth 100000 in
set_option maxHeartbeats 8000000 in
theorem ref7_numbers (s : Setup) (q : Slices) (w : World) (h : SetupIs w s q) (hf : fewP s = true) :
    Calls Try.prog 36 #[.agg #[.int .i64 s.places, .slice q.wa q.wl q.wc, .int .i64 s.pn, .int .i64 s.pd, .slice q.ea q.el q.ec, .slice q.ca q.cl q.cc, .slice q.ga q.gl q.gc, .int .i64 s.allow, .int .i64 s.unit, .int .i64 s.cap, .int .i64 s.paidBreak, .int .i64 s.autoAfter, .int .i64 s.autoBreak, .int .i64 s.dayReg, .int .i64 s.dayOver, .int .i64 s.weekReg, .int .i64 s.nightFrom, .int .i64 s.nightTo, .slice q.ra q.rl q.rc, .int .i64 s.diff, .int .i64 s.least, .int .i64 s.fault, .slice q.ta q.tl q.tc]] w fun e w' => ∃ v, e = .returned v ∧ w'.ownsRow (w.heap.size + 1) 3 1 v (numbersP s).length ((numbersP s).map (Value.int .i64)) ∧ Below w.heap.size w w' := by
  obtain ⟨i0, hi, hz0, hz1, hz2⟩ := info_parts infoInt
  have hb : (w.alloc (.cells #[.int .i64 s.places, .slice q.wa q.wl q.wc, .int .i64 s.pn, .int .i64 s.pd, .slice q.ea q.el q.ec, .slice q.ca q.cl q.cc, .slice q.ga q.gl q.gc, .int .i64 s.allow, .int .i64 s.unit, .int .i64 s.cap, .int .i64 s.paidBreak, .int .i64 s.autoAfter, .int .i64 s.autoBreak, .int .i64 s.dayReg, .int .i64 s.dayOver, .int .i64 s.weekReg, .int .i64 s.nightFrom, .int .i64 s.nightTo, .slice q.ra q.rl q.rc, .int .i64 s.diff, .int .i64 s.least, .int .i64 s.fault, .slice q.ta q.tl q.tc] 30)).heap[w.heap.size]? = some (.cells #[.int .i64 s.places, .slice q.wa q.wl q.wc, .int .i64 s.pn, .int .i64 s.pd, .slice q.ea q.el q.ec, .slice q.ca q.cl q.cc, .slice q.ga q.gl q.gc, .int .i64 s.allow, .int .i64 s.unit, .int .i64 s.cap, .int .i64 s.paidBreak, .int .i64 s.autoAfter, .int .i64 s.autoBreak, .int .i64 s.dayReg, .int .i64 s.dayOver, .int .i64 s.weekReg, .int .i64 s.nightFrom, .int .i64 s.nightTo, .slice q.ra q.rl q.rc, .int .i64 s.diff, .int .i64 s.least, .int .i64 s.fault, .slice q.ta q.tl q.tc] 30) := box_new w _ rfl _ _
  have f : s.ways.length ≤ 100 ∧ s.elements.length ≤ 100 ∧ s.classes.length ≤ 100 ∧ s.gears.length ≤ 100 ∧ s.rates.length ≤ 100 ∧ s.tiers.length ≤ 100 := by
    unfold fewP at hf
    simp only [Bool.and_eq_true, decide_eq_true_eq] at hf
    omega
  have HF := Lib.hid f
  have H := Lib.hid h
  clear f hf h
  go_enter Try.func36, Try.ntmps36
  go_upto_region 2 with fail
  refine gen_code (S := fun V => NumSt w V s q (.slice (some ⟨w.heap.size + 1, 0, none⟩) 2 2) [s.places, (q.wl : Int)]) ⟨own_full _ 3 1 (w.heap.size + 1) (w.heap.size + 1) 2 ([s.places, (q.wl : Int)].map (Value.int .i64)) (by simp) (by simp) rfl (by decide), box_keep (B := w.heap.size + 1) ((Below.refl _ _).alloc (by simp) _) hb (by omega), by go_grown, by simp⟩ (fun wr hst => ?_)
  clear hb
  obtain ⟨LL, hL0⟩ : ∃ L : List Int, [s.places, (q.wl : Int)] = L := ⟨_, rfl⟩
  have hl : LL.length ≤ 2 := by rw [← hL0]; simp
  rw [hL0] at hst
  have gS : wr.cell? ⟨w.heap.size, 1, none⟩ = some (.slice q.wa q.wl q.wc) := by simp [World.cell?, hst.box]
  have HN := Lib.hid hst
  have HL0 := Lib.hid hL0
  clear hL0 hst
  go_wp2_with fail
  go_loopw [3, 4] (fun v i wr => ∃ k : Nat, k ≤ q.wl ∧ i = .int .i64 k ∧ NumSt w wr s q v (LL ++ flat3i (s.ways.take k))) (fun _ i _ => q.wl - (intOf i).toNat)
  case atStart => exact ⟨0, by omega, rfl, by simpa [flat3i] using HN.out⟩
  case round =>
    obtain ⟨k, hk, rfl, hst⟩ := hrel
    clear HN
    have HN := Lib.hid hst
    clear hst
    have hfl := H.out.ways.1
    have hff := HF.out
    by_cases hlt : k < q.wl
    · have hk0 : (0 : Int) ≤ (k : Int) := by omega
      have hk1 : (k : Int) < (q.wl : Int) := by omega
      have hk2 : (q.wl : Int) ≤ 100 := by omega
      obtain ⟨rb, ro, hra, _, hrc⟩ := H.out.ways.2.2.2.resolve_left (by omega)
      have hrk := hrc k hlt
      have htk : s.ways.take (k + 1) = s.ways.take k ++ [s.ways.getD k (0, 0, 0)] := by
        rw [List.take_succ_eq_append_getElem (by omega), List.getD_eq_getElem?_getD, List.getElem?_eq_getElem (by omega)]; rfl
      generalize s.ways.getD k (0, 0, 0) = x at *
      obtain ⟨z0, z1, z2⟩ := x
      simp only at hrk
      obtain ⟨c0, c1, c2⟩ := hrk
      have htf : LL ++ flat3i (s.ways.take (k + 1)) = (LL ++ flat3i (s.ways.take k)) ++ [z0, z1, z2] := by
        rw [htk]
        simp [flat3i]
      have hll : (LL ++ flat3i (s.ways.take k)).length ≤ 302 := by rw [List.length_append, flat3i_length, List.length_take]; omega
      have HTF := Lib.hid htf
      generalize LL ++ flat3i (s.ways.take k) = LL at *
      have g0 := HN.out.cell c0
      have g1 := HN.out.cell c1
      have g2 := HN.out.cell c2
      have gS : wr.cell? ⟨w.heap.size, 1, none⟩ = some (.slice (some ⟨rb, ro, none⟩) q.wl q.wc) := by rw [← hra]; simp [World.cell?, HN.out.box]
      replace hra : Value.slice q.wa q.wl q.wc = .slice (some ⟨rb, ro, none⟩) q.wl q.wc := by rw [hra]
      have HRA := Lib.hid hra
      clear hrc htk htf hra hff hfl
      go_wp2_with fail
      refine wp_region_held_drew (S := (fun w' => w'.cell? ⟨w.heap.size, 1, none⟩ = some (.slice (some ⟨rb, ro, none⟩) q.wl q.wc) ∧ w'.cell? ⟨rb, ro + k * 3, none⟩ = some (.int .i64 z0) ∧ w'.cell? ⟨rb, ro + k * 3 + 1, none⟩ = some (.int .i64 z1) ∧ w'.cell? ⟨rb, ro + k * 3 + 2, none⟩ = some (.int .i64 z2))) (by kernel_rfl) ?_ (fun hHeld => ?_)
      · exact ⟨gS, g0, g1, g2⟩
      refine wpAnyH_take (i := 0) (oi := ⟨some 23, _, _, _, _, none⟩) (v := ?_) rfl (by kernel_rfl) (by kernel_rfl) (by kernel_rfl) (fun _ _ _ h => h) (Or.inl ⟨by rfl, ?_⟩) (by assumption) ?_
      rotate_left
      · intro wz hSw; (try dsimp only at hSw); go_simp; (try with_reducible rfl)
      try simp only [Act.put, List.setIfInBounds_toArray, List.set_cons_zero, List.set_cons_succ]
      refine wpAnyH_take (i := 1) (oi := ⟨some 24, _, _, _, _, none⟩) (v := ?_) rfl (by kernel_rfl) (by kernel_rfl) (by kernel_rfl) (fun _ _ _ h => h) (Or.inl ⟨by rfl, ?_⟩) (by assumption) ?_
      rotate_left
      · intro wz hSw; (try dsimp only at hSw); go_simp; (try with_reducible rfl)
      try simp only [Act.put, List.setIfInBounds_toArray, List.set_cons_zero, List.set_cons_succ]
      refine wpAnyH_take (i := 2) (oi := ⟨some 25, _, _, _, _, none⟩) (v := ?_) rfl (by kernel_rfl) (by kernel_rfl) (by kernel_rfl) (fun _ _ _ h => h) (Or.inl ⟨by rfl, ?_⟩) (by assumption) ?_
      rotate_left
      · intro wz hSw; (try dsimp only at hSw); go_simp; (try with_reducible rfl)
      try simp only [Act.put, List.setIfInBounds_toArray, List.set_cons_zero, List.set_cons_succ]
      refine wpAnyH_take (i := 3) (oi := ⟨some 26, _, _, _, _, none⟩) (v := ?_) rfl (by kernel_rfl) (by kernel_rfl) (by kernel_rfl) (fun _ _ _ h => h) (Or.inl ⟨by rfl, ?_⟩) (by assumption) ?_
      rotate_left
      · intro wz hSw; (try dsimp only at hSw); go_simp; (try with_reducible rfl)
      try simp only [Act.put, List.setIfInBounds_toArray, List.set_cons_zero, List.set_cons_succ]
      refine wpAnyH_take (i := 4) (oi := ⟨some 27, _, _, _, _, none⟩) (v := ?_) rfl (by kernel_rfl) (by kernel_rfl) (by kernel_rfl) (fun _ _ _ h => h) (Or.inl ⟨by rfl, ?_⟩) (by assumption) ?_
      rotate_left
      · intro wz hSw; (try dsimp only at hSw); go_simp; (try with_reducible rfl)
      try simp only [Act.put, List.setIfInBounds_toArray, List.set_cons_zero, List.set_cons_succ]
      refine wpAnyH_take (i := 5) (oi := ⟨some 28, _, _, _, _, none⟩) (v := ?_) rfl (by kernel_rfl) (by kernel_rfl) (by kernel_rfl) (fun _ _ _ h => h) (Or.inl ⟨by rfl, ?_⟩) (by assumption) ?_
      rotate_left
      · intro wz hSw; (try dsimp only at hSw); go_simp; (try with_reducible rfl)
      try simp only [Act.put, List.setIfInBounds_toArray, List.set_cons_zero, List.set_cons_succ]
      refine wpAnyH_take (i := 6) (oi := ⟨some 29, _, _, _, _, none⟩) (v := ?_) rfl (by kernel_rfl) (by kernel_rfl) (by kernel_rfl) (fun _ _ _ h => h) (Or.inl ⟨by rfl, ?_⟩) (by assumption) ?_
      rotate_left
      · intro wz hSw; (try dsimp only at hSw); go_simp; (try with_reducible rfl)
      try simp only [Act.put, List.setIfInBounds_toArray, List.set_cons_zero, List.set_cons_succ]
      refine wpAnyH_take (i := 7) (oi := ⟨some 30, _, _, _, _, none⟩) (v := ?_) rfl (by kernel_rfl) (by kernel_rfl) (by kernel_rfl) (fun _ _ _ h => h) (Or.inl ⟨by rfl, ?_⟩) (by assumption) ?_
      rotate_left
      · intro wz hSw; (try dsimp only at hSw); go_simp; (try with_reducible rfl)
      try simp only [Act.put, List.setIfInBounds_toArray, List.set_cons_zero, List.set_cons_succ]
      refine wpAnyH_take (i := 8) (oi := ⟨some 31, _, _, _, _, none⟩) (v := ?_) rfl (by kernel_rfl) (by kernel_rfl) (by kernel_rfl) (fun _ _ _ h => h) (Or.inl ⟨by rfl, ?_⟩) (by assumption) ?_
      rotate_left
      · intro wz hSw; (try dsimp only at hSw); go_simp; (try with_reducible rfl)
      try simp only [Act.put, List.setIfInBounds_toArray, List.set_cons_zero, List.set_cons_succ]
      refine wpAnyH_take (i := 9) (oi := ⟨some 32, _, _, _, _, none⟩) (v := ?_) rfl (by kernel_rfl) (by kernel_rfl) (by kernel_rfl) (fun _ _ _ h => h) (Or.inl ⟨by rfl, ?_⟩) (by assumption) ?_
      rotate_left
      · intro wz hSw; (try dsimp only at hSw); go_simp; (try with_reducible rfl)
      try simp only [Act.put, List.setIfInBounds_toArray, List.set_cons_zero, List.set_cons_succ]
      refine wpAnyH_take (i := 10) (oi := ⟨some 33, _, _, _, _, none⟩) (v := ?_) rfl (by kernel_rfl) (by kernel_rfl) (by kernel_rfl) (fun _ _ _ h => h) (Or.inl ⟨by rfl, ?_⟩) (by assumption) ?_
      rotate_left
      · intro wz hSw; (try dsimp only at hSw); go_simp; (try with_reducible rfl)
      try simp only [Act.put, List.setIfInBounds_toArray, List.set_cons_zero, List.set_cons_succ]
      refine wpAnyH_take (i := 11) (oi := ⟨some 34, _, _, _, _, none⟩) (v := ?_) rfl (by kernel_rfl) (by kernel_rfl) (by kernel_rfl) (fun _ _ _ h => h) (Or.inl ⟨by rfl, ?_⟩) (by assumption) ?_
      rotate_left
      · intro wz hSw; (try dsimp only at hSw); go_simp; (try with_reducible rfl)
      try simp only [Act.put, List.setIfInBounds_toArray, List.set_cons_zero, List.set_cons_succ]
      refine wpAnyH_take (i := 12) (oi := ⟨some 35, _, _, _, _, none⟩) (v := ?_) rfl (by kernel_rfl) (by kernel_rfl) (by kernel_rfl) (fun _ _ _ h => h) (Or.inl ⟨by rfl, ?_⟩) (by assumption) ?_
      rotate_left
      · intro wz hSw; (try dsimp only at hSw); go_simp; (try with_reducible rfl)
      try simp only [Act.put, List.setIfInBounds_toArray, List.set_cons_zero, List.set_cons_succ]
      refine wpAnyH_take (i := 13) (oi := ⟨some 36, _, _, _, _, none⟩) (v := ?_) rfl (by kernel_rfl) (by kernel_rfl) (by kernel_rfl) (fun _ _ _ h => h) (Or.inl ⟨by rfl, ?_⟩) (by assumption) ?_
      rotate_left
      · intro wz hSw; (try dsimp only at hSw); go_simp; (try with_reducible rfl)
      try simp only [Act.put, List.setIfInBounds_toArray, List.set_cons_zero, List.set_cons_succ]
      refine wpAnyH_take (i := 14) (oi := ⟨some 37, _, _, _, _, none⟩) (v := ?_) rfl (by kernel_rfl) (by kernel_rfl) (by kernel_rfl) (fun _ _ _ h => h) (Or.inl ⟨by rfl, ?_⟩) (by assumption) ?_
      rotate_left
      · intro wz hSw; (try dsimp only at hSw); go_simp; (try with_reducible rfl)
      try simp only [Act.put, List.setIfInBounds_toArray, List.set_cons_zero, List.set_cons_succ]
      refine wpAnyH_take (i := 15) (oi := ⟨some 38, _, _, _, _, none⟩) (v := ?_) rfl (by kernel_rfl) (by kernel_rfl) (by kernel_rfl) (fun _ _ _ h => h) (Or.inl ⟨by rfl, ?_⟩) (by assumption) ?_
      rotate_left
      · intro wz hSw; (try dsimp only at hSw); go_simp; (try with_reducible rfl)
      try simp only [Act.put, List.setIfInBounds_toArray, List.set_cons_zero, List.set_cons_succ]
      refine wpAnyH_take (i := 16) (oi := ⟨some 39, _, _, _, _, none⟩) (v := ?_) rfl (by kernel_rfl) (by kernel_rfl) (by kernel_rfl) (fun _ _ _ h => h) (Or.inl ⟨by rfl, ?_⟩) (by assumption) ?_
      rotate_left
      · intro wz hSw; (try dsimp only at hSw); go_simp; (try with_reducible rfl)
      try simp only [Act.put, List.setIfInBounds_toArray, List.set_cons_zero, List.set_cons_succ]
      refine wpAnyH_take (i := 17) (oi := ⟨some 40, _, _, _, _, none⟩) (v := ?_) rfl (by kernel_rfl) (by kernel_rfl) (by kernel_rfl) (fun _ _ _ h => h) (Or.inl ⟨by rfl, ?_⟩) (by assumption) ?_
      rotate_left
      · intro wz hSw; (try dsimp only at hSw); go_simp; (try with_reducible rfl)
      try simp only [Act.put, List.setIfInBounds_toArray, List.set_cons_zero, List.set_cons_succ]
      refine wpAnyH_take (i := 18) (oi := ⟨some 41, _, _, _, _, none⟩) (v := ?_) rfl (by kernel_rfl) (by kernel_rfl) (by kernel_rfl) (fun _ _ _ h => h) (Or.inl ⟨by rfl, ?_⟩) (by assumption) ?_
      rotate_left
      · intro wz hSw; (try dsimp only at hSw); go_simp; (try with_reducible rfl)
      try simp only [Act.put, List.setIfInBounds_toArray, List.set_cons_zero, List.set_cons_succ]
      refine wpAnyH_ready (rs := [19]) (by kernel_rfl) (by simp) ?_
      refine AllReadyH.cons (o := ⟨some 42, _, _, _, _, none⟩) rfl (fun K hK => ?_) AllReadyH.nil
      go_simp
      replace gS := keepA (.cells #[.int .i64 z0, .int .i64 z1, .int .i64 z2] 3) gS
      replace g0 := keepA (.cells #[.int .i64 z0, .int .i64 z1, .int .i64 z2] 3) g0
      replace g1 := keepA (.cells #[.int .i64 z0, .int .i64 z1, .int .i64 z2] 3) g1
      replace g2 := keepA (.cells #[.int .i64 z0, .int .i64 z1, .int .i64 z2] 3) g2
      refine hK.out _ _ ?_ (fun hHeld => ?_)
      · exact ⟨gS, g0, g1, g2⟩
      clear hK K
      try simp only [Act.put, List.setIfInBounds_toArray, List.set_cons_zero, List.set_cons_succ]
      refine wpAnyH_ready (rs := [20]) (by kernel_rfl) (by simp) ?_
      refine AllReadyH.cons (o := ⟨some 43, _, _, _, _, none⟩) rfl (fun K hK => ?_) AllReadyH.nil
      refine step_append_lies _ (by rfl) (.tmp 23) (.tmp 42) 27 (by rfl) (w.heap.size + 1) 3 i0 (.int .i64 0) 1 8 Try.underlying27 hi hz0 hz1 hz2 rfl (by decide) _ LL.length _ (by rfl) (HN.out.drew.alloc (.cells ([z0, z1, z2].map (Value.int .i64)).toArray 3)).own ⟨wr.heap.size, 0, none⟩ 3 3 ([z0, z1, z2].map (Value.int .i64)) (by rfl) (by rfl) (news_new wr.drew 3 _ _ rfl) (one_of_ints _) (by decide) (by unfold maxLen; omega) (by omega) (HN.out.drew.alloc (.cells ([z0, z1, z2].map (Value.int .i64)).toArray 3)).sz _ rfl ?_
      intro g' cap' w2 own' grow' _ _
      have hst2 := (HN.out.drew.alloc (.cells ([z0, z1, z2].map (Value.int .i64)).toArray 3)).grown (M := [z0, z1, z2]) own' grow'
      replace gS : w2.cell? ⟨w.heap.size, 1, none⟩ = some (.slice (some ⟨rb, ro, none⟩) q.wl q.wc) := by rw [← HRA.out]; simp [World.cell?, hst2.box]
      replace g0 := hst2.cell c0
      replace g1 := hst2.cell c1
      replace g2 := hst2.cell c2
      refine hK.out _ _ ?_ (fun hHeld => ?_)
      · exact ⟨gS, g0, g1, g2⟩
      clear hK K
      try simp only [Act.put, List.setIfInBounds_toArray, List.set_cons_zero, List.set_cons_succ]
      refine wpAnyH_take (i := 21) (oi := ⟨some 3, _, _, _, _, none⟩) (v := ?_) rfl (by kernel_rfl) (by kernel_rfl) (by kernel_rfl) (fun _ _ _ h => h) (Or.inl ⟨by rfl, ?_⟩) (by assumption) ?_
      rotate_left
      · intro wz hSw; (try dsimp only at hSw); go_simp; (try with_reducible rfl)
      try simp only [Act.put, List.setIfInBounds_toArray, List.set_cons_zero, List.set_cons_succ]
      refine wpAnyH_done (by kernel_rfl) ?_ _
      clear HRA gS g0 g1 own' grow' hHeld
      go_wp2_with fail
      go_roundw
      case rel => exact ⟨k + 1, by omega, by go_num, by rw [HTF.out]; exact hst2⟩
      case measure => simp [intOf]; omega
    · obtain rfl : k = q.wl := by omega
      rw [List.take_of_length_le (by omega)] at HN
      have gS : wr.cell? ⟨w.heap.size, 1, none⟩ = some (.slice q.wa q.wl q.wc) := by simp [World.cell?, HN.out.box]
      obtain ⟨LL, hL'⟩ : ∃ L', LL ++ flat3i s.ways = L' := ⟨_, rfl⟩
      replace hl : LL.length ≤ 302 := by rw [← hL', List.length_append, flat3i_length]; omega
      rw [hL'] at HN
      have HL1 := Lib.hid hL'
      clear hL' hff hfl
      have d2 : wr.cell? ⟨w.heap.size, 2, none⟩ = some (.int .i64 s.pn) := by simp [World.cell?, HN.out.box]
      have d3 : wr.cell? ⟨w.heap.size, 3, none⟩ = some (.int .i64 s.pd) := by simp [World.cell?, HN.out.box]
      have d4 : wr.cell? ⟨w.heap.size, 4, none⟩ = some (.slice q.ea q.el q.ec) := by simp [World.cell?, HN.out.box]
      go_upto_region 7 with (at_builtin; (refine wpList_append_lies _ rfl (.tmp 44) (.tmp 54) 27 (by rfl) (w.heap.size + 1) 3 i0 (.int .i64 0) 1 8 Try.underlying27 hi hz0 hz1 hz2 rfl (by decide) _ LL.length _ (by rfl) (HN.out.alloc (.cells ([s.pn, s.pd, (q.el : Int)].map (Value.int .i64)).toArray 3)).own ⟨wr.heap.size, 0, none⟩ 3 3 ([s.pn, s.pd, (q.el : Int)].map (Value.int .i64)) (by rfl) (by rfl) (news_new wr 3 _ _ rfl) (one_of_ints _) (by decide) (by unfold maxLen; omega) (by omega) (HN.out.alloc (.cells ([s.pn, s.pd, (q.el : Int)].map (Value.int .i64)).toArray 3)).sz _ rfl ?_; intro g' cap' w2 own' grow' _ _))
      have hst2 := (HN.out.alloc (.cells ([s.pn, s.pd, (q.el : Int)].map (Value.int .i64)).toArray 3)).grown (M := [s.pn, s.pd, (q.el : Int)]) own' grow'
      clear own' grow' d2 d3 d4
      obtain ⟨LL, hL'⟩ : ∃ L', LL ++ [s.pn, s.pd, (q.el : Int)] = L' := ⟨_, rfl⟩
      replace hl : LL.length ≤ 305 := by rw [← hL', List.length_append]; simp only [List.length_cons, List.length_nil]; omega
      rw [hL'] at hst2
      have HA1 := Lib.hid hL'
      clear HN gS
      obtain ⟨wr, hwr⟩ : ∃ x, x = w2 := ⟨_, rfl⟩
      subst hwr
      have HN := Lib.hid hst2
      clear hL' hst2
      have gS : wr.cell? ⟨w.heap.size, 4, none⟩ = some (.slice q.ea q.el q.ec) := by simp [World.cell?, HN.out.box]
      go_wp2_with fail
      go_loopw [3, 5] (fun v i wr => ∃ k : Nat, k ≤ q.el ∧ i = .int .i64 k ∧ NumSt w wr s q v (LL ++ flat4 (s.elements.take k))) (fun _ i _ => q.el - (intOf i).toNat)
      case atStart => exact ⟨0, by omega, rfl, by simpa [flat4] using HN.out⟩
      case round =>
        obtain ⟨k, hk, rfl, hst⟩ := hrel
        clear HN
        have HN := Lib.hid hst
        clear hst
        have hfl := H.out.elements.1
        have hff := HF.out
        by_cases hlt : k < q.el
        · have hk0 : (0 : Int) ≤ (k : Int) := by omega
          have hk1 : (k : Int) < (q.el : Int) := by omega
          have hk2 : (q.el : Int) ≤ 100 := by omega
          obtain ⟨rb, ro, hra, _, hrc⟩ := H.out.elements.2.2.2.resolve_left (by omega)
          have hrk := hrc k hlt
          have htk : s.elements.take (k + 1) = s.elements.take k ++ [s.elements.getD k (0, 0, 0, 0)] := by
            rw [List.take_succ_eq_append_getElem (by omega), List.getD_eq_getElem?_getD, List.getElem?_eq_getElem (by omega)]; rfl
          generalize s.elements.getD k (0, 0, 0, 0) = x at *
          obtain ⟨z0, z1, z2, z3⟩ := x
          simp only at hrk
          obtain ⟨c0, c1, c2, c3⟩ := hrk
          have htf : LL ++ flat4 (s.elements.take (k + 1)) = (LL ++ flat4 (s.elements.take k)) ++ [z0, z1, z2, z3] := by
            rw [htk]
            simp [flat4]
          have hll : (LL ++ flat4 (s.elements.take k)).length ≤ 705 := by rw [List.length_append, flat4_length, List.length_take]; omega
          have HTF := Lib.hid htf
          generalize LL ++ flat4 (s.elements.take k) = LL at *
          have g0 := HN.out.cell c0
          have g1 := HN.out.cell c1
          have g2 := HN.out.cell c2
          have g3 := HN.out.cell c3
          have gS : wr.cell? ⟨w.heap.size, 4, none⟩ = some (.slice (some ⟨rb, ro, none⟩) q.el q.ec) := by rw [← hra]; simp [World.cell?, HN.out.box]
          replace hra : Value.slice q.ea q.el q.ec = .slice (some ⟨rb, ro, none⟩) q.el q.ec := by rw [hra]
          have HRA := Lib.hid hra
          clear hrc htk htf hra hff hfl
          have hel := elem_cells wr 74 z0 z1 z2 z3 _ rfl
          have HA := HN
          replace HN := Lib.hid (HN.out.alloc (.cells #[.int .i64 z0, .int .i64 z1, .int .i64 z2, .int .i64 z3] 74))
          obtain ⟨e0, e1, e2, e3⟩ := hel
          go_wp2_with (first | (refine wpList_store_new _ _ _ rfl 74 (.tmp 6) (.tmp 67) rfl #[.int .i64 z0, .int .i64 z1, .int .i64 z2, .int .i64 z3] wr.heap.size rfl rfl rfl rfl elem_size (by kernel_rfl) ?_) | (at_builtin; (refine wpList_append_lies _ rfl (.tmp 68) (.tmp 81) 27 (by rfl) (w.heap.size + 1) 3 i0 (.int .i64 0) 1 8 Try.underlying27 hi hz0 hz1 hz2 rfl (by decide) _ LL.length _ (by rfl) (HN.out.alloc (.cells ([z0, z1, z2, z3].map (Value.int .i64)).toArray 3)).own ⟨wr.heap.size + 1, 0, none⟩ 4 4 ([z0, z1, z2, z3].map (Value.int .i64)) (by rfl) (by rfl) (news_new (wr.alloc (.cells #[.int .i64 z0, .int .i64 z1, .int .i64 z2, .int .i64 z3] 74)) 3 _ _ (by simp)) (one_of_ints _) (by decide) (by unfold maxLen; omega) (by omega) (HN.out.alloc (.cells ([z0, z1, z2, z3].map (Value.int .i64)).toArray 3)).sz _ rfl ?_; intro g' cap' w2 own' grow' _ _)))
          have hst2 := (HN.out.alloc (.cells ([z0, z1, z2, z3].map (Value.int .i64)).toArray 3)).grown (M := [z0, z1, z2, z3]) own' grow'
          go_wp2_with fail
          go_roundw
          case rel => exact ⟨k + 1, by omega, by go_num, by rw [HTF.out]; exact hst2⟩
          case measure => simp [intOf]; omega
        · obtain rfl : k = q.el := by omega
          rw [List.take_of_length_le (by omega)] at HN
          have gS : wr.cell? ⟨w.heap.size, 4, none⟩ = some (.slice q.ea q.el q.ec) := by simp [World.cell?, HN.out.box]
          obtain ⟨LL, hL'⟩ : ∃ L', LL ++ flat4 s.elements = L' := ⟨_, rfl⟩
          replace hl : LL.length ≤ 705 := by rw [← hL', List.length_append, flat4_length]; omega
          rw [hL'] at HN
          have HL2 := Lib.hid hL'
          clear hL' hff hfl
          have d5 : wr.cell? ⟨w.heap.size, 5, none⟩ = some (.slice q.ca q.cl q.cc) := by simp [World.cell?, HN.out.box]
          go_upto_region 13 with (at_builtin; (refine wpList_append_lies _ rfl (.tmp 83) (.tmp 87) 27 (by rfl) (w.heap.size + 1) 3 i0 (.int .i64 0) 1 8 Try.underlying27 hi hz0 hz1 hz2 rfl (by decide) _ LL.length _ (by rfl) (HN.out.alloc (.cells ([(q.cl : Int)].map (Value.int .i64)).toArray 3)).own ⟨wr.heap.size, 0, none⟩ 1 1 ([(q.cl : Int)].map (Value.int .i64)) (by rfl) (by rfl) (news_new wr 3 _ _ rfl) (one_of_ints _) (by decide) (by unfold maxLen; omega) (by omega) (HN.out.alloc (.cells ([(q.cl : Int)].map (Value.int .i64)).toArray 3)).sz _ rfl ?_; intro g' cap' w2 own' grow' _ _))
          have hst2 := (HN.out.alloc (.cells ([(q.cl : Int)].map (Value.int .i64)).toArray 3)).grown (M := [(q.cl : Int)]) own' grow'
          clear own' grow' d5
          obtain ⟨LL, hL'⟩ : ∃ L', LL ++ [(q.cl : Int)] = L' := ⟨_, rfl⟩
          replace hl : LL.length ≤ 706 := by rw [← hL', List.length_append]; simp only [List.length_cons, List.length_nil]; omega
          rw [hL'] at hst2
          have HA2 := Lib.hid hL'
          clear HN gS
          obtain ⟨wr, hwr⟩ : ∃ x, x = w2 := ⟨_, rfl⟩
          subst hwr
          have HN := Lib.hid hst2
          clear hL' hst2
          have gS : wr.cell? ⟨w.heap.size, 5, none⟩ = some (.slice q.ca q.cl q.cc) := by simp [World.cell?, HN.out.box]
          go_wp2_with fail
          go_loopw [3, 7] (fun v i wr => ∃ k : Nat, k ≤ q.cl ∧ i = .int .i64 k ∧ NumSt w wr s q v (LL ++ flat2 (s.classes.take k))) (fun _ i _ => q.cl - (intOf i).toNat)
          case atStart => exact ⟨0, by omega, rfl, by simpa [flat2] using HN.out⟩
          case round =>
            obtain ⟨k, hk, rfl, hst⟩ := hrel
            clear HN
            have HN := Lib.hid hst
            clear hst
            have hfl := H.out.classes.1
            have hff := HF.out
            by_cases hlt : k < q.cl
            · have hk0 : (0 : Int) ≤ (k : Int) := by omega
              have hk1 : (k : Int) < (q.cl : Int) := by omega
              have hk2 : (q.cl : Int) ≤ 100 := by omega
              obtain ⟨rb, ro, hra, _, hrc⟩ := H.out.classes.2.2.2.resolve_left (by omega)
              have hrk := hrc k hlt
              have htk : s.classes.take (k + 1) = s.classes.take k ++ [s.classes.getD k (0, 0)] := by
                rw [List.take_succ_eq_append_getElem (by omega), List.getD_eq_getElem?_getD, List.getElem?_eq_getElem (by omega)]; rfl
              generalize s.classes.getD k (0, 0) = x at *
              obtain ⟨z0, z1⟩ := x
              simp only at hrk
              obtain ⟨c0, c1⟩ := hrk
              have htf : LL ++ flat2 (s.classes.take (k + 1)) = (LL ++ flat2 (s.classes.take k)) ++ [z0, z1] := by
                rw [htk]
                simp [flat2]
              have hll : (LL ++ flat2 (s.classes.take k)).length ≤ 906 := by rw [List.length_append, flat2_length, List.length_take]; omega
              have HTF := Lib.hid htf
              generalize LL ++ flat2 (s.classes.take k) = LL at *
              have g0 := HN.out.cell c0
              have g1 := HN.out.cell c1
              have gS : wr.cell? ⟨w.heap.size, 5, none⟩ = some (.slice (some ⟨rb, ro, none⟩) q.cl q.cc) := by rw [← hra]; simp [World.cell?, HN.out.box]
              replace hra : Value.slice q.ca q.cl q.cc = .slice (some ⟨rb, ro, none⟩) q.cl q.cc := by rw [hra]
              have HRA := Lib.hid hra
              clear hrc htk htf hra hff hfl
              go_wp2_with fail
              refine wp_region_held_drew (S := (fun w' => w'.cell? ⟨w.heap.size, 5, none⟩ = some (.slice (some ⟨rb, ro, none⟩) q.cl q.cc) ∧ w'.cell? ⟨rb, ro + k * 2, none⟩ = some (.int .i64 z0) ∧ w'.cell? ⟨rb, ro + k * 2 + 1, none⟩ = some (.int .i64 z1))) (by kernel_rfl) ?_ (fun hHeld => ?_)
              · exact ⟨gS, g0, g1⟩
              refine wpAnyH_take (i := 0) (oi := ⟨some 96, _, _, _, _, none⟩) (v := ?_) rfl (by kernel_rfl) (by kernel_rfl) (by kernel_rfl) (fun _ _ _ h => h) (Or.inl ⟨by rfl, ?_⟩) (by assumption) ?_
              rotate_left
              · intro wz hSw; (try dsimp only at hSw); go_simp; (try with_reducible rfl)
              try simp only [Act.put, List.setIfInBounds_toArray, List.set_cons_zero, List.set_cons_succ]
              refine wpAnyH_take (i := 1) (oi := ⟨some 97, _, _, _, _, none⟩) (v := ?_) rfl (by kernel_rfl) (by kernel_rfl) (by kernel_rfl) (fun _ _ _ h => h) (Or.inl ⟨by rfl, ?_⟩) (by assumption) ?_
              rotate_left
              · intro wz hSw; (try dsimp only at hSw); go_simp; (try with_reducible rfl)
              try simp only [Act.put, List.setIfInBounds_toArray, List.set_cons_zero, List.set_cons_succ]
              refine wpAnyH_take (i := 2) (oi := ⟨some 98, _, _, _, _, none⟩) (v := ?_) rfl (by kernel_rfl) (by kernel_rfl) (by kernel_rfl) (fun _ _ _ h => h) (Or.inl ⟨by rfl, ?_⟩) (by assumption) ?_
              rotate_left
              · intro wz hSw; (try dsimp only at hSw); go_simp; (try with_reducible rfl)
              try simp only [Act.put, List.setIfInBounds_toArray, List.set_cons_zero, List.set_cons_succ]
              refine wpAnyH_take (i := 3) (oi := ⟨some 99, _, _, _, _, none⟩) (v := ?_) rfl (by kernel_rfl) (by kernel_rfl) (by kernel_rfl) (fun _ _ _ h => h) (Or.inl ⟨by rfl, ?_⟩) (by assumption) ?_
              rotate_left
              · intro wz hSw; (try dsimp only at hSw); go_simp; (try with_reducible rfl)
              try simp only [Act.put, List.setIfInBounds_toArray, List.set_cons_zero, List.set_cons_succ]
              refine wpAnyH_take (i := 4) (oi := ⟨some 100, _, _, _, _, none⟩) (v := ?_) rfl (by kernel_rfl) (by kernel_rfl) (by kernel_rfl) (fun _ _ _ h => h) (Or.inl ⟨by rfl, ?_⟩) (by assumption) ?_
              rotate_left
              · intro wz hSw; (try dsimp only at hSw); go_simp; (try with_reducible rfl)
              try simp only [Act.put, List.setIfInBounds_toArray, List.set_cons_zero, List.set_cons_succ]
              refine wpAnyH_take (i := 5) (oi := ⟨some 101, _, _, _, _, none⟩) (v := ?_) rfl (by kernel_rfl) (by kernel_rfl) (by kernel_rfl) (fun _ _ _ h => h) (Or.inl ⟨by rfl, ?_⟩) (by assumption) ?_
              rotate_left
              · intro wz hSw; (try dsimp only at hSw); go_simp; (try with_reducible rfl)
              try simp only [Act.put, List.setIfInBounds_toArray, List.set_cons_zero, List.set_cons_succ]
              refine wpAnyH_take (i := 6) (oi := ⟨some 102, _, _, _, _, none⟩) (v := ?_) rfl (by kernel_rfl) (by kernel_rfl) (by kernel_rfl) (fun _ _ _ h => h) (Or.inl ⟨by rfl, ?_⟩) (by assumption) ?_
              rotate_left
              · intro wz hSw; (try dsimp only at hSw); go_simp; (try with_reducible rfl)
              try simp only [Act.put, List.setIfInBounds_toArray, List.set_cons_zero, List.set_cons_succ]
              refine wpAnyH_take (i := 7) (oi := ⟨some 103, _, _, _, _, none⟩) (v := ?_) rfl (by kernel_rfl) (by kernel_rfl) (by kernel_rfl) (fun _ _ _ h => h) (Or.inl ⟨by rfl, ?_⟩) (by assumption) ?_
              rotate_left
              · intro wz hSw; (try dsimp only at hSw); go_simp; (try with_reducible rfl)
              try simp only [Act.put, List.setIfInBounds_toArray, List.set_cons_zero, List.set_cons_succ]
              refine wpAnyH_take (i := 8) (oi := ⟨some 104, _, _, _, _, none⟩) (v := ?_) rfl (by kernel_rfl) (by kernel_rfl) (by kernel_rfl) (fun _ _ _ h => h) (Or.inl ⟨by rfl, ?_⟩) (by assumption) ?_
              rotate_left
              · intro wz hSw; (try dsimp only at hSw); go_simp; (try with_reducible rfl)
              try simp only [Act.put, List.setIfInBounds_toArray, List.set_cons_zero, List.set_cons_succ]
              refine wpAnyH_take (i := 9) (oi := ⟨some 105, _, _, _, _, none⟩) (v := ?_) rfl (by kernel_rfl) (by kernel_rfl) (by kernel_rfl) (fun _ _ _ h => h) (Or.inl ⟨by rfl, ?_⟩) (by assumption) ?_
              rotate_left
              · intro wz hSw; (try dsimp only at hSw); go_simp; (try with_reducible rfl)
              try simp only [Act.put, List.setIfInBounds_toArray, List.set_cons_zero, List.set_cons_succ]
              refine wpAnyH_take (i := 10) (oi := ⟨some 106, _, _, _, _, none⟩) (v := ?_) rfl (by kernel_rfl) (by kernel_rfl) (by kernel_rfl) (fun _ _ _ h => h) (Or.inl ⟨by rfl, ?_⟩) (by assumption) ?_
              rotate_left
              · intro wz hSw; (try dsimp only at hSw); go_simp; (try with_reducible rfl)
              try simp only [Act.put, List.setIfInBounds_toArray, List.set_cons_zero, List.set_cons_succ]
              refine wpAnyH_take (i := 11) (oi := ⟨some 107, _, _, _, _, none⟩) (v := ?_) rfl (by kernel_rfl) (by kernel_rfl) (by kernel_rfl) (fun _ _ _ h => h) (Or.inl ⟨by rfl, ?_⟩) (by assumption) ?_
              rotate_left
              · intro wz hSw; (try dsimp only at hSw); go_simp; (try with_reducible rfl)
              try simp only [Act.put, List.setIfInBounds_toArray, List.set_cons_zero, List.set_cons_succ]
              refine wpAnyH_take (i := 12) (oi := ⟨some 108, _, _, _, _, none⟩) (v := ?_) rfl (by kernel_rfl) (by kernel_rfl) (by kernel_rfl) (fun _ _ _ h => h) (Or.inl ⟨by rfl, ?_⟩) (by assumption) ?_
              rotate_left
              · intro wz hSw; (try dsimp only at hSw); go_simp; (try with_reducible rfl)
              try simp only [Act.put, List.setIfInBounds_toArray, List.set_cons_zero, List.set_cons_succ]
              refine wpAnyH_ready (rs := [13]) (by kernel_rfl) (by simp) ?_
              refine AllReadyH.cons (o := ⟨some 109, _, _, _, _, none⟩) rfl (fun K hK => ?_) AllReadyH.nil
              go_simp
              replace gS := keepA (.cells #[.int .i64 z0, .int .i64 z1] 3) gS
              replace g0 := keepA (.cells #[.int .i64 z0, .int .i64 z1] 3) g0
              replace g1 := keepA (.cells #[.int .i64 z0, .int .i64 z1] 3) g1
              refine hK.out _ _ ?_ (fun hHeld => ?_)
              · exact ⟨gS, g0, g1⟩
              clear hK K
              try simp only [Act.put, List.setIfInBounds_toArray, List.set_cons_zero, List.set_cons_succ]
              refine wpAnyH_ready (rs := [14]) (by kernel_rfl) (by simp) ?_
              refine AllReadyH.cons (o := ⟨some 110, _, _, _, _, none⟩) rfl (fun K hK => ?_) AllReadyH.nil
              refine step_append_lies _ (by rfl) (.tmp 96) (.tmp 109) 27 (by rfl) (w.heap.size + 1) 3 i0 (.int .i64 0) 1 8 Try.underlying27 hi hz0 hz1 hz2 rfl (by decide) _ LL.length _ (by rfl) (HN.out.drew.alloc (.cells ([z0, z1].map (Value.int .i64)).toArray 3)).own ⟨wr.heap.size, 0, none⟩ 2 2 ([z0, z1].map (Value.int .i64)) (by rfl) (by rfl) (news_new wr.drew 3 _ _ rfl) (one_of_ints _) (by decide) (by unfold maxLen; omega) (by omega) (HN.out.drew.alloc (.cells ([z0, z1].map (Value.int .i64)).toArray 3)).sz _ rfl ?_
              intro g' cap' w2 own' grow' _ _
              have hst2 := (HN.out.drew.alloc (.cells ([z0, z1].map (Value.int .i64)).toArray 3)).grown (M := [z0, z1]) own' grow'
              replace gS : w2.cell? ⟨w.heap.size, 5, none⟩ = some (.slice (some ⟨rb, ro, none⟩) q.cl q.cc) := by rw [← HRA.out]; simp [World.cell?, hst2.box]
              replace g0 := hst2.cell c0
              replace g1 := hst2.cell c1
              refine hK.out _ _ ?_ (fun hHeld => ?_)
              · exact ⟨gS, g0, g1⟩
              clear hK K
              try simp only [Act.put, List.setIfInBounds_toArray, List.set_cons_zero, List.set_cons_succ]
              refine wpAnyH_take (i := 15) (oi := ⟨some 3, _, _, _, _, none⟩) (v := ?_) rfl (by kernel_rfl) (by kernel_rfl) (by kernel_rfl) (fun _ _ _ h => h) (Or.inl ⟨by rfl, ?_⟩) (by assumption) ?_
              rotate_left
              · intro wz hSw; (try dsimp only at hSw); go_simp; (try with_reducible rfl)
              try simp only [Act.put, List.setIfInBounds_toArray, List.set_cons_zero, List.set_cons_succ]
              refine wpAnyH_done (by kernel_rfl) ?_ _
              clear HRA gS g0 g1 own' grow' hHeld
              go_wp2_with fail
              go_roundw
              case rel => exact ⟨k + 1, by omega, by go_num, by rw [HTF.out]; exact hst2⟩
              case measure => simp [intOf]; omega
            · obtain rfl : k = q.cl := by omega
              rw [List.take_of_length_le (by omega)] at HN
              have gS : wr.cell? ⟨w.heap.size, 5, none⟩ = some (.slice q.ca q.cl q.cc) := by simp [World.cell?, HN.out.box]
              obtain ⟨LL, hL'⟩ : ∃ L', LL ++ flat2 s.classes = L' := ⟨_, rfl⟩
              replace hl : LL.length ≤ 906 := by rw [← hL', List.length_append, flat2_length]; omega
              rw [hL'] at HN
              have HL3 := Lib.hid hL'
              clear hL' hff hfl
              have d6 : wr.cell? ⟨w.heap.size, 6, none⟩ = some (.slice q.ga q.gl q.gc) := by simp [World.cell?, HN.out.box]
              go_upto_region 18 with (at_builtin; (refine wpList_append_lies _ rfl (.tmp 111) (.tmp 115) 27 (by rfl) (w.heap.size + 1) 3 i0 (.int .i64 0) 1 8 Try.underlying27 hi hz0 hz1 hz2 rfl (by decide) _ LL.length _ (by rfl) (HN.out.alloc (.cells ([(q.gl : Int)].map (Value.int .i64)).toArray 3)).own ⟨wr.heap.size, 0, none⟩ 1 1 ([(q.gl : Int)].map (Value.int .i64)) (by rfl) (by rfl) (news_new wr 3 _ _ rfl) (one_of_ints _) (by decide) (by unfold maxLen; omega) (by omega) (HN.out.alloc (.cells ([(q.gl : Int)].map (Value.int .i64)).toArray 3)).sz _ rfl ?_; intro g' cap' w2 own' grow' _ _))
              have hst2 := (HN.out.alloc (.cells ([(q.gl : Int)].map (Value.int .i64)).toArray 3)).grown (M := [(q.gl : Int)]) own' grow'
              clear own' grow' d6
              obtain ⟨LL, hL'⟩ : ∃ L', LL ++ [(q.gl : Int)] = L' := ⟨_, rfl⟩
              replace hl : LL.length ≤ 907 := by rw [← hL', List.length_append]; simp only [List.length_cons, List.length_nil]; omega
              rw [hL'] at hst2
              have HA3 := Lib.hid hL'
              clear HN gS
              obtain ⟨wr, hwr⟩ : ∃ x, x = w2 := ⟨_, rfl⟩
              subst hwr
              have HN := Lib.hid hst2
              clear hL' hst2
              have gS : wr.cell? ⟨w.heap.size, 6, none⟩ = some (.slice q.ga q.gl q.gc) := by simp [World.cell?, HN.out.box]
              go_wp2_with fail
              go_loopw [3, 8] (fun v i wr => ∃ k : Nat, k ≤ q.gl ∧ i = .int .i64 k ∧ NumSt w wr s q v (LL ++ flat2 (s.gears.take k))) (fun _ i _ => q.gl - (intOf i).toNat)
              case atStart => exact ⟨0, by omega, rfl, by simpa [flat2] using HN.out⟩
              case round =>
                obtain ⟨k, hk, rfl, hst⟩ := hrel
                clear HN
                have HN := Lib.hid hst
                clear hst
                have hfl := H.out.gears.1
                have hff := HF.out
                by_cases hlt : k < q.gl
                · have hk0 : (0 : Int) ≤ (k : Int) := by omega
                  have hk1 : (k : Int) < (q.gl : Int) := by omega
                  have hk2 : (q.gl : Int) ≤ 100 := by omega
                  obtain ⟨rb, ro, hra, _, hrc⟩ := H.out.gears.2.2.2.resolve_left (by omega)
                  have hrk := hrc k hlt
                  have htk : s.gears.take (k + 1) = s.gears.take k ++ [s.gears.getD k (0, 0)] := by
                    rw [List.take_succ_eq_append_getElem (by omega), List.getD_eq_getElem?_getD, List.getElem?_eq_getElem (by omega)]; rfl
                  generalize s.gears.getD k (0, 0) = x at *
                  obtain ⟨z0, z1⟩ := x
                  simp only at hrk
                  obtain ⟨c0, c1⟩ := hrk
                  have htf : LL ++ flat2 (s.gears.take (k + 1)) = (LL ++ flat2 (s.gears.take k)) ++ [z0, z1] := by
                    rw [htk]
                    simp [flat2]
                  have hll : (LL ++ flat2 (s.gears.take k)).length ≤ 1107 := by rw [List.length_append, flat2_length, List.length_take]; omega
                  have HTF := Lib.hid htf
                  generalize LL ++ flat2 (s.gears.take k) = LL at *
                  have g0 := HN.out.cell c0
                  have g1 := HN.out.cell c1
                  have gS : wr.cell? ⟨w.heap.size, 6, none⟩ = some (.slice (some ⟨rb, ro, none⟩) q.gl q.gc) := by rw [← hra]; simp [World.cell?, HN.out.box]
                  replace hra : Value.slice q.ga q.gl q.gc = .slice (some ⟨rb, ro, none⟩) q.gl q.gc := by rw [hra]
                  have HRA := Lib.hid hra
                  clear hrc htk htf hra hff hfl
                  go_wp2_with fail
                  refine wp_region_held_drew (S := (fun w' => w'.cell? ⟨w.heap.size, 6, none⟩ = some (.slice (some ⟨rb, ro, none⟩) q.gl q.gc) ∧ w'.cell? ⟨rb, ro + k * 2, none⟩ = some (.int .i64 z0) ∧ w'.cell? ⟨rb, ro + k * 2 + 1, none⟩ = some (.int .i64 z1))) (by kernel_rfl) ?_ (fun hHeld => ?_)
                  · exact ⟨gS, g0, g1⟩
                  refine wpAnyH_take (i := 0) (oi := ⟨some 124, _, _, _, _, none⟩) (v := ?_) rfl (by kernel_rfl) (by kernel_rfl) (by kernel_rfl) (fun _ _ _ h => h) (Or.inl ⟨by rfl, ?_⟩) (by assumption) ?_
                  rotate_left
                  · intro wz hSw; (try dsimp only at hSw); go_simp; (try with_reducible rfl)
                  try simp only [Act.put, List.setIfInBounds_toArray, List.set_cons_zero, List.set_cons_succ]
                  refine wpAnyH_take (i := 1) (oi := ⟨some 125, _, _, _, _, none⟩) (v := ?_) rfl (by kernel_rfl) (by kernel_rfl) (by kernel_rfl) (fun _ _ _ h => h) (Or.inl ⟨by rfl, ?_⟩) (by assumption) ?_
                  rotate_left
                  · intro wz hSw; (try dsimp only at hSw); go_simp; (try with_reducible rfl)
                  try simp only [Act.put, List.setIfInBounds_toArray, List.set_cons_zero, List.set_cons_succ]
                  refine wpAnyH_take (i := 2) (oi := ⟨some 126, _, _, _, _, none⟩) (v := ?_) rfl (by kernel_rfl) (by kernel_rfl) (by kernel_rfl) (fun _ _ _ h => h) (Or.inl ⟨by rfl, ?_⟩) (by assumption) ?_
                  rotate_left
                  · intro wz hSw; (try dsimp only at hSw); go_simp; (try with_reducible rfl)
                  try simp only [Act.put, List.setIfInBounds_toArray, List.set_cons_zero, List.set_cons_succ]
                  refine wpAnyH_take (i := 3) (oi := ⟨some 127, _, _, _, _, none⟩) (v := ?_) rfl (by kernel_rfl) (by kernel_rfl) (by kernel_rfl) (fun _ _ _ h => h) (Or.inl ⟨by rfl, ?_⟩) (by assumption) ?_
                  rotate_left
                  · intro wz hSw; (try dsimp only at hSw); go_simp; (try with_reducible rfl)
                  try simp only [Act.put, List.setIfInBounds_toArray, List.set_cons_zero, List.set_cons_succ]
                  refine wpAnyH_take (i := 4) (oi := ⟨some 128, _, _, _, _, none⟩) (v := ?_) rfl (by kernel_rfl) (by kernel_rfl) (by kernel_rfl) (fun _ _ _ h => h) (Or.inl ⟨by rfl, ?_⟩) (by assumption) ?_
                  rotate_left
                  · intro wz hSw; (try dsimp only at hSw); go_simp; (try with_reducible rfl)
                  try simp only [Act.put, List.setIfInBounds_toArray, List.set_cons_zero, List.set_cons_succ]
                  refine wpAnyH_take (i := 5) (oi := ⟨some 129, _, _, _, _, none⟩) (v := ?_) rfl (by kernel_rfl) (by kernel_rfl) (by kernel_rfl) (fun _ _ _ h => h) (Or.inl ⟨by rfl, ?_⟩) (by assumption) ?_
                  rotate_left
                  · intro wz hSw; (try dsimp only at hSw); go_simp; (try with_reducible rfl)
                  try simp only [Act.put, List.setIfInBounds_toArray, List.set_cons_zero, List.set_cons_succ]
                  refine wpAnyH_take (i := 6) (oi := ⟨some 130, _, _, _, _, none⟩) (v := ?_) rfl (by kernel_rfl) (by kernel_rfl) (by kernel_rfl) (fun _ _ _ h => h) (Or.inl ⟨by rfl, ?_⟩) (by assumption) ?_
                  rotate_left
                  · intro wz hSw; (try dsimp only at hSw); go_simp; (try with_reducible rfl)
                  try simp only [Act.put, List.setIfInBounds_toArray, List.set_cons_zero, List.set_cons_succ]
                  refine wpAnyH_take (i := 7) (oi := ⟨some 131, _, _, _, _, none⟩) (v := ?_) rfl (by kernel_rfl) (by kernel_rfl) (by kernel_rfl) (fun _ _ _ h => h) (Or.inl ⟨by rfl, ?_⟩) (by assumption) ?_
                  rotate_left
                  · intro wz hSw; (try dsimp only at hSw); go_simp; (try with_reducible rfl)
                  try simp only [Act.put, List.setIfInBounds_toArray, List.set_cons_zero, List.set_cons_succ]
                  refine wpAnyH_take (i := 8) (oi := ⟨some 132, _, _, _, _, none⟩) (v := ?_) rfl (by kernel_rfl) (by kernel_rfl) (by kernel_rfl) (fun _ _ _ h => h) (Or.inl ⟨by rfl, ?_⟩) (by assumption) ?_
                  rotate_left
                  · intro wz hSw; (try dsimp only at hSw); go_simp; (try with_reducible rfl)
                  try simp only [Act.put, List.setIfInBounds_toArray, List.set_cons_zero, List.set_cons_succ]
                  refine wpAnyH_take (i := 9) (oi := ⟨some 133, _, _, _, _, none⟩) (v := ?_) rfl (by kernel_rfl) (by kernel_rfl) (by kernel_rfl) (fun _ _ _ h => h) (Or.inl ⟨by rfl, ?_⟩) (by assumption) ?_
                  rotate_left
                  · intro wz hSw; (try dsimp only at hSw); go_simp; (try with_reducible rfl)
                  try simp only [Act.put, List.setIfInBounds_toArray, List.set_cons_zero, List.set_cons_succ]
                  refine wpAnyH_take (i := 10) (oi := ⟨some 134, _, _, _, _, none⟩) (v := ?_) rfl (by kernel_rfl) (by kernel_rfl) (by kernel_rfl) (fun _ _ _ h => h) (Or.inl ⟨by rfl, ?_⟩) (by assumption) ?_
                  rotate_left
                  · intro wz hSw; (try dsimp only at hSw); go_simp; (try with_reducible rfl)
                  try simp only [Act.put, List.setIfInBounds_toArray, List.set_cons_zero, List.set_cons_succ]
                  refine wpAnyH_take (i := 11) (oi := ⟨some 135, _, _, _, _, none⟩) (v := ?_) rfl (by kernel_rfl) (by kernel_rfl) (by kernel_rfl) (fun _ _ _ h => h) (Or.inl ⟨by rfl, ?_⟩) (by assumption) ?_
                  rotate_left
                  · intro wz hSw; (try dsimp only at hSw); go_simp; (try with_reducible rfl)
                  try simp only [Act.put, List.setIfInBounds_toArray, List.set_cons_zero, List.set_cons_succ]
                  refine wpAnyH_take (i := 12) (oi := ⟨some 136, _, _, _, _, none⟩) (v := ?_) rfl (by kernel_rfl) (by kernel_rfl) (by kernel_rfl) (fun _ _ _ h => h) (Or.inl ⟨by rfl, ?_⟩) (by assumption) ?_
                  rotate_left
                  · intro wz hSw; (try dsimp only at hSw); go_simp; (try with_reducible rfl)
                  try simp only [Act.put, List.setIfInBounds_toArray, List.set_cons_zero, List.set_cons_succ]
                  refine wpAnyH_ready (rs := [13]) (by kernel_rfl) (by simp) ?_
                  refine AllReadyH.cons (o := ⟨some 137, _, _, _, _, none⟩) rfl (fun K hK => ?_) AllReadyH.nil
                  go_simp
                  replace gS := keepA (.cells #[.int .i64 z0, .int .i64 z1] 3) gS
                  replace g0 := keepA (.cells #[.int .i64 z0, .int .i64 z1] 3) g0
                  replace g1 := keepA (.cells #[.int .i64 z0, .int .i64 z1] 3) g1
                  refine hK.out _ _ ?_ (fun hHeld => ?_)
                  · exact ⟨gS, g0, g1⟩
                  clear hK K
                  try simp only [Act.put, List.setIfInBounds_toArray, List.set_cons_zero, List.set_cons_succ]
                  refine wpAnyH_ready (rs := [14]) (by kernel_rfl) (by simp) ?_
                  refine AllReadyH.cons (o := ⟨some 138, _, _, _, _, none⟩) rfl (fun K hK => ?_) AllReadyH.nil
                  refine step_append_lies _ (by rfl) (.tmp 124) (.tmp 137) 27 (by rfl) (w.heap.size + 1) 3 i0 (.int .i64 0) 1 8 Try.underlying27 hi hz0 hz1 hz2 rfl (by decide) _ LL.length _ (by rfl) (HN.out.drew.alloc (.cells ([z0, z1].map (Value.int .i64)).toArray 3)).own ⟨wr.heap.size, 0, none⟩ 2 2 ([z0, z1].map (Value.int .i64)) (by rfl) (by rfl) (news_new wr.drew 3 _ _ rfl) (one_of_ints _) (by decide) (by unfold maxLen; omega) (by omega) (HN.out.drew.alloc (.cells ([z0, z1].map (Value.int .i64)).toArray 3)).sz _ rfl ?_
                  intro g' cap' w2 own' grow' _ _
                  have hst2 := (HN.out.drew.alloc (.cells ([z0, z1].map (Value.int .i64)).toArray 3)).grown (M := [z0, z1]) own' grow'
                  replace gS : w2.cell? ⟨w.heap.size, 6, none⟩ = some (.slice (some ⟨rb, ro, none⟩) q.gl q.gc) := by rw [← HRA.out]; simp [World.cell?, hst2.box]
                  replace g0 := hst2.cell c0
                  replace g1 := hst2.cell c1
                  refine hK.out _ _ ?_ (fun hHeld => ?_)
                  · exact ⟨gS, g0, g1⟩
                  clear hK K
                  try simp only [Act.put, List.setIfInBounds_toArray, List.set_cons_zero, List.set_cons_succ]
                  refine wpAnyH_take (i := 15) (oi := ⟨some 3, _, _, _, _, none⟩) (v := ?_) rfl (by kernel_rfl) (by kernel_rfl) (by kernel_rfl) (fun _ _ _ h => h) (Or.inl ⟨by rfl, ?_⟩) (by assumption) ?_
                  rotate_left
                  · intro wz hSw; (try dsimp only at hSw); go_simp; (try with_reducible rfl)
                  try simp only [Act.put, List.setIfInBounds_toArray, List.set_cons_zero, List.set_cons_succ]
                  refine wpAnyH_done (by kernel_rfl) ?_ _
                  clear HRA gS g0 g1 own' grow' hHeld
                  go_wp2_with fail
                  go_roundw
                  case rel => exact ⟨k + 1, by omega, by go_num, by rw [HTF.out]; exact hst2⟩
                  case measure => simp [intOf]; omega
                · obtain rfl : k = q.gl := by omega
                  rw [List.take_of_length_le (by omega)] at HN
                  have gS : wr.cell? ⟨w.heap.size, 6, none⟩ = some (.slice q.ga q.gl q.gc) := by simp [World.cell?, HN.out.box]
                  obtain ⟨LL, hL'⟩ : ∃ L', LL ++ flat2 s.gears = L' := ⟨_, rfl⟩
                  replace hl : LL.length ≤ 1107 := by rw [← hL', List.length_append, flat2_length]; omega
                  rw [hL'] at HN
                  have HL4 := Lib.hid hL'
                  clear hL' hff hfl
                  have d7 : wr.cell? ⟨w.heap.size, 7, none⟩ = some (.int .i64 s.allow) := by simp [World.cell?, HN.out.box]
                  have d8 : wr.cell? ⟨w.heap.size, 8, none⟩ = some (.int .i64 s.unit) := by simp [World.cell?, HN.out.box]
                  have d9 : wr.cell? ⟨w.heap.size, 9, none⟩ = some (.int .i64 s.cap) := by simp [World.cell?, HN.out.box]
                  have d10 : wr.cell? ⟨w.heap.size, 10, none⟩ = some (.int .i64 s.paidBreak) := by simp [World.cell?, HN.out.box]
                  have d11 : wr.cell? ⟨w.heap.size, 11, none⟩ = some (.int .i64 s.autoAfter) := by simp [World.cell?, HN.out.box]
                  have d12 : wr.cell? ⟨w.heap.size, 12, none⟩ = some (.int .i64 s.autoBreak) := by simp [World.cell?, HN.out.box]
                  have d13 : wr.cell? ⟨w.heap.size, 13, none⟩ = some (.int .i64 s.dayReg) := by simp [World.cell?, HN.out.box]
                  have d14 : wr.cell? ⟨w.heap.size, 14, none⟩ = some (.int .i64 s.dayOver) := by simp [World.cell?, HN.out.box]
                  have d15 : wr.cell? ⟨w.heap.size, 15, none⟩ = some (.int .i64 s.weekReg) := by simp [World.cell?, HN.out.box]
                  have d16 : wr.cell? ⟨w.heap.size, 16, none⟩ = some (.int .i64 s.nightFrom) := by simp [World.cell?, HN.out.box]
                  have d17 : wr.cell? ⟨w.heap.size, 17, none⟩ = some (.int .i64 s.nightTo) := by simp [World.cell?, HN.out.box]
                  go_upto_region 23 with (at_builtin; (refine wpList_append_lies _ rfl (.tmp 139) (.tmp 162) 27 (by rfl) (w.heap.size + 1) 3 i0 (.int .i64 0) 1 8 Try.underlying27 hi hz0 hz1 hz2 rfl (by decide) _ LL.length _ (by rfl) (HN.out.alloc (.cells ([s.allow, s.unit, s.cap, s.paidBreak, s.autoAfter, s.autoBreak, s.dayReg, s.dayOver, s.weekReg, s.nightFrom, s.nightTo].map (Value.int .i64)).toArray 3)).own ⟨wr.heap.size, 0, none⟩ 11 11 ([s.allow, s.unit, s.cap, s.paidBreak, s.autoAfter, s.autoBreak, s.dayReg, s.dayOver, s.weekReg, s.nightFrom, s.nightTo].map (Value.int .i64)) (by rfl) (by rfl) (news_new wr 3 _ _ rfl) (one_of_ints _) (by decide) (by unfold maxLen; omega) (by omega) (HN.out.alloc (.cells ([s.allow, s.unit, s.cap, s.paidBreak, s.autoAfter, s.autoBreak, s.dayReg, s.dayOver, s.weekReg, s.nightFrom, s.nightTo].map (Value.int .i64)).toArray 3)).sz _ rfl ?_; intro g' cap' w2 own' grow' _ _))
                  have hst2 := (HN.out.alloc (.cells ([s.allow, s.unit, s.cap, s.paidBreak, s.autoAfter, s.autoBreak, s.dayReg, s.dayOver, s.weekReg, s.nightFrom, s.nightTo].map (Value.int .i64)).toArray 3)).grown (M := [s.allow, s.unit, s.cap, s.paidBreak, s.autoAfter, s.autoBreak, s.dayReg, s.dayOver, s.weekReg, s.nightFrom, s.nightTo]) own' grow'
                  clear own' grow' d7 d8 d9 d10 d11 d12 d13 d14 d15 d16 d17
                  obtain ⟨LL, hL'⟩ : ∃ L', LL ++ [s.allow, s.unit, s.cap, s.paidBreak, s.autoAfter, s.autoBreak, s.dayReg, s.dayOver, s.weekReg, s.nightFrom, s.nightTo] = L' := ⟨_, rfl⟩
                  replace hl : LL.length ≤ 1118 := by rw [← hL', List.length_append]; simp only [List.length_cons, List.length_nil]; omega
                  rw [hL'] at hst2
                  have HA4 := Lib.hid hL'
                  clear HN gS
                  obtain ⟨wr, hwr⟩ : ∃ x, x = w2 := ⟨_, rfl⟩
                  subst hwr
                  have HN := Lib.hid hst2
                  clear hL' hst2
                  have gS : wr.cell? ⟨w.heap.size, 18, none⟩ = some (.slice q.ra q.rl q.rc) := by simp [World.cell?, HN.out.box]
                  refine wp_region_held_drew (S := (fun w' => w'.cell? ⟨w.heap.size, 18, none⟩ = some (.slice q.ra q.rl q.rc))) (by kernel_rfl) ?_ (fun hHeld => ?_)
                  · exact gS
                  refine wpAnyH_take (i := 0) (oi := ⟨some 164, _, _, _, _, none⟩) (v := ?_) rfl (by kernel_rfl) (by kernel_rfl) (by kernel_rfl) (fun _ _ _ h => h) (Or.inl ⟨by rfl, ?_⟩) (by assumption) ?_
                  rotate_left
                  · intro wz hSw; (try dsimp only at hSw); go_simp; (try with_reducible rfl)
                  try simp only [Act.put, List.setIfInBounds_toArray, List.set_cons_zero, List.set_cons_succ]
                  refine wpAnyH_take (i := 1) (oi := ⟨some 165, _, _, _, _, none⟩) (v := ?_) rfl (by kernel_rfl) (by kernel_rfl) (by kernel_rfl) (fun _ _ _ h => h) (Or.inl ⟨by rfl, ?_⟩) (by assumption) ?_
                  rotate_left
                  · intro wz hSw; (try dsimp only at hSw); go_simp; (try with_reducible rfl)
                  try simp only [Act.put, List.setIfInBounds_toArray, List.set_cons_zero, List.set_cons_succ]
                  refine wpAnyH_take (i := 2) (oi := ⟨some 166, _, _, _, _, none⟩) (v := ?_) rfl (by kernel_rfl) (by kernel_rfl) (by kernel_rfl) (fun _ _ _ h => h) (Or.inl ⟨by rfl, ?_⟩) (by assumption) ?_
                  rotate_left
                  · intro wz hSw; (try dsimp only at hSw); go_simp; (try with_reducible rfl)
                  try simp only [Act.put, List.setIfInBounds_toArray, List.set_cons_zero, List.set_cons_succ]
                  refine wpAnyH_take (i := 3) (oi := ⟨some 167, _, _, _, _, none⟩) (v := ?_) rfl (by kernel_rfl) (by kernel_rfl) (by kernel_rfl) (fun _ _ _ h => h) (Or.inl ⟨by rfl, ?_⟩) (by assumption) ?_
                  rotate_left
                  · intro wz hSw; (try dsimp only at hSw); go_simp; (try with_reducible rfl)
                  try simp only [Act.put, List.setIfInBounds_toArray, List.set_cons_zero, List.set_cons_succ]
                  refine wpAnyH_take (i := 6) (oi := ⟨some 170, _, _, _, _, none⟩) (v := ?_) rfl (by kernel_rfl) (by kernel_rfl) (by kernel_rfl) (fun _ _ _ h => h) (Or.inl ⟨by rfl, ?_⟩) (by assumption) ?_
                  rotate_left
                  · intro wz hSw; (try dsimp only at hSw); go_simp; (try with_reducible rfl)
                  try simp only [Act.put, List.setIfInBounds_toArray, List.set_cons_zero, List.set_cons_succ]
                  refine wpAnyH_take (i := 7) (oi := ⟨some 171, _, _, _, _, none⟩) (v := ?_) rfl (by kernel_rfl) (by kernel_rfl) (by kernel_rfl) (fun _ _ _ h => h) (Or.inl ⟨by rfl, ?_⟩) (by assumption) ?_
                  rotate_left
                  · intro wz hSw; (try dsimp only at hSw); go_simp; (try with_reducible rfl)
                  try simp only [Act.put, List.setIfInBounds_toArray, List.set_cons_zero, List.set_cons_succ]
                  refine wpAnyH_ready (rs := [4]) (by kernel_rfl) (by simp) ?_
                  refine AllReadyH.cons (o := ⟨some 168, _, _, _, _, none⟩) rfl (fun K hK => ?_) AllReadyH.nil
                  go_simp
                  replace gS := keepA (.cells #[.int .i64 (q.rl : Int)] 3) gS
                  refine hK.out _ _ ?_ (fun hHeld => ?_)
                  · exact gS
                  clear hK K
                  try simp only [Act.put, List.setIfInBounds_toArray, List.set_cons_zero, List.set_cons_succ]
                  refine wpAnyH_ready (rs := [5]) (by kernel_rfl) (by simp) ?_
                  refine AllReadyH.cons (o := ⟨some 169, _, _, _, _, none⟩) rfl (fun K hK => ?_) AllReadyH.nil
                  refine step_append_lies _ (by rfl) (.tmp 164) (.tmp 168) 27 (by rfl) (w.heap.size + 1) 3 i0 (.int .i64 0) 1 8 Try.underlying27 hi hz0 hz1 hz2 rfl (by decide) _ LL.length _ (by rfl) (HN.out.drew.alloc (.cells ([(q.rl : Int)].map (Value.int .i64)).toArray 3)).own ⟨wr.heap.size, 0, none⟩ 1 1 ([(q.rl : Int)].map (Value.int .i64)) (by rfl) (by rfl) (news_new wr.drew 3 _ _ rfl) (one_of_ints _) (by decide) (by unfold maxLen; omega) (by omega) (HN.out.drew.alloc (.cells ([(q.rl : Int)].map (Value.int .i64)).toArray 3)).sz _ rfl ?_
                  intro g' cap' w2 own' grow' _ _
                  have hst2 := (HN.out.drew.alloc (.cells ([(q.rl : Int)].map (Value.int .i64)).toArray 3)).grown (M := [(q.rl : Int)]) own' grow'
                  replace gS : w2.cell? ⟨w.heap.size, 18, none⟩ = some (.slice q.ra q.rl q.rc) := by simp [World.cell?, hst2.box]
                  refine hK.out _ _ ?_ (fun hHeld => ?_)
                  · exact gS
                  clear hK K
                  try simp only [Act.put, List.setIfInBounds_toArray, List.set_cons_zero, List.set_cons_succ]
                  refine wpAnyH_ready (rs := [8]) (by kernel_rfl) (by simp) ?_
                  refine AllReadyH.cons (o := ⟨some 172, _, _, _, _, none⟩) rfl (fun K hK => ?_) AllReadyH.nil
                  have hri := H.out.rates.below hst2.low
                  have HRI := Lib.hid hri
                  have hrl := hri.1
                  have hff := HF.out
                  refine step_append_cells (by rfl) (.tmp 169) (.tmp 171) 27 (by rfl) (w.heap.size + 1) 3 i0 (.int .i64 0) 1 8 Try.underlying27 hi hz0 hz1 hz2 rfl (by decide) _ (LL ++ [(q.rl : Int)]).length _ (by rfl) hst2.own q.ra q.rl q.rc (s.rates.map (Value.int .i64)) (by rfl) (by rw [List.length_map, hrl, Nat.mul_one]) HRI.out.cells HRI.out.nil (one_of_ints _) (by rw [List.length_append]; simp only [List.length_cons, List.length_nil]; unfold maxLen; omega) (by rw [List.length_append]; simp only [List.length_cons, List.length_nil]; omega) hst2.sz ?_
                  intro v3 w3 own3 grow3
                  have hst3 := hst2.grown (M := s.rates) (by rw [hrl]; exact own3) grow3
                  replace gS : w3.cell? ⟨w.heap.size, 18, none⟩ = some (.slice q.ra q.rl q.rc) := by simp [World.cell?, hst3.box]
                  refine hK.out _ _ ?_ (fun hHeld => ?_)
                  · exact gS
                  clear hK K
                  try simp only [Act.put, List.setIfInBounds_toArray, List.set_cons_zero, List.set_cons_succ]
                  refine wpAnyH_take (i := 9) (oi := ⟨some 3, _, _, _, _, none⟩) (v := ?_) rfl (by kernel_rfl) (by kernel_rfl) (by kernel_rfl) (fun _ _ _ h => h) (Or.inl ⟨by rfl, ?_⟩) (by assumption) ?_
                  rotate_left
                  · intro wz hSw; (try dsimp only at hSw); go_simp; (try with_reducible rfl)
                  try simp only [Act.put, List.setIfInBounds_toArray, List.set_cons_zero, List.set_cons_succ]
                  refine wpAnyH_done (by kernel_rfl) ?_ _
                  clear own3 grow3 own' grow' gS hri HRI hst2 HN
                  obtain ⟨LL, hL'⟩ : ∃ L', (LL ++ [(q.rl : Int)]) ++ s.rates = L' := ⟨_, rfl⟩
                  replace hl : LL.length ≤ 1219 := by rw [← hL', List.length_append, List.length_append]; simp only [List.length_cons, List.length_nil]; omega
                  rw [hL'] at hst3
                  have HA5 := Lib.hid hL'
                  obtain ⟨wr, hwr⟩ : ∃ x, x = w3 := ⟨_, rfl⟩
                  subst hwr
                  have HN := Lib.hid hst3
                  clear hL' hst3 hrl hff
                  have d19 : wr.cell? ⟨w.heap.size, 19, none⟩ = some (.int .i64 s.diff) := by simp [World.cell?, HN.out.box]
                  have d20 : wr.cell? ⟨w.heap.size, 20, none⟩ = some (.int .i64 s.least) := by simp [World.cell?, HN.out.box]
                  have d21 : wr.cell? ⟨w.heap.size, 21, none⟩ = some (.int .i64 s.fault) := by simp [World.cell?, HN.out.box]
                  have d22 : wr.cell? ⟨w.heap.size, 22, none⟩ = some (.slice q.ta q.tl q.tc) := by simp [World.cell?, HN.out.box]
                  go_upto_region 25 with (at_builtin; (refine wpList_append_lies _ rfl (.tmp 173) (.tmp 183) 27 (by rfl) (w.heap.size + 1) 3 i0 (.int .i64 0) 1 8 Try.underlying27 hi hz0 hz1 hz2 rfl (by decide) _ LL.length _ (by rfl) (HN.out.alloc (.cells ([s.diff, s.least, s.fault, (q.tl : Int)].map (Value.int .i64)).toArray 3)).own ⟨wr.heap.size, 0, none⟩ 4 4 ([s.diff, s.least, s.fault, (q.tl : Int)].map (Value.int .i64)) (by rfl) (by rfl) (news_new wr 3 _ _ rfl) (one_of_ints _) (by decide) (by unfold maxLen; omega) (by omega) (HN.out.alloc (.cells ([s.diff, s.least, s.fault, (q.tl : Int)].map (Value.int .i64)).toArray 3)).sz _ rfl ?_; intro g' cap' w2 own' grow' _ _))
                  have hst2 := (HN.out.alloc (.cells ([s.diff, s.least, s.fault, (q.tl : Int)].map (Value.int .i64)).toArray 3)).grown (M := [s.diff, s.least, s.fault, (q.tl : Int)]) own' grow'
                  clear own' grow' d19 d20 d21 d22
                  obtain ⟨LL, hL'⟩ : ∃ L', LL ++ [s.diff, s.least, s.fault, (q.tl : Int)] = L' := ⟨_, rfl⟩
                  replace hl : LL.length ≤ 1223 := by rw [← hL', List.length_append]; simp only [List.length_cons, List.length_nil]; omega
                  rw [hL'] at hst2
                  have HA6 := Lib.hid hL'
                  clear HN gS
                  obtain ⟨wr, hwr⟩ : ∃ x, x = w2 := ⟨_, rfl⟩
                  subst hwr
                  have HN := Lib.hid hst2
                  clear hL' hst2
                  have gS : wr.cell? ⟨w.heap.size, 22, none⟩ = some (.slice q.ta q.tl q.tc) := by simp [World.cell?, HN.out.box]
                  go_wp2_with fail
                  go_loopw [3, 9] (fun v i wr => ∃ k : Nat, k ≤ q.tl ∧ i = .int .i64 k ∧ NumSt w wr s q v (LL ++ flat2 (s.tiers.take k))) (fun _ i _ => q.tl - (intOf i).toNat)
                  case atStart => exact ⟨0, by omega, rfl, by simpa [flat2] using HN.out⟩
                  case round =>
                    obtain ⟨k, hk, rfl, hst⟩ := hrel
                    clear HN
                    have HN := Lib.hid hst
                    clear hst
                    have hfl := H.out.tiers.1
                    have hff := HF.out
                    by_cases hlt : k < q.tl
                    · have hk0 : (0 : Int) ≤ (k : Int) := by omega
                      have hk1 : (k : Int) < (q.tl : Int) := by omega
                      have hk2 : (q.tl : Int) ≤ 100 := by omega
                      obtain ⟨rb, ro, hra, _, hrc⟩ := H.out.tiers.2.2.2.resolve_left (by omega)
                      have hrk := hrc k hlt
                      have htk : s.tiers.take (k + 1) = s.tiers.take k ++ [s.tiers.getD k (0, 0)] := by
                        rw [List.take_succ_eq_append_getElem (by omega), List.getD_eq_getElem?_getD, List.getElem?_eq_getElem (by omega)]; rfl
                      generalize s.tiers.getD k (0, 0) = x at *
                      obtain ⟨z0, z1⟩ := x
                      simp only at hrk
                      obtain ⟨c0, c1⟩ := hrk
                      have htf : LL ++ flat2 (s.tiers.take (k + 1)) = (LL ++ flat2 (s.tiers.take k)) ++ [z0, z1] := by
                        rw [htk]
                        simp [flat2]
                      have hll : (LL ++ flat2 (s.tiers.take k)).length ≤ 1423 := by rw [List.length_append, flat2_length, List.length_take]; omega
                      have HTF := Lib.hid htf
                      generalize LL ++ flat2 (s.tiers.take k) = LL at *
                      have g0 := HN.out.cell c0
                      have g1 := HN.out.cell c1
                      have gS : wr.cell? ⟨w.heap.size, 22, none⟩ = some (.slice (some ⟨rb, ro, none⟩) q.tl q.tc) := by rw [← hra]; simp [World.cell?, HN.out.box]
                      replace hra : Value.slice q.ta q.tl q.tc = .slice (some ⟨rb, ro, none⟩) q.tl q.tc := by rw [hra]
                      have HRA := Lib.hid hra
                      clear hrc htk htf hra hff hfl
                      go_wp2_with fail
                      refine wp_region_held_drew (S := (fun w' => w'.cell? ⟨w.heap.size, 22, none⟩ = some (.slice (some ⟨rb, ro, none⟩) q.tl q.tc) ∧ w'.cell? ⟨rb, ro + k * 2, none⟩ = some (.int .i64 z0) ∧ w'.cell? ⟨rb, ro + k * 2 + 1, none⟩ = some (.int .i64 z1))) (by kernel_rfl) ?_ (fun hHeld => ?_)
                      · exact ⟨gS, g0, g1⟩
                      refine wpAnyH_take (i := 0) (oi := ⟨some 192, _, _, _, _, none⟩) (v := ?_) rfl (by kernel_rfl) (by kernel_rfl) (by kernel_rfl) (fun _ _ _ h => h) (Or.inl ⟨by rfl, ?_⟩) (by assumption) ?_
                      rotate_left
                      · intro wz hSw; (try dsimp only at hSw); go_simp; (try with_reducible rfl)
                      try simp only [Act.put, List.setIfInBounds_toArray, List.set_cons_zero, List.set_cons_succ]
                      refine wpAnyH_take (i := 1) (oi := ⟨some 193, _, _, _, _, none⟩) (v := ?_) rfl (by kernel_rfl) (by kernel_rfl) (by kernel_rfl) (fun _ _ _ h => h) (Or.inl ⟨by rfl, ?_⟩) (by assumption) ?_
                      rotate_left
                      · intro wz hSw; (try dsimp only at hSw); go_simp; (try with_reducible rfl)
                      try simp only [Act.put, List.setIfInBounds_toArray, List.set_cons_zero, List.set_cons_succ]
                      refine wpAnyH_take (i := 2) (oi := ⟨some 194, _, _, _, _, none⟩) (v := ?_) rfl (by kernel_rfl) (by kernel_rfl) (by kernel_rfl) (fun _ _ _ h => h) (Or.inl ⟨by rfl, ?_⟩) (by assumption) ?_
                      rotate_left
                      · intro wz hSw; (try dsimp only at hSw); go_simp; (try with_reducible rfl)
                      try simp only [Act.put, List.setIfInBounds_toArray, List.set_cons_zero, List.set_cons_succ]
                      refine wpAnyH_take (i := 3) (oi := ⟨some 195, _, _, _, _, none⟩) (v := ?_) rfl (by kernel_rfl) (by kernel_rfl) (by kernel_rfl) (fun _ _ _ h => h) (Or.inl ⟨by rfl, ?_⟩) (by assumption) ?_
                      rotate_left
                      · intro wz hSw; (try dsimp only at hSw); go_simp; (try with_reducible rfl)
                      try simp only [Act.put, List.setIfInBounds_toArray, List.set_cons_zero, List.set_cons_succ]
                      refine wpAnyH_take (i := 4) (oi := ⟨some 196, _, _, _, _, none⟩) (v := ?_) rfl (by kernel_rfl) (by kernel_rfl) (by kernel_rfl) (fun _ _ _ h => h) (Or.inl ⟨by rfl, ?_⟩) (by assumption) ?_
                      rotate_left
                      · intro wz hSw; (try dsimp only at hSw); go_simp; (try with_reducible rfl)
                      try simp only [Act.put, List.setIfInBounds_toArray, List.set_cons_zero, List.set_cons_succ]
                      refine wpAnyH_take (i := 5) (oi := ⟨some 197, _, _, _, _, none⟩) (v := ?_) rfl (by kernel_rfl) (by kernel_rfl) (by kernel_rfl) (fun _ _ _ h => h) (Or.inl ⟨by rfl, ?_⟩) (by assumption) ?_
                      rotate_left
                      · intro wz hSw; (try dsimp only at hSw); go_simp; (try with_reducible rfl)
                      try simp only [Act.put, List.setIfInBounds_toArray, List.set_cons_zero, List.set_cons_succ]
                      refine wpAnyH_take (i := 6) (oi := ⟨some 198, _, _, _, _, none⟩) (v := ?_) rfl (by kernel_rfl) (by kernel_rfl) (by kernel_rfl) (fun _ _ _ h => h) (Or.inl ⟨by rfl, ?_⟩) (by assumption) ?_
                      rotate_left
                      · intro wz hSw; (try dsimp only at hSw); go_simp; (try with_reducible rfl)
                      try simp only [Act.put, List.setIfInBounds_toArray, List.set_cons_zero, List.set_cons_succ]
                      refine wpAnyH_take (i := 7) (oi := ⟨some 199, _, _, _, _, none⟩) (v := ?_) rfl (by kernel_rfl) (by kernel_rfl) (by kernel_rfl) (fun _ _ _ h => h) (Or.inl ⟨by rfl, ?_⟩) (by assumption) ?_
                      rotate_left
                      · intro wz hSw; (try dsimp only at hSw); go_simp; (try with_reducible rfl)
                      try simp only [Act.put, List.setIfInBounds_toArray, List.set_cons_zero, List.set_cons_succ]
                      refine wpAnyH_take (i := 8) (oi := ⟨some 200, _, _, _, _, none⟩) (v := ?_) rfl (by kernel_rfl) (by kernel_rfl) (by kernel_rfl) (fun _ _ _ h => h) (Or.inl ⟨by rfl, ?_⟩) (by assumption) ?_
                      rotate_left
                      · intro wz hSw; (try dsimp only at hSw); go_simp; (try with_reducible rfl)
                      try simp only [Act.put, List.setIfInBounds_toArray, List.set_cons_zero, List.set_cons_succ]
                      refine wpAnyH_take (i := 9) (oi := ⟨some 201, _, _, _, _, none⟩) (v := ?_) rfl (by kernel_rfl) (by kernel_rfl) (by kernel_rfl) (fun _ _ _ h => h) (Or.inl ⟨by rfl, ?_⟩) (by assumption) ?_
                      rotate_left
                      · intro wz hSw; (try dsimp only at hSw); go_simp; (try with_reducible rfl)
                      try simp only [Act.put, List.setIfInBounds_toArray, List.set_cons_zero, List.set_cons_succ]
                      refine wpAnyH_take (i := 10) (oi := ⟨some 202, _, _, _, _, none⟩) (v := ?_) rfl (by kernel_rfl) (by kernel_rfl) (by kernel_rfl) (fun _ _ _ h => h) (Or.inl ⟨by rfl, ?_⟩) (by assumption) ?_
                      rotate_left
                      · intro wz hSw; (try dsimp only at hSw); go_simp; (try with_reducible rfl)
                      try simp only [Act.put, List.setIfInBounds_toArray, List.set_cons_zero, List.set_cons_succ]
                      refine wpAnyH_take (i := 11) (oi := ⟨some 203, _, _, _, _, none⟩) (v := ?_) rfl (by kernel_rfl) (by kernel_rfl) (by kernel_rfl) (fun _ _ _ h => h) (Or.inl ⟨by rfl, ?_⟩) (by assumption) ?_
                      rotate_left
                      · intro wz hSw; (try dsimp only at hSw); go_simp; (try with_reducible rfl)
                      try simp only [Act.put, List.setIfInBounds_toArray, List.set_cons_zero, List.set_cons_succ]
                      refine wpAnyH_take (i := 12) (oi := ⟨some 204, _, _, _, _, none⟩) (v := ?_) rfl (by kernel_rfl) (by kernel_rfl) (by kernel_rfl) (fun _ _ _ h => h) (Or.inl ⟨by rfl, ?_⟩) (by assumption) ?_
                      rotate_left
                      · intro wz hSw; (try dsimp only at hSw); go_simp; (try with_reducible rfl)
                      try simp only [Act.put, List.setIfInBounds_toArray, List.set_cons_zero, List.set_cons_succ]
                      refine wpAnyH_ready (rs := [13]) (by kernel_rfl) (by simp) ?_
                      refine AllReadyH.cons (o := ⟨some 205, _, _, _, _, none⟩) rfl (fun K hK => ?_) AllReadyH.nil
                      go_simp
                      replace gS := keepA (.cells #[.int .i64 z0, .int .i64 z1] 3) gS
                      replace g0 := keepA (.cells #[.int .i64 z0, .int .i64 z1] 3) g0
                      replace g1 := keepA (.cells #[.int .i64 z0, .int .i64 z1] 3) g1
                      refine hK.out _ _ ?_ (fun hHeld => ?_)
                      · exact ⟨gS, g0, g1⟩
                      clear hK K
                      try simp only [Act.put, List.setIfInBounds_toArray, List.set_cons_zero, List.set_cons_succ]
                      refine wpAnyH_ready (rs := [14]) (by kernel_rfl) (by simp) ?_
                      refine AllReadyH.cons (o := ⟨some 206, _, _, _, _, none⟩) rfl (fun K hK => ?_) AllReadyH.nil
                      refine step_append_lies _ (by rfl) (.tmp 192) (.tmp 205) 27 (by rfl) (w.heap.size + 1) 3 i0 (.int .i64 0) 1 8 Try.underlying27 hi hz0 hz1 hz2 rfl (by decide) _ LL.length _ (by rfl) (HN.out.drew.alloc (.cells ([z0, z1].map (Value.int .i64)).toArray 3)).own ⟨wr.heap.size, 0, none⟩ 2 2 ([z0, z1].map (Value.int .i64)) (by rfl) (by rfl) (news_new wr.drew 3 _ _ rfl) (one_of_ints _) (by decide) (by unfold maxLen; omega) (by omega) (HN.out.drew.alloc (.cells ([z0, z1].map (Value.int .i64)).toArray 3)).sz _ rfl ?_
                      intro g' cap' w2 own' grow' _ _
                      have hst2 := (HN.out.drew.alloc (.cells ([z0, z1].map (Value.int .i64)).toArray 3)).grown (M := [z0, z1]) own' grow'
                      replace gS : w2.cell? ⟨w.heap.size, 22, none⟩ = some (.slice (some ⟨rb, ro, none⟩) q.tl q.tc) := by rw [← HRA.out]; simp [World.cell?, hst2.box]
                      replace g0 := hst2.cell c0
                      replace g1 := hst2.cell c1
                      refine hK.out _ _ ?_ (fun hHeld => ?_)
                      · exact ⟨gS, g0, g1⟩
                      clear hK K
                      try simp only [Act.put, List.setIfInBounds_toArray, List.set_cons_zero, List.set_cons_succ]
                      refine wpAnyH_take (i := 15) (oi := ⟨some 3, _, _, _, _, none⟩) (v := ?_) rfl (by kernel_rfl) (by kernel_rfl) (by kernel_rfl) (fun _ _ _ h => h) (Or.inl ⟨by rfl, ?_⟩) (by assumption) ?_
                      rotate_left
                      · intro wz hSw; (try dsimp only at hSw); go_simp; (try with_reducible rfl)
                      try simp only [Act.put, List.setIfInBounds_toArray, List.set_cons_zero, List.set_cons_succ]
                      refine wpAnyH_done (by kernel_rfl) ?_ _
                      clear HRA gS g0 g1 own' grow' hHeld
                      go_wp2_with fail
                      go_roundw
                      case rel => exact ⟨k + 1, by omega, by go_num, by rw [HTF.out]; exact hst2⟩
                      case measure => simp [intOf]; omega
                    · obtain rfl : k = q.tl := by omega
                      rw [List.take_of_length_le (by omega)] at HN
                      have gS : wr.cell? ⟨w.heap.size, 22, none⟩ = some (.slice q.ta q.tl q.tc) := by simp [World.cell?, HN.out.box]
                      obtain ⟨LL, hL'⟩ : ∃ L', LL ++ flat2 s.tiers = L' := ⟨_, rfl⟩
                      replace hl : LL.length ≤ 1423 := by rw [← hL', List.length_append, flat2_length]; omega
                      rw [hL'] at HN
                      have HL5 := Lib.hid hL'
                      clear hL' hff hfl
                      go_wp2_with fail
                      go_ret
                      have e : LL = numbersP s := by
                        rw [← HL5.out, ← HA6.out, ← HA5.out, ← HA4.out, ← HL4.out, ← HA3.out, ← HL3.out, ← HA2.out, ← HL2.out, ← HA1.out, ← HL1.out, ← HL0.out]
                        rw [← H.out.ways.1, ← H.out.elements.1, ← H.out.classes.1, ← H.out.gears.1, ← H.out.rates.1, ← H.out.tiers.1]
                        unfold numbersP timesL
                        simp only [List.append_assoc, List.cons_append, List.nil_append]
                      rw [← e]
                      exact ⟨_, rfl, HN.out.own, HN.out.low⟩
end Go.Proofs.Ytnjckaifgmliaaa
