/- WORDS FOR MEMORY: what a slice of one-cell things reads as, kept while the world grows; append onto a row of the call's own, the source nil, empty or not. -/
import Derived.Test.YtnjckaifgmliaaaNum
import Derived.WalkSmall
set_option linter.unusedSimpArgs false
set_option linter.unusedVariables false
namespace Go.Proofs.Ytnjckaifgmliaaa
open Go.RowKit Lu

theorem below_drewN_iff {B : Nat} {a w : World} (n : Nat) : Below B a (w.drewN n) ↔ Below B a w :=
  ⟨fun h => h.trans ⟨rfl, rfl, rfl, Nat.le_refl _, fun _ _ => rfl⟩, fun h => below_drewN h n⟩
/-- What a callee that makes memory leaves: all old cells, all old marks. -/
theorem old_cells {B : Nat} {W w1 : World} (hb : Below B W w1) : (∀ b o, b < B → w1.cell? ⟨b, o, none⟩ = W.cell? ⟨b, o, none⟩) ∧ (∀ b o, b < B → w1.frozen? ⟨b, o, none⟩ = W.frozen? ⟨b, o, none⟩) :=
  ⟨fun b o h => hb.cell (p := ⟨b, o, none⟩) h, fun b o h => hb.frozen (p := ⟨b, o, none⟩) h⟩
theorem keepC {B : Nat} {W w1 : World} (hb : Below B W w1) {p : Addr} {v : Value} (h : W.cell? p = some v) (hp : p.block < B) : w1.cell? p = some v := (hb.cell hp).trans h
theorem keepF {B : Nat} {W w1 : World} (hb : Below B W w1) {p : Addr} (h : W.frozen? p = false) (hp : p.block < B) : w1.frozen? p = false := (hb.frozen hp).trans h

theorem keepD {W w1 : World} (hb : Below W.heap.size W w1) {p : Addr} {v : Value} (h : W.cell? p = some v) : w1.cell? p = some v := keepC hb h (World.block_lt_of_cell? W p h)

theorem keepA {W : World} (o : Obj) {p : Addr} {v : Value} (h : W.cell? p = some v) : (W.alloc o).cell? p = some v := by
  rw [World.cell?_alloc_lt _ _ _ (World.block_lt_of_cell? W p h)]; exact h

/-- A slice leads to these cells (none asked where there is no element). -/
def Cells (w : World) (a : Option Addr) (xs : List Value) : Prop :=
  xs = [] ∨ ∃ b off, a = some ⟨b, off, none⟩ ∧ ∀ i u, xs[i]? = some u → w.cell? ⟨b, off + i, none⟩ = some u

theorem Cells.below {w w' : World} {a : Option Addr} {xs : List Value} (h : Cells w a xs) (hb : Below w.heap.size w w') : Cells w' a xs := by
  rcases h with h | ⟨b, off, ha, hc⟩
  · exact Or.inl h
  · refine Or.inr ⟨b, off, ha, fun i u hi => ?_⟩
    have := hc i u hi
    rw [hb.cell (World.block_lt_of_cell? w _ this)]
    exact this

theorem Cells.of_own {w : World} {base : Nat} {e : TypeId} {size n : Nat} {v : Value} {xs : List Value} (h : w.ownsRow base e size v n xs) : ∃ a c, v = .slice a n c ∧ Cells w a xs := by
  rcases h.2 with ⟨rfl, rfl⟩ | ⟨g, cap, cur, rfl, hb, hg, hn, hm, hs, ht⟩
  · exact ⟨none, 0, rfl, Or.inl (List.eq_nil_of_length_eq_zero (by rw [h.1, Nat.zero_mul]))⟩
  · refine ⟨some ⟨g, 0, none⟩, cap, rfl, Or.inr ⟨g, 0, rfl, fun i u hi => ?_⟩⟩
    have := h.cells (g := g) rfl i u hi
    rw [Addr.add_lit] at this
    exact this

section
variable {P : Program} (w : World)
theorem run_append_none (base : Nat) (t ty e : TypeId) (i : TypeInfo) (size : Nat) (ht : P.underlying t = some (.slice e)) (hi : P.info? e = some i)
    (v : Value) (n : Nat) (xs : List Value) (hown : w.ownsRow base e size v n xs) (c : Nat) : (Builtin.append_ #[t, t] ty #[v, .slice none 0 c]).run P w = .ok v w := by
  rcases hown.2 with ⟨rfl, rfl⟩ | ⟨g, cap, cur, rfl, _, _, hnc, _⟩
  · simp [Builtin.append_, run_underlying ht, sizeOf, typeInfo, hi, Builtin.lenOf, Builtin.firstCells]
  · simp [Builtin.append_, run_underlying ht, sizeOf, typeInfo, hi, Builtin.lenOf, Builtin.firstCells, hnc, storeCells]

/-- append, the source whatever it is. -/
theorem wpList_append_cells {ops : Array Oper} {rest : List Oper} {o : Oper} {a : Act} {Q : Exit → Act → World → Prop} (hgd : o.guard = none) (s x : Operand) (t : TypeId)
    (ho : o.op = .call { callee := .builtin .append, args := #[s, x], argTypes := #[t, t] })
    (base : Nat) (e : TypeId) (i : TypeInfo) (z : Value) (size bytes : Nat) (ht : P.underlying t = some (.slice e)) (hi : P.info? e = some i) (hz : i.zero = some z)
    (hsize : i.size = size) (hby : i.bytes = bytes) (hzs : z.cells.size = size) (hsz : 0 < size)
    (v : Value) (n : Nat) (xs : List Value) (hs : a.eval s = v) (hown : w.ownsRow base e size v n xs)
    (A : Option Addr) (m c : Nat) (news : List Value) (hx : a.eval x = .slice A m c) (hl : news.length = m * size) (hnews : Cells w A news) (hA : A = none → m = 0) (h1 : ∀ u ∈ news, u.oneCell' = true)
    (h63 : n + m ≤ maxLen) (hbytes : (n + m) * bytes ≤ 140737488355328) (hbase : base ≤ w.heap.size)
    (h : ∀ v' w', w'.ownsRow base e size v' (n + m) (xs ++ news) → w.grownBy w' v.ownBlock → wpList P ops Q rest (a.put o.dst v') w') : wpList P ops Q (o :: rest) a w := by
  cases A with
  | none =>
    obtain rfl := hA rfl
    obtain rfl : news = [] := List.eq_nil_of_length_eq_zero (by rw [hl, Nat.zero_mul])
    refine wpList_plain hgd fun K hK => ?_
    have hr := run_append_none (P := P) w base t o.type e i size ht hi v n xs hown c
    unfold Oper.wp execOp
    simp only [ho, resolve, invoke, builtin, Sem.run_bind, Sem.run_pure, Result.andThen_ok, List.map_toArray, List.map_cons, List.map_nil, hs, hx, hr]
    exact hK _ _ (h v w (by simpa using hown) (World.grownBy.refl w _))
  | some ad =>
    have hn : ∀ j u, news[j]? = some u → w.cell? (ad.add j) = some u := by
      rcases hnews with rfl | ⟨b, off, hb, hc⟩
      · intro j u hj; simp at hj
      · intro j u hj
        obtain rfl : ad = ⟨b, off, none⟩ := Option.some.inj hb
        rw [Addr.add_lit]
        exact hc j u hj
    exact wpList_append_own w hgd s x t ho base e i z size bytes ht hi hz hsize hby hzs hsz v n xs hs hown ad m c news hx hl hn h1 h63 hbytes hbase fun v' w' h2 h3 _ => h v' w' h2 h3
end

theorem Ints.cells {w : World} {a : Option Addr} {len : Nat} {zs : List Int} (h : Ints w a len zs) : Cells w a (zs.map (Value.int .i64)) := by
  obtain ⟨hl, hm, hin, hc⟩ := h
  rcases hc with h0 | ⟨b, off, ha, hc⟩
  · left
    rw [List.eq_nil_of_length_eq_zero (by omega : zs.length = 0)]
    rfl
  · refine Or.inr ⟨b, off, ha, fun i u hi => ?_⟩
    rw [List.getElem?_map] at hi
    have hlt : i < zs.length := by
      apply Classical.byContradiction
      intro hn
      rw [List.getElem?_eq_none (by omega)] at hi
      simp at hi
    rw [hc i (by omega)]
    rw [List.getElem?_eq_getElem hlt] at hi
    simp at hi
    rw [← hi, List.getD_eq_getElem?_getD, List.getElem?_eq_getElem hlt]
    rfl
theorem Ints.of_cells {w : World} {a : Option Addr} {len : Nat} {zs : List Int} (hl : zs.length = len) (hm : (len : Int) ≤ 9223372036854775807) (hin : ∀ z ∈ zs, In z) (h : Cells w a (zs.map (Value.int .i64))) : Ints w a len zs := by
  refine ⟨hl, hm, hin, ?_⟩
  rcases h with h | ⟨b, off, ha, hc⟩
  · left
    have : zs = [] := by simpa using h
    rw [← hl, this]
    rfl
  · refine Or.inr ⟨b, off, ha, fun i hi => hc i _ ?_⟩
    rw [List.getElem?_map, List.getElem?_eq_getElem (show i < zs.length by omega), List.getD_eq_getElem?_getD, List.getElem?_eq_getElem (show i < zs.length by omega)]
    rfl
theorem Ints.below {w w' : World} {a : Option Addr} {len : Nat} {zs : List Int} (h : Ints w a len zs) (hb : Below w.heap.size w w') : Ints w' a len zs :=
  .of_cells h.1 h.2.1 h.2.2.1 (h.cells.below hb)
theorem Ints.nil {w : World} {a : Option Addr} {len : Nat} {zs : List Int} (h : Ints w a len zs) : a = none → len = 0 := by
  intro ha
  rcases h.2.2.2 with h0 | ⟨b, off, hb, _⟩
  · exact h0
  · rw [ha] at hb; cases hb
/-- A new row of the call's own, none of it used. -/
theorem own_empty (w : World) (e : TypeId) (size base b : Nat) (hB : base ≤ w.heap.size) (hb : b = w.heap.size) : (w.alloc (.cells #[] e)).ownsRow base e size (.slice (some ⟨b, 0, none⟩) 0 0) 0 [] := by
  subst hb
  exact ⟨by simp, .inr ⟨_, _, _, rfl, hB, heap_alloc_new w _, Nat.le_refl _, by decide, by simp, by simp⟩⟩
/-- A new row of the call's own, all of it used. -/
theorem own_full (w : World) (e : TypeId) (size base b n : Nat) (xs : List Value) (hB : base ≤ w.heap.size) (hb : b = w.heap.size) (hl : xs.length = n * size) (hn : n ≤ maxLen) :
    (w.alloc (.cells xs.toArray e)).ownsRow base e size (.slice (some ⟨b, 0, none⟩) n n) n xs := by
  subst hb
  exact ⟨hl, .inr ⟨_, _, _, rfl, hB, heap_alloc_new w _, Nat.le_refl _, hn, by simpa using hl, by simp [← hl]⟩⟩
/-- What an append onto a row of the call's own turns lies from the row's base on. -/
theorem below_own {B : Nat} {w0 w w' : World} {base : Nat} {e : TypeId} {size n : Nat} {v : Value} {xs : List Value} (h : Below B w0 w) (hown : w.ownsRow base e size v n xs) (hg : w.grownBy w' v.ownBlock) (hB : B ≤ base) (hBw : base ≤ w.heap.size) : Below B w0 w' :=
  h.grown hg (Nat.le_trans hB hBw) fun k hk => Nat.le_trans hB (hown.lt k hk).1
theorem oneCell_ints (zs : List Int) : ∀ u ∈ zs.map (Value.int .i64), u.oneCell' = true := ints_oneCell .i64 zs
theorem infoInt : (Try.prog.info? 3).map (fun i => (i.zero, i.size, i.bytes)) = some (some (.int .i64 0), 1, 8) := by kernel_rfl
end Go.Proofs.Ytnjckaifgmliaaa
