/- WORDS for layer 7's eye: two blocks that may turn; a block in three parts; the eye; what it reads, step by step. -/
import Derived.Test.YtnjckaifgmliaaaTake
import Derived.Test.YtnjckaifgmliaaaPlainHand3
import Derived.Test.YtnjckaifgmliaaaPenFn
set_option linter.unusedSimpArgs false
set_option linter.unusedVariables false
namespace Go.Proofs.Ytnjckaifgmliaaa
open Go.RowKit Lu

/-- Nothing that was there has turned, but for blocks H and R. -/
structure Off2 (H R : Nat) (w w' : World) : Prop where
  os : w'.os = w.os
  tape : w'.tape = w.tape
  output : w'.output = w.output
  size : w.heap.size ≤ w'.heap.size
  block : ∀ k, k < w.heap.size → k ≠ H → k ≠ R → w'.heap[k]? = w.heap[k]?
theorem Off2.refl (H R : Nat) (w : World) : Off2 H R w w := ⟨rfl, rfl, rfl, Nat.le_refl _, fun _ _ _ _ => rfl⟩
theorem Off2.trans {H R : Nat} {a b c : World} (h : Off2 H R a b) (k : Off2 H R b c) : Off2 H R a c :=
  ⟨k.os.trans h.os, k.tape.trans h.tape, k.output.trans h.output, Nat.le_trans h.size k.size, fun i hi hn hm => (k.block i (Nat.lt_of_lt_of_le hi h.size) hn hm).trans (h.block i hi hn hm)⟩
/-- Behind it a block that is new turned. -/
theorem Off2.fresh {H R S : Nat} {a b c : World} (h : Off2 H S a b) (k : Off2 H R b c) (hR : a.heap.size ≤ R) : Off2 H S a c :=
  ⟨k.os.trans h.os, k.tape.trans h.tape, k.output.trans h.output, Nat.le_trans h.size k.size, fun i hi hn hm => (k.block i (Nat.lt_of_lt_of_le hi h.size) hn (by omega)).trans (h.block i hi hn hm)⟩
theorem Off2.one {H R : Nat} {a b : World} (k : Off2 H R a b) (hR : a.heap.size ≤ R) : Off H a b := ⟨k.os, k.tape, k.output, k.size, fun i hi hn => k.block i hi hn (by omega)⟩
theorem Off.two {H R : Nat} {a b : World} (k : Off H a b) : Off2 H R a b := ⟨k.os, k.tape, k.output, k.size, fun i hi hn _ => k.block i hi hn⟩
theorem Below.off2 {H R : Nat} {w w' : World} (h : Below w.heap.size w w') : Off2 H R w w' := ⟨h.os, h.tape, h.output, h.size, fun k hk _ _ => h.block k hk⟩
theorem Off2.setCell {H R : Nat} {a w : World} (h : Off2 H R a w) {p : Addr} (hp : p.block = H ∨ p.block = R) (u : Value) : Off2 H R a (w.setCell p u) :=
  h.trans ⟨rfl, rfl, rfl, by simp [World.setCell], fun k _ hn hm => Below.heap_setCell _ _ _ _ (by omega)⟩
theorem Off2.cell {H R : Nat} {w w' : World} (h : Off2 H R w w') {p : Addr} {v : Value} (hc : w.cell? p = some v) (hp : p.block ≠ H) (hr : p.block ≠ R) : w'.cell? p = some v :=
  (World.cell?_of_block (w := w) (h.block p.block (World.block_lt_of_cell? w p hc) hp hr)).trans hc
theorem Off2.at {H R b : Nat} {w w' : World} {x : Obj} (h : Off2 H R w w') (hb : w.heap[b]? = some x) (hn : b ≠ H) (hm : b ≠ R) : w'.heap[b]? = some x := (h.block b (block_lt hb) hn hm).trans hb
theorem Off2.below {H R B : Nat} {w w' : World} (h : Off2 H R w w') (hB : B ≤ H) (hR : B ≤ R) (hw : B ≤ w.heap.size) : Below B w w' := ⟨h.os, h.tape, h.output, h.size, fun k hk => h.block k (by omega) (by omega) (by omega)⟩
theorem Off2.cells {H R : Nat} {w w' : World} {b off : Nat} {xs : List Value} (h : Off2 H R w w') (hc : Cells w (some ⟨b, off, none⟩) xs) (hn : b ≠ H) (hm : b ≠ R) : Cells w' (some ⟨b, off, none⟩) xs := by
  rcases hc with h0 | ⟨b', off', ha, hc⟩
  · exact .inl h0
  · simp only [Option.some.injEq, Addr.mk.injEq, and_true] at ha
    obtain ⟨rfl, rfl⟩ := ha
    exact .inr ⟨_, _, rfl, fun i u hi => h.cell (hc i u hi) hn hm⟩
theorem Row8.off2 {H R : Nat} {w w' : World} {a : Option Addr} {n : Nat} {bs : List Int} (h : Row8 w a n bs) (k : Off2 H R w w') (hn : ∀ b o, a = some ⟨b, o, none⟩ → b ≠ H ∧ b ≠ R) : Row8 w' a n bs := by
  refine ⟨h.1, h.2.1, h.2.2.1, ?_, h.2.2.2.2⟩
  rcases h.2.2.2.1 with h0 | ⟨b, off, ha, hc⟩
  · exact .inl h0
  · exact .inr ⟨b, off, ha, fun i u hi => k.cell (hc i u hi) (hn b off ha).1 (hn b off ha).2⟩
/-- A block, known whole, in three parts: numbers in the midst. -/
def Blk3 (W : World) (R : Nat) (T : TypeId) (xs : List Value) (zs : List Int) (ys : List Value) : Prop := W.heap[R]? = some (.cells (xs ++ (zs.map (Value.int .i64) ++ ys)).toArray T)
theorem Blk3.below {W W' : World} {R : Nat} {T : TypeId} {xs ys : List Value} {zs : List Int} (h : Blk3 W R T xs zs ys) (k : Below W.heap.size W W') : Blk3 W' R T xs zs ys := box_keep k h (block_lt h)
theorem Blk3.cell {W : World} {R : Nat} {T : TypeId} {xs ys : List Value} {zs : List Int} (h : Blk3 W R T xs zs ys) {i : Nat} {z : Int} (hz : zs[i]? = some z) : W.cell? ⟨R, xs.length + i, none⟩ = some (.int .i64 z) := by
  unfold Blk3 at h
  have hi := (List.getElem?_eq_some_iff.1 hz).1
  simp only [World.cell?, h]
  rw [List.getElem?_toArray, List.getElem?_append_right (by omega), show xs.length + i - xs.length = i by omega, List.getElem?_append_left (by simpa using hi), List.getElem?_map, hz]
  rfl
theorem Blk3.free {W : World} {R : Nat} {T : TypeId} {xs ys : List Value} {zs : List Int} (h : Blk3 W R T xs zs ys) (i : Nat) : W.frozen? ⟨R, i, none⟩ = false := by
  unfold Blk3 at h
  simp [World.frozen?, h]
theorem Blk3.set {W : World} {R : Nat} {T : TypeId} {xs ys : List Value} {a b : List Int} {z : Int} (h : Blk3 W R T xs (a ++ z :: b) ys) {i : Nat} (hi : i = xs.length + a.length) (n : Int) : Blk3 (W.setCell ⟨R, i, none⟩ (.int .i64 n)) R T xs (a ++ n :: b) ys := by
  subst hi
  unfold Blk3 at h ⊢
  rw [heap_setCell h]
  congr 2
  apply Array.ext'
  simp only [Array.toList_setIfInBounds, List.map_append, List.map_cons, List.append_assoc, List.cons_append]
  rw [List.set_append_right _ _ (by omega), show xs.length + a.length - xs.length = a.length by omega, List.set_append_right _ _ (by simp)]
  simp
theorem Blk3.far {W : World} {R : Nat} {T : TypeId} {xs ys : List Value} {zs : List Int} (h : Blk3 W R T xs zs ys) {p : Addr} (hp : p.block ≠ R) (u : Value) : Blk3 (W.setCell p u) R T xs zs ys :=
  (Below.heap_setCell _ _ _ _ (by omega)).trans h
/-- The eye lies in block H and sees these bytes (none, once something was wrong); its bytes lie in none of these blocks. -/
def EyeIs (W : World) (H : Nat) (X : List Nat) (st : Option (List Int)) : Prop :=
  ∃ a n c ok bs, W.heap[H]? = some (.cells #[.slice a n c, .bool ok] 68) ∧ Row8 W a n bs ∧ n ≤ c ∧ n ≤ 1000000 ∧ (∀ b o, a = some ⟨b, o, none⟩ → b < W.heap.size ∧ b ∉ X) ∧ (∀ x ∈ X, x < W.heap.size) ∧ st = (if ok = true then some bs else none)
theorem EyeIs.lt {W : World} {H : Nat} {X : List Nat} {st : Option (List Int)} (h : EyeIs W H X st) : H < W.heap.size := by
  obtain ⟨a, n, c, ok, bs, h1, _⟩ := h
  exact block_lt h1
theorem EyeIs.elim' {W : World} {H : Nat} {X : List Nat} {st : Option (List Int)} (h : EyeIs W H X st) : st = none ∨ ∃ bs, st = some bs ∧ Bytes bs := by
  obtain ⟨a, n, c, ok, bs, h1, h2, h3, h4, h5, h7, h6⟩ := h
  cases ok
  · exact .inl h6
  · exact .inr ⟨bs, h6, h2.2.2.1⟩
theorem EyeIs.low {W : World} {H : Nat} {X : List Nat} {st : Option (List Int)} (h : EyeIs W H X st) : ∀ x ∈ X, x < W.heap.size := by
  obtain ⟨a, n, c, ok, bs, h1, h2, h3, h4, h5, h7, h6⟩ := h
  exact h7
theorem EyeIs.below {W W' : World} {H : Nat} {X : List Nat} {st : Option (List Int)} (h : EyeIs W H X st) (k : Below W.heap.size W W') : EyeIs W' H X st := by
  obtain ⟨a, n, c, ok, bs, h1, h2, h3, h4, h5, h7, h6⟩ := h
  exact ⟨a, n, c, ok, bs, box_keep k h1 (block_lt h1), h2.below k, h3, h4, fun b o hb => ⟨Nat.lt_of_lt_of_le (h5 b o hb).1 k.size, (h5 b o hb).2⟩, fun x hx => Nat.lt_of_lt_of_le (h7 x hx) k.size, h6⟩
/-- A block more that is new: none of its bytes lie there. -/
theorem EyeIs.more {W W' : World} {H R : Nat} {X : List Nat} {st : Option (List Int)} (h : EyeIs W H X st) (k : Below W.heap.size W W') (hR : W.heap.size ≤ R) (hR2 : R < W'.heap.size) : EyeIs W' H (R :: X) st := by
  obtain ⟨a, n, c, ok, bs, h1, h2, h3, h4, h5, h7, h6⟩ := h
  exact ⟨a, n, c, ok, bs, box_keep k h1 (block_lt h1), h2.below k, h3, h4, fun b o hb => ⟨Nat.lt_of_lt_of_le (h5 b o hb).1 k.size, by have := h5 b o hb; simp only [List.mem_cons, not_or]; exact ⟨by omega, this.2⟩⟩, fun x hx => by rcases List.mem_cons.1 hx with rfl | hx; exact hR2; exact Nat.lt_of_lt_of_le (h7 x hx) k.size, h6⟩
theorem EyeIs.less {W : World} {H : Nat} {X Y : List Nat} {st : Option (List Int)} (h : EyeIs W H X st) (k : ∀ x ∈ Y, x ∈ X) : EyeIs W H Y st := by
  obtain ⟨a, n, c, ok, bs, h1, h2, h3, h4, h5, h7, h6⟩ := h
  exact ⟨a, n, c, ok, bs, h1, h2, h3, h4, fun b o hb => ⟨(h5 b o hb).1, fun hb' => (h5 b o hb).2 (k b hb')⟩, fun x hx => h7 x (k x hx), h6⟩
/-- A block that is none of the eye's turned. -/
theorem EyeIs.off {W W' : World} {H R : Nat} {X : List Nat} {st : Option (List Int)} (h : EyeIs W H X st) (hs : W.heap.size ≤ W'.heap.size) (k : ∀ b, b < W.heap.size → b ≠ R → W'.heap[b]? = W.heap[b]?) (hR : R ∈ X) (hn : R ≠ H) : EyeIs W' H X st := by
  obtain ⟨a, n, c, ok, bs, h1, h2, h3, h4, h5, h7, h6⟩ := h
  have hlt := block_lt h1
  refine ⟨a, n, c, ok, bs, (k H hlt (Ne.symm hn)).trans h1, ?_, h3, h4, fun b o hb => ⟨Nat.lt_of_lt_of_le (h5 b o hb).1 hs, (h5 b o hb).2⟩, fun x hx => Nat.lt_of_lt_of_le (h7 x hx) hs, h6⟩
  refine ⟨h2.1, h2.2.1, h2.2.2.1, ?_, h2.2.2.2.2⟩
  rcases h2.2.2.2.1 with h0 | ⟨b, off, ha, hc⟩
  · exact .inl h0
  · exact .inr ⟨b, off, ha, fun i u hi => (World.cell?_of_block (w := W) (a := ⟨b, off + i, none⟩) (k b (h5 b off ha).1 (fun z => (h5 b off ha).2 (z ▸ hR)))).trans (hc i u hi)⟩
/-! ### What it reads, step by step -/
theorem eyeL_snoc (st : Option (List Int)) (zs : List Int) {k : Nat} {z : Int} (hz : zs[k]? = some z) :
    eyeL st (zs.take (k + 1)) = ((eyeL st (zs.take k)).1 ++ [(eyeN (eyeL st (zs.take k)).2 z).1], (eyeN (eyeL st (zs.take k)).2 z).2) := by
  have hk := (List.getElem?_eq_some_iff.1 hz).1
  rw [List.take_succ_eq_append_getElem hk, eyeL_append]
  rw [List.getElem?_eq_getElem hk] at hz
  rw [Option.some.inj hz]
  rfl
theorem drop_at {zs : List Int} {k : Nat} {z : Int} (hz : zs[k]? = some z) : zs.drop k = z :: zs.drop (k + 1) := by
  have hk := (List.getElem?_eq_some_iff.1 hz).1
  rw [List.drop_eq_getElem_cons hk]
  rw [List.getElem?_eq_getElem hk] at hz
  rw [Option.some.inj hz]
theorem eyeN_stop {st : Option (List Int)} {z : Int} (h : (eyeN st z).2 = none) : eyeN st z = (z, none) := by
  unfold eyeN at *
  cases st with
  | none => rfl
  | some b =>
    simp only at *
    cases ht : takeP b with
    | none => rfl
    | some x => rw [ht] at h; cases h
/-- Once something is wrong, all is left. -/
theorem eyeL_stop (st : Option (List Int)) (zs : List Int) {k : Nat} {z : Int} (hz : zs[k]? = some z) (h : (eyeN (eyeL st (zs.take k)).2 z).2 = none) :
    eyeL st zs = ((eyeL st (zs.take k)).1 ++ zs.drop k, none) := by
  have e := eyeN_stop h
  have h1 : eyeL st (zs.take k ++ zs.drop k) = _ := eyeL_append st (zs.take k) (zs.drop k)
  rw [List.take_append_drop] at h1
  have h2 : eyeL (eyeL st (zs.take k)).2 (zs.drop k) = (zs.drop k, none) := by
    rw [drop_at hz]
    show ((eyeN _ z).1 :: (eyeL (eyeN _ z).2 _).1, (eyeL (eyeN _ z).2 _).2) = _
    rw [e]
    simp only [eyeL_none]
  rw [h1, h2]
end Go.Proofs.Ytnjckaifgmliaaa
