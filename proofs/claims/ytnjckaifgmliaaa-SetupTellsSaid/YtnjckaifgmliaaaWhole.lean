/- WHOLE STRUCTS: a store of many cells over a block that is known whole; groups of numbers as what was read. -/
import Derived.Test.YtnjckaifgmliaaaEyeList
import Derived.Test.YtnjckaifgmliaaaPenSetup
import Derived.Test.YtnjckaifgmliaaaPlainHand4
set_option linter.unusedSimpArgs false
set_option linter.unusedVariables false
namespace Go.Proofs.Ytnjckaifgmliaaa
open Go.RowKit Lu

theorem heap_setCells {T : TypeId} {b : Nat} : ∀ (vs : List Value) (w : World) (o : Nat) (Z : Array Value), w.heap[b]? = some (.cells Z T) → o + vs.length = Z.size →
    (w.setCells b o vs).heap[b]? = some (.cells (Z.toList.take o ++ vs).toArray T)
  | [], w, o, Z, hw, h => by
    have : Z.toList.take o = Z.toList := List.take_of_length_le (by simp at h ⊢; omega)
    show w.heap[b]? = _
    rw [this, hw]
    simp
  | v :: r, w, o, Z, hw, h => by
    have ho : o < Z.toList.length := by simp at h ⊢; omega
    show ((w.setCell ⟨b, o, none⟩ v).setCells b (o + 1) r).heap[b]? = _
    rw [heap_setCells r _ (o + 1) (Z.setIfInBounds o v) (heap_setCell hw v) (by simp at h ⊢; omega)]
    have e : (Z.setIfInBounds o v).toList.take (o + 1) = Z.toList.take o ++ [v] := by
      rw [Array.toList_setIfInBounds, List.take_set, List.take_succ_eq_append_getElem ho, List.set_append_right _ _ (by simp; omega)]
      simp
      rw [show o - min o Z.size = 0 by simp at ho; omega]
      rfl
    rw [e]
    simp
theorem off_setCells {b : Nat} : ∀ (vs : List Value) (w w0 : World) (o : Nat), Off b w0 w → Off b w0 (w.setCells b o vs)
  | [], _, _, _, h => h
  | v :: r, w, w0, o, h => off_setCells r _ w0 (o + 1) (h.setCell (p := ⟨b, o, none⟩) rfl v)
/-- A whole struct is stored over a block that is known whole. -/
theorem wpList_store_block {P : Program} {ops : Array Oper} {rest : List Oper} {op : Oper} {a : Act} {w : World} {Q : Exit → Act → World → Prop} (hgd : op.guard = none) (ty : TypeId) (x y : Operand) (ho : op.op = .store ty x y)
    (b : Nat) (Z cs : Array Value) (T : TypeId) (hb : w.heap[b]? = some (.cells Z T)) (hZ : Z.size = cs.size) (hx : a.eval x = .pointer (some ⟨b, 0, none⟩)) (hy : a.eval y = .agg cs)
    (hi : (P.info? ty).map (·.size) = some cs.size) (h1 : cs.all (·.oneCell') = true)
    (h : ∀ W, Off b w W → W.heap[b]? = some (.cells cs T) → wpList P ops Q rest (a.put op.dst undef) W) : wpList P ops Q (op :: rest) a w := by
  refine wpList_store_mid hgd ty x y ho b 0 cs hx hy ?_ hi h1 ?_
  · intro j hj
    rw [Nat.zero_add]
    have hj' : j < Z.size := by omega
    simp [World.cell?, World.frozen?, hb, hj']
  · refine h _ (off_setCells _ _ _ _ (Off.refl b w)) ?_
    rw [heap_setCells cs.toList w 0 Z hb (by simp; omega)]
    simp
/-! ### Groups -/
theorem flatMap_get {α : Type} (f : α → List Int) (K : Nat) (hf : ∀ x, (f x).length = K) : ∀ (l : List α) (i : Nat) (x : α), l[i]? = some x → ∀ j, j < K → (l.flatMap f)[i * K + j]? = (f x)[j]?
  | [], i, x, h, _, _ => by simp at h
  | y :: l, 0, x, h, j, hj => by
    simp only [List.getElem?_cons_zero, Option.some.injEq] at h
    subst h
    rw [List.flatMap_cons, List.getElem?_append_left (by rw [hf]; omega)]
    congr 1
    omega
  | y :: l, i + 1, x, h, j, hj => by
    rw [List.flatMap_cons, List.getElem?_append_right (by rw [hf, Nat.succ_mul]; omega), hf, ← flatMap_get f K hf l i x (by simpa using h) j hj]
    congr 1
    rw [Nat.succ_mul]
    omega
theorem flat2_get {l : List (Int × Int)} {i : Nat} (hi : i < l.length) : (flat2 l)[i * 2]? = some (l.getD i (0, 0)).1 ∧ (flat2 l)[i * 2 + 1]? = some (l.getD i (0, 0)).2 := by
  have h := flatMap_get (fun r : Int × Int => [r.1, r.2]) 2 (fun _ => rfl) l i _ (List.getElem?_eq_getElem hi)
  rw [List.getD_eq_getElem?_getD, List.getElem?_eq_getElem hi]
  exact ⟨h 0 (by decide), h 1 (by decide)⟩
theorem flat3_get {l : List (Int × Int × Int)} {i : Nat} (hi : i < l.length) : (flat3i l)[i * 3]? = some (l.getD i (0, 0, 0)).1 ∧ (flat3i l)[i * 3 + 1]? = some (l.getD i (0, 0, 0)).2.1 ∧ (flat3i l)[i * 3 + 2]? = some (l.getD i (0, 0, 0)).2.2 := by
  have h := flatMap_get (fun r : Int × Int × Int => [r.1, r.2.1, r.2.2]) 3 (fun _ => rfl) l i _ (List.getElem?_eq_getElem hi)
  rw [List.getD_eq_getElem?_getD, List.getElem?_eq_getElem hi]
  exact ⟨h 0 (by decide), h 1 (by decide), h 2 (by decide)⟩
theorem flat4_get {l : List (Int × Int × Int × Int)} {i : Nat} (hi : i < l.length) : (flat4 l)[i * 4]? = some (l.getD i (0, 0, 0, 0)).1 ∧ (flat4 l)[i * 4 + 1]? = some (l.getD i (0, 0, 0, 0)).2.1 ∧ (flat4 l)[i * 4 + 2]? = some (l.getD i (0, 0, 0, 0)).2.2.1 ∧ (flat4 l)[i * 4 + 3]? = some (l.getD i (0, 0, 0, 0)).2.2.2 := by
  have h := flatMap_get (fun r : Int × Int × Int × Int => [r.1, r.2.1, r.2.2.1, r.2.2.2]) 4 (fun _ => rfl) l i _ (List.getElem?_eq_getElem hi)
  rw [List.getD_eq_getElem?_getD, List.getElem?_eq_getElem hi]
  exact ⟨h 0 (by decide), h 1 (by decide), h 2 (by decide), h 3 (by decide)⟩
theorem recs_pairs {W : World} {X : List Nat} {a : Option Addr} {n : Nat} {L : List Int} (h : GrpX W X a n 2 L) (hin : ∀ z ∈ L, In z) (hn : n ≤ 64) : Ratios W a n (group2 L) := by
  obtain ⟨h1, h2⟩ := flat2_group n L h.1
  refine ⟨h2, by omega, group2_in n h.1 hin, ?_⟩
  rcases h.2.2 with h0 | ⟨b, ha, _, hl, hat⟩
  · exact .inl h0
  · refine .inr ⟨b, 0, ha, hl, fun i hi => ?_⟩
    obtain ⟨g0, g1⟩ := flat2_get (l := group2 L) (i := i) (by omega)
    rw [h1] at g0 g1
    exact ⟨hat _ _ g0, by rw [Nat.add_assoc]; exact hat _ _ g1⟩
theorem recs_ways {W : World} {X : List Nat} {a : Option Addr} {n : Nat} {L : List Int} (h : GrpX W X a n 3 L) (hin : ∀ z ∈ L, In z) (hn : n ≤ 64) : Recs3 W a n (group3 L) := by
  obtain ⟨h1, h2⟩ := flat3_group n L h.1
  refine ⟨h2, by omega, group3_in n h.1 hin, ?_⟩
  rcases h.2.2 with h0 | ⟨b, ha, _, hl, hat⟩
  · exact .inl h0
  · refine .inr ⟨b, 0, ha, hl, fun i hi => ?_⟩
    obtain ⟨g0, g1, g2⟩ := flat3_get (l := group3 L) (i := i) (by omega)
    rw [h1] at g0 g1 g2
    exact ⟨hat _ _ g0, by rw [Nat.add_assoc]; exact hat _ _ g1, by rw [Nat.add_assoc]; exact hat _ _ g2⟩
theorem recs_elements {W : World} {X : List Nat} {a : Option Addr} {n : Nat} {L : List Int} (h : GrpX W X a n 4 L) (hin : ∀ z ∈ L, In z) (hn : n ≤ 64) : Recs4 W a n (group4 L) := by
  obtain ⟨h1, h2⟩ := flat4_group n L h.1
  refine ⟨h2, by omega, group4_in n h.1 hin, ?_⟩
  rcases h.2.2 with h0 | ⟨b, ha, _, hl, hat⟩
  · exact .inl h0
  · refine .inr ⟨b, 0, ha, hl, fun i hi => ?_⟩
    obtain ⟨g0, g1, g2, g3⟩ := flat4_get (l := group4 L) (i := i) (by omega)
    rw [h1] at g0 g1 g2 g3
    exact ⟨hat _ _ g0, by rw [Nat.add_assoc]; exact hat _ _ g1, by rw [Nat.add_assoc]; exact hat _ _ g2, by rw [Nat.add_assoc]; exact hat _ _ g3⟩
theorem recs_ints {W : World} {X : List Nat} {a : Option Addr} {n : Nat} {L : List Int} (h : GrpX W X a n 1 L) (hin : ∀ z ∈ L, In z) (hn : n ≤ 64) : Ints W a n L := by
  have hl1 : L.length = n := by have := h.1; omega
  refine ⟨hl1, by omega, hin, ?_⟩
  rcases h.2.2 with h0 | ⟨b, ha, _, hl, hat⟩
  · exact .inl h0
  · refine .inr ⟨b, 0, ha, fun i hi => hat i _ ?_⟩
    rw [List.getD_eq_getElem?_getD, List.getElem?_eq_getElem (by omega)]
    rfl
/-- What the eye has read is a setup. -/
theorem setup_of_eye {W : World} {X : List Nat} {b : List Int} {q : Slices} (hb : Bytes b) (h1 : GrpX W X q.wa q.wl 3 (eye1 b).1) (h3 : GrpX W X q.ea q.el 4 (eye3 b).1) (h4 : GrpX W X q.ca q.cl 2 (eye4 b).1) (h5 : GrpX W X q.ga q.gl 2 (eye5 b).1) (h7 : GrpX W X q.ra q.rl 1 (eye7 b).1) (h9 : GrpX W X q.ta q.tl 2 (eye9 b).1)
    (m : q.wl ≤ 64 ∧ q.el ≤ 64 ∧ q.cl ≤ 64 ∧ q.gl ≤ 64 ∧ q.rl ≤ 64 ∧ q.tl ≤ 64) : SetupIs W (eyeS b).1 q := by
  obtain ⟨e0, e1, e2, e3, e4, e5, e6, e7, e8, e9⟩ := eye_in hb
  show SetupIs W (ofFlat (eye0 b).1 (eye1 b).1 (eye2 b).1 (eye3 b).1 (eye4 b).1 (eye5 b).1 (eye6 b).1 (eye7 b).1 (eye8 b).1 (eye9 b).1) q
  generalize (eye0 b).1 = l0 at *
  generalize (eye1 b).1 = l1 at *
  generalize (eye2 b).1 = l2 at *
  generalize (eye3 b).1 = l3 at *
  generalize (eye4 b).1 = l4 at *
  generalize (eye5 b).1 = l5 at *
  generalize (eye6 b).1 = l6 at *
  generalize (eye7 b).1 = l7 at *
  generalize (eye8 b).1 = l8 at *
  generalize (eye9 b).1 = l9 at *
  exact ⟨getD_in e0 0, getD_in e2 0, getD_in e2 1, getD_in e6 0, getD_in e6 1, getD_in e6 2, getD_in e6 3, getD_in e6 4, getD_in e6 5, getD_in e6 6, getD_in e6 7, getD_in e6 8, getD_in e6 9, getD_in e6 10, getD_in e8 0, getD_in e8 1, getD_in e8 2,
    recs_ways h1 e1 m.1, recs_elements h3 e3 m.2.1, recs_pairs h4 e4 m.2.2.1, recs_pairs h5 e5 m.2.2.2.1, recs_ints h7 e7 m.2.2.2.2.1, recs_pairs h9 e9 m.2.2.2.2.2⟩
end Go.Proofs.Ytnjckaifgmliaaa
