/- event.own: an event's own numbers, by its kind: a map from kinds to lists of pointers, laid in an order that is drawn. -/
import Derived.Test.YtnjckaifgmliaaaMem
import Derived.Test.YtnjckaifgmliaaaOrders
import Derived.Test.YtnjckaifgmliaaaPlainEvent
import Derived.Maps.OwnSet
set_option linter.unusedSimpArgs false
set_option linter.unusedVariables false
namespace Go.Proofs.Ytnjckaifgmliaaa
open Go.RowKit Lu

/-- How a list of pointers reads in the map: by its block and its length. -/
def ptrR : Value → Option (DataW Unit × List MemPlace)
  | .slice none 0 0 => some (.nil, [])
  | .slice (some ⟨b, 0, none⟩) l c => if c = l then some (.agg [.lit (.int .i64 b), .lit (.int .i64 l)], []) else none
  | _ => none
theorem ptrR_nil {v : Value} {ps : List MemPlace} (h : ptrR v = some (.nil, ps)) : v = .slice none 0 0 := by
  unfold ptrR at h
  split at h
  · rfl
  · split at h <;> simp at h
  · simp at h
theorem ptrR_row {v : Value} {b l : Nat} {ps : List MemPlace} (h : ptrR v = some (.agg [.lit (.int .i64 b), .lit (.int .i64 l)], ps)) : v = .slice (some ⟨b, 0, none⟩) l l := by
  unfold ptrR at h
  split at h
  · simp at h
  · split at h
    · rename_i e
      simp at h
      obtain ⟨⟨h1, h2⟩, _⟩ := h
      replace h1 := Int.ofNat.inj h1
      replace h2 := Int.ofNat.inj h2
      subst h1 h2 e
      rfl
    · simp at h
  · simp at h
theorem ptrR_mk (b l : Nat) : ptrR (.slice (some ⟨b, 0, none⟩) l l) = some (.agg [.lit (.int .i64 b), .lit (.int .i64 l)], []) := by
  show (if l = l then _ else _) = _
  rw [if_pos rfl]

def ownAct (b : Nat) (v4 v7 v26 v30 v31 : Value) : Act := { tmps := #[.pointer (some ⟨b, 0, none⟩), undef, .slice none 0 0, .bool false, v4, undef, undef, v7, .pointer (some ⟨b, 0, none⟩), .pointer (some ⟨b, 0, none⟩), .pointer (some ⟨b, 4, none⟩), .pointer (some ⟨b, 0, none⟩), .pointer (some ⟨b, 0, none⟩), .pointer (some ⟨b, 5, none⟩), .pointer (some ⟨b, 0, none⟩), .pointer (some ⟨b, 0, none⟩), .pointer (some ⟨b, 6, none⟩), .pointer (some ⟨b, 0, none⟩), .pointer (some ⟨b, 0, none⟩), .pointer (some ⟨b, 7, none⟩), .pointer (some ⟨b, 0, none⟩), .pointer (some ⟨b, 0, none⟩), .pointer (some ⟨b, 8, none⟩), .pointer (some ⟨b, 0, none⟩), .pointer (some ⟨b, 0, none⟩), .pointer (some ⟨b, 9, none⟩), v26, .pointer (some ⟨b, 0, none⟩), .pointer (some ⟨b, 0, none⟩), .pointer (some ⟨b, 10, none⟩), v30, v31, undef, undef, undef, undef, undef, undef, undef, undef, undef, undef, undef], defers := [] }
def ownL (m i1 i2 i5 i6 i7 s6 j3 s1 j4 l1 l2 : Bool) : Array Bool := #[m, i1, i2, i5, i6, i7, true, true, true, true, true, true, true, true, true, true, true, true, true, true, true, true, true, true, s6, j3, true, true, true, s1, j4, l1, l2]
def hasS (i1 i2 j3 j4 i5 i6 i7 : Bool) (k : Int) : Bool := i1 && decide (k = 1) || i2 && decide (k = 2) || j3 && decide (k = 3) || j4 && decide (k = 4) || i5 && decide (k = 5) || i6 && decide (k = 6) || i7 && decide (k = 7)
def cntS (i1 i2 j3 j4 i5 i6 i7 : Bool) : Nat := i1.toNat + i2.toNat + j3.toNat + j4.toNat + i5.toNat + i6.toNat + i7.toNat
def atS (j3 j4 : Bool) (g6 g1 : Nat) (k : Int) : DataW Unit := if k = 3 ∧ j3 = true then .agg [.lit (.int .i64 g6), .lit (.int .i64 (6 : Nat))] else if k = 4 ∧ j4 = true then .agg [.lit (.int .i64 g1), .lit (.int .i64 (1 : Nat))] else .nil
/-- What has come of the map so far. -/
structure OwnSt (w0 : World) (b : Nat) (m i1 i2 i5 i6 i7 s6 j3 s1 j4 l1 l2 : Bool) (v4 v7 v26 v30 v31 : Value) (B g6 g1 : Nat) (D : DataW Unit) (w : World) : Prop where
  bel : Below w0.heap.size w0 w
  map : m = true → v7 = .map (some B) ∧ w0.heap.size ≤ B ∧ w.ownsMap Try.prog 3 ptrR B (cntS i1 i2 j3 j4 i5 i6 i7) D
  no : m = false → i1 = false ∧ i2 = false ∧ j3 = false ∧ j4 = false ∧ i5 = false ∧ i6 = false ∧ i7 = false ∧ l1 = false ∧ l2 = false
  has : m = true → ∀ k : Int, Maps.has D (.int .i64 k) = hasS i1 i2 j3 j4 i5 i6 i7 k
  at' : m = true → ∀ k : Int, D.atKey (.int .i64 k) .nil = atS j3 j4 g6 g1 k
  b6 : s6 = true → v26 = .slice (some ⟨g6, 0, none⟩) 6 6 ∧ w0.heap.size ≤ g6 ∧ ∀ j : Nat, j < 6 → w.cell? ⟨g6, j, none⟩ = some (.pointer (some ⟨b, 4 + j, none⟩))
  b1 : s1 = true → v30 = .slice (some ⟨g1, 0, none⟩) 1 1 ∧ w0.heap.size ≤ g1 ∧ w.cell? ⟨g1, 0, none⟩ = some (.pointer (some ⟨b, 10, none⟩))
  q3 : s6 = false → j3 = false
  q4 : s1 = false → j4 = false
  q5 : l1 = false → l2 = false
  r1 : l1 = true → v31 = v7
  r2 : l2 = true → v4 = v31
theorem map_cell {w : World} {P : Program} {k : TypeId} {R : Value → Option (DataW Unit × List MemPlace)} {B n : Nat} {D : DataW Unit} (h : w.ownsMap P k R B n D) {p : Addr} {v : Value} (hc : w.cell? p = some v) : p.block ≠ B := by
  obtain ⟨es, clock, hb, _⟩ := h
  intro e
  subst e
  simp [World.cell?, hb] at hc
theorem below_map {w0 w w' : World} {B : Nat} (h : Below w0.heap.size w0 w) (hg : w.grownBy w' (some B)) (hB : w0.heap.size ≤ B) : Below w0.heap.size w0 w' :=
  h.trans ⟨hg.os, hg.tape, hg.output, hg.size, fun k hk => hg.block k (Nat.lt_of_lt_of_le hk h.size) (fun e => by have := Option.some.inj e; omega)⟩
theorem isKey (k : Int) : WideAt.IsKeyLit (.int .i64 k) := trivial
def Inv (w0 : World) (b : Nat) (L : Array Bool) (a : Act) (w : World) : Prop :=
  ∃ m i1 i2 i5 i6 i7 s6 j3 s1 j4 l1 l2 : Bool, ∃ v4 v7 v26 v30 v31 : Value, ∃ B g6 g1 : Nat, ∃ D : DataW Unit, L = ownL m i1 i2 i5 i6 i7 s6 j3 s1 j4 l1 l2 ∧ a = ownAct b v4 v7 v26 v30 v31 ∧ OwnSt w0 b m i1 i2 i5 i6 i7 s6 j3 s1 j4 l1 l2 v4 v7 v26 v30 v31 B g6 g1 D w
theorem zero_ptrs (w : World) : (zeroValue 133).run Try.prog w = .ok (.slice none 0 0) w := by kernel_rfl
theorem wf_In {x : Int} (h : In x) : (Lit.int .i64 x).wf = true := by
  unfold In at h
  have h1 : IntKind.i64.min = -9223372036854775808 := by decide
  have h2 : IntKind.i64.max = 9223372036854775807 := by decide
  simp [Lit.wf, h1, h2]
  omega
/-- What event.own leaves. -/
def OwnPost (b : Nat) (kind : Int) (w : World) (e : Ending) (w' : World) : Prop := Below w.heap.size w w' ∧
  ((kind = 3 ∧ ∃ g, w.heap.size ≤ g ∧ e = .returned (.tuple #[.slice (some ⟨g, 0, none⟩) 6 6, .bool true]) ∧ ∀ j : Nat, j < 6 → w'.cell? ⟨g, j, none⟩ = some (.pointer (some ⟨b, 4 + j, none⟩))) ∨
   (kind = 4 ∧ ∃ g, w.heap.size ≤ g ∧ e = .returned (.tuple #[.slice (some ⟨g, 0, none⟩) 1 1, .bool true]) ∧ w'.cell? ⟨g, 0, none⟩ = some (.pointer (some ⟨b, 10, none⟩))) ∨
   ((1 ≤ kind ∧ kind ≤ 7 ∧ kind ≠ 3 ∧ kind ≠ 4) ∧ e = .returned (.tuple #[.slice none 0 0, .bool true])) ∨
   (¬ (1 ≤ kind ∧ kind ≤ 7) ∧ e = .returned (.tuple #[.slice none 0 0, .bool false])))
theorem cnt_le (i1 i2 j3 j4 i5 i6 i7 : Bool) : cntS i1 i2 j3 j4 i5 i6 i7 ≤ 7 := by
  have h : ∀ x : Bool, x.toNat ≤ 1 := by decide
  have h1 := h i1; have h2 := h i2; have h3 := h j3; have h4 := h j4; have h5 := h i5; have h6 := h i6; have h7 := h i7
  unfold cntS
  omega
theorem OwnSt.made {w0 : World} {b : Nat} {i1 i2 i5 i6 i7 s6 j3 s1 j4 l1 l2 : Bool} {v4 v7 v26 v30 v31 : Value} {B g6 g1 : Nat} {D : DataW Unit} {w : World} (h : OwnSt w0 b false i1 i2 i5 i6 i7 s6 j3 s1 j4 l1 l2 v4 v7 v26 v30 v31 B g6 g1 D w) : OwnSt w0 b true i1 i2 i5 i6 i7 s6 j3 s1 j4 false false v4 (.map (some w.heap.size)) v26 v30 v31 w.heap.size g6 g1 (.map []) (w.alloc (.map #[] 0)) := by
  obtain ⟨rfl, rfl, rfl, rfl, rfl, rfl, rfl, rfl, rfl⟩ := h.no rfl
  exact ⟨h.bel.alloc h.bel.size _, fun _ => ⟨rfl, h.bel.size, World.ownsMap_made _ _ _ _⟩, (fun e => by cases e), (fun _ k => by simp [hasS, Maps.has]), (fun _ k => by simp [atS]; rfl),
    fun e => ⟨(h.b6 e).1, (h.b6 e).2.1, fun j hj => keepA _ ((h.b6 e).2.2 j hj)⟩, fun e => ⟨(h.b1 e).1, (h.b1 e).2.1, keepA _ (h.b1 e).2.2⟩, h.q3, h.q4, h.q5, (fun e => by cases e), (fun e => by cases e)⟩
theorem OwnSt.put1 {w0 : World} {b : Nat} {i2 i5 i6 i7 s6 j3 s1 j4 l1 l2 : Bool} {v4 v7 v26 v30 v31 : Value} {B g6 g1 : Nat} {D : DataW Unit} {w : World} (h : OwnSt w0 b true false i2 i5 i6 i7 s6 j3 s1 j4 l1 l2 v4 v7 v26 v30 v31 B g6 g1 D w) : ∃ w', (Instr.mapUpdate 148 (.map (some B)) (.int .i64 1) (.slice none 0 0)).run Try.prog w = .ok () w' ∧ OwnSt w0 b true true i2 i5 i6 i7 s6 j3 s1 j4 l1 l2 v4 v7 v26 v30 v31 B g6 g1 (D.put (.int .i64 1) (.nil)) w' := by
  obtain ⟨h1, h2, h3⟩ := h.map rfl
  obtain ⟨w', hrun, hown, hg⟩ := h3.update (Maps.int_keyed Try.underlying3) Try.underlying148 (by have := cnt_le false i2 j3 j4 i5 i6 i7; unfold maxLen; omega) (key := .int .i64 1) (val := .slice none 0 0) (kl := .int .i64 1) (Maps.keyOf_int_mk Try.underlying3 (by decide)) (d := .nil) (ps := []) (rfl)
  have keep : ∀ {p : Addr} {v : Value}, w.cell? p = some v → w'.cell? p = some v := fun hc => hg.cell hc (fun e => map_cell h3 hc (Option.some.inj e))
  refine ⟨w', hrun, below_map h.bel hg h2, fun _ => ⟨h1, h2, ?_⟩, (fun e => by cases e), fun _ c => ?_, fun _ c => ?_, fun e => ⟨(h.b6 e).1, (h.b6 e).2.1, fun j hj => keep ((h.b6 e).2.2 j hj)⟩, fun e => ⟨(h.b1 e).1, (h.b1 e).2.1, keep (h.b1 e).2.2⟩, h.q3, h.q4, h.q5, h.r1, h.r2⟩
  · exact hown.mono (by simp [cntS] <;> omega)
  · by_cases e : c = 1
    · subst e
      exact (Maps.has_put_same h3.isMap (isKey _) _).trans (by simp [hasS])
    · exact (Maps.has_put_other (fun y => e (by simpa using y)) _).trans ((h.has rfl c).trans (by simp [hasS, e]))
  · by_cases e : c = 1
    · subst e
      exact (Maps.atKey_put_same h3.isMap (isKey _) _ _).trans (by simp [atS])
    · exact (Maps.atKey_put_other (fun y => e (by simpa using y)) _ _).trans ((h.at' rfl c).trans (by simp [atS, e]))
theorem OwnSt.put2 {w0 : World} {b : Nat} {i1 i5 i6 i7 s6 j3 s1 j4 l1 l2 : Bool} {v4 v7 v26 v30 v31 : Value} {B g6 g1 : Nat} {D : DataW Unit} {w : World} (h : OwnSt w0 b true i1 false i5 i6 i7 s6 j3 s1 j4 l1 l2 v4 v7 v26 v30 v31 B g6 g1 D w) : ∃ w', (Instr.mapUpdate 148 (.map (some B)) (.int .i64 2) (.slice none 0 0)).run Try.prog w = .ok () w' ∧ OwnSt w0 b true i1 true i5 i6 i7 s6 j3 s1 j4 l1 l2 v4 v7 v26 v30 v31 B g6 g1 (D.put (.int .i64 2) (.nil)) w' := by
  obtain ⟨h1, h2, h3⟩ := h.map rfl
  obtain ⟨w', hrun, hown, hg⟩ := h3.update (Maps.int_keyed Try.underlying3) Try.underlying148 (by have := cnt_le i1 false j3 j4 i5 i6 i7; unfold maxLen; omega) (key := .int .i64 2) (val := .slice none 0 0) (kl := .int .i64 2) (Maps.keyOf_int_mk Try.underlying3 (by decide)) (d := .nil) (ps := []) (rfl)
  have keep : ∀ {p : Addr} {v : Value}, w.cell? p = some v → w'.cell? p = some v := fun hc => hg.cell hc (fun e => map_cell h3 hc (Option.some.inj e))
  refine ⟨w', hrun, below_map h.bel hg h2, fun _ => ⟨h1, h2, ?_⟩, (fun e => by cases e), fun _ c => ?_, fun _ c => ?_, fun e => ⟨(h.b6 e).1, (h.b6 e).2.1, fun j hj => keep ((h.b6 e).2.2 j hj)⟩, fun e => ⟨(h.b1 e).1, (h.b1 e).2.1, keep (h.b1 e).2.2⟩, h.q3, h.q4, h.q5, h.r1, h.r2⟩
  · exact hown.mono (by simp [cntS] <;> omega)
  · by_cases e : c = 2
    · subst e
      exact (Maps.has_put_same h3.isMap (isKey _) _).trans (by simp [hasS])
    · exact (Maps.has_put_other (fun y => e (by simpa using y)) _).trans ((h.has rfl c).trans (by simp [hasS, e]))
  · by_cases e : c = 2
    · subst e
      exact (Maps.atKey_put_same h3.isMap (isKey _) _ _).trans (by simp [atS])
    · exact (Maps.atKey_put_other (fun y => e (by simpa using y)) _ _).trans ((h.at' rfl c).trans (by simp [atS, e]))
theorem OwnSt.put5 {w0 : World} {b : Nat} {i1 i2 i6 i7 s6 j3 s1 j4 l1 l2 : Bool} {v4 v7 v26 v30 v31 : Value} {B g6 g1 : Nat} {D : DataW Unit} {w : World} (h : OwnSt w0 b true i1 i2 false i6 i7 s6 j3 s1 j4 l1 l2 v4 v7 v26 v30 v31 B g6 g1 D w) : ∃ w', (Instr.mapUpdate 148 (.map (some B)) (.int .i64 5) (.slice none 0 0)).run Try.prog w = .ok () w' ∧ OwnSt w0 b true i1 i2 true i6 i7 s6 j3 s1 j4 l1 l2 v4 v7 v26 v30 v31 B g6 g1 (D.put (.int .i64 5) (.nil)) w' := by
  obtain ⟨h1, h2, h3⟩ := h.map rfl
  obtain ⟨w', hrun, hown, hg⟩ := h3.update (Maps.int_keyed Try.underlying3) Try.underlying148 (by have := cnt_le i1 i2 j3 j4 false i6 i7; unfold maxLen; omega) (key := .int .i64 5) (val := .slice none 0 0) (kl := .int .i64 5) (Maps.keyOf_int_mk Try.underlying3 (by decide)) (d := .nil) (ps := []) (rfl)
  have keep : ∀ {p : Addr} {v : Value}, w.cell? p = some v → w'.cell? p = some v := fun hc => hg.cell hc (fun e => map_cell h3 hc (Option.some.inj e))
  refine ⟨w', hrun, below_map h.bel hg h2, fun _ => ⟨h1, h2, ?_⟩, (fun e => by cases e), fun _ c => ?_, fun _ c => ?_, fun e => ⟨(h.b6 e).1, (h.b6 e).2.1, fun j hj => keep ((h.b6 e).2.2 j hj)⟩, fun e => ⟨(h.b1 e).1, (h.b1 e).2.1, keep (h.b1 e).2.2⟩, h.q3, h.q4, h.q5, h.r1, h.r2⟩
  · exact hown.mono (by simp [cntS] <;> omega)
  · by_cases e : c = 5
    · subst e
      exact (Maps.has_put_same h3.isMap (isKey _) _).trans (by simp [hasS])
    · exact (Maps.has_put_other (fun y => e (by simpa using y)) _).trans ((h.has rfl c).trans (by simp [hasS, e]))
  · by_cases e : c = 5
    · subst e
      exact (Maps.atKey_put_same h3.isMap (isKey _) _ _).trans (by simp [atS])
    · exact (Maps.atKey_put_other (fun y => e (by simpa using y)) _ _).trans ((h.at' rfl c).trans (by simp [atS, e]))
theorem OwnSt.put6 {w0 : World} {b : Nat} {i1 i2 i5 i7 s6 j3 s1 j4 l1 l2 : Bool} {v4 v7 v26 v30 v31 : Value} {B g6 g1 : Nat} {D : DataW Unit} {w : World} (h : OwnSt w0 b true i1 i2 i5 false i7 s6 j3 s1 j4 l1 l2 v4 v7 v26 v30 v31 B g6 g1 D w) : ∃ w', (Instr.mapUpdate 148 (.map (some B)) (.int .i64 6) (.slice none 0 0)).run Try.prog w = .ok () w' ∧ OwnSt w0 b true i1 i2 i5 true i7 s6 j3 s1 j4 l1 l2 v4 v7 v26 v30 v31 B g6 g1 (D.put (.int .i64 6) (.nil)) w' := by
  obtain ⟨h1, h2, h3⟩ := h.map rfl
  obtain ⟨w', hrun, hown, hg⟩ := h3.update (Maps.int_keyed Try.underlying3) Try.underlying148 (by have := cnt_le i1 i2 j3 j4 i5 false i7; unfold maxLen; omega) (key := .int .i64 6) (val := .slice none 0 0) (kl := .int .i64 6) (Maps.keyOf_int_mk Try.underlying3 (by decide)) (d := .nil) (ps := []) (rfl)
  have keep : ∀ {p : Addr} {v : Value}, w.cell? p = some v → w'.cell? p = some v := fun hc => hg.cell hc (fun e => map_cell h3 hc (Option.some.inj e))
  refine ⟨w', hrun, below_map h.bel hg h2, fun _ => ⟨h1, h2, ?_⟩, (fun e => by cases e), fun _ c => ?_, fun _ c => ?_, fun e => ⟨(h.b6 e).1, (h.b6 e).2.1, fun j hj => keep ((h.b6 e).2.2 j hj)⟩, fun e => ⟨(h.b1 e).1, (h.b1 e).2.1, keep (h.b1 e).2.2⟩, h.q3, h.q4, h.q5, h.r1, h.r2⟩
  · exact hown.mono (by simp [cntS] <;> omega)
  · by_cases e : c = 6
    · subst e
      exact (Maps.has_put_same h3.isMap (isKey _) _).trans (by simp [hasS])
    · exact (Maps.has_put_other (fun y => e (by simpa using y)) _).trans ((h.has rfl c).trans (by simp [hasS, e]))
  · by_cases e : c = 6
    · subst e
      exact (Maps.atKey_put_same h3.isMap (isKey _) _ _).trans (by simp [atS])
    · exact (Maps.atKey_put_other (fun y => e (by simpa using y)) _ _).trans ((h.at' rfl c).trans (by simp [atS, e]))
theorem OwnSt.put7 {w0 : World} {b : Nat} {i1 i2 i5 i6 s6 j3 s1 j4 l1 l2 : Bool} {v4 v7 v26 v30 v31 : Value} {B g6 g1 : Nat} {D : DataW Unit} {w : World} (h : OwnSt w0 b true i1 i2 i5 i6 false s6 j3 s1 j4 l1 l2 v4 v7 v26 v30 v31 B g6 g1 D w) : ∃ w', (Instr.mapUpdate 148 (.map (some B)) (.int .i64 7) (.slice none 0 0)).run Try.prog w = .ok () w' ∧ OwnSt w0 b true i1 i2 i5 i6 true s6 j3 s1 j4 l1 l2 v4 v7 v26 v30 v31 B g6 g1 (D.put (.int .i64 7) (.nil)) w' := by
  obtain ⟨h1, h2, h3⟩ := h.map rfl
  obtain ⟨w', hrun, hown, hg⟩ := h3.update (Maps.int_keyed Try.underlying3) Try.underlying148 (by have := cnt_le i1 i2 j3 j4 i5 i6 false; unfold maxLen; omega) (key := .int .i64 7) (val := .slice none 0 0) (kl := .int .i64 7) (Maps.keyOf_int_mk Try.underlying3 (by decide)) (d := .nil) (ps := []) (rfl)
  have keep : ∀ {p : Addr} {v : Value}, w.cell? p = some v → w'.cell? p = some v := fun hc => hg.cell hc (fun e => map_cell h3 hc (Option.some.inj e))
  refine ⟨w', hrun, below_map h.bel hg h2, fun _ => ⟨h1, h2, ?_⟩, (fun e => by cases e), fun _ c => ?_, fun _ c => ?_, fun e => ⟨(h.b6 e).1, (h.b6 e).2.1, fun j hj => keep ((h.b6 e).2.2 j hj)⟩, fun e => ⟨(h.b1 e).1, (h.b1 e).2.1, keep (h.b1 e).2.2⟩, h.q3, h.q4, h.q5, h.r1, h.r2⟩
  · exact hown.mono (by simp [cntS] <;> omega)
  · by_cases e : c = 7
    · subst e
      exact (Maps.has_put_same h3.isMap (isKey _) _).trans (by simp [hasS])
    · exact (Maps.has_put_other (fun y => e (by simpa using y)) _).trans ((h.has rfl c).trans (by simp [hasS, e]))
  · by_cases e : c = 7
    · subst e
      exact (Maps.atKey_put_same h3.isMap (isKey _) _ _).trans (by simp [atS])
    · exact (Maps.atKey_put_other (fun y => e (by simpa using y)) _ _).trans ((h.at' rfl c).trans (by simp [atS, e]))
theorem OwnSt.put3 {w0 : World} {b : Nat} {i1 i2 i5 i6 i7 s1 j4 l1 l2 : Bool} {v4 v7 v26 v30 v31 : Value} {B g6 g1 : Nat} {D : DataW Unit} {w : World} (h : OwnSt w0 b true i1 i2 i5 i6 i7 true false s1 j4 l1 l2 v4 v7 v26 v30 v31 B g6 g1 D w) : ∃ w', (Instr.mapUpdate 148 (.map (some B)) (.int .i64 3) (v26)).run Try.prog w = .ok () w' ∧ OwnSt w0 b true i1 i2 i5 i6 i7 true true s1 j4 l1 l2 v4 v7 v26 v30 v31 B g6 g1 (D.put (.int .i64 3) (.agg [.lit (.int .i64 g6), .lit (.int .i64 (6 : Nat))])) w' := by
  obtain ⟨h1, h2, h3⟩ := h.map rfl
  obtain ⟨w', hrun, hown, hg⟩ := h3.update (Maps.int_keyed Try.underlying3) Try.underlying148 (by have := cnt_le i1 i2 false j4 i5 i6 i7; unfold maxLen; omega) (key := .int .i64 3) (val := v26) (kl := .int .i64 3) (Maps.keyOf_int_mk Try.underlying3 (by decide)) (d := .agg [.lit (.int .i64 g6), .lit (.int .i64 (6 : Nat))]) (ps := []) (by rw [(h.b6 rfl).1]; exact ptrR_mk _ _)
  have keep : ∀ {p : Addr} {v : Value}, w.cell? p = some v → w'.cell? p = some v := fun hc => hg.cell hc (fun e => map_cell h3 hc (Option.some.inj e))
  refine ⟨w', hrun, below_map h.bel hg h2, fun _ => ⟨h1, h2, ?_⟩, (fun e => by cases e), fun _ c => ?_, fun _ c => ?_, fun e => ⟨(h.b6 e).1, (h.b6 e).2.1, fun j hj => keep ((h.b6 e).2.2 j hj)⟩, fun e => ⟨(h.b1 e).1, (h.b1 e).2.1, keep (h.b1 e).2.2⟩, (fun e => by cases e), h.q4, h.q5, h.r1, h.r2⟩
  · exact hown.mono (by simp [cntS] <;> omega)
  · by_cases e : c = 3
    · subst e
      exact (Maps.has_put_same h3.isMap (isKey _) _).trans (by simp [hasS])
    · exact (Maps.has_put_other (fun y => e (by simpa using y)) _).trans ((h.has rfl c).trans (by simp [hasS, e]))
  · by_cases e : c = 3
    · subst e
      exact (Maps.atKey_put_same h3.isMap (isKey _) _ _).trans (by simp [atS])
    · exact (Maps.atKey_put_other (fun y => e (by simpa using y)) _ _).trans ((h.at' rfl c).trans (by simp [atS, e]))
theorem OwnSt.put4 {w0 : World} {b : Nat} {i1 i2 i5 i6 i7 s6 j3 l1 l2 : Bool} {v4 v7 v26 v30 v31 : Value} {B g6 g1 : Nat} {D : DataW Unit} {w : World} (h : OwnSt w0 b true i1 i2 i5 i6 i7 s6 j3 true false l1 l2 v4 v7 v26 v30 v31 B g6 g1 D w) : ∃ w', (Instr.mapUpdate 148 (.map (some B)) (.int .i64 4) (v30)).run Try.prog w = .ok () w' ∧ OwnSt w0 b true i1 i2 i5 i6 i7 s6 j3 true true l1 l2 v4 v7 v26 v30 v31 B g6 g1 (D.put (.int .i64 4) (.agg [.lit (.int .i64 g1), .lit (.int .i64 (1 : Nat))])) w' := by
  obtain ⟨h1, h2, h3⟩ := h.map rfl
  obtain ⟨w', hrun, hown, hg⟩ := h3.update (Maps.int_keyed Try.underlying3) Try.underlying148 (by have := cnt_le i1 i2 j3 false i5 i6 i7; unfold maxLen; omega) (key := .int .i64 4) (val := v30) (kl := .int .i64 4) (Maps.keyOf_int_mk Try.underlying3 (by decide)) (d := .agg [.lit (.int .i64 g1), .lit (.int .i64 (1 : Nat))]) (ps := []) (by rw [(h.b1 rfl).1]; exact ptrR_mk _ _)
  have keep : ∀ {p : Addr} {v : Value}, w.cell? p = some v → w'.cell? p = some v := fun hc => hg.cell hc (fun e => map_cell h3 hc (Option.some.inj e))
  refine ⟨w', hrun, below_map h.bel hg h2, fun _ => ⟨h1, h2, ?_⟩, (fun e => by cases e), fun _ c => ?_, fun _ c => ?_, fun e => ⟨(h.b6 e).1, (h.b6 e).2.1, fun j hj => keep ((h.b6 e).2.2 j hj)⟩, fun e => ⟨(h.b1 e).1, (h.b1 e).2.1, keep (h.b1 e).2.2⟩, h.q3, (fun e => by cases e), h.q5, h.r1, h.r2⟩
  · exact hown.mono (by simp [cntS] <;> omega)
  · by_cases e : c = 4
    · subst e
      exact (Maps.has_put_same h3.isMap (isKey _) _).trans (by simp [hasS])
    · exact (Maps.has_put_other (fun y => e (by simpa using y)) _).trans ((h.has rfl c).trans (by simp [hasS, e]))
  · by_cases e : c = 4
    · subst e
      exact (Maps.atKey_put_same h3.isMap (isKey _) _ _).trans (by simp [atS])
    · exact (Maps.atKey_put_other (fun y => e (by simpa using y)) _ _).trans ((h.at' rfl c).trans (by simp [atS, e]))
theorem OwnSt.row6 {w0 : World} {b : Nat} {m i1 i2 i5 i6 i7 j3 s1 j4 l1 l2 : Bool} {v4 v7 v26 v30 v31 : Value} {B g6 g1 : Nat} {D : DataW Unit} {w : World} (h : OwnSt w0 b m i1 i2 i5 i6 i7 false j3 s1 j4 l1 l2 v4 v7 v26 v30 v31 B g6 g1 D w) : OwnSt w0 b m i1 i2 i5 i6 i7 true j3 s1 j4 l1 l2 v4 v7 (.slice (some ⟨w.heap.size, 0, none⟩) 6 6) v30 v31 B w.heap.size g1 D (w.alloc (.cells #[.pointer (some ⟨b, 4, none⟩), .pointer (some ⟨b, 5, none⟩), .pointer (some ⟨b, 6, none⟩), .pointer (some ⟨b, 7, none⟩), .pointer (some ⟨b, 8, none⟩), .pointer (some ⟨b, 9, none⟩)] 97)) := by
  obtain rfl := h.q3 rfl
  refine ⟨h.bel.alloc h.bel.size _, fun e => ⟨(h.map e).1, (h.map e).2.1, (h.map e).2.2.alloc _⟩, h.no, h.has, fun e k => (h.at' e k).trans (by simp [atS]), fun _ => ⟨rfl, h.bel.size, fun j hj => ?_⟩, fun e => ⟨(h.b1 e).1, (h.b1 e).2.1, keepA _ (h.b1 e).2.2⟩, (fun e => by cases e), h.q4, h.q5, h.r1, h.r2⟩
  rcases (show j = 0 ∨ j = 1 ∨ j = 2 ∨ j = 3 ∨ j = 4 ∨ j = 5 by omega) with rfl | rfl | rfl | rfl | rfl | rfl <;> simp [go_sem]
theorem OwnSt.row1 {w0 : World} {b : Nat} {m i1 i2 i5 i6 i7 s6 j3 j4 l1 l2 : Bool} {v4 v7 v26 v30 v31 : Value} {B g6 g1 : Nat} {D : DataW Unit} {w : World} (h : OwnSt w0 b m i1 i2 i5 i6 i7 s6 j3 false j4 l1 l2 v4 v7 v26 v30 v31 B g6 g1 D w) : OwnSt w0 b m i1 i2 i5 i6 i7 s6 j3 true j4 l1 l2 v4 v7 v26 (.slice (some ⟨w.heap.size, 0, none⟩) 1 1) v31 B g6 w.heap.size D (w.alloc (.cells #[.pointer (some ⟨b, 10, none⟩)] 97)) := by
  obtain rfl := h.q4 rfl
  refine ⟨h.bel.alloc h.bel.size _, fun e => ⟨(h.map e).1, (h.map e).2.1, (h.map e).2.2.alloc _⟩, h.no, h.has, fun e k => (h.at' e k).trans (by simp [atS]), fun e => ⟨(h.b6 e).1, (h.b6 e).2.1, fun j hj => keepA _ ((h.b6 e).2.2 j hj)⟩, fun _ => ⟨rfl, h.bel.size, by simp [go_sem]⟩, h.q3, (fun e => by cases e), h.q5, h.r1, h.r2⟩
theorem OwnSt.end1 {w0 : World} {b : Nat} {i1 i2 i5 i6 i7 s6 j3 s1 j4 l2 : Bool} {v4 v7 v26 v30 v31 : Value} {B g6 g1 : Nat} {D : DataW Unit} {w : World} (h : OwnSt w0 b true i1 i2 i5 i6 i7 s6 j3 s1 j4 false l2 v4 v7 v26 v30 v31 B g6 g1 D w) : OwnSt w0 b true i1 i2 i5 i6 i7 s6 j3 s1 j4 true l2 v4 v7 v26 v30 v7 B g6 g1 D w := by
  obtain rfl := h.q5 rfl
  exact ⟨h.bel, h.map, (fun e => by cases e), h.has, h.at', h.b6, h.b1, h.q3, h.q4, (fun e => by cases e), (fun _ => rfl), (fun e => by cases e)⟩
theorem OwnSt.end2 {w0 : World} {b : Nat} {i1 i2 i5 i6 i7 s6 j3 s1 j4 : Bool} {v4 v7 v26 v30 v31 : Value} {B g6 g1 : Nat} {D : DataW Unit} {w : World} (h : OwnSt w0 b true i1 i2 i5 i6 i7 s6 j3 s1 j4 true false v4 v7 v26 v30 v31 B g6 g1 D w) : OwnSt w0 b true i1 i2 i5 i6 i7 s6 j3 s1 j4 true true v31 v7 v26 v30 v31 B g6 g1 D w := 
  ⟨h.bel, h.map, (fun e => by cases e), h.has, h.at', h.b6, h.b1, h.q3, h.q4, (fun e => by cases e), h.r1, (fun _ => rfl)⟩
theorem ownPost_of {b : Nat} {kind : Int} {w V : World} {ok : Bool} {v v4 v7 v26 v30 v31 : Value} {ps : List MemPlace} {B g6 g1 : Nat} {D : DataW Unit} (hok : hasS true true true true true true true kind = ok) (hv : ptrR v = some (atS true true g6 g1 kind, ps))
    (h : OwnSt w b true true true true true true true true true true true true v4 v7 v26 v30 v31 B g6 g1 D V) : OwnPost b kind w (.returned (.tuple #[v, .bool ok])) V := by
  refine ⟨h.bel, ?_⟩
  by_cases e3 : kind = 3
  · subst e3
    left
    have := ptrR_row (hv : ptrR v = some (.agg [.lit (.int .i64 g6), .lit (.int .i64 (6 : Nat))], ps))
    subst this hok
    exact ⟨rfl, g6, (h.b6 rfl).2.1, rfl, (h.b6 rfl).2.2⟩
  · by_cases e4 : kind = 4
    · subst e4
      right; left
      have := ptrR_row (hv : ptrR v = some (.agg [.lit (.int .i64 g1), .lit (.int .i64 (1 : Nat))], ps))
      subst this hok
      exact ⟨rfl, g1, (h.b1 rfl).2.1, rfl, (h.b1 rfl).2.2⟩
    · have := ptrR_nil (v := v) (ps := ps) (by rw [hv]; simp [atS, e3, e4])
      subst this
      right; right
      by_cases e : 1 ≤ kind ∧ kind ≤ 7
      · left
        have : ok = true := by
          rw [← hok]
          rcases (show kind = 1 ∨ kind = 2 ∨ kind = 5 ∨ kind = 6 ∨ kind = 7 by omega) with rfl | rfl | rfl | rfl | rfl <;> rfl
        subst this
        exact ⟨⟨e.1, e.2, e3, e4⟩, rfl⟩
      · right
        have : ok = false := by
          rw [← hok]
          unfold hasS
          simp
          omega
        subst this
        exact ⟨e, rfl⟩
set_option maxRecDepth 100000 in
set_option maxHeartbeats 1000000 in
theorem event_own (b : Nat) (kind : Int) (w : World) (hk : In kind) (hc : w.cell? ⟨b, 3, none⟩ = some (.int .i64 kind)) :
    Calls Try.prog 101 #[.pointer (some ⟨b, 0, none⟩)] w (OwnPost b kind w) := by
  go_enter Try.func101, Try.ntmps101
  go_wp2_with fail
  refine wp_region_held_drew (S := fun _ => True) (by kernel_rfl) trivial (fun hHeld => ?_)
  refine wpAnyH_take (i := 6) (oi := ⟨some 8, _, _, _, _, none⟩) (v := ?_) rfl (by kernel_rfl) (by kernel_rfl) (by kernel_rfl) (fun _ _ _ h => h) (Or.inl ⟨by rfl, ?_⟩) trivial ?_
  rotate_left
  · intro wz hSw; (try dsimp only at hSw); go_simp; (try with_reducible rfl)
  try simp only [Act.put, List.setIfInBounds_toArray, List.set_cons_zero, List.set_cons_succ]
  refine wpAnyH_take (i := 7) (oi := ⟨some 9, _, _, _, _, none⟩) (v := ?_) rfl (by kernel_rfl) (by kernel_rfl) (by kernel_rfl) (fun _ _ _ h => h) (Or.inl ⟨by rfl, ?_⟩) trivial ?_
  rotate_left
  · intro wz hSw; (try dsimp only at hSw); go_simp; (try with_reducible rfl)
  try simp only [Act.put, List.setIfInBounds_toArray, List.set_cons_zero, List.set_cons_succ]
  refine wpAnyH_take (i := 8) (oi := ⟨some 10, _, _, _, _, none⟩) (v := ?_) rfl (by kernel_rfl) (by kernel_rfl) (by kernel_rfl) (fun _ _ _ h => h) (Or.inl ⟨by rfl, ?_⟩) trivial ?_
  rotate_left
  · intro wz hSw; (try dsimp only at hSw); go_simp; (try with_reducible rfl)
  try simp only [Act.put, List.setIfInBounds_toArray, List.set_cons_zero, List.set_cons_succ]
  refine wpAnyH_take (i := 9) (oi := ⟨some 11, _, _, _, _, none⟩) (v := ?_) rfl (by kernel_rfl) (by kernel_rfl) (by kernel_rfl) (fun _ _ _ h => h) (Or.inl ⟨by rfl, ?_⟩) trivial ?_
  rotate_left
  · intro wz hSw; (try dsimp only at hSw); go_simp; (try with_reducible rfl)
  try simp only [Act.put, List.setIfInBounds_toArray, List.set_cons_zero, List.set_cons_succ]
  refine wpAnyH_take (i := 10) (oi := ⟨some 12, _, _, _, _, none⟩) (v := ?_) rfl (by kernel_rfl) (by kernel_rfl) (by kernel_rfl) (fun _ _ _ h => h) (Or.inl ⟨by rfl, ?_⟩) trivial ?_
  rotate_left
  · intro wz hSw; (try dsimp only at hSw); go_simp; (try with_reducible rfl)
  try simp only [Act.put, List.setIfInBounds_toArray, List.set_cons_zero, List.set_cons_succ]
  refine wpAnyH_take (i := 11) (oi := ⟨some 13, _, _, _, _, none⟩) (v := ?_) rfl (by kernel_rfl) (by kernel_rfl) (by kernel_rfl) (fun _ _ _ h => h) (Or.inl ⟨by rfl, ?_⟩) trivial ?_
  rotate_left
  · intro wz hSw; (try dsimp only at hSw); go_simp; (try with_reducible rfl)
  try simp only [Act.put, List.setIfInBounds_toArray, List.set_cons_zero, List.set_cons_succ]
  refine wpAnyH_take (i := 12) (oi := ⟨some 14, _, _, _, _, none⟩) (v := ?_) rfl (by kernel_rfl) (by kernel_rfl) (by kernel_rfl) (fun _ _ _ h => h) (Or.inl ⟨by rfl, ?_⟩) trivial ?_
  rotate_left
  · intro wz hSw; (try dsimp only at hSw); go_simp; (try with_reducible rfl)
  try simp only [Act.put, List.setIfInBounds_toArray, List.set_cons_zero, List.set_cons_succ]
  refine wpAnyH_take (i := 13) (oi := ⟨some 15, _, _, _, _, none⟩) (v := ?_) rfl (by kernel_rfl) (by kernel_rfl) (by kernel_rfl) (fun _ _ _ h => h) (Or.inl ⟨by rfl, ?_⟩) trivial ?_
  rotate_left
  · intro wz hSw; (try dsimp only at hSw); go_simp; (try with_reducible rfl)
  try simp only [Act.put, List.setIfInBounds_toArray, List.set_cons_zero, List.set_cons_succ]
  refine wpAnyH_take (i := 14) (oi := ⟨some 16, _, _, _, _, none⟩) (v := ?_) rfl (by kernel_rfl) (by kernel_rfl) (by kernel_rfl) (fun _ _ _ h => h) (Or.inl ⟨by rfl, ?_⟩) trivial ?_
  rotate_left
  · intro wz hSw; (try dsimp only at hSw); go_simp; (try with_reducible rfl)
  try simp only [Act.put, List.setIfInBounds_toArray, List.set_cons_zero, List.set_cons_succ]
  refine wpAnyH_take (i := 15) (oi := ⟨some 17, _, _, _, _, none⟩) (v := ?_) rfl (by kernel_rfl) (by kernel_rfl) (by kernel_rfl) (fun _ _ _ h => h) (Or.inl ⟨by rfl, ?_⟩) trivial ?_
  rotate_left
  · intro wz hSw; (try dsimp only at hSw); go_simp; (try with_reducible rfl)
  try simp only [Act.put, List.setIfInBounds_toArray, List.set_cons_zero, List.set_cons_succ]
  refine wpAnyH_take (i := 16) (oi := ⟨some 18, _, _, _, _, none⟩) (v := ?_) rfl (by kernel_rfl) (by kernel_rfl) (by kernel_rfl) (fun _ _ _ h => h) (Or.inl ⟨by rfl, ?_⟩) trivial ?_
  rotate_left
  · intro wz hSw; (try dsimp only at hSw); go_simp; (try with_reducible rfl)
  try simp only [Act.put, List.setIfInBounds_toArray, List.set_cons_zero, List.set_cons_succ]
  refine wpAnyH_take (i := 17) (oi := ⟨some 19, _, _, _, _, none⟩) (v := ?_) rfl (by kernel_rfl) (by kernel_rfl) (by kernel_rfl) (fun _ _ _ h => h) (Or.inl ⟨by rfl, ?_⟩) trivial ?_
  rotate_left
  · intro wz hSw; (try dsimp only at hSw); go_simp; (try with_reducible rfl)
  try simp only [Act.put, List.setIfInBounds_toArray, List.set_cons_zero, List.set_cons_succ]
  refine wpAnyH_take (i := 18) (oi := ⟨some 20, _, _, _, _, none⟩) (v := ?_) rfl (by kernel_rfl) (by kernel_rfl) (by kernel_rfl) (fun _ _ _ h => h) (Or.inl ⟨by rfl, ?_⟩) trivial ?_
  rotate_left
  · intro wz hSw; (try dsimp only at hSw); go_simp; (try with_reducible rfl)
  try simp only [Act.put, List.setIfInBounds_toArray, List.set_cons_zero, List.set_cons_succ]
  refine wpAnyH_take (i := 19) (oi := ⟨some 21, _, _, _, _, none⟩) (v := ?_) rfl (by kernel_rfl) (by kernel_rfl) (by kernel_rfl) (fun _ _ _ h => h) (Or.inl ⟨by rfl, ?_⟩) trivial ?_
  rotate_left
  · intro wz hSw; (try dsimp only at hSw); go_simp; (try with_reducible rfl)
  try simp only [Act.put, List.setIfInBounds_toArray, List.set_cons_zero, List.set_cons_succ]
  refine wpAnyH_take (i := 20) (oi := ⟨some 22, _, _, _, _, none⟩) (v := ?_) rfl (by kernel_rfl) (by kernel_rfl) (by kernel_rfl) (fun _ _ _ h => h) (Or.inl ⟨by rfl, ?_⟩) trivial ?_
  rotate_left
  · intro wz hSw; (try dsimp only at hSw); go_simp; (try with_reducible rfl)
  try simp only [Act.put, List.setIfInBounds_toArray, List.set_cons_zero, List.set_cons_succ]
  refine wpAnyH_take (i := 21) (oi := ⟨some 23, _, _, _, _, none⟩) (v := ?_) rfl (by kernel_rfl) (by kernel_rfl) (by kernel_rfl) (fun _ _ _ h => h) (Or.inl ⟨by rfl, ?_⟩) trivial ?_
  rotate_left
  · intro wz hSw; (try dsimp only at hSw); go_simp; (try with_reducible rfl)
  try simp only [Act.put, List.setIfInBounds_toArray, List.set_cons_zero, List.set_cons_succ]
  refine wpAnyH_take (i := 22) (oi := ⟨some 24, _, _, _, _, none⟩) (v := ?_) rfl (by kernel_rfl) (by kernel_rfl) (by kernel_rfl) (fun _ _ _ h => h) (Or.inl ⟨by rfl, ?_⟩) trivial ?_
  rotate_left
  · intro wz hSw; (try dsimp only at hSw); go_simp; (try with_reducible rfl)
  try simp only [Act.put, List.setIfInBounds_toArray, List.set_cons_zero, List.set_cons_succ]
  refine wpAnyH_take (i := 23) (oi := ⟨some 25, _, _, _, _, none⟩) (v := ?_) rfl (by kernel_rfl) (by kernel_rfl) (by kernel_rfl) (fun _ _ _ h => h) (Or.inl ⟨by rfl, ?_⟩) trivial ?_
  rotate_left
  · intro wz hSw; (try dsimp only at hSw); go_simp; (try with_reducible rfl)
  try simp only [Act.put, List.setIfInBounds_toArray, List.set_cons_zero, List.set_cons_succ]
  refine wpAnyH_take (i := 26) (oi := ⟨some 27, _, _, _, _, none⟩) (v := ?_) rfl (by kernel_rfl) (by kernel_rfl) (by kernel_rfl) (fun _ _ _ h => h) (Or.inl ⟨by rfl, ?_⟩) trivial ?_
  rotate_left
  · intro wz hSw; (try dsimp only at hSw); go_simp; (try with_reducible rfl)
  try simp only [Act.put, List.setIfInBounds_toArray, List.set_cons_zero, List.set_cons_succ]
  refine wpAnyH_take (i := 27) (oi := ⟨some 28, _, _, _, _, none⟩) (v := ?_) rfl (by kernel_rfl) (by kernel_rfl) (by kernel_rfl) (fun _ _ _ h => h) (Or.inl ⟨by rfl, ?_⟩) trivial ?_
  rotate_left
  · intro wz hSw; (try dsimp only at hSw); go_simp; (try with_reducible rfl)
  try simp only [Act.put, List.setIfInBounds_toArray, List.set_cons_zero, List.set_cons_succ]
  refine wpAnyH_take (i := 28) (oi := ⟨some 29, _, _, _, _, none⟩) (v := ?_) rfl (by kernel_rfl) (by kernel_rfl) (by kernel_rfl) (fun _ _ _ h => h) (Or.inl ⟨by rfl, ?_⟩) trivial ?_
  rotate_left
  · intro wz hSw; (try dsimp only at hSw); go_simp; (try with_reducible rfl)
  try simp only [Act.put, List.setIfInBounds_toArray, List.set_cons_zero, List.set_cons_succ]
  refine wpAnyH_inv (Inv w b) (fun _ _ _ _ => trivial) (by kernel_rfl) ?_ ?_ _ _ _ _ (by kernel_rfl) (by decide +kernel) ?_
  · rintro L a V ⟨m, i1, i2, i5, i6, i7, s6, j3, s1, j4, l1, l2, v4, v7, v26, v30, v31, B, g6, g1, D, rfl, rfl, h⟩ hall
    obtain rfl : m = true := hall 0 (by decide)
    obtain rfl : i1 = true := hall 1 (by decide)
    obtain rfl : i2 = true := hall 2 (by decide)
    obtain rfl : i5 = true := hall 3 (by decide)
    obtain rfl : i6 = true := hall 4 (by decide)
    obtain rfl : i7 = true := hall 5 (by decide)
    obtain rfl : s6 = true := hall 24 (by decide)
    obtain rfl : j3 = true := hall 25 (by decide)
    obtain rfl : s1 = true := hall 29 (by decide)
    obtain rfl : j4 = true := hall 30 (by decide)
    obtain rfl : l1 = true := hall 31 (by decide)
    obtain rfl : l2 = true := hall 32 (by decide)
    obtain ⟨e7, hB, hm⟩ := h.map rfl
    have e31 := h.r1 rfl
    have e4 := h.r2 rfl
    subst e7 e31 e4
    have hcV := keepC h.bel hc (World.block_lt_of_cell? w _ hc)
    obtain ⟨v, ps, hrun, hv⟩ := hm.look_ok (Maps.int_keyed Try.underlying3) Try.underlying148 (z := .slice none 0 0) (zd := .nil) (zp := []) (zero_ptrs V) rfl (key := .int .i64 kind) (kl := .int .i64 kind) (Maps.keyOf_int_mk Try.underlying3 (wf_In hk))
    rw [h.has rfl kind] at hrun
    rw [h.at' rfl kind] at hv
    obtain ⟨ok, hok⟩ : ∃ ok, hasS true true true true true true true kind = ok := ⟨_, rfl⟩
    rw [hok] at hrun
    have HOK := Lib.hid hok
    have HV := Lib.hid hv
    have H := Lib.hid h
    have HM := Lib.hid hm
    clear hok hv h hm hall hHeld hc
    unfold ownAct
    go_wp2_with fail
    go_ret2
    exact ownPost_of HOK.out HV.out H.out
  · rintro L a V i ⟨m, i1, i2, i5, i6, i7, s6, j3, s1, j4, l1, l2, v4, v7, v26, v30, v31, B, g6, g1, D, rfl, rfl, h⟩ o hun ho hall K' hK
    have hi : i < 33 := (Array.getElem?_eq_some_iff.1 ho).1
    rcases (show i = 0 ∨ i = 1 ∨ i = 2 ∨ i = 3 ∨ i = 4 ∨ i = 5 ∨ i = 6 ∨ i = 7 ∨ i = 8 ∨ i = 9 ∨ i = 10 ∨ i = 11 ∨ i = 12 ∨ i = 13 ∨ i = 14 ∨ i = 15 ∨ i = 16 ∨ i = 17 ∨ i = 18 ∨ i = 19 ∨ i = 20 ∨ i = 21 ∨ i = 22 ∨ i = 23 ∨ i = 24 ∨ i = 25 ∨ i = 26 ∨ i = 27 ∨ i = 28 ∨ i = 29 ∨ i = 30 ∨ i = 31 ∨ i = 32 by omega) with rfl | rfl | rfl | rfl | rfl | rfl | rfl | rfl | rfl | rfl | rfl | rfl | rfl | rfl | rfl | rfl | rfl | rfl | rfl | rfl | rfl | rfl | rfl | rfl | rfl | rfl | rfl | rfl | rfl | rfl | rfl | rfl | rfl
    · obtain rfl : m = false := hun
      obtain rfl := Option.some.inj ho
      clear hall hi hHeld
      unfold ownAct
      obtain ⟨rfl, rfl, rfl, rfl, rfl, rfl, rfl, rfl, rfl⟩ := h.no rfl
      go_simp
      exact hK.out _ _ ⟨_, _, _, _, _, _, _, _, _, _, _, _, _, _, _, _, _, _, _, _, _, by kernel_rfl, by simp [ownAct, Act.put], h.made⟩
    · obtain rfl : i1 = false := hun
      obtain rfl := Option.some.inj ho
      obtain rfl : m = true := hall ⟨0, .data⟩ (by simp) rfl
      clear hall hi hHeld
      unfold ownAct
      obtain ⟨w', hrun, h'⟩ := h.put1
      have e7 := (h.map rfl).1
      subst e7
      go_simp
      exact hK.out _ _ ⟨_, _, _, _, _, _, _, _, _, _, _, _, _, _, _, _, _, _, _, _, _, by kernel_rfl, by simp [ownAct, Act.put], h'⟩
    · obtain rfl : i2 = false := hun
      obtain rfl := Option.some.inj ho
      obtain rfl : m = true := hall ⟨0, .data⟩ (by simp) rfl
      clear hall hi hHeld
      unfold ownAct
      obtain ⟨w', hrun, h'⟩ := h.put2
      have e7 := (h.map rfl).1
      subst e7
      go_simp
      exact hK.out _ _ ⟨_, _, _, _, _, _, _, _, _, _, _, _, _, _, _, _, _, _, _, _, _, by kernel_rfl, by simp [ownAct, Act.put], h'⟩
    · obtain rfl : i5 = false := hun
      obtain rfl := Option.some.inj ho
      obtain rfl : m = true := hall ⟨0, .data⟩ (by simp) rfl
      clear hall hi hHeld
      unfold ownAct
      obtain ⟨w', hrun, h'⟩ := h.put5
      have e7 := (h.map rfl).1
      subst e7
      go_simp
      exact hK.out _ _ ⟨_, _, _, _, _, _, _, _, _, _, _, _, _, _, _, _, _, _, _, _, _, by kernel_rfl, by simp [ownAct, Act.put], h'⟩
    · obtain rfl : i6 = false := hun
      obtain rfl := Option.some.inj ho
      obtain rfl : m = true := hall ⟨0, .data⟩ (by simp) rfl
      clear hall hi hHeld
      unfold ownAct
      obtain ⟨w', hrun, h'⟩ := h.put6
      have e7 := (h.map rfl).1
      subst e7
      go_simp
      exact hK.out _ _ ⟨_, _, _, _, _, _, _, _, _, _, _, _, _, _, _, _, _, _, _, _, _, by kernel_rfl, by simp [ownAct, Act.put], h'⟩
    · obtain rfl : i7 = false := hun
      obtain rfl := Option.some.inj ho
      obtain rfl : m = true := hall ⟨0, .data⟩ (by simp) rfl
      clear hall hi hHeld
      unfold ownAct
      obtain ⟨w', hrun, h'⟩ := h.put7
      have e7 := (h.map rfl).1
      subst e7
      go_simp
      exact hK.out _ _ ⟨_, _, _, _, _, _, _, _, _, _, _, _, _, _, _, _, _, _, _, _, _, by kernel_rfl, by simp [ownAct, Act.put], h'⟩
    · cases hun
    · cases hun
    · cases hun
    · cases hun
    · cases hun
    · cases hun
    · cases hun
    · cases hun
    · cases hun
    · cases hun
    · cases hun
    · cases hun
    · cases hun
    · cases hun
    · cases hun
    · cases hun
    · cases hun
    · cases hun
    · obtain rfl : s6 = false := hun
      obtain rfl := Option.some.inj ho
      clear hall hi hHeld
      unfold ownAct
      obtain rfl := h.q3 rfl
      go_simp
      exact hK.out _ _ ⟨_, _, _, _, _, _, _, _, _, _, _, _, _, _, _, _, _, _, _, _, _, by kernel_rfl, by simp [ownAct, Act.put], h.row6⟩
    · obtain rfl : j3 = false := hun
      obtain rfl := Option.some.inj ho
      obtain rfl : m = true := hall ⟨0, .data⟩ (by simp) rfl
      obtain rfl : s6 = true := hall ⟨24, .data⟩ (by simp) rfl
      clear hall hi hHeld
      unfold ownAct
      obtain ⟨w', hrun, h'⟩ := h.put3
      have e7 := (h.map rfl).1
      subst e7
      have e8 := (h.b6 rfl).1
      rw [e8] at hrun
      subst e8
      go_simp
      exact hK.out _ _ ⟨_, _, _, _, _, _, _, _, _, _, _, _, _, _, _, _, _, _, _, _, _, by kernel_rfl, by simp [ownAct, Act.put], h'⟩
    · cases hun
    · cases hun
    · cases hun
    · obtain rfl : s1 = false := hun
      obtain rfl := Option.some.inj ho
      clear hall hi hHeld
      unfold ownAct
      obtain rfl := h.q4 rfl
      go_simp
      exact hK.out _ _ ⟨_, _, _, _, _, _, _, _, _, _, _, _, _, _, _, _, _, _, _, _, _, by kernel_rfl, by simp [ownAct, Act.put], h.row1⟩
    · obtain rfl : j4 = false := hun
      obtain rfl := Option.some.inj ho
      obtain rfl : m = true := hall ⟨0, .data⟩ (by simp) rfl
      obtain rfl : s1 = true := hall ⟨29, .data⟩ (by simp) rfl
      clear hall hi hHeld
      unfold ownAct
      obtain ⟨w', hrun, h'⟩ := h.put4
      have e7 := (h.map rfl).1
      subst e7
      have e8 := (h.b1 rfl).1
      rw [e8] at hrun
      subst e8
      go_simp
      exact hK.out _ _ ⟨_, _, _, _, _, _, _, _, _, _, _, _, _, _, _, _, _, _, _, _, _, by kernel_rfl, by simp [ownAct, Act.put], h'⟩
    · obtain rfl : l1 = false := hun
      obtain rfl := Option.some.inj ho
      obtain rfl : m = true := hall ⟨0, .data⟩ (by simp) rfl
      clear hall hi hHeld
      unfold ownAct
      obtain rfl := h.q5 rfl
      go_simp
      exact hK.out _ _ ⟨_, _, _, _, _, _, _, _, _, _, _, _, _, _, _, _, _, _, _, _, _, by kernel_rfl, by simp [ownAct, Act.put], h.end1⟩
    · obtain rfl : l2 = false := hun
      obtain rfl := Option.some.inj ho
      obtain rfl : l1 = true := hall ⟨31, .data⟩ (by simp) rfl
      clear hall hi hHeld
      unfold ownAct
      obtain rfl : m = true := by cases m; (exact absurd (h.no rfl).2.2.2.2.2.2.2.1 (by decide)); rfl
      go_simp
      exact hK.out _ _ ⟨_, _, _, _, _, _, _, _, _, _, _, _, _, _, _, _, _, _, _, _, _, by kernel_rfl, by simp [ownAct, Act.put], h.end2⟩
  · exact ⟨false, false, false, false, false, false, false, false, false, false, false, false, undef, undef, undef, undef, undef, 0, 0, 0, .nil, by kernel_rfl, by simp [ownAct], (Below.refl _ _).drew, (fun e => by cases e), (fun _ => by simp), (fun e => by cases e), (fun e => by cases e), (fun e => by cases e), (fun e => by cases e), (fun _ => rfl), (fun _ => rfl), (fun _ => rfl), (fun e => by cases e), (fun e => by cases e)⟩
end Go.Proofs.Ytnjckaifgmliaaa
