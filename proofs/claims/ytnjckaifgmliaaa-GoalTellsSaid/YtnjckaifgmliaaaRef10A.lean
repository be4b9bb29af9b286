/- lumperref10.Of: how long a task is to take, the reference's answer. -/
import Derived.Test.YtnjckaifgmliaaaGoalBase
import Derived.Test.YtnjckaifgmliaaaEventRef
import Derived.Test.YtnjckaifgmliaaaRef09C
import Derived.Test.YtnjckaifgmliaaaRatioTells
set_option linter.unusedSimpArgs false
set_option linter.unusedVariables false
namespace Go.Proofs.Ytnjckaifgmliaaa
open Go.RowKit Lu

/-- What stands while the reference reckons: the cells that are read, the result's block. -/
structure RS (w : World) (L : List (Addr × Value)) (V : World) : Prop where
  cs : Cs L V
  own : Own V (w.heap.size + 2) 0 0
  bel : Below w.heap.size w V
  nr : ∀ c ∈ L, c.1.block ≠ w.heap.size + 2
theorem Cs.atR {L : List (Addr × Value)} {V : World} (h : Cs L V) (i : Nat) {c : Addr × Value} (hi : L[i]? = some c) : V.cell? c.1 = some c.2 := h c (List.mem_of_getElem? hi)
section
variable {w V V' : World} {L : List (Addr × Value)}
theorem RS.below (h : RS w L V) (k : Below V.heap.size V V') : RS w L V' :=
  ⟨h.cs.below k, h.own.below k, h.bel.trans (k.mono h.bel.size), h.nr⟩
theorem RS.alloc (h : RS w L V) (o : Obj) : RS w L (V.alloc o) := h.below ((Below.refl _ _).alloc (Nat.le_refl _) o)
theorem RS.drew (h : RS w L V) : RS w L V.drew := ⟨h.cs, h.own.drew, h.bel.drew, h.nr⟩
structure FreshR (w : World) (L : List (Addr × Value)) (g : Nat) : Prop where
  ne : ∀ c ∈ L, c.1.block ≠ g
  nr : g ≠ w.heap.size + 2
  ge : w.heap.size ≤ g
theorem RS.fresh (h : RS w L V) : FreshR w L V.heap.size :=
  ⟨fun c hc => Nat.ne_of_lt (World.block_lt_of_cell? V _ (h.cs c hc)), Nat.ne_of_gt h.own.lt, h.bel.size⟩
theorem FreshR.cons {g : Nat} (h : FreshR w L g) {p : Addr} {v : Value} (hp : p.block ≠ g) : FreshR w ((p, v) :: L) g :=
  ⟨fun c hc => by
    rcases List.mem_cons.1 hc with rfl | hc
    · exact hp
    · exact h.ne c hc, h.nr, h.ge⟩
theorem RS.more (h : RS w L V) {g : Nat} {x y : Int} (ho : Own V g x y) (hf : FreshR w L g) : RS w ((⟨g, 0, none⟩, .int .i64 x) :: (⟨g, 1, none⟩, .int .i64 y) :: L) V :=
  ⟨fun c hc => by
    simp only [List.mem_cons] at hc
    rcases hc with rfl | rfl | hc
    · exact ho.c0
    · exact ho.c1
    · exact h.cs c hc, h.own, h.bel, fun c hc => by
    simp only [List.mem_cons] at hc
    rcases hc with rfl | rfl | hc
    · exact hf.nr
    · exact hf.nr
    · exact h.nr c hc⟩
theorem own_putR {W : World} {g : Nat} {a b : Int} (h : Own W g a b) (x y : Int) : Own ((W.setCell ⟨g, 0, none⟩ (.int .i64 x)).setCell ⟨g, 1, none⟩ (.int .i64 y)) g x y := by
  obtain ⟨l, c0, c1, f0, f1⟩ := h
  exact ⟨by simpa using l, by simp [go_sem, c0, c1], by simp [go_sem, c0, c1], by simp [go_sem, f0, f1], by simp [go_sem, f0, f1]⟩
theorem RS.put (h : RS w L V) {g : Nat} (hf : FreshR w L g) (x y : Value) : RS w L ((V.setCell ⟨g, 0, none⟩ x).setCell ⟨g, 1, none⟩ y) := by
  have hk : ∀ (k : Nat), k ≠ g → (((V.setCell ⟨g, 0, none⟩ x).setCell ⟨g, 1, none⟩ y)).heap[k]? = V.heap[k]? := fun k hk => by
    rw [Below.heap_setCell _ _ _ _ (by simpa using hk), Below.heap_setCell _ _ _ _ (by simpa using hk)]
  refine ⟨fun c hc => (World.cell?_of_block (hk _ (hf.ne c hc))).trans (h.cs c hc), ?_, (h.bel.setCell hf.ge _).setCell hf.ge _, h.nr⟩
  have hr := hk (w.heap.size + 2) (fun e => hf.nr e.symm)
  exact ⟨by simpa using h.own.lt, (World.cell?_of_block (a := ⟨w.heap.size + 2, 0, none⟩) hr).trans h.own.c0, (World.cell?_of_block (a := ⟨w.heap.size + 2, 1, none⟩) hr).trans h.own.c1, (World.frozen?_of_block (a := ⟨w.heap.size + 2, 0, none⟩) hr).trans h.own.f0, (World.frozen?_of_block (a := ⟨w.heap.size + 2, 1, none⟩) hr).trans h.own.f1⟩
end
/-- times: a step, if nothing was wrong. -/
theorem ref10_times (a1 a2 b1 b2 e x y e' : Int) (w : World) (ha1 : In a1) (ha2 : In a2) (hb1 : In b1) (hb2 : In b2) (h : stepP mulRP (a1, a2) (b1, b2) e = ((x, y), e')) :
    Calls Try.prog 62 #[.agg #[.int .i64 a1, .int .i64 a2], .int .i64 e, .agg #[.int .i64 b1, .int .i64 b2]] w fun r w' => r = .returned (.tuple #[.agg #[.int .i64 x, .int .i64 y], .int .i64 e']) ∧ Below w.heap.size w w' := by
  by_cases he : e = 0
  · subst he
    have HM := Lib.hid (show mulRP a1 a2 b1 b2 = ((x, y), e') from h)
    clear h
    go_enter Try.func62, Try.ntmps62
    go_wp2_with fail
    refine (ref2_Mul_is a1 a2 b1 b2 x y e' _ ha1 ha2 hb1 hb2 HM.out).mono ?_
    rintro e1 w1 ⟨rfl, k1⟩
    have B1 : Below w.heap.size w w1 := Below.trans (by go_grown) (k1.mono (by simp; omega))
    have hz : w.heap.size + 1 + 1 < w1.heap.size := by have := k1.size; simp at this; omega
    have l0 := keepC k1 (p := ⟨w.heap.size + 1 + 1, 0, none⟩) (v := .int .i64 0) (by simp [go_sem]) (by simp)
    have l1 := keepC k1 (p := ⟨w.heap.size + 1 + 1, 1, none⟩) (v := .int .i64 0) (by simp [go_sem]) (by simp)
    have m0 := keepF k1 (p := ⟨w.heap.size + 1 + 1, 0, none⟩) (by simp [go_sem]) (by simp)
    have m1 := keepF k1 (p := ⟨w.heap.size + 1 + 1, 1, none⟩) (by simp [go_sem]) (by simp)
    clear k1
    go_wp2_with fail
    exact bodyPost_ret (v := .tuple #[.agg #[.int .i64 x, .int .i64 y], .int .i64 e']) (by simp [results, Try.results62, go_sem, l0, l1]) rfl ⟨rfl, by go_grown⟩
  · obtain ⟨rfl, rfl, rfl⟩ : x = 0 ∧ y = 0 ∧ e' = e := by
      unfold stepP at h
      rw [if_neg he] at h
      simp at h
      exact ⟨h.1.1.symm, h.1.2.symm, h.2.symm⟩
    have hne : (e' == 0) = false := by rw [beq_eq_false_iff_ne]; exact he
    have hnb : (e' != 0) = true := by rw [bne_iff_ne]; exact he
    clear h he
    go_enter Try.func62, Try.ntmps62
    go_wp2_with fail
    exact bodyPost_ret (v := .tuple #[.agg #[.int .i64 0, .int .i64 0], .int .i64 e']) (by simp [results, Try.results62, go_sem]) rfl ⟨rfl, by go_grown⟩
end Go.Proofs.Ytnjckaifgmliaaa
