/- goal.Of's closures: a sum, a whole number, and a step if nothing was wrong so far. -/
import Derived.Test.YtnjckaifgmliaaaPlainGoal
import Derived.Test.YtnjckaifgmliaaaRat
import Derived.Test.YtnjckaifgmliaaaBlocks
set_option linter.unusedSimpArgs false
set_option linter.unusedVariables false
namespace Go.Proofs.Ytnjckaifgmliaaa
open Go.RowKit Lu

/-- These cells hold these values. -/
def Cs (L : List (Addr × Value)) (V : World) : Prop := ∀ c ∈ L, V.cell? c.1 = some c.2
theorem Cs.grown {L : List (Addr × Value)} {V V' : World} {B : Nat} (h : Cs L V) (hg : V.grownBy V' (some B)) (hne : ∀ c ∈ L, c.1.block ≠ B) : Cs L V' := fun c hc => hg.cell (h c hc) (fun e => hne c hc (Option.some.inj e))
theorem Cs.below {L : List (Addr × Value)} {V V' : World} (h : Cs L V) (hg : Below V.heap.size V V') : Cs L V' := fun c hc => keepD hg (h c hc)
theorem Cs.alloc {L : List (Addr × Value)} {V : World} (h : Cs L V) (o : Obj) : Cs L (V.alloc o) := fun c hc => keepA o (h c hc)
theorem Cs.drew {L : List (Addr × Value)} {V : World} (h : Cs L V) : Cs L V.drew := h
theorem Own.grown {V V' : World} {B b : Nat} {x y : Int} (h : Own V b x y) (hg : V.grownBy V' (some B)) (hne : b ≠ B) : Own V' b x y := by
  have hb := hg.block b h.lt (fun e => hne (Option.some.inj e))
  exact ⟨Nat.lt_of_lt_of_le h.lt hg.size, by rw [World.cell?_of_block (a := ⟨b, 0, none⟩) hb]; exact h.c0, by rw [World.cell?_of_block (a := ⟨b, 1, none⟩) hb]; exact h.c1, by rw [World.frozen?_of_block (a := ⟨b, 0, none⟩) hb]; exact h.f0, by rw [World.frozen?_of_block (a := ⟨b, 1, none⟩) hb]; exact h.f1⟩
theorem Own.drew {V : World} {b : Nat} {x y : Int} (h : Own V b x y) : Own V.drew b x y := ⟨h.lt, h.c0, h.c1, h.f0, h.f1⟩
theorem below_grown {w0 w w' : World} {B : Nat} (h : Below w0.heap.size w0 w) (hg : w.grownBy w' (some B)) (hB : w0.heap.size ≤ B) : Below w0.heap.size w0 w' :=
  h.trans ⟨hg.os, hg.tape, hg.output, hg.size, fun k hk => hg.block k (Nat.lt_of_lt_of_le hk h.size) (fun e => by have := Option.some.inj e; omega)⟩
theorem grown_below {w w' : World} {B : Nat} (h : Below w.heap.size w w') : w.grownBy w' (some B) := ⟨h.os, h.tape, h.output, h.size, fun k hk _ => h.block k hk⟩
/-- The one cell of what is wrong. -/
structure Wrong (V : World) (B : Nat) (e : Int) : Prop where
  lt : B < V.heap.size
  cell : V.cell? ⟨B, 0, none⟩ = some (.int .i64 e)
  fz : V.frozen? ⟨B, 0, none⟩ = false
theorem Wrong.below {V V' : World} {B : Nat} {e : Int} (h : Wrong V B e) (hg : Below V.heap.size V V') : Wrong V' B e := ⟨Nat.lt_of_lt_of_le h.lt hg.size, keepC hg h.cell h.lt, keepF hg h.fz h.lt⟩
theorem Wrong.alloc {V : World} {B : Nat} {e : Int} (h : Wrong V B e) (o : Obj) : Wrong (V.alloc o) B e := h.below ((Below.refl _ _).alloc (Nat.le_refl _) o)
theorem Wrong.drew {V : World} {B : Nat} {e : Int} (h : Wrong V B e) : Wrong V.drew B e := ⟨h.lt, h.cell, h.fz⟩

theorem then_grown {w w1 : World} {B g : Nat} (B1 : Below w.heap.size w w1) (hB : B < w.heap.size) (hg : w.heap.size ≤ g) (v x y : Value) (o : Obj) :
    w.grownBy ((((w1.setCell ⟨B, 0, none⟩ v).setCell ⟨g, 0, none⟩ x).setCell ⟨g, 1, none⟩ y).alloc o) (some B) := by
  have hz := B1.size
  refine ⟨B1.os, B1.tape, B1.output, by simp; omega, fun k hk hne => ?_⟩
  have h0 : k ≠ B := fun e => hne (by rw [e])
  rw [heap_alloc_old _ _ (by simp; omega), Below.heap_setCell _ _ _ _ (by simp; omega), Below.heap_setCell _ _ _ _ (by simp; omega), Below.heap_setCell _ _ _ _ (by simpa using h0)]
  exact B1.block k hk
theorem goal_whole (n : Int) (w : World) :
    Calls Try.prog 56 #[.int .i64 n] w fun r w' => r = .returned (.agg #[.int .i64 n, .int .i64 1]) ∧ Below w.heap.size w w' := by
  go_enter Try.func56, Try.ntmps56
  go_wp2_with fail
  exact bodyPost_ret (v := .agg #[.int .i64 n, .int .i64 1]) (by simp [results, Try.results56, go_sem]) rfl ⟨rfl, by go_grown⟩
theorem goal_add (a1 a2 b1 b2 x y e : Int) (w : World) (ha1 : In a1) (ha2 : In a2) (hb1 : In b1) (hb2 : In b2) (h : addRP a1 a2 b1 b2 = ((x, y), e)) :
    Calls Try.prog 54 #[.agg #[.int .i64 a1, .int .i64 a2], .agg #[.int .i64 b1, .int .i64 b2]] w fun r w' => r = .returned (.tuple #[.agg #[.int .i64 x, .int .i64 y], .int .i64 e]) ∧ Below w.heap.size w w' := by
  have H := Lib.hid (show sumRP [(a1, a2), (b1, b2)] = ((x, y), e) by rw [sumRP_pair]; exact h)
  clear h
  go_enter Try.func54, Try.ntmps54
  go_wp2_with fail
  refine (ratio_Sum_is _ _ _ [(a1, a2), (b1, b2)] x y e _ (Ratios_new2 _ _ (by simp) _ _ _ _ _ ha1 ha2 hb1 hb2) H.out).mono ?_
  rintro e1 w1 ⟨rfl, k1⟩
  have B1 : Below w.heap.size w w1 := Below.trans (by go_grown) (k1.mono (by simp; omega))
  have hz : w.heap.size + 1 + 1 < w1.heap.size := by have := k1.size; simp at this; omega
  have l0 := keepC k1 (p := ⟨w.heap.size + 1 + 1, 0, none⟩) (v := .int .i64 0) (by simp [go_sem]) (by simp)
  have l1 := keepC k1 (p := ⟨w.heap.size + 1 + 1, 1, none⟩) (v := .int .i64 0) (by simp [go_sem]) (by simp)
  have m0 := keepF k1 (p := ⟨w.heap.size + 1 + 1, 0, none⟩) (by simp [go_sem]) (by simp)
  have m1 := keepF k1 (p := ⟨w.heap.size + 1 + 1, 1, none⟩) (by simp [go_sem]) (by simp)
  clear k1
  go_wp2_with fail
  exact bodyPost_ret (v := .tuple #[.agg #[.int .i64 x, .int .i64 y], .int .i64 e]) (by simp [results, Try.results54, go_sem, l0, l1]) rfl ⟨rfl, by go_grown⟩

set_option maxHeartbeats 1000000 in
theorem goal_then_mul (a1 a2 b1 b2 e x y e' : Int) (B : Nat) (w : World) (ha1 : In a1) (ha2 : In a2) (hb1 : In b1) (hb2 : In b2) (hB : Wrong w B e) (h : stepP mulRP (a1, a2) (b1, b2) e = ((x, y), e')) :
    Calls Try.prog 53 #[.func (.func 57) #[] #[], .agg #[.int .i64 a1, .int .i64 a2], .agg #[.int .i64 b1, .int .i64 b2], .pointer (some ⟨B, 0, none⟩)] w fun r w' =>
      r = .returned (.agg #[.int .i64 x, .int .i64 y]) ∧ Wrong w' B e' ∧ w.grownBy w' (some B) := by
  obtain ⟨lt, c, f⟩ := hB
  have lt1 : B < w.heap.size + 1 := by omega
  have lt2 : B < w.heap.size + 1 + 1 := by omega
  by_cases he : e = 0
  · subst he
    have hm : mulRP a1 a2 b1 b2 = ((x, y), e') := h
    have HM := Lib.hid hm
    clear hm h
    go_enter Try.func53, Try.ntmps53
    go_wp2_with fail
    refine (ratio_Mul_is a1 a2 b1 b2 x y e' _ ha1 ha2 hb1 hb2 HM.out).mono ?_
    rintro e1 w1 ⟨rfl, k1⟩
    have B1 : Below w.heap.size w w1 := Below.trans (by go_grown) (k1.mono (by simp; omega))
    have z1 : w.heap.size + 3 ≤ w1.heap.size := by have := k1.size; simpa using this
    have c1 := keepC B1 c lt
    have f1 := keepF B1 f lt
    have lt3 : B < w1.heap.size := by omega
    have lt4 : B < w1.heap.size + 1 := by omega
    have nb : ¬ w.heap.size + 1 + 1 = B := by omega
    have bn : ¬ B = w.heap.size + 1 + 1 := by omega
    have hz : w.heap.size + 1 + 1 < w1.heap.size := by omega
    have l0 := keepC k1 (p := ⟨w.heap.size + 1 + 1, 0, none⟩) (v := .int .i64 0) (by simp [go_sem]) (by simp)
    have l1 := keepC k1 (p := ⟨w.heap.size + 1 + 1, 1, none⟩) (v := .int .i64 0) (by simp [go_sem]) (by simp)
    have m0 := keepF k1 (p := ⟨w.heap.size + 1 + 1, 0, none⟩) (by simp [go_sem]) (by simp)
    have m1 := keepF k1 (p := ⟨w.heap.size + 1 + 1, 1, none⟩) (by simp [go_sem]) (by simp)
    clear k1
    go_wp2_with fail
    refine bodyPost_ret (v := .agg #[.int .i64 x, .int .i64 y]) ?_ rfl ⟨rfl, ?_, ?_⟩
    · simp [results, Try.results53, go_sem, l0, l1, nb, bn, hz, lt3, lt4]
    · exact ⟨by simp; omega, by simp [go_sem, nb, bn, c1, lt3], by simp [go_sem, nb, bn, f1, lt3]⟩
    · exact then_grown B1 lt (by omega) _ _ _ _
  · have hx : x = 0 ∧ y = 0 ∧ e' = e := by
      unfold stepP at h
      rw [if_neg he] at h
      simp at h
      exact ⟨h.1.1.symm, h.1.2.symm, h.2.symm⟩
    obtain ⟨rfl, rfl, rfl⟩ := hx
    have hne : (e' == 0) = false := by rw [beq_eq_false_iff_ne]; exact he
    have hnb : (e' != 0) = true := by rw [bne_iff_ne]; exact he
    clear h he
    go_enter Try.func53, Try.ntmps53
    go_wp2_with fail
    refine bodyPost_ret (v := .agg #[.int .i64 0, .int .i64 0]) ?_ rfl ⟨rfl, ?_, ?_⟩
    · simp [results, Try.results53, go_sem]
    · exact Wrong.below ⟨lt, c, f⟩ (by go_grown)
    · exact grown_below (by go_grown)

set_option maxHeartbeats 1000000 in
theorem goal_then_add (a1 a2 b1 b2 e x y e' : Int) (B : Nat) (w : World) (ha1 : In a1) (ha2 : In a2) (hb1 : In b1) (hb2 : In b2) (hB : Wrong w B e) (h : stepP addRP (a1, a2) (b1, b2) e = ((x, y), e')) :
    Calls Try.prog 53 #[.func (.func 54) #[] #[], .agg #[.int .i64 a1, .int .i64 a2], .agg #[.int .i64 b1, .int .i64 b2], .pointer (some ⟨B, 0, none⟩)] w fun r w' =>
      r = .returned (.agg #[.int .i64 x, .int .i64 y]) ∧ Wrong w' B e' ∧ w.grownBy w' (some B) := by
  obtain ⟨lt, c, f⟩ := hB
  have lt1 : B < w.heap.size + 1 := by omega
  have lt2 : B < w.heap.size + 1 + 1 := by omega
  by_cases he : e = 0
  · subst he
    have hm : addRP a1 a2 b1 b2 = ((x, y), e') := h
    have HM := Lib.hid hm
    clear hm h
    go_enter Try.func53, Try.ntmps53
    go_wp2_with fail
    refine (goal_add a1 a2 b1 b2 x y e' _ ha1 ha2 hb1 hb2 HM.out).mono ?_
    rintro e1 w1 ⟨rfl, k1⟩
    have B1 : Below w.heap.size w w1 := Below.trans (by go_grown) (k1.mono (by simp; omega))
    have z1 : w.heap.size + 3 ≤ w1.heap.size := by have := k1.size; simpa using this
    have c1 := keepC B1 c lt
    have f1 := keepF B1 f lt
    have lt3 : B < w1.heap.size := by omega
    have lt4 : B < w1.heap.size + 1 := by omega
    have nb : ¬ w.heap.size + 1 + 1 = B := by omega
    have bn : ¬ B = w.heap.size + 1 + 1 := by omega
    have hz : w.heap.size + 1 + 1 < w1.heap.size := by omega
    have l0 := keepC k1 (p := ⟨w.heap.size + 1 + 1, 0, none⟩) (v := .int .i64 0) (by simp [go_sem]) (by simp)
    have l1 := keepC k1 (p := ⟨w.heap.size + 1 + 1, 1, none⟩) (v := .int .i64 0) (by simp [go_sem]) (by simp)
    have m0 := keepF k1 (p := ⟨w.heap.size + 1 + 1, 0, none⟩) (by simp [go_sem]) (by simp)
    have m1 := keepF k1 (p := ⟨w.heap.size + 1 + 1, 1, none⟩) (by simp [go_sem]) (by simp)
    clear k1
    go_wp2_with fail
    refine bodyPost_ret (v := .agg #[.int .i64 x, .int .i64 y]) ?_ rfl ⟨rfl, ?_, ?_⟩
    · simp [results, Try.results53, go_sem, l0, l1, nb, bn, hz, lt3, lt4]
    · exact ⟨by simp; omega, by simp [go_sem, nb, bn, c1, lt3], by simp [go_sem, nb, bn, f1, lt3]⟩
    · exact then_grown B1 lt (by omega) _ _ _ _
  · have hx : x = 0 ∧ y = 0 ∧ e' = e := by
      unfold stepP at h
      rw [if_neg he] at h
      simp at h
      exact ⟨h.1.1.symm, h.1.2.symm, h.2.symm⟩
    obtain ⟨rfl, rfl, rfl⟩ := hx
    have hne : (e' == 0) = false := by rw [beq_eq_false_iff_ne]; exact he
    have hnb : (e' != 0) = true := by rw [bne_iff_ne]; exact he
    clear h he
    go_enter Try.func53, Try.ntmps53
    go_wp2_with fail
    refine bodyPost_ret (v := .agg #[.int .i64 0, .int .i64 0]) ?_ rfl ⟨rfl, ?_, ?_⟩
    · simp [results, Try.results53, go_sem]
    · exact Wrong.below ⟨lt, c, f⟩ (by go_grown)
    · exact grown_below (by go_grown)

end Go.Proofs.Ytnjckaifgmliaaa
