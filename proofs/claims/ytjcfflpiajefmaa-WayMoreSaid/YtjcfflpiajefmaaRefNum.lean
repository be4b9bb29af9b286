/- THE WALKS of layer 1's reference (lumperref01): each function, once: it comes to what num comes to. -/
import Derived.Test.YtjcfflpiajefmaaNum
import Derived.Test.YtjcfflpiajefmaaNumUp
import Derived.Test.YtjcfflpiajefmaaNumTurns
set_option linter.unusedSimpArgs false
set_option linter.unusedVariables false
namespace Go.Proofs.Ytjcfflpiajefmaa
open Go.RowKit Lu

theorem ret_ib {a b : Int} {c d : Bool} (h : a = b) (h' : c = d) : Ending.returned (.tuple #[.int .i64 a, .bool c]) = .returned (.tuple #[.int .i64 b, .bool d]) := by rw [h, h']

/-- lumperref01.Div. -/
theorem tdiv_in {a b : Int} (ha : In a) (hb0 : 0 < b) : In (a.tdiv b) ∧ In (a.tdiv b * b) ∧ (a.tmod b < 0 → a < a.tdiv b * b ∧ a.tdiv b - 1 = a / b) ∧ (0 ≤ a.tmod b → a.tdiv b * b ≤ a ∧ a.tdiv b = a / b) := by
  have t := tdiv_down (a := a) (b := b) hb0
  have h1 := Int.mul_tdiv_add_tmod a b
  have h2 : (a.tmod b).natAbs ≤ a.natAbs := by rw [Int.natAbs_tmod]; exact Nat.mod_le _ _
  have h3 : (a.tdiv b).natAbs ≤ a.natAbs := Int.natAbs_tdiv_le_natAbs a b
  have hs : (0 ≤ a → 0 ≤ a.tmod b) ∧ (a ≤ 0 → a.tmod b ≤ 0) := ⟨fun h => Int.tmod_nonneg _ h, fun h => by
    have := Int.tmod_nonneg (b := b) (a := -a) (by omega)
    rw [Int.neg_tmod] at this
    omega⟩
  have hq : (0 ≤ a → 0 ≤ a.tdiv b) := fun h => Int.tdiv_nonneg h (by omega)
  have hq' : (a ≤ 0 → a.tdiv b ≤ 0) := fun h => by
    have := Int.tdiv_nonneg (a := -a) (b := b) (by omega) (by omega)
    rw [Int.neg_tdiv] at this
    omega
  rw [Int.mul_comm] at h1
  generalize a.tdiv b * b = p at *
  generalize a.tmod b = r at *
  generalize a.tdiv b = q at *
  unfold In at *
  refine ⟨by omega, by omega, fun h => ⟨by omega, ?_⟩, fun h => ⟨by omega, ?_⟩⟩
  · exact (t.1 h).1.symm
  · exact (t.2 h).1.symm
theorem ref_Div (a b : Int) (ha : In a) (_hb : In b) (w : World) :
    Calls Try.prog 52 #[.int .i64 a, .int .i64 b] w fun e w' => e = .returned (.tuple #[.int .i64 (divP a b).1, .int .i64 (divP a b).2]) ∧ w = w' := by
  by_cases c : b ≤ 0
  · have c' : b < 1 := by omega
    go_enter Try.func52, Try.ntmps52
    go_wp2
    go_ret2
    exact ⟨(by rw [divP_zero c]; rfl), rfl⟩
  · obtain ⟨i1, i2, t1, t2⟩ := tdiv_in ha (show 0 < b by omega)
    have ha' := ha
    unfold In at ha' i1 i2
    by_cases c1 : a.tmod b < 0
    · obtain ⟨t3, t4⟩ := t1 c1
      have hr := ediv_range ha (show 0 < b by omega)
      rw [← t4] at hr
      have T4 := Lib.hid t4
      unfold In at hr
      clear t1 t2 t4
      go_enter Try.func52, Try.ntmps52
      go_wp2
      go_ret2
      exact ⟨(by rw [divP_pos (by omega), ← T4.out]; rfl), rfl⟩
    · obtain ⟨t3, t4⟩ := t2 (by omega)
      have T4 := Lib.hid t4
      clear t1 t2 t4
      go_enter Try.func52, Try.ntmps52
      go_wp2
      go_ret2
      exact ⟨(by rw [divP_pos (by omega), ← T4.out]; rfl), rfl⟩

theorem rest_in (a b : Int) (hb : In b) (hb0 : 0 < b) : wrap64 (a - wrap64 (a / b * b)) = a % b := by
  have h1 := Int.mul_ediv_add_emod a b
  have h2 := Int.emod_nonneg a (show b ≠ 0 by omega)
  have h3 := Int.emod_lt_of_pos a hb0
  rw [Int.mul_comm] at h1
  generalize a / b * b = p at *
  generalize a % b = r at *
  rw [wrap64_w64, wrap64_w64]
  unfold w64
  unfold In at hb
  omega

/-- lumperref01.Half. -/
theorem ref_Half (a b : Int) (ha : In a) (hb : In b) (w : World) :
    Calls Try.prog 51 #[.int .i64 a, .int .i64 b] w fun e w' => e = .returned (.tuple #[.int .i64 (halfP a b).1, .int .i64 (halfP a b).2]) ∧ w = w' := by
  have hd := ref_Div a b ha hb w
  by_cases c : b ≤ 0
  · rw [divP_zero c] at hd
    have HD := Lib.hid hd
    clear hd
    go_enter Try.func51, Try.ntmps51
    go_wp2_with fail
    refine HD.out.mono ?_
    rintro e w' ⟨rfl, rfl⟩
    go_wp2_with fail
    go_ret2
    exact ⟨(by rw [halfP_zero c]; rfl), rfl⟩
  · rw [divP_pos (show 0 < b by omega)] at hd
    have HD := Lib.hid hd
    clear hd
    have hr := rest_in a b hb (by omega)
    have hm0 := Int.emod_nonneg a (show b ≠ 0 by omega)
    have hm1 := Int.emod_lt_of_pos a (show 0 < b by omega)
    have hu : In b := hb
    unfold In at hu
    have hq := ediv_range ha (show 0 < b by omega)
    unfold In at hq
    by_cases c2 : b - a % b ≤ a % b
    · have hs := (ediv_succ ha (emod_one_left (a := a) (b := b) (by omega) (by omega))).1
      unfold In at hs
      have HF := Lib.hid (halfP_more (show 0 < b by omega) c2)
      generalize a / b = q at *
      generalize a % b = r at *
      go_enter Try.func51, Try.ntmps51
      go_wp2_with fail
      refine HD.out.mono ?_
      rintro e w' ⟨rfl, rfl⟩
      go_wp2_with fail
      go_ret2
      exact ⟨(by rw [HF.out]; rfl), rfl⟩
    · have HF := Lib.hid (halfP_less (show 0 < b by omega) c2)
      generalize a / b = q at *
      generalize a % b = r at *
      go_enter Try.func51, Try.ntmps51
      go_wp2_with fail
      refine HD.out.mono ?_
      rintro e w' ⟨rfl, rfl⟩
      go_wp2_with fail
      go_ret2
      exact ⟨(by rw [HF.out]; rfl), rfl⟩

/-- lumperref01.Up. -/
theorem ref_Up (a b : Int) (ha : In a) (hb : In b) (w : World) :
    Calls Try.prog 35 #[.int .i64 a, .int .i64 b] w fun e w' => e = .returned (.tuple #[.int .i64 (upP a b).1, .int .i64 (upP a b).2]) ∧ w = w' := by
  have hd := ref_Div a b ha hb w
  by_cases c : b ≤ 0
  · rw [divP_zero c] at hd
    have HD := Lib.hid hd
    clear hd
    go_enter Try.func35, Try.ntmps35
    go_wp2_with fail
    refine HD.out.mono ?_
    rintro e w' ⟨rfl, rfl⟩
    go_wp2_with fail
    go_ret2
    exact ⟨(by rw [upP_zero c]; rfl), rfl⟩
  · rw [divP_pos (show 0 < b by omega)] at hd
    have HD := Lib.hid hd
    clear hd
    have hr := rest_in a b hb (by omega)
    have hm0 := Int.emod_nonneg a (show b ≠ 0 by omega)
    have hm1 := Int.emod_lt_of_pos a (show 0 < b by omega)
    have hu : In b := hb
    unfold In at hu
    have hq := ediv_range ha (show 0 < b by omega)
    unfold In at hq
    by_cases c2 : 0 < a % b
    · have hs := (ediv_succ ha (emod_one_left (a := a) (b := b) (by omega) (by omega))).1
      unfold In at hs
      have HF := Lib.hid (upP_more (show 0 < b by omega) c2)
      generalize a / b = q at *
      generalize a % b = r at *
      go_enter Try.func35, Try.ntmps35
      go_wp2_with fail
      refine HD.out.mono ?_
      rintro e w' ⟨rfl, rfl⟩
      go_wp2_with fail
      go_ret2
      exact ⟨(by rw [HF.out]; rfl), rfl⟩
    · have HF := Lib.hid (upP_less (show 0 < b by omega) c2)
      generalize a / b = q at *
      generalize a % b = r at *
      go_enter Try.func35, Try.ntmps35
      go_wp2_with fail
      refine HD.out.mono ?_
      rintro e w' ⟨rfl, rfl⟩
      go_wp2_with fail
      go_ret2
      exact ⟨(by rw [HF.out]; rfl), rfl⟩

/-! ### lumperref01.Mul: by halves of the second one. -/
/-- A product, and that with half of the second one: both lie on one side of 0. -/
theorem halves (a b : Int) (h : Int) (s : Int) (hh : b = 2 * h + s) (hs : (0 ≤ h ∧ 0 ≤ s ∧ s ≤ 1) ∨ (h ≤ 0 ∧ s ≤ 0 ∧ -1 ≤ s)) :
    a * b = 2 * (a * h) + a * s ∧ ((0 ≤ a * h ∧ 0 ≤ a * s) ∨ (a * h ≤ 0 ∧ a * s ≤ 0)) := by
  refine ⟨by rw [hh, Int.mul_add, ← Int.mul_assoc, Int.mul_comm a 2, Int.mul_assoc], ?_⟩
  rcases hs with ⟨h1, h2, _⟩ | ⟨h1, h2, _⟩ <;> rcases Int.le_total 0 a with ha | ha
  · exact Or.inl ⟨Int.mul_nonneg ha h1, Int.mul_nonneg ha h2⟩
  · exact Or.inr ⟨Int.mul_nonpos_of_nonpos_of_nonneg ha h1, Int.mul_nonpos_of_nonpos_of_nonneg ha h2⟩
  · exact Or.inr ⟨Int.mul_nonpos_of_nonneg_of_nonpos ha h1, Int.mul_nonpos_of_nonneg_of_nonpos ha h2⟩
  · exact Or.inl ⟨Int.mul_nonneg_of_nonpos_of_nonpos ha h1, Int.mul_nonneg_of_nonpos_of_nonpos ha h2⟩

end Go.Proofs.Ytjcfflpiajefmaa
