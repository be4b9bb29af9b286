/- THE WALKS of layer 1 (num): each function of the program, once. -/
import Derived.Test.YtnjckaifgmliaaaRows
import Derived.Test.YtnjckaifgmliaaaPlainNum
import Derived.WalkKit
import Derived.WalkSpells
import Derived.WalkLawsBesides
import Derived.Deep.QuietTactic
import Derived.BigQuiet
import Derived.Handy
import Derived.Lib.Hide
set_option linter.unusedSimpArgs false
set_option linter.unusedVariables false
namespace Go.Proofs.Ytnjckaifgmliaaa
open Go.RowKit Lu

theorem wrap64_w64 (n : Int) : wrap64 n = w64 n := by unfold wrap64 w64; omega
theorem wrap64_In {n : Int} (h : In n) : wrap64 n = n := by rw [wrap64_w64, w64_in h]

theorem ret_i64 {a b : Int} (h : a = b) : Ending.returned (.int .i64 a) = .returned (.int .i64 b) := by rw [h]
theorem ret_two {a b c d : Int} (h : a = b) (h' : c = d) : Ending.returned (.tuple #[.int .i64 a, .int .i64 c]) = .returned (.tuple #[.int .i64 b, .int .i64 d]) := by rw [h, h']

/-- num.side. -/
theorem num_side (a : Int) (ha : In a) (w : World) :
    Calls Try.prog 114 #[.int .i64 a] w fun e w' => e = .returned (.int .i64 (sideN a)) ∧ w = w' := by
  unfold In at ha
  obtain ⟨h1, h2⟩ := ha
  by_cases c1 : a = -9223372036854775808
  · subst c1
    go_enter Try.func114, Try.ntmps114
    go_wp2
    go_ret
    exact ⟨rfl, rfl⟩
  · have d1 : (a == -9223372036854775808) = false := by simp [c1]
    by_cases c2 : a < 0
    · go_enter Try.func114, Try.ntmps114
      go_wp2
      go_ret
      exact ⟨ret_i64 (by unfold sideN; rw [if_neg c1]; omega), rfl⟩
    · go_enter Try.func114, Try.ntmps114
      go_wp2
      go_ret
      exact ⟨ret_i64 (by unfold sideN; rw [if_neg c1]; omega), rfl⟩

/-- num.Gcd. -/
theorem num_Gcd (a b : Int) (ha : In a) (hb : In b) (w : World) :
    Calls Try.prog 96 #[.int .i64 a, .int .i64 b] w fun e w' => e = .returned (.int .i64 (gcdP a b)) ∧ ∃ n, w' = w.drewN n := by
  have h1 := sideN_le ha
  have h2 := sideN_le hb
  have HG := Lib.hid (show gcdP a b = ((sideN a).gcd (sideN b) : Nat) from rfl)
  generalize hx : gcdP a b = g at *
  clear hx
  go_enter Try.func96, Try.ntmps96
  go_wp2_with fail
  refine (num_side a ha _).mono ?_
  rintro e w' ⟨rfl, rfl⟩
  go_wp2_with fail
  refine (num_side b hb _).mono ?_
  rintro e w' ⟨rfl, rfl⟩
  go_wp2_with fail
  generalize sideN a = x at *
  generalize sideN b = y at *
  go_loopw [0, 1] (fun u v wr => ∃ x' y' n : Nat, u = .int .i64 x' ∧ v = .int .i64 y' ∧ x'.gcd y' = x.gcd y ∧ (x' : Int) ≤ 9223372036854775807 ∧ (y' : Int) ≤ 9223372036854775807 ∧ wr = w.drewN n) (fun _ v _ => (intOf v).toNat)
  case atStart => exact ⟨x, y, 0, rfl, rfl, rfl, h1, h2, rfl⟩
  case round =>
    obtain ⟨x', y', n, rfl, rfl, hg, k1, k2, rfl⟩ := hrel
    by_cases c : y' = 0
    · subst c
      have Hg := Lib.hid hg
      clear hg
      go_wp2
      go_ret
      exact ⟨ret_i64 (by rw [HG.out, ← Hg.out]; simp), n, rfl⟩
    · have Hg := Lib.hid hg
      clear hg
      go_wp2
      go_quiet (fail)
      go_wp2
      go_roundw
      case rel =>
        refine ⟨y', x' % y', n + nq, rfl, ?_, ?_, by omega, ?_, World.drewN_drewN _ _ _⟩
        · rfl
        · rw [← Hg.out, Nat.gcd_comm x' y', Nat.gcd_rec y' x', Nat.gcd_comm]
        · have := Nat.mod_lt x' (show 0 < y' by omega); omega
      case measure =>
        have := Nat.mod_lt x' (show 0 < y' by omega)
        simp only [intOf]
        omega

/-- A slice of ints reads as a list: its elements, in order (what lies behind the length is not asked). -/
def Ints (w : World) (a : Option Addr) (len : Nat) (zs : List Int) : Prop :=
  zs.length = len ∧ (len : Int) ≤ 9223372036854775807 ∧ (∀ z ∈ zs, In z) ∧
  (len = 0 ∨ ∃ b off, a = some ⟨b, off, none⟩ ∧ ∀ i, i < len → w.cell? ⟨b, off + i, none⟩ = some (.int .i64 (zs.getD i 0)))

end Go.Proofs.Ytnjckaifgmliaaa
