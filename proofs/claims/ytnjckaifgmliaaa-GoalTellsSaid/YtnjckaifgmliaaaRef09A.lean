/- THE WALKS of layer 9's reference (lumperref09), first part: shorter, longer. -/
import Derived.Test.YtnjckaifgmliaaaWayDist
set_option linter.unusedSimpArgs false
set_option linter.unusedVariables false
namespace Go.Proofs.Ytnjckaifgmliaaa
open Go.RowKit Lu

theorem ref9_shorter (a b r : Int) (w : World) (hr : shorterP a b = r) :
    Calls Try.prog 115 #[.int .i64 a, .int .i64 b] w fun e w' => e = .returned (.int .i64 r) ∧ w = w' := by
  unfold shorterP at hr
  have HR := Lib.hid hr
  clear hr
  go_enter Try.func115, Try.ntmps115
  go_wp2_with fail
  all_goals
    go_ret
    refine ⟨ret_i64 ?_, rfl⟩
    have h := HR.out
    split at h <;> omega
theorem ref9_longer (n m r : Int) (w : World) (hr : longerP n m = r) (h1 : -1 ≤ n ∧ n ≤ 1000000000) (h2 : 0 ≤ m ∧ m ≤ 10000) :
    Calls Try.prog 116 #[.int .i64 n, .int .i64 m] w fun e w' => e = .returned (.int .i64 r) ∧ w = w' := by
  unfold longerP at hr
  have HR := Lib.hid hr
  clear hr
  go_enter Try.func116, Try.ntmps116
  go_wp2_with fail
  all_goals
    go_ret
    refine ⟨ret_i64 ?_, rfl⟩
    have h := HR.out
    split at h <;> omega
end Go.Proofs.Ytnjckaifgmliaaa
