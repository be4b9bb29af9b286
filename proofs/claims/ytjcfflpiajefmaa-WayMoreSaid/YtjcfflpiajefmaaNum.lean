/- THE WALKS of layer 1 (num): each function of the program, once. -/
import Derived.Test.YtjcfflpiajefmaaRows
import Derived.Test.YtjcfflpiajefmaaPlainNum
import Derived.WalkKit
import Derived.WalkSpells
import Derived.WalkLawsBesides
import Derived.Deep.QuietTactic
import Derived.BigQuiet
import Derived.Handy
import Derived.Lib.Hide
set_option linter.unusedSimpArgs false
set_option linter.unusedVariables false
namespace Go.Proofs.Ytjcfflpiajefmaa
open Go.RowKit Lu

theorem wrap64_w64 (n : Int) : wrap64 n = w64 n := by unfold wrap64 w64; omega
theorem wrap64_In {n : Int} (h : In n) : wrap64 n = n := by rw [wrap64_w64, w64_in h]

theorem ret_i64 {a b : Int} (h : a = b) : Ending.returned (.int .i64 a) = .returned (.int .i64 b) := by rw [h]
theorem ret_two {a b c d : Int} (h : a = b) (h' : c = d) : Ending.returned (.tuple #[.int .i64 a, .int .i64 c]) = .returned (.tuple #[.int .i64 b, .int .i64 d]) := by rw [h, h']

/-- num.side. -/
theorem num_side (a : Int) (ha : In a) (w : World) :
    Calls Try.prog 82 #[.int .i64 a] w fun e w' => e = .returned (.int .i64 (sideN a)) ∧ w = w' := by
  unfold In at ha
  obtain ⟨h1, h2⟩ := ha
  by_cases c1 : a = -9223372036854775808
  · subst c1
    go_enter Try.func82, Try.ntmps82
    go_wp2
    go_ret
    exact ⟨rfl, rfl⟩
  · have d1 : (a == -9223372036854775808) = false := by simp [c1]
    by_cases c2 : a < 0
    · go_enter Try.func82, Try.ntmps82
      go_wp2
      go_ret
      exact ⟨ret_i64 (by unfold sideN; rw [if_neg c1]; omega), rfl⟩
    · go_enter Try.func82, Try.ntmps82
      go_wp2
      go_ret
      exact ⟨ret_i64 (by unfold sideN; rw [if_neg c1]; omega), rfl⟩

/-- num.parts: the quotient, downwards, and what is left. -/
theorem num_parts (a b : Int) (ha : In a) (hb : In b) (hb0 : 0 < b) (w : World) :
    Calls Try.prog 44 #[.int .i64 a, .int .i64 b] w fun e w' => e = .returned (.tuple #[.int .i64 (a / b), .int .i64 (a % b)]) ∧ ∃ n, w' = w.drewN n := by
  have t := tdiv_down (a := a) (b := b) hb0
  have hr := ediv_range ha hb0
  have hm0 := Int.emod_nonneg a (show b ≠ 0 by omega)
  have hm1 := Int.emod_lt_of_pos a hb0
  by_cases c : a.tmod b < 0
  · obtain ⟨e1, e2⟩ := t.1 c
    clear t
    go_enter Try.func44, Try.ntmps44
    go_wp2
    go_quiet (fail)
    go_wp2
    go_ret2
    exact ⟨ret_two (by simp only [wrap64_w64]; unfold w64; unfold In at hr; omega) (by simp only [wrap64_w64]; unfold w64; unfold In at hb; omega), _, rfl⟩
  · obtain ⟨e1, e2⟩ := t.2 (by omega)
    clear t
    go_enter Try.func44, Try.ntmps44
    go_wp2
    go_quiet (fail)
    go_wp2
    go_ret2
    exact ⟨ret_two (by simp only [wrap64_w64]; unfold w64; unfold In at hr; omega) (by omega), _, rfl⟩

/-- num.Half. -/
theorem num_Half (a b : Int) (ha : In a) (hb : In b) (w : World) :
    Calls Try.prog 43 #[.int .i64 a, .int .i64 b] w fun e w' => e = .returned (.tuple #[.int .i64 (halfP a b).1, .int .i64 (halfP a b).2]) ∧ ∃ n, w' = w.drewN n := by
  by_cases c : b ≤ 0
  · go_enter Try.func43, Try.ntmps43
    go_wp2
    go_ret2
    exact ⟨(by rw [halfP_zero c]; rfl), 0, rfl⟩
  · have hm0 := Int.emod_nonneg a (show b ≠ 0 by omega)
    have hm1 := Int.emod_lt_of_pos a (show 0 < b by omega)
    have hr := ediv_range ha (show 0 < b by omega)
    have hu : In b := hb
    unfold In at hu hr
    by_cases c2 : b - a % b ≤ a % b
    · have hs := ediv_succ ha (emod_one_left (a := a) (b := b) (by omega) (by omega))
      unfold In at hs
      go_enter Try.func43, Try.ntmps43
      go_wp2_with (go_at_call 44; refine (num_parts a b ha hb (by omega) _).mono ?_; rintro e w' ⟨rfl, n, rfl⟩)
      go_ret2
      exact ⟨(by rw [halfP_more (by omega) (by omega)]; rfl), _, rfl⟩
    · go_enter Try.func43, Try.ntmps43
      go_wp2_with (go_at_call 44; refine (num_parts a b ha hb (by omega) _).mono ?_; rintro e w' ⟨rfl, n, rfl⟩)
      go_ret2
      exact ⟨(by rw [halfP_less (by omega) (by omega)]; rfl), _, rfl⟩

/-- num.Up. -/
theorem num_Up (a b : Int) (ha : In a) (hb : In b) (w : World) :
    Calls Try.prog 31 #[.int .i64 a, .int .i64 b] w fun e w' => e = .returned (.tuple #[.int .i64 (upP a b).1, .int .i64 (upP a b).2]) ∧ ∃ n, w' = w.drewN n := by
  by_cases c : b ≤ 0
  · go_enter Try.func31, Try.ntmps31
    go_wp2
    go_ret2
    exact ⟨(by rw [upP_zero c]; rfl), 0, rfl⟩
  · have hm0 := Int.emod_nonneg a (show b ≠ 0 by omega)
    have hm1 := Int.emod_lt_of_pos a (show 0 < b by omega)
    have hr := ediv_range ha (show 0 < b by omega)
    have hu : In b := hb
    unfold In at hu hr
    by_cases c2 : 0 < a % b
    · have hs := ediv_succ ha (emod_one_left (a := a) (b := b) (by omega) (by omega))
      unfold In at hs
      go_enter Try.func31, Try.ntmps31
      go_wp2_with (go_at_call 44; refine (num_parts a b ha hb (by omega) _).mono ?_; rintro e w' ⟨rfl, n, rfl⟩)
      go_ret2
      exact ⟨(by rw [upP_more (by omega) (by omega)]; rfl), _, rfl⟩
    · go_enter Try.func31, Try.ntmps31
      go_wp2_with (go_at_call 44; refine (num_parts a b ha hb (by omega) _).mono ?_; rintro e w' ⟨rfl, n, rfl⟩)
      go_ret2
      exact ⟨(by rw [upP_less (by omega) (by omega)]; rfl), _, rfl⟩

/-- num.Gcd. -/
theorem num_Gcd (a b : Int) (ha : In a) (hb : In b) (w : World) :
    Calls Try.prog 81 #[.int .i64 a, .int .i64 b] w fun e w' => e = .returned (.int .i64 (gcdP a b)) ∧ ∃ n, w' = w.drewN n := by
  have h1 := sideN_le ha
  have h2 := sideN_le hb
  have HG := Lib.hid (show gcdP a b = ((sideN a).gcd (sideN b) : Nat) from rfl)
  generalize hx : gcdP a b = g at *
  clear hx
  go_enter Try.func81, Try.ntmps81
  go_wp2_with fail
  refine (num_side a ha _).mono ?_
  rintro e w' ⟨rfl, rfl⟩
  go_wp2_with fail
  refine (num_side b hb _).mono ?_
  rintro e w' ⟨rfl, rfl⟩
  go_wp2_with fail
  generalize sideN a = x at *
  generalize sideN b = y at *
  go_loopw [0, 1] (fun u v wr => ∃ x' y' n : Nat, u = .int .i64 x' ∧ v = .int .i64 y' ∧ x'.gcd y' = x.gcd y ∧ (x' : Int) ≤ 9223372036854775807 ∧ (y' : Int) ≤ 9223372036854775807 ∧ wr = w.drewN n) (fun _ v _ => (intOf v).toNat)
  case atStart => exact ⟨x, y, 0, rfl, rfl, rfl, h1, h2, rfl⟩
  case round =>
    obtain ⟨x', y', n, rfl, rfl, hg, k1, k2, rfl⟩ := hrel
    by_cases c : y' = 0
    · subst c
      have Hg := Lib.hid hg
      clear hg
      go_wp2
      go_ret
      exact ⟨ret_i64 (by rw [HG.out, ← Hg.out]; simp), n, rfl⟩
    · have Hg := Lib.hid hg
      clear hg
      go_wp2
      go_quiet (fail)
      go_wp2
      go_roundw
      case rel =>
        refine ⟨y', x' % y', n + nq, rfl, ?_, ?_, by omega, ?_, World.drewN_drewN _ _ _⟩
        · rfl
        · rw [← Hg.out, Nat.gcd_comm x' y', Nat.gcd_rec y' x', Nat.gcd_comm]
        · have := Nat.mod_lt x' (show 0 < y' by omega); omega
      case measure =>
        have := Nat.mod_lt x' (show 0 < y' by omega)
        simp only [intOf]
        omega

/-- A slice of ints reads as a list: its elements, in order (what lies behind the length is not asked). -/
def Ints (w : World) (a : Option Addr) (len : Nat) (zs : List Int) : Prop :=
  zs.length = len ∧ (len : Int) ≤ 9223372036854775807 ∧ (∀ z ∈ zs, In z) ∧
  (len = 0 ∨ ∃ b off, a = some ⟨b, off, none⟩ ∧ ∀ i, i < len → w.cell? ⟨b, off + i, none⟩ = some (.int .i64 (zs.getD i 0)))

/-- num.Sum. -/
theorem num_Sum (a : Option Addr) (len cap : Nat) (zs : List Int) (w : World) (h : Ints w a len zs) :
    Calls Try.prog 30 #[.slice a len cap] w fun e w' => e = .returned (.tuple #[.int .i64 (sumP zs).1, .int .i64 (sumP zs).2]) ∧ w = w' := by
  obtain ⟨hl, hm, hin, hc⟩ := h
  go_enter Try.func30, Try.ntmps30

  go_wp2
  go_step3
  go_wp2
  go_step3
  go_wp2
  have hO : In 0 := by decide
  go_loop [4, 10] (fun o i => ∃ (k : Nat) (s : Int), k ≤ len ∧ i = .int .i64 k ∧ o = .int .i64 s ∧ In s ∧ sumFrom 0 zs = sumFrom s (zs.drop k)) (fun _ i => len - (intOf i).toNat)
  case atStart => exact ⟨0, 0, Nat.zero_le _, rfl, rfl, hO, by simp⟩
  case round =>
    obtain ⟨k, s, hk, rfl, rfl, hs, hsum⟩ := hrel
    have HS := Lib.hid hsum
    clear hsum
    by_cases hlt : k < len
    · obtain ⟨b, off, rfl, hcell⟩ := hc.resolve_left (by omega)
      have hc1 := hcell k hlt
      have hd := drop_getD (l := zs) (k := k) (by omega)
      have hn : In (zs.getD k 0) := hin _ (getD_mem (by omega))
      have HC := Lib.hid hcell
      clear hcell
      generalize zs.getD k 0 = n at *
      have hs' := hs
      have hn' := hn
      unfold In at hs' hn'
      by_cases hi : In (s + n)
      · have HD := Lib.hid (HS.out.trans ((congrArg (sumFrom s) hd).trans (sumFrom_step hi)))
        clear hd
        have hi' := hi
        unfold In at hi'
        by_cases n0 : n = 0
        · subst n0
          go_wp2
          go_round
          case rel => exact ⟨k + 1, s, by omega, by go_num, rfl, hs, by simpa using HD.out⟩
          case measure => simp [intOf]; omega
        · by_cases n1 : 0 < n
          · go_wp2
            all_goals go_round
            case rel => exact ⟨k + 1, s + n, by omega, by go_num, rfl, hi, HD.out⟩
            case measure => simp [intOf]; omega
            all_goals omega
          · go_wp2
            all_goals go_round
            case rel => exact ⟨k + 1, s + n, by omega, by go_num, rfl, hi, HD.out⟩
            case measure => simp [intOf]; omega
            all_goals omega
      · have HD := Lib.hid (HS.out.trans ((congrArg (sumFrom s) hd).trans (sumFrom_stop hi)))
        clear hd
        have hi' := hi
        unfold In at hi'
        by_cases n1 : 0 < n
        · have hle : wrap64 (s + n) ≤ s := by rw [wrap64_w64]; unfold w64; omega
          have hb : (n == 0) = false := by simp; omega
          go_wp2
          try rw [Exit.noGoto_ret]
          go_ret2
          exact ⟨by rw [sumP_none HD.out]; rfl, rfl⟩
        · have hle : s < wrap64 (s + n) := by rw [wrap64_w64]; unfold w64; omega
          have n0 : n < 0 := by omega
          go_wp2
          try rw [Exit.noGoto_ret]
          go_ret2
          exact ⟨by rw [sumP_none HD.out]; rfl, rfl⟩
    · have hz : sumFrom 0 zs = some s := by rw [HS.out, List.drop_of_length_le (by omega)]; rfl
      have HZ := Lib.hid hz
      clear hz
      go_wp2
      try rw [Exit.noGoto_ret]
      go_ret2
      exact ⟨by rw [sumP_some HZ.out]; rfl, rfl⟩

end Go.Proofs.Ytjcfflpiajefmaa
