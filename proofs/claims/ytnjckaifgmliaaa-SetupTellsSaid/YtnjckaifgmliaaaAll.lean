/- setup.all: whether numbers lie between two: its closure, the library's loop, and the function. -/
import Derived.Test.YtnjckaifgmliaaaNum
import Derived.Test.YtnjckaifgmliaaaMem
import Derived.Test.YtnjckaifgmliaaaPlainSetup
set_option linter.unusedSimpArgs false
set_option linter.unusedVariables false
namespace Go.Proofs.Ytnjckaifgmliaaa
open Go.RowKit Lu


theorem all_closure_out (n lo hi : Int) (p q : Nat) (w : World) (c1 : w.cell? ⟨p, 0, none⟩ = some (.int .i64 lo)) (c2 : w.cell? ⟨q, 0, none⟩ = some (.int .i64 hi)) (h : n < lo ∨ hi < n) :
    Calls Try.prog 107 #[.int .i64 n, .pointer (some ⟨p, 0, none⟩), .pointer (some ⟨q, 0, none⟩)] w fun e w' => e = .returned (.bool true) ∧ w = w' := by
  by_cases a : n < lo
  · clear h
    go_enter Try.func107, Try.ntmps107
    go_wp2
    go_ret
    exact ⟨rfl, rfl⟩
  · have b : hi < n := by omega
    have d : decide (n < lo) = false := by simp; omega
    clear h
    go_enter Try.func107, Try.ntmps107
    go_wp2
    go_ret
    exact ⟨rfl, rfl⟩
theorem all_closure_in (n lo hi : Int) (p q : Nat) (w : World) (c1 : w.cell? ⟨p, 0, none⟩ = some (.int .i64 lo)) (c2 : w.cell? ⟨q, 0, none⟩ = some (.int .i64 hi)) (h1 : lo ≤ n) (h2 : n ≤ hi) :
    Calls Try.prog 107 #[.int .i64 n, .pointer (some ⟨p, 0, none⟩), .pointer (some ⟨q, 0, none⟩)] w fun e w' => e = .returned (.bool false) ∧ w = w' := by
  have d1 : decide (n < lo) = false := by simp; omega
  have d2 : decide (hi < n) = false := by simp; omega
  go_enter Try.func107, Try.ntmps107
  go_wp2
  go_ret
  exact ⟨rfl, rfl⟩

/-- What the loop's answer tells. -/
def Found (b : Bool) (w : World) (e : Ending) (w' : World) : Prop := ∃ i : Int, e = .returned (.int .i64 i) ∧ decide (0 ≤ i) = b ∧ w = w'

theorem indexFunc_int (a : Option Addr) (len cap : Nat) (zs : List Int) (lo hi : Int) (p q : Nat) (w : World) (h : Ints w a len zs) (c1 : w.cell? ⟨p, 0, none⟩ = some (.int .i64 lo)) (c2 : w.cell? ⟨q, 0, none⟩ = some (.int .i64 hi)) :
    Calls Try.prog 118 #[.slice a len cap, .func (.func 107) #[] #[.pointer (some ⟨p, 0, none⟩), .pointer (some ⟨q, 0, none⟩)]] w (Found (!allP lo hi zs) w) := by
  obtain ⟨hl, hm, hin, hc⟩ := h
  go_enter Try.func118, Try.ntmps118
  go_wp2_with fail
  go_loop [8] (fun i => ∃ k : Nat, k ≤ len ∧ i = .int .i64 k ∧ allP lo hi zs = allP lo hi (zs.drop k)) (fun i => len - (intOf i).toNat)
  case atStart => exact ⟨0, Nat.zero_le _, rfl, by simp⟩
  case round =>
    obtain ⟨k, hk, rfl, hrest⟩ := hrel
    have HR := Lib.hid hrest
    clear hrest
    by_cases hlt : k < len
    · obtain ⟨b, off, rfl, hcell⟩ := hc.resolve_left (by omega)
      have hcl := hcell k hlt
      have hd := drop_getD (l := zs) (k := k) (by omega)
      have HC := Lib.hid hcell
      clear hcell hc
      generalize zs.getD k 0 = n at *
      by_cases ho : lo ≤ n ∧ n ≤ hi
      · have hs : allP lo hi zs = allP lo hi (zs.drop (k + 1)) := by rw [HR.out, hd, allP_cons, decide_eq_true ho.1, decide_eq_true ho.2]; rfl
        have HS := Lib.hid hs
        clear hs hd
        go_wp2_with fail
        refine (all_closure_in n lo hi p q w c1 c2 ho.1 ho.2).mono ?_
        rintro e w' ⟨rfl, rfl⟩
        go_wp2_with fail
        go_round
        case rel => exact ⟨k + 1, by omega, by go_num, HS.out⟩
        case measure => simp [intOf]; omega
      · have hs : allP lo hi zs = false := by
          rw [HR.out, hd, allP_cons]
          by_cases a : lo ≤ n
          · have b : ¬ n ≤ hi := fun b => ho ⟨a, b⟩
            simp [b]
          · simp [a]
        have HS := Lib.hid hs
        clear hs hd
        go_wp2_with fail
        refine (all_closure_out n lo hi p q w c1 c2 (by omega)).mono ?_
        rintro e w' ⟨rfl, rfl⟩
        go_wp2_with fail
        go_ret
        exact ⟨k, rfl, by rw [HS.out]; simp, rfl⟩
    · have hs : allP lo hi zs = true := by rw [HR.out, List.drop_of_length_le (by omega)]; rfl
      have HS := Lib.hid hs
      clear hs
      go_wp2_with fail
      go_ret
      exact ⟨-1, rfl, by rw [HS.out]; rfl, rfl⟩

theorem containsFunc_int (a : Option Addr) (len cap : Nat) (zs : List Int) (lo hi : Int) (p q : Nat) (w : World) (h : Ints w a len zs) (c1 : w.cell? ⟨p, 0, none⟩ = some (.int .i64 lo)) (c2 : w.cell? ⟨q, 0, none⟩ = some (.int .i64 hi)) :
    Calls Try.prog 106 #[.slice a len cap, .func (.func 107) #[] #[.pointer (some ⟨p, 0, none⟩), .pointer (some ⟨q, 0, none⟩)]] w fun e w' => e = .returned (.bool (!allP lo hi zs)) ∧ w = w' := by
  have hI := indexFunc_int a len cap zs lo hi p q w h c1 c2
  generalize (!allP lo hi zs) = r at *
  have HI := Lib.hid hI
  clear hI
  go_enter Try.func106, Try.ntmps106
  go_wp2_with fail
  refine HI.out.mono ?_
  rintro e w' ⟨i, rfl, hi', rfl⟩
  go_wp2_with fail
  go_ret
  exact ⟨rfl, rfl⟩

/-- setup.all. -/
theorem setup_all (lo hi : Int) (a : Option Addr) (len cap : Nat) (zs : List Int) (w : World) (h : Ints w a len zs) :
    Calls Try.prog 83 #[.int .i64 lo, .int .i64 hi, .slice a len cap] w fun e w' => e = .returned (.bool (allP lo hi zs)) ∧ Below w.heap.size w w' := by
  have hI := containsFunc_int a len cap zs lo hi w.heap.size (w.heap.size + 1) ((w.alloc (.cells #[.int .i64 lo] 3)).alloc (.cells #[.int .i64 hi] 3)) (h.below (by go_grown)) (by simp [go_sem]) (by simp [go_sem])
  generalize hr : allP lo hi zs = r at *
  have HI := Lib.hid hI
  clear hI hr
  go_enter Try.func83, Try.ntmps83
  go_wp2_with fail
  refine HI.out.mono ?_
  rintro e w' ⟨rfl, rfl⟩
  go_wp2_with fail
  go_ret
  exact ⟨by simp, by go_grown⟩
theorem setup_all_is (lo hi : Int) (r : Bool) (a : Option Addr) (len cap : Nat) (zs : List Int) (w : World) (h : Ints w a len zs) (hr : allP lo hi zs = r) :
    Calls Try.prog 83 #[.int .i64 lo, .int .i64 hi, .slice a len cap] w fun e w' => e = .returned (.bool r) ∧ Below w.heap.size w w' := by
  have := setup_all lo hi a len cap zs w h
  rwa [hr] at this
end Go.Proofs.Ytnjckaifgmliaaa
