/- THE WALK of bits.Len64: how many bits. -/
import Derived.Test.YtnjckaifgmliaaaMem
import Derived.Lib.Strings
import Derived.Lib.Slices
import Derived.Lib.Small
import Derived.Lib.Walk
import Derived.Lib.BitFns
set_option linter.unusedSimpArgs false
set_option linter.unusedVariables false
namespace Go.Proofs.Ytnjckaifgmliaaa
open Go.RowKit Lu

set_option maxHeartbeats 4000000 in
set_option maxRecDepth 100000 in
theorem bits_Len64_0 (x : Int) (w : World) (h0 : 0 ≤ x) (h1 : x ≤ 18446744073709551615) (d1 : decide (4294967296 ≤ x) = false) (d2 : decide (65536 ≤ x) = false) (d3 : decide (256 ≤ x) = false) (i0 : 0 ≤ x) (i1 : x ≤ 255) (L : Nat) (hL : wrap64 (wrap64 (Lib.len8 (x))) = (L : Int)) :
    Calls Try.prog 92 #[.int .u64 x] w fun e w' => e = .returned (.int .i64 (L : Int)) ∧ w' = w := by
  rw [← hL]
  clear hL
  go_enter Try.func92, Try.ntmps92
  go_wp2
  go_ret
  first | exact ⟨rfl, rfl⟩ | (refine ⟨?_, rfl⟩; simp_all [wrap64])
set_option maxHeartbeats 4000000 in
set_option maxRecDepth 100000 in
theorem bits_Len64_1 (x : Int) (w : World) (h0 : 0 ≤ x) (h1 : x ≤ 18446744073709551615) (d1 : decide (4294967296 ≤ x) = false) (d2 : decide (65536 ≤ x) = false) (d3 : decide (256 ≤ x) = true) (i0 : 0 ≤ x / 256) (i1 : x / 256 ≤ 255) (L : Nat) (hL : wrap64 (8 + wrap64 (Lib.len8 (x / 256))) = (L : Int)) :
    Calls Try.prog 92 #[.int .u64 x] w fun e w' => e = .returned (.int .i64 (L : Int)) ∧ w' = w := by
  rw [← hL]
  clear hL
  go_enter Try.func92, Try.ntmps92
  go_wp2
  go_ret
  first | exact ⟨rfl, rfl⟩ | (refine ⟨?_, rfl⟩; simp_all [wrap64])
set_option maxHeartbeats 4000000 in
set_option maxRecDepth 100000 in
theorem bits_Len64_2 (x : Int) (w : World) (h0 : 0 ≤ x) (h1 : x ≤ 18446744073709551615) (d1 : decide (4294967296 ≤ x) = false) (d2 : decide (65536 ≤ x) = true) (d3 : decide (256 ≤ x / 65536) = false) (i0 : 0 ≤ x / 65536) (i1 : x / 65536 ≤ 255) (L : Nat) (hL : wrap64 (16 + wrap64 (Lib.len8 (x / 65536))) = (L : Int)) :
    Calls Try.prog 92 #[.int .u64 x] w fun e w' => e = .returned (.int .i64 (L : Int)) ∧ w' = w := by
  rw [← hL]
  clear hL
  go_enter Try.func92, Try.ntmps92
  go_wp2
  go_ret
  first | exact ⟨rfl, rfl⟩ | (refine ⟨?_, rfl⟩; simp_all [wrap64])
set_option maxHeartbeats 4000000 in
set_option maxRecDepth 100000 in
theorem bits_Len64_3 (x : Int) (w : World) (h0 : 0 ≤ x) (h1 : x ≤ 18446744073709551615) (d1 : decide (4294967296 ≤ x) = false) (d2 : decide (65536 ≤ x) = true) (d3 : decide (256 ≤ x / 65536) = true) (i0 : 0 ≤ x / 65536 / 256) (i1 : x / 65536 / 256 ≤ 255) (L : Nat) (hL : wrap64 (24 + wrap64 (Lib.len8 (x / 65536 / 256))) = (L : Int)) :
    Calls Try.prog 92 #[.int .u64 x] w fun e w' => e = .returned (.int .i64 (L : Int)) ∧ w' = w := by
  rw [← hL]
  clear hL
  go_enter Try.func92, Try.ntmps92
  go_wp2
  go_ret
  first | exact ⟨rfl, rfl⟩ | (refine ⟨?_, rfl⟩; simp_all [wrap64])
set_option maxHeartbeats 4000000 in
set_option maxRecDepth 100000 in
theorem bits_Len64_4 (x : Int) (w : World) (h0 : 0 ≤ x) (h1 : x ≤ 18446744073709551615) (d1 : decide (4294967296 ≤ x) = true) (d2 : decide (65536 ≤ x / 4294967296) = false) (d3 : decide (256 ≤ x / 4294967296) = false) (i0 : 0 ≤ x / 4294967296) (i1 : x / 4294967296 ≤ 255) (L : Nat) (hL : wrap64 (32 + wrap64 (Lib.len8 (x / 4294967296))) = (L : Int)) :
    Calls Try.prog 92 #[.int .u64 x] w fun e w' => e = .returned (.int .i64 (L : Int)) ∧ w' = w := by
  rw [← hL]
  clear hL
  go_enter Try.func92, Try.ntmps92
  go_wp2
  go_ret
  first | exact ⟨rfl, rfl⟩ | (refine ⟨?_, rfl⟩; simp_all [wrap64])
set_option maxHeartbeats 4000000 in
set_option maxRecDepth 100000 in
theorem bits_Len64_5 (x : Int) (w : World) (h0 : 0 ≤ x) (h1 : x ≤ 18446744073709551615) (d1 : decide (4294967296 ≤ x) = true) (d2 : decide (65536 ≤ x / 4294967296) = false) (d3 : decide (256 ≤ x / 4294967296) = true) (i0 : 0 ≤ x / 4294967296 / 256) (i1 : x / 4294967296 / 256 ≤ 255) (L : Nat) (hL : wrap64 (40 + wrap64 (Lib.len8 (x / 4294967296 / 256))) = (L : Int)) :
    Calls Try.prog 92 #[.int .u64 x] w fun e w' => e = .returned (.int .i64 (L : Int)) ∧ w' = w := by
  rw [← hL]
  clear hL
  go_enter Try.func92, Try.ntmps92
  go_wp2
  go_ret
  first | exact ⟨rfl, rfl⟩ | (refine ⟨?_, rfl⟩; simp_all [wrap64])
set_option maxHeartbeats 4000000 in
set_option maxRecDepth 100000 in
theorem bits_Len64_6 (x : Int) (w : World) (h0 : 0 ≤ x) (h1 : x ≤ 18446744073709551615) (d1 : decide (4294967296 ≤ x) = true) (d2 : decide (65536 ≤ x / 4294967296) = true) (d3 : decide (256 ≤ x / 4294967296 / 65536) = false) (i0 : 0 ≤ x / 4294967296 / 65536) (i1 : x / 4294967296 / 65536 ≤ 255) (L : Nat) (hL : wrap64 (48 + wrap64 (Lib.len8 (x / 4294967296 / 65536))) = (L : Int)) :
    Calls Try.prog 92 #[.int .u64 x] w fun e w' => e = .returned (.int .i64 (L : Int)) ∧ w' = w := by
  rw [← hL]
  clear hL
  go_enter Try.func92, Try.ntmps92
  go_wp2
  go_ret
  first | exact ⟨rfl, rfl⟩ | (refine ⟨?_, rfl⟩; simp_all [wrap64])
set_option maxHeartbeats 4000000 in
set_option maxRecDepth 100000 in
theorem bits_Len64_7 (x : Int) (w : World) (h0 : 0 ≤ x) (h1 : x ≤ 18446744073709551615) (d1 : decide (4294967296 ≤ x) = true) (d2 : decide (65536 ≤ x / 4294967296) = true) (d3 : decide (256 ≤ x / 4294967296 / 65536) = true) (i0 : 0 ≤ x / 4294967296 / 65536 / 256) (i1 : x / 4294967296 / 65536 / 256 ≤ 255) (L : Nat) (hL : wrap64 (56 + wrap64 (Lib.len8 (x / 4294967296 / 65536 / 256))) = (L : Int)) :
    Calls Try.prog 92 #[.int .u64 x] w fun e w' => e = .returned (.int .i64 (L : Int)) ∧ w' = w := by
  rw [← hL]
  clear hL
  go_enter Try.func92, Try.ntmps92
  go_wp2
  go_ret
  first | exact ⟨rfl, rfl⟩ | (refine ⟨?_, rfl⟩; simp_all [wrap64])
theorem bits_Len64 (x : Int) (w : World) (h0 : 0 ≤ x) (h1 : x ≤ 18446744073709551615) :
    Calls Try.prog 92 #[.int .u64 x] w fun e w' => e = .returned (.int .i64 (Lib.bitLen x.toNat)) ∧ w' = w := by
  by_cases c1 : 4294967296 ≤ x
  · by_cases c2 : 65536 ≤ x / 4294967296
    · by_cases c3 : 256 ≤ x / 4294967296 / 65536
      · refine bits_Len64_7 x w h0 h1 (by rw [decide_eq_true_iff]; exact c1) (by rw [decide_eq_true_iff]; exact c2) (by rw [decide_eq_true_iff]; exact c3) (by omega) (by omega) _ ?_
        rw [Lib.len8_of (x / 4294967296 / 65536 / 256) (by omega) (by omega)]
        have l := Lib.bitLen_le8' (x / 4294967296 / 65536 / 256) (by omega) (by omega)
        have e : (x / 4294967296 / 65536 / 256).toNat = x.toNat / 72057594037927936 := by omega
        have s := Lib.bitLen_shift56 x.toNat (by omega) (by omega)
        rw [e] at l ⊢
        unfold wrap64
        omega
      · refine bits_Len64_6 x w h0 h1 (by rw [decide_eq_true_iff]; exact c1) (by rw [decide_eq_true_iff]; exact c2) (by rw [decide_eq_false_iff_not]; exact c3) (by omega) (by omega) _ ?_
        rw [Lib.len8_of (x / 4294967296 / 65536) (by omega) (by omega)]
        have l := Lib.bitLen_le8' (x / 4294967296 / 65536) (by omega) (by omega)
        have e : (x / 4294967296 / 65536).toNat = x.toNat / 281474976710656 := by omega
        have s := Lib.bitLen_shift48 x.toNat (by omega) (by omega)
        rw [e] at l ⊢
        unfold wrap64
        omega
    · by_cases c3 : 256 ≤ x / 4294967296
      · refine bits_Len64_5 x w h0 h1 (by rw [decide_eq_true_iff]; exact c1) (by rw [decide_eq_false_iff_not]; exact c2) (by rw [decide_eq_true_iff]; exact c3) (by omega) (by omega) _ ?_
        rw [Lib.len8_of (x / 4294967296 / 256) (by omega) (by omega)]
        have l := Lib.bitLen_le8' (x / 4294967296 / 256) (by omega) (by omega)
        have e : (x / 4294967296 / 256).toNat = x.toNat / 1099511627776 := by omega
        have s := Lib.bitLen_shift40 x.toNat (by omega) (by omega)
        rw [e] at l ⊢
        unfold wrap64
        omega
      · refine bits_Len64_4 x w h0 h1 (by rw [decide_eq_true_iff]; exact c1) (by rw [decide_eq_false_iff_not]; exact c2) (by rw [decide_eq_false_iff_not]; exact c3) (by omega) (by omega) _ ?_
        rw [Lib.len8_of (x / 4294967296) (by omega) (by omega)]
        have l := Lib.bitLen_le8' (x / 4294967296) (by omega) (by omega)
        have e : (x / 4294967296).toNat = x.toNat / 4294967296 := by omega
        have s := Lib.bitLen_shift32 x.toNat (by omega) (by omega)
        rw [e] at l ⊢
        unfold wrap64
        omega
  · by_cases c2 : 65536 ≤ x
    · by_cases c3 : 256 ≤ x / 65536
      · refine bits_Len64_3 x w h0 h1 (by rw [decide_eq_false_iff_not]; exact c1) (by rw [decide_eq_true_iff]; exact c2) (by rw [decide_eq_true_iff]; exact c3) (by omega) (by omega) _ ?_
        rw [Lib.len8_of (x / 65536 / 256) (by omega) (by omega)]
        have l := Lib.bitLen_le8' (x / 65536 / 256) (by omega) (by omega)
        have e : (x / 65536 / 256).toNat = x.toNat / 16777216 := by omega
        have s := Lib.bitLen_shift24 x.toNat (by omega) (by omega)
        rw [e] at l ⊢
        unfold wrap64
        omega
      · refine bits_Len64_2 x w h0 h1 (by rw [decide_eq_false_iff_not]; exact c1) (by rw [decide_eq_true_iff]; exact c2) (by rw [decide_eq_false_iff_not]; exact c3) (by omega) (by omega) _ ?_
        rw [Lib.len8_of (x / 65536) (by omega) (by omega)]
        have l := Lib.bitLen_le8' (x / 65536) (by omega) (by omega)
        have e : (x / 65536).toNat = x.toNat / 65536 := by omega
        have s := Lib.bitLen_shift16 x.toNat (by omega) (by omega)
        rw [e] at l ⊢
        unfold wrap64
        omega
    · by_cases c3 : 256 ≤ x
      · refine bits_Len64_1 x w h0 h1 (by rw [decide_eq_false_iff_not]; exact c1) (by rw [decide_eq_false_iff_not]; exact c2) (by rw [decide_eq_true_iff]; exact c3) (by omega) (by omega) _ ?_
        rw [Lib.len8_of (x / 256) (by omega) (by omega)]
        have l := Lib.bitLen_le8' (x / 256) (by omega) (by omega)
        have e : (x / 256).toNat = x.toNat / 256 := by omega
        have s := Lib.bitLen_shift8 x.toNat (by omega) (by omega)
        rw [e] at l ⊢
        unfold wrap64
        omega
      · refine bits_Len64_0 x w h0 h1 (by rw [decide_eq_false_iff_not]; exact c1) (by rw [decide_eq_false_iff_not]; exact c2) (by rw [decide_eq_false_iff_not]; exact c3) (by omega) (by omega) _ ?_
        rw [Lib.len8_of (x) (by omega) (by omega)]
        have l := Lib.bitLen_le8' (x) (by omega) (by omega)
        unfold wrap64
        omega
end Go.Proofs.Ytnjckaifgmliaaa
