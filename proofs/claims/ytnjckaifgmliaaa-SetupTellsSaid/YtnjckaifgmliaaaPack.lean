/- THE WALKS of layer 5, first part: how many bytes a number needs; a clone of bytes. -/
import Derived.Test.YtnjckaifgmliaaaMem
import Derived.Test.YtnjckaifgmliaaaPlainPack
import Derived.Test.YtnjckaifgmliaaaPack0
import Derived.Lib.SliceRun
set_option linter.unusedSimpArgs false
set_option linter.unusedVariables false
namespace Go.Proofs.Ytnjckaifgmliaaa
open Go.RowKit Lu

theorem bitLen_small : ∀ n : Fin 256, (Lib.bitLen n.val + 7) / 8 = (if n.val = 0 then 0 else 1) := by decide +kernel
theorem digN_one {n : Nat} (h : n ≠ 0) (h2 : n < 256) : (digN n).length = 1 := by
  rw [digN_step h, show n / 256 = 0 by omega, digN_zero]
  rfl
/-- So many bytes, of the bits. -/
theorem bitLen_digN (n : Nat) (h : n < 18446744073709551616) : (Lib.bitLen n + 7) / 8 = (digN n).length := by
  induction n using Nat.strongRecOn with
  | _ n ih =>
    by_cases h0 : n < 256
    · have := bitLen_small ⟨n, h0⟩
      simp only at this
      rw [this]
      by_cases hz : n = 0
      · subst hz; rw [digN_zero]; rfl
      · rw [if_neg hz, digN_one hz h0]
    · have h1 := Lib.bitLen_shift8 n (by omega) (by omega)
      have h2 := ih (n / 256) (by omega) (by omega)
      rw [digN_step (by omega), List.length_append, ← h2]
      simp only [List.length_cons, List.length_nil]
      omega
theorem pack_need (n : Int) (L : Nat) (w : World) (h : Pk n) (hL : (digN n.toNat).length = L) :
    Calls Try.prog 52 #[.int .i64 n] w fun e w' => e = .returned (.int .i64 (L : Int)) ∧ w' = w := by
  have h0 := h.1
  have h1 := h.2
  have hl := h.len
  have hb := bitLen_digN n.toNat (by omega)
  have e1 : IntKind.u64.wrap n = n := by rw [IntKind.wrap_u64]; omega
  have e2 : IntKind.i64.wrap ((Lib.bitLen n.toNat : Int) + 7) = (Lib.bitLen n.toNat : Int) + 7 := IntWalk.i64_in _ (by omega)
  have e3 : IntKind.i64.wrap (((Lib.bitLen n.toNat : Int) + 7).tdiv 8) = (L : Int) := by
    rw [Int.tdiv_eq_ediv_of_nonneg (by omega)]
    rw [IntWalk.i64_in _ (by omega)]
    omega
  have HL := Lib.hid hL
  clear hb hL hl
  go_enter Try.func52, Try.ntmps52
  go_wp2_with fail
  refine (bits_Len64 n _ (by omega) (by omega)).mono ?_
  rintro e w' ⟨rfl, rfl⟩
  go_wp2_with fail
  go_ret
  refine ⟨?_, rfl⟩
  first | rfl | (rw [e3]) | simp_all

/-- Bytes in memory. -/
def Row8 (w : World) (a : Option Addr) (len : Nat) (bs : List Int) : Prop :=
  bs.length = len ∧ (len : Int) ≤ 9223372036854775807 ∧ Bytes bs ∧ Cells w a (bs.map (Value.int .u8)) ∧ (a = none → len = 0)
theorem Row8.below {w w' : World} {a : Option Addr} {len : Nat} {bs : List Int} (h : Row8 w a len bs) (hb : Below w.heap.size w w') : Row8 w' a len bs :=
  ⟨h.1, h.2.1, h.2.2.1, h.2.2.2.1.below hb, h.2.2.2.2⟩
theorem oneCell_u8 (bs : List Int) : ∀ u ∈ bs.map (Value.int .u8), u.oneCell' = true := ints_oneCell .u8 bs
theorem infoByte : (Try.prog.info? 5).map (fun i => (i.zero, i.size, i.bytes)) = some (some (.int .u8 0), 1, 1) := by kernel_rfl
theorem Row8.of_own {w : World} {base n : Nat} {v : Value} {bs : List Int} (h : w.ownsRow base 5 1 v n (bs.map (Value.int .u8))) (hb : Bytes bs) (hm : (n : Int) ≤ 9223372036854775807) : ∃ a c, v = .slice a n c ∧ Row8 w a n bs := by
  obtain ⟨a, c, hv, hc⟩ := Cells.of_own h
  have hl : bs.length = n := by have := h.1; simpa using this
  refine ⟨a, c, hv, hl, hm, hb, hc, fun ha => ?_⟩
  subst ha
  rcases hc with h0 | ⟨b, off, hx, _⟩
  · have : bs = [] := by simpa using h0
    rw [← hl, this]; rfl
  · cases hx
theorem Row8_nil (w : World) : Row8 w none 0 [] := ⟨rfl, by decide, fun c hc => by simp at hc, .inl rfl, fun _ => rfl⟩
set_option maxRecDepth 100000 in
/-- slices.Clone at bytes: a row of its own. -/
theorem bytes_Clone (a : Option Addr) (n c : Nat) (bs : List Int) (w : World) (h : Row8 w a n bs) (hn : n ≤ 1000000000000) :
    Calls Try.prog 51 #[.slice a n c] w fun e w' => ∃ v, e = .returned v ∧ w'.ownsRow w.heap.size 5 1 v n (bs.map (Value.int .u8)) ∧ Below w.heap.size w w' := by
  obtain ⟨i0, hi, hz0, hz1, hz2⟩ := info_parts infoByte
  obtain ⟨hl, hm, hb, hc, hna⟩ := h
  have hnil : ∀ (a : Option Addr) (n c : Nat) (w : World), (binOp .eql 31 (.slice a n c) (.slice none 0 0)).run Try.prog w = .ok (.bool a.isNone) w := fun a n c w => Lib.run_eql_slice_nil w _ _ a n c 0 0 Try.underlying31
  cases a with
  | none =>
    obtain rfl := hna rfl
    obtain rfl : bs = [] := List.eq_nil_of_length_eq_zero hl
    clear hi hz0 hz1 hz2
    go_enter Try.func51, Try.ntmps51
    go_wp2_with fail
    go_ret
    exact ⟨_, rfl, ⟨rfl, .inl ⟨rfl, rfl⟩⟩, Below.refl _ _⟩
  | some ad =>
    have own0 := own_empty w 5 1 w.heap.size w.heap.size (Nat.le_refl _) rfl
    have HC := Lib.hid (hc.below (w' := w.alloc (.cells #[] 5)) (by go_grown))
    have HL := Lib.hid hl
    clear hc hl hb hna
    go_enter Try.func51, Try.ntmps51
    go_wp2_with (at_builtin; (refine wpList_append_cells _ rfl (.tmp 5) (.tmp 6) 31 rfl w.heap.size 5 i0 (.int .u8 0) 1 1 Try.underlying31 hi hz0 hz1 hz2 rfl (by decide) _ 0 [] rfl own0 (some ad) n c (bs.map (Value.int .u8)) rfl (by simp [HL.out]) HC.out (by simp) (oneCell_u8 bs) (by unfold maxLen; omega) (by omega) (by simp) ?_; intro v' W' own' grow'))
    have B := below_own (Below.refl w.heap.size w |>.alloc (Nat.le_refl _) (.cells #[] 5)) own0 grow' (Nat.le_refl _) (by simp)
    go_wp2_with fail
    go_ret
    rw [Nat.zero_add, List.nil_append] at own'
    exact ⟨_, rfl, own', B⟩
end Go.Proofs.Ytnjckaifgmliaaa
