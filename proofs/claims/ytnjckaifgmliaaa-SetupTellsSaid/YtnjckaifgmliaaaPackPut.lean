/- THE WALK of layer 5: a number behind bytes. -/
import Derived.Test.YtnjckaifgmliaaaPack
import Derived.Deep.LoopGhost
set_option linter.unusedSimpArgs false
set_option linter.unusedVariables false
namespace Go.Proofs.Ytnjckaifgmliaaa
open Go.RowKit Lu

theorem cells_one (W : World) (v : Value) (T : TypeId) : Cells (W.alloc (.cells #[v] T)) (some ⟨W.heap.size, 0, none⟩) [v] := .inr ⟨W.heap.size, 0, rfl, fun i u hu => by
  obtain rfl : i = 0 := by have := (List.getElem?_eq_some_iff.1 hu).1; simpa using this
  simp at hu
  subst hu
  simp [go_sem]⟩
theorem digN_len_step {n : Nat} (h : n ≠ 0) : (digN n).length = (digN (n / 256)).length + 1 := by rw [digN_step h, List.length_append]; rfl
/-- A digit, by how many stand behind it. -/
theorem digN_at : ∀ (k n : Nat), k < (digN n).length → (digN n)[(digN n).length - 1 - k]? = some (((n / 256 ^ k % 256 : Nat)) : Int)
  | 0, n, h => by
    have h0 : n ≠ 0 := fun z => by subst z; rw [digN_zero] at h; simp at h
    rw [digN_step h0]
    simp
  | k + 1, n, h => by
    have h0 : n ≠ 0 := fun z => by subst z; rw [digN_zero] at h; simp at h
    have hl := digN_len_step h0
    have ih := digN_at k (n / 256) (by omega)
    rw [digN_step h0, List.length_append, List.getElem?_append_left (by simp; omega)]
    simp only [List.length_cons, List.length_nil]
    rw [show (digN (n / 256)).length + (0 + 1) - 1 - (k + 1) = (digN (n / 256)).length - 1 - k by omega, ih, Nat.div_div_eq_div_mul, Nat.pow_succ, Nat.mul_comm]
theorem digN_take {n : Nat} {k : Nat} (h : k < (digN n).length) : (digN n).take ((digN n).length - k) = (digN n).take ((digN n).length - (k + 1)) ++ [((n / 256 ^ k % 256 : Nat) : Int)] := by
  have ha := digN_at k n h
  have hlt : (digN n).length - 1 - k < (digN n).length := by omega
  rw [show (digN n).length - k = ((digN n).length - 1 - k) + 1 by omega, List.take_succ_eq_append_getElem hlt, show (digN n).length - (k + 1) = (digN n).length - 1 - k by omega]
  rw [List.getElem?_eq_getElem hlt] at ha
  rw [Option.some.inj ha]
set_option maxRecDepth 100000 in
theorem byte_digit {n : Int} {k : Nat} (h : 0 ≤ n) : n / 2 ^ (8 * k) % 256 = ((n.toNat / 256 ^ k % 256 : Nat) : Int) := by
  have e : (2 : Nat) ^ (8 * k) = 256 ^ k := by rw [Nat.pow_mul]
  obtain ⟨m, rfl⟩ := Int.eq_ofNat_of_zero_le h
  rw [Int.toNat_natCast, ← e]
  push_cast
  rfl
set_option maxRecDepth 100000 in
set_option maxHeartbeats 4000000 in
theorem pack_Put (n : Int) (a : Option Addr) (len c : Nat) (bs : List Int) (P o cc : Nat) (w : World) (h : Row8 w a len bs) (hl : len ≤ 1000000) (hn : Pk n) (hc : w.cell? ⟨P, o, none⟩ = some (.int .i64 n)) (hP : P < w.heap.size) :
    Calls Try.prog 22 #[.slice a len c, .slice (some ⟨P, o, none⟩) 1 cc] w fun e w' => ∃ v, e = .returned (.tuple #[v, .int .i64 0]) ∧ w'.ownsRow w.heap.size 5 1 v (len + (oneP n).length) ((bs ++ oneP n).map (Value.int .u8)) ∧ Below w.heap.size w w' := by
  obtain ⟨i0, hi, hz0, hz1, hz2⟩ := info_parts infoByte
  obtain ⟨L, hL⟩ : ∃ L, (digN n.toNat).length = L := ⟨_, rfl⟩
  have hn0 := hn.1
  have hL8 : L ≤ 8 := by rw [← hL]; exact hn.len
  have HL := Lib.hid hL
  have HB := Lib.hid h
  have hone : oneP n = (L : Int) :: digN n.toNat := by unfold oneP; rw [hL]
  have hol : (oneP n).length = L + 1 := by rw [hone, List.length_cons, hL]
  have HONE := Lib.hid hone
  have hneg : decide (n < 0) = false := by rw [decide_eq_false_iff_not]; omega
  rw [hol]
  clear h hL hone hol
  go_enter Try.func22, Try.ntmps22
  go_wp2_with fail
  refine (bytes_Clone a len c bs _ HB.out (by omega)).mono ?_
  rintro e1 w1 ⟨v1, rfl, own1, k1⟩
  have hc1 := keepC k1 hc hP
  have HC := Lib.hid hc1
  clear hc hc1
  go_wp2_with fail
  go_loopw [14, 6] (fun i v wr => (i = .int .i64 0 ∧ wr.ownsRow w.heap.size 5 1 v len (bs.map (Value.int .u8)) ∧ Below w.heap.size w wr ∧ wr.cell? ⟨P, o, none⟩ = some (.int .i64 n)) ∨ (i = .int .i64 1 ∧ wr.ownsRow w.heap.size 5 1 v (len + (L + 1)) ((bs ++ oneP n).map (Value.int .u8)) ∧ Below w.heap.size w wr)) (fun i _ _ => 1 - (intOf i).toNat)
  case atStart => exact .inl ⟨rfl, own1, k1, HC.out⟩
  case round =>
    rcases hrel with ⟨rfl, hown, Br, hcr⟩ | ⟨rfl, hown, Br⟩
    · have HOWN := Lib.hid hown
      have zr := Br.size
      clear hown own1
      go_wp2_with fail
      refine (pack_need n L _ hn HL.out).mono ?_
      rintro e2 w2 ⟨rfl, rfl⟩
      have hw8 : IntKind.u8.wrap (L : Int) = (L : Int) := by rw [IntKind.wrap_u8]; omega
      go_wp2_with (at_builtin; (refine wpList_append_cells _ rfl (.tmp 22) (.tmp 25) 31 rfl w.heap.size 5 i0 (.int .u8 0) 1 1 Try.underlying31 hi hz0 hz1 hz2 rfl (by decide) _ (len) _ rfl (HOWN.out.alloc _) (some ⟨w2.heap.size, 0, none⟩) 1 1 [_] rfl rfl (cells_one _ _ _) (by simp) (by intro u hu; simp at hu; subst hu; rfl) (by unfold maxLen; omega) (by omega) (by simp; omega) ?_; intro v' W' own' grow'))
      have Bg := below_own (Br.alloc (by omega) _) (HOWN.out.alloc _) grow' (Nat.le_refl _) (by simp; omega)
      go_wp2_with fail
      go_loopw [9, 6] (fun m v wx => ∃ j : Nat, j ≤ L ∧ m = .int .i64 j ∧ wx.ownsRow w.heap.size 5 1 v (len + 1 + (L - j)) ((bs ++ [(L : Int)] ++ (digN n.toNat).take (L - j)).map (Value.int .u8)) ∧ Below w.heap.size w wx) (fun m _ _ => (intOf m).toNat)
      case atStart => exact ⟨L, Nat.le_refl _, rfl, by simpa using own', Bg⟩
      case round =>
        obtain ⟨j, hj, rfl, hown, Bx⟩ := hrel
        have HOWN := Lib.hid hown
        have zx := Bx.size
        clear hown own' Bg grow'
        by_cases hj0 : j = 0
        · subst hj0
          go_wp2_with fail
          go_roundw
          case rel =>
            refine .inr ⟨by go_num, ?_, Bx⟩
            have ho := HOWN.out
            rw [Nat.sub_zero, ← HL.out, List.take_length, List.append_assoc, List.singleton_append, HL.out, ← HONE.out, show len + 1 + L = len + (L + 1) by omega] at ho
            exact ho
          case measure => simp [intOf]
        · obtain ⟨k, rfl⟩ : ∃ k, j = k + 1 := ⟨j - 1, by omega⟩
          have hp : (0 : Int) < ((k + 1 : Nat) : Int) := by omega
          have hk0 : 0 ≤ 8 * (k : Int) := by omega
          have hk1 : 8 * (k : Int) ≤ 64 := by omega
          have hw1 : IntKind.i64.wrap (((k + 1 : Nat) : Int) - 1) = (k : Int) := by rw [IntWalk.i64_in _ (by omega)]; omega
          have hw2 : IntKind.i64.wrap (8 * (k : Int)) = 8 * (k : Int) := IntWalk.i64_in _ (by omega)
          go_wp2_with (at_builtin; (refine wpList_append_cells _ rfl (.tmp 31) (.tmp 37) 31 rfl w.heap.size 5 i0 (.int .u8 0) 1 1 Try.underlying31 hi hz0 hz1 hz2 rfl (by decide) _ (len + 1 + (L - (k + 1))) _ rfl (HOWN.out.alloc _) (some ⟨wr.heap.size, 0, none⟩) 1 1 [_] rfl rfl (cells_one _ _ _) (by simp) (by intro u hu; simp at hu; subst hu; rfl) (by unfold maxLen; omega) (by omega) (by simp; omega) ?_; intro v' W' own' grow'))
          have Bg := below_own (Bx.alloc (by omega) _) (HOWN.out.alloc _) grow' (Nat.le_refl _) (by simp; omega)
          rw [byte_digit hn0, show ∀ (l : List Int) (x : Int), l.map (Value.int .u8) ++ [Value.int .u8 x] = (l ++ [x]).map (Value.int .u8) from fun l x => by rw [List.map_append]; rfl] at own'
          go_roundw
          case rel =>
            refine ⟨k, by omega, by go_num, ?_, Bg⟩
            have ht := digN_take (n := n.toNat) (k := k) (by rw [HL.out]; omega)
            rw [HL.out] at ht
            rw [List.append_assoc, ← ht, show len + 1 + (L - (k + 1)) + 1 = len + 1 + (L - k) by omega] at own'
            exact own'
          case measure => simp [intOf]
    · go_wp2_with fail
      refine bodyPost_ret (v := .tuple #[u6, .int .i64 0]) (by simp [results, Try.results22, go_sem]) rfl ⟨_, rfl, hown, Br⟩
end Go.Proofs.Ytnjckaifgmliaaa
