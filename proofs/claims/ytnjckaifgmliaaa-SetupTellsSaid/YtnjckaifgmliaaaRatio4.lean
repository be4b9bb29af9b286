/- THE WALK of ratio.Sum. -/
import Derived.Test.YtnjckaifgmliaaaRatio3
set_option linter.unusedSimpArgs false
set_option linter.unusedVariables false
namespace Go.Proofs.Ytnjckaifgmliaaa
open Go.RowKit Lu

/-- A slice of ratios reads as a list of pairs. -/
def Ratios (w : World) (a : Option Addr) (len : Nat) (rs : List (Int × Int)) : Prop :=
  rs.length = len ∧ (len : Int) ≤ 9223372036854775807 ∧ (∀ r ∈ rs, In r.1 ∧ In r.2) ∧
  (len = 0 ∨ ∃ b off, a = some ⟨b, off, none⟩ ∧ b < w.heap.size ∧ ∀ i, i < len → w.cell? ⟨b, off + i * 2, none⟩ = some (.int .i64 (rs.getD i (0, 0)).1) ∧ w.cell? ⟨b, off + i * 2 + 1, none⟩ = some (.int .i64 (rs.getD i (0, 0)).2))

theorem Ratios.below {w w' : World} {a : Option Addr} {len : Nat} {rs : List (Int × Int)} (h : Ratios w a len rs) (hb : Below w.heap.size w w') : Ratios w' a len rs := by
  obtain ⟨h1, h2, h3, h4⟩ := h
  refine ⟨h1, h2, h3, ?_⟩
  rcases h4 with h4 | ⟨b, off, ha, hlt, hc⟩
  · exact Or.inl h4
  · exact Or.inr ⟨b, off, ha, Nat.lt_of_lt_of_le hlt hb.size, fun i hi => ⟨(hb.cell (p := ⟨b, off + i * 2, none⟩) hlt).trans (hc i hi).1, (hb.cell (p := ⟨b, off + i * 2 + 1, none⟩) hlt).trans (hc i hi).2⟩⟩

/-- What the rounds hold: the sum so far lies in the call's own first block. -/
structure SumInv (w wr : World) (x y : Int) : Prop where
  below : Below w.heap.size w wr
  size : w.heap.size < wr.heap.size
  c0 : wr.cell? ⟨w.heap.size, 0, none⟩ = some (.int .i64 x)
  c1 : wr.cell? ⟨w.heap.size, 1, none⟩ = some (.int .i64 y)
  f0 : wr.frozen? ⟨w.heap.size, 0, none⟩ = false
  f1 : wr.frozen? ⟨w.heap.size, 1, none⟩ = false
theorem SumInv.later {w wr w' : World} {x y : Int} (h : SumInv w wr x y) (hb : Below (w.heap.size + 1) wr w') : SumInv w w' x y :=
  ⟨h.below.trans (hb.mono (by omega)), Nat.lt_of_lt_of_le h.size hb.size, keepC hb h.c0 (by simp), keepC hb h.c1 (by simp), keepF hb h.f0 (by simp), keepF hb h.f1 (by simp)⟩

theorem SumInv.put {w w2 : World} {x y : Int} (h : SumInv w w2 x y) (u v : Int) : SumInv w ((w2.setCell ⟨w.heap.size, 0, none⟩ (.int .i64 u)).setCell ⟨w.heap.size, 1, none⟩ (.int .i64 v)) u v := by
  have c0 := h.c0
  have c1 := h.c1
  have f0 := h.f0
  have f1 := h.f1
  have hb := h.below
  refine ⟨by go_grown, by simpa [World.setCell] using h.size, ?_, ?_, ?_, ?_⟩ <;> simp [go_sem, c0, c1, f0, f1]

theorem allOk_step {rs : List (Int × Int)} {k : Nat} (hk : k < rs.length) (h : AllOk rs ↔ AllOk (rs.drop k)) (ho : Ok (rs.getD k (0, 0)).1 (rs.getD k (0, 0)).2) : AllOk rs ↔ AllOk (rs.drop (k + 1)) := by
  rw [h, drop_getD2 hk]
  unfold AllOk
  simp only [List.mem_cons, forall_eq_or_imp]
  exact ⟨fun h => h.2, fun h => ⟨ho, h⟩⟩
theorem allOk_no {rs : List (Int × Int)} {k : Nat} (hk : k < rs.length) (ho : ¬ Ok (rs.getD k (0, 0)).1 (rs.getD k (0, 0)).2) : ¬ AllOk rs := fun h => ho (h _ (getD_mem2 hk))

set_option maxHeartbeats 1000000 in
/-- ratio.Sum. -/
theorem ratio_Sum (a : Option Addr) (len cap : Nat) (rs : List (Int × Int)) (w : World) (h : Ratios w a len rs) :
    Calls Try.prog 55 #[.slice a len cap] w fun e w' => e = .returned (.tuple #[.agg #[.int .i64 (sumRP rs).1.1, .int .i64 (sumRP rs).1.2], .int .i64 (sumRP rs).2]) ∧ Below w.heap.size w w' := by
  obtain ⟨hl, hm, hin, hc⟩ := h
  go_enter Try.func55, Try.ntmps55
  go_wp2_with fail
  refine (ratio_zero _).mono ?_
  rintro e1 w1 ⟨rfl, k1⟩
  have z1 : w.heap.size < w1.heap.size := by have := k1.size; simp at this; omega
  have B1 : Below (w.heap.size + 1) (w.alloc (.cells #[.int .i64 0, .int .i64 0] 24)) w1 := k1.mono (by simp)
  obtain ⟨hc1, hf1⟩ := old_cells B1
  have hB1 : Below w.heap.size w w1 := by
    refine Below.trans ?_ (B1.mono (by omega))
    go_grown
  go_wp2_with fail
  have I1 : SumInv w ((w1.setCell ⟨w.heap.size, 0, none⟩ (.int .i64 0)).setCell ⟨w.heap.size, 1, none⟩ (.int .i64 1)) 0 1 := by
    refine ⟨by go_grown, by simpa [World.setCell] using z1, ?_, ?_, ?_, ?_⟩ <;> simp [go_sem, hc1, hf1]
  clear hc1 hf1 B1 k1 z1 hB1
  generalize ((w1.setCell ⟨w.heap.size, 0, none⟩ (.int .i64 0)).setCell ⟨w.heap.size, 1, none⟩ (.int .i64 1)) = W1 at *
  go_loopw [11] (fun i wr => ∃ k : Nat, k ≤ len ∧ i = .int .i64 k ∧ (AllOk rs ↔ AllOk (rs.drop k)) ∧ SumInv w wr 0 1) (fun i _ => len - (intOf i).toNat)
  case atStart => exact ⟨0, Nat.zero_le _, rfl, by simp, I1⟩
  case round =>
    obtain ⟨k, hk, rfl, hall, inv⟩ := hrel
    have HA := Lib.hid hall
    clear hall
    by_cases hlt : k < len
    · obtain ⟨b, off, rfl, hbl, hcell⟩ := hc.resolve_left (by omega)
      have hr := hin _ (getD_mem2 (l := rs) (k := k) (by omega))
      have d0 : wr.cell? ⟨b, off + k * 2, none⟩ = some (.int .i64 (rs.getD k (0, 0)).1) := keepC inv.below (hcell k hlt).1 hbl
      have d1 : wr.cell? ⟨b, off + k * 2 + 1, none⟩ = some (.int .i64 (rs.getD k (0, 0)).2) := keepC inv.below (hcell k hlt).2 hbl
      have hbr : b < wr.heap.size := Nat.lt_of_lt_of_le hbl inv.below.size
      have st := allOk_step (rs := rs) (k := k) (by omega) HA.out
      have sn := allOk_no (rs := rs) (k := k) (by omega)
      have HC := Lib.hid hcell
      clear hcell hc
      obtain ⟨x, y, hxy⟩ : ∃ x y, rs.getD k (0, 0) = (x, y) := ⟨_, _, rfl⟩
      rw [hxy] at hr d0 d1 st sn
      have HX := Lib.hid hxy
      have ST := Lib.hid st
      have SN := Lib.hid sn
      clear hxy st sn
      obtain ⟨hx, hy⟩ := hr
      have c0 := inv.c0
      have c1 := inv.c1
      have f0 := inv.f0
      have f1 := inv.f1
      have sz := inv.size
      by_cases ho : Ok x y
      · have HO := Lib.hid (ST.out ho)
        clear ST SN
        go_wp2_with fail
        refine (ratio_Check_yes x y ho _).mono ?_
        rintro e2 w2 ⟨rfl, k2⟩
        have k2' : Below wr.heap.size wr w2 := by
          refine Below.trans ?_ (k2.mono (by simp))
          go_grown
        have inv2 := inv.later (k2'.mono (by omega))
        go_wp2_with fail
        go_roundw
        case rel => exact ⟨k + 1, by omega, by go_num, HO.out, inv2⟩
        case measure => simp [intOf]; omega
      · have HO := Lib.hid (SN.out ho)
        clear ST SN
        go_wp2_with fail
        refine (ratio_Check_no x y hx hy ho _).mono ?_
        rintro e2 w2 ⟨rfl, k2⟩
        have k2' : Below wr.heap.size wr w2 := by
          refine Below.trans ?_ (k2.mono (by simp))
          go_grown
        have inv2 := inv.later (k2'.mono (by omega))
        clear inv c0 c1 f0 f1 d0 d1
        have c0 := inv2.c0
        have c1 := inv2.c1
        have f0 := inv2.f0
        have f1 := inv2.f1
        have hb2 := inv2.below
        go_wp2_with fail
        have hv : sumRP rs = ((0, 0), 20) := by unfold sumRP; rw [if_neg HO.out]
        rw [hv]
        refine bodyPost_ret (v := .tuple #[.agg #[.int .i64 0, .int .i64 0], .int .i64 20]) (by simp [results, Try.results55, go_sem, c0, c1]) rfl ⟨rfl, ?_⟩
        go_grown
    · have hall : AllOk rs := HA.out.2 (by rw [List.drop_of_length_le (by omega)]; intro r hr; cases hr)
      have hv : sumRP rs = sumRFrom 0 1 rs := by unfold sumRP; rw [if_pos hall]
      have HALL := Lib.hid hall
      have HV := Lib.hid hv
      clear hall hv HA
      obtain ⟨wo, rfl⟩ : ∃ wo : World, wo = wr := ⟨_, rfl⟩
      go_wp2_with fail
      have o01 : Ok 0 1 := by decide
      go_loopw [22] (fun i wr => ∃ (k : Nat) (x y : Int), k ≤ len ∧ i = .int .i64 k ∧ Ok x y ∧ sumRFrom 0 1 rs = sumRFrom x y (rs.drop k) ∧ SumInv w wr x y) (fun i _ => len - (intOf i).toNat)
      case atStart => exact ⟨0, 0, 1, Nat.zero_le _, rfl, o01, by simp, inv⟩
      case round =>
        obtain ⟨k, x, y, hk, rfl, hxy, hsum, inv⟩ := hrel
        have HS := Lib.hid hsum
        clear hsum
        by_cases hlt : k < len
        · obtain ⟨b, off, rfl, hbl, hcell⟩ := hc.resolve_left (by omega)
          have hr := hin _ (getD_mem2 (l := rs) (k := k) (by omega))
          have ho := HALL.out _ (getD_mem2 (l := rs) (k := k) (by omega))
          have d0 : wr.cell? ⟨b, off + k * 2, none⟩ = some (.int .i64 (rs.getD k (0, 0)).1) := keepC inv.below (hcell k hlt).1 hbl
          have d1 : wr.cell? ⟨b, off + k * 2 + 1, none⟩ = some (.int .i64 (rs.getD k (0, 0)).2) := keepC inv.below (hcell k hlt).2 hbl
          have hbr : b < wr.heap.size := Nat.lt_of_lt_of_le hbl inv.below.size
          have hd := drop_getD2 (l := rs) (k := k) (by omega)
          have HC := Lib.hid hcell
          clear hcell hc
          obtain ⟨x2, y2, hxy2⟩ : ∃ x y, rs.getD k (0, 0) = (x, y) := ⟨_, _, rfl⟩
          rw [hxy2] at hr d0 d1 ho hd
          obtain ⟨hx, hy⟩ := hr
          obtain ⟨u, v, f, hadd⟩ : ∃ u v f, addRP x y x2 y2 = ((u, v), f) := ⟨_, _, _, rfl⟩
          have HD := Lib.hid hd
          have HADD := Lib.hid hadd
          clear hxy2 hd hadd
          have c0 := inv.c0
          have c1 := inv.c1
          have f0 := inv.f0
          have f1 := inv.f1
          have sz := inv.size
          have hbw : b < w.heap.size := hbl
          go_wp2_with fail
          refine (ratio_add_is x y x2 y2 u v f _ hxy.in1 hxy.in2 hx hy HADD.out).mono ?_
          rintro e2 w2 ⟨rfl, k2⟩
          have k2' : Below wr.heap.size wr w2 := by
            refine Below.trans ?_ (k2.mono (by simp))
            go_grown
          have inv2 := inv.later (k2'.mono (by omega))
          clear inv c0 c1 f0 f1 d0 d1
          have c0 := inv2.c0
          have c1 := inv2.c1
          have f0 := inv2.f0
          have f1 := inv2.f1
          have hb2 := inv2.below
          have sz2 := inv2.size
          by_cases hf : f = 0
          · subst hf
            have hsum2 := HS.out.trans ((congrArg (sumRFrom x y) HD.out).trans (sumRFrom_ok (r := (x2, y2)) HADD.out))
            have ou := (two_ok (fun h1 h2 => add_in h1 h2) HADD.out).2.2.1
            have HS2 := Lib.hid hsum2
            clear hsum2
            go_wp2_with fail
            go_roundw
            case rel =>
              exact ⟨k + 1, u, v, by omega, by go_num, ou, HS2.out, inv2.put u v⟩
            case measure => simp [intOf]; omega
          · have hv := HV.out.trans (HS.out.trans ((congrArg (sumRFrom x y) HD.out).trans (sumRFrom_err (r := (x2, y2)) HADD.out hf)))
            have HV2 := Lib.hid hv
            have df : (f != 0) = true := by simp [hf]
            clear hv
            go_wp2_with fail
            rw [HV2.out]
            have inv3 := (inv2.put u v).put 0 0
            have e0 := inv3.c0
            have e1 := inv3.c1
            refine bodyPost_ret (v := .tuple #[.agg #[.int .i64 0, .int .i64 0], .int .i64 f]) (by simp [results, Try.results55, go_sem, e0, e1]) rfl ⟨rfl, inv3.below⟩
        · have hv := HV.out.trans (HS.out.trans (by rw [List.drop_of_length_le (by omega)]; rfl) : sumRFrom 0 1 rs = ((x, y), 0))
          have HV2 := Lib.hid hv
          clear hv
          have c0 := inv.c0
          have c1 := inv.c1
          have f0 := inv.f0
          have f1 := inv.f1
          have hb2 := inv.below
          go_wp2_with fail
          rw [HV2.out]
          refine bodyPost_ret (v := .tuple #[.agg #[.int .i64 x, .int .i64 y], .int .i64 0]) (by simp [results, Try.results55, go_sem, c0, c1]) rfl ⟨rfl, ?_⟩
          go_grown

theorem ratio_Sum_is (a : Option Addr) (len cap : Nat) (rs : List (Int × Int)) (x y e : Int) (w : World) (h : Ratios w a len rs) (hs : sumRP rs = ((x, y), e)) :
    Calls Try.prog 55 #[.slice a len cap] w fun r w' => r = .returned (.tuple #[.agg #[.int .i64 x, .int .i64 y], .int .i64 e]) ∧ Below w.heap.size w w' := by
  have := ratio_Sum a len cap rs w h
  rwa [hs] at this
end Go.Proofs.Ytnjckaifgmliaaa
