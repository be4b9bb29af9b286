/- THE WALK of lumperref02.Sum. -/
import Derived.Test.YtnjckaifgmliaaaRef02
import Derived.Deep.RegionHeld3
set_option linter.unusedSimpArgs false
set_option linter.unusedVariables false
namespace Go.Proofs.Ytnjckaifgmliaaa
open Go.RowKit Lu

theorem ok_neg {x y : Int} : Ok (-x) y ↔ Ok x y := by
  unfold Ok
  rw [Int.natAbs_neg]
  omega
theorem minus_neg (o1 o2 x y : Int) : minusP o1 o2 (-x) y = addRP o1 o2 x y := by
  unfold minusP addRP twoP
  rw [Int.neg_mul, Int.sub_neg]
  by_cases h : Ok o1 o2 ∧ Ok x y
  · rw [if_pos h, if_pos ⟨h.1, ok_neg.2 h.2⟩]
  · rw [if_neg h, if_neg (fun k => h ⟨k.1, ok_neg.1 k.2⟩)]

theorem keepS {W : World} {p q : Addr} {v : Value} (u : Value) (h : W.cell? p = some v) (hne : p.block ≠ q.block) : (W.setCell q u).cell? p = some v := by
  rw [World.cell?_setCell_other W q p u (fun e => hne (by rw [e]))]
  exact h

/-- What the rounds hold: an own block in front for the answer, one for the sum so far. -/
structure SumInv2 (w wr : World) (s : Nat) (x y : Int) : Prop where
  below : Below w.heap.size w wr
  lt : w.heap.size < s
  r : Own wr w.heap.size 0 0
  s : Own wr s x y
theorem SumInv2.later {w wr w' : World} {s : Nat} {x y : Int} (h : SumInv2 w wr s x y) (hb : Below wr.heap.size wr w') : SumInv2 w w' s x y :=
  ⟨h.below.trans (hb.mono h.below.size), h.lt, h.r.below hb, h.s.below hb⟩
theorem SumInv2.put {w w2 : World} {s : Nat} {x y : Int} (h : SumInv2 w w2 s x y) (u v : Int) : SumInv2 w ((w2.setCell ⟨s, 0, none⟩ (.int .i64 u)).setCell ⟨s, 1, none⟩ (.int .i64 v)) s u v := by
  obtain ⟨hb, hz, ⟨l1, c1, d1, f1, g1⟩, ⟨l2, c2, d2, f2, g2⟩⟩ := h
  have hne : ¬ s = w.heap.size := by omega
  have hne' : ¬ w.heap.size = s := by omega
  refine ⟨(hb.setCell (p := ⟨s, 0, none⟩) (by simp; omega) _).setCell (p := ⟨s, 1, none⟩) (by simp; omega) _, hz, ⟨by simpa [World.setCell] using l1, ?_, ?_, ?_, ?_⟩, ⟨by simpa [World.setCell] using l2, ?_, ?_, ?_, ?_⟩⟩ <;> simp [go_sem, c1, d1, f1, g1, c2, d2, f2, g2, hne, hne']

set_option maxHeartbeats 2000000 in
/-- lumperref02.Sum. -/
theorem ref2_Sum (a : Option Addr) (len cap : Nat) (rs : List (Int × Int)) (w : World) (h : Ratios w a len rs) :
    Calls Try.prog 63 #[.slice a len cap] w fun e w' => e = .returned (.tuple #[.agg #[.int .i64 (sumRP rs).1.1, .int .i64 (sumRP rs).1.2], .int .i64 (sumRP rs).2]) ∧ Below w.heap.size w w' := by
  obtain ⟨hl, hm, hin, hc⟩ := h
  go_enter Try.func63, Try.ntmps63
  go_wp2_with fail
  have I1 : Below w.heap.size w (w.alloc (.cells #[.int .i64 0, .int .i64 0] 24)) ∧ Own (w.alloc (.cells #[.int .i64 0, .int .i64 0] 24)) w.heap.size 0 0 := ⟨by go_grown, Own.new' rfl⟩
  generalize (w.alloc (.cells #[.int .i64 0, .int .i64 0] 24)) = W1 at *
  go_loopw [4] (fun i wr => ∃ k : Nat, k ≤ len ∧ i = .int .i64 k ∧ (AllOk rs ↔ AllOk (rs.drop k)) ∧ Below w.heap.size w wr ∧ Own wr w.heap.size 0 0) (fun i _ => len - (intOf i).toNat)
  case atStart => exact ⟨0, Nat.zero_le _, rfl, by simp, I1.1, I1.2⟩
  case round =>
    obtain ⟨k, hk, rfl, hall, hb, own⟩ := hrel
    have HA := Lib.hid hall
    clear hall I1
    by_cases hlt : k < len
    · obtain ⟨b, off, rfl, hbl, hcell⟩ := hc.resolve_left (by omega)
      have hr := hin _ (getD_mem2 (l := rs) (k := k) (by omega))
      have d0 : wr.cell? ⟨b, off + k * 2, none⟩ = some (.int .i64 (rs.getD k (0, 0)).1) := keepC hb (hcell k hlt).1 hbl
      have d1 : wr.cell? ⟨b, off + k * 2 + 1, none⟩ = some (.int .i64 (rs.getD k (0, 0)).2) := keepC hb (hcell k hlt).2 hbl
      have hbr : b < wr.heap.size := Nat.lt_of_lt_of_le hbl hb.size
      have st := allOk_step (rs := rs) (k := k) (by omega) HA.out
      have sn := allOk_no (rs := rs) (k := k) (by omega)
      have HC := Lib.hid hcell
      clear hcell hc
      obtain ⟨x, y, hxy⟩ : ∃ x y, rs.getD k (0, 0) = (x, y) := ⟨_, _, rfl⟩
      rw [hxy] at hr d0 d1 st sn
      have HX := Lib.hid hxy
      have ST := Lib.hid st
      have SN := Lib.hid sn
      clear hxy st sn
      obtain ⟨hx, hy⟩ := hr
      by_cases ho : Ok x y
      · have HO := Lib.hid (ST.out ho)
        clear ST SN
        go_wp2_with fail
        refine (ref2_Check_yes x y ho _).mono ?_
        rintro e2 w2 ⟨rfl, k2⟩
        have hb2 := hb.trans (k2.mono hb.size)
        have own2 := own.below k2
        go_wp2_with fail
        go_roundw
        case rel => exact ⟨k + 1, by omega, by go_num, HO.out, hb2, own2⟩
        case measure => simp [intOf]; omega
      · have HO := Lib.hid (SN.out ho)
        clear ST SN
        go_wp2_with fail
        refine (ref2_Check_no x y hx hy ho _).mono ?_
        rintro e2 w2 ⟨rfl, k2⟩
        have hb2 := hb.trans (k2.mono hb.size)
        obtain ⟨l2, c2, c3, f2, f3⟩ := own.below k2
        clear own d0 d1
        go_wp2_with fail
        have hv : sumRP rs = ((0, 0), 20) := by unfold sumRP; rw [if_neg HO.out]
        rw [hv]
        refine bodyPost_ret (v := .tuple #[.agg #[.int .i64 0, .int .i64 0], .int .i64 20]) (by simp [results, Try.results63, go_sem, c2, c3]) rfl ⟨rfl, ?_⟩
        go_grown
    · have hall : AllOk rs := HA.out.2 (by rw [List.drop_of_length_le (by omega)]; intro r hr; cases hr)
      have hv : sumRP rs = sumRFrom 0 1 rs := by unfold sumRP; rw [if_pos hall]
      have HALL := Lib.hid hall
      have HV := Lib.hid hv
      clear hall hv HA
      obtain ⟨wo, rfl⟩ : ∃ wo : World, wo = wr := ⟨_, rfl⟩
      go_wp2_with fail
      have inv : SumInv2 w (wo.alloc (.cells #[.int .i64 0, .int .i64 1] 24)) wo.heap.size 0 1 := ⟨hb.alloc hb.size _, own.lt, own.alloc _, Own.new' rfl⟩
      generalize (wo.alloc (.cells #[.int .i64 0, .int .i64 1] 24)) = W2 at *
      generalize wo.heap.size = s at *
      clear own hb
      have o01 : Ok 0 1 := by decide
      go_loopw [7] (fun i wr => ∃ (k : Nat) (x y : Int), k ≤ len ∧ i = .int .i64 k ∧ Ok x y ∧ sumRFrom 0 1 rs = sumRFrom x y (rs.drop k) ∧ SumInv2 w wr s x y) (fun i _ => len - (intOf i).toNat)
      case atStart => exact ⟨0, 0, 1, Nat.zero_le _, rfl, o01, by simp, inv⟩
      case round =>
        obtain ⟨k, x, y, hk, rfl, hxy, hsum, inv⟩ := hrel
        have HS := Lib.hid hsum
        clear hsum
        by_cases hlt : k < len
        · obtain ⟨b, off, rfl, hbl, hcell⟩ := hc.resolve_left (by omega)
          have hr := hin _ (getD_mem2 (l := rs) (k := k) (by omega))
          have ho := HALL.out _ (getD_mem2 (l := rs) (k := k) (by omega))
          have d0 : wr.cell? ⟨b, off + k * 2, none⟩ = some (.int .i64 (rs.getD k (0, 0)).1) := keepC inv.below (hcell k hlt).1 hbl
          have d1 : wr.cell? ⟨b, off + k * 2 + 1, none⟩ = some (.int .i64 (rs.getD k (0, 0)).2) := keepC inv.below (hcell k hlt).2 hbl
          have hbr : b < wr.heap.size := Nat.lt_of_lt_of_le hbl inv.below.size
          have hd := drop_getD2 (l := rs) (k := k) (by omega)
          have HC := Lib.hid hcell
          clear hcell hc
          obtain ⟨x2, y2, hxy2⟩ : ∃ x y, rs.getD k (0, 0) = (x, y) := ⟨_, _, rfl⟩
          rw [hxy2] at hr d0 d1 ho hd
          obtain ⟨hx, hy⟩ := hr
          obtain ⟨u, v, f, hadd⟩ : ∃ u v f, addRP x y x2 y2 = ((u, v), f) := ⟨_, _, _, rfl⟩
          have HD := Lib.hid hd
          have HADD := Lib.hid hadd
          have HSUB := Lib.hid ((minus_neg x y x2 y2).trans hadd)
          clear hxy2 hd hadd
          obtain ⟨_, c0, c1, _, _⟩ := id inv.s
          have hn := ho.num
          have hxn : In (-x2) := by unfold In; omega
          have klt : (k : Int) < (len : Int) := by omega
          have wn : IntKind.i64.wrap (-x2) = -x2 := IntWalk.i64_in _ (by omega)
          go_wp2_with fail
          have m0 : (wr.alloc (.cells #[.int .i64 0, .int .i64 0] 24)).drew.cell? ⟨wr.heap.size, 0, none⟩ = some (.int .i64 0) := by simp [go_sem]
          have m1 : (wr.alloc (.cells #[.int .i64 0, .int .i64 0] 24)).drew.cell? ⟨wr.heap.size, 1, none⟩ = some (.int .i64 0) := by simp [go_sem]
          have m2 : (wr.alloc (.cells #[.int .i64 0, .int .i64 0] 24)).drew.frozen? ⟨wr.heap.size, 0, none⟩ = false := by simp [go_sem]
          have m3 : (wr.alloc (.cells #[.int .i64 0, .int .i64 0] 24)).drew.frozen? ⟨wr.heap.size, 1, none⟩ = false := by simp [go_sem]
          have m4 : wr.heap.size < (wr.alloc (.cells #[.int .i64 0, .int .i64 0] 24)).drew.heap.size := by simp
          have hsl : s < wr.heap.size := inv.s.lt
          have hsw : s ≠ wr.heap.size := by omega
          have hbw : b ≠ wr.heap.size := by omega
          go_region_held3 (fun w' => w'.cell? ⟨s, 0, none⟩ = some (.int .i64 x) ∧ w'.cell? ⟨s, 1, none⟩ = some (.int .i64 y) ∧ w'.cell? ⟨b, off + k * 2, none⟩ = some (.int .i64 x2) ∧ w'.cell? ⟨b, off + k * 2 + 1, none⟩ = some (.int .i64 y2))
            (first | exact ⟨c0, c1, d0, d1⟩ | exact ⟨keepA _ c0, keepA _ c1, keepA _ d0, keepA _ d1⟩ | exact ⟨keepD k2 c0, keepD k2 c1, keepD k2 d0, keepD k2 d1⟩ | exact ⟨keepD k2 (keepA _ c0), keepD k2 (keepA _ c1), keepD k2 (keepA _ d0), keepD k2 (keepA _ d1)⟩ | exact ⟨keepA _ (keepD k2 c0), keepA _ (keepD k2 c1), keepA _ (keepD k2 d0), keepA _ (keepD k2 d1)⟩ | exact ⟨keepS _ (keepS _ (keepD k2 (keepA _ c0)) hsw) hsw, keepS _ (keepS _ (keepD k2 (keepA _ c1)) hsw) hsw, keepS _ (keepS _ (keepD k2 (keepA _ d0)) hbw) hbw, keepS _ (keepS _ (keepD k2 (keepA _ d1)) hbw) hbw⟩)
            (first
              | (go_at_call 99; (with_reducible refine (ref2_Minus_is x y (-x2) y2 u v f _ hxy.in1 hxy.in2 hxn hy HSUB.out).mono ?_); rintro e w2 ⟨rfl, k2⟩; first | (have n0 := keepD k2 m0; have n1 := keepD k2 m1; have n2 := keepF k2 m2 m4; have n3 := keepF k2 m3 m4) | skip))
          all_goals clear m0 m1 m2 m3 m4
          · have bw : Below wr.heap.size wr (w2.alloc (.cells #[.int .i64 u, .int .i64 v] 24)) := by
              have b1 : Below wr.heap.size wr w2 := ((Below.refl _ wr).drew).trans (k2.mono (Nat.le_refl _))
              exact b1.alloc k2.size _
            have q0 : (w2.alloc (.cells #[.int .i64 u, .int .i64 v] 24)).cell? ⟨w2.heap.size, 0, none⟩ = some (.int .i64 u) := by simp [go_sem]
            have q1 : (w2.alloc (.cells #[.int .i64 u, .int .i64 v] 24)).cell? ⟨w2.heap.size, 1, none⟩ = some (.int .i64 v) := by simp [go_sem]
            have inv2 := inv.later bw
            clear c0 c1 d0 d1 bw inv
            generalize (w2.alloc (.cells #[.int .i64 u, .int .i64 v] 24)) = WX at *
            generalize w2.heap.size = nb at *
            clear k2
            by_cases hf : f = 0
            · subst hf
              have hsum2 := HS.out.trans ((congrArg (sumRFrom x y) HD.out).trans (sumRFrom_ok (r := (x2, y2)) HADD.out))
              have ou := (two_ok (fun h1 h2 => add_in h1 h2) HADD.out).2.2.1
              have HS2 := Lib.hid hsum2
              clear hsum2
              obtain ⟨_, e0, e1, e2, e3⟩ := id inv2.s
              go_wp2_with fail
              go_roundw
              case rel => exact ⟨k + 1, u, v, by omega, by go_num, ou, HS2.out, inv2.put u v⟩
              case measure => simp [intOf]; omega
            · have hv := HV.out.trans (HS.out.trans ((congrArg (sumRFrom x y) HD.out).trans (sumRFrom_err (r := (x2, y2)) HADD.out hf)))
              have HV2 := Lib.hid hv
              have df : (f != 0) = true := by simp [hf]
              clear hv
              obtain ⟨_, e0, e1, e2, e3⟩ := id inv2.r
              have hb3 := inv2.below
              go_wp2_with fail
              rw [HV2.out]
              refine bodyPost_ret (v := .tuple #[.agg #[.int .i64 0, .int .i64 0], .int .i64 f]) (by simp [results, Try.results63, go_sem, e0, e1]) rfl ⟨rfl, ?_⟩
              go_grown
          · have bw : Below wr.heap.size wr ((w2.setCell ⟨wr.heap.size, 0, none⟩ (.int .i64 u)).setCell ⟨wr.heap.size, 1, none⟩ (.int .i64 v)) := by
              have b1 : Below wr.heap.size wr w2 := (((Below.refl _ wr).alloc (Nat.le_refl _) _).drew).trans (k2.mono (by simp))
              exact (b1.setCell (p := ⟨wr.heap.size, 0, none⟩) (Nat.le_refl _) _).setCell (p := ⟨wr.heap.size, 1, none⟩) (Nat.le_refl _) _
            have q0 : ((w2.setCell ⟨wr.heap.size, 0, none⟩ (.int .i64 u)).setCell ⟨wr.heap.size, 1, none⟩ (.int .i64 v)).cell? ⟨wr.heap.size, 0, none⟩ = some (.int .i64 u) := by simp [go_sem, n0, n1]
            have q1 : ((w2.setCell ⟨wr.heap.size, 0, none⟩ (.int .i64 u)).setCell ⟨wr.heap.size, 1, none⟩ (.int .i64 v)).cell? ⟨wr.heap.size, 1, none⟩ = some (.int .i64 v) := by simp [go_sem, n0, n1]
            have inv2 := inv.later bw
            clear n0 n1 n2 n3 c0 c1 d0 d1 bw inv
            generalize ((w2.setCell ⟨wr.heap.size, 0, none⟩ (.int .i64 u)).setCell ⟨wr.heap.size, 1, none⟩ (.int .i64 v)) = WX at *
            generalize wr.heap.size = nb at *
            clear k2
            by_cases hf : f = 0
            · subst hf
              have hsum2 := HS.out.trans ((congrArg (sumRFrom x y) HD.out).trans (sumRFrom_ok (r := (x2, y2)) HADD.out))
              have ou := (two_ok (fun h1 h2 => add_in h1 h2) HADD.out).2.2.1
              have HS2 := Lib.hid hsum2
              clear hsum2
              obtain ⟨_, e0, e1, e2, e3⟩ := id inv2.s
              go_wp2_with fail
              go_roundw
              case rel => exact ⟨k + 1, u, v, by omega, by go_num, ou, HS2.out, inv2.put u v⟩
              case measure => simp [intOf]; omega
            · have hv := HV.out.trans (HS.out.trans ((congrArg (sumRFrom x y) HD.out).trans (sumRFrom_err (r := (x2, y2)) HADD.out hf)))
              have HV2 := Lib.hid hv
              have df : (f != 0) = true := by simp [hf]
              clear hv
              obtain ⟨_, e0, e1, e2, e3⟩ := id inv2.r
              have hb3 := inv2.below
              go_wp2_with fail
              rw [HV2.out]
              refine bodyPost_ret (v := .tuple #[.agg #[.int .i64 0, .int .i64 0], .int .i64 f]) (by simp [results, Try.results63, go_sem, e0, e1]) rfl ⟨rfl, ?_⟩
              go_grown
        · have hv := HV.out.trans (HS.out.trans (by rw [List.drop_of_length_le (by omega)]; rfl) : sumRFrom 0 1 rs = ((x, y), 0))
          have HV2 := Lib.hid hv
          clear hv
          obtain ⟨_, c0, c1, f0, f1⟩ := id inv.r
          obtain ⟨_, e0, e1, e2, e3⟩ := id inv.s
          have hb2 := inv.below
          go_wp2_with fail
          rw [HV2.out]
          refine bodyPost_ret (v := .tuple #[.agg #[.int .i64 x, .int .i64 y], .int .i64 0]) (by simp [results, Try.results63, go_sem, c0, c1]) rfl ⟨rfl, ?_⟩
          go_grown
end Go.Proofs.Ytnjckaifgmliaaa
