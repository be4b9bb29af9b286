/- THE WALKS of layer 7's reference (lumperref07), first part: share, shares, within, elements. -/
import Derived.Test.YtnjckaifgmliaaaRef02
import Derived.Test.YtnjckaifgmliaaaSetupCheck
set_option linter.unusedSimpArgs false
set_option linter.unusedVariables false
namespace Go.Proofs.Ytnjckaifgmliaaa
open Go.RowKit Lu

theorem ref7_share (n d : Int) (r : Bool) (w : World) (hn : In n) (hd : In d) (hr : shareP n d = r) :
    Calls Try.prog 46 #[.agg #[.int .i64 n, .int .i64 d]] w fun e w' => e = .returned (.bool r) ∧ Below w.heap.size w w' := by
  unfold shareP at hr
  subst hr
  by_cases o : Ok n d
  · rw [decide_eq_true o, Bool.and_true]
    obtain ⟨b, hb⟩ : ∃ b, decide (0 ≤ n) = b := ⟨_, rfl⟩
    rw [hb]
    have ho := ref2_Check_yes n d o (w.alloc (.cells #[.int .i64 n, .int .i64 d] 24))
    have HO := Lib.hid ho
    clear ho o hn hd
    go_enter Try.func46, Try.ntmps46
    go_wp2_with fail
    refine HO.out.mono ?_
    rintro e w1 ⟨rfl, k1⟩
    have B : Below w.heap.size w w1 := ((Below.refl _ _).alloc (Nat.le_refl _) _).trans (k1.mono (by simp))
    have c0 : w1.cell? ⟨w.heap.size, 0, none⟩ = some (.int .i64 n) := keepC k1 (by simp [go_sem]) (by simp)
    clear k1
    go_wp2_with fail
    go_ret
    exact ⟨rfl, B⟩
  · rw [decide_eq_false o, Bool.and_false]
    have ho := ref2_Check_no n d hn hd o (w.alloc (.cells #[.int .i64 n, .int .i64 d] 24))
    have HO := Lib.hid ho
    clear ho o hn hd
    go_enter Try.func46, Try.ntmps46
    go_wp2_with fail
    refine HO.out.mono ?_
    rintro e w1 ⟨rfl, k1⟩
    have B : Below w.heap.size w w1 := ((Below.refl _ _).alloc (Nat.le_refl _) _).trans (k1.mono (by simp))
    clear k1
    go_wp2_with fail
    go_ret
    exact ⟨rfl, B⟩

set_option maxHeartbeats 1000000 in
theorem ref7_shares (a : Option Addr) (len cap : Nat) (rs : List (Int × Int)) (r : Bool) (w : World) (h : Ratios w a len rs) (hr : (sharesP rs && decide (rs.length ≤ 8)) = r) :
    Calls Try.prog 48 #[.slice a len cap] w fun e w' => e = .returned (.bool r) ∧ Below w.heap.size w w' := by
  obtain ⟨hl, hm, hin, hc⟩ := h
  have HRR := Lib.hid hr
  clear hr
  go_enter Try.func48, Try.ntmps48
  go_wp2_with fail
  go_loopw [3] (fun i wr => ∃ k : Nat, k ≤ len ∧ i = .int .i64 k ∧ sharesP rs = sharesP (rs.drop k) ∧ Below w.heap.size w wr) (fun i _ => len - (intOf i).toNat)
  case atStart => exact ⟨0, Nat.zero_le _, rfl, by simp, Below.refl _ _⟩
  case round =>
    obtain ⟨k, hk, rfl, hrest, hb⟩ := hrel
    have HR := Lib.hid hrest
    clear hrest
    by_cases hlt : k < len
    · obtain ⟨b, off, rfl, hbl, hcell⟩ := hc.resolve_left (by omega)
      have hr := hin _ (getD_mem2 (l := rs) (k := k) (by omega))
      have hcl := hcell k hlt
      have d0 : wr.cell? ⟨b, off + k * 2, none⟩ = some (.int .i64 (rs.getD k (0, 0)).1) := keepC hb hcl.1 hbl
      have d1 : wr.cell? ⟨b, off + k * 2 + 1, none⟩ = some (.int .i64 (rs.getD k (0, 0)).2) := keepC hb hcl.2 hbl
      have hbr : b < wr.heap.size := Nat.lt_of_lt_of_le hbl hb.size
      have hd := drop_getD2 (l := rs) (k := k) (by omega)
      have HC := Lib.hid hcell
      clear hcell hc hcl
      obtain ⟨x0, x1, hxy⟩ : ∃ x0 x1, rs.getD k (0, 0) = (x0, x1) := ⟨_, _, rfl⟩
      rw [hxy] at hr d0 d1 hd
      have HX := Lib.hid hxy
      clear hxy
      obtain ⟨hx0, hx1⟩ := hr
      have hs : sharesP (rs.drop k) = (shareP x0 x1 && sharesP (rs.drop (k + 1))) := by rw [hd]; rfl
      have HD := Lib.hid hd
      clear hd
      by_cases ho : shareP x0 x1 = true
      · rw [ho, Bool.true_and] at hs
        have HS := Lib.hid hs
        have HO := Lib.hid ho
        clear hs ho
        go_wp2_with fail
        refine (ref7_share x0 x1 true _ hx0 hx1 HO.out).mono ?_
        rintro e w2 ⟨rfl, k2⟩
        have hb2 := hb.trans (k2.mono hb.size)
        go_wp2_with fail
        go_roundw
        case rel => exact ⟨k + 1, by omega, by go_num, HR.out.trans HS.out, hb2⟩
        case measure => simp [intOf]; omega
      · replace ho := Bool.eq_false_iff.2 ho
        rw [ho, Bool.false_and] at hs
        have HS := Lib.hid hs
        have HO := Lib.hid ho
        clear hs ho
        go_wp2_with fail
        refine (ref7_share x0 x1 false _ hx0 hx1 HO.out).mono ?_
        rintro e w2 ⟨rfl, k2⟩
        have hb2 := hb.trans (k2.mono hb.size)
        go_wp2_with fail
        go_ret
        exact ⟨by rw [← HRR.out, HR.out, HS.out]; rfl, hb2⟩
    · have hs : sharesP rs = true := by rw [HR.out, List.drop_of_length_le (by omega)]; rfl
      have HS := Lib.hid hs
      clear hs
      go_wp2_with fail
      go_ret
      exact ⟨by rw [← HRR.out, HS.out, Bool.true_and]; congr 2; simp; omega, hb⟩

theorem ref7_within (n lo hi : Int) (w : World) :
    Calls Try.prog 90 #[.int .i64 n, .int .i64 lo, .int .i64 hi] w fun e w' => e = .returned (.bool (allP lo hi [n])) ∧ w = w' := by
  have hv : allP lo hi [n] = (decide (lo ≤ n) && decide (n ≤ hi)) := by unfold allP; simp
  rw [hv]
  by_cases h1 : lo ≤ n
  · have d1 : decide (lo ≤ n) = true := by simp [h1]
    rw [d1]
    have HV := Lib.hid hv
    clear hv
    go_enter Try.func90, Try.ntmps90
    go_wp2_with fail
    go_ret
    exact ⟨rfl, rfl⟩
  · have d1 : decide (lo ≤ n) = false := by simp; omega
    rw [d1]
    have HV := Lib.hid hv
    clear hv
    go_enter Try.func90, Try.ntmps90
    go_wp2_with fail
    go_ret
    exact ⟨rfl, rfl⟩
theorem ref7_within_is (n lo hi : Int) (r : Bool) (w : World) (hr : allP lo hi [n] = r) :
    Calls Try.prog 90 #[.int .i64 n, .int .i64 lo, .int .i64 hi] w fun e w' => e = .returned (.bool r) ∧ w = w' := by
  subst hr
  exact ref7_within n lo hi w

set_option maxHeartbeats 1000000 in
theorem ref7_elements (a : Option Addr) (len cap : Nat) (rs : List (Int × Int × Int × Int)) (r : Bool) (w : World) (h : Recs4 w a len rs) (hr : (elementsP rs && decide (rs.length ≤ 8)) = r) :
    Calls Try.prog 47 #[.slice a len cap] w fun e w' => e = .returned (.bool r) ∧ Below w.heap.size w w' := by
  obtain ⟨hl, hm, hin, hc⟩ := h
  have HRR := Lib.hid hr
  clear hr
  go_enter Try.func47, Try.ntmps47
  go_wp2_with fail
  go_loopw [3] (fun i wr => ∃ k : Nat, k ≤ len ∧ i = .int .i64 k ∧ elementsP rs = elementsP (rs.drop k) ∧ Below w.heap.size w wr) (fun i _ => len - (intOf i).toNat)
  case atStart => exact ⟨0, Nat.zero_le _, rfl, by simp, Below.refl _ _⟩
  case round =>
    obtain ⟨k, hk, rfl, hrest, hb⟩ := hrel
    have HR := Lib.hid hrest
    clear hrest
    by_cases hlt : k < len
    · obtain ⟨b, off, rfl, hbl, hcell⟩ := hc.resolve_left (by omega)
      have hr := hin _ (getD_mem_4 (l := rs) (k := k) (by omega))
      have hcl := hcell k hlt
      have d0 : wr.cell? ⟨b, off + k * 4, none⟩ = some (.int .i64 (rs.getD k (0, 0, 0, 0)).1) := keepC hb hcl.1 hbl
      have d1 : wr.cell? ⟨b, off + k * 4 + 1, none⟩ = some (.int .i64 (rs.getD k (0, 0, 0, 0)).2.1) := keepC hb hcl.2.1 hbl
      have d2 : wr.cell? ⟨b, off + k * 4 + 2, none⟩ = some (.int .i64 (rs.getD k (0, 0, 0, 0)).2.2.1) := keepC hb hcl.2.2.1 hbl
      have d3 : wr.cell? ⟨b, off + k * 4 + 3, none⟩ = some (.int .i64 (rs.getD k (0, 0, 0, 0)).2.2.2) := keepC hb hcl.2.2.2 hbl
      have hbr : b < wr.heap.size := Nat.lt_of_lt_of_le hbl hb.size
      have hd := drop_getD_4 (l := rs) (k := k) (by omega)
      have HC := Lib.hid hcell
      clear hcell hc hcl
      obtain ⟨x0, x1, x2, x3, hxy⟩ : ∃ x0 x1 x2 x3, rs.getD k (0, 0, 0, 0) = (x0, x1, x2, x3) := ⟨_, _, _, _, rfl⟩
      rw [hxy] at hr d0 d1 d2 d3 hd
      have HX := Lib.hid hxy
      clear hxy
      obtain ⟨hx0, hx1, hx2, hx3⟩ := hr
      simp only at d0 d1 d2 d3 hx0 hx1 hx2 hx3
      have hs : elementsP (rs.drop k) = (shareP x0 x1 && shareP x2 x3 && elementsP (rs.drop (k + 1))) := by rw [hd]; rfl
      have HD := Lib.hid hd
      clear hd
      obtain ⟨p, hp⟩ : ∃ p, shareP x0 x1 = p := ⟨_, rfl⟩
      obtain ⟨q, hq⟩ : ∃ q, shareP x2 x3 = q := ⟨_, rfl⟩
      rw [hp, hq] at hs
      have HS := Lib.hid hs
      have HP := Lib.hid hp
      have HQ := Lib.hid hq
      clear hs hp hq
      go_wp2_with fail
      refine (ref7_share x0 x1 p _ hx0 hx1 HP.out).mono ?_
      rintro e w2 ⟨rfl, k2⟩
      have hb2 := hb.trans (k2.mono hb.size)
      replace d2 := keepD k2 d2
      replace d3 := keepD k2 d3
      clear d0 d1 hb k2
      go_wp2_with fail
      refine (ref7_share x2 x3 q _ hx2 hx3 HQ.out).mono ?_
      rintro e w3 ⟨rfl, k3⟩
      have hb3 := hb2.trans (k3.mono hb2.size)
      clear d2 d3 hb2 k3
      cases p <;> cases q
      · go_wp2_with fail
        go_ret
        exact ⟨by rw [← HRR.out, HR.out, HS.out]; rfl, hb3⟩
      · go_wp2_with fail
        go_ret
        exact ⟨by rw [← HRR.out, HR.out, HS.out]; rfl, hb3⟩
      · go_wp2_with fail
        go_ret
        exact ⟨by rw [← HRR.out, HR.out, HS.out]; rfl, hb3⟩
      · go_wp2_with fail
        go_roundw
        case rel => exact ⟨k + 1, by omega, by go_num, HR.out.trans HS.out, hb3⟩
        case measure => simp [intOf]; omega
    · have hs : elementsP rs = true := by rw [HR.out, List.drop_of_length_le (by omega)]; rfl
      have HS := Lib.hid hs
      clear hs
      go_wp2_with fail
      go_ret
      exact ⟨by rw [← HRR.out, HS.out, Bool.true_and]; congr 2; simp; omega, hb⟩
end Go.Proofs.Ytnjckaifgmliaaa
