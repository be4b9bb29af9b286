/- setup.places's closure (ways) and its loop, setup.money's closure (tiers), which keeps the last one, and its loop. -/
import Derived.Test.YtnjckaifgmliaaaContains
import Derived.Test.YtnjckaifgmliaaaNumUp
set_option linter.unusedSimpArgs false
set_option linter.unusedVariables false
namespace Go.Proofs.Ytnjckaifgmliaaa
open Go.RowKit Lu

/-- setup.places's closure. -/
theorem way_closure (x0 x1 x2 P : Int) (p : Nat) (r : Bool) (w : World) (h0 : In x0) (h1 : In x1) (h2 : In x2) (cp : w.cell? ⟨p, 0, none⟩ = some (.int .i64 P)) (hP : 1 ≤ P ∧ P ≤ 16) (hr : (!wayP P (x0, x1, x2)) = r) :
    Calls Try.prog 82 #[.agg #[.int .i64 x0, .int .i64 x1, .int .i64 x2], .pointer (some ⟨p, 0, none⟩)] w fun e w' => e = .returned (.bool r) ∧ Below w.heap.size w w' := by
  subst hr
  have hp := World.block_lt_of_cell? w _ cp
  simp only at hp
  have hw : IntKind.i64.wrap (P - 1) = P - 1 := IntWalk.i64_in _ (by omega)
  have ca : (w.alloc (.cells #[.int .i64 x0, .int .i64 x1, .int .i64 x2] 58)).cell? ⟨p, 0, none⟩ = some (.int .i64 P) := keepA _ cp
  have hI : ∀ z ∈ [x0, x1], In z := by simp [h0, h1]
  have hI2 : ∀ z ∈ [x2], In z := by simp [h2]
  by_cases ha : allP 0 (P - 1) [x0, x1] = true
  · by_cases he : x0 = x1
    · have hv : wayP P (x0, x1, x2) = false := by unfold wayP; simp [he]
      have e1 : (x0 == x1) = true := by simp [he]
      rw [hv]
      have HA := Lib.hid ha
      clear ha hv he
      go_enter Try.func82, Try.ntmps82
      go_wp2_with fail
      refine (setup_all_is 0 (P - 1) true _ _ _ [x0, x1] _ (Ints_new _ _ (by simp) _ _ 2 rfl hI (by decide)) HA.out).mono ?_
      rintro e w1 ⟨rfl, k1⟩
      have B : Below (w.heap.size + 1) (w.alloc (.cells #[.int .i64 x0, .int .i64 x1, .int .i64 x2] 58)) w1 := by
        refine Below.trans ?_ (k1.mono (by simp <;> omega))
        go_grown
      clear k1
      obtain ⟨hc1, hf1⟩ := old_cells B
      have Bw : Below w.heap.size w w1 := Below.trans (by go_grown) (B.mono (by omega))
      clear B
      go_wp2_with fail
      go_ret
      exact ⟨rfl, Bw⟩
    · have e1 : (x0 == x1) = false := by simp [he]
      have hv : wayP P (x0, x1, x2) = allP 1 10000 [x2] := by unfold wayP; rw [show allP 0 (P - 1) [x0, x1] = true from ha]; simp [he]
      rw [hv]
      generalize hq : allP 1 10000 [x2] = q
      have HA := Lib.hid ha
      have HQ := Lib.hid hq
      clear ha hv he hq
      go_enter Try.func82, Try.ntmps82
      go_wp2_with fail
      refine (setup_all_is 0 (P - 1) true _ _ _ [x0, x1] _ (Ints_new _ _ (by simp) _ _ 2 rfl hI (by decide)) HA.out).mono ?_
      rintro e w1 ⟨rfl, k1⟩
      have B : Below (w.heap.size + 1) (w.alloc (.cells #[.int .i64 x0, .int .i64 x1, .int .i64 x2] 58)) w1 := by
        refine Below.trans ?_ (k1.mono (by simp <;> omega))
        go_grown
      clear k1
      obtain ⟨hc1, hf1⟩ := old_cells B
      have Bw : Below w.heap.size w w1 := Below.trans (by go_grown) (B.mono (by omega))
      have hz : w.heap.size + 1 ≤ w1.heap.size := by have := B.size; simpa using this
      clear B
      go_wp2_with fail
      refine (setup_all_is 1 10000 q _ _ _ [x2] _ (Ints_new _ _ (by simp) _ _ 1 rfl hI2 (by decide)) HQ.out).mono ?_
      rintro e w2 ⟨rfl, k2⟩
      have Bw2 : Below w.heap.size w w2 := by
        refine Bw.trans (Below.trans ?_ (k2.mono (by simp <;> omega)))
        go_grown
      clear k2
      go_wp2_with fail
      go_ret
      exact ⟨rfl, Bw2⟩
  · have ha' := Bool.eq_false_iff.2 ha
    have hv : wayP P (x0, x1, x2) = false := by unfold wayP; rw [show allP 0 (P - 1) [x0, x1] = false from ha']; rfl
    rw [hv]
    have HA := Lib.hid ha'
    clear ha ha' hv
    go_enter Try.func82, Try.ntmps82
    go_wp2_with fail
    refine (setup_all_is 0 (P - 1) false _ _ _ [x0, x1] _ (Ints_new _ _ (by simp) _ _ 2 rfl hI (by decide)) HA.out).mono ?_
    rintro e w1 ⟨rfl, k1⟩
    have Bw : Below w.heap.size w w1 := by
      refine Below.trans ?_ (k1.mono (by simp <;> omega))
      go_grown
    clear k1
    go_wp2_with fail
    go_ret
    exact ⟨rfl, Bw⟩


/-- What the loop's answer tells. -/
def way_found (b : Bool) (w : World) (e : Ending) (w' : World) : Prop := ∃ i : Int, e = .returned (.int .i64 i) ∧ decide (0 ≤ i) = b ∧ Below w.heap.size w w'
set_option maxHeartbeats 1000000 in
theorem index_way (a : Option Addr) (len cap : Nat) (rs : List (Int × Int × Int)) (P : Int) (p : Nat) (w : World) (h : Recs3 w a len rs) (cp : w.cell? ⟨p, 0, none⟩ = some (.int .i64 P)) (hP : 1 ≤ P ∧ P ≤ 16) :
    Calls Try.prog 108 #[.slice a len cap, .func (.func 82) #[] #[.pointer (some ⟨p, 0, none⟩)]] w (way_found (!waysP P rs) w) := by
  obtain ⟨hl, hm, hin, hc⟩ := h
  go_enter Try.func108, Try.ntmps108
  go_wp2_with fail
  go_loopw [8] (fun i wr => ∃ k : Nat, k ≤ len ∧ i = .int .i64 k ∧ waysP P rs = waysP P (rs.drop k) ∧ Below w.heap.size w wr) (fun i _ => len - (intOf i).toNat)
  case atStart => exact ⟨0, Nat.zero_le _, rfl, by simp, Below.refl _ _⟩
  case round =>
    obtain ⟨k, hk, rfl, hrest, hb⟩ := hrel
    have HR := Lib.hid hrest
    clear hrest
    by_cases hlt : k < len
    · obtain ⟨b, off, rfl, hbl, hcell⟩ := hc.resolve_left (by omega)
      have hr := hin _ (getD_mem_3 (l := rs) (k := k) (by omega))
      have hcl := hcell k hlt
      have d0 : wr.cell? ⟨b, off + k * 3, none⟩ = some (.int .i64 (rs.getD k (0, 0, 0)).1) := keepC hb hcl.1 hbl
      have d1 : wr.cell? ⟨b, off + k * 3 + 1, none⟩ = some (.int .i64 (rs.getD k (0, 0, 0)).2.1) := keepC hb hcl.2.1 hbl
      have d2 : wr.cell? ⟨b, off + k * 3 + 2, none⟩ = some (.int .i64 (rs.getD k (0, 0, 0)).2.2) := keepC hb hcl.2.2 hbl
      have hbr : b < wr.heap.size := Nat.lt_of_lt_of_le hbl hb.size
      have hd := drop_getD_3 (l := rs) (k := k) (by omega)
      have HC := Lib.hid hcell
      clear hcell hc hcl
      obtain ⟨x0, x1, x2, hxy⟩ : ∃ x0 x1 x2, rs.getD k (0, 0, 0) = (x0, x1, x2) := ⟨_, _, _, rfl⟩
      rw [hxy] at hr d0 d1 d2 hd
      have HX := Lib.hid hxy
      clear hxy
      obtain ⟨hx0, hx1, hx2⟩ := hr
      by_cases ho : wayP P (x0, x1, x2) = true
      · have hs : waysP P rs = waysP P (rs.drop (k + 1)) := by
          rw [HR.out, hd]
          show (wayP P (x0, x1, x2) && _) = _
          rw [ho]
          rfl
        have HS := Lib.hid hs
        have HO := Lib.hid ho
        clear hs hd ho
        go_wp2_with fail
        refine (way_closure x0 x1 x2 P p false _ hx0 hx1 hx2 (keepD hb cp) hP (by rw [HO.out]; rfl)).mono ?_
        rintro e w2 ⟨rfl, k2⟩
        have hb2 := hb.trans (k2.mono hb.size)
        go_wp2_with fail
        go_roundw
        case rel => exact ⟨k + 1, by omega, by go_num, HS.out, hb2⟩
        case measure => simp [intOf]; omega
      · have hs : waysP P rs = false := by
          rw [HR.out, hd]
          show (wayP P (x0, x1, x2) && _) = _
          rw [Bool.eq_false_iff.2 ho]
          rfl
        have HS := Lib.hid hs
        have HO := Lib.hid (Bool.eq_false_iff.2 ho)
        clear hs hd ho
        go_wp2_with fail
        refine (way_closure x0 x1 x2 P p true _ hx0 hx1 hx2 (keepD hb cp) hP (by rw [HO.out]; rfl)).mono ?_
        rintro e w2 ⟨rfl, k2⟩
        have hb2 := hb.trans (k2.mono hb.size)
        go_wp2_with fail
        go_ret
        exact ⟨k, rfl, by rw [HS.out]; simp, hb2⟩
    · have hs : waysP P rs = true := by rw [HR.out, List.drop_of_length_le (by omega)]; rfl
      have HS := Lib.hid hs
      clear hs
      go_wp2_with fail
      go_ret
      exact ⟨-1, rfl, by rw [HS.out]; rfl, hb⟩
theorem contains_way (a : Option Addr) (len cap : Nat) (rs : List (Int × Int × Int)) (P : Int) (p : Nat) (w : World) (h : Recs3 w a len rs) (cp : w.cell? ⟨p, 0, none⟩ = some (.int .i64 P)) (hP : 1 ≤ P ∧ P ≤ 16) :
    Calls Try.prog 84 #[.slice a len cap, .func (.func 82) #[] #[.pointer (some ⟨p, 0, none⟩)]] w fun e w' => e = .returned (.bool (!waysP P rs)) ∧ Below w.heap.size w w' := by
  have hI := index_way a len cap rs P p w h cp hP
  generalize (!waysP P rs) = r at *
  have HI := Lib.hid hI
  clear hI
  go_enter Try.func84, Try.ntmps84
  go_wp2_with fail
  refine HI.out.mono ?_
  rintro e w' ⟨i, rfl, hi', hb⟩
  go_wp2_with fail
  go_ret
  exact ⟨rfl, hb⟩


/-- setup.money's closure: it keeps the last one. -/
theorem tier_closure (x0 x1 l : Int) (p : Nat) (r : Bool) (w : World) (_h0 : In x0) (h1 : In x1) (cp : w.cell? ⟨p, 0, none⟩ = some (.int .i64 l)) (fp : w.frozen? ⟨p, 0, none⟩ = false) (hr : (!tierP l (x0, x1)) = r) :
    Calls Try.prog 88 #[.agg #[.int .i64 x0, .int .i64 x1], .pointer (some ⟨p, 0, none⟩)] w fun e w' => e = .returned (.bool r) ∧ w'.cell? ⟨p, 0, none⟩ = some (.int .i64 x0) ∧ w'.frozen? ⟨p, 0, none⟩ = false ∧ Below p w w' := by
  subst hr
  have hp := World.block_lt_of_cell? w _ cp
  simp only at hp
  have ca : (w.alloc (.cells #[.int .i64 x0, .int .i64 x1] 76)).cell? ⟨p, 0, none⟩ = some (.int .i64 l) := keepA _ cp
  have hpn : ¬ p = w.heap.size := by omega
  have hnp : ¬ w.heap.size = p := by omega
  have hI2 : ∀ z ∈ [x1], In z := by simp [h1]
  by_cases ha : x0 ≤ l
  · have hv : tierP l (x0, x1) = false := by unfold tierP; rw [decide_eq_false (show ¬ l < x0 by omega)]; rfl
    rw [hv]
    clear hv
    go_enter Try.func88, Try.ntmps88
    go_wp2_with fail
    go_ret
    exact ⟨rfl, by simp [go_sem, cp, hp], by simp [go_sem, fp, hp], by go_grown⟩
  · have d1 : decide (x0 ≤ l) = false := by simp; omega
    by_cases hb : 1000 < x0
    · have hv : tierP l (x0, x1) = false := by unfold tierP; rw [decide_eq_false (show ¬ x0 ≤ 1000 by omega)]; simp
      rw [hv]
      clear hv
      go_enter Try.func88, Try.ntmps88
      go_wp2_with fail
      go_ret
      exact ⟨rfl, by simp [go_sem, cp, hp], by simp [go_sem, fp, hp], by go_grown⟩
    · have d2 : decide (1000 < x0) = false := by simp; omega
      have hv : tierP l (x0, x1) = allP 0 100000 [x1] := by unfold tierP; rw [decide_eq_true (show l < x0 by omega), decide_eq_true (show x0 ≤ 1000 by omega)]; simp
      rw [hv]
      generalize hq : allP 0 100000 [x1] = q
      have HQ := Lib.hid hq
      clear hq hv
      go_enter Try.func88, Try.ntmps88
      go_wp2_with fail
      refine (setup_all_is 0 100000 q _ _ _ [x1] _ (Ints_new _ _ (by simp) _ _ 1 rfl hI2 (by decide)) HQ.out).mono ?_
      rintro e w1 ⟨rfl, k1⟩
      have B : Below (w.heap.size + 1) (w.alloc (.cells #[.int .i64 x0, .int .i64 x1] 76)) w1 := by
        refine Below.trans ?_ (k1.mono (by simp <;> omega))
        go_grown
      clear k1
      obtain ⟨hc1, hf1⟩ := old_cells B
      have Bw : Below p w w1 := Below.trans (by go_grown) (B.mono (by omega))
      have hz : w.heap.size + 1 ≤ w1.heap.size := by have := B.size; simpa using this
      have cc : w1.cell? ⟨p, 0, none⟩ = some (.int .i64 l) := keepC B ca (by simp; omega)
      have ff : w1.frozen? ⟨p, 0, none⟩ = false := keepF B (by simpa [go_sem, hp] using fp) (by simp; omega)
      clear B
      have hp1 : p < w1.heap.size := by omega
      go_wp2_with fail
      go_ret
      refine ⟨rfl, by simp [go_sem, cc], by simp [go_sem, ff], ?_⟩
      refine Bw.trans ?_
      go_grown


/-- What the tiers' loop's answer tells. -/
def tier_found (b : Bool) (w0 : World) (e : Ending) (w' : World) : Prop := ∃ i : Int, e = .returned (.int .i64 i) ∧ decide (0 ≤ i) = b ∧ Below w0.heap.size w0 w'
set_option maxHeartbeats 1000000 in
theorem index_tier (a : Option Addr) (len cap : Nat) (rs : List (Int × Int)) (l : Int) (p : Nat) (w0 w : World) (h : Ratios w0 a len rs) (hb0 : Below w0.heap.size w0 w) (hp : w0.heap.size ≤ p)
    (cp : w.cell? ⟨p, 0, none⟩ = some (.int .i64 l)) (fp : w.frozen? ⟨p, 0, none⟩ = false) :
    Calls Try.prog 112 #[.slice a len cap, .func (.func 88) #[] #[.pointer (some ⟨p, 0, none⟩)]] w (tier_found (!tiersP l rs) w0) := by
  obtain ⟨hl, hm, hin, hc⟩ := h
  go_enter Try.func112, Try.ntmps112
  go_wp2_with fail
  go_loopw [8] (fun i wr => ∃ k : Nat, ∃ m : Int, k ≤ len ∧ i = .int .i64 k ∧ tiersP l rs = tiersP m (rs.drop k) ∧ Below w0.heap.size w0 wr ∧ wr.cell? ⟨p, 0, none⟩ = some (.int .i64 m) ∧ wr.frozen? ⟨p, 0, none⟩ = false) (fun i _ => len - (intOf i).toNat)
  case atStart => exact ⟨0, l, Nat.zero_le _, rfl, by simp, hb0, cp, fp⟩
  case round =>
    obtain ⟨k, m, hk, rfl, hrest, hb, cm, fm⟩ := hrel
    have HR := Lib.hid hrest
    clear hrest cp fp
    by_cases hlt : k < len
    · obtain ⟨b, off, rfl, hbl, hcell⟩ := hc.resolve_left (by omega)
      have hr := hin _ (getD_mem2 (l := rs) (k := k) (by omega))
      have hcl := hcell k hlt
      have d0 : wr.cell? ⟨b, off + k * 2, none⟩ = some (.int .i64 (rs.getD k (0, 0)).1) := keepC hb hcl.1 hbl
      have d1 : wr.cell? ⟨b, off + k * 2 + 1, none⟩ = some (.int .i64 (rs.getD k (0, 0)).2) := keepC hb hcl.2 hbl
      have hbr : b < wr.heap.size := Nat.lt_of_lt_of_le hbl hb.size
      have hd := drop_getD2 (l := rs) (k := k) (by omega)
      have HC := Lib.hid hcell
      clear hcell hc hcl
      obtain ⟨x0, x1, hxy⟩ : ∃ x0 x1, rs.getD k (0, 0) = (x0, x1) := ⟨_, _, rfl⟩
      rw [hxy] at hr d0 d1 hd
      have HX := Lib.hid hxy
      clear hxy
      obtain ⟨hx0, hx1⟩ := hr
      by_cases ho : tierP m (x0, x1) = true
      · have hs : tiersP l rs = tiersP x0 (rs.drop (k + 1)) := by
          rw [HR.out, hd]
          show (tierP m (x0, x1) && _) = _
          rw [ho]
          rfl
        have HS := Lib.hid hs
        have HO := Lib.hid ho
        clear hs hd ho
        go_wp2_with fail
        refine (tier_closure x0 x1 m p false _ hx0 hx1 cm fm (by rw [HO.out]; rfl)).mono ?_
        rintro e w2 ⟨rfl, cm2, fm2, k2⟩
        have hb2 := hb.trans (k2.mono hp)
        go_wp2_with fail
        go_roundw
        case rel => exact ⟨k + 1, x0, by omega, by go_num, HS.out, hb2, cm2, fm2⟩
        case measure => simp [intOf]; omega
      · have hs : tiersP l rs = false := by
          rw [HR.out, hd]
          show (tierP m (x0, x1) && _) = _
          rw [Bool.eq_false_iff.2 ho]
          rfl
        have HS := Lib.hid hs
        have HO := Lib.hid (Bool.eq_false_iff.2 ho)
        clear hs hd ho
        go_wp2_with fail
        refine (tier_closure x0 x1 m p true _ hx0 hx1 cm fm (by rw [HO.out]; rfl)).mono ?_
        rintro e w2 ⟨rfl, cm2, fm2, k2⟩
        have hb2 := hb.trans (k2.mono hp)
        go_wp2_with fail
        go_ret
        exact ⟨k, rfl, by rw [HS.out]; simp, hb2⟩
    · have hs : tiersP l rs = true := by rw [HR.out, List.drop_of_length_le (by omega)]; rfl
      have HS := Lib.hid hs
      clear hs
      go_wp2_with fail
      go_ret
      exact ⟨-1, rfl, by rw [HS.out]; rfl, hb⟩
theorem contains_tier (a : Option Addr) (len cap : Nat) (rs : List (Int × Int)) (l : Int) (p : Nat) (w0 w : World) (h : Ratios w0 a len rs) (hb0 : Below w0.heap.size w0 w) (hp : w0.heap.size ≤ p)
    (cp : w.cell? ⟨p, 0, none⟩ = some (.int .i64 l)) (fp : w.frozen? ⟨p, 0, none⟩ = false) :
    Calls Try.prog 89 #[.slice a len cap, .func (.func 88) #[] #[.pointer (some ⟨p, 0, none⟩)]] w fun e w' => e = .returned (.bool (!tiersP l rs)) ∧ Below w0.heap.size w0 w' := by
  have hI := index_tier a len cap rs l p w0 w h hb0 hp cp fp
  generalize (!tiersP l rs) = r at *
  have HI := Lib.hid hI
  clear hI
  go_enter Try.func89, Try.ntmps89
  go_wp2_with fail
  refine HI.out.mono ?_
  rintro e w' ⟨i, rfl, hi', hb⟩
  go_wp2_with fail
  go_ret
  exact ⟨rfl, hb⟩
end Go.Proofs.Ytnjckaifgmliaaa
