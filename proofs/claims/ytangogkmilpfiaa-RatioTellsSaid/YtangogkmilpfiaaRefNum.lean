/- THE WALKS of layer 1's reference (lumperref01): each function, once: it comes to what num comes to. -/
import Derived.Test.YtangogkmilpfiaaNum
import Derived.Test.YtangogkmilpfiaaNumUp
import Derived.Test.YtangogkmilpfiaaNumTurns
namespace Go.Proofs.Ytangogkmilpfiaa
open Go.RowKit Lu

theorem ret_ib {a b : Int} {c d : Bool} (h : a = b) (h' : c = d) : Ending.returned (.tuple #[.int .i64 a, .bool c]) = .returned (.tuple #[.int .i64 b, .bool d]) := by rw [h, h']

/-- lumperref01.add: of two whose sum is a number, and of two whose sum is none. -/
theorem ref_add_in (a b : Int) (ha : In a) (hb : In b) (h : In (a + b)) (w : World) :
    Calls Try.prog 45 #[.int .i64 a, .int .i64 b] w fun e w' => e = .returned (.tuple #[.int .i64 (a + b), .bool true]) ∧ w = w' := by
  unfold In at ha hb h
  obtain ⟨a1, a2⟩ := ha
  obtain ⟨b1, b2⟩ := hb
  obtain ⟨h1, h2⟩ := h
  by_cases c : 0 < b
  · have t1 : decide (9223372036854775807 - b < a) = false := by simp; omega
    go_enter Try.func45, Try.ntmps45
    go_wp2
    go_ret2
    exact ⟨rfl, rfl⟩
  · by_cases c2 : b < 0
    · have t1 : decide (a < -9223372036854775808 - b) = false := by simp; omega
      go_enter Try.func45, Try.ntmps45
      go_wp2
      go_ret2
      exact ⟨rfl, rfl⟩
    · obtain rfl : b = 0 := by omega
      go_enter Try.func45, Try.ntmps45
      go_wp2
      go_ret2
      exact ⟨ret_ib (by omega) rfl, rfl⟩
theorem ref_add_over (a b : Int) (ha : In a) (hb : In b) (h : ¬ In (a + b)) (w : World) :
    Calls Try.prog 45 #[.int .i64 a, .int .i64 b] w fun e w' => e = .returned (.tuple #[.int .i64 0, .bool false]) ∧ w = w' := by
  unfold In at ha hb h
  obtain ⟨a1, a2⟩ := ha
  obtain ⟨b1, b2⟩ := hb
  by_cases c : 0 < b
  · have h' : 9223372036854775807 < a + b := by omega
    clear h
    go_enter Try.func45, Try.ntmps45
    go_wp2
    go_ret2
    exact ⟨rfl, rfl⟩
  · have c2 : b < 0 := by omega
    have h' : a + b < -9223372036854775808 := by omega
    clear h
    go_enter Try.func45, Try.ntmps45
    go_wp2
    go_ret2
    exact ⟨rfl, rfl⟩

/-- lumperref01.Sum. -/
theorem ref_Sum (a : Option Addr) (len cap : Nat) (zs : List Int) (w : World) (h : Ints w a len zs) :
    Calls Try.prog 17 #[.slice a len cap] w fun e w' => e = .returned (.tuple #[.int .i64 (sumP zs).1, .int .i64 (sumP zs).2]) ∧ w = w' := by
  obtain ⟨hl, hm, hin, hc⟩ := h
  go_enter Try.func17, Try.ntmps17
  go_wp2
  have hO : In 0 := by decide
  go_loop [4, 5] (fun o i => ∃ (k : Nat) (s : Int), k ≤ len ∧ i = .int .i64 k ∧ o = .int .i64 s ∧ In s ∧ sumFrom 0 zs = sumFrom s (zs.drop k)) (fun _ i => len - (intOf i).toNat)
  case atStart => exact ⟨0, 0, Nat.zero_le _, rfl, rfl, hO, by simp⟩
  case round =>
    obtain ⟨k, s, hk, rfl, rfl, hs, hsum⟩ := hrel
    have HS := Lib.hid hsum
    clear hsum
    by_cases hlt : k < len
    · obtain ⟨b, off, rfl, hcell⟩ := hc.resolve_left (by omega)
      have hc1 := hcell k hlt
      have hd := drop_getD (l := zs) (k := k) (by omega)
      have hn : In (zs.getD k 0) := hin _ (getD_mem (by omega))
      have HC := Lib.hid hcell
      clear hcell
      generalize zs.getD k 0 = n at *
      by_cases hi : In (s + n)
      · have HD := Lib.hid (HS.out.trans ((congrArg (sumFrom s) hd).trans (sumFrom_step hi)))
        clear hd
        go_wp2_with fail
        refine (ref_add_in s n hs hn hi _).mono ?_
        rintro e w' ⟨rfl, rfl⟩
        go_wp2_with fail
        go_round
        case rel => exact ⟨k + 1, s + n, by omega, by go_num, rfl, hi, HD.out⟩
        case measure => simp [intOf]; omega
      · have HD := Lib.hid (HS.out.trans ((congrArg (sumFrom s) hd).trans (sumFrom_stop hi)))
        clear hd
        go_wp2_with fail
        refine (ref_add_over s n hs hn hi _).mono ?_
        rintro e w' ⟨rfl, rfl⟩
        go_wp2_with fail
        go_ret2
        exact ⟨by rw [sumP_none HD.out]; rfl, rfl⟩
    · have hz : sumFrom 0 zs = some s := by rw [HS.out, List.drop_of_length_le (by omega)]; rfl
      have HZ := Lib.hid hz
      clear hz
      go_wp2
      go_ret2
      exact ⟨by rw [sumP_some HZ.out]; rfl, rfl⟩

/-- lumperref01.Div. -/
theorem tdiv_in {a b : Int} (ha : In a) (hb0 : 0 < b) : In (a.tdiv b) ∧ In (a.tdiv b * b) ∧ (a.tmod b < 0 → a < a.tdiv b * b ∧ a.tdiv b - 1 = a / b) ∧ (0 ≤ a.tmod b → a.tdiv b * b ≤ a ∧ a.tdiv b = a / b) := by
  have t := tdiv_down (a := a) (b := b) hb0
  have h1 := Int.mul_tdiv_add_tmod a b
  have h2 : (a.tmod b).natAbs ≤ a.natAbs := by rw [Int.natAbs_tmod]; exact Nat.mod_le _ _
  have h3 : (a.tdiv b).natAbs ≤ a.natAbs := Int.natAbs_tdiv_le_natAbs a b
  have hs : (0 ≤ a → 0 ≤ a.tmod b) ∧ (a ≤ 0 → a.tmod b ≤ 0) := ⟨fun h => Int.tmod_nonneg _ h, fun h => by
    have := Int.tmod_nonneg (b := b) (a := -a) (by omega)
    rw [Int.neg_tmod] at this
    omega⟩
  have hq : (0 ≤ a → 0 ≤ a.tdiv b) := fun h => Int.tdiv_nonneg h (by omega)
  have hq' : (a ≤ 0 → a.tdiv b ≤ 0) := fun h => by
    have := Int.tdiv_nonneg (a := -a) (b := b) (by omega) (by omega)
    rw [Int.neg_tdiv] at this
    omega
  rw [Int.mul_comm] at h1
  generalize a.tdiv b * b = p at *
  generalize a.tmod b = r at *
  generalize a.tdiv b = q at *
  unfold In at *
  refine ⟨by omega, by omega, fun h => ⟨by omega, ?_⟩, fun h => ⟨by omega, ?_⟩⟩
  · exact (t.1 h).1.symm
  · exact (t.2 h).1.symm
theorem ref_Div (a b : Int) (ha : In a) (_hb : In b) (w : World) :
    Calls Try.prog 21 #[.int .i64 a, .int .i64 b] w fun e w' => e = .returned (.tuple #[.int .i64 (divP a b).1, .int .i64 (divP a b).2]) ∧ w = w' := by
  by_cases c : b ≤ 0
  · have c' : b < 1 := by omega
    go_enter Try.func21, Try.ntmps21
    go_wp2
    go_ret2
    exact ⟨(by rw [divP_zero c]; rfl), rfl⟩
  · obtain ⟨i1, i2, t1, t2⟩ := tdiv_in ha (show 0 < b by omega)
    have ha' := ha
    unfold In at ha' i1 i2
    by_cases c1 : a.tmod b < 0
    · obtain ⟨t3, t4⟩ := t1 c1
      have hr := ediv_range ha (show 0 < b by omega)
      rw [← t4] at hr
      have T4 := Lib.hid t4
      unfold In at hr
      clear t1 t2 t4
      go_enter Try.func21, Try.ntmps21
      go_wp2
      go_ret2
      exact ⟨(by rw [divP_pos (by omega), ← T4.out]; rfl), rfl⟩
    · obtain ⟨t3, t4⟩ := t2 (by omega)
      have T4 := Lib.hid t4
      clear t1 t2 t4
      go_enter Try.func21, Try.ntmps21
      go_wp2
      go_ret2
      exact ⟨(by rw [divP_pos (by omega), ← T4.out]; rfl), rfl⟩

theorem rest_in (a b : Int) (hb : In b) (hb0 : 0 < b) : wrap64 (a - wrap64 (a / b * b)) = a % b := by
  have h1 := Int.mul_ediv_add_emod a b
  have h2 := Int.emod_nonneg a (show b ≠ 0 by omega)
  have h3 := Int.emod_lt_of_pos a hb0
  rw [Int.mul_comm] at h1
  generalize a / b * b = p at *
  generalize a % b = r at *
  rw [wrap64_w64, wrap64_w64]
  unfold w64
  unfold In at hb
  omega

/-- lumperref01.Half. -/
theorem ref_Half (a b : Int) (ha : In a) (hb : In b) (w : World) :
    Calls Try.prog 23 #[.int .i64 a, .int .i64 b] w fun e w' => e = .returned (.tuple #[.int .i64 (halfP a b).1, .int .i64 (halfP a b).2]) ∧ w = w' := by
  have hd := ref_Div a b ha hb w
  by_cases c : b ≤ 0
  · rw [divP_zero c] at hd
    have HD := Lib.hid hd
    clear hd
    go_enter Try.func23, Try.ntmps23
    go_wp2_with fail
    refine HD.out.mono ?_
    rintro e w' ⟨rfl, rfl⟩
    go_wp2_with fail
    go_ret2
    exact ⟨(by rw [halfP_zero c]; rfl), rfl⟩
  · rw [divP_pos (show 0 < b by omega)] at hd
    have HD := Lib.hid hd
    clear hd
    have hr := rest_in a b hb (by omega)
    have hm0 := Int.emod_nonneg a (show b ≠ 0 by omega)
    have hm1 := Int.emod_lt_of_pos a (show 0 < b by omega)
    have hu : In b := hb
    unfold In at hu
    have hq := ediv_range ha (show 0 < b by omega)
    unfold In at hq
    by_cases c2 : b - a % b ≤ a % b
    · have hs := (ediv_succ ha (emod_one_left (a := a) (b := b) (by omega) (by omega))).1
      unfold In at hs
      have HF := Lib.hid (halfP_more (show 0 < b by omega) c2)
      generalize a / b = q at *
      generalize a % b = r at *
      go_enter Try.func23, Try.ntmps23
      go_wp2_with fail
      refine HD.out.mono ?_
      rintro e w' ⟨rfl, rfl⟩
      go_wp2_with fail
      go_ret2
      exact ⟨(by rw [HF.out]; rfl), rfl⟩
    · have HF := Lib.hid (halfP_less (show 0 < b by omega) c2)
      generalize a / b = q at *
      generalize a % b = r at *
      go_enter Try.func23, Try.ntmps23
      go_wp2_with fail
      refine HD.out.mono ?_
      rintro e w' ⟨rfl, rfl⟩
      go_wp2_with fail
      go_ret2
      exact ⟨(by rw [HF.out]; rfl), rfl⟩

/-- lumperref01.Up. -/
theorem ref_Up (a b : Int) (ha : In a) (hb : In b) (w : World) :
    Calls Try.prog 25 #[.int .i64 a, .int .i64 b] w fun e w' => e = .returned (.tuple #[.int .i64 (upP a b).1, .int .i64 (upP a b).2]) ∧ w = w' := by
  have hd := ref_Div a b ha hb w
  by_cases c : b ≤ 0
  · rw [divP_zero c] at hd
    have HD := Lib.hid hd
    clear hd
    go_enter Try.func25, Try.ntmps25
    go_wp2_with fail
    refine HD.out.mono ?_
    rintro e w' ⟨rfl, rfl⟩
    go_wp2_with fail
    go_ret2
    exact ⟨(by rw [upP_zero c]; rfl), rfl⟩
  · rw [divP_pos (show 0 < b by omega)] at hd
    have HD := Lib.hid hd
    clear hd
    have hr := rest_in a b hb (by omega)
    have hm0 := Int.emod_nonneg a (show b ≠ 0 by omega)
    have hm1 := Int.emod_lt_of_pos a (show 0 < b by omega)
    have hu : In b := hb
    unfold In at hu
    have hq := ediv_range ha (show 0 < b by omega)
    unfold In at hq
    by_cases c2 : 0 < a % b
    · have hs := (ediv_succ ha (emod_one_left (a := a) (b := b) (by omega) (by omega))).1
      unfold In at hs
      have HF := Lib.hid (upP_more (show 0 < b by omega) c2)
      generalize a / b = q at *
      generalize a % b = r at *
      go_enter Try.func25, Try.ntmps25
      go_wp2_with fail
      refine HD.out.mono ?_
      rintro e w' ⟨rfl, rfl⟩
      go_wp2_with fail
      go_ret2
      exact ⟨(by rw [HF.out]; rfl), rfl⟩
    · have HF := Lib.hid (upP_less (show 0 < b by omega) c2)
      generalize a / b = q at *
      generalize a % b = r at *
      go_enter Try.func25, Try.ntmps25
      go_wp2_with fail
      refine HD.out.mono ?_
      rintro e w' ⟨rfl, rfl⟩
      go_wp2_with fail
      go_ret2
      exact ⟨(by rw [HF.out]; rfl), rfl⟩

/-! ### lumperref01.Mul: by halves of the second one. -/
/-- A product, and that with half of the second one: both lie on one side of 0. -/
theorem halves (a b : Int) (h : Int) (s : Int) (hh : b = 2 * h + s) (hs : (0 ≤ h ∧ 0 ≤ s ∧ s ≤ 1) ∨ (h ≤ 0 ∧ s ≤ 0 ∧ -1 ≤ s)) :
    a * b = 2 * (a * h) + a * s ∧ ((0 ≤ a * h ∧ 0 ≤ a * s) ∨ (a * h ≤ 0 ∧ a * s ≤ 0)) := by
  refine ⟨by rw [hh, Int.mul_add, ← Int.mul_assoc, Int.mul_comm a 2, Int.mul_assoc], ?_⟩
  rcases hs with ⟨h1, h2, _⟩ | ⟨h1, h2, _⟩ <;> rcases Int.le_total 0 a with ha | ha
  · exact Or.inl ⟨Int.mul_nonneg ha h1, Int.mul_nonneg ha h2⟩
  · exact Or.inr ⟨Int.mul_nonpos_of_nonpos_of_nonneg ha h1, Int.mul_nonpos_of_nonpos_of_nonneg ha h2⟩
  · exact Or.inr ⟨Int.mul_nonpos_of_nonneg_of_nonpos ha h1, Int.mul_nonpos_of_nonneg_of_nonpos ha h2⟩
  · exact Or.inl ⟨Int.mul_nonneg_of_nonpos_of_nonpos ha h1, Int.mul_nonneg_of_nonpos_of_nonpos ha h2⟩

theorem ref_Mul_k (k : Nat) : ∀ (a b : Int) (w : World), b.natAbs ≤ k → In a → In b →
    Calls Try.prog 19 #[.int .i64 a, .int .i64 b] w fun e w' => e = .returned (.tuple #[.int .i64 (mulP a b).1, .int .i64 (mulP a b).2]) ∧ w = w' := by
  induction k with
  | zero =>
    intro a b w hk ha hb
    obtain rfl : b = 0 := by omega
    go_enter Try.func19, Try.ntmps19
    go_wp2_with fail
    go_ret2
    exact ⟨(by rw [mulP_in (by rw [Int.mul_zero]; decide), Int.mul_zero]; rfl), rfl⟩
  | succ k ih =>
    intro a b w hk ha hb
    have ha' := ha
    have hb' := hb
    unfold In at ha' hb'
    by_cases b0 : b = 0
    · subst b0
      clear ih
      go_enter Try.func19, Try.ntmps19
      go_wp2_with fail
      go_ret2
      exact ⟨(by rw [mulP_in (by rw [Int.mul_zero]; decide), Int.mul_zero]; rfl), rfl⟩
    by_cases bm : b = -1
    · subst bm
      clear ih
      rcases turn_facts a ha with ⟨t1, t2⟩ | ⟨t1, _, t3, t4⟩
      · subst t2
        go_enter Try.func19, Try.ntmps19
        go_wp2_with fail
        go_ret2
        exact ⟨(by rw [t1]; rfl), rfl⟩
      · have d1 : (a == -9223372036854775808) = false := by simp [t4]
        have T1 := Lib.hid t1
        clear t1
        unfold In at t3
        go_enter Try.func19, Try.ntmps19
        go_wp2_with fail
        go_ret2
        exact ⟨(by rw [T1.out]; rfl), rfl⟩
    have d0 : (b == 0) = false := by simp [b0]
    have dm : (b == -1) = false := by simp [bm]
    rcases Int.lt_or_gt_of_ne b0 with hneg | hpos
    · -- the second one is below 0
      have e1 : 2 * (b.tdiv 2) + b.tmod 2 = b := Int.mul_tdiv_add_tmod b 2
      have e2 : (b.tmod 2).natAbs < 2 := by rw [Int.natAbs_tmod]; exact Nat.mod_lt _ (by decide)
      have e3 : b.tmod 2 ≤ 0 := by
        have := Int.tmod_nonneg (b := 2) (a := -b) (by omega)
        rw [Int.neg_tmod] at this
        omega
      obtain ⟨hp, hsg⟩ := halves a b (b.tdiv 2) (b.tmod 2) e1.symm (by omega)
      have hh : In (b.tdiv 2) := by unfold In; omega
      have self := ih a (b.tdiv 2) w (by omega) ha hh
      have SELF := Lib.hid self
      clear self ih
      by_cases i1 : In (a * (b.tdiv 2))
      · have i1' := i1
        unfold In at i1'
        have hr := SELF.out
        rw [mulP_in i1] at hr
        have HR := Lib.hid hr
        clear hr SELF
        by_cases i2 : In (a * (b.tdiv 2) + a * (b.tdiv 2))
        · have i2' := i2
          unfold In at i2'
          by_cases c : b.tmod 2 = 0
          · have dc : (b.tmod 2 == 0) = true := by simp [c]
            rw [c, Int.mul_zero] at hp
            have F : mulP a b = (a * (b.tdiv 2) + a * (b.tdiv 2), 0) := by rw [mulP_in (by rw [hp]; unfold In; omega), hp]; congr 1; omega
            have HF := Lib.hid F
            clear F hp hsg e1 c
            generalize a * (b.tdiv 2) = p at *
            go_enter Try.func19, Try.ntmps19
            go_wp2_with fail
            refine HR.out.mono ?_
            rintro e w' ⟨rfl, rfl⟩
            go_wp2_with fail
            refine (ref_add_in p p i1 i1 i2 _).mono ?_
            rintro e w' ⟨rfl, rfl⟩
            go_wp2_with fail
            go_ret2
            exact ⟨(by rw [HF.out]; rfl), rfl⟩
          · have cm : b.tmod 2 = -1 := by omega
            have dc : (b.tmod 2 == 0) = false := by simp [c]
            rw [cm, Int.mul_neg, Int.mul_one] at hp hsg
            have hal : -9223372036854775807 ≤ a := by
              apply Classical.byContradiction
              intro hal
              have hal' : a = -9223372036854775808 := by omega
              rw [hal'] at i1'
              omega
            have ina : In (-a) := by unfold In; omega
            have HP := Lib.hid hp
            clear hp hsg e1 c cm
            by_cases i3 : In (a * (b.tdiv 2) + a * (b.tdiv 2) + -a)
            · have F : mulP a b = (a * (b.tdiv 2) + a * (b.tdiv 2) + -a, 0) := by rw [mulP_in (by rw [HP.out]; unfold In at i3 ⊢; omega), HP.out]; congr 1; omega
              have HF := Lib.hid F
              clear F HP
              generalize a * (b.tdiv 2) = p at *
              go_enter Try.func19, Try.ntmps19
              go_wp2_with fail
              refine HR.out.mono ?_
              rintro e w' ⟨rfl, rfl⟩
              go_wp2_with fail
              refine (ref_add_in p p i1 i1 i2 _).mono ?_
              rintro e w' ⟨rfl, rfl⟩
              go_wp2_with fail
              refine (ref_add_in (p + p) (-a) i2 ina i3 _).mono ?_
              rintro e w' ⟨rfl, rfl⟩
              go_wp2_with fail
              go_ret2
              exact ⟨(by rw [HF.out]; rfl), rfl⟩
            · have F : mulP a b = (0, 10) := by rw [mulP_over (by rw [HP.out]; unfold In at i3 ⊢; omega)]
              have HF := Lib.hid F
              clear F HP
              generalize a * (b.tdiv 2) = p at *
              go_enter Try.func19, Try.ntmps19
              go_wp2_with fail
              refine HR.out.mono ?_
              rintro e w' ⟨rfl, rfl⟩
              go_wp2_with fail
              refine (ref_add_in p p i1 i1 i2 _).mono ?_
              rintro e w' ⟨rfl, rfl⟩
              go_wp2_with fail
              refine (ref_add_over (p + p) (-a) i2 ina i3 _).mono ?_
              rintro e w' ⟨rfl, rfl⟩
              go_wp2_with fail
              go_ret2
              exact ⟨(by rw [HF.out]; rfl), rfl⟩
        · have F : mulP a b = (0, 10) := by rw [mulP_over (by rw [hp]; unfold In at i2 ⊢; omega)]
          have HF := Lib.hid F
          clear F hp hsg e1
          generalize a * (b.tdiv 2) = p at *
          go_enter Try.func19, Try.ntmps19
          go_wp2_with fail
          refine HR.out.mono ?_
          rintro e w' ⟨rfl, rfl⟩
          go_wp2_with fail
          refine (ref_add_over p p i1 i1 i2 _).mono ?_
          rintro e w' ⟨rfl, rfl⟩
          go_wp2_with fail
          go_ret2
          exact ⟨(by rw [HF.out]; rfl), rfl⟩
      · have F : mulP a b = (0, 10) := by rw [mulP_over (by rw [hp]; unfold In at i1 ⊢; omega)]
        have HF := Lib.hid F
        have hr := SELF.out
        rw [mulP_over i1] at hr
        have HR := Lib.hid hr
        have i0 : In 0 := by decide
        have i00 : In (0 + 0) := by decide
        clear F hp hsg e1 hr SELF
        go_enter Try.func19, Try.ntmps19
        go_wp2_with fail
        refine HR.out.mono ?_
        rintro e w' ⟨rfl, rfl⟩
        go_wp2_with fail
        refine (ref_add_in 0 0 i0 i0 i00 _).mono ?_
        rintro e w' ⟨rfl, rfl⟩
        go_wp2_with fail
        go_ret2
        exact ⟨(by rw [HF.out]; rfl), rfl⟩
    · -- it is above 0
      have e1 : 2 * (b / 2) + b % 2 = b := Int.mul_ediv_add_emod b 2
      obtain ⟨hp, hsg⟩ := halves a b (b / 2) (b % 2) e1.symm (by omega)
      have hh : In (b / 2) := by unfold In; omega
      have self := ih a (b / 2) w (by omega) ha hh
      have SELF := Lib.hid self
      clear self ih
      by_cases i1 : In (a * (b / 2))
      · have i1' := i1
        unfold In at i1'
        have hr := SELF.out
        rw [mulP_in i1] at hr
        have HR := Lib.hid hr
        clear hr SELF
        by_cases i2 : In (a * (b / 2) + a * (b / 2))
        · have i2' := i2
          unfold In at i2'
          by_cases c : b % 2 = 0
          · have dc : (b % 2 == 0) = true := by simp [c]
            rw [c, Int.mul_zero] at hp
            have F : mulP a b = (a * (b / 2) + a * (b / 2), 0) := by rw [mulP_in (by rw [hp]; unfold In; omega), hp]; congr 1; omega
            have HF := Lib.hid F
            clear F hp hsg e1 c
            generalize a * (b / 2) = p at *
            go_enter Try.func19, Try.ntmps19
            go_wp2_with fail
            refine HR.out.mono ?_
            rintro e w' ⟨rfl, rfl⟩
            go_wp2_with fail
            refine (ref_add_in p p i1 i1 i2 _).mono ?_
            rintro e w' ⟨rfl, rfl⟩
            go_wp2_with fail
            go_ret2
            exact ⟨(by rw [HF.out]; rfl), rfl⟩
          · have cm : b % 2 = 1 := by omega
            have dc : (b % 2 == 0) = false := by simp [c]
            rw [cm, Int.mul_one] at hp hsg
            have ina := ha
            have HP := Lib.hid hp
            clear hp hsg e1 c cm
            by_cases i3 : In (a * (b / 2) + a * (b / 2) + a)
            · have F : mulP a b = (a * (b / 2) + a * (b / 2) + a, 0) := by rw [mulP_in (by rw [HP.out]; unfold In at i3 ⊢; omega), HP.out]; congr 1; omega
              have HF := Lib.hid F
              clear F HP
              generalize a * (b / 2) = p at *
              go_enter Try.func19, Try.ntmps19
              go_wp2_with fail
              refine HR.out.mono ?_
              rintro e w' ⟨rfl, rfl⟩
              go_wp2_with fail
              refine (ref_add_in p p i1 i1 i2 _).mono ?_
              rintro e w' ⟨rfl, rfl⟩
              go_wp2_with fail
              refine (ref_add_in (p + p) (a) i2 ina i3 _).mono ?_
              rintro e w' ⟨rfl, rfl⟩
              go_wp2_with fail
              go_ret2
              exact ⟨(by rw [HF.out]; rfl), rfl⟩
            · have F : mulP a b = (0, 10) := by rw [mulP_over (by rw [HP.out]; unfold In at i3 ⊢; omega)]
              have HF := Lib.hid F
              clear F HP
              generalize a * (b / 2) = p at *
              go_enter Try.func19, Try.ntmps19
              go_wp2_with fail
              refine HR.out.mono ?_
              rintro e w' ⟨rfl, rfl⟩
              go_wp2_with fail
              refine (ref_add_in p p i1 i1 i2 _).mono ?_
              rintro e w' ⟨rfl, rfl⟩
              go_wp2_with fail
              refine (ref_add_over (p + p) (a) i2 ina i3 _).mono ?_
              rintro e w' ⟨rfl, rfl⟩
              go_wp2_with fail
              go_ret2
              exact ⟨(by rw [HF.out]; rfl), rfl⟩
        · have F : mulP a b = (0, 10) := by rw [mulP_over (by rw [hp]; unfold In at i2 ⊢; omega)]
          have HF := Lib.hid F
          clear F hp hsg e1
          generalize a * (b / 2) = p at *
          go_enter Try.func19, Try.ntmps19
          go_wp2_with fail
          refine HR.out.mono ?_
          rintro e w' ⟨rfl, rfl⟩
          go_wp2_with fail
          refine (ref_add_over p p i1 i1 i2 _).mono ?_
          rintro e w' ⟨rfl, rfl⟩
          go_wp2_with fail
          go_ret2
          exact ⟨(by rw [HF.out]; rfl), rfl⟩
      · have F : mulP a b = (0, 10) := by rw [mulP_over (by rw [hp]; unfold In at i1 ⊢; omega)]
        have HF := Lib.hid F
        have hr := SELF.out
        rw [mulP_over i1] at hr
        have HR := Lib.hid hr
        have i0 : In 0 := by decide
        have i00 : In (0 + 0) := by decide
        clear F hp hsg e1 hr SELF
        go_enter Try.func19, Try.ntmps19
        go_wp2_with fail
        refine HR.out.mono ?_
        rintro e w' ⟨rfl, rfl⟩
        go_wp2_with fail
        refine (ref_add_in 0 0 i0 i0 i00 _).mono ?_
        rintro e w' ⟨rfl, rfl⟩
        go_wp2_with fail
        go_ret2
        exact ⟨(by rw [HF.out]; rfl), rfl⟩

/-- lumperref01.Mul. -/
theorem ref_Mul (a b : Int) (ha : In a) (hb : In b) (w : World) :
    Calls Try.prog 19 #[.int .i64 a, .int .i64 b] w fun e w' => e = .returned (.tuple #[.int .i64 (mulP a b).1, .int .i64 (mulP a b).2]) ∧ w = w' :=
  ref_Mul_k _ a b w (Nat.le_refl _) ha hb

end Go.Proofs.Ytangogkmilpfiaa
