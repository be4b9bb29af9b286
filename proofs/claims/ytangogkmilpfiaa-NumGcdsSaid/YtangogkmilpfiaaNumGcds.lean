/- THE WALK of NumGcds: it returns true, and turns nothing that was there. -/
import Derived.Test.YtangogkmilpfiaaNumUp
namespace Go.Proofs.Ytangogkmilpfiaa
open Go.RowKit Lu

theorem numGcds_walk (a b : Int) (ha : -2147483648 ≤ a ∧ a ≤ 2147483647) (hb : -2147483648 ≤ b ∧ b ≤ 2147483647) (w : World) :
    Calls Try.prog 7 #[.int .i32 a, .int .i32 b] w fun e w' => e = .returned (.bool true) ∧ Below w.heap.size w w' := by
  have ia : In a := by unfold In; omega
  have ib : In b := by unfold In; omega
  have sa : sideN a = a.natAbs := by unfold sideN; rw [if_neg (by omega)]
  have sb : sideN b = b.natAbs := by unfold sideN; rw [if_neg (by omega)]
  have sn : sideN (-a) = a.natAbs := by unfold sideN; rw [if_neg (by omega), Int.natAbs_neg]
  have ina : In (-a) := by unfold In; omega
  obtain ⟨g, hg⟩ : ∃ g, a.natAbs.gcd b.natAbs = g := ⟨_, rfl⟩
  have G1 : gcdP a b = (g : Int) := by unfold gcdP; rw [sa, sb, hg]
  have G2 : gcdP b a = (g : Int) := by unfold gcdP; rw [sa, sb, Nat.gcd_comm, hg]
  have G3 : gcdP (-a) b = (g : Int) := by unfold gcdP; rw [sn, sb, hg]
  have da : g ∣ a.natAbs := hg ▸ Nat.gcd_dvd_left _ _
  have db : g ∣ b.natAbs := hg ▸ Nat.gcd_dvd_right _ _
  have hgm := gcd_le_max a.natAbs b.natAbs
  rw [hg] at hgm
  have gb : (g : Int) ≤ 2147483648 := by omega
  by_cases g0 : g = 0
  · have ea : a = 0 := by rw [g0] at da; have := Nat.eq_zero_of_zero_dvd da; omega
    have eb : b = 0 := by rw [g0] at db; have := Nat.eq_zero_of_zero_dvd db; omega
    subst ea; subst eb; subst g0
    have H1 := Lib.hid G1
    have H2 := Lib.hid G2
    have H3 := Lib.hid G3
    clear G1 G2 G3 hg sa sb sn
    go_enter Try.func7, Try.ntmps7
    go_wp2_with fail
    refine (awake01 _).mono ?_
    rintro e w1 ⟨rfl, hb1⟩
    go_wp2_with fail
    refine (num_Gcd_is _ _ _ _ ia ib H1.out).mono ?_
    rintro e w' ⟨rfl, n1, rfl⟩
    go_wp2_with fail
    refine (num_Gcd_is _ _ _ _ ib ia H2.out).mono ?_
    rintro e w' ⟨rfl, n2, rfl⟩
    go_wp2_with fail
    refine (num_Gcd_is _ _ _ _ ib ib H1.out).mono ?_
    rintro e w' ⟨rfl, n3, rfl⟩
    go_wp2_with fail
    go_ret
    exact ⟨rfl, by repeat (first | exact hb1 | apply below_drewN)⟩
  · have tm : ∀ x : Int, g ∣ x.natAbs → x.tmod g = 0 := by
      intro x hx
      have h : ((x.tmod g).natAbs : Nat) = 0 := by rw [Int.natAbs_tmod]; simpa using Nat.mod_eq_zero_of_dvd hx
      omega
    have ta := tm a da
    have tb := tm b db
    have hqa : (a.tdiv g).natAbs = a.natAbs / g := by rw [Int.natAbs_tdiv]; rfl
    have hqb : (b.tdiv g).natAbs = b.natAbs / g := by rw [Int.natAbs_tdiv]; rfl
    have hla : a.natAbs / g ≤ a.natAbs := Nat.div_le_self _ _
    have hlb : b.natAbs / g ≤ b.natAbs := Nat.div_le_self _ _
    have iqa : In (a.tdiv g) := by unfold In; omega
    have iqb : In (b.tdiv g) := by unfold In; omega
    have G4 : gcdP (a.tdiv g) (b.tdiv g) = 1 := by
      have e1 : sideN (a.tdiv g) = a.natAbs / g := by unfold sideN; rw [if_neg (by omega), hqa]
      have e2 : sideN (b.tdiv g) = b.natAbs / g := by unfold sideN; rw [if_neg (by omega), hqb]
      unfold gcdP
      rw [e1, e2, Nat.gcd_div da db, hg, Nat.div_self (by omega)]
      rfl
    have ta' : (a.tmod (g : Int) == 0) = true := by simp [ta]
    have tb' : (b.tmod (g : Int) == 0) = true := by simp [tb]
    have wqa : IntKind.i64.wrap (a.tdiv g) = a.tdiv g := IntWalk.i64_in _ iqa
    have wqb : IntKind.i64.wrap (b.tdiv g) = b.tdiv g := IntWalk.i64_in _ iqb
    have H1 := Lib.hid G1
    have H2 := Lib.hid G2
    have H3 := Lib.hid G3
    have H4 := Lib.hid G4
    have g1 : (0 : Int) < g := by omega
    clear G1 G2 G3 G4 hg sa sb sn ta tb hqa hqb tm
    go_enter Try.func7, Try.ntmps7
    go_wp2_with fail
    refine (awake01 _).mono ?_
    rintro e w1 ⟨rfl, hb1⟩
    go_wp2_with fail
    refine (num_Gcd_is _ _ _ _ ia ib H1.out).mono ?_
    rintro e w' ⟨rfl, n1, rfl⟩
    go_wp2_with fail
    refine (num_Gcd_is _ _ _ _ ib ia H2.out).mono ?_
    rintro e w' ⟨rfl, n2, rfl⟩
    go_wp2_with fail
    refine (num_Gcd_is _ _ _ _ ina ib H3.out).mono ?_
    rintro e w' ⟨rfl, n3, rfl⟩
    go_wp2_with fail
    have hb2 : Below w.heap.size w (w1.drewN (n1 + n2 + n3)) := below_drewN hb1 _
    generalize w1.drewN (n1 + n2 + n3) = W2 at *
    go_quiet ((go_at_call 26; exact Calls.quiet_of (num_Gcd_is _ _ _ _ iqa iqb H4.out)))
    go_wp2
    go_ret
    exact ⟨rfl, below_drewN hb2 _⟩
end Go.Proofs.Ytangogkmilpfiaa
