/- THE LIBRARY's LOOPS under setup.Check, each with its closure. -/
import Derived.Test.YtnjckaifgmliaaaAll
import Derived.Test.YtnjckaifgmliaaaRatio
import Derived.Test.YtnjckaifgmliaaaRat
set_option linter.unusedSimpArgs false
set_option linter.unusedVariables false
namespace Go.Proofs.Ytnjckaifgmliaaa
open Go.RowKit Lu


/-- A slice of things of 3 numbers reads as a list. -/
def Recs3 (w : World) (a : Option Addr) (len : Nat) (rs : List (Int × Int × Int)) : Prop :=
  rs.length = len ∧ (len : Int) ≤ 9223372036854775807 ∧ (∀ r ∈ rs, In r.1 ∧ In r.2.1 ∧ In r.2.2) ∧
  (len = 0 ∨ ∃ b off, a = some ⟨b, off, none⟩ ∧ b < w.heap.size ∧ ∀ i, i < len → w.cell? ⟨b, off + i * 3, none⟩ = some (.int .i64 (rs.getD i (0, 0, 0)).1) ∧ w.cell? ⟨b, off + i * 3 + 1, none⟩ = some (.int .i64 (rs.getD i (0, 0, 0)).2.1) ∧ w.cell? ⟨b, off + i * 3 + 2, none⟩ = some (.int .i64 (rs.getD i (0, 0, 0)).2.2))
theorem Recs3.below {w w' : World} {a : Option Addr} {len : Nat} {rs : List (Int × Int × Int)} (h : Recs3 w a len rs) (hb : Below w.heap.size w w') : Recs3 w' a len rs := by
  obtain ⟨h1, h2, h3, h4⟩ := h
  refine ⟨h1, h2, h3, ?_⟩
  rcases h4 with h4 | ⟨b, off, ha, hlt, hc⟩
  · exact Or.inl h4
  · refine Or.inr ⟨b, off, ha, Nat.lt_of_lt_of_le hlt hb.size, fun i hi => ?_⟩
    have := hc i hi
    exact ⟨keepC hb this.1 hlt, keepC hb this.2.1 hlt, keepC hb this.2.2 hlt⟩
theorem getD_mem_3 {l : List (Int × Int × Int)} {k : Nat} (h : k < l.length) : l.getD k (0, 0, 0) ∈ l := by
  rw [List.getD_eq_getElem?_getD, List.getElem?_eq_getElem h]; simp
theorem drop_getD_3 {l : List (Int × Int × Int)} {k : Nat} (h : k < l.length) : l.drop k = l.getD k (0, 0, 0) :: l.drop (k + 1) := by
  rw [List.drop_eq_getElem_cons h, List.getD_eq_getElem?_getD, List.getElem?_eq_getElem h]; rfl

/-- A slice of things of 4 numbers reads as a list. -/
def Recs4 (w : World) (a : Option Addr) (len : Nat) (rs : List (Int × Int × Int × Int)) : Prop :=
  rs.length = len ∧ (len : Int) ≤ 9223372036854775807 ∧ (∀ r ∈ rs, In r.1 ∧ In r.2.1 ∧ In r.2.2.1 ∧ In r.2.2.2) ∧
  (len = 0 ∨ ∃ b off, a = some ⟨b, off, none⟩ ∧ b < w.heap.size ∧ ∀ i, i < len → w.cell? ⟨b, off + i * 4, none⟩ = some (.int .i64 (rs.getD i (0, 0, 0, 0)).1) ∧ w.cell? ⟨b, off + i * 4 + 1, none⟩ = some (.int .i64 (rs.getD i (0, 0, 0, 0)).2.1) ∧ w.cell? ⟨b, off + i * 4 + 2, none⟩ = some (.int .i64 (rs.getD i (0, 0, 0, 0)).2.2.1) ∧ w.cell? ⟨b, off + i * 4 + 3, none⟩ = some (.int .i64 (rs.getD i (0, 0, 0, 0)).2.2.2))
theorem Recs4.below {w w' : World} {a : Option Addr} {len : Nat} {rs : List (Int × Int × Int × Int)} (h : Recs4 w a len rs) (hb : Below w.heap.size w w') : Recs4 w' a len rs := by
  obtain ⟨h1, h2, h3, h4⟩ := h
  refine ⟨h1, h2, h3, ?_⟩
  rcases h4 with h4 | ⟨b, off, ha, hlt, hc⟩
  · exact Or.inl h4
  · refine Or.inr ⟨b, off, ha, Nat.lt_of_lt_of_le hlt hb.size, fun i hi => ?_⟩
    have := hc i hi
    exact ⟨keepC hb this.1 hlt, keepC hb this.2.1 hlt, keepC hb this.2.2.1 hlt, keepC hb this.2.2.2 hlt⟩
theorem getD_mem_4 {l : List (Int × Int × Int × Int)} {k : Nat} (h : k < l.length) : l.getD k (0, 0, 0, 0) ∈ l := by
  rw [List.getD_eq_getElem?_getD, List.getElem?_eq_getElem h]; simp
theorem drop_getD_4 {l : List (Int × Int × Int × Int)} {k : Nat} (h : k < l.length) : l.drop k = l.getD k (0, 0, 0, 0) :: l.drop (k + 1) := by
  rw [List.drop_eq_getElem_cons h, List.getD_eq_getElem?_getD, List.getElem?_eq_getElem h]; rfl


/-- setup.shares's closure. -/
theorem share_closure (n d : Int) (r : Bool) (w : World) (hn : In n) (hd : In d) (hr : (!shareP n d) = r) :
    Calls Try.prog 110 #[.agg #[.int .i64 n, .int .i64 d]] w fun e w' => e = .returned (.bool r) ∧ Below w.heap.size w w' := by
  subst hr
  by_cases h0 : n < 0
  · have hv : shareP n d = false := by unfold shareP; rw [decide_eq_false (show ¬ 0 ≤ n by omega)]; rfl
    rw [hv]
    go_enter Try.func110, Try.ntmps110
    go_wp2_with fail
    go_ret
    exact ⟨rfl, by go_grown⟩
  · have d0 : decide (n < 0) = false := by simp; omega
    by_cases o : Ok n d
    · have hv : shareP n d = true := by unfold shareP; rw [decide_eq_true (show 0 ≤ n by omega), decide_eq_true o]; rfl
      rw [hv]
      go_enter Try.func110, Try.ntmps110
      go_wp2_with fail
      refine (ratio_Check_yes n d o _).mono ?_
      rintro e w1 ⟨rfl, k1⟩
      have B : Below w.heap.size w w1 := ((Below.refl _ _).alloc (Nat.le_refl _) _).trans (k1.mono (by simp))
      clear k1
      go_wp2_with fail
      go_ret
      exact ⟨rfl, B⟩
    · have hv : shareP n d = false := by unfold shareP; rw [decide_eq_false o]; simp
      rw [hv]
      go_enter Try.func110, Try.ntmps110
      go_wp2_with fail
      refine (ratio_Check_no n d hn hd o _).mono ?_
      rintro e w1 ⟨rfl, k1⟩
      have B : Below w.heap.size w w1 := ((Below.refl _ _).alloc (Nat.le_refl _) _).trans (k1.mono (by simp))
      clear k1
      go_wp2_with fail
      go_ret
      exact ⟨rfl, B⟩


/-- What the loop's answer tells. -/
def share_found (b : Bool) (w : World) (e : Ending) (w' : World) : Prop := ∃ i : Int, e = .returned (.int .i64 i) ∧ decide (0 ≤ i) = b ∧ Below w.heap.size w w'
set_option maxHeartbeats 1000000 in
theorem index_share (a : Option Addr) (len cap : Nat) (rs : List (Int × Int)) (w : World) (h : Ratios w a len rs) :
    Calls Try.prog 119 #[.slice a len cap, .func (.func 110) #[] #[]] w (share_found (!sharesP rs) w) := by
  obtain ⟨hl, hm, hin, hc⟩ := h
  go_enter Try.func119, Try.ntmps119
  go_wp2_with fail
  go_loopw [8] (fun i wr => ∃ k : Nat, k ≤ len ∧ i = .int .i64 k ∧ sharesP rs = sharesP (rs.drop k) ∧ Below w.heap.size w wr) (fun i _ => len - (intOf i).toNat)
  case atStart => exact ⟨0, Nat.zero_le _, rfl, by simp, Below.refl _ _⟩
  case round =>
    obtain ⟨k, hk, rfl, hrest, hb⟩ := hrel
    have HR := Lib.hid hrest
    clear hrest
    by_cases hlt : k < len
    · obtain ⟨b, off, rfl, hbl, hcell⟩ := hc.resolve_left (by omega)
      have hr := hin _ (getD_mem2 (l := rs) (k := k) (by omega))
      have hcl := hcell k hlt
      have d0 : wr.cell? ⟨b, off + k * 2, none⟩ = some (.int .i64 (rs.getD k (0, 0)).1) := keepC hb hcl.1 hbl
      have d1 : wr.cell? ⟨b, off + k * 2 + 1, none⟩ = some (.int .i64 (rs.getD k (0, 0)).2) := keepC hb hcl.2 hbl
      have hbr : b < wr.heap.size := Nat.lt_of_lt_of_le hbl hb.size
      have hd := drop_getD2 (l := rs) (k := k) (by omega)
      have HC := Lib.hid hcell
      clear hcell hc hcl
      obtain ⟨x0, x1, hxy⟩ : ∃ x0 x1, rs.getD k (0, 0) = (x0, x1) := ⟨_, _, rfl⟩
      rw [hxy] at hr d0 d1 hd
      have HX := Lib.hid hxy
      clear hxy
      obtain ⟨hx0, hx1⟩ := hr
      by_cases ho : (fun r : Int × Int => shareP r.1 r.2) (x0, x1) = true
      · have hs : sharesP rs = sharesP (rs.drop (k + 1)) := by
          rw [HR.out, hd]
          show ((fun r : Int × Int => shareP r.1 r.2) (x0, x1) && _) = _
          rw [ho]
          rfl
        have HS := Lib.hid hs
        have HO := Lib.hid ho
        clear hs hd ho
        go_wp2_with fail
        refine (share_closure x0 x1 false _ hx0 hx1 (by rw [HO.out]; rfl)).mono ?_
        rintro e w2 ⟨rfl, k2⟩
        have hb2 := hb.trans (k2.mono hb.size)
        go_wp2_with fail
        go_roundw
        case rel => exact ⟨k + 1, by omega, by go_num, HS.out, hb2⟩
        case measure => simp [intOf]; omega
      · have hs : sharesP rs = false := by
          rw [HR.out, hd]
          show ((fun r : Int × Int => shareP r.1 r.2) (x0, x1) && _) = _
          rw [Bool.eq_false_iff.2 ho]
          rfl
        have HS := Lib.hid hs
        have HO := Lib.hid (Bool.eq_false_iff.2 ho)
        clear hs hd ho
        go_wp2_with fail
        refine (share_closure x0 x1 true _ hx0 hx1 (by rw [HO.out]; rfl)).mono ?_
        rintro e w2 ⟨rfl, k2⟩
        have hb2 := hb.trans (k2.mono hb.size)
        go_wp2_with fail
        go_ret
        exact ⟨k, rfl, by rw [HS.out]; simp, hb2⟩
    · have hs : sharesP rs = true := by rw [HR.out, List.drop_of_length_le (by omega)]; rfl
      have HS := Lib.hid hs
      clear hs
      go_wp2_with fail
      go_ret
      exact ⟨-1, rfl, by rw [HS.out]; rfl, hb⟩
theorem contains_share (a : Option Addr) (len cap : Nat) (rs : List (Int × Int)) (w : World) (h : Ratios w a len rs) :
    Calls Try.prog 109 #[.slice a len cap, .func (.func 110) #[] #[]] w fun e w' => e = .returned (.bool (!sharesP rs)) ∧ Below w.heap.size w w' := by
  have hI := index_share a len cap rs w h
  generalize (!sharesP rs) = r at *
  have HI := Lib.hid hI
  clear hI
  go_enter Try.func109, Try.ntmps109
  go_wp2_with fail
  refine HI.out.mono ?_
  rintro e w' ⟨i, rfl, hi', hb⟩
  go_wp2_with fail
  go_ret
  exact ⟨rfl, hb⟩


/-- setup.shares. -/
theorem setup_shares (a : Option Addr) (len cap : Nat) (rs : List (Int × Int)) (r : Bool) (w : World) (h : Ratios w a len rs) (hr : sharesP rs = r) :
    Calls Try.prog 86 #[.slice a len cap] w fun e w' => e = .returned (.bool r) ∧ Below w.heap.size w w' := by
  have hI := contains_share a len cap rs w h
  rw [hr] at hI
  clear hr
  have HI := Lib.hid hI
  clear hI
  go_enter Try.func86, Try.ntmps86
  go_wp2_with fail
  refine HI.out.mono ?_
  rintro e w' ⟨rfl, hb⟩
  go_wp2_with fail
  go_ret
  exact ⟨by simp, hb⟩
/-- setup.tables's closure. -/
theorem element_closure (x0 x1 x2 x3 : Int) (r : Bool) (w : World) (h0 : In x0) (h1 : In x1) (h2 : In x2) (h3 : In x3) (hr : (!elementP (x0, x1, x2, x3)) = r) :
    Calls Try.prog 85 #[.agg #[.int .i64 x0, .int .i64 x1, .int .i64 x2, .int .i64 x3]] w fun e w' => e = .returned (.bool r) ∧ Below w.heap.size w w' := by
  subst hr
  have hs : sharesP [(x0, x1), (x2, x3)] = elementP (x0, x1, x2, x3) := by unfold sharesP elementP; simp
  generalize elementP (x0, x1, x2, x3) = r at *
  have HS := Lib.hid hs
  clear hs
  go_enter Try.func85, Try.ntmps85
  go_wp2_with fail
  refine (setup_shares _ _ _ [(x0, x1), (x2, x3)] r _ (Ratios_new2 _ _ (by simp) x0 x1 x2 x3 _ h0 h1 h2 h3) HS.out).mono ?_
  rintro e w1 ⟨rfl, k1⟩
  have B : Below w.heap.size w w1 := by
    refine Below.trans ?_ (k1.mono (by simp <;> omega))
    go_grown
  clear k1
  go_wp2_with fail
  go_ret
  exact ⟨rfl, B⟩


/-- What the loop's answer tells. -/
def element_found (b : Bool) (w : World) (e : Ending) (w' : World) : Prop := ∃ i : Int, e = .returned (.int .i64 i) ∧ decide (0 ≤ i) = b ∧ Below w.heap.size w w'
set_option maxHeartbeats 1000000 in
theorem index_element (a : Option Addr) (len cap : Nat) (rs : List (Int × Int × Int × Int)) (w : World) (h : Recs4 w a len rs) :
    Calls Try.prog 111 #[.slice a len cap, .func (.func 85) #[] #[]] w (element_found (!elementsP rs) w) := by
  obtain ⟨hl, hm, hin, hc⟩ := h
  go_enter Try.func111, Try.ntmps111
  go_wp2_with fail
  go_loopw [8] (fun i wr => ∃ k : Nat, k ≤ len ∧ i = .int .i64 k ∧ elementsP rs = elementsP (rs.drop k) ∧ Below w.heap.size w wr) (fun i _ => len - (intOf i).toNat)
  case atStart => exact ⟨0, Nat.zero_le _, rfl, by simp, Below.refl _ _⟩
  case round =>
    obtain ⟨k, hk, rfl, hrest, hb⟩ := hrel
    have HR := Lib.hid hrest
    clear hrest
    by_cases hlt : k < len
    · obtain ⟨b, off, rfl, hbl, hcell⟩ := hc.resolve_left (by omega)
      have hr := hin _ (getD_mem_4 (l := rs) (k := k) (by omega))
      have hcl := hcell k hlt
      have d0 : wr.cell? ⟨b, off + k * 4, none⟩ = some (.int .i64 (rs.getD k (0, 0, 0, 0)).1) := keepC hb hcl.1 hbl
      have d1 : wr.cell? ⟨b, off + k * 4 + 1, none⟩ = some (.int .i64 (rs.getD k (0, 0, 0, 0)).2.1) := keepC hb hcl.2.1 hbl
      have d2 : wr.cell? ⟨b, off + k * 4 + 2, none⟩ = some (.int .i64 (rs.getD k (0, 0, 0, 0)).2.2.1) := keepC hb hcl.2.2.1 hbl
      have d3 : wr.cell? ⟨b, off + k * 4 + 3, none⟩ = some (.int .i64 (rs.getD k (0, 0, 0, 0)).2.2.2) := keepC hb hcl.2.2.2 hbl
      have hbr : b < wr.heap.size := Nat.lt_of_lt_of_le hbl hb.size
      have hd := drop_getD_4 (l := rs) (k := k) (by omega)
      have HC := Lib.hid hcell
      clear hcell hc hcl
      obtain ⟨x0, x1, x2, x3, hxy⟩ : ∃ x0 x1 x2 x3, rs.getD k (0, 0, 0, 0) = (x0, x1, x2, x3) := ⟨_, _, _, _, rfl⟩
      rw [hxy] at hr d0 d1 d2 d3 hd
      have HX := Lib.hid hxy
      clear hxy
      obtain ⟨hx0, hx1, hx2, hx3⟩ := hr
      by_cases ho : elementP (x0, x1, x2, x3) = true
      · have hs : elementsP rs = elementsP (rs.drop (k + 1)) := by
          rw [HR.out, hd]
          show (elementP (x0, x1, x2, x3) && _) = _
          rw [ho]
          rfl
        have HS := Lib.hid hs
        have HO := Lib.hid ho
        clear hs hd ho
        go_wp2_with fail
        refine (element_closure x0 x1 x2 x3 false _ hx0 hx1 hx2 hx3 (by rw [HO.out]; rfl)).mono ?_
        rintro e w2 ⟨rfl, k2⟩
        have hb2 := hb.trans (k2.mono hb.size)
        go_wp2_with fail
        go_roundw
        case rel => exact ⟨k + 1, by omega, by go_num, HS.out, hb2⟩
        case measure => simp [intOf]; omega
      · have hs : elementsP rs = false := by
          rw [HR.out, hd]
          show (elementP (x0, x1, x2, x3) && _) = _
          rw [Bool.eq_false_iff.2 ho]
          rfl
        have HS := Lib.hid hs
        have HO := Lib.hid (Bool.eq_false_iff.2 ho)
        clear hs hd ho
        go_wp2_with fail
        refine (element_closure x0 x1 x2 x3 true _ hx0 hx1 hx2 hx3 (by rw [HO.out]; rfl)).mono ?_
        rintro e w2 ⟨rfl, k2⟩
        have hb2 := hb.trans (k2.mono hb.size)
        go_wp2_with fail
        go_ret
        exact ⟨k, rfl, by rw [HS.out]; simp, hb2⟩
    · have hs : elementsP rs = true := by rw [HR.out, List.drop_of_length_le (by omega)]; rfl
      have HS := Lib.hid hs
      clear hs
      go_wp2_with fail
      go_ret
      exact ⟨-1, rfl, by rw [HS.out]; rfl, hb⟩
theorem contains_element (a : Option Addr) (len cap : Nat) (rs : List (Int × Int × Int × Int)) (w : World) (h : Recs4 w a len rs) :
    Calls Try.prog 87 #[.slice a len cap, .func (.func 85) #[] #[]] w fun e w' => e = .returned (.bool (!elementsP rs)) ∧ Below w.heap.size w w' := by
  have hI := index_element a len cap rs w h
  generalize (!elementsP rs) = r at *
  have HI := Lib.hid hI
  clear hI
  go_enter Try.func87, Try.ntmps87
  go_wp2_with fail
  refine HI.out.mono ?_
  rintro e w' ⟨i, rfl, hi', hb⟩
  go_wp2_with fail
  go_ret
  exact ⟨rfl, hb⟩

end Go.Proofs.Ytnjckaifgmliaaa
