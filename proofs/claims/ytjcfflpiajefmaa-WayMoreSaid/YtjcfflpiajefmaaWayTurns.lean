/- THE WALK of WayTurns: it returns true, and turns nothing that was there. -/
import Derived.Test.YtjcfflpiajefmaaWayAwake
set_option linter.unusedSimpArgs false
set_option linter.unusedVariables false
namespace Go.Proofs.Ytjcfflpiajefmaa
open Go.RowKit Lu

theorem way_Table_at (s : Setup) (q : Slices) (P : Nat) (w : World) (h : SetupIs w s q) (hc : setupP s = true) (hPl : s.places = P) :
    Calls Try.prog 21 #[.agg #[.int .i64 s.places, .slice q.wa q.wl q.wc, .int .i64 s.pn, .int .i64 s.pd, .slice q.ea q.el q.ec, .slice q.ca q.cl q.cc, .slice q.ga q.gl q.gc, .int .i64 s.allow, .int .i64 s.unit, .int .i64 s.cap, .int .i64 s.paidBreak, .int .i64 s.autoAfter, .int .i64 s.autoBreak, .int .i64 s.dayReg, .int .i64 s.dayOver, .int .i64 s.weekReg, .int .i64 s.nightFrom, .int .i64 s.nightTo, .slice q.ra q.rl q.rc, .int .i64 s.diff, .int .i64 s.least, .int .i64 s.fault, .slice q.ta q.tl q.tc]] w fun e w' =>
      ∃ o base rb, e = .returned (.slice (some ⟨o, 0, none⟩) P P) ∧ Tab w' o base P P rb (tableP P s.ways) ∧ w.heap.size ≤ o ∧ o < w'.heap.size ∧ Below w.heap.size w w' := by
  have eP : s.places.toNat = P := by rw [hPl]; simp
  subst eP
  exact way_Table s q w h hc
theorem metersP_snoc (l : WayL) (x : Int × Int × Int) : metersP (l ++ [x]) = metersP l + x.2.2 := by
  induction l with
  | nil => show x.2.2 + 0 = 0 + x.2.2; omega
  | cons y l ih =>
    show y.2.2 + metersP (l ++ [x]) = y.2.2 + metersP l + x.2.2
    rw [ih]
    omega
set_option maxRecDepth 100000 in
set_option maxHeartbeats 4000000 in
theorem wayTurns_walk (s : Setup) (q : Slices) (w : World) (h : SetupIs w s q) :
    Calls Try.prog 10 #[.agg #[.int .i64 s.places, .slice q.wa q.wl q.wc, .int .i64 s.pn, .int .i64 s.pd, .slice q.ea q.el q.ec, .slice q.ca q.cl q.cc, .slice q.ga q.gl q.gc, .int .i64 s.allow, .int .i64 s.unit, .int .i64 s.cap, .int .i64 s.paidBreak, .int .i64 s.autoAfter, .int .i64 s.autoBreak, .int .i64 s.dayReg, .int .i64 s.dayOver, .int .i64 s.weekReg, .int .i64 s.nightFrom, .int .i64 s.nightTo, .slice q.ra q.rl q.rc, .int .i64 s.diff, .int .i64 s.least, .int .i64 s.fault, .slice q.ta q.tl q.tc]] w fun e w' => e = .returned (.bool true) ∧ Below w.heap.size w w' := by
  have hb : (w.alloc (.cells #[.int .i64 s.places, .slice q.wa q.wl q.wc, .int .i64 s.pn, .int .i64 s.pd, .slice q.ea q.el q.ec, .slice q.ca q.cl q.cc, .slice q.ga q.gl q.gc, .int .i64 s.allow, .int .i64 s.unit, .int .i64 s.cap, .int .i64 s.paidBreak, .int .i64 s.autoAfter, .int .i64 s.autoBreak, .int .i64 s.dayReg, .int .i64 s.dayOver, .int .i64 s.weekReg, .int .i64 s.nightFrom, .int .i64 s.nightTo, .slice q.ra q.rl q.rc, .int .i64 s.diff, .int .i64 s.least, .int .i64 s.fault, .slice q.ta q.tl q.tc] 30)).heap[w.heap.size]? = some (.cells #[.int .i64 s.places, .slice q.wa q.wl q.wc, .int .i64 s.pn, .int .i64 s.pd, .slice q.ea q.el q.ec, .slice q.ca q.cl q.cc, .slice q.ga q.gl q.gc, .int .i64 s.allow, .int .i64 s.unit, .int .i64 s.cap, .int .i64 s.paidBreak, .int .i64 s.autoAfter, .int .i64 s.autoBreak, .int .i64 s.dayReg, .int .i64 s.dayOver, .int .i64 s.weekReg, .int .i64 s.nightFrom, .int .i64 s.nightTo, .slice q.ra q.rl q.rc, .int .i64 s.diff, .int .i64 s.least, .int .i64 s.fault, .slice q.ta q.tl q.tc] 30) := box_new _ _ rfl _ _
  have B0 : Below w.heap.size w (w.alloc (.cells #[.int .i64 s.places, .slice q.wa q.wl q.wc, .int .i64 s.pn, .int .i64 s.pd, .slice q.ea q.el q.ec, .slice q.ca q.cl q.cc, .slice q.ga q.gl q.gc, .int .i64 s.allow, .int .i64 s.unit, .int .i64 s.cap, .int .i64 s.paidBreak, .int .i64 s.autoAfter, .int .i64 s.autoBreak, .int .i64 s.dayReg, .int .i64 s.dayOver, .int .i64 s.weekReg, .int .i64 s.nightFrom, .int .i64 s.nightTo, .slice q.ra q.rl q.rc, .int .i64 s.diff, .int .i64 s.least, .int .i64 s.fault, .slice q.ta q.tl q.tc] 30)) := by go_grown
  have z0 : w.heap.size < (w.alloc (.cells #[.int .i64 s.places, .slice q.wa q.wl q.wc, .int .i64 s.pn, .int .i64 s.pd, .slice q.ea q.el q.ec, .slice q.ca q.cl q.cc, .slice q.ga q.gl q.gc, .int .i64 s.allow, .int .i64 s.unit, .int .i64 s.cap, .int .i64 s.paidBreak, .int .i64 s.autoAfter, .int .i64 s.autoBreak, .int .i64 s.dayReg, .int .i64 s.dayOver, .int .i64 s.weekReg, .int .i64 s.nightFrom, .int .i64 s.nightTo, .slice q.ra q.rl q.rc, .int .i64 s.diff, .int .i64 s.least, .int .i64 s.fault, .slice q.ta q.tl q.tc] 30)).heap.size := by simp
  obtain ⟨f, hf⟩ : ∃ f, fewP s = f := ⟨_, rfl⟩
  have HF := Lib.hid hf
  clear hf
  go_enter Try.func10, Try.ntmps10
  go_wp2_with fail
  refine (awake09 _).mono ?_
  rintro e1 w1 ⟨rfl, k1⟩
  replace hb := box_keep k1 hb z0
  replace B0 := B0.trans (k1.mono (by omega))
  replace z0 := Nat.lt_of_lt_of_le z0 k1.size
  clear k1
  go_wp2_with (refine wpList_load_box 30 (.tmp 1) rfl rfl w.heap.size rfl 30 #[.int .i64 s.places, .slice q.wa q.wl q.wc, .int .i64 s.pn, .int .i64 s.pd, .slice q.ea q.el q.ec, .slice q.ca q.cl q.cc, .slice q.ga q.gl q.gc, .int .i64 s.allow, .int .i64 s.unit, .int .i64 s.cap, .int .i64 s.paidBreak, .int .i64 s.autoAfter, .int .i64 s.autoBreak, .int .i64 s.dayReg, .int .i64 s.dayOver, .int .i64 s.weekReg, .int .i64 s.nightFrom, .int .i64 s.nightTo, .slice q.ra q.rl q.rc, .int .i64 s.diff, .int .i64 s.least, .int .i64 s.fault, .slice q.ta q.tl q.tc] hb setup_big ?_)
  refine (ref7_Few s q f _ (h.below B0) HF.out).mono ?_
  rintro e2 w2 ⟨rfl, k2⟩
  replace hb := box_keep k2 hb z0
  replace B0 := B0.trans (k2.mono (by omega))
  replace z0 := Nat.lt_of_lt_of_le z0 k2.size
  clear k2
  cases f
  · go_wp2_with fail
    go_ret
    exact ⟨rfl, B0⟩
  obtain ⟨c, hc⟩ : ∃ c, setupP s = c := ⟨_, rfl⟩
  have HC := Lib.hid hc
  clear hc
  go_wp2_with (refine wpList_load_box 30 (.tmp 1) rfl rfl w.heap.size rfl 30 #[.int .i64 s.places, .slice q.wa q.wl q.wc, .int .i64 s.pn, .int .i64 s.pd, .slice q.ea q.el q.ec, .slice q.ca q.cl q.cc, .slice q.ga q.gl q.gc, .int .i64 s.allow, .int .i64 s.unit, .int .i64 s.cap, .int .i64 s.paidBreak, .int .i64 s.autoAfter, .int .i64 s.autoBreak, .int .i64 s.dayReg, .int .i64 s.dayOver, .int .i64 s.weekReg, .int .i64 s.nightFrom, .int .i64 s.nightTo, .slice q.ra q.rl q.rc, .int .i64 s.diff, .int .i64 s.least, .int .i64 s.fault, .slice q.ta q.tl q.tc] hb setup_big ?_)
  refine (setup_Check s q c _ (h.below B0) HC.out).mono ?_
  rintro e3 w3 ⟨rfl, k3⟩
  replace hb := box_keep k3 hb z0
  replace B0 := B0.trans (k3.mono (by omega))
  replace z0 := Nat.lt_of_lt_of_le z0 k3.size
  clear k3
  cases c
  · go_wp2_with fail
    go_ret
    exact ⟨rfl, B0⟩
  obtain ⟨P, hPl, hP, hw, hwl⟩ := waysOk HC.out
  have HPL := Lib.hid hPl
  clear hPl
  go_wp2_with (refine wpList_load_box 30 (.tmp 1) rfl rfl w.heap.size rfl 30 #[.int .i64 s.places, .slice q.wa q.wl q.wc, .int .i64 s.pn, .int .i64 s.pd, .slice q.ea q.el q.ec, .slice q.ca q.cl q.cc, .slice q.ga q.gl q.gc, .int .i64 s.allow, .int .i64 s.unit, .int .i64 s.cap, .int .i64 s.paidBreak, .int .i64 s.autoAfter, .int .i64 s.autoBreak, .int .i64 s.dayReg, .int .i64 s.dayOver, .int .i64 s.weekReg, .int .i64 s.nightFrom, .int .i64 s.nightTo, .slice q.ra q.rl q.rc, .int .i64 s.diff, .int .i64 s.least, .int .i64 s.fault, .slice q.ta q.tl q.tc] hb setup_big ?_)
  refine (way_Table_at s q P _ (h.below B0) HC.out HPL.out).mono ?_
  rintro e4 w4 ⟨o, base, rb, rfl, ht, ho1, ho2, k4⟩
  have HT := Lib.hid ht.r
  replace hb := box_keep k4 hb z0
  replace B0 := B0.trans (k4.mono (by omega))
  replace z0 := Nat.lt_of_lt_of_le z0 k4.size
  clear k4 ht ho1 ho2
  have cN : w4.cell? ⟨w.heap.size, 0, none⟩ = some (.int .i64 (P : Int)) := by rw [← HPL.out]; simp [World.cell?, hb]
  have cW : w4.cell? ⟨w.heap.size, 1, none⟩ = some (.slice q.wa q.wl q.wc) := by simp [World.cell?, hb]
  have hP0 : (0 : Int) ≤ (P : Int) := by omega
  have HD := Lib.hid (tableP_dists hw)
  have HWC := Lib.hid h.ways.2.2.2
  have HWL := Lib.hid (show q.wl = s.ways.length from h.ways.1.symm)
  obtain ⟨t, htt⟩ : ∃ t, tableP P s.ways = t := ⟨_, rfl⟩
  rw [htt] at HT HD
  clear hb htt
  go_wp2_with fail
  go_loopw [5, 6] (fun v i wr => ∃ k : Nat, k ≤ q.wl ∧ i = .int .i64 k ∧ v = .int .i64 (metersP (s.ways.take k)) ∧ wr = w4) (fun _ i _ => q.wl - (intOf i).toNat)
  case atStart => exact ⟨0, by omega, rfl, rfl, rfl⟩
  case round =>
    obtain ⟨k, hk, rfl, rfl, rfl⟩ := hrel
    by_cases hlt : k < q.wl
    · have hk1 : (k : Int) < (q.wl : Int) := by omega
      have hq64 : q.wl ≤ 64 := by have := HWL.out; omega
      obtain ⟨b, off, hqa, hbl, hcell⟩ := HWC.out.resolve_left (by omega)
      rw [hqa] at cW
      have hcl := hcell k hlt
      have d2 := keepC B0 hcl.2.2 hbl
      have hlk : k < s.ways.length := by have := HWL.out; omega
      have hmem := getD_mem_3 (l := s.ways) (k := k) hlk
      have htake : s.ways.take (k + 1) = s.ways.take k ++ [s.ways.getD k (0, 0, 0)] := by
        rw [List.take_succ_eq_append_getElem hlk, List.getD_eq_getElem?_getD, List.getElem?_eq_getElem hlk]; rfl
      obtain ⟨x, hx⟩ : ∃ x, s.ways.getD k (0, 0, 0) = x := ⟨_, rfl⟩
      rw [hx] at d2 hmem htake
      have hpo := hw.pos _ hmem
      have hmt : metersP (s.ways.take (k + 1)) = metersP (s.ways.take k) + x.2.2 := by rw [htake, metersP_snoc]
      have hmr := metersP_nonneg (ws := s.ways.take k) (fun y hy => hw.pos y (List.mem_of_mem_take hy))
      rw [List.length_take] at hmr
      have hm2 : 0 ≤ metersP (s.ways.take k) ∧ metersP (s.ways.take k) ≤ 640000 := by omega
      obtain ⟨m, hm⟩ : ∃ m, metersP (s.ways.take k) = m := ⟨_, rfl⟩
      rw [hm] at hmt hm2
      rw [hm]
      have HMT := Lib.hid hmt
      clear hqa hcl hcell hmem htake hx hmt hmr hm hlk
      go_wp2_with fail
      go_roundw
      case rel => exact ⟨k + 1, by omega, by go_num, by rw [HMT.out], by first | rfl | trivial⟩
      case measure => simp [intOf]; omega
    · obtain rfl : q.wl = k := by omega
      have htk : s.ways.take q.wl = s.ways := List.take_of_length_le (by have := HWL.out; omega)
      have hall : ∀ a b, a < P → b < P → t a b ≤ metersP s.ways := fun a b ha hb => HD.out.all hw ha hb
      rw [htk]
      obtain ⟨M, hM⟩ : ∃ M, metersP s.ways = M := ⟨_, rfl⟩
      rw [hM]
      rw [hM] at hall
      have HALL := Lib.hid hall
      clear htk hM hall
      go_wp2_with fail
      refine (law9_square o P P rb _ t _ rfl hP.2 _ HT.out).mono ?_
      rintro e5 w5 ⟨rfl, rfl⟩
      go_wp2_with fail
      go_loopg [7] P (fun g i wr => ∃ a : Nat, a ≤ P ∧ g = P - a ∧ i = .int .i64 a ∧ ∃ n, wr = w5.drewN n)
      case atStart => exact ⟨0, by omega, by omega, rfl, 0, rfl⟩
      case round =>
        obtain ⟨a, ha, rfl, rfl, n, rfl⟩ := hrel
        by_cases hlta : a < P
        · have ha0 : (0 : Int) ≤ (a : Int) := by omega
          have ha1 : (a : Int) < (P : Int) := by omega
          go_wp2_with fail
          go_loopg [8] P (fun g i wr => ∃ b : Nat, b ≤ P ∧ g = P - b ∧ i = .int .i64 b ∧ ∃ n, wr = w5.drewN n)
          case atStart => exact ⟨0, by omega, by omega, rfl, n, rfl⟩
          case round =>
            obtain ⟨b, hb, rfl, rfl, n2, rfl⟩ := hrel
            by_cases hltb : b < P
            · have hb0 : (0 : Int) ≤ (b : Int) := by omega
              have hb1 : (b : Int) < (P : Int) := by omega
              have c1 := HT.out.hdr a hlta
              have c2 := HT.out.hdr b hltb
              have c3 := HT.out.cell a b hlta hltb
              have c4 := HT.out.cell b a hltb hlta
              have hab := HD.out a b hlta hltb
              rw [(HD.out b a hltb hlta).unique hab.symm] at c4
              have hz := hab.zero hw
              have hge := hab.ge
              have hle := HALL.out a b hlta hltb
              obtain ⟨x, hx⟩ : ∃ x, t a b = x := ⟨_, rfl⟩
              rw [hx] at c3 c4 hz hge hle
              clear hab hx
              have d1 : decide (x < -1) = false := by rw [decide_eq_false_iff_not]; omega
              have d2 : decide (M < x) = false := by rw [decide_eq_false_iff_not]; omega
              by_cases e : a = b
              · have e1 : (x == 0) = true := by have := hz.2 e; simp [this]
                clear hz hge hle
                subst e
                clear c2 c4
                go_wp2_with fail
                go_quiet (fail)
                go_wp2_with fail
                go_roundg (P - (a + 1))
                case measure => omega
                case rel => exact ⟨a + 1, by omega, rfl, by go_num, _, rfl⟩
              · have e1 : (x == 0) = false := by rw [beq_eq_false_iff_ne]; exact fun y => e (hz.1 y)
                have e2 : ((a : Int) == (b : Int)) = false := by rw [beq_eq_false_iff_ne]; omega
                clear hz hge hle
                go_wp2_with fail
                go_quiet (fail)
                go_wp2_with fail
                go_roundg (P - (b + 1))
                case measure => omega
                case rel => exact ⟨b + 1, by omega, rfl, by go_num, _, rfl⟩
            · obtain rfl : P = b := by omega
              go_wp2_with fail
              go_roundg (P - (a + 1))
              case measure => omega
              case rel => exact ⟨a + 1, by omega, rfl, by go_num, n2, rfl⟩
        · obtain rfl : P = a := by omega
          go_wp2_with fail
          go_ret
          exact ⟨rfl, below_drewN B0 n⟩

end Go.Proofs.Ytjcfflpiajefmaa
