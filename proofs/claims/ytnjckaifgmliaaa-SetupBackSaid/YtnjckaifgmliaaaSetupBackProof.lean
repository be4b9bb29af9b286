/- SetupBack: THE STATEMENT: for every input the law returns true, and each argument reads behind the call as it read before. No condition. -/
import Derived.Test.YtnjckaifgmliaaaRef07N
import Derived.Deep.QuietTactic
import Derived.BigQuiet
import Derived.Deep.LoopGhost
import Derived.Test.YtnjckaifgmliaaaSetupAwake
import Derived.Test.YtnjckaifgmliaaaNumUp
import Derived.ProofKit
import Derived.OpenShut
import Derived.ChangeOld
import Derived.Test.YtnjckaifgmliaaaRatio4
import Derived.Lib.SmallJoins
import Derived.Deep.Slices
import Derived.Deep.Fields
import Derived.Test.YtnjckaifgmliaaaSetupCheck
set_option linter.unusedSimpArgs false
set_option linter.unusedVariables false
-- (MERGED of several texts)

/- THE WALK of lumperref07.Same: are two setups of the same numbers? -/

namespace Go.Proofs.Ytnjckaifgmliaaa
open Go.RowKit Lu

theorem ne_of_take {A B : List Int} {k : Nat} {x y : Int} (hx : A[k]? = some x) (hy : B[k]? = some y) (h : x ≠ y) : A ≠ B := by
  rintro rfl
  rw [hx] at hy
  exact h (Option.some.inj hy)
theorem take_more {A B : List Int} {k : Nat} {x : Int} (h : A.take k = B.take k) (hx : A[k]? = some x) (hy : B[k]? = some x) : A.take (k + 1) = B.take (k + 1) := by
  have h1 := (List.getElem?_eq_some_iff.1 hx).1
  have h2 := (List.getElem?_eq_some_iff.1 hy).1
  rw [List.take_succ_eq_append_getElem h1, List.take_succ_eq_append_getElem h2, h]
  rw [List.getElem?_eq_getElem h1] at hx
  rw [List.getElem?_eq_getElem h2] at hy
  rw [Option.some.inj hx, Option.some.inj hy]
set_option maxHeartbeats 1000000 in
theorem numbers_le {s : Setup} (h : fewP s = true) : (numbersP s).length ≤ 100000 := by
  unfold fewP at h
  simp only [Bool.and_eq_true, decide_eq_true_eq] at h
  unfold numbersP timesL
  simp only [List.length_append, List.length_cons, List.length_nil, flat3i_length, flat2_length, flat4_length]
  omega
set_option maxRecDepth 100000 in
set_option maxHeartbeats 4000000 in
theorem ref7_Same (s t : Setup) (q r : Slices) (x : Bool) (w : World) (hs : SetupIs w s q) (ht : SetupIs w t r) (fs : fewP s = true) (ft : fewP t = true) (hx : decide (numbersP s = numbersP t) = x) :
    Calls Try.prog 19 #[.agg #[.int .i64 s.places, .slice q.wa q.wl q.wc, .int .i64 s.pn, .int .i64 s.pd, .slice q.ea q.el q.ec, .slice q.ca q.cl q.cc, .slice q.ga q.gl q.gc, .int .i64 s.allow, .int .i64 s.unit, .int .i64 s.cap, .int .i64 s.paidBreak, .int .i64 s.autoAfter, .int .i64 s.autoBreak, .int .i64 s.dayReg, .int .i64 s.dayOver, .int .i64 s.weekReg, .int .i64 s.nightFrom, .int .i64 s.nightTo, .slice q.ra q.rl q.rc, .int .i64 s.diff, .int .i64 s.least, .int .i64 s.fault, .slice q.ta q.tl q.tc], .agg #[.int .i64 t.places, .slice r.wa r.wl r.wc, .int .i64 t.pn, .int .i64 t.pd, .slice r.ea r.el r.ec, .slice r.ca r.cl r.cc, .slice r.ga r.gl r.gc, .int .i64 t.allow, .int .i64 t.unit, .int .i64 t.cap, .int .i64 t.paidBreak, .int .i64 t.autoAfter, .int .i64 t.autoBreak, .int .i64 t.dayReg, .int .i64 t.dayOver, .int .i64 t.weekReg, .int .i64 t.nightFrom, .int .i64 t.nightTo, .slice r.ra r.rl r.rc, .int .i64 t.diff, .int .i64 t.least, .int .i64 t.fault, .slice r.ta r.tl r.tc]] w fun e w' => e = .returned (.bool x) ∧ Below w.heap.size w w' := by
  have k0 : Below w.heap.size w ((w.alloc (.cells #[.int .i64 s.places, .slice q.wa q.wl q.wc, .int .i64 s.pn, .int .i64 s.pd, .slice q.ea q.el q.ec, .slice q.ca q.cl q.cc, .slice q.ga q.gl q.gc, .int .i64 s.allow, .int .i64 s.unit, .int .i64 s.cap, .int .i64 s.paidBreak, .int .i64 s.autoAfter, .int .i64 s.autoBreak, .int .i64 s.dayReg, .int .i64 s.dayOver, .int .i64 s.weekReg, .int .i64 s.nightFrom, .int .i64 s.nightTo, .slice q.ra q.rl q.rc, .int .i64 s.diff, .int .i64 s.least, .int .i64 s.fault, .slice q.ta q.tl q.tc] 30)).alloc (.cells #[.int .i64 t.places, .slice r.wa r.wl r.wc, .int .i64 t.pn, .int .i64 t.pd, .slice r.ea r.el r.ec, .slice r.ca r.cl r.cc, .slice r.ga r.gl r.gc, .int .i64 t.allow, .int .i64 t.unit, .int .i64 t.cap, .int .i64 t.paidBreak, .int .i64 t.autoAfter, .int .i64 t.autoBreak, .int .i64 t.dayReg, .int .i64 t.dayOver, .int .i64 t.weekReg, .int .i64 t.nightFrom, .int .i64 t.nightTo, .slice r.ra r.rl r.rc, .int .i64 t.diff, .int .i64 t.least, .int .i64 t.fault, .slice r.ta r.tl r.tc] 30)) := by go_grown
  have hA : ((w.alloc (.cells #[.int .i64 s.places, .slice q.wa q.wl q.wc, .int .i64 s.pn, .int .i64 s.pd, .slice q.ea q.el q.ec, .slice q.ca q.cl q.cc, .slice q.ga q.gl q.gc, .int .i64 s.allow, .int .i64 s.unit, .int .i64 s.cap, .int .i64 s.paidBreak, .int .i64 s.autoAfter, .int .i64 s.autoBreak, .int .i64 s.dayReg, .int .i64 s.dayOver, .int .i64 s.weekReg, .int .i64 s.nightFrom, .int .i64 s.nightTo, .slice q.ra q.rl q.rc, .int .i64 s.diff, .int .i64 s.least, .int .i64 s.fault, .slice q.ta q.tl q.tc] 30)).alloc (.cells #[.int .i64 t.places, .slice r.wa r.wl r.wc, .int .i64 t.pn, .int .i64 t.pd, .slice r.ea r.el r.ec, .slice r.ca r.cl r.cc, .slice r.ga r.gl r.gc, .int .i64 t.allow, .int .i64 t.unit, .int .i64 t.cap, .int .i64 t.paidBreak, .int .i64 t.autoAfter, .int .i64 t.autoBreak, .int .i64 t.dayReg, .int .i64 t.dayOver, .int .i64 t.weekReg, .int .i64 t.nightFrom, .int .i64 t.nightTo, .slice r.ra r.rl r.rc, .int .i64 t.diff, .int .i64 t.least, .int .i64 t.fault, .slice r.ta r.tl r.tc] 30)).heap[w.heap.size]? = some (.cells #[.int .i64 s.places, .slice q.wa q.wl q.wc, .int .i64 s.pn, .int .i64 s.pd, .slice q.ea q.el q.ec, .slice q.ca q.cl q.cc, .slice q.ga q.gl q.gc, .int .i64 s.allow, .int .i64 s.unit, .int .i64 s.cap, .int .i64 s.paidBreak, .int .i64 s.autoAfter, .int .i64 s.autoBreak, .int .i64 s.dayReg, .int .i64 s.dayOver, .int .i64 s.weekReg, .int .i64 s.nightFrom, .int .i64 s.nightTo, .slice q.ra q.rl q.rc, .int .i64 s.diff, .int .i64 s.least, .int .i64 s.fault, .slice q.ta q.tl q.tc] 30) := box_keep (w := w.alloc (.cells #[.int .i64 s.places, .slice q.wa q.wl q.wc, .int .i64 s.pn, .int .i64 s.pd, .slice q.ea q.el q.ec, .slice q.ca q.cl q.cc, .slice q.ga q.gl q.gc, .int .i64 s.allow, .int .i64 s.unit, .int .i64 s.cap, .int .i64 s.paidBreak, .int .i64 s.autoAfter, .int .i64 s.autoBreak, .int .i64 s.dayReg, .int .i64 s.dayOver, .int .i64 s.weekReg, .int .i64 s.nightFrom, .int .i64 s.nightTo, .slice q.ra q.rl q.rc, .int .i64 s.diff, .int .i64 s.least, .int .i64 s.fault, .slice q.ta q.tl q.tc] 30)) (B := w.heap.size + 1) ((Below.refl _ _).alloc (by simp) _) (box_new w _ rfl _ _) (by omega)
  have hB : ((w.alloc (.cells #[.int .i64 s.places, .slice q.wa q.wl q.wc, .int .i64 s.pn, .int .i64 s.pd, .slice q.ea q.el q.ec, .slice q.ca q.cl q.cc, .slice q.ga q.gl q.gc, .int .i64 s.allow, .int .i64 s.unit, .int .i64 s.cap, .int .i64 s.paidBreak, .int .i64 s.autoAfter, .int .i64 s.autoBreak, .int .i64 s.dayReg, .int .i64 s.dayOver, .int .i64 s.weekReg, .int .i64 s.nightFrom, .int .i64 s.nightTo, .slice q.ra q.rl q.rc, .int .i64 s.diff, .int .i64 s.least, .int .i64 s.fault, .slice q.ta q.tl q.tc] 30)).alloc (.cells #[.int .i64 t.places, .slice r.wa r.wl r.wc, .int .i64 t.pn, .int .i64 t.pd, .slice r.ea r.el r.ec, .slice r.ca r.cl r.cc, .slice r.ga r.gl r.gc, .int .i64 t.allow, .int .i64 t.unit, .int .i64 t.cap, .int .i64 t.paidBreak, .int .i64 t.autoAfter, .int .i64 t.autoBreak, .int .i64 t.dayReg, .int .i64 t.dayOver, .int .i64 t.weekReg, .int .i64 t.nightFrom, .int .i64 t.nightTo, .slice r.ra r.rl r.rc, .int .i64 t.diff, .int .i64 t.least, .int .i64 t.fault, .slice r.ta r.tl r.tc] 30)).heap[w.heap.size + 1]? = some (.cells #[.int .i64 t.places, .slice r.wa r.wl r.wc, .int .i64 t.pn, .int .i64 t.pd, .slice r.ea r.el r.ec, .slice r.ca r.cl r.cc, .slice r.ga r.gl r.gc, .int .i64 t.allow, .int .i64 t.unit, .int .i64 t.cap, .int .i64 t.paidBreak, .int .i64 t.autoAfter, .int .i64 t.autoBreak, .int .i64 t.dayReg, .int .i64 t.dayOver, .int .i64 t.weekReg, .int .i64 t.nightFrom, .int .i64 t.nightTo, .slice r.ra r.rl r.rc, .int .i64 t.diff, .int .i64 t.least, .int .i64 t.fault, .slice r.ta r.tl r.tc] 30) := box_new _ _ (by simp) _ _
  have hs0 := hs.below k0
  have ht0 := ht.below k0
  have HX := Lib.hid hx
  clear hs ht hx
  go_enter Try.func19, Try.ntmps19
  go_wp2_with (refine wpList_load_box 30 (.tmp 2) rfl rfl w.heap.size rfl 30 #[.int .i64 s.places, .slice q.wa q.wl q.wc, .int .i64 s.pn, .int .i64 s.pd, .slice q.ea q.el q.ec, .slice q.ca q.cl q.cc, .slice q.ga q.gl q.gc, .int .i64 s.allow, .int .i64 s.unit, .int .i64 s.cap, .int .i64 s.paidBreak, .int .i64 s.autoAfter, .int .i64 s.autoBreak, .int .i64 s.dayReg, .int .i64 s.dayOver, .int .i64 s.weekReg, .int .i64 s.nightFrom, .int .i64 s.nightTo, .slice q.ra q.rl q.rc, .int .i64 s.diff, .int .i64 s.least, .int .i64 s.fault, .slice q.ta q.tl q.tc] hA setup_big ?_)
  refine (ref7_numbers s q _ hs0 fs).mono ?_
  rintro e1 w1 ⟨v1, rfl, own1, k1⟩
  replace hB := box_keep k1 hB (block_lt hB)
  have ht1 := ht0.below k1
  have BB := k0.trans (k1.mono k0.size)
  have HO1 := Lib.hid own1
  clear hA hs0 ht0 k0 k1 own1
  go_wp2_with (refine wpList_load_box 30 (.tmp 3) rfl rfl (w.heap.size + 1) rfl 30 #[.int .i64 t.places, .slice r.wa r.wl r.wc, .int .i64 t.pn, .int .i64 t.pd, .slice r.ea r.el r.ec, .slice r.ca r.cl r.cc, .slice r.ga r.gl r.gc, .int .i64 t.allow, .int .i64 t.unit, .int .i64 t.cap, .int .i64 t.paidBreak, .int .i64 t.autoAfter, .int .i64 t.autoBreak, .int .i64 t.dayReg, .int .i64 t.dayOver, .int .i64 t.weekReg, .int .i64 t.nightFrom, .int .i64 t.nightTo, .slice r.ra r.rl r.rc, .int .i64 t.diff, .int .i64 t.least, .int .i64 t.fault, .slice r.ta r.tl r.tc] hB setup_big ?_)
  refine (ref7_numbers t r _ ht1 ft).mono ?_
  rintro e2 w2 ⟨v2, rfl, own2, k2⟩
  obtain ⟨a1, c1, rfl, hc1⟩ := Cells.of_own (own_below' HO1.out k2)
  obtain ⟨a2, c2, rfl, hc2⟩ := Cells.of_own own2
  replace BB := BB.trans (k2.mono BB.size)
  have hlenA := numbers_le fs
  have hlenB := numbers_le ft
  generalize numbersP s = A at *
  generalize numbersP t = B at *
  have HC1 := Lib.hid hc1
  have HC2 := Lib.hid hc2
  clear HO1 own2 hc1 hc2 k2 ht1 hB w1
  have hAl : A.length ≤ 100000 := hlenA
  have hBl : B.length ≤ 100000 := hlenB
  by_cases hl : A.length = B.length
  · have HL := Lib.hid hl
    have hn : ((A.length : Int) != (B.length : Int)) = false := by rw [hl]; simp
    have hlb : B.length ≤ A.length := by omega
    have hla : A.length ≤ B.length := by omega
    clear hl
    go_wp2_with fail
    go_loopg [7] A.length (fun g i wr => ∃ k : Nat, k ≤ A.length ∧ g = A.length - k ∧ i = .int .i64 k ∧ A.take k = B.take k ∧ ∃ n, wr = w2.drewN n)
    case atStart => exact ⟨0, by omega, by omega, rfl, rfl, 0, rfl⟩
    case round =>
      obtain ⟨k, hk, rfl, rfl, htk, n, rfl⟩ := hrel
      by_cases hlt : k < A.length
      · have hk0 : (0 : Int) ≤ (k : Int) := by omega
        have hk1 : (k : Int) < (A.length : Int) := by omega
        have hk2 : (k : Int) < (B.length : Int) := by omega
        obtain ⟨b1, o1, rfl, hd1⟩ := HC1.out.resolve_left (by intro z; rw [List.map_eq_nil_iff] at z; rw [z] at hlt; simp at hlt)
        obtain ⟨b2, o2, rfl, hd2⟩ := HC2.out.resolve_left (by intro z; rw [List.map_eq_nil_iff] at z; rw [z] at hla; simp at hla; rw [hla] at hlt; simp at hlt)
        obtain ⟨x1, hx1⟩ : ∃ z, A[k]? = some z := ⟨_, List.getElem?_eq_getElem hlt⟩
        obtain ⟨x2, hx2⟩ : ∃ z, B[k]? = some z := ⟨_, List.getElem?_eq_getElem (by omega)⟩
        have g1 := hd1 k _ (by rw [List.getElem?_map, hx1]; rfl)
        have g2 := hd2 k _ (by rw [List.getElem?_map, hx2]; rfl)
        have HT := Lib.hid htk
        have HX1 := Lib.hid hx1
        have HX2 := Lib.hid hx2
        clear hd1 hd2 htk hx1 hx2
        by_cases he : x1 = x2
        · subst he
          have y1 : (x1 != x1) = false := by simp
          go_wp2_with fail
          go_quiet (fail)
          go_wp2_with fail
          go_roundg (A.length - (k + 1))
          case measure => omega
          case rel => exact ⟨k + 1, by omega, rfl, by go_num, take_more HT.out HX1.out HX2.out, _, by first | rfl | exact World.drewN_drewN _ _ _⟩
        · have y1 : (x1 != x2) = true := by rw [bne_iff_ne]; exact he
          have hr : decide (A = B) = false := by rw [decide_eq_false_iff_not]; exact ne_of_take HX1.out HX2.out he
          rw [HX.out] at hr
          subst hr
          clear he HX
          go_wp2_with fail
          go_quiet (fail)
          go_wp2_with fail
          go_ret
          exact ⟨rfl, below_drewN (below_drewN BB _) _⟩
      · obtain rfl : k = A.length := by omega
        have hr : decide (A = B) = true := by
          rw [decide_eq_true_iff]
          rw [List.take_length, List.take_of_length_le hlb] at htk
          exact htk
        rw [HX.out] at hr
        subst hr
        clear HX
        go_wp2_with fail
        go_ret
        exact ⟨rfl, below_drewN BB _⟩
  · have hn : ((A.length : Int) != (B.length : Int)) = true := by rw [bne_iff_ne]; omega
    have hr : decide (A = B) = false := by rw [decide_eq_false_iff_not]; rintro rfl; exact hl rfl
    rw [HX.out] at hr
    subst hr
    clear HX
    go_wp2_with fail
    go_ret
    exact ⟨rfl, BB⟩
end Go.Proofs.Ytnjckaifgmliaaa

/- THE WALK of SetupApart: unlike setups have unlike bytes, none of which is a beginning of the other's. -/

namespace Go.Proofs.Ytnjckaifgmliaaa
open Go.RowKit Lu

theorem byte_inj {x y : Int} (hx : 0 ≤ x ∧ x ≤ 255) (hy : 0 ≤ y ∧ y ≤ 255) (h : UInt8.ofNat x.toNat = UInt8.ofNat y.toNat) : x = y := by
  have h1 := congrArg UInt8.toNat h
  simp only [UInt8.toNat_ofNat'] at h1
  omega
theorem strOf_inj : ∀ {xs ys : List Int}, Bytes xs → Bytes ys → (xs.map fun n => UInt8.ofNat n.toNat) = (ys.map fun n => UInt8.ofNat n.toNat) → xs = ys
  | [], [], _, _, _ => rfl
  | [], _ :: _, _, _, h => by simp at h
  | _ :: _, [], _, _, h => by simp at h
  | x :: xs, y :: ys, hx, hy, h => by
    simp only [List.map_cons, List.cons.injEq] at h
    rw [byte_inj (hx x (by simp)) (hy y (by simp)) h.1, strOf_inj (fun c hc => hx c (by simp [hc])) (fun c hc => hy c (by simp [hc])) h.2]
theorem str_eq {xs ys : List Int} (hx : Bytes xs) (hy : Bytes ys) {b : Bool} (hb : decide (xs = ys) = b) : ((strOfNums xs).toList == (strOfNums ys).toList) = b := by
  rw [ByteArray.toList_eq, ByteArray.toList_eq, strOfNums_data, strOfNums_data]
  subst hb
  by_cases h : xs = ys
  · subst h; simp
  · rw [decide_eq_false h, beq_eq_false_iff_ne]
    exact fun e => h (strOf_inj hx hy e)
set_option maxRecDepth 100000 in
set_option maxHeartbeats 4000000 in
theorem setupApart_walk (s : Setup) (q : Slices) (t : Setup) (r : Slices) (w : World) (hs : SetupIs w s q) (ht : SetupIs w t r) :
    Calls Try.prog 5 #[.agg #[.int .i64 s.places, .slice q.wa q.wl q.wc, .int .i64 s.pn, .int .i64 s.pd, .slice q.ea q.el q.ec, .slice q.ca q.cl q.cc, .slice q.ga q.gl q.gc, .int .i64 s.allow, .int .i64 s.unit, .int .i64 s.cap, .int .i64 s.paidBreak, .int .i64 s.autoAfter, .int .i64 s.autoBreak, .int .i64 s.dayReg, .int .i64 s.dayOver, .int .i64 s.weekReg, .int .i64 s.nightFrom, .int .i64 s.nightTo, .slice q.ra q.rl q.rc, .int .i64 s.diff, .int .i64 s.least, .int .i64 s.fault, .slice q.ta q.tl q.tc], .agg #[.int .i64 t.places, .slice r.wa r.wl r.wc, .int .i64 t.pn, .int .i64 t.pd, .slice r.ea r.el r.ec, .slice r.ca r.cl r.cc, .slice r.ga r.gl r.gc, .int .i64 t.allow, .int .i64 t.unit, .int .i64 t.cap, .int .i64 t.paidBreak, .int .i64 t.autoAfter, .int .i64 t.autoBreak, .int .i64 t.dayReg, .int .i64 t.dayOver, .int .i64 t.weekReg, .int .i64 t.nightFrom, .int .i64 t.nightTo, .slice r.ra r.rl r.rc, .int .i64 t.diff, .int .i64 t.least, .int .i64 t.fault, .slice r.ta r.tl r.tc]] w fun e w' => e = .returned (.bool true) ∧ Below w.heap.size w w' := by
  have BB : Below w.heap.size w ((w.alloc (.cells #[.int .i64 s.places, .slice q.wa q.wl q.wc, .int .i64 s.pn, .int .i64 s.pd, .slice q.ea q.el q.ec, .slice q.ca q.cl q.cc, .slice q.ga q.gl q.gc, .int .i64 s.allow, .int .i64 s.unit, .int .i64 s.cap, .int .i64 s.paidBreak, .int .i64 s.autoAfter, .int .i64 s.autoBreak, .int .i64 s.dayReg, .int .i64 s.dayOver, .int .i64 s.weekReg, .int .i64 s.nightFrom, .int .i64 s.nightTo, .slice q.ra q.rl q.rc, .int .i64 s.diff, .int .i64 s.least, .int .i64 s.fault, .slice q.ta q.tl q.tc] 30)).alloc (.cells #[.int .i64 t.places, .slice r.wa r.wl r.wc, .int .i64 t.pn, .int .i64 t.pd, .slice r.ea r.el r.ec, .slice r.ca r.cl r.cc, .slice r.ga r.gl r.gc, .int .i64 t.allow, .int .i64 t.unit, .int .i64 t.cap, .int .i64 t.paidBreak, .int .i64 t.autoAfter, .int .i64 t.autoBreak, .int .i64 t.dayReg, .int .i64 t.dayOver, .int .i64 t.weekReg, .int .i64 t.nightFrom, .int .i64 t.nightTo, .slice r.ra r.rl r.rc, .int .i64 t.diff, .int .i64 t.least, .int .i64 t.fault, .slice r.ta r.tl r.tc] 30)) := by go_grown
  have hA : ((w.alloc (.cells #[.int .i64 s.places, .slice q.wa q.wl q.wc, .int .i64 s.pn, .int .i64 s.pd, .slice q.ea q.el q.ec, .slice q.ca q.cl q.cc, .slice q.ga q.gl q.gc, .int .i64 s.allow, .int .i64 s.unit, .int .i64 s.cap, .int .i64 s.paidBreak, .int .i64 s.autoAfter, .int .i64 s.autoBreak, .int .i64 s.dayReg, .int .i64 s.dayOver, .int .i64 s.weekReg, .int .i64 s.nightFrom, .int .i64 s.nightTo, .slice q.ra q.rl q.rc, .int .i64 s.diff, .int .i64 s.least, .int .i64 s.fault, .slice q.ta q.tl q.tc] 30)).alloc (.cells #[.int .i64 t.places, .slice r.wa r.wl r.wc, .int .i64 t.pn, .int .i64 t.pd, .slice r.ea r.el r.ec, .slice r.ca r.cl r.cc, .slice r.ga r.gl r.gc, .int .i64 t.allow, .int .i64 t.unit, .int .i64 t.cap, .int .i64 t.paidBreak, .int .i64 t.autoAfter, .int .i64 t.autoBreak, .int .i64 t.dayReg, .int .i64 t.dayOver, .int .i64 t.weekReg, .int .i64 t.nightFrom, .int .i64 t.nightTo, .slice r.ra r.rl r.rc, .int .i64 t.diff, .int .i64 t.least, .int .i64 t.fault, .slice r.ta r.tl r.tc] 30)).heap[w.heap.size]? = some (.cells #[.int .i64 s.places, .slice q.wa q.wl q.wc, .int .i64 s.pn, .int .i64 s.pd, .slice q.ea q.el q.ec, .slice q.ca q.cl q.cc, .slice q.ga q.gl q.gc, .int .i64 s.allow, .int .i64 s.unit, .int .i64 s.cap, .int .i64 s.paidBreak, .int .i64 s.autoAfter, .int .i64 s.autoBreak, .int .i64 s.dayReg, .int .i64 s.dayOver, .int .i64 s.weekReg, .int .i64 s.nightFrom, .int .i64 s.nightTo, .slice q.ra q.rl q.rc, .int .i64 s.diff, .int .i64 s.least, .int .i64 s.fault, .slice q.ta q.tl q.tc] 30) := box_keep (w := w.alloc (.cells #[.int .i64 s.places, .slice q.wa q.wl q.wc, .int .i64 s.pn, .int .i64 s.pd, .slice q.ea q.el q.ec, .slice q.ca q.cl q.cc, .slice q.ga q.gl q.gc, .int .i64 s.allow, .int .i64 s.unit, .int .i64 s.cap, .int .i64 s.paidBreak, .int .i64 s.autoAfter, .int .i64 s.autoBreak, .int .i64 s.dayReg, .int .i64 s.dayOver, .int .i64 s.weekReg, .int .i64 s.nightFrom, .int .i64 s.nightTo, .slice q.ra q.rl q.rc, .int .i64 s.diff, .int .i64 s.least, .int .i64 s.fault, .slice q.ta q.tl q.tc] 30)) (B := w.heap.size + 1) ((Below.refl _ _).alloc (by simp) _) (box_new w _ rfl _ _) (by omega)
  have hB : ((w.alloc (.cells #[.int .i64 s.places, .slice q.wa q.wl q.wc, .int .i64 s.pn, .int .i64 s.pd, .slice q.ea q.el q.ec, .slice q.ca q.cl q.cc, .slice q.ga q.gl q.gc, .int .i64 s.allow, .int .i64 s.unit, .int .i64 s.cap, .int .i64 s.paidBreak, .int .i64 s.autoAfter, .int .i64 s.autoBreak, .int .i64 s.dayReg, .int .i64 s.dayOver, .int .i64 s.weekReg, .int .i64 s.nightFrom, .int .i64 s.nightTo, .slice q.ra q.rl q.rc, .int .i64 s.diff, .int .i64 s.least, .int .i64 s.fault, .slice q.ta q.tl q.tc] 30)).alloc (.cells #[.int .i64 t.places, .slice r.wa r.wl r.wc, .int .i64 t.pn, .int .i64 t.pd, .slice r.ea r.el r.ec, .slice r.ca r.cl r.cc, .slice r.ga r.gl r.gc, .int .i64 t.allow, .int .i64 t.unit, .int .i64 t.cap, .int .i64 t.paidBreak, .int .i64 t.autoAfter, .int .i64 t.autoBreak, .int .i64 t.dayReg, .int .i64 t.dayOver, .int .i64 t.weekReg, .int .i64 t.nightFrom, .int .i64 t.nightTo, .slice r.ra r.rl r.rc, .int .i64 t.diff, .int .i64 t.least, .int .i64 t.fault, .slice r.ta r.tl r.tc] 30)).heap[w.heap.size + 1]? = some (.cells #[.int .i64 t.places, .slice r.wa r.wl r.wc, .int .i64 t.pn, .int .i64 t.pd, .slice r.ea r.el r.ec, .slice r.ca r.cl r.cc, .slice r.ga r.gl r.gc, .int .i64 t.allow, .int .i64 t.unit, .int .i64 t.cap, .int .i64 t.paidBreak, .int .i64 t.autoAfter, .int .i64 t.autoBreak, .int .i64 t.dayReg, .int .i64 t.dayOver, .int .i64 t.weekReg, .int .i64 t.nightFrom, .int .i64 t.nightTo, .slice r.ra r.rl r.rc, .int .i64 t.diff, .int .i64 t.least, .int .i64 t.fault, .slice r.ta r.tl r.tc] 30) := box_new _ _ (by simp) _ _
  have HS := Lib.hid (hs.below BB)
  have HT := Lib.hid (ht.below BB)
  obtain ⟨f, hf⟩ : ∃ f, fewP s = f := ⟨_, rfl⟩
  obtain ⟨g, hg⟩ : ∃ g, fewP t = g := ⟨_, rfl⟩
  obtain ⟨cs, hcs⟩ : ∃ c, setupP s = c := ⟨_, rfl⟩
  obtain ⟨ct, hct⟩ : ∃ c, setupP t = c := ⟨_, rfl⟩
  have HFS := Lib.hid hf
  have HFT := Lib.hid hg
  have HCS := Lib.hid hcs
  have HCT := Lib.hid hct
  clear hf hg hcs hct hs ht
  go_enter Try.func5, Try.ntmps5
  go_wp2_with fail
  refine (awake7 _).mono ?_
  rintro e1 w1 ⟨rfl, k1⟩
  replace BB := BB.trans (k1.mono BB.size)
  replace hA := box_keep k1 hA (block_lt hA)
  replace hB := box_keep k1 hB (block_lt hB)
  replace HS := Lib.hid (HS.out.below k1)
  replace HT := Lib.hid (HT.out.below k1)
  clear k1
  obtain ⟨S0, hS0⟩ : ∃ S, w.heap.size = S := ⟨_, rfl⟩
  have HS0 := Lib.hid hS0
  rw [hS0] at hA hB ⊢
  clear hS0
  go_wp2_with (refine wpList_load_box 30 (.tmp 2) rfl rfl S0 rfl 30 #[.int .i64 s.places, .slice q.wa q.wl q.wc, .int .i64 s.pn, .int .i64 s.pd, .slice q.ea q.el q.ec, .slice q.ca q.cl q.cc, .slice q.ga q.gl q.gc, .int .i64 s.allow, .int .i64 s.unit, .int .i64 s.cap, .int .i64 s.paidBreak, .int .i64 s.autoAfter, .int .i64 s.autoBreak, .int .i64 s.dayReg, .int .i64 s.dayOver, .int .i64 s.weekReg, .int .i64 s.nightFrom, .int .i64 s.nightTo, .slice q.ra q.rl q.rc, .int .i64 s.diff, .int .i64 s.least, .int .i64 s.fault, .slice q.ta q.tl q.tc] hA setup_big ?_)
  refine (ref7_Few s q f w1 HS.out HFS.out).mono ?_
  rintro e2 w2 ⟨rfl, k2⟩
  replace BB := BB.trans (k2.mono BB.size)
  replace hA := box_keep k2 hA (block_lt hA)
  replace hB := box_keep k2 hB (block_lt hB)
  replace HS := Lib.hid (HS.out.below k2)
  replace HT := Lib.hid (HT.out.below k2)
  clear k2
  cases f
  · go_wp2_with fail
    go_ret
    exact ⟨rfl, BB⟩
  · go_wp2_with (refine wpList_load_box 30 (.tmp 3) rfl rfl (S0 + 1) rfl 30 #[.int .i64 t.places, .slice r.wa r.wl r.wc, .int .i64 t.pn, .int .i64 t.pd, .slice r.ea r.el r.ec, .slice r.ca r.cl r.cc, .slice r.ga r.gl r.gc, .int .i64 t.allow, .int .i64 t.unit, .int .i64 t.cap, .int .i64 t.paidBreak, .int .i64 t.autoAfter, .int .i64 t.autoBreak, .int .i64 t.dayReg, .int .i64 t.dayOver, .int .i64 t.weekReg, .int .i64 t.nightFrom, .int .i64 t.nightTo, .slice r.ra r.rl r.rc, .int .i64 t.diff, .int .i64 t.least, .int .i64 t.fault, .slice r.ta r.tl r.tc] hB setup_big ?_)
    refine (ref7_Few t r g w2 HT.out HFT.out).mono ?_
    rintro e3 w3 ⟨rfl, k3⟩
    replace BB := BB.trans (k3.mono BB.size)
    replace hA := box_keep k3 hA (block_lt hA)
    replace hB := box_keep k3 hB (block_lt hB)
    replace HS := Lib.hid (HS.out.below k3)
    replace HT := Lib.hid (HT.out.below k3)
    clear k3
    cases g
    · go_wp2_with fail
      go_ret
      exact ⟨rfl, BB⟩
    · go_wp2_with (refine wpList_load_box 30 (.tmp 2) rfl rfl S0 rfl 30 #[.int .i64 s.places, .slice q.wa q.wl q.wc, .int .i64 s.pn, .int .i64 s.pd, .slice q.ea q.el q.ec, .slice q.ca q.cl q.cc, .slice q.ga q.gl q.gc, .int .i64 s.allow, .int .i64 s.unit, .int .i64 s.cap, .int .i64 s.paidBreak, .int .i64 s.autoAfter, .int .i64 s.autoBreak, .int .i64 s.dayReg, .int .i64 s.dayOver, .int .i64 s.weekReg, .int .i64 s.nightFrom, .int .i64 s.nightTo, .slice q.ra q.rl q.rc, .int .i64 s.diff, .int .i64 s.least, .int .i64 s.fault, .slice q.ta q.tl q.tc] hA setup_big ?_)
      refine (setup_Write s q w3 HS.out).mono ?_
      rintro e4 w4 ⟨a, n, c, A, er, rfl, hw1, hr1, hnc, k4⟩
      have HW1 := Lib.hid hw1
      have HRA0 := Lib.hid hr1
      clear hw1 hr1
      replace BB := BB.trans (k4.mono BB.size)
      replace hA := box_keep k4 hA (block_lt hA)
      replace hB := box_keep k4 hB (block_lt hB)
      replace HS := Lib.hid (HS.out.below k4)
      replace HT := Lib.hid (HT.out.below k4)
      clear k4
      go_wp2_with (refine wpList_load_box 30 (.tmp 3) rfl rfl (S0 + 1) rfl 30 #[.int .i64 t.places, .slice r.wa r.wl r.wc, .int .i64 t.pn, .int .i64 t.pd, .slice r.ea r.el r.ec, .slice r.ca r.cl r.cc, .slice r.ga r.gl r.gc, .int .i64 t.allow, .int .i64 t.unit, .int .i64 t.cap, .int .i64 t.paidBreak, .int .i64 t.autoAfter, .int .i64 t.autoBreak, .int .i64 t.dayReg, .int .i64 t.dayOver, .int .i64 t.weekReg, .int .i64 t.nightFrom, .int .i64 t.nightTo, .slice r.ra r.rl r.rc, .int .i64 t.diff, .int .i64 t.least, .int .i64 t.fault, .slice r.ta r.tl r.tc] hB setup_big ?_)
      refine (setup_Write t r w4 HT.out).mono ?_
      rintro e6 w6 ⟨a2, n2, c2, B, er2, rfl, hw2, hr2, hnc2, k6⟩
      have HW2 := Lib.hid hw2
      have HRB0 := Lib.hid hr2
      clear hw2 hr2
      replace BB := BB.trans (k6.mono BB.size)
      replace hA := box_keep k6 hA (block_lt hA)
      replace hB := box_keep k6 hB (block_lt hB)
      replace HS := Lib.hid (HS.out.below k6)
      replace HT := Lib.hid (HT.out.below k6)
      replace HRA0 := Lib.hid (HRA0.out.below k6)
      clear k6
      cases cs
      · have h1 := HW1.out
        rw [writeP_no HCS.out] at h1
        simp only [Prod.mk.injEq] at h1
        obtain ⟨rfl, rfl⟩ := h1
        clear HW1 HW2 HRA0 HRB0
        go_wp2_with (refine wpList_load_box 30 (.tmp 2) rfl rfl S0 rfl 30 #[.int .i64 s.places, .slice q.wa q.wl q.wc, .int .i64 s.pn, .int .i64 s.pd, .slice q.ea q.el q.ec, .slice q.ca q.cl q.cc, .slice q.ga q.gl q.gc, .int .i64 s.allow, .int .i64 s.unit, .int .i64 s.cap, .int .i64 s.paidBreak, .int .i64 s.autoAfter, .int .i64 s.autoBreak, .int .i64 s.dayReg, .int .i64 s.dayOver, .int .i64 s.weekReg, .int .i64 s.nightFrom, .int .i64 s.nightTo, .slice q.ra q.rl q.rc, .int .i64 s.diff, .int .i64 s.least, .int .i64 s.fault, .slice q.ta q.tl q.tc] hA setup_big ?_)
        refine (setup_Check s q false w6 HS.out HCS.out).mono ?_
        rintro e7 w7 ⟨rfl, k7⟩
        go_wp2_with fail
        go_ret
        exact ⟨rfl, BB.trans (k7.mono BB.size)⟩
      · have h1 := HW1.out
        rw [writeP_yes HCS.out] at h1
        simp only [Prod.mk.injEq] at h1
        obtain ⟨hA1, rfl⟩ := h1
        cases ct
        · have h2 := HW2.out
          rw [writeP_no HCT.out] at h2
          simp only [Prod.mk.injEq] at h2
          obtain ⟨rfl, rfl⟩ := h2
          clear HW1 HW2 HRA0 HRB0 hA1
          go_wp2_with (refine wpList_load_box 30 (.tmp 2) rfl rfl S0 rfl 30 #[.int .i64 s.places, .slice q.wa q.wl q.wc, .int .i64 s.pn, .int .i64 s.pd, .slice q.ea q.el q.ec, .slice q.ca q.cl q.cc, .slice q.ga q.gl q.gc, .int .i64 s.allow, .int .i64 s.unit, .int .i64 s.cap, .int .i64 s.paidBreak, .int .i64 s.autoAfter, .int .i64 s.autoBreak, .int .i64 s.dayReg, .int .i64 s.dayOver, .int .i64 s.weekReg, .int .i64 s.nightFrom, .int .i64 s.nightTo, .slice q.ra q.rl q.rc, .int .i64 s.diff, .int .i64 s.least, .int .i64 s.fault, .slice q.ta q.tl q.tc] hA setup_big ?_)
          refine (setup_Check s q true w6 HS.out HCS.out).mono ?_
          rintro e7 w7 ⟨rfl, k7⟩
          replace BB := BB.trans (k7.mono BB.size)
          replace hA := box_keep k7 hA (block_lt hA)
          replace hB := box_keep k7 hB (block_lt hB)
          replace HS := Lib.hid (HS.out.below k7)
          replace HT := Lib.hid (HT.out.below k7)
          clear k7
          go_wp2_with (refine wpList_load_box 30 (.tmp 3) rfl rfl (S0 + 1) rfl 30 #[.int .i64 t.places, .slice r.wa r.wl r.wc, .int .i64 t.pn, .int .i64 t.pd, .slice r.ea r.el r.ec, .slice r.ca r.cl r.cc, .slice r.ga r.gl r.gc, .int .i64 t.allow, .int .i64 t.unit, .int .i64 t.cap, .int .i64 t.paidBreak, .int .i64 t.autoAfter, .int .i64 t.autoBreak, .int .i64 t.dayReg, .int .i64 t.dayOver, .int .i64 t.weekReg, .int .i64 t.nightFrom, .int .i64 t.nightTo, .slice r.ra r.rl r.rc, .int .i64 t.diff, .int .i64 t.least, .int .i64 t.fault, .slice r.ta r.tl r.tc] hB setup_big ?_)
          refine (setup_Check t r false w7 HT.out HCT.out).mono ?_
          rintro e8 w8 ⟨rfl, k8⟩
          go_wp2_with fail
          go_ret
          exact ⟨rfl, BB.trans (k8.mono BB.size)⟩
        · have h2 := HW2.out
          rw [writeP_yes HCT.out] at h2
          simp only [Prod.mk.injEq] at h2
          obtain ⟨hB1, rfl⟩ := h2
          have hap := apart HCS.out HCT.out
          rw [hA1, hB1] at hap
          have hln := HRA0.out.1
          have hln2 := HRB0.out.1
          rw [hln, hln2] at hap
          obtain ⟨m, hm⟩ : ∃ m, min n n2 = m := ⟨_, rfl⟩
          rw [hm] at hap
          obtain ⟨x, hx⟩ : ∃ x, decide (numbersP s = numbersP t) = x := ⟨_, rfl⟩
          have heq : decide (A.take m = B.take m) = x := by rw [← hx]; exact decide_eq_decide.2 hap
          have HEQ := Lib.hid heq
          have HX := Lib.hid hx
          have hle1 := setup_bytes_le HCS.out
          have hle2 := setup_bytes_le HCT.out
          rw [hA1] at hle1
          rw [hB1] at hle2
          clear HW1 HW2 hap hx heq hA1 hB1
          rcases Nat.le_total n n2 with hle | hle
          · skip
            obtain rfl : n = m := by omega
            have hmin : min (n : Int) (n2 : Int) = (n : Int) := by omega
            have HRA := Lib.hid (row_take HRA0.out n (by omega))
            have HRB := Lib.hid (row_take HRB0.out n (by omega))
            have hm0 : (0 : Int) ≤ (n : Int) := by omega
            have hmc : (n : Int) ≤ (c : Int) := by omega
            have hmc2 : (n : Int) ≤ (c2 : Int) := by omega
            have hse := str_eq HRA.out.2.2.1 HRB.out.2.2.1 HEQ.out
            go_wp2_with fail
            trace "at9"
            have hc1 := conv_row (HRA.out.below ((Below.refl _ _).drew)) c
            have hc2 := conv_row (HRB.out.below ((Below.refl _ _).drew)) c2
            replace hA : w6.drew.heap[S0]? = _ := hA
            replace hB : w6.drew.heap[S0 + 1]? = _ := hB
            refine wp_region_held_drew (S := (fun w' => w'.heap[S0]? = some (.cells #[.int .i64 s.places, .slice q.wa q.wl q.wc, .int .i64 s.pn, .int .i64 s.pd, .slice q.ea q.el q.ec, .slice q.ca q.cl q.cc, .slice q.ga q.gl q.gc, .int .i64 s.allow, .int .i64 s.unit, .int .i64 s.cap, .int .i64 s.paidBreak, .int .i64 s.autoAfter, .int .i64 s.autoBreak, .int .i64 s.dayReg, .int .i64 s.dayOver, .int .i64 s.weekReg, .int .i64 s.nightFrom, .int .i64 s.nightTo, .slice q.ra q.rl q.rc, .int .i64 s.diff, .int .i64 s.least, .int .i64 s.fault, .slice q.ta q.tl q.tc] 30) ∧ w'.heap[S0 + 1]? = some (.cells #[.int .i64 t.places, .slice r.wa r.wl r.wc, .int .i64 t.pn, .int .i64 t.pd, .slice r.ea r.el r.ec, .slice r.ca r.cl r.cc, .slice r.ga r.gl r.gc, .int .i64 t.allow, .int .i64 t.unit, .int .i64 t.cap, .int .i64 t.paidBreak, .int .i64 t.autoAfter, .int .i64 t.autoBreak, .int .i64 t.dayReg, .int .i64 t.dayOver, .int .i64 t.weekReg, .int .i64 t.nightFrom, .int .i64 t.nightTo, .slice r.ra r.rl r.rc, .int .i64 t.diff, .int .i64 t.least, .int .i64 t.fault, .slice r.ta r.tl r.tc] 30) ∧ (convert 31 9 (.slice a n c)).run Try.prog w' = .ok (.string (strOfNums (A.take n))) w' ∧ (convert 31 9 (.slice a2 n c2)).run Try.prog w' = .ok (.string (strOfNums (B.take n))) w')) (by kernel_rfl) ?_ (fun hHeld => ?_)
            · exact ⟨hA, hB, hc1, hc2⟩
            refine wpAnyH_take (i := 0) (oi := ⟨some 53, _, _, _, _, none⟩) (v := ?_) rfl (by kernel_rfl) (by kernel_rfl) (by kernel_rfl) (fun _ _ _ h => h) (Or.inl ⟨by rfl, ?_⟩) (by assumption) ?_
            rotate_left
            · intro wz hSw; (try dsimp only at hSw); go_simp; (try with_reducible rfl)
            try simp only [Act.put, List.setIfInBounds_toArray, List.set_cons_zero, List.set_cons_succ]
            refine wpAnyH_take (i := 1) (oi := ⟨some 54, _, _, _, _, none⟩) (v := ?_) rfl (by kernel_rfl) (by kernel_rfl) (by kernel_rfl) (fun _ _ _ h => h) (Or.inl ⟨by rfl, ?_⟩) (by assumption) ?_
            rotate_left
            · intro wz hSw; (try dsimp only at hSw); go_simp; (try with_reducible rfl)
            try simp only [Act.put, List.setIfInBounds_toArray, List.set_cons_zero, List.set_cons_succ]
            refine wpAnyH_take (i := 2) (oi := ⟨some 55, _, _, _, _, some (1, true)⟩) (v := ?_) rfl (by kernel_rfl) (by kernel_rfl) (by kernel_rfl) (fun _ _ _ h => h) (Or.inl ⟨by rfl, ?_⟩) (by assumption) ?_
            rotate_left
            · intro wz hSw; (try dsimp only at hSw); go_simp; (try with_reducible rfl)
            try simp only [Act.put, List.setIfInBounds_toArray, List.set_cons_zero, List.set_cons_succ]
            refine wpAnyH_take (i := 3) (oi := ⟨some 56, _, _, _, _, some (1, true)⟩) (v := ?_) rfl (by kernel_rfl) (by kernel_rfl) (by kernel_rfl) (fun _ _ _ h => h) (Or.inl ⟨by rfl, ?_⟩) (by assumption) ?_
            rotate_left
            · intro wz hSw; (try dsimp only at hSw); go_simp; (try with_reducible rfl)
            try simp only [Act.put, List.setIfInBounds_toArray, List.set_cons_zero, List.set_cons_succ]
            refine wpAnyH_take (i := 4) (oi := ⟨some 57, _, _, _, _, some (1, true)⟩) (v := ?_) rfl (by kernel_rfl) (by kernel_rfl) (by kernel_rfl) (fun _ _ _ h => h) (Or.inl ⟨by rfl, ?_⟩) (by assumption) ?_
            rotate_left
            · intro wz hSw; (try dsimp only at hSw); go_simp; (try with_reducible rfl)
            try simp only [Act.put, List.setIfInBounds_toArray, List.set_cons_zero, List.set_cons_succ]
            refine wpAnyH_take (i := 5) (oi := ⟨some 58, _, _, _, _, some (1, true)⟩) (v := ?_) rfl (by kernel_rfl) (by kernel_rfl) (by kernel_rfl) (fun _ _ _ h => h) (Or.inl ⟨by rfl, ?_⟩) (by assumption) ?_
            rotate_left
            · intro wz hSw; (try dsimp only at hSw); go_simp; (try with_reducible rfl)
            try simp only [Act.put, List.setIfInBounds_toArray, List.set_cons_zero, List.set_cons_succ]
            refine wpAnyH_take (i := 6) (oi := ⟨some 59, _, _, _, _, some (1, true)⟩) (v := ?_) rfl (by kernel_rfl) (by kernel_rfl) (by kernel_rfl) (fun _ _ _ h => h) (Or.inl ⟨by rfl, ?_⟩) (by assumption) ?_
            rotate_left
            · intro wz hSw; (try dsimp only at hSw); go_simp; (try with_reducible rfl)
            try simp only [Act.put, List.setIfInBounds_toArray, List.set_cons_zero, List.set_cons_succ]
            refine wpAnyH_take (i := 7) (oi := ⟨some 60, _, _, _, _, some (1, true)⟩) (v := ?_) rfl (by kernel_rfl) (by kernel_rfl) (by kernel_rfl) (fun _ _ _ h => h) (Or.inl ⟨by rfl, ?_⟩) (by assumption) ?_
            rotate_left
            · intro wz hSw; (try dsimp only at hSw); go_simp; (try with_reducible rfl)
            try simp only [Act.put, List.setIfInBounds_toArray, List.set_cons_zero, List.set_cons_succ]
            refine wpAnyH_take (i := 8) (oi := ⟨some 61, _, _, _, _, some (1, true)⟩) (v := ?_) rfl (by kernel_rfl) (by kernel_rfl) (by kernel_rfl) (fun _ _ _ h => h) (Or.inl ⟨by rfl, ?_⟩) (by assumption) ?_
            rotate_left
            · intro wz hSw; (try dsimp only at hSw); go_simp; (try with_reducible rfl)
            try simp only [Act.put, List.setIfInBounds_toArray, List.set_cons_zero, List.set_cons_succ]
            refine wpAnyH_take (i := 9) (oi := ⟨some 62, _, _, _, _, some (1, true)⟩) (v := ?_) rfl (by kernel_rfl) (by kernel_rfl) (by kernel_rfl) (fun _ _ _ h => h) (Or.inl ⟨by rfl, ?_⟩) (by assumption) ?_
            rotate_left
            · intro wz hSw; (try dsimp only at hSw); go_simp; (try with_reducible rfl)
            try simp only [Act.put, List.setIfInBounds_toArray, List.set_cons_zero, List.set_cons_succ]
            refine wpAnyH_take (i := 10) (oi := ⟨some 63, _, _, _, _, some (1, true)⟩) (v := ?_) rfl (by kernel_rfl) (by kernel_rfl) (by kernel_rfl) (fun _ _ _ h => h) (Or.inl ⟨by rfl, ?_⟩) (by assumption) ?_
            rotate_left
            · intro wz hSw; (try dsimp only at hSw); go_simp; (try with_reducible rfl)
            try simp only [Act.put, List.setIfInBounds_toArray, List.set_cons_zero, List.set_cons_succ]
            refine wpAnyH_take (i := 11) (oi := ⟨some 64, _, _, _, _, some (1, true)⟩) (v := _) rfl (by kernel_rfl) (by kernel_rfl) (by kernel_rfl) (fun _ _ _ h => h) (Or.inl ⟨by rfl, runs_load_box 30 (.tmp 2) rfl S0 rfl 30 _ (fun _ h => h.1) setup_big⟩) (by assumption) ?_
            try simp only [Act.put, List.setIfInBounds_toArray, List.set_cons_zero, List.set_cons_succ]
            refine wpAnyH_take (i := 12) (oi := ⟨some 65, _, _, _, _, some (1, true)⟩) (v := _) rfl (by kernel_rfl) (by kernel_rfl) (by kernel_rfl) (fun _ _ _ h => h) (Or.inl ⟨by rfl, runs_load_box 30 (.tmp 3) rfl (S0 + 1) rfl 30 _ (fun _ h => h.2.1) setup_big⟩) (by assumption) ?_
            try simp only [Act.put, List.setIfInBounds_toArray, List.set_cons_zero, List.set_cons_succ]
            refine wpAnyH_ready (rs := [13]) (by kernel_rfl) (by simp) ?_
            refine AllReadyH.cons (o := ⟨some 66, _, _, _, _, some (1, true)⟩) rfl (fun K hK => ?_) AllReadyH.nil
            go_simp
            refine (ref7_Same s t q r x _ (HS.out.below ((Below.refl _ _).drew)) (HT.out.below ((Below.refl _ _).drew)) HFS.out HFT.out HX.out).mono ?_
            rintro e7 w7 ⟨rfl, k7⟩
            replace hA := box_keep k7 hA (block_lt hA)
            replace hB := box_keep k7 hB (block_lt hB)
            replace hc1 := conv_row (HRA.out.below ((Below.refl _ _).drew) |>.below k7) c
            replace hc2 := conv_row (HRB.out.below ((Below.refl _ _).drew) |>.below k7) c2
            refine hK.out _ _ ?_ (fun hHeld => ?_)
            · exact ⟨hA, hB, hc1, hc2⟩
            clear hK K
            try simp only [Act.put, List.setIfInBounds_toArray, List.set_cons_zero, List.set_cons_succ]
            refine wpAnyH_take (i := 14) (oi := ⟨some 67, _, _, _, _, some (1, true)⟩) (v := ?_) rfl (by kernel_rfl) (by kernel_rfl) (by kernel_rfl) (fun _ _ _ h => h) (Or.inl ⟨by rfl, ?_⟩) (by assumption) ?_
            rotate_left
            · intro wz hSw; (try dsimp only at hSw); go_simp; (try with_reducible rfl)
            try simp only [Act.put, List.setIfInBounds_toArray, List.set_cons_zero, List.set_cons_succ]
            refine wpAnyH_take (i := 15) (oi := ⟨some 68, _, _, _, _, none⟩) (v := ?_) rfl (by kernel_rfl) (by kernel_rfl) (by kernel_rfl) (fun _ _ _ h => h) (Or.inl ⟨by rfl, ?_⟩) (by assumption) ?_
            rotate_left
            · intro wz hSw; (try dsimp only at hSw); go_simp; (try with_reducible rfl)
            try simp only [Act.put, List.setIfInBounds_toArray, List.set_cons_zero, List.set_cons_succ]
            refine wpAnyH_take (i := 16) (oi := ⟨some 4, _, _, _, _, none⟩) (v := ?_) rfl (by kernel_rfl) (by kernel_rfl) (by kernel_rfl) (fun _ _ _ h => h) (Or.inl ⟨by rfl, ?_⟩) (by assumption) ?_
            rotate_left
            · intro wz hSw; (try dsimp only at hSw); go_simp; (try with_reducible rfl)
            try simp only [Act.put, List.setIfInBounds_toArray, List.set_cons_zero, List.set_cons_succ]
            refine wpAnyH_done (by kernel_rfl) ?_ _
            go_wp2_with fail
            go_ret
            exact ⟨by cases x <;> rfl, BB.drew.trans (k7.mono BB.size)⟩
          · skip
            obtain rfl : n2 = m := by omega
            have hmin : min (n : Int) (n2 : Int) = (n2 : Int) := by omega
            have HRA := Lib.hid (row_take HRA0.out n2 (by omega))
            have HRB := Lib.hid (row_take HRB0.out n2 (by omega))
            have hm0 : (0 : Int) ≤ (n2 : Int) := by omega
            have hmc : (n2 : Int) ≤ (c : Int) := by omega
            have hmc2 : (n2 : Int) ≤ (c2 : Int) := by omega
            have hse := str_eq HRA.out.2.2.1 HRB.out.2.2.1 HEQ.out
            go_wp2_with fail
            trace "at9"
            have hc1 := conv_row (HRA.out.below ((Below.refl _ _).drew)) c
            have hc2 := conv_row (HRB.out.below ((Below.refl _ _).drew)) c2
            replace hA : w6.drew.heap[S0]? = _ := hA
            replace hB : w6.drew.heap[S0 + 1]? = _ := hB
            refine wp_region_held_drew (S := (fun w' => w'.heap[S0]? = some (.cells #[.int .i64 s.places, .slice q.wa q.wl q.wc, .int .i64 s.pn, .int .i64 s.pd, .slice q.ea q.el q.ec, .slice q.ca q.cl q.cc, .slice q.ga q.gl q.gc, .int .i64 s.allow, .int .i64 s.unit, .int .i64 s.cap, .int .i64 s.paidBreak, .int .i64 s.autoAfter, .int .i64 s.autoBreak, .int .i64 s.dayReg, .int .i64 s.dayOver, .int .i64 s.weekReg, .int .i64 s.nightFrom, .int .i64 s.nightTo, .slice q.ra q.rl q.rc, .int .i64 s.diff, .int .i64 s.least, .int .i64 s.fault, .slice q.ta q.tl q.tc] 30) ∧ w'.heap[S0 + 1]? = some (.cells #[.int .i64 t.places, .slice r.wa r.wl r.wc, .int .i64 t.pn, .int .i64 t.pd, .slice r.ea r.el r.ec, .slice r.ca r.cl r.cc, .slice r.ga r.gl r.gc, .int .i64 t.allow, .int .i64 t.unit, .int .i64 t.cap, .int .i64 t.paidBreak, .int .i64 t.autoAfter, .int .i64 t.autoBreak, .int .i64 t.dayReg, .int .i64 t.dayOver, .int .i64 t.weekReg, .int .i64 t.nightFrom, .int .i64 t.nightTo, .slice r.ra r.rl r.rc, .int .i64 t.diff, .int .i64 t.least, .int .i64 t.fault, .slice r.ta r.tl r.tc] 30) ∧ (convert 31 9 (.slice a n2 c)).run Try.prog w' = .ok (.string (strOfNums (A.take n2))) w' ∧ (convert 31 9 (.slice a2 n2 c2)).run Try.prog w' = .ok (.string (strOfNums (B.take n2))) w')) (by kernel_rfl) ?_ (fun hHeld => ?_)
            · exact ⟨hA, hB, hc1, hc2⟩
            refine wpAnyH_take (i := 0) (oi := ⟨some 53, _, _, _, _, none⟩) (v := ?_) rfl (by kernel_rfl) (by kernel_rfl) (by kernel_rfl) (fun _ _ _ h => h) (Or.inl ⟨by rfl, ?_⟩) (by assumption) ?_
            rotate_left
            · intro wz hSw; (try dsimp only at hSw); go_simp; (try with_reducible rfl)
            try simp only [Act.put, List.setIfInBounds_toArray, List.set_cons_zero, List.set_cons_succ]
            refine wpAnyH_take (i := 1) (oi := ⟨some 54, _, _, _, _, none⟩) (v := ?_) rfl (by kernel_rfl) (by kernel_rfl) (by kernel_rfl) (fun _ _ _ h => h) (Or.inl ⟨by rfl, ?_⟩) (by assumption) ?_
            rotate_left
            · intro wz hSw; (try dsimp only at hSw); go_simp; (try with_reducible rfl)
            try simp only [Act.put, List.setIfInBounds_toArray, List.set_cons_zero, List.set_cons_succ]
            refine wpAnyH_take (i := 2) (oi := ⟨some 55, _, _, _, _, some (1, true)⟩) (v := ?_) rfl (by kernel_rfl) (by kernel_rfl) (by kernel_rfl) (fun _ _ _ h => h) (Or.inl ⟨by rfl, ?_⟩) (by assumption) ?_
            rotate_left
            · intro wz hSw; (try dsimp only at hSw); go_simp; (try with_reducible rfl)
            try simp only [Act.put, List.setIfInBounds_toArray, List.set_cons_zero, List.set_cons_succ]
            refine wpAnyH_take (i := 3) (oi := ⟨some 56, _, _, _, _, some (1, true)⟩) (v := ?_) rfl (by kernel_rfl) (by kernel_rfl) (by kernel_rfl) (fun _ _ _ h => h) (Or.inl ⟨by rfl, ?_⟩) (by assumption) ?_
            rotate_left
            · intro wz hSw; (try dsimp only at hSw); go_simp; (try with_reducible rfl)
            try simp only [Act.put, List.setIfInBounds_toArray, List.set_cons_zero, List.set_cons_succ]
            refine wpAnyH_take (i := 4) (oi := ⟨some 57, _, _, _, _, some (1, true)⟩) (v := ?_) rfl (by kernel_rfl) (by kernel_rfl) (by kernel_rfl) (fun _ _ _ h => h) (Or.inl ⟨by rfl, ?_⟩) (by assumption) ?_
            rotate_left
            · intro wz hSw; (try dsimp only at hSw); go_simp; (try with_reducible rfl)
            try simp only [Act.put, List.setIfInBounds_toArray, List.set_cons_zero, List.set_cons_succ]
            refine wpAnyH_take (i := 5) (oi := ⟨some 58, _, _, _, _, some (1, true)⟩) (v := ?_) rfl (by kernel_rfl) (by kernel_rfl) (by kernel_rfl) (fun _ _ _ h => h) (Or.inl ⟨by rfl, ?_⟩) (by assumption) ?_
            rotate_left
            · intro wz hSw; (try dsimp only at hSw); go_simp; (try with_reducible rfl)
            try simp only [Act.put, List.setIfInBounds_toArray, List.set_cons_zero, List.set_cons_succ]
            refine wpAnyH_take (i := 6) (oi := ⟨some 59, _, _, _, _, some (1, true)⟩) (v := ?_) rfl (by kernel_rfl) (by kernel_rfl) (by kernel_rfl) (fun _ _ _ h => h) (Or.inl ⟨by rfl, ?_⟩) (by assumption) ?_
            rotate_left
            · intro wz hSw; (try dsimp only at hSw); go_simp; (try with_reducible rfl)
            try simp only [Act.put, List.setIfInBounds_toArray, List.set_cons_zero, List.set_cons_succ]
            refine wpAnyH_take (i := 7) (oi := ⟨some 60, _, _, _, _, some (1, true)⟩) (v := ?_) rfl (by kernel_rfl) (by kernel_rfl) (by kernel_rfl) (fun _ _ _ h => h) (Or.inl ⟨by rfl, ?_⟩) (by assumption) ?_
            rotate_left
            · intro wz hSw; (try dsimp only at hSw); go_simp; (try with_reducible rfl)
            try simp only [Act.put, List.setIfInBounds_toArray, List.set_cons_zero, List.set_cons_succ]
            refine wpAnyH_take (i := 8) (oi := ⟨some 61, _, _, _, _, some (1, true)⟩) (v := ?_) rfl (by kernel_rfl) (by kernel_rfl) (by kernel_rfl) (fun _ _ _ h => h) (Or.inl ⟨by rfl, ?_⟩) (by assumption) ?_
            rotate_left
            · intro wz hSw; (try dsimp only at hSw); go_simp; (try with_reducible rfl)
            try simp only [Act.put, List.setIfInBounds_toArray, List.set_cons_zero, List.set_cons_succ]
            refine wpAnyH_take (i := 9) (oi := ⟨some 62, _, _, _, _, some (1, true)⟩) (v := ?_) rfl (by kernel_rfl) (by kernel_rfl) (by kernel_rfl) (fun _ _ _ h => h) (Or.inl ⟨by rfl, ?_⟩) (by assumption) ?_
            rotate_left
            · intro wz hSw; (try dsimp only at hSw); go_simp; (try with_reducible rfl)
            try simp only [Act.put, List.setIfInBounds_toArray, List.set_cons_zero, List.set_cons_succ]
            refine wpAnyH_take (i := 10) (oi := ⟨some 63, _, _, _, _, some (1, true)⟩) (v := ?_) rfl (by kernel_rfl) (by kernel_rfl) (by kernel_rfl) (fun _ _ _ h => h) (Or.inl ⟨by rfl, ?_⟩) (by assumption) ?_
            rotate_left
            · intro wz hSw; (try dsimp only at hSw); go_simp; (try with_reducible rfl)
            try simp only [Act.put, List.setIfInBounds_toArray, List.set_cons_zero, List.set_cons_succ]
            refine wpAnyH_take (i := 11) (oi := ⟨some 64, _, _, _, _, some (1, true)⟩) (v := _) rfl (by kernel_rfl) (by kernel_rfl) (by kernel_rfl) (fun _ _ _ h => h) (Or.inl ⟨by rfl, runs_load_box 30 (.tmp 2) rfl S0 rfl 30 _ (fun _ h => h.1) setup_big⟩) (by assumption) ?_
            try simp only [Act.put, List.setIfInBounds_toArray, List.set_cons_zero, List.set_cons_succ]
            refine wpAnyH_take (i := 12) (oi := ⟨some 65, _, _, _, _, some (1, true)⟩) (v := _) rfl (by kernel_rfl) (by kernel_rfl) (by kernel_rfl) (fun _ _ _ h => h) (Or.inl ⟨by rfl, runs_load_box 30 (.tmp 3) rfl (S0 + 1) rfl 30 _ (fun _ h => h.2.1) setup_big⟩) (by assumption) ?_
            try simp only [Act.put, List.setIfInBounds_toArray, List.set_cons_zero, List.set_cons_succ]
            refine wpAnyH_ready (rs := [13]) (by kernel_rfl) (by simp) ?_
            refine AllReadyH.cons (o := ⟨some 66, _, _, _, _, some (1, true)⟩) rfl (fun K hK => ?_) AllReadyH.nil
            go_simp
            refine (ref7_Same s t q r x _ (HS.out.below ((Below.refl _ _).drew)) (HT.out.below ((Below.refl _ _).drew)) HFS.out HFT.out HX.out).mono ?_
            rintro e7 w7 ⟨rfl, k7⟩
            replace hA := box_keep k7 hA (block_lt hA)
            replace hB := box_keep k7 hB (block_lt hB)
            replace hc1 := conv_row (HRA.out.below ((Below.refl _ _).drew) |>.below k7) c
            replace hc2 := conv_row (HRB.out.below ((Below.refl _ _).drew) |>.below k7) c2
            refine hK.out _ _ ?_ (fun hHeld => ?_)
            · exact ⟨hA, hB, hc1, hc2⟩
            clear hK K
            try simp only [Act.put, List.setIfInBounds_toArray, List.set_cons_zero, List.set_cons_succ]
            refine wpAnyH_take (i := 14) (oi := ⟨some 67, _, _, _, _, some (1, true)⟩) (v := ?_) rfl (by kernel_rfl) (by kernel_rfl) (by kernel_rfl) (fun _ _ _ h => h) (Or.inl ⟨by rfl, ?_⟩) (by assumption) ?_
            rotate_left
            · intro wz hSw; (try dsimp only at hSw); go_simp; (try with_reducible rfl)
            try simp only [Act.put, List.setIfInBounds_toArray, List.set_cons_zero, List.set_cons_succ]
            refine wpAnyH_take (i := 15) (oi := ⟨some 68, _, _, _, _, none⟩) (v := ?_) rfl (by kernel_rfl) (by kernel_rfl) (by kernel_rfl) (fun _ _ _ h => h) (Or.inl ⟨by rfl, ?_⟩) (by assumption) ?_
            rotate_left
            · intro wz hSw; (try dsimp only at hSw); go_simp; (try with_reducible rfl)
            try simp only [Act.put, List.setIfInBounds_toArray, List.set_cons_zero, List.set_cons_succ]
            refine wpAnyH_take (i := 16) (oi := ⟨some 4, _, _, _, _, none⟩) (v := ?_) rfl (by kernel_rfl) (by kernel_rfl) (by kernel_rfl) (fun _ _ _ h => h) (Or.inl ⟨by rfl, ?_⟩) (by assumption) ?_
            rotate_left
            · intro wz hSw; (try dsimp only at hSw); go_simp; (try with_reducible rfl)
            try simp only [Act.put, List.setIfInBounds_toArray, List.set_cons_zero, List.set_cons_succ]
            refine wpAnyH_done (by kernel_rfl) ?_ _
            go_wp2_with fail
            go_ret
            exact ⟨by cases x <;> rfl, BB.drew.trans (k7.mono BB.size)⟩
end Go.Proofs.Ytnjckaifgmliaaa

/- THE WALK of SetupBack: setups are read as they were written. -/

namespace Go.Proofs.Ytnjckaifgmliaaa
open Go.RowKit Lu

theorem bytes_pos (s : Setup) : 0 < (manyP (numbersP s)).length := by
  apply Classical.byContradiction
  intro h
  have h1 := manyP_zero (List.eq_nil_of_length_eq_zero (by omega : (manyP (numbersP s)).length = 0))
  unfold numbersP at h1
  simp at h1
theorem noSetup_no : setupP noSetup = false := by decide +kernel
set_option maxRecDepth 100000 in
set_option maxHeartbeats 1000000 in
theorem setup_Write_no (s : Setup) (q : Slices) (w : World) (h : SetupIs w s q) (hc : setupP s = false) : Calls Try.prog 15 #[.agg #[.int .i64 s.places, .slice q.wa q.wl q.wc, .int .i64 s.pn, .int .i64 s.pd, .slice q.ea q.el q.ec, .slice q.ca q.cl q.cc, .slice q.ga q.gl q.gc, .int .i64 s.allow, .int .i64 s.unit, .int .i64 s.cap, .int .i64 s.paidBreak, .int .i64 s.autoAfter, .int .i64 s.autoBreak, .int .i64 s.dayReg, .int .i64 s.dayOver, .int .i64 s.weekReg, .int .i64 s.nightFrom, .int .i64 s.nightTo, .slice q.ra q.rl q.rc, .int .i64 s.diff, .int .i64 s.least, .int .i64 s.fault, .slice q.ta q.tl q.tc]] w fun e w' => e = .returned (.tuple #[.slice none 0 0, .int .i64 70]) ∧ Below w.heap.size w w' := by
  have hb : (w.alloc (.cells #[.int .i64 s.places, .slice q.wa q.wl q.wc, .int .i64 s.pn, .int .i64 s.pd, .slice q.ea q.el q.ec, .slice q.ca q.cl q.cc, .slice q.ga q.gl q.gc, .int .i64 s.allow, .int .i64 s.unit, .int .i64 s.cap, .int .i64 s.paidBreak, .int .i64 s.autoAfter, .int .i64 s.autoBreak, .int .i64 s.dayReg, .int .i64 s.dayOver, .int .i64 s.weekReg, .int .i64 s.nightFrom, .int .i64 s.nightTo, .slice q.ra q.rl q.rc, .int .i64 s.diff, .int .i64 s.least, .int .i64 s.fault, .slice q.ta q.tl q.tc] 30)).heap[w.heap.size]? = some (.cells #[.int .i64 s.places, .slice q.wa q.wl q.wc, .int .i64 s.pn, .int .i64 s.pd, .slice q.ea q.el q.ec, .slice q.ca q.cl q.cc, .slice q.ga q.gl q.gc, .int .i64 s.allow, .int .i64 s.unit, .int .i64 s.cap, .int .i64 s.paidBreak, .int .i64 s.autoAfter, .int .i64 s.autoBreak, .int .i64 s.dayReg, .int .i64 s.dayOver, .int .i64 s.weekReg, .int .i64 s.nightFrom, .int .i64 s.nightTo, .slice q.ra q.rl q.rc, .int .i64 s.diff, .int .i64 s.least, .int .i64 s.fault, .slice q.ta q.tl q.tc] 30) := box_new w _ rfl _ _
  have B0 : Below w.heap.size w (w.alloc (.cells #[.int .i64 s.places, .slice q.wa q.wl q.wc, .int .i64 s.pn, .int .i64 s.pd, .slice q.ea q.el q.ec, .slice q.ca q.cl q.cc, .slice q.ga q.gl q.gc, .int .i64 s.allow, .int .i64 s.unit, .int .i64 s.cap, .int .i64 s.paidBreak, .int .i64 s.autoAfter, .int .i64 s.autoBreak, .int .i64 s.dayReg, .int .i64 s.dayOver, .int .i64 s.weekReg, .int .i64 s.nightFrom, .int .i64 s.nightTo, .slice q.ra q.rl q.rc, .int .i64 s.diff, .int .i64 s.least, .int .i64 s.fault, .slice q.ta q.tl q.tc] 30)) := by go_grown
  have HC := Lib.hid hc
  clear hc
  go_enter Try.func15, Try.ntmps15
  go_wp2_with (refine wpList_load_box 30 (.tmp 1) rfl rfl w.heap.size rfl 30 #[.int .i64 s.places, .slice q.wa q.wl q.wc, .int .i64 s.pn, .int .i64 s.pd, .slice q.ea q.el q.ec, .slice q.ca q.cl q.cc, .slice q.ga q.gl q.gc, .int .i64 s.allow, .int .i64 s.unit, .int .i64 s.cap, .int .i64 s.paidBreak, .int .i64 s.autoAfter, .int .i64 s.autoBreak, .int .i64 s.dayReg, .int .i64 s.dayOver, .int .i64 s.weekReg, .int .i64 s.nightFrom, .int .i64 s.nightTo, .slice q.ra q.rl q.rc, .int .i64 s.diff, .int .i64 s.least, .int .i64 s.fault, .slice q.ta q.tl q.tc] hb setup_big ?_)
  refine (setup_Check s q false _ (h.below B0) HC.out).mono ?_
  rintro e1 w1 ⟨rfl, k1⟩
  go_wp2_with fail
  refine bodyPost_ret (v := .tuple #[.slice none 0 0, .int .i64 70]) (by simp [results, Try.results15, go_sem]) rfl ⟨rfl, B0.trans (k1.mono B0.size)⟩
set_option maxRecDepth 100000 in
set_option maxHeartbeats 8000000 in
theorem setupBack_walk (s : Setup) (q : Slices) (a0 : Option Addr) (len cap : Nat) (bs : List Int) (w : World) (hs : SetupIs w s q) (hb : Row8 w a0 len bs) (hcap : len ≤ cap) (hblk : ∀ b o, a0 = some ⟨b, o, none⟩ → b < w.heap.size) :
    Calls Try.prog 4 #[.agg #[.int .i64 s.places, .slice q.wa q.wl q.wc, .int .i64 s.pn, .int .i64 s.pd, .slice q.ea q.el q.ec, .slice q.ca q.cl q.cc, .slice q.ga q.gl q.gc, .int .i64 s.allow, .int .i64 s.unit, .int .i64 s.cap, .int .i64 s.paidBreak, .int .i64 s.autoAfter, .int .i64 s.autoBreak, .int .i64 s.dayReg, .int .i64 s.dayOver, .int .i64 s.weekReg, .int .i64 s.nightFrom, .int .i64 s.nightTo, .slice q.ra q.rl q.rc, .int .i64 s.diff, .int .i64 s.least, .int .i64 s.fault, .slice q.ta q.tl q.tc], .slice a0 len cap] w fun e w' => e = .returned (.bool true) ∧ Below w.heap.size w w' := by
  have BB : Below w.heap.size w (w.alloc (.cells #[.int .i64 s.places, .slice q.wa q.wl q.wc, .int .i64 s.pn, .int .i64 s.pd, .slice q.ea q.el q.ec, .slice q.ca q.cl q.cc, .slice q.ga q.gl q.gc, .int .i64 s.allow, .int .i64 s.unit, .int .i64 s.cap, .int .i64 s.paidBreak, .int .i64 s.autoAfter, .int .i64 s.autoBreak, .int .i64 s.dayReg, .int .i64 s.dayOver, .int .i64 s.weekReg, .int .i64 s.nightFrom, .int .i64 s.nightTo, .slice q.ra q.rl q.rc, .int .i64 s.diff, .int .i64 s.least, .int .i64 s.fault, .slice q.ta q.tl q.tc] 30)) := by go_grown
  have hA : (w.alloc (.cells #[.int .i64 s.places, .slice q.wa q.wl q.wc, .int .i64 s.pn, .int .i64 s.pd, .slice q.ea q.el q.ec, .slice q.ca q.cl q.cc, .slice q.ga q.gl q.gc, .int .i64 s.allow, .int .i64 s.unit, .int .i64 s.cap, .int .i64 s.paidBreak, .int .i64 s.autoAfter, .int .i64 s.autoBreak, .int .i64 s.dayReg, .int .i64 s.dayOver, .int .i64 s.weekReg, .int .i64 s.nightFrom, .int .i64 s.nightTo, .slice q.ra q.rl q.rc, .int .i64 s.diff, .int .i64 s.least, .int .i64 s.fault, .slice q.ta q.tl q.tc] 30)).heap[w.heap.size]? = some (.cells #[.int .i64 s.places, .slice q.wa q.wl q.wc, .int .i64 s.pn, .int .i64 s.pd, .slice q.ea q.el q.ec, .slice q.ca q.cl q.cc, .slice q.ga q.gl q.gc, .int .i64 s.allow, .int .i64 s.unit, .int .i64 s.cap, .int .i64 s.paidBreak, .int .i64 s.autoAfter, .int .i64 s.autoBreak, .int .i64 s.dayReg, .int .i64 s.dayOver, .int .i64 s.weekReg, .int .i64 s.nightFrom, .int .i64 s.nightTo, .slice q.ra q.rl q.rc, .int .i64 s.diff, .int .i64 s.least, .int .i64 s.fault, .slice q.ta q.tl q.tc] 30) := box_new w _ rfl _ _
  have HS := Lib.hid (hs.below BB)
  have HB := Lib.hid (hb.below BB)
  have HBLK := Lib.hid hblk
  have hlmax := hb.2.1
  obtain ⟨f, hf⟩ : ∃ f, fewP s = f := ⟨_, rfl⟩
  obtain ⟨cs, hcs⟩ : ∃ c, setupP s = c := ⟨_, rfl⟩
  have HF := Lib.hid hf
  have HCS := Lib.hid hcs
  have hby := hb.2.2.1
  have hrc := readP_cases bs
  have hok : ∀ y, readP bs = (y, 0) → decide (manyP (numbersP y) = bs) = true := fun y h => decide_eq_true (readP_ok hby h).2.symm
  have HRC0 := Lib.hid hrc
  have HOK := Lib.hid hok
  clear hf hcs hs hb hblk hby hrc hok
  go_enter Try.func4, Try.ntmps4
  go_wp2_with fail
  refine (awake7 _).mono ?_
  rintro e1 w1 ⟨rfl, k1⟩
  replace BB := BB.trans (k1.mono BB.size)
  replace hA := box_keep k1 hA (block_lt hA)
  replace HS := Lib.hid (HS.out.below k1)
  replace HB := Lib.hid (HB.out.below k1)
  clear k1
  obtain ⟨S0, hS0⟩ : ∃ S, w.heap.size = S := ⟨_, rfl⟩
  have HS0 := Lib.hid hS0
  rw [hS0] at hA ⊢
  clear hS0
  go_wp2_with (refine wpList_load_box 30 (.tmp 2) rfl rfl S0 rfl 30 #[.int .i64 s.places, .slice q.wa q.wl q.wc, .int .i64 s.pn, .int .i64 s.pd, .slice q.ea q.el q.ec, .slice q.ca q.cl q.cc, .slice q.ga q.gl q.gc, .int .i64 s.allow, .int .i64 s.unit, .int .i64 s.cap, .int .i64 s.paidBreak, .int .i64 s.autoAfter, .int .i64 s.autoBreak, .int .i64 s.dayReg, .int .i64 s.dayOver, .int .i64 s.weekReg, .int .i64 s.nightFrom, .int .i64 s.nightTo, .slice q.ra q.rl q.rc, .int .i64 s.diff, .int .i64 s.least, .int .i64 s.fault, .slice q.ta q.tl q.tc] hA setup_big ?_)
  refine (ref7_Few s q f w1 HS.out HF.out).mono ?_
  rintro e3 w3 ⟨rfl, k3⟩
  replace BB := BB.trans (k3.mono BB.size)
  replace hA := box_keep k3 hA (block_lt hA)
  replace HS := Lib.hid (HS.out.below k3)
  replace HB := Lib.hid (HB.out.below k3)
  clear k3
  cases f
  · go_wp2_with fail
    go_ret
    exact ⟨rfl, BB⟩
  · by_cases hl : 2000 < len
    · have yl : decide ((2000 : Int) < (len : Int)) = true := by rw [decide_eq_true_iff]; omega
      go_wp2_with fail
      go_ret
      exact ⟨rfl, BB⟩
    · have yl : decide ((2000 : Int) < (len : Int)) = false := by rw [decide_eq_false_iff_not]; omega
      rcases HRC0.out with hrc | ⟨y, hrc, hcy⟩
      · have HRC := Lib.hid hrc
        clear HOK HRC0 hrc
        cases cs
        · skip
          go_wp2_with (refine wpList_load_box 30 (.tmp 2) rfl rfl S0 rfl 30 #[.int .i64 s.places, .slice q.wa q.wl q.wc, .int .i64 s.pn, .int .i64 s.pd, .slice q.ea q.el q.ec, .slice q.ca q.cl q.cc, .slice q.ga q.gl q.gc, .int .i64 s.allow, .int .i64 s.unit, .int .i64 s.cap, .int .i64 s.paidBreak, .int .i64 s.autoAfter, .int .i64 s.autoBreak, .int .i64 s.dayReg, .int .i64 s.dayOver, .int .i64 s.weekReg, .int .i64 s.nightFrom, .int .i64 s.nightTo, .slice q.ra q.rl q.rc, .int .i64 s.diff, .int .i64 s.least, .int .i64 s.fault, .slice q.ta q.tl q.tc] hA setup_big ?_)
          refine (setup_Write_no s q w3 HS.out HCS.out).mono ?_
          rintro e4 w4 ⟨rfl, k4⟩
          replace BB := BB.trans (k4.mono BB.size)
          replace hA := box_keep k4 hA (block_lt hA)
          replace HS := Lib.hid (HS.out.below k4)
          replace HB := Lib.hid (HB.out.below k4)
          clear k4
          go_wp2_with fail
          refine (setup_Read none 0 0 [] w4 (Row8_nil _) (by omega) (by omega) (fun b o h => by cases h)).mono ?_
          rintro e5 w5 ⟨x, q4, er4, rfl, hrd, hx, k5⟩
          rw [read_nil] at hrd
          simp only [Prod.mk.injEq] at hrd
          obtain ⟨rfl, rfl⟩ := hrd
          have HXS := Lib.hid hx
          clear hx
          replace BB := BB.trans (k5.mono BB.size)
          replace hA := box_keep k5 hA (block_lt hA)
          replace HS := Lib.hid (HS.out.below k5)
          replace HB := Lib.hid (HB.out.below k5)
          clear k5
          go_upto_region 6 with (refine wpList_store_new _ _ _ rfl 30 (.tmp 8) (.tmp 33) rfl #[.int .i64 noSetup.places, .slice q4.wa q4.wl q4.wc, .int .i64 noSetup.pn, .int .i64 noSetup.pd, .slice q4.ea q4.el q4.ec, .slice q4.ca q4.cl q4.cc, .slice q4.ga q4.gl q4.gc, .int .i64 noSetup.allow, .int .i64 noSetup.unit, .int .i64 noSetup.cap, .int .i64 noSetup.paidBreak, .int .i64 noSetup.autoAfter, .int .i64 noSetup.autoBreak, .int .i64 noSetup.dayReg, .int .i64 noSetup.dayOver, .int .i64 noSetup.weekReg, .int .i64 noSetup.nightFrom, .int .i64 noSetup.nightTo, .slice q4.ra q4.rl q4.rc, .int .i64 noSetup.diff, .int .i64 noSetup.least, .int .i64 noSetup.fault, .slice q4.ta q4.tl q4.tc] w5.heap.size rfl rfl rfl rfl setup_size (by kernel_rfl) ?_)
          refine gen_code (S := fun V => V.heap[w5.heap.size]? = some (.cells #[.int .i64 noSetup.places, .slice q4.wa q4.wl q4.wc, .int .i64 noSetup.pn, .int .i64 noSetup.pd, .slice q4.ea q4.el q4.ec, .slice q4.ca q4.cl q4.cc, .slice q4.ga q4.gl q4.gc, .int .i64 noSetup.allow, .int .i64 noSetup.unit, .int .i64 noSetup.cap, .int .i64 noSetup.paidBreak, .int .i64 noSetup.autoAfter, .int .i64 noSetup.autoBreak, .int .i64 noSetup.dayReg, .int .i64 noSetup.dayOver, .int .i64 noSetup.weekReg, .int .i64 noSetup.nightFrom, .int .i64 noSetup.nightTo, .slice q4.ra q4.rl q4.rc, .int .i64 noSetup.diff, .int .i64 noSetup.least, .int .i64 noSetup.fault, .slice q4.ta q4.tl q4.tc] 30) ∧ V.heap[S0]? = some (.cells #[.int .i64 s.places, .slice q.wa q.wl q.wc, .int .i64 s.pn, .int .i64 s.pd, .slice q.ea q.el q.ec, .slice q.ca q.cl q.cc, .slice q.ga q.gl q.gc, .int .i64 s.allow, .int .i64 s.unit, .int .i64 s.cap, .int .i64 s.paidBreak, .int .i64 s.autoAfter, .int .i64 s.autoBreak, .int .i64 s.dayReg, .int .i64 s.dayOver, .int .i64 s.weekReg, .int .i64 s.nightFrom, .int .i64 s.nightTo, .slice q.ra q.rl q.rc, .int .i64 s.diff, .int .i64 s.least, .int .i64 s.fault, .slice q.ta q.tl q.tc] 30) ∧ SetupIs V s q ∧ SetupIs V noSetup q4 ∧ Row8 V a0 len bs ∧ Below w.heap.size w V) ⟨box_new _ _ rfl _ _, box_keep (B := w5.heap.size) (by go_grown) hA (block_lt hA), HS.out.below (by go_grown), HXS.out.below (by go_grown), HB.out.below (by go_grown), BB.alloc BB.size _⟩ (fun V5 hV => ?_)
          clear hA HS HXS HB BB
          generalize w5.heap.size = SX at *
          obtain ⟨hX, hA, h1, h2, h3, BB⟩ := hV
          have HS := Lib.hid h1
          have HXS := Lib.hid h2
          have HB := Lib.hid h3
          clear h1 h2 h3
          have hblk5 : ∀ b o, a0 = some ⟨b, o, none⟩ → b < V5.heap.size := fun b o h => Nat.lt_of_lt_of_le (HBLK.out b o h) BB.size
          have HBL := Lib.hid hblk5
          clear hblk5
          go_wp2_with fail
          refine (setup_Read a0 len cap bs V5 HB.out (by omega) hcap HBL.out).mono ?_
          rintro e6 w6 ⟨y6, q5, er5, rfl, hrd, hy, k6⟩
          rw [HRC.out] at hrd
          simp only [Prod.mk.injEq] at hrd
          obtain ⟨rfl, rfl⟩ := hrd
          have HYS := Lib.hid hy
          clear hy HBL
          replace BB := BB.trans (k6.mono BB.size)
          replace hA := box_keep k6 hA (block_lt hA)
          replace hX := box_keep k6 hX (block_lt hX)
          replace HS := Lib.hid (HS.out.below k6)
          replace HXS := Lib.hid (HXS.out.below k6)
          replace HB := Lib.hid (HB.out.below k6)
          clear k6
          go_upto_region 7 with (refine wpList_store_new _ _ _ rfl 30 (.tmp 10) (.tmp 38) rfl #[.int .i64 noSetup.places, .slice q5.wa q5.wl q5.wc, .int .i64 noSetup.pn, .int .i64 noSetup.pd, .slice q5.ea q5.el q5.ec, .slice q5.ca q5.cl q5.cc, .slice q5.ga q5.gl q5.gc, .int .i64 noSetup.allow, .int .i64 noSetup.unit, .int .i64 noSetup.cap, .int .i64 noSetup.paidBreak, .int .i64 noSetup.autoAfter, .int .i64 noSetup.autoBreak, .int .i64 noSetup.dayReg, .int .i64 noSetup.dayOver, .int .i64 noSetup.weekReg, .int .i64 noSetup.nightFrom, .int .i64 noSetup.nightTo, .slice q5.ra q5.rl q5.rc, .int .i64 noSetup.diff, .int .i64 noSetup.least, .int .i64 noSetup.fault, .slice q5.ta q5.tl q5.tc] w6.heap.size rfl rfl rfl rfl setup_size (by kernel_rfl) ?_)
          refine gen_code (S := fun V => V.heap[w6.heap.size]? = some (.cells #[.int .i64 noSetup.places, .slice q5.wa q5.wl q5.wc, .int .i64 noSetup.pn, .int .i64 noSetup.pd, .slice q5.ea q5.el q5.ec, .slice q5.ca q5.cl q5.cc, .slice q5.ga q5.gl q5.gc, .int .i64 noSetup.allow, .int .i64 noSetup.unit, .int .i64 noSetup.cap, .int .i64 noSetup.paidBreak, .int .i64 noSetup.autoAfter, .int .i64 noSetup.autoBreak, .int .i64 noSetup.dayReg, .int .i64 noSetup.dayOver, .int .i64 noSetup.weekReg, .int .i64 noSetup.nightFrom, .int .i64 noSetup.nightTo, .slice q5.ra q5.rl q5.rc, .int .i64 noSetup.diff, .int .i64 noSetup.least, .int .i64 noSetup.fault, .slice q5.ta q5.tl q5.tc] 30) ∧ V.heap[SX]? = some (.cells #[.int .i64 noSetup.places, .slice q4.wa q4.wl q4.wc, .int .i64 noSetup.pn, .int .i64 noSetup.pd, .slice q4.ea q4.el q4.ec, .slice q4.ca q4.cl q4.cc, .slice q4.ga q4.gl q4.gc, .int .i64 noSetup.allow, .int .i64 noSetup.unit, .int .i64 noSetup.cap, .int .i64 noSetup.paidBreak, .int .i64 noSetup.autoAfter, .int .i64 noSetup.autoBreak, .int .i64 noSetup.dayReg, .int .i64 noSetup.dayOver, .int .i64 noSetup.weekReg, .int .i64 noSetup.nightFrom, .int .i64 noSetup.nightTo, .slice q4.ra q4.rl q4.rc, .int .i64 noSetup.diff, .int .i64 noSetup.least, .int .i64 noSetup.fault, .slice q4.ta q4.tl q4.tc] 30) ∧ V.heap[S0]? = some (.cells #[.int .i64 s.places, .slice q.wa q.wl q.wc, .int .i64 s.pn, .int .i64 s.pd, .slice q.ea q.el q.ec, .slice q.ca q.cl q.cc, .slice q.ga q.gl q.gc, .int .i64 s.allow, .int .i64 s.unit, .int .i64 s.cap, .int .i64 s.paidBreak, .int .i64 s.autoAfter, .int .i64 s.autoBreak, .int .i64 s.dayReg, .int .i64 s.dayOver, .int .i64 s.weekReg, .int .i64 s.nightFrom, .int .i64 s.nightTo, .slice q.ra q.rl q.rc, .int .i64 s.diff, .int .i64 s.least, .int .i64 s.fault, .slice q.ta q.tl q.tc] 30) ∧ SetupIs V s q ∧ SetupIs V noSetup q4 ∧ SetupIs V noSetup q5 ∧ Row8 V a0 len bs ∧ Below w.heap.size w V) ⟨box_new _ _ rfl _ _, box_keep (B := w6.heap.size) (by go_grown) hX (block_lt hX), box_keep (B := w6.heap.size) (by go_grown) hA (block_lt hA), HS.out.below (by go_grown), HXS.out.below (by go_grown), HYS.out.below (by go_grown), HB.out.below (by go_grown), BB.alloc BB.size _⟩ (fun V6 hV => ?_)
          clear hA hX HS HXS HYS HB BB
          generalize w6.heap.size = SY at *
          obtain ⟨hY, hX, hA, h1, h2, h4, h3, BB⟩ := hV
          have HS := Lib.hid h1
          have HXS := Lib.hid h2
          have HYS := Lib.hid h4
          have HB := Lib.hid h3
          clear h1 h2 h3 h4
          go_wp2_with (refine wpList_load_box 30 (.tmp 10) rfl rfl SY rfl 30 #[.int .i64 noSetup.places, .slice q5.wa q5.wl q5.wc, .int .i64 noSetup.pn, .int .i64 noSetup.pd, .slice q5.ea q5.el q5.ec, .slice q5.ca q5.cl q5.cc, .slice q5.ga q5.gl q5.gc, .int .i64 noSetup.allow, .int .i64 noSetup.unit, .int .i64 noSetup.cap, .int .i64 noSetup.paidBreak, .int .i64 noSetup.autoAfter, .int .i64 noSetup.autoBreak, .int .i64 noSetup.dayReg, .int .i64 noSetup.dayOver, .int .i64 noSetup.weekReg, .int .i64 noSetup.nightFrom, .int .i64 noSetup.nightTo, .slice q5.ra q5.rl q5.rc, .int .i64 noSetup.diff, .int .i64 noSetup.least, .int .i64 noSetup.fault, .slice q5.ta q5.tl q5.tc] hY setup_big ?_)
          refine (setup_Write noSetup q5 V6 HYS.out).mono ?_
          rintro e7 w7 ⟨a7, n7, c7, B, er7, rfl, hw7, hr7, -, k7⟩
          rw [writeP_no noSetup_no] at hw7
          simp only [Prod.mk.injEq] at hw7
          obtain ⟨rfl, rfl⟩ := hw7
          have HR7 := Lib.hid hr7
          clear hr7
          replace BB := BB.trans (k7.mono BB.size)
          replace hA := box_keep k7 hA (block_lt hA)
          replace hX := box_keep k7 hX (block_lt hX)
          replace hY := box_keep k7 hY (block_lt hY)
          replace HS := Lib.hid (HS.out.below k7)
          replace HXS := Lib.hid (HXS.out.below k7)
          replace HYS := Lib.hid (HYS.out.below k7)
          replace HB := Lib.hid (HB.out.below k7)
          clear k7
          go_wp2_with (refine wpList_load_box 30 (.tmp 2) rfl rfl S0 rfl 30 #[.int .i64 s.places, .slice q.wa q.wl q.wc, .int .i64 s.pn, .int .i64 s.pd, .slice q.ea q.el q.ec, .slice q.ca q.cl q.cc, .slice q.ga q.gl q.gc, .int .i64 s.allow, .int .i64 s.unit, .int .i64 s.cap, .int .i64 s.paidBreak, .int .i64 s.autoAfter, .int .i64 s.autoBreak, .int .i64 s.dayReg, .int .i64 s.dayOver, .int .i64 s.weekReg, .int .i64 s.nightFrom, .int .i64 s.nightTo, .slice q.ra q.rl q.rc, .int .i64 s.diff, .int .i64 s.least, .int .i64 s.fault, .slice q.ta q.tl q.tc] hA setup_big ?_)
          refine (setup_Check s q false w7 HS.out HCS.out).mono ?_
          rintro e8 w8 ⟨rfl, k8⟩
          replace HR7 := Lib.hid (HR7.out.below k8)
          replace BB := BB.trans (k8.mono BB.size)
          replace hA := box_keep k8 hA (block_lt hA)
          replace hX := box_keep k8 hX (block_lt hX)
          replace hY := box_keep k8 hY (block_lt hY)
          replace HS := Lib.hid (HS.out.below k8)
          replace HXS := Lib.hid (HXS.out.below k8)
          replace HYS := Lib.hid (HYS.out.below k8)
          replace HB := Lib.hid (HB.out.below k8)
          clear k8
          have gp : w8.cell? ⟨SY, 0, none⟩ = some (.int .i64 0) := by
            have : w8.cell? ⟨SY, 0, none⟩ = some (.int .i64 noSetup.places) := by simp [World.cell?, hY]
            exact this
          go_wp2_with fail
          go_ret
          exact ⟨rfl, BB⟩
        · skip
          go_wp2_with (refine wpList_load_box 30 (.tmp 2) rfl rfl S0 rfl 30 #[.int .i64 s.places, .slice q.wa q.wl q.wc, .int .i64 s.pn, .int .i64 s.pd, .slice q.ea q.el q.ec, .slice q.ca q.cl q.cc, .slice q.ga q.gl q.gc, .int .i64 s.allow, .int .i64 s.unit, .int .i64 s.cap, .int .i64 s.paidBreak, .int .i64 s.autoAfter, .int .i64 s.autoBreak, .int .i64 s.dayReg, .int .i64 s.dayOver, .int .i64 s.weekReg, .int .i64 s.nightFrom, .int .i64 s.nightTo, .slice q.ra q.rl q.rc, .int .i64 s.diff, .int .i64 s.least, .int .i64 s.fault, .slice q.ta q.tl q.tc] hA setup_big ?_)
          refine (setup_Write s q w3 HS.out).mono ?_
          rintro e4 w4 ⟨a, n, c, A, er, rfl, hw1, hr1, hnc, k4⟩
          rw [writeP_yes HCS.out] at hw1
          simp only [Prod.mk.injEq] at hw1
          obtain ⟨rfl, rfl⟩ := hw1
          have hle := setup_bytes_le HCS.out
          have hps := bytes_pos s
          have hln := hr1.1
          have HRA := Lib.hid hr1
          have HLT := Lib.hid (row_lt hr1 (by omega))
          clear hr1
          replace BB := BB.trans (k4.mono BB.size)
          replace hA := box_keep k4 hA (block_lt hA)
          replace HS := Lib.hid (HS.out.below k4)
          replace HB := Lib.hid (HB.out.below k4)
          clear k4
          go_wp2_with fail
          refine (setup_Read a n c _ w4 HRA.out (by omega) hnc HLT.out).mono ?_
          rintro e5 w5 ⟨x, q4, er4, rfl, hrd, hx, k5⟩
          rw [write_read HCS.out] at hrd
          simp only [Prod.mk.injEq] at hrd
          obtain ⟨rfl, rfl⟩ := hrd
          clear HRA HLT
          have HXS := Lib.hid hx
          clear hx
          replace BB := BB.trans (k5.mono BB.size)
          replace hA := box_keep k5 hA (block_lt hA)
          replace HS := Lib.hid (HS.out.below k5)
          replace HB := Lib.hid (HB.out.below k5)
          clear k5
          go_upto_region 6 with (refine wpList_store_new _ _ _ rfl 30 (.tmp 8) (.tmp 33) rfl #[.int .i64 s.places, .slice q4.wa q4.wl q4.wc, .int .i64 s.pn, .int .i64 s.pd, .slice q4.ea q4.el q4.ec, .slice q4.ca q4.cl q4.cc, .slice q4.ga q4.gl q4.gc, .int .i64 s.allow, .int .i64 s.unit, .int .i64 s.cap, .int .i64 s.paidBreak, .int .i64 s.autoAfter, .int .i64 s.autoBreak, .int .i64 s.dayReg, .int .i64 s.dayOver, .int .i64 s.weekReg, .int .i64 s.nightFrom, .int .i64 s.nightTo, .slice q4.ra q4.rl q4.rc, .int .i64 s.diff, .int .i64 s.least, .int .i64 s.fault, .slice q4.ta q4.tl q4.tc] w5.heap.size rfl rfl rfl rfl setup_size (by kernel_rfl) ?_)
          refine gen_code (S := fun V => V.heap[w5.heap.size]? = some (.cells #[.int .i64 s.places, .slice q4.wa q4.wl q4.wc, .int .i64 s.pn, .int .i64 s.pd, .slice q4.ea q4.el q4.ec, .slice q4.ca q4.cl q4.cc, .slice q4.ga q4.gl q4.gc, .int .i64 s.allow, .int .i64 s.unit, .int .i64 s.cap, .int .i64 s.paidBreak, .int .i64 s.autoAfter, .int .i64 s.autoBreak, .int .i64 s.dayReg, .int .i64 s.dayOver, .int .i64 s.weekReg, .int .i64 s.nightFrom, .int .i64 s.nightTo, .slice q4.ra q4.rl q4.rc, .int .i64 s.diff, .int .i64 s.least, .int .i64 s.fault, .slice q4.ta q4.tl q4.tc] 30) ∧ V.heap[S0]? = some (.cells #[.int .i64 s.places, .slice q.wa q.wl q.wc, .int .i64 s.pn, .int .i64 s.pd, .slice q.ea q.el q.ec, .slice q.ca q.cl q.cc, .slice q.ga q.gl q.gc, .int .i64 s.allow, .int .i64 s.unit, .int .i64 s.cap, .int .i64 s.paidBreak, .int .i64 s.autoAfter, .int .i64 s.autoBreak, .int .i64 s.dayReg, .int .i64 s.dayOver, .int .i64 s.weekReg, .int .i64 s.nightFrom, .int .i64 s.nightTo, .slice q.ra q.rl q.rc, .int .i64 s.diff, .int .i64 s.least, .int .i64 s.fault, .slice q.ta q.tl q.tc] 30) ∧ SetupIs V s q ∧ SetupIs V s q4 ∧ Row8 V a0 len bs ∧ Below w.heap.size w V) ⟨box_new _ _ rfl _ _, box_keep (B := w5.heap.size) (by go_grown) hA (block_lt hA), HS.out.below (by go_grown), HXS.out.below (by go_grown), HB.out.below (by go_grown), BB.alloc BB.size _⟩ (fun V5 hV => ?_)
          clear hA HS HXS HB BB
          generalize w5.heap.size = SX at *
          obtain ⟨hX, hA, h1, h2, h3, BB⟩ := hV
          have HS := Lib.hid h1
          have HXS := Lib.hid h2
          have HB := Lib.hid h3
          clear h1 h2 h3
          have hblk5 : ∀ b o, a0 = some ⟨b, o, none⟩ → b < V5.heap.size := fun b o h => Nat.lt_of_lt_of_le (HBLK.out b o h) BB.size
          have HBL := Lib.hid hblk5
          clear hblk5
          go_wp2_with fail
          refine (setup_Read a0 len cap bs V5 HB.out (by omega) hcap HBL.out).mono ?_
          rintro e6 w6 ⟨y6, q5, er5, rfl, hrd, hy, k6⟩
          rw [HRC.out] at hrd
          simp only [Prod.mk.injEq] at hrd
          obtain ⟨rfl, rfl⟩ := hrd
          have HYS := Lib.hid hy
          clear hy HBL
          replace BB := BB.trans (k6.mono BB.size)
          replace hA := box_keep k6 hA (block_lt hA)
          replace hX := box_keep k6 hX (block_lt hX)
          replace HS := Lib.hid (HS.out.below k6)
          replace HXS := Lib.hid (HXS.out.below k6)
          replace HB := Lib.hid (HB.out.below k6)
          clear k6
          go_upto_region 7 with (refine wpList_store_new _ _ _ rfl 30 (.tmp 10) (.tmp 38) rfl #[.int .i64 noSetup.places, .slice q5.wa q5.wl q5.wc, .int .i64 noSetup.pn, .int .i64 noSetup.pd, .slice q5.ea q5.el q5.ec, .slice q5.ca q5.cl q5.cc, .slice q5.ga q5.gl q5.gc, .int .i64 noSetup.allow, .int .i64 noSetup.unit, .int .i64 noSetup.cap, .int .i64 noSetup.paidBreak, .int .i64 noSetup.autoAfter, .int .i64 noSetup.autoBreak, .int .i64 noSetup.dayReg, .int .i64 noSetup.dayOver, .int .i64 noSetup.weekReg, .int .i64 noSetup.nightFrom, .int .i64 noSetup.nightTo, .slice q5.ra q5.rl q5.rc, .int .i64 noSetup.diff, .int .i64 noSetup.least, .int .i64 noSetup.fault, .slice q5.ta q5.tl q5.tc] w6.heap.size rfl rfl rfl rfl setup_size (by kernel_rfl) ?_)
          refine gen_code (S := fun V => V.heap[w6.heap.size]? = some (.cells #[.int .i64 noSetup.places, .slice q5.wa q5.wl q5.wc, .int .i64 noSetup.pn, .int .i64 noSetup.pd, .slice q5.ea q5.el q5.ec, .slice q5.ca q5.cl q5.cc, .slice q5.ga q5.gl q5.gc, .int .i64 noSetup.allow, .int .i64 noSetup.unit, .int .i64 noSetup.cap, .int .i64 noSetup.paidBreak, .int .i64 noSetup.autoAfter, .int .i64 noSetup.autoBreak, .int .i64 noSetup.dayReg, .int .i64 noSetup.dayOver, .int .i64 noSetup.weekReg, .int .i64 noSetup.nightFrom, .int .i64 noSetup.nightTo, .slice q5.ra q5.rl q5.rc, .int .i64 noSetup.diff, .int .i64 noSetup.least, .int .i64 noSetup.fault, .slice q5.ta q5.tl q5.tc] 30) ∧ V.heap[SX]? = some (.cells #[.int .i64 s.places, .slice q4.wa q4.wl q4.wc, .int .i64 s.pn, .int .i64 s.pd, .slice q4.ea q4.el q4.ec, .slice q4.ca q4.cl q4.cc, .slice q4.ga q4.gl q4.gc, .int .i64 s.allow, .int .i64 s.unit, .int .i64 s.cap, .int .i64 s.paidBreak, .int .i64 s.autoAfter, .int .i64 s.autoBreak, .int .i64 s.dayReg, .int .i64 s.dayOver, .int .i64 s.weekReg, .int .i64 s.nightFrom, .int .i64 s.nightTo, .slice q4.ra q4.rl q4.rc, .int .i64 s.diff, .int .i64 s.least, .int .i64 s.fault, .slice q4.ta q4.tl q4.tc] 30) ∧ V.heap[S0]? = some (.cells #[.int .i64 s.places, .slice q.wa q.wl q.wc, .int .i64 s.pn, .int .i64 s.pd, .slice q.ea q.el q.ec, .slice q.ca q.cl q.cc, .slice q.ga q.gl q.gc, .int .i64 s.allow, .int .i64 s.unit, .int .i64 s.cap, .int .i64 s.paidBreak, .int .i64 s.autoAfter, .int .i64 s.autoBreak, .int .i64 s.dayReg, .int .i64 s.dayOver, .int .i64 s.weekReg, .int .i64 s.nightFrom, .int .i64 s.nightTo, .slice q.ra q.rl q.rc, .int .i64 s.diff, .int .i64 s.least, .int .i64 s.fault, .slice q.ta q.tl q.tc] 30) ∧ SetupIs V s q ∧ SetupIs V s q4 ∧ SetupIs V noSetup q5 ∧ Row8 V a0 len bs ∧ Below w.heap.size w V) ⟨box_new _ _ rfl _ _, box_keep (B := w6.heap.size) (by go_grown) hX (block_lt hX), box_keep (B := w6.heap.size) (by go_grown) hA (block_lt hA), HS.out.below (by go_grown), HXS.out.below (by go_grown), HYS.out.below (by go_grown), HB.out.below (by go_grown), BB.alloc BB.size _⟩ (fun V6 hV => ?_)
          clear hA hX HS HXS HYS HB BB
          generalize w6.heap.size = SY at *
          obtain ⟨hY, hX, hA, h1, h2, h4, h3, BB⟩ := hV
          have HS := Lib.hid h1
          have HXS := Lib.hid h2
          have HYS := Lib.hid h4
          have HB := Lib.hid h3
          clear h1 h2 h3 h4
          go_wp2_with (refine wpList_load_box 30 (.tmp 10) rfl rfl SY rfl 30 #[.int .i64 noSetup.places, .slice q5.wa q5.wl q5.wc, .int .i64 noSetup.pn, .int .i64 noSetup.pd, .slice q5.ea q5.el q5.ec, .slice q5.ca q5.cl q5.cc, .slice q5.ga q5.gl q5.gc, .int .i64 noSetup.allow, .int .i64 noSetup.unit, .int .i64 noSetup.cap, .int .i64 noSetup.paidBreak, .int .i64 noSetup.autoAfter, .int .i64 noSetup.autoBreak, .int .i64 noSetup.dayReg, .int .i64 noSetup.dayOver, .int .i64 noSetup.weekReg, .int .i64 noSetup.nightFrom, .int .i64 noSetup.nightTo, .slice q5.ra q5.rl q5.rc, .int .i64 noSetup.diff, .int .i64 noSetup.least, .int .i64 noSetup.fault, .slice q5.ta q5.tl q5.tc] hY setup_big ?_)
          refine (setup_Write noSetup q5 V6 HYS.out).mono ?_
          rintro e7 w7 ⟨a7, n7, c7, B, er7, rfl, hw7, hr7, -, k7⟩
          rw [writeP_no noSetup_no] at hw7
          simp only [Prod.mk.injEq] at hw7
          obtain ⟨rfl, rfl⟩ := hw7
          have HR7 := Lib.hid hr7
          clear hr7
          replace BB := BB.trans (k7.mono BB.size)
          replace hA := box_keep k7 hA (block_lt hA)
          replace hX := box_keep k7 hX (block_lt hX)
          replace hY := box_keep k7 hY (block_lt hY)
          replace HS := Lib.hid (HS.out.below k7)
          replace HXS := Lib.hid (HXS.out.below k7)
          replace HYS := Lib.hid (HYS.out.below k7)
          replace HB := Lib.hid (HB.out.below k7)
          clear k7
          go_wp2_with (first | (refine wpList_load_box 30 (.tmp 8) rfl rfl SX rfl 30 #[.int .i64 s.places, .slice q4.wa q4.wl q4.wc, .int .i64 s.pn, .int .i64 s.pd, .slice q4.ea q4.el q4.ec, .slice q4.ca q4.cl q4.cc, .slice q4.ga q4.gl q4.gc, .int .i64 s.allow, .int .i64 s.unit, .int .i64 s.cap, .int .i64 s.paidBreak, .int .i64 s.autoAfter, .int .i64 s.autoBreak, .int .i64 s.dayReg, .int .i64 s.dayOver, .int .i64 s.weekReg, .int .i64 s.nightFrom, .int .i64 s.nightTo, .slice q4.ra q4.rl q4.rc, .int .i64 s.diff, .int .i64 s.least, .int .i64 s.fault, .slice q4.ta q4.tl q4.tc] hX setup_big ?_) | (refine wpList_load_box 30 (.tmp 2) rfl rfl S0 rfl 30 #[.int .i64 s.places, .slice q.wa q.wl q.wc, .int .i64 s.pn, .int .i64 s.pd, .slice q.ea q.el q.ec, .slice q.ca q.cl q.cc, .slice q.ga q.gl q.gc, .int .i64 s.allow, .int .i64 s.unit, .int .i64 s.cap, .int .i64 s.paidBreak, .int .i64 s.autoAfter, .int .i64 s.autoBreak, .int .i64 s.dayReg, .int .i64 s.dayOver, .int .i64 s.weekReg, .int .i64 s.nightFrom, .int .i64 s.nightTo, .slice q.ra q.rl q.rc, .int .i64 s.diff, .int .i64 s.least, .int .i64 s.fault, .slice q.ta q.tl q.tc] hA setup_big ?_))
          refine (ref7_Same s s q4 q true w7 HXS.out HS.out HF.out HF.out (decide_eq_true rfl)).mono ?_
          rintro e8 w8 ⟨rfl, k8⟩
          replace HR7 := Lib.hid (HR7.out.below k8)
          replace BB := BB.trans (k8.mono BB.size)
          replace hA := box_keep k8 hA (block_lt hA)
          replace hX := box_keep k8 hX (block_lt hX)
          replace hY := box_keep k8 hY (block_lt hY)
          replace HS := Lib.hid (HS.out.below k8)
          replace HXS := Lib.hid (HXS.out.below k8)
          replace HYS := Lib.hid (HYS.out.below k8)
          replace HB := Lib.hid (HB.out.below k8)
          clear k8
          have gp : w8.cell? ⟨SY, 0, none⟩ = some (.int .i64 0) := by
            have : w8.cell? ⟨SY, 0, none⟩ = some (.int .i64 noSetup.places) := by simp [World.cell?, hY]
            exact this
          go_wp2_with fail
          go_ret
          exact ⟨rfl, BB⟩
      · have heb := HOK.out y hrc
        have HRC := Lib.hid hrc
        have HCY := Lib.hid hcy
        have HEB := Lib.hid heb
        clear HOK HRC0 hrc hcy heb
        cases cs
        · skip
          go_wp2_with (refine wpList_load_box 30 (.tmp 2) rfl rfl S0 rfl 30 #[.int .i64 s.places, .slice q.wa q.wl q.wc, .int .i64 s.pn, .int .i64 s.pd, .slice q.ea q.el q.ec, .slice q.ca q.cl q.cc, .slice q.ga q.gl q.gc, .int .i64 s.allow, .int .i64 s.unit, .int .i64 s.cap, .int .i64 s.paidBreak, .int .i64 s.autoAfter, .int .i64 s.autoBreak, .int .i64 s.dayReg, .int .i64 s.dayOver, .int .i64 s.weekReg, .int .i64 s.nightFrom, .int .i64 s.nightTo, .slice q.ra q.rl q.rc, .int .i64 s.diff, .int .i64 s.least, .int .i64 s.fault, .slice q.ta q.tl q.tc] hA setup_big ?_)
          refine (setup_Write_no s q w3 HS.out HCS.out).mono ?_
          rintro e4 w4 ⟨rfl, k4⟩
          replace BB := BB.trans (k4.mono BB.size)
          replace hA := box_keep k4 hA (block_lt hA)
          replace HS := Lib.hid (HS.out.below k4)
          replace HB := Lib.hid (HB.out.below k4)
          clear k4
          go_wp2_with fail
          refine (setup_Read none 0 0 [] w4 (Row8_nil _) (by omega) (by omega) (fun b o h => by cases h)).mono ?_
          rintro e5 w5 ⟨x, q4, er4, rfl, hrd, hx, k5⟩
          rw [read_nil] at hrd
          simp only [Prod.mk.injEq] at hrd
          obtain ⟨rfl, rfl⟩ := hrd
          have HXS := Lib.hid hx
          clear hx
          replace BB := BB.trans (k5.mono BB.size)
          replace hA := box_keep k5 hA (block_lt hA)
          replace HS := Lib.hid (HS.out.below k5)
          replace HB := Lib.hid (HB.out.below k5)
          clear k5
          go_upto_region 6 with (refine wpList_store_new _ _ _ rfl 30 (.tmp 8) (.tmp 33) rfl #[.int .i64 noSetup.places, .slice q4.wa q4.wl q4.wc, .int .i64 noSetup.pn, .int .i64 noSetup.pd, .slice q4.ea q4.el q4.ec, .slice q4.ca q4.cl q4.cc, .slice q4.ga q4.gl q4.gc, .int .i64 noSetup.allow, .int .i64 noSetup.unit, .int .i64 noSetup.cap, .int .i64 noSetup.paidBreak, .int .i64 noSetup.autoAfter, .int .i64 noSetup.autoBreak, .int .i64 noSetup.dayReg, .int .i64 noSetup.dayOver, .int .i64 noSetup.weekReg, .int .i64 noSetup.nightFrom, .int .i64 noSetup.nightTo, .slice q4.ra q4.rl q4.rc, .int .i64 noSetup.diff, .int .i64 noSetup.least, .int .i64 noSetup.fault, .slice q4.ta q4.tl q4.tc] w5.heap.size rfl rfl rfl rfl setup_size (by kernel_rfl) ?_)
          refine gen_code (S := fun V => V.heap[w5.heap.size]? = some (.cells #[.int .i64 noSetup.places, .slice q4.wa q4.wl q4.wc, .int .i64 noSetup.pn, .int .i64 noSetup.pd, .slice q4.ea q4.el q4.ec, .slice q4.ca q4.cl q4.cc, .slice q4.ga q4.gl q4.gc, .int .i64 noSetup.allow, .int .i64 noSetup.unit, .int .i64 noSetup.cap, .int .i64 noSetup.paidBreak, .int .i64 noSetup.autoAfter, .int .i64 noSetup.autoBreak, .int .i64 noSetup.dayReg, .int .i64 noSetup.dayOver, .int .i64 noSetup.weekReg, .int .i64 noSetup.nightFrom, .int .i64 noSetup.nightTo, .slice q4.ra q4.rl q4.rc, .int .i64 noSetup.diff, .int .i64 noSetup.least, .int .i64 noSetup.fault, .slice q4.ta q4.tl q4.tc] 30) ∧ V.heap[S0]? = some (.cells #[.int .i64 s.places, .slice q.wa q.wl q.wc, .int .i64 s.pn, .int .i64 s.pd, .slice q.ea q.el q.ec, .slice q.ca q.cl q.cc, .slice q.ga q.gl q.gc, .int .i64 s.allow, .int .i64 s.unit, .int .i64 s.cap, .int .i64 s.paidBreak, .int .i64 s.autoAfter, .int .i64 s.autoBreak, .int .i64 s.dayReg, .int .i64 s.dayOver, .int .i64 s.weekReg, .int .i64 s.nightFrom, .int .i64 s.nightTo, .slice q.ra q.rl q.rc, .int .i64 s.diff, .int .i64 s.least, .int .i64 s.fault, .slice q.ta q.tl q.tc] 30) ∧ SetupIs V s q ∧ SetupIs V noSetup q4 ∧ Row8 V a0 len bs ∧ Below w.heap.size w V) ⟨box_new _ _ rfl _ _, box_keep (B := w5.heap.size) (by go_grown) hA (block_lt hA), HS.out.below (by go_grown), HXS.out.below (by go_grown), HB.out.below (by go_grown), BB.alloc BB.size _⟩ (fun V5 hV => ?_)
          clear hA HS HXS HB BB
          generalize w5.heap.size = SX at *
          obtain ⟨hX, hA, h1, h2, h3, BB⟩ := hV
          have HS := Lib.hid h1
          have HXS := Lib.hid h2
          have HB := Lib.hid h3
          clear h1 h2 h3
          have hblk5 : ∀ b o, a0 = some ⟨b, o, none⟩ → b < V5.heap.size := fun b o h => Nat.lt_of_lt_of_le (HBLK.out b o h) BB.size
          have HBL := Lib.hid hblk5
          clear hblk5
          go_wp2_with fail
          refine (setup_Read a0 len cap bs V5 HB.out (by omega) hcap HBL.out).mono ?_
          rintro e6 w6 ⟨y6, q5, er5, rfl, hrd, hy, k6⟩
          rw [HRC.out] at hrd
          simp only [Prod.mk.injEq] at hrd
          obtain ⟨rfl, rfl⟩ := hrd
          have HYS := Lib.hid hy
          clear hy HBL
          replace BB := BB.trans (k6.mono BB.size)
          replace hA := box_keep k6 hA (block_lt hA)
          replace hX := box_keep k6 hX (block_lt hX)
          replace HS := Lib.hid (HS.out.below k6)
          replace HXS := Lib.hid (HXS.out.below k6)
          replace HB := Lib.hid (HB.out.below k6)
          clear k6
          go_upto_region 7 with (refine wpList_store_new _ _ _ rfl 30 (.tmp 10) (.tmp 38) rfl #[.int .i64 y.places, .slice q5.wa q5.wl q5.wc, .int .i64 y.pn, .int .i64 y.pd, .slice q5.ea q5.el q5.ec, .slice q5.ca q5.cl q5.cc, .slice q5.ga q5.gl q5.gc, .int .i64 y.allow, .int .i64 y.unit, .int .i64 y.cap, .int .i64 y.paidBreak, .int .i64 y.autoAfter, .int .i64 y.autoBreak, .int .i64 y.dayReg, .int .i64 y.dayOver, .int .i64 y.weekReg, .int .i64 y.nightFrom, .int .i64 y.nightTo, .slice q5.ra q5.rl q5.rc, .int .i64 y.diff, .int .i64 y.least, .int .i64 y.fault, .slice q5.ta q5.tl q5.tc] w6.heap.size rfl rfl rfl rfl setup_size (by kernel_rfl) ?_)
          refine gen_code (S := fun V => V.heap[w6.heap.size]? = some (.cells #[.int .i64 y.places, .slice q5.wa q5.wl q5.wc, .int .i64 y.pn, .int .i64 y.pd, .slice q5.ea q5.el q5.ec, .slice q5.ca q5.cl q5.cc, .slice q5.ga q5.gl q5.gc, .int .i64 y.allow, .int .i64 y.unit, .int .i64 y.cap, .int .i64 y.paidBreak, .int .i64 y.autoAfter, .int .i64 y.autoBreak, .int .i64 y.dayReg, .int .i64 y.dayOver, .int .i64 y.weekReg, .int .i64 y.nightFrom, .int .i64 y.nightTo, .slice q5.ra q5.rl q5.rc, .int .i64 y.diff, .int .i64 y.least, .int .i64 y.fault, .slice q5.ta q5.tl q5.tc] 30) ∧ V.heap[SX]? = some (.cells #[.int .i64 noSetup.places, .slice q4.wa q4.wl q4.wc, .int .i64 noSetup.pn, .int .i64 noSetup.pd, .slice q4.ea q4.el q4.ec, .slice q4.ca q4.cl q4.cc, .slice q4.ga q4.gl q4.gc, .int .i64 noSetup.allow, .int .i64 noSetup.unit, .int .i64 noSetup.cap, .int .i64 noSetup.paidBreak, .int .i64 noSetup.autoAfter, .int .i64 noSetup.autoBreak, .int .i64 noSetup.dayReg, .int .i64 noSetup.dayOver, .int .i64 noSetup.weekReg, .int .i64 noSetup.nightFrom, .int .i64 noSetup.nightTo, .slice q4.ra q4.rl q4.rc, .int .i64 noSetup.diff, .int .i64 noSetup.least, .int .i64 noSetup.fault, .slice q4.ta q4.tl q4.tc] 30) ∧ V.heap[S0]? = some (.cells #[.int .i64 s.places, .slice q.wa q.wl q.wc, .int .i64 s.pn, .int .i64 s.pd, .slice q.ea q.el q.ec, .slice q.ca q.cl q.cc, .slice q.ga q.gl q.gc, .int .i64 s.allow, .int .i64 s.unit, .int .i64 s.cap, .int .i64 s.paidBreak, .int .i64 s.autoAfter, .int .i64 s.autoBreak, .int .i64 s.dayReg, .int .i64 s.dayOver, .int .i64 s.weekReg, .int .i64 s.nightFrom, .int .i64 s.nightTo, .slice q.ra q.rl q.rc, .int .i64 s.diff, .int .i64 s.least, .int .i64 s.fault, .slice q.ta q.tl q.tc] 30) ∧ SetupIs V s q ∧ SetupIs V noSetup q4 ∧ SetupIs V y q5 ∧ Row8 V a0 len bs ∧ Below w.heap.size w V) ⟨box_new _ _ rfl _ _, box_keep (B := w6.heap.size) (by go_grown) hX (block_lt hX), box_keep (B := w6.heap.size) (by go_grown) hA (block_lt hA), HS.out.below (by go_grown), HXS.out.below (by go_grown), HYS.out.below (by go_grown), HB.out.below (by go_grown), BB.alloc BB.size _⟩ (fun V6 hV => ?_)
          clear hA hX HS HXS HYS HB BB
          generalize w6.heap.size = SY at *
          obtain ⟨hY, hX, hA, h1, h2, h4, h3, BB⟩ := hV
          have HS := Lib.hid h1
          have HXS := Lib.hid h2
          have HYS := Lib.hid h4
          have HB := Lib.hid h3
          clear h1 h2 h3 h4
          go_wp2_with (refine wpList_load_box 30 (.tmp 10) rfl rfl SY rfl 30 #[.int .i64 y.places, .slice q5.wa q5.wl q5.wc, .int .i64 y.pn, .int .i64 y.pd, .slice q5.ea q5.el q5.ec, .slice q5.ca q5.cl q5.cc, .slice q5.ga q5.gl q5.gc, .int .i64 y.allow, .int .i64 y.unit, .int .i64 y.cap, .int .i64 y.paidBreak, .int .i64 y.autoAfter, .int .i64 y.autoBreak, .int .i64 y.dayReg, .int .i64 y.dayOver, .int .i64 y.weekReg, .int .i64 y.nightFrom, .int .i64 y.nightTo, .slice q5.ra q5.rl q5.rc, .int .i64 y.diff, .int .i64 y.least, .int .i64 y.fault, .slice q5.ta q5.tl q5.tc] hY setup_big ?_)
          refine (setup_Write y q5 V6 HYS.out).mono ?_
          rintro e7 w7 ⟨a7, n7, c7, B, er7, rfl, hw7, hr7, -, k7⟩
          rw [writeP_yes HCY.out] at hw7
          simp only [Prod.mk.injEq] at hw7
          obtain ⟨rfl, rfl⟩ := hw7
          have HR7 := Lib.hid hr7
          clear hr7
          replace BB := BB.trans (k7.mono BB.size)
          replace hA := box_keep k7 hA (block_lt hA)
          replace hX := box_keep k7 hX (block_lt hX)
          replace hY := box_keep k7 hY (block_lt hY)
          replace HS := Lib.hid (HS.out.below k7)
          replace HXS := Lib.hid (HXS.out.below k7)
          replace HYS := Lib.hid (HYS.out.below k7)
          replace HB := Lib.hid (HB.out.below k7)
          clear k7
          go_wp2_with (refine wpList_load_box 30 (.tmp 2) rfl rfl S0 rfl 30 #[.int .i64 s.places, .slice q.wa q.wl q.wc, .int .i64 s.pn, .int .i64 s.pd, .slice q.ea q.el q.ec, .slice q.ca q.cl q.cc, .slice q.ga q.gl q.gc, .int .i64 s.allow, .int .i64 s.unit, .int .i64 s.cap, .int .i64 s.paidBreak, .int .i64 s.autoAfter, .int .i64 s.autoBreak, .int .i64 s.dayReg, .int .i64 s.dayOver, .int .i64 s.weekReg, .int .i64 s.nightFrom, .int .i64 s.nightTo, .slice q.ra q.rl q.rc, .int .i64 s.diff, .int .i64 s.least, .int .i64 s.fault, .slice q.ta q.tl q.tc] hA setup_big ?_)
          refine (setup_Check s q false w7 HS.out HCS.out).mono ?_
          rintro e8 w8 ⟨rfl, k8⟩
          replace HR7 := Lib.hid (HR7.out.below k8)
          replace BB := BB.trans (k8.mono BB.size)
          replace hA := box_keep k8 hA (block_lt hA)
          replace hX := box_keep k8 hX (block_lt hX)
          replace hY := box_keep k8 hY (block_lt hY)
          replace HS := Lib.hid (HS.out.below k8)
          replace HXS := Lib.hid (HXS.out.below k8)
          replace HYS := Lib.hid (HYS.out.below k8)
          replace HB := Lib.hid (HB.out.below k8)
          clear k8
          have hc1 := conv_row HR7.out c7
          have hc2 := conv_row HB.out cap
          have hse := str_eq HR7.out.2.2.1 HB.out.2.2.1 HEB.out
          go_wp2_with (refine wpList_load_box 30 (.tmp 10) rfl rfl SY rfl 30 #[.int .i64 y.places, .slice q5.wa q5.wl q5.wc, .int .i64 y.pn, .int .i64 y.pd, .slice q5.ea q5.el q5.ec, .slice q5.ca q5.cl q5.cc, .slice q5.ga q5.gl q5.gc, .int .i64 y.allow, .int .i64 y.unit, .int .i64 y.cap, .int .i64 y.paidBreak, .int .i64 y.autoAfter, .int .i64 y.autoBreak, .int .i64 y.dayReg, .int .i64 y.dayOver, .int .i64 y.weekReg, .int .i64 y.nightFrom, .int .i64 y.nightTo, .slice q5.ra q5.rl q5.rc, .int .i64 y.diff, .int .i64 y.least, .int .i64 y.fault, .slice q5.ta q5.tl q5.tc] hY setup_big ?_)
          refine (setup_Check y q5 true w8 HYS.out HCY.out).mono ?_
          rintro e9 w9 ⟨rfl, k9⟩
          go_wp2_with fail
          go_ret
          exact ⟨rfl, BB.trans (k9.mono BB.size)⟩
        · skip
          go_wp2_with (refine wpList_load_box 30 (.tmp 2) rfl rfl S0 rfl 30 #[.int .i64 s.places, .slice q.wa q.wl q.wc, .int .i64 s.pn, .int .i64 s.pd, .slice q.ea q.el q.ec, .slice q.ca q.cl q.cc, .slice q.ga q.gl q.gc, .int .i64 s.allow, .int .i64 s.unit, .int .i64 s.cap, .int .i64 s.paidBreak, .int .i64 s.autoAfter, .int .i64 s.autoBreak, .int .i64 s.dayReg, .int .i64 s.dayOver, .int .i64 s.weekReg, .int .i64 s.nightFrom, .int .i64 s.nightTo, .slice q.ra q.rl q.rc, .int .i64 s.diff, .int .i64 s.least, .int .i64 s.fault, .slice q.ta q.tl q.tc] hA setup_big ?_)
          refine (setup_Write s q w3 HS.out).mono ?_
          rintro e4 w4 ⟨a, n, c, A, er, rfl, hw1, hr1, hnc, k4⟩
          rw [writeP_yes HCS.out] at hw1
          simp only [Prod.mk.injEq] at hw1
          obtain ⟨rfl, rfl⟩ := hw1
          have hle := setup_bytes_le HCS.out
          have hps := bytes_pos s
          have hln := hr1.1
          have HRA := Lib.hid hr1
          have HLT := Lib.hid (row_lt hr1 (by omega))
          clear hr1
          replace BB := BB.trans (k4.mono BB.size)
          replace hA := box_keep k4 hA (block_lt hA)
          replace HS := Lib.hid (HS.out.below k4)
          replace HB := Lib.hid (HB.out.below k4)
          clear k4
          go_wp2_with fail
          refine (setup_Read a n c _ w4 HRA.out (by omega) hnc HLT.out).mono ?_
          rintro e5 w5 ⟨x, q4, er4, rfl, hrd, hx, k5⟩
          rw [write_read HCS.out] at hrd
          simp only [Prod.mk.injEq] at hrd
          obtain ⟨rfl, rfl⟩ := hrd
          clear HRA HLT
          have HXS := Lib.hid hx
          clear hx
          replace BB := BB.trans (k5.mono BB.size)
          replace hA := box_keep k5 hA (block_lt hA)
          replace HS := Lib.hid (HS.out.below k5)
          replace HB := Lib.hid (HB.out.below k5)
          clear k5
          go_upto_region 6 with (refine wpList_store_new _ _ _ rfl 30 (.tmp 8) (.tmp 33) rfl #[.int .i64 s.places, .slice q4.wa q4.wl q4.wc, .int .i64 s.pn, .int .i64 s.pd, .slice q4.ea q4.el q4.ec, .slice q4.ca q4.cl q4.cc, .slice q4.ga q4.gl q4.gc, .int .i64 s.allow, .int .i64 s.unit, .int .i64 s.cap, .int .i64 s.paidBreak, .int .i64 s.autoAfter, .int .i64 s.autoBreak, .int .i64 s.dayReg, .int .i64 s.dayOver, .int .i64 s.weekReg, .int .i64 s.nightFrom, .int .i64 s.nightTo, .slice q4.ra q4.rl q4.rc, .int .i64 s.diff, .int .i64 s.least, .int .i64 s.fault, .slice q4.ta q4.tl q4.tc] w5.heap.size rfl rfl rfl rfl setup_size (by kernel_rfl) ?_)
          refine gen_code (S := fun V => V.heap[w5.heap.size]? = some (.cells #[.int .i64 s.places, .slice q4.wa q4.wl q4.wc, .int .i64 s.pn, .int .i64 s.pd, .slice q4.ea q4.el q4.ec, .slice q4.ca q4.cl q4.cc, .slice q4.ga q4.gl q4.gc, .int .i64 s.allow, .int .i64 s.unit, .int .i64 s.cap, .int .i64 s.paidBreak, .int .i64 s.autoAfter, .int .i64 s.autoBreak, .int .i64 s.dayReg, .int .i64 s.dayOver, .int .i64 s.weekReg, .int .i64 s.nightFrom, .int .i64 s.nightTo, .slice q4.ra q4.rl q4.rc, .int .i64 s.diff, .int .i64 s.least, .int .i64 s.fault, .slice q4.ta q4.tl q4.tc] 30) ∧ V.heap[S0]? = some (.cells #[.int .i64 s.places, .slice q.wa q.wl q.wc, .int .i64 s.pn, .int .i64 s.pd, .slice q.ea q.el q.ec, .slice q.ca q.cl q.cc, .slice q.ga q.gl q.gc, .int .i64 s.allow, .int .i64 s.unit, .int .i64 s.cap, .int .i64 s.paidBreak, .int .i64 s.autoAfter, .int .i64 s.autoBreak, .int .i64 s.dayReg, .int .i64 s.dayOver, .int .i64 s.weekReg, .int .i64 s.nightFrom, .int .i64 s.nightTo, .slice q.ra q.rl q.rc, .int .i64 s.diff, .int .i64 s.least, .int .i64 s.fault, .slice q.ta q.tl q.tc] 30) ∧ SetupIs V s q ∧ SetupIs V s q4 ∧ Row8 V a0 len bs ∧ Below w.heap.size w V) ⟨box_new _ _ rfl _ _, box_keep (B := w5.heap.size) (by go_grown) hA (block_lt hA), HS.out.below (by go_grown), HXS.out.below (by go_grown), HB.out.below (by go_grown), BB.alloc BB.size _⟩ (fun V5 hV => ?_)
          clear hA HS HXS HB BB
          generalize w5.heap.size = SX at *
          obtain ⟨hX, hA, h1, h2, h3, BB⟩ := hV
          have HS := Lib.hid h1
          have HXS := Lib.hid h2
          have HB := Lib.hid h3
          clear h1 h2 h3
          have hblk5 : ∀ b o, a0 = some ⟨b, o, none⟩ → b < V5.heap.size := fun b o h => Nat.lt_of_lt_of_le (HBLK.out b o h) BB.size
          have HBL := Lib.hid hblk5
          clear hblk5
          go_wp2_with fail
          refine (setup_Read a0 len cap bs V5 HB.out (by omega) hcap HBL.out).mono ?_
          rintro e6 w6 ⟨y6, q5, er5, rfl, hrd, hy, k6⟩
          rw [HRC.out] at hrd
          simp only [Prod.mk.injEq] at hrd
          obtain ⟨rfl, rfl⟩ := hrd
          have HYS := Lib.hid hy
          clear hy HBL
          replace BB := BB.trans (k6.mono BB.size)
          replace hA := box_keep k6 hA (block_lt hA)
          replace hX := box_keep k6 hX (block_lt hX)
          replace HS := Lib.hid (HS.out.below k6)
          replace HXS := Lib.hid (HXS.out.below k6)
          replace HB := Lib.hid (HB.out.below k6)
          clear k6
          go_upto_region 7 with (refine wpList_store_new _ _ _ rfl 30 (.tmp 10) (.tmp 38) rfl #[.int .i64 y.places, .slice q5.wa q5.wl q5.wc, .int .i64 y.pn, .int .i64 y.pd, .slice q5.ea q5.el q5.ec, .slice q5.ca q5.cl q5.cc, .slice q5.ga q5.gl q5.gc, .int .i64 y.allow, .int .i64 y.unit, .int .i64 y.cap, .int .i64 y.paidBreak, .int .i64 y.autoAfter, .int .i64 y.autoBreak, .int .i64 y.dayReg, .int .i64 y.dayOver, .int .i64 y.weekReg, .int .i64 y.nightFrom, .int .i64 y.nightTo, .slice q5.ra q5.rl q5.rc, .int .i64 y.diff, .int .i64 y.least, .int .i64 y.fault, .slice q5.ta q5.tl q5.tc] w6.heap.size rfl rfl rfl rfl setup_size (by kernel_rfl) ?_)
          refine gen_code (S := fun V => V.heap[w6.heap.size]? = some (.cells #[.int .i64 y.places, .slice q5.wa q5.wl q5.wc, .int .i64 y.pn, .int .i64 y.pd, .slice q5.ea q5.el q5.ec, .slice q5.ca q5.cl q5.cc, .slice q5.ga q5.gl q5.gc, .int .i64 y.allow, .int .i64 y.unit, .int .i64 y.cap, .int .i64 y.paidBreak, .int .i64 y.autoAfter, .int .i64 y.autoBreak, .int .i64 y.dayReg, .int .i64 y.dayOver, .int .i64 y.weekReg, .int .i64 y.nightFrom, .int .i64 y.nightTo, .slice q5.ra q5.rl q5.rc, .int .i64 y.diff, .int .i64 y.least, .int .i64 y.fault, .slice q5.ta q5.tl q5.tc] 30) ∧ V.heap[SX]? = some (.cells #[.int .i64 s.places, .slice q4.wa q4.wl q4.wc, .int .i64 s.pn, .int .i64 s.pd, .slice q4.ea q4.el q4.ec, .slice q4.ca q4.cl q4.cc, .slice q4.ga q4.gl q4.gc, .int .i64 s.allow, .int .i64 s.unit, .int .i64 s.cap, .int .i64 s.paidBreak, .int .i64 s.autoAfter, .int .i64 s.autoBreak, .int .i64 s.dayReg, .int .i64 s.dayOver, .int .i64 s.weekReg, .int .i64 s.nightFrom, .int .i64 s.nightTo, .slice q4.ra q4.rl q4.rc, .int .i64 s.diff, .int .i64 s.least, .int .i64 s.fault, .slice q4.ta q4.tl q4.tc] 30) ∧ V.heap[S0]? = some (.cells #[.int .i64 s.places, .slice q.wa q.wl q.wc, .int .i64 s.pn, .int .i64 s.pd, .slice q.ea q.el q.ec, .slice q.ca q.cl q.cc, .slice q.ga q.gl q.gc, .int .i64 s.allow, .int .i64 s.unit, .int .i64 s.cap, .int .i64 s.paidBreak, .int .i64 s.autoAfter, .int .i64 s.autoBreak, .int .i64 s.dayReg, .int .i64 s.dayOver, .int .i64 s.weekReg, .int .i64 s.nightFrom, .int .i64 s.nightTo, .slice q.ra q.rl q.rc, .int .i64 s.diff, .int .i64 s.least, .int .i64 s.fault, .slice q.ta q.tl q.tc] 30) ∧ SetupIs V s q ∧ SetupIs V s q4 ∧ SetupIs V y q5 ∧ Row8 V a0 len bs ∧ Below w.heap.size w V) ⟨box_new _ _ rfl _ _, box_keep (B := w6.heap.size) (by go_grown) hX (block_lt hX), box_keep (B := w6.heap.size) (by go_grown) hA (block_lt hA), HS.out.below (by go_grown), HXS.out.below (by go_grown), HYS.out.below (by go_grown), HB.out.below (by go_grown), BB.alloc BB.size _⟩ (fun V6 hV => ?_)
          clear hA hX HS HXS HYS HB BB
          generalize w6.heap.size = SY at *
          obtain ⟨hY, hX, hA, h1, h2, h4, h3, BB⟩ := hV
          have HS := Lib.hid h1
          have HXS := Lib.hid h2
          have HYS := Lib.hid h4
          have HB := Lib.hid h3
          clear h1 h2 h3 h4
          go_wp2_with (refine wpList_load_box 30 (.tmp 10) rfl rfl SY rfl 30 #[.int .i64 y.places, .slice q5.wa q5.wl q5.wc, .int .i64 y.pn, .int .i64 y.pd, .slice q5.ea q5.el q5.ec, .slice q5.ca q5.cl q5.cc, .slice q5.ga q5.gl q5.gc, .int .i64 y.allow, .int .i64 y.unit, .int .i64 y.cap, .int .i64 y.paidBreak, .int .i64 y.autoAfter, .int .i64 y.autoBreak, .int .i64 y.dayReg, .int .i64 y.dayOver, .int .i64 y.weekReg, .int .i64 y.nightFrom, .int .i64 y.nightTo, .slice q5.ra q5.rl q5.rc, .int .i64 y.diff, .int .i64 y.least, .int .i64 y.fault, .slice q5.ta q5.tl q5.tc] hY setup_big ?_)
          refine (setup_Write y q5 V6 HYS.out).mono ?_
          rintro e7 w7 ⟨a7, n7, c7, B, er7, rfl, hw7, hr7, -, k7⟩
          rw [writeP_yes HCY.out] at hw7
          simp only [Prod.mk.injEq] at hw7
          obtain ⟨rfl, rfl⟩ := hw7
          have HR7 := Lib.hid hr7
          clear hr7
          replace BB := BB.trans (k7.mono BB.size)
          replace hA := box_keep k7 hA (block_lt hA)
          replace hX := box_keep k7 hX (block_lt hX)
          replace hY := box_keep k7 hY (block_lt hY)
          replace HS := Lib.hid (HS.out.below k7)
          replace HXS := Lib.hid (HXS.out.below k7)
          replace HYS := Lib.hid (HYS.out.below k7)
          replace HB := Lib.hid (HB.out.below k7)
          clear k7
          go_wp2_with (first | (refine wpList_load_box 30 (.tmp 8) rfl rfl SX rfl 30 #[.int .i64 s.places, .slice q4.wa q4.wl q4.wc, .int .i64 s.pn, .int .i64 s.pd, .slice q4.ea q4.el q4.ec, .slice q4.ca q4.cl q4.cc, .slice q4.ga q4.gl q4.gc, .int .i64 s.allow, .int .i64 s.unit, .int .i64 s.cap, .int .i64 s.paidBreak, .int .i64 s.autoAfter, .int .i64 s.autoBreak, .int .i64 s.dayReg, .int .i64 s.dayOver, .int .i64 s.weekReg, .int .i64 s.nightFrom, .int .i64 s.nightTo, .slice q4.ra q4.rl q4.rc, .int .i64 s.diff, .int .i64 s.least, .int .i64 s.fault, .slice q4.ta q4.tl q4.tc] hX setup_big ?_) | (refine wpList_load_box 30 (.tmp 2) rfl rfl S0 rfl 30 #[.int .i64 s.places, .slice q.wa q.wl q.wc, .int .i64 s.pn, .int .i64 s.pd, .slice q.ea q.el q.ec, .slice q.ca q.cl q.cc, .slice q.ga q.gl q.gc, .int .i64 s.allow, .int .i64 s.unit, .int .i64 s.cap, .int .i64 s.paidBreak, .int .i64 s.autoAfter, .int .i64 s.autoBreak, .int .i64 s.dayReg, .int .i64 s.dayOver, .int .i64 s.weekReg, .int .i64 s.nightFrom, .int .i64 s.nightTo, .slice q.ra q.rl q.rc, .int .i64 s.diff, .int .i64 s.least, .int .i64 s.fault, .slice q.ta q.tl q.tc] hA setup_big ?_))
          refine (ref7_Same s s q4 q true w7 HXS.out HS.out HF.out HF.out (decide_eq_true rfl)).mono ?_
          rintro e8 w8 ⟨rfl, k8⟩
          replace HR7 := Lib.hid (HR7.out.below k8)
          replace BB := BB.trans (k8.mono BB.size)
          replace hA := box_keep k8 hA (block_lt hA)
          replace hX := box_keep k8 hX (block_lt hX)
          replace hY := box_keep k8 hY (block_lt hY)
          replace HS := Lib.hid (HS.out.below k8)
          replace HXS := Lib.hid (HXS.out.below k8)
          replace HYS := Lib.hid (HYS.out.below k8)
          replace HB := Lib.hid (HB.out.below k8)
          clear k8
          have hc1 := conv_row HR7.out c7
          have hc2 := conv_row HB.out cap
          have hse := str_eq HR7.out.2.2.1 HB.out.2.2.1 HEB.out
          go_wp2_with (refine wpList_load_box 30 (.tmp 10) rfl rfl SY rfl 30 #[.int .i64 y.places, .slice q5.wa q5.wl q5.wc, .int .i64 y.pn, .int .i64 y.pd, .slice q5.ea q5.el q5.ec, .slice q5.ca q5.cl q5.cc, .slice q5.ga q5.gl q5.gc, .int .i64 y.allow, .int .i64 y.unit, .int .i64 y.cap, .int .i64 y.paidBreak, .int .i64 y.autoAfter, .int .i64 y.autoBreak, .int .i64 y.dayReg, .int .i64 y.dayOver, .int .i64 y.weekReg, .int .i64 y.nightFrom, .int .i64 y.nightTo, .slice q5.ra q5.rl q5.rc, .int .i64 y.diff, .int .i64 y.least, .int .i64 y.fault, .slice q5.ta q5.tl q5.tc] hY setup_big ?_)
          refine (setup_Check y q5 true w8 HYS.out HCY.out).mono ?_
          rintro e9 w9 ⟨rfl, k9⟩
          go_wp2_with fail
          go_ret
          exact ⟨rfl, BB.trans (k9.mono BB.size)⟩
end Go.Proofs.Ytnjckaifgmliaaa

/- WHAT THE STATEMENTS' FRAMES SHARE: arguments opened into what the walks are told. -/

namespace Go.Proofs.Ytnjckaifgmliaaa
open Go.ChangeShapes Go.WideShapes Go.ChangeAt Go.RowKit Lu

theorem own : ownKnob Try.prog.godebug = none := by kernel_rfl
theorem laidOut : laidOutB Try.prog = true := by kernel_rfl

theorem in_i64 {x : Int} (h : (Lit.int .i64 x).wf = true) : In x := by
  simp [Lit.wf, IntKind.min, IntKind.max, IntKind.signed, IntKind.bits] at h
  exact ⟨by omega, by omega⟩
/-- A slice of ints that came in. -/
theorem open_Ints {H : Type} {enc : TypeId × Value → H} {W : World} {base : Nat} {sp : Nat → Bool} {held : Bool} {a : Option Addr} {len cap : Nat} {d : DataW H} {p : List MemPlace}
    (h : DataW.Trod enc Try.prog W base sp held 27 (.slice a len cap) d p) : ∃ zs, Ints W a len zs := by
  obtain ⟨fuel, hf⟩ := h
  rcases open_ints Try.underlying27 Try.underlying3 (by kernel_rfl) hf with ⟨hcs, _⟩ | ⟨x, l, c, zs, hcs, _, hl, hm, hz, _, hcell, hwz⟩
  · simp [Value.cells] at hcs
    obtain ⟨rfl, rfl, rfl⟩ := hcs
    exact ⟨[], rfl, by decide, by simp, Or.inl rfl⟩
  · simp [Value.cells] at hcs
    obtain ⟨rfl, rfl, rfl⟩ := hcs
    unfold maxLen at hm
    have hz' : len ≤ zs.length := by rw [hz]; split <;> omega
    refine ⟨zs.take len, by rw [List.length_take]; omega, by omega, fun z hz => in_i64 (hwz z (List.mem_of_mem_take hz)), ?_⟩
    by_cases h0 : len = 0
    · exact Or.inl h0
    · right
      obtain ⟨b, off, spot⟩ := x
      have hc := hcell 0 (by omega)
      have hspot : spot = none := by simpa [Addr.add] using World.cell?_spot hc
      subst hspot
      refine ⟨b, off, rfl, fun i hi => ?_⟩
      have := hcell i (by omega)
      rw [Addr.add_lit] at this
      rw [this, List.getD_eq_getElem?_getD, List.getD_eq_getElem?_getD, List.getElem?_take, if_pos hi]

theorem in_i32 {x : Int} (h : (Lit.int .i32 x).wf = true) : -2147483648 ≤ x ∧ x ≤ 2147483647 := by
  simp [Lit.wf, IntKind.min, IntKind.max, IntKind.signed, IntKind.bits] at h
  exact ⟨by omega, by omega⟩
theorem in_u16 {x : Int} (h : (Lit.int .u16 x).wf = true) : 0 ≤ x ∧ x ≤ 65535 := by
  simp [Lit.wf, IntKind.min, IntKind.max, IntKind.signed, IntKind.bits] at h
  exact ⟨by omega, by omega⟩
theorem in_u8 {x : Int} (h : (Lit.int .u8 x).wf = true) : 0 ≤ x ∧ x ≤ 255 := by
  simp [Lit.wf, IntKind.min, IntKind.max, IntKind.signed, IntKind.bits] at h
  exact ⟨by omega, by omega⟩
theorem in_u32 {x : Int} (h : (Lit.int .u32 x).wf = true) : 0 ≤ x ∧ x ≤ 4294967295 := by
  simp [Lit.wf, IntKind.min, IntKind.max, IntKind.signed, IntKind.bits] at h
  exact ⟨by omega, by omega⟩
end Go.Proofs.Ytnjckaifgmliaaa

/- WHAT THE STATEMENTS' FRAMES SHARE: ratios that came in. -/

namespace Go.Proofs.Ytnjckaifgmliaaa
open Go.ChangeShapes Go.WideShapes Go.ChangeAt Go.RowKit Go.Joins Go.Deep Lu

theorem cellsInt : Try.prog.cellsOf 3 = 1 := by kernel_rfl
theorem cellsRatio : Try.prog.cellsOf 24 = 2 := by kernel_rfl
set_option maxRecDepth 100000 in
/-- A ratio that came in. -/
theorem open_Ratio {H : Type} {enc : TypeId × Value → H} {W : World} {b0 base : Nat} {sp : Nat → Bool} {held : Bool} {r : Reach} {v : Value} {d : DataW H} {p : List MemPlace}
    (hv : Value.okWide Try.prog W r b0 24 v) (h : DataW.Trod enc Try.prog W base sp held 24 v d p) : ∃ n m, v = .agg #[.int .i64 n, .int .i64 m] ∧ In n ∧ In m := by
  obtain ⟨c0, c1, y0, y1, m, rfl, _, _, hy0, hy1⟩ := open_agg2 Try.underlying24 (by kernel_rfl) cellsRatio hv h
  obtain ⟨a, e0, _, wa⟩ := DataW.trod_int Try.underlying3 hy0
  obtain ⟨b, e1, _, wb⟩ := DataW.trod_int Try.underlying3 hy1
  simp at e0 e1
  subst e0 e1
  exact ⟨a, b, rfl, in_i64 wa, in_i64 wb⟩
set_option maxRecDepth 100000 in
/-- A slice of ratios that came in. -/
theorem open_Ratios {H : Type} {enc : TypeId × Value → H} {W : World} {base : Nat} {sp : Nat → Bool} {held : Bool} {a : Option Addr} {len cap : Nat} {d : DataW H} {p : List MemPlace}
    (h : DataW.Trod enc Try.prog W base sp held 26 (.slice a len cap) d p) : ∃ rs, Ratios W a len rs := by
  obtain ⟨fuel, hf⟩ := h
  rcases open_slice Try.underlying26 hf with ⟨hcs, _⟩ | ⟨x, l, c, m, n, D, Pl, hcs, hb, hl, hm, hmm, hx, hi⟩
  · simp [Value.cells] at hcs
    obtain ⟨rfl, rfl, rfl⟩ := hcs
    exact ⟨[], rfl, by decide, by simp, Or.inl rfl⟩
  · simp [Value.cells] at hcs
    obtain ⟨rfl, rfl, rfl⟩ := hcs
    unfold maxLen at hm
    have hlm : len ≤ m := by rw [hmm]; split <;> omega
    have each : ∀ i, ∃ r : Int × Int, i < len → In r.1 ∧ In r.2 ∧ W.cell? (x.add (i * 2)) = some (.int .i64 r.1) ∧ W.cell? (x.add (i * 2 + 1)) = some (.int .i64 r.2) := by
      intro i
      by_cases hlt : i < len
      · obtain ⟨cs, hc, ht⟩ := hi i (by omega)
        rw [cellsRatio] at hc
        obtain ⟨ys, k, _, _, hlen, hyl, hfs⟩ := DataW.trod_struct Try.underlying24 ht
        obtain ⟨_, hcl, hat⟩ := World.cells?_some hc
        match cs, hcl with
        | [c0, c1], _ =>
          have f0 : DataW.trod enc Try.prog W base sp held k 3 [c0] = ys[0]? := by have := hfs 0 _ rfl; simpa [cellsInt] using this
          have f1 : DataW.trod enc Try.prog W base sp held k 3 [c1] = ys[1]? := by have := hfs 1 _ rfl; simpa [cellsInt] using this
          have g0 : ys[0]? = some (ys[0]'(by rw [hyl]; decide)) := List.getElem?_eq_getElem _
          have g1 : ys[1]? = some (ys[1]'(by rw [hyl]; decide)) := List.getElem?_eq_getElem _
          rw [g0] at f0
          rw [g1] at f1
          obtain ⟨u, e0, _, wu⟩ := DataW.trod_int Try.underlying3 f0
          obtain ⟨v, e1, _, wv⟩ := DataW.trod_int Try.underlying3 f1
          simp at e0 e1
          subst e0 e1
          refine ⟨(u, v), fun _ => ⟨in_i64 wu, in_i64 wv, ?_, ?_⟩⟩
          · have := hat 0 (by decide)
            rw [add_add] at this
            exact this
          · have := hat 1 (by decide)
            rw [add_add] at this
            exact this
      · exact ⟨(0, 0), fun h => absurd h hlt⟩
    obtain ⟨f, hf'⟩ := Classical.axiomOfChoice each
    have hget : ∀ i, i < len → ((List.range len).map f).getD i (0, 0) = f i := by
      intro i hlt
      rw [List.getD_eq_getElem?_getD, List.getElem?_map, List.getElem?_range hlt]
      rfl
    refine ⟨(List.range len).map f, by simp, by omega, ?_, ?_⟩
    · intro r hr
      obtain ⟨i, hi', rfl⟩ := List.mem_map.1 hr
      have := hf' i (List.mem_range.1 hi')
      exact ⟨this.1, this.2.1⟩
    · by_cases h0 : len = 0
      · exact Or.inl h0
      · right
        obtain ⟨b, off, spot⟩ := x
        have hc := (hf' 0 (by omega)).2.2.1
        have hspot : spot = none := by simpa [Addr.add] using World.cell?_spot hc
        subst hspot
        have hblk : b < W.heap.size := by
          have := World.block_lt_of_cell? W _ hc
          simpa [Addr.add] using this
        refine ⟨b, off, rfl, hblk, fun i hlt => ?_⟩
        have := hf' i hlt
        rw [hget i hlt]
        rw [Addr.add_lit, Addr.add_lit] at this
        exact ⟨this.2.2.1, by rw [Nat.add_assoc]; exact this.2.2.2⟩
end Go.Proofs.Ytnjckaifgmliaaa

/- WHAT THE STATEMENTS' FRAMES SHARE: a setup that came in; seven seconds that came in. -/

namespace Go.Proofs.Ytnjckaifgmliaaa
open Go.ChangeShapes Go.WideShapes Go.ChangeAt Go.RowKit Go.Joins Go.Deep Lu

theorem slice_of {H : Type} {enc : TypeId × Value → H} {W : World} {base fuel : Nat} {sp : Nat → Bool} {held : Bool} {t e : TypeId} {c : Value} {x : DataW H × List MemPlace} (ht : Try.prog.underlying t = some (.slice e))
    (h : DataW.trod enc Try.prog W base sp held fuel t [c] = some x) : ∃ a len cap, c = .slice a len cap := by
  rcases open_slice ht h with ⟨hcs, _⟩ | ⟨a, len, cap, m, n, D, Pl, hcs, _⟩
  · exact ⟨none, 0, 0, by simpa using hcs⟩
  · exact ⟨some a, len, cap, by simpa using hcs⟩


theorem ratio_cells {H : Type} {enc : TypeId × Value → H} {W : World} {base fuel : Nat} {sp : Nat → Bool} {held : Bool} {c0 c1 : Value} {x : DataW H × List MemPlace}
    (h : DataW.trod enc Try.prog W base sp held fuel 24 [c0, c1] = some x) : ∃ u v : Int, c0 = .int .i64 u ∧ c1 = .int .i64 v ∧ (Lit.int .i64 u).wf = true ∧ (Lit.int .i64 v).wf = true := by
  obtain ⟨ys, k, _, _, hlen, hyl, hfs⟩ := DataW.trod_struct Try.underlying24 h
  have f0 : DataW.trod enc Try.prog W base sp held k 3 [c0] = ys[0]? := by have := hfs 0 _ rfl; simpa [cellsInt] using this
  have f1 : DataW.trod enc Try.prog W base sp held k 3 [c1] = ys[1]? := by have := hfs 1 _ rfl; simpa [cellsInt] using this
  have g0 : ys[0]? = some (ys[0]'(by rw [hyl]; decide)) := List.getElem?_eq_getElem _
  have g1 : ys[1]? = some (ys[1]'(by rw [hyl]; decide)) := List.getElem?_eq_getElem _
  rw [g0] at f0
  rw [g1] at f1
  obtain ⟨u, e0, _, wu⟩ := DataW.trod_int Try.underlying3 f0
  obtain ⟨v, e1, _, wv⟩ := DataW.trod_int Try.underlying3 f1
  simp at e0 e1
  exact ⟨u, v, e0, e1, wu, wv⟩


theorem cells_Ways : Try.prog.cellsOf 58 = 3 := by kernel_rfl
set_option maxRecDepth 100000 in
theorem open_Ways {H : Type} {enc : TypeId × Value → H} {W : World} {base : Nat} {sp : Nat → Bool} {held : Bool} {a : Option Addr} {len cap : Nat} {d : DataW H} {p : List MemPlace}
    (h : DataW.Trod enc Try.prog W base sp held 22 (.slice a len cap) d p) : ∃ rs, Recs3 W a len rs := by
  obtain ⟨fuel, hf⟩ := h
  rcases open_slice Try.underlying22 hf with ⟨hcs, _⟩ | ⟨x, l, c, m, n, D, Pl, hcs, hb, hl, hm, hmm, hx, hi⟩
  · simp [Value.cells] at hcs
    obtain ⟨rfl, rfl, rfl⟩ := hcs
    exact ⟨[], rfl, by decide, by simp, Or.inl rfl⟩
  · simp [Value.cells] at hcs
    obtain ⟨rfl, rfl, rfl⟩ := hcs
    unfold maxLen at hm
    have hlm : len ≤ m := by rw [hmm]; split <;> omega
    have each : ∀ i, ∃ r : Int × Int × Int, i < len → In r.1 ∧ In r.2.1 ∧ In r.2.2 ∧ W.cell? (x.add (i * 3)) = some (.int .i64 r.1) ∧ W.cell? (x.add (i * 3 + 1)) = some (.int .i64 r.2.1) ∧ W.cell? (x.add (i * 3 + 2)) = some (.int .i64 r.2.2) := by
      intro i
      by_cases hlt : i < len
      · obtain ⟨cs, hc, ht⟩ := hi i (by omega)
        rw [cells_Ways] at hc
        obtain ⟨ys, k, _, _, hlen, hyl, hfs⟩ := DataW.trod_struct Try.underlying58 ht
        obtain ⟨_, hcl, hat⟩ := World.cells?_some hc
        match cs, hcl with
        | [c0, c1, c2], _ =>
          have f0 : DataW.trod enc Try.prog W base sp held k 3 [c0] = ys[0]? := by have := hfs 0 _ rfl; simpa [cellsInt, cellsRatio] using this
          have g0 : ys[0]? = some (ys[0]'(by rw [hyl]; decide)) := List.getElem?_eq_getElem _
          rw [g0] at f0
          obtain ⟨u0, e0, _, w0⟩ := DataW.trod_int Try.underlying3 f0
          have f1 : DataW.trod enc Try.prog W base sp held k 3 [c1] = ys[1]? := by have := hfs 1 _ rfl; simpa [cellsInt, cellsRatio] using this
          have g1 : ys[1]? = some (ys[1]'(by rw [hyl]; decide)) := List.getElem?_eq_getElem _
          rw [g1] at f1
          obtain ⟨u1, e1, _, w1⟩ := DataW.trod_int Try.underlying3 f1
          have f2 : DataW.trod enc Try.prog W base sp held k 3 [c2] = ys[2]? := by have := hfs 2 _ rfl; simpa [cellsInt, cellsRatio] using this
          have g2 : ys[2]? = some (ys[2]'(by rw [hyl]; decide)) := List.getElem?_eq_getElem _
          rw [g2] at f2
          obtain ⟨u2, e2, _, w2⟩ := DataW.trod_int Try.underlying3 f2
          simp at e0 e1 e2
          subst e0 e1 e2
          refine ⟨(u0, u1, u2), fun _ => ⟨in_i64 w0, in_i64 w1, in_i64 w2, ?_, ?_, ?_⟩⟩
          · have := hat 0 (by decide)
            rw [add_add] at this
            exact this
          · have := hat 1 (by decide)
            rw [add_add] at this
            exact this
          · have := hat 2 (by decide)
            rw [add_add] at this
            exact this
      · exact ⟨(0, 0, 0), fun h => absurd h hlt⟩
    obtain ⟨f, hf'⟩ := Classical.axiomOfChoice each
    have hget : ∀ i, i < len → ((List.range len).map f).getD i (0, 0, 0) = f i := by
      intro i hlt
      rw [List.getD_eq_getElem?_getD, List.getElem?_map, List.getElem?_range hlt]
      rfl
    refine ⟨(List.range len).map f, by simp, by omega, ?_, ?_⟩
    · intro r hr
      obtain ⟨i, hi', rfl⟩ := List.mem_map.1 hr
      have := hf' i (List.mem_range.1 hi')
      exact ⟨this.1, this.2.1, this.2.2.1⟩
    · by_cases h0 : len = 0
      · exact Or.inl h0
      · right
        obtain ⟨b, off, spot⟩ := x
        have hc := (hf' 0 (by omega)).2.2.2.1
        have hspot : spot = none := by simpa [Addr.add] using World.cell?_spot hc
        subst hspot
        have hblk : b < W.heap.size := by
          have := World.block_lt_of_cell? W _ hc
          simpa [Addr.add] using this
        refine ⟨b, off, rfl, hblk, fun i hlt => ?_⟩
        have := hf' i hlt
        rw [hget i hlt]
        rw [Addr.add_lit, Addr.add_lit, Addr.add_lit] at this
        exact ⟨this.2.2.2.1, by rw [Nat.add_assoc]; exact this.2.2.2.2.1, by rw [Nat.add_assoc]; exact this.2.2.2.2.2⟩


theorem cells_Elements : Try.prog.cellsOf 74 = 4 := by kernel_rfl
set_option maxRecDepth 100000 in
theorem open_Elements {H : Type} {enc : TypeId × Value → H} {W : World} {base : Nat} {sp : Nat → Bool} {held : Bool} {a : Option Addr} {len cap : Nat} {d : DataW H} {p : List MemPlace}
    (h : DataW.Trod enc Try.prog W base sp held 25 (.slice a len cap) d p) : ∃ rs, Recs4 W a len rs := by
  obtain ⟨fuel, hf⟩ := h
  rcases open_slice Try.underlying25 hf with ⟨hcs, _⟩ | ⟨x, l, c, m, n, D, Pl, hcs, hb, hl, hm, hmm, hx, hi⟩
  · simp [Value.cells] at hcs
    obtain ⟨rfl, rfl, rfl⟩ := hcs
    exact ⟨[], rfl, by decide, by simp, Or.inl rfl⟩
  · simp [Value.cells] at hcs
    obtain ⟨rfl, rfl, rfl⟩ := hcs
    unfold maxLen at hm
    have hlm : len ≤ m := by rw [hmm]; split <;> omega
    have each : ∀ i, ∃ r : Int × Int × Int × Int, i < len → In r.1 ∧ In r.2.1 ∧ In r.2.2.1 ∧ In r.2.2.2 ∧ W.cell? (x.add (i * 4)) = some (.int .i64 r.1) ∧ W.cell? (x.add (i * 4 + 1)) = some (.int .i64 r.2.1) ∧ W.cell? (x.add (i * 4 + 2)) = some (.int .i64 r.2.2.1) ∧ W.cell? (x.add (i * 4 + 3)) = some (.int .i64 r.2.2.2) := by
      intro i
      by_cases hlt : i < len
      · obtain ⟨cs, hc, ht⟩ := hi i (by omega)
        rw [cells_Elements] at hc
        obtain ⟨ys, k, _, _, hlen, hyl, hfs⟩ := DataW.trod_struct Try.underlying74 ht
        obtain ⟨_, hcl, hat⟩ := World.cells?_some hc
        match cs, hcl with
        | [c0, c1, c2, c3], _ =>
          have f0 : DataW.trod enc Try.prog W base sp held k 24 [c0, c1] = ys[0]? := by have := hfs 0 _ rfl; simpa [cellsInt, cellsRatio] using this
          have g0 : ys[0]? = some (ys[0]'(by rw [hyl]; decide)) := List.getElem?_eq_getElem _
          rw [g0] at f0
          obtain ⟨u0, u1, e0, e1, w0, w1⟩ := ratio_cells f0
          have f1 : DataW.trod enc Try.prog W base sp held k 24 [c2, c3] = ys[1]? := by have := hfs 1 _ rfl; simpa [cellsInt, cellsRatio] using this
          have g1 : ys[1]? = some (ys[1]'(by rw [hyl]; decide)) := List.getElem?_eq_getElem _
          rw [g1] at f1
          obtain ⟨u2, u3, e2, e3, w2, w3⟩ := ratio_cells f1
          subst e0 e1 e2 e3
          refine ⟨(u0, u1, u2, u3), fun _ => ⟨in_i64 w0, in_i64 w1, in_i64 w2, in_i64 w3, ?_, ?_, ?_, ?_⟩⟩
          · have := hat 0 (by decide)
            rw [add_add] at this
            exact this
          · have := hat 1 (by decide)
            rw [add_add] at this
            exact this
          · have := hat 2 (by decide)
            rw [add_add] at this
            exact this
          · have := hat 3 (by decide)
            rw [add_add] at this
            exact this
      · exact ⟨(0, 0, 0, 0), fun h => absurd h hlt⟩
    obtain ⟨f, hf'⟩ := Classical.axiomOfChoice each
    have hget : ∀ i, i < len → ((List.range len).map f).getD i (0, 0, 0, 0) = f i := by
      intro i hlt
      rw [List.getD_eq_getElem?_getD, List.getElem?_map, List.getElem?_range hlt]
      rfl
    refine ⟨(List.range len).map f, by simp, by omega, ?_, ?_⟩
    · intro r hr
      obtain ⟨i, hi', rfl⟩ := List.mem_map.1 hr
      have := hf' i (List.mem_range.1 hi')
      exact ⟨this.1, this.2.1, this.2.2.1, this.2.2.2.1⟩
    · by_cases h0 : len = 0
      · exact Or.inl h0
      · right
        obtain ⟨b, off, spot⟩ := x
        have hc := (hf' 0 (by omega)).2.2.2.2.1
        have hspot : spot = none := by simpa [Addr.add] using World.cell?_spot hc
        subst hspot
        have hblk : b < W.heap.size := by
          have := World.block_lt_of_cell? W _ hc
          simpa [Addr.add] using this
        refine ⟨b, off, rfl, hblk, fun i hlt => ?_⟩
        have := hf' i hlt
        rw [hget i hlt]
        rw [Addr.add_lit, Addr.add_lit, Addr.add_lit, Addr.add_lit] at this
        exact ⟨this.2.2.2.2.1, by rw [Nat.add_assoc]; exact this.2.2.2.2.2.1, by rw [Nat.add_assoc]; exact this.2.2.2.2.2.2.1, by rw [Nat.add_assoc]; exact this.2.2.2.2.2.2.2⟩


theorem cells_Tiers : Try.prog.cellsOf 76 = 2 := by kernel_rfl
set_option maxRecDepth 100000 in
theorem open_Tiers {H : Type} {enc : TypeId × Value → H} {W : World} {base : Nat} {sp : Nat → Bool} {held : Bool} {a : Option Addr} {len cap : Nat} {d : DataW H} {p : List MemPlace}
    (h : DataW.Trod enc Try.prog W base sp held 28 (.slice a len cap) d p) : ∃ rs, Ratios W a len rs := by
  obtain ⟨fuel, hf⟩ := h
  rcases open_slice Try.underlying28 hf with ⟨hcs, _⟩ | ⟨x, l, c, m, n, D, Pl, hcs, hb, hl, hm, hmm, hx, hi⟩
  · simp [Value.cells] at hcs
    obtain ⟨rfl, rfl, rfl⟩ := hcs
    exact ⟨[], rfl, by decide, by simp, Or.inl rfl⟩
  · simp [Value.cells] at hcs
    obtain ⟨rfl, rfl, rfl⟩ := hcs
    unfold maxLen at hm
    have hlm : len ≤ m := by rw [hmm]; split <;> omega
    have each : ∀ i, ∃ r : Int × Int, i < len → In r.1 ∧ In r.2 ∧ W.cell? (x.add (i * 2)) = some (.int .i64 r.1) ∧ W.cell? (x.add (i * 2 + 1)) = some (.int .i64 r.2) := by
      intro i
      by_cases hlt : i < len
      · obtain ⟨cs, hc, ht⟩ := hi i (by omega)
        rw [cells_Tiers] at hc
        obtain ⟨ys, k, _, _, hlen, hyl, hfs⟩ := DataW.trod_struct Try.underlying76 ht
        obtain ⟨_, hcl, hat⟩ := World.cells?_some hc
        match cs, hcl with
        | [c0, c1], _ =>
          have f0 : DataW.trod enc Try.prog W base sp held k 3 [c0] = ys[0]? := by have := hfs 0 _ rfl; simpa [cellsInt, cellsRatio] using this
          have g0 : ys[0]? = some (ys[0]'(by rw [hyl]; decide)) := List.getElem?_eq_getElem _
          rw [g0] at f0
          obtain ⟨u0, e0, _, w0⟩ := DataW.trod_int Try.underlying3 f0
          have f1 : DataW.trod enc Try.prog W base sp held k 3 [c1] = ys[1]? := by have := hfs 1 _ rfl; simpa [cellsInt, cellsRatio] using this
          have g1 : ys[1]? = some (ys[1]'(by rw [hyl]; decide)) := List.getElem?_eq_getElem _
          rw [g1] at f1
          obtain ⟨u1, e1, _, w1⟩ := DataW.trod_int Try.underlying3 f1
          simp at e0 e1
          subst e0 e1
          refine ⟨(u0, u1), fun _ => ⟨in_i64 w0, in_i64 w1, ?_, ?_⟩⟩
          · have := hat 0 (by decide)
            rw [add_add] at this
            exact this
          · have := hat 1 (by decide)
            rw [add_add] at this
            exact this
      · exact ⟨(0, 0), fun h => absurd h hlt⟩
    obtain ⟨f, hf'⟩ := Classical.axiomOfChoice each
    have hget : ∀ i, i < len → ((List.range len).map f).getD i (0, 0) = f i := by
      intro i hlt
      rw [List.getD_eq_getElem?_getD, List.getElem?_map, List.getElem?_range hlt]
      rfl
    refine ⟨(List.range len).map f, by simp, by omega, ?_, ?_⟩
    · intro r hr
      obtain ⟨i, hi', rfl⟩ := List.mem_map.1 hr
      have := hf' i (List.mem_range.1 hi')
      exact ⟨this.1, this.2.1⟩
    · by_cases h0 : len = 0
      · exact Or.inl h0
      · right
        obtain ⟨b, off, spot⟩ := x
        have hc := (hf' 0 (by omega)).2.2.1
        have hspot : spot = none := by simpa [Addr.add] using World.cell?_spot hc
        subst hspot
        have hblk : b < W.heap.size := by
          have := World.block_lt_of_cell? W _ hc
          simpa [Addr.add] using this
        refine ⟨b, off, rfl, hblk, fun i hlt => ?_⟩
        have := hf' i hlt
        rw [hget i hlt]
        rw [Addr.add_lit, Addr.add_lit] at this
        exact ⟨this.2.2.1, by rw [Nat.add_assoc]; exact this.2.2.2⟩


theorem cells_Setup : Try.prog.cellsOf 30 = 23 := by kernel_rfl
theorem cells_sl0 : Try.prog.cellsOf 22 = 1 := by kernel_rfl
theorem cells_sl1 : Try.prog.cellsOf 25 = 1 := by kernel_rfl
theorem cells_sl2 : Try.prog.cellsOf 26 = 1 := by kernel_rfl
theorem cells_sl3 : Try.prog.cellsOf 27 = 1 := by kernel_rfl
theorem cells_sl4 : Try.prog.cellsOf 28 = 1 := by kernel_rfl
set_option maxRecDepth 100000 in
set_option maxHeartbeats 4000000 in
theorem open_Setup {H : Type} {enc : TypeId × Value → H} {W : World} {b0 base : Nat} {sp : Nat → Bool} {held : Bool} {r : Reach} {v : Value} {d : DataW H} {p : List MemPlace}
    (hv : Value.okWide Try.prog W r b0 30 v) (h : DataW.Trod enc Try.prog W base sp held 30 v d p) : ∃ s q, v = .agg #[.int .i64 s.places, .slice q.wa q.wl q.wc, .int .i64 s.pn, .int .i64 s.pd, .slice q.ea q.el q.ec, .slice q.ca q.cl q.cc, .slice q.ga q.gl q.gc, .int .i64 s.allow, .int .i64 s.unit, .int .i64 s.cap, .int .i64 s.paidBreak, .int .i64 s.autoAfter, .int .i64 s.autoBreak, .int .i64 s.dayReg, .int .i64 s.dayOver, .int .i64 s.weekReg, .int .i64 s.nightFrom, .int .i64 s.nightTo, .slice q.ra q.rl q.rc, .int .i64 s.diff, .int .i64 s.least, .int .i64 s.fault, .slice q.ta q.tl q.tc] ∧ SetupIs W s q := by
  obtain ⟨cs, rfl, hsz⟩ := okWide_struct Try.underlying30 hv
  obtain ⟨l⟩ := cs
  match l, hsz.trans cells_Setup with
  | [c0, c1, c2, c3, c4, c5, c6, c7, c8, c9, c10, c11, c12, c13, c14, c15, c16, c17, c18, c19, c20, c21, c22], _ =>
    obtain ⟨fuel, hf⟩ := h
    obtain ⟨ys, n, _, _, hlen, hyl, hg⟩ := DataW.trod_struct Try.underlying30 hf
    have f0 : DataW.trod enc Try.prog W base sp held n 3 [c0] = ys[0]? := by have := hg 0 _ rfl; simpa [cellsInt, cellsRatio, cells_sl0, cells_sl1, cells_sl2, cells_sl3, cells_sl4, Value.cells] using this
    rw [show ys[0]? = some (ys[0]'(by rw [hyl]; decide)) from List.getElem?_eq_getElem _] at f0
    obtain ⟨u0, e0, _, w0⟩ := DataW.trod_int Try.underlying3 f0
    obtain rfl : c0 = .int .i64 u0 := by simpa using e0
    have f1 : DataW.trod enc Try.prog W base sp held n 22 [c1] = ys[1]? := by have := hg 1 _ rfl; simpa [cellsInt, cellsRatio, cells_sl0, cells_sl1, cells_sl2, cells_sl3, cells_sl4, Value.cells] using this
    rw [show ys[1]? = some (ys[1]'(by rw [hyl]; decide)) from List.getElem?_eq_getElem _] at f1
    obtain ⟨a1, l1, k1, rfl⟩ := slice_of Try.underlying22 f1
    obtain ⟨z1, w1⟩ := open_Ways ⟨_, f1⟩
    have f2 : DataW.trod enc Try.prog W base sp held n 24 [c2, c3] = ys[2]? := by have := hg 2 _ rfl; simpa [cellsInt, cellsRatio, cells_sl0, cells_sl1, cells_sl2, cells_sl3, cells_sl4, Value.cells] using this
    rw [show ys[2]? = some (ys[2]'(by rw [hyl]; decide)) from List.getElem?_eq_getElem _] at f2
    obtain ⟨u2, u3, rfl, rfl, w2, w3⟩ := ratio_cells f2
    have f3 : DataW.trod enc Try.prog W base sp held n 25 [c4] = ys[3]? := by have := hg 3 _ rfl; simpa [cellsInt, cellsRatio, cells_sl0, cells_sl1, cells_sl2, cells_sl3, cells_sl4, Value.cells] using this
    rw [show ys[3]? = some (ys[3]'(by rw [hyl]; decide)) from List.getElem?_eq_getElem _] at f3
    obtain ⟨a4, l4, k4, rfl⟩ := slice_of Try.underlying25 f3
    obtain ⟨z4, w4⟩ := open_Elements ⟨_, f3⟩
    have f4 : DataW.trod enc Try.prog W base sp held n 26 [c5] = ys[4]? := by have := hg 4 _ rfl; simpa [cellsInt, cellsRatio, cells_sl0, cells_sl1, cells_sl2, cells_sl3, cells_sl4, Value.cells] using this
    rw [show ys[4]? = some (ys[4]'(by rw [hyl]; decide)) from List.getElem?_eq_getElem _] at f4
    obtain ⟨a5, l5, k5, rfl⟩ := slice_of Try.underlying26 f4
    obtain ⟨z5, w5⟩ := open_Ratios ⟨_, f4⟩
    have f5 : DataW.trod enc Try.prog W base sp held n 26 [c6] = ys[5]? := by have := hg 5 _ rfl; simpa [cellsInt, cellsRatio, cells_sl0, cells_sl1, cells_sl2, cells_sl3, cells_sl4, Value.cells] using this
    rw [show ys[5]? = some (ys[5]'(by rw [hyl]; decide)) from List.getElem?_eq_getElem _] at f5
    obtain ⟨a6, l6, k6, rfl⟩ := slice_of Try.underlying26 f5
    obtain ⟨z6, w6⟩ := open_Ratios ⟨_, f5⟩
    have f6 : DataW.trod enc Try.prog W base sp held n 3 [c7] = ys[6]? := by have := hg 6 _ rfl; simpa [cellsInt, cellsRatio, cells_sl0, cells_sl1, cells_sl2, cells_sl3, cells_sl4, Value.cells] using this
    rw [show ys[6]? = some (ys[6]'(by rw [hyl]; decide)) from List.getElem?_eq_getElem _] at f6
    obtain ⟨u7, e7, _, w7⟩ := DataW.trod_int Try.underlying3 f6
    obtain rfl : c7 = .int .i64 u7 := by simpa using e7
    have f7 : DataW.trod enc Try.prog W base sp held n 3 [c8] = ys[7]? := by have := hg 7 _ rfl; simpa [cellsInt, cellsRatio, cells_sl0, cells_sl1, cells_sl2, cells_sl3, cells_sl4, Value.cells] using this
    rw [show ys[7]? = some (ys[7]'(by rw [hyl]; decide)) from List.getElem?_eq_getElem _] at f7
    obtain ⟨u8, e8, _, w8⟩ := DataW.trod_int Try.underlying3 f7
    obtain rfl : c8 = .int .i64 u8 := by simpa using e8
    have f8 : DataW.trod enc Try.prog W base sp held n 3 [c9] = ys[8]? := by have := hg 8 _ rfl; simpa [cellsInt, cellsRatio, cells_sl0, cells_sl1, cells_sl2, cells_sl3, cells_sl4, Value.cells] using this
    rw [show ys[8]? = some (ys[8]'(by rw [hyl]; decide)) from List.getElem?_eq_getElem _] at f8
    obtain ⟨u9, e9, _, w9⟩ := DataW.trod_int Try.underlying3 f8
    obtain rfl : c9 = .int .i64 u9 := by simpa using e9
    have f9 : DataW.trod enc Try.prog W base sp held n 3 [c10] = ys[9]? := by have := hg 9 _ rfl; simpa [cellsInt, cellsRatio, cells_sl0, cells_sl1, cells_sl2, cells_sl3, cells_sl4, Value.cells] using this
    rw [show ys[9]? = some (ys[9]'(by rw [hyl]; decide)) from List.getElem?_eq_getElem _] at f9
    obtain ⟨u10, e10, _, w10⟩ := DataW.trod_int Try.underlying3 f9
    obtain rfl : c10 = .int .i64 u10 := by simpa using e10
    have f10 : DataW.trod enc Try.prog W base sp held n 3 [c11] = ys[10]? := by have := hg 10 _ rfl; simpa [cellsInt, cellsRatio, cells_sl0, cells_sl1, cells_sl2, cells_sl3, cells_sl4, Value.cells] using this
    rw [show ys[10]? = some (ys[10]'(by rw [hyl]; decide)) from List.getElem?_eq_getElem _] at f10
    obtain ⟨u11, e11, _, w11⟩ := DataW.trod_int Try.underlying3 f10
    obtain rfl : c11 = .int .i64 u11 := by simpa using e11
    have f11 : DataW.trod enc Try.prog W base sp held n 3 [c12] = ys[11]? := by have := hg 11 _ rfl; simpa [cellsInt, cellsRatio, cells_sl0, cells_sl1, cells_sl2, cells_sl3, cells_sl4, Value.cells] using this
    rw [show ys[11]? = some (ys[11]'(by rw [hyl]; decide)) from List.getElem?_eq_getElem _] at f11
    obtain ⟨u12, e12, _, w12⟩ := DataW.trod_int Try.underlying3 f11
    obtain rfl : c12 = .int .i64 u12 := by simpa using e12
    have f12 : DataW.trod enc Try.prog W base sp held n 3 [c13] = ys[12]? := by have := hg 12 _ rfl; simpa [cellsInt, cellsRatio, cells_sl0, cells_sl1, cells_sl2, cells_sl3, cells_sl4, Value.cells] using this
    rw [show ys[12]? = some (ys[12]'(by rw [hyl]; decide)) from List.getElem?_eq_getElem _] at f12
    obtain ⟨u13, e13, _, w13⟩ := DataW.trod_int Try.underlying3 f12
    obtain rfl : c13 = .int .i64 u13 := by simpa using e13
    have f13 : DataW.trod enc Try.prog W base sp held n 3 [c14] = ys[13]? := by have := hg 13 _ rfl; simpa [cellsInt, cellsRatio, cells_sl0, cells_sl1, cells_sl2, cells_sl3, cells_sl4, Value.cells] using this
    rw [show ys[13]? = some (ys[13]'(by rw [hyl]; decide)) from List.getElem?_eq_getElem _] at f13
    obtain ⟨u14, e14, _, w14⟩ := DataW.trod_int Try.underlying3 f13
    obtain rfl : c14 = .int .i64 u14 := by simpa using e14
    have f14 : DataW.trod enc Try.prog W base sp held n 3 [c15] = ys[14]? := by have := hg 14 _ rfl; simpa [cellsInt, cellsRatio, cells_sl0, cells_sl1, cells_sl2, cells_sl3, cells_sl4, Value.cells] using this
    rw [show ys[14]? = some (ys[14]'(by rw [hyl]; decide)) from List.getElem?_eq_getElem _] at f14
    obtain ⟨u15, e15, _, w15⟩ := DataW.trod_int Try.underlying3 f14
    obtain rfl : c15 = .int .i64 u15 := by simpa using e15
    have f15 : DataW.trod enc Try.prog W base sp held n 3 [c16] = ys[15]? := by have := hg 15 _ rfl; simpa [cellsInt, cellsRatio, cells_sl0, cells_sl1, cells_sl2, cells_sl3, cells_sl4, Value.cells] using this
    rw [show ys[15]? = some (ys[15]'(by rw [hyl]; decide)) from List.getElem?_eq_getElem _] at f15
    obtain ⟨u16, e16, _, w16⟩ := DataW.trod_int Try.underlying3 f15
    obtain rfl : c16 = .int .i64 u16 := by simpa using e16
    have f16 : DataW.trod enc Try.prog W base sp held n 3 [c17] = ys[16]? := by have := hg 16 _ rfl; simpa [cellsInt, cellsRatio, cells_sl0, cells_sl1, cells_sl2, cells_sl3, cells_sl4, Value.cells] using this
    rw [show ys[16]? = some (ys[16]'(by rw [hyl]; decide)) from List.getElem?_eq_getElem _] at f16
    obtain ⟨u17, e17, _, w17⟩ := DataW.trod_int Try.underlying3 f16
    obtain rfl : c17 = .int .i64 u17 := by simpa using e17
    have f17 : DataW.trod enc Try.prog W base sp held n 27 [c18] = ys[17]? := by have := hg 17 _ rfl; simpa [cellsInt, cellsRatio, cells_sl0, cells_sl1, cells_sl2, cells_sl3, cells_sl4, Value.cells] using this
    rw [show ys[17]? = some (ys[17]'(by rw [hyl]; decide)) from List.getElem?_eq_getElem _] at f17
    obtain ⟨a18, l18, k18, rfl⟩ := slice_of Try.underlying27 f17
    obtain ⟨z18, w18⟩ := open_Ints ⟨_, f17⟩
    have f18 : DataW.trod enc Try.prog W base sp held n 3 [c19] = ys[18]? := by have := hg 18 _ rfl; simpa [cellsInt, cellsRatio, cells_sl0, cells_sl1, cells_sl2, cells_sl3, cells_sl4, Value.cells] using this
    rw [show ys[18]? = some (ys[18]'(by rw [hyl]; decide)) from List.getElem?_eq_getElem _] at f18
    obtain ⟨u19, e19, _, w19⟩ := DataW.trod_int Try.underlying3 f18
    obtain rfl : c19 = .int .i64 u19 := by simpa using e19
    have f19 : DataW.trod enc Try.prog W base sp held n 3 [c20] = ys[19]? := by have := hg 19 _ rfl; simpa [cellsInt, cellsRatio, cells_sl0, cells_sl1, cells_sl2, cells_sl3, cells_sl4, Value.cells] using this
    rw [show ys[19]? = some (ys[19]'(by rw [hyl]; decide)) from List.getElem?_eq_getElem _] at f19
    obtain ⟨u20, e20, _, w20⟩ := DataW.trod_int Try.underlying3 f19
    obtain rfl : c20 = .int .i64 u20 := by simpa using e20
    have f20 : DataW.trod enc Try.prog W base sp held n 3 [c21] = ys[20]? := by have := hg 20 _ rfl; simpa [cellsInt, cellsRatio, cells_sl0, cells_sl1, cells_sl2, cells_sl3, cells_sl4, Value.cells] using this
    rw [show ys[20]? = some (ys[20]'(by rw [hyl]; decide)) from List.getElem?_eq_getElem _] at f20
    obtain ⟨u21, e21, _, w21⟩ := DataW.trod_int Try.underlying3 f20
    obtain rfl : c21 = .int .i64 u21 := by simpa using e21
    have f21 : DataW.trod enc Try.prog W base sp held n 28 [c22] = ys[21]? := by have := hg 21 _ rfl; simpa [cellsInt, cellsRatio, cells_sl0, cells_sl1, cells_sl2, cells_sl3, cells_sl4, Value.cells] using this
    rw [show ys[21]? = some (ys[21]'(by rw [hyl]; decide)) from List.getElem?_eq_getElem _] at f21
    obtain ⟨a22, l22, k22, rfl⟩ := slice_of Try.underlying28 f21
    obtain ⟨z22, w22⟩ := open_Tiers ⟨_, f21⟩
    exact ⟨⟨u0, z1, u2, u3, z4, z5, z6, u7, u8, u9, u10, u11, u12, u13, u14, u15, u16, u17, z18, u19, u20, u21, z22⟩, ⟨a1, l1, k1, a4, l4, k4, a5, l5, k5, a6, l6, k6, a18, l18, k18, a22, l22, k22⟩, rfl, ⟨in_i64 w0, in_i64 w2, in_i64 w3, in_i64 w7, in_i64 w8, in_i64 w9, in_i64 w10, in_i64 w11, in_i64 w12, in_i64 w13, in_i64 w14, in_i64 w15, in_i64 w16, in_i64 w17, in_i64 w19, in_i64 w20, in_i64 w21, w1, w4, w5, w6, w18, w22⟩⟩

end Go.Proofs.Ytnjckaifgmliaaa

/- WHAT THE STATEMENTS' FRAMES SHARE: bytes that came in. -/

namespace Go.Proofs.Ytnjckaifgmliaaa
open Go.ChangeShapes Go.WideShapes Go.ChangeAt Go.RowKit Go.Joins Go.Deep Lu

set_option maxRecDepth 100000 in
theorem open_Bytes {H : Type} {enc : TypeId × Value → H} {W : World} {b0 base : Nat} {sp : Nat → Bool} {held : Bool} {r : Reach} {v : Value} {d : DataW H} {p : List MemPlace}
    (hv : Value.okWide Try.prog W r b0 31 v) (h : DataW.Trod enc Try.prog W base sp held 31 v d p) :
    ∃ a len cap bs, v = .slice a len cap ∧ Row8 W a len bs ∧ len ≤ cap ∧ ∀ b o, a = some ⟨b, o, none⟩ → b < W.heap.size := by
  obtain ⟨a, len, cap, rfl⟩ := okWide_slice Try.underlying31 hv
  simp only [Value.okWide, Try.underlying31, Cell.okWide, Cell.ok] at hv
  obtain ⟨fuel, hf⟩ := h
  rcases open_ints Try.underlying31 Try.underlying5 (by kernel_rfl) hf with ⟨hcs, _⟩ | ⟨x, l, c, zs, hcs, _, hl, hm, hz, _, hcell, hwz⟩
  · simp [Value.cells] at hcs
    obtain ⟨rfl, rfl, rfl⟩ := hcs
    exact ⟨none, 0, 0, [], rfl, Row8_nil W, Nat.le_refl _, fun b o h => by cases h⟩
  · simp [Value.cells] at hcs
    obtain ⟨rfl, rfl, rfl⟩ := hcs
    unfold maxLen at hm
    simp only at hv
    obtain ⟨_, _, _, hspot, row, cells, hsh, _⟩ := hv
    obtain ⟨b, off, spot⟩ := x
    simp only at hspot hsh
    subst hspot
    have hlt : b < W.heap.size := by
      unfold World.shape? at hsh
      apply Classical.byContradiction
      intro hn
      rw [Array.getElem?_eq_none (by omega)] at hsh
      simp at hsh
    have hz' : len ≤ zs.length := by rw [hz]; split <;> omega
    refine ⟨some ⟨b, off, none⟩, len, cap, zs.take len, rfl, ⟨by rw [List.length_take]; omega, by omega, fun z hzz => ?_, .inr ⟨b, off, rfl, fun i u hu => ?_⟩, fun h => by cases h⟩, hl, fun b' o' h => ?_⟩
    · exact in_u8 (hwz z (List.mem_of_mem_take hzz))
    · rw [List.getElem?_map, List.getElem?_take] at hu
      split at hu
      · rename_i hi
        have := hcell i (by omega)
        rw [Addr.add_lit] at this
        rw [this]
        rw [List.getElem?_eq_getElem (by omega)] at hu
        rw [List.getD_eq_getElem?_getD, List.getElem?_eq_getElem (by omega)]
        exact hu
      · simp at hu
    · simp only [Option.some.injEq, Addr.mk.injEq, and_true] at h
      omega
end Go.Proofs.Ytnjckaifgmliaaa

namespace Go.Proofs.Ytnjckaifgmliaaa.setupBack
open Go.ChangeShapes Go.WideShapes Go.ChangeAt Go.RowKit Lu

set_option maxRecDepth 100000 in
theorem lifted (os : Os) (started : os.Started) (H : Type) (enc : TypeId × Value → H) :
    ReturnsInHanded {} Try.checked os 4 .any (Rows.setupBackSpec.pre6 enc Try.prog Try.f4 Rows.setupBackRow.domain false) (Rows.setupBackSpec.post enc Try.prog Try.f4 false true false false) := by
  refine returnsInHanded_of_change (C := Try.checked) own started (by kernel_rfl) Try.func4
    (ChangeSpec.witness6 (enc := enc) (C := Try.checked) false ⟨#[], #[.agg #[.int .i64 0, .slice none 0 0, .int .i64 0, .int .i64 0, .slice none 0 0, .slice none 0 0, .slice none 0 0, .int .i64 0, .int .i64 0, .int .i64 0, .int .i64 0, .int .i64 0, .int .i64 0, .int .i64 0, .int .i64 0, .int .i64 0, .int .i64 0, .int .i64 0, .slice none 0 0, .int .i64 0, .int .i64 0, .int .i64 0, .slice none 0 0], .slice none 0 0], []⟩ 8 (by kernel_rfl) (by kernel_rfl) (by kernel_rfl) (by kernel_rfl)) ?_
  intro W base args ds gs before hval0 hW hcnd _
  have hval : ∀ (j : Nat) t v, Try.f4.params[j]? = some t → args[j]? = some v → Value.okWide Try.prog W .any base t v := hval0
  have hW' := hW
  obtain ⟨p, q, hA0, hV, rfl, hfz, hnd⟩ := hW
  have hA : DataW.TrodAll enc Try.prog W 0 (fun _ => true) true Try.f4.params.toList args.toList ds p := hA0
  rw [Try.params4] at hA hval
  obtain ⟨v0, vs0, d0, ds0, p0, q0, hargs, rfl, rfl, h0, r0⟩ := trodAll_cons hA
  obtain ⟨v1, vs1, d1, ds1, p1, q1, rfl, rfl, rfl, h1, r1⟩ := trodAll_cons r0
  obtain ⟨rfl, rfl, rfl⟩ := trodAll_nil r1
  obtain rfl : args = #[v0, v1] := by cases args; simp_all
  obtain ⟨rfl, rfl⟩ := trodVars_none hV
  have k0 := h0
  have lt0 : ∀ x ∈ p0, x.block < W.heap.size := by obtain ⟨m, hm⟩ := k0; exact DataW.trod_lt m _ _ _ hm
  obtain ⟨s0, q0, rfl, w0⟩ := open_Setup (hval 0 30 v0 rfl rfl) h0
  have k1 := h1
  have lt1 : ∀ x ∈ p1, x.block < W.heap.size := by obtain ⟨m, hm⟩ := k1; exact DataW.trod_lt m _ _ _ hm
  obtain ⟨a1, len1, cap1, z1, rfl, w1, x1, y1⟩ := open_Bytes (hval 1 31 v1 rfl rfl) h1
  clear hA0 hval0
  refine (setupBack_walk s0 q0 a1 len1 cap1 z1 W w0 w1 x1 y1).mono fun e W' ⟨he, bel⟩ => ?_
  subst he
  exact ⟨_, rfl, _, _, _, [], _, [], hW', trodAll_mk1 (shut_bool Try.underlying4 _), (trodAll_cons_mk (Below.trod laidOut (by kernel_rfl) (of_decide_eq_true (by kernel_rfl)) k0 bel lt0) (trodAll_cons_mk (Below.trod laidOut (by kernel_rfl) (of_decide_eq_true (by kernel_rfl)) k1 bel lt1) trodAll_mk0)), rfl, bel.frame _, fun h => by cases h⟩

theorem over : Rows.setupBackRow.holds Try.pinned (OpenSpec.ofChange Rows.setupBackSpec) :=
  OpenClaim.holds_of_wide 4 Try.f4 rfl rfl rfl rfl rfl rfl rfl ⟨rfl, rfl, rfl, rfl, rfl⟩ rfl rfl rfl rfl rfl (by kernel_rfl) Try.func4 (by kernel_rfl)
    (of_decide_eq_true (by kernel_rfl)) (by unfold Func.isWrapper; first | (rw [if_pos (by decide +kernel)]; kernel_rfl) | (rw [if_neg (by decide +kernel)]; exact ⟨rfl, rfl⟩))
    (fun os started H enc _ => lifted os started H enc)

/-- THE STATEMENT. -/
theorem proved : Rows.SetupBackSaid := over
end Go.Proofs.Ytnjckaifgmliaaa.setupBack
