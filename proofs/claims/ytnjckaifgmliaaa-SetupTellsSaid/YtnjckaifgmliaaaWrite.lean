/- THE WALK of setup.Write: a setup's bytes. -/
import Derived.Test.YtnjckaifgmliaaaPenSetup
set_option linter.unusedSimpArgs false
set_option linter.unusedVariables false
namespace Go.Proofs.Ytnjckaifgmliaaa
open Go.RowKit Lu

/-- What Write tells. -/
def Wrote (w : World) (s : Setup) (e : Ending) (w' : World) : Prop :=
  ∃ a n c bs er, e = .returned (.tuple #[.slice a n c, .int .i64 er]) ∧ writeP s = (bs, er) ∧ Row8 w' a n bs ∧ n ≤ c ∧ Below w.heap.size w w'
set_option maxRecDepth 100000 in
set_option maxHeartbeats 1000000 in
theorem setup_Write (s : Setup) (q : Slices) (w : World) (h : SetupIs w s q) : Calls Try.prog 15 #[.agg #[.int .i64 s.places, .slice q.wa q.wl q.wc, .int .i64 s.pn, .int .i64 s.pd, .slice q.ea q.el q.ec, .slice q.ca q.cl q.cc, .slice q.ga q.gl q.gc, .int .i64 s.allow, .int .i64 s.unit, .int .i64 s.cap, .int .i64 s.paidBreak, .int .i64 s.autoAfter, .int .i64 s.autoBreak, .int .i64 s.dayReg, .int .i64 s.dayOver, .int .i64 s.weekReg, .int .i64 s.nightFrom, .int .i64 s.nightTo, .slice q.ra q.rl q.rc, .int .i64 s.diff, .int .i64 s.least, .int .i64 s.fault, .slice q.ta q.tl q.tc]] w (Wrote w s) := by
  have hb : (w.alloc (.cells #[.int .i64 s.places, .slice q.wa q.wl q.wc, .int .i64 s.pn, .int .i64 s.pd, .slice q.ea q.el q.ec, .slice q.ca q.cl q.cc, .slice q.ga q.gl q.gc, .int .i64 s.allow, .int .i64 s.unit, .int .i64 s.cap, .int .i64 s.paidBreak, .int .i64 s.autoAfter, .int .i64 s.autoBreak, .int .i64 s.dayReg, .int .i64 s.dayOver, .int .i64 s.weekReg, .int .i64 s.nightFrom, .int .i64 s.nightTo, .slice q.ra q.rl q.rc, .int .i64 s.diff, .int .i64 s.least, .int .i64 s.fault, .slice q.ta q.tl q.tc] 30)).heap[w.heap.size]? = some (.cells #[.int .i64 s.places, .slice q.wa q.wl q.wc, .int .i64 s.pn, .int .i64 s.pd, .slice q.ea q.el q.ec, .slice q.ca q.cl q.cc, .slice q.ga q.gl q.gc, .int .i64 s.allow, .int .i64 s.unit, .int .i64 s.cap, .int .i64 s.paidBreak, .int .i64 s.autoAfter, .int .i64 s.autoBreak, .int .i64 s.dayReg, .int .i64 s.dayOver, .int .i64 s.weekReg, .int .i64 s.nightFrom, .int .i64 s.nightTo, .slice q.ra q.rl q.rc, .int .i64 s.diff, .int .i64 s.least, .int .i64 s.fault, .slice q.ta q.tl q.tc] 30) := box_new w _ rfl _ _
  have B0 : Below w.heap.size w (w.alloc (.cells #[.int .i64 s.places, .slice q.wa q.wl q.wc, .int .i64 s.pn, .int .i64 s.pd, .slice q.ea q.el q.ec, .slice q.ca q.cl q.cc, .slice q.ga q.gl q.gc, .int .i64 s.allow, .int .i64 s.unit, .int .i64 s.cap, .int .i64 s.paidBreak, .int .i64 s.autoAfter, .int .i64 s.autoBreak, .int .i64 s.dayReg, .int .i64 s.dayOver, .int .i64 s.weekReg, .int .i64 s.nightFrom, .int .i64 s.nightTo, .slice q.ra q.rl q.rc, .int .i64 s.diff, .int .i64 s.least, .int .i64 s.fault, .slice q.ta q.tl q.tc] 30)) := by go_grown
  obtain ⟨c, hc⟩ : ∃ c, setupP s = c := ⟨_, rfl⟩
  have HC := Lib.hid hc
  clear hc
  go_enter Try.func15, Try.ntmps15
  go_wp2_with (refine wpList_load_box 30 (.tmp 1) rfl rfl w.heap.size rfl 30 #[.int .i64 s.places, .slice q.wa q.wl q.wc, .int .i64 s.pn, .int .i64 s.pd, .slice q.ea q.el q.ec, .slice q.ca q.cl q.cc, .slice q.ga q.gl q.gc, .int .i64 s.allow, .int .i64 s.unit, .int .i64 s.cap, .int .i64 s.paidBreak, .int .i64 s.autoAfter, .int .i64 s.autoBreak, .int .i64 s.dayReg, .int .i64 s.dayOver, .int .i64 s.weekReg, .int .i64 s.nightFrom, .int .i64 s.nightTo, .slice q.ra q.rl q.rc, .int .i64 s.diff, .int .i64 s.least, .int .i64 s.fault, .slice q.ta q.tl q.tc] hb setup_big ?_)
  refine (setup_Check s q c _ (h.below B0) HC.out).mono ?_
  rintro e1 w1 ⟨rfl, k1⟩
  replace hb := box_keep k1 hb (block_lt hb)
  replace B0 := B0.trans (k1.mono B0.size)
  clear k1
  cases c
  · go_wp2_with fail
    refine bodyPost_ret (v := .tuple #[.slice none 0 0, .int .i64 70]) (by simp [results, Try.results15, go_sem]) rfl ⟨none, 0, 0, [], 70, rfl, writeP_no HC.out, Row8_nil _, Nat.le_refl _, B0⟩
  · have hlt := block_lt hb
    have hH : (w1.alloc (.cells #[.slice none 0 0, .bool false] 62)).heap[w1.heap.size]? = some (.cells #[.slice none 0 0, .bool false] 62) := box_new w1 _ rfl _ _
    have hp : PenIs (w1.alloc (.cells #[.slice none 0 0, .bool false] 62)) w1.heap.size [] := ⟨none, 0, 0, false, hH, Row8_nil _, (fun b o hb0 => by cases hb0), Nat.le_refl _⟩
    have k2 : Below w1.heap.size w1 (w1.alloc (.cells #[.slice none 0 0, .bool false] 62)) := by go_grown
    have KEY := Lib.hid (pen_setup s q w1.heap.size w.heap.size _ ((h.below B0).below k2) HC.out hp (box_keep k2 hb hlt) (by omega))
    have B2 := B0.trans (k2.mono B0.size)
    clear hp k2 hH
    go_wp2_with fail
    refine KEY.out.mono ?_
    rintro e2 w2 ⟨rfl, ⟨a, n, cc, ok, hH, hrow, _, hcap⟩, ho⟩
    have g0 : w2.cell? ⟨w1.heap.size, 0, none⟩ = some (.slice a n cc) := by simp [World.cell?, hH]
    have B3 : Below w.heap.size w w2 := B2.trans (ho.below B0.size B2.size)
    clear KEY hH hb
    go_wp2_with fail
    refine bodyPost_ret (v := .tuple #[.slice a n cc, .int .i64 0]) (by simp [results, Try.results15, go_sem]) rfl ⟨a, n, cc, _, 0, rfl, writeP_yes HC.out, hrow, hcap, B3⟩
end Go.Proofs.Ytnjckaifgmliaaa
