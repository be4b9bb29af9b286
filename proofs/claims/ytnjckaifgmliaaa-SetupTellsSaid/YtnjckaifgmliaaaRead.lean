/- THE WALK of setup.Read: the setup of bytes. -/
import Derived.Test.YtnjckaifgmliaaaWhole
import Derived.Test.YtnjckaifgmliaaaEyeSetup
import Derived.Test.YtnjckaifgmliaaaWrite
set_option linter.unusedSimpArgs false
set_option linter.unusedVariables false
namespace Go.Proofs.Ytnjckaifgmliaaa
open Go.RowKit Lu

/-- A setup that was told: its cells. -/
def setupV (s : Setup) (q : Slices) : Value := .agg #[.int .i64 s.places, .slice q.wa q.wl q.wc, .int .i64 s.pn, .int .i64 s.pd, .slice q.ea q.el q.ec, .slice q.ca q.cl q.cc, .slice q.ga q.gl q.gc, .int .i64 s.allow, .int .i64 s.unit, .int .i64 s.cap, .int .i64 s.paidBreak, .int .i64 s.autoAfter, .int .i64 s.autoBreak, .int .i64 s.dayReg, .int .i64 s.dayOver, .int .i64 s.weekReg, .int .i64 s.nightFrom, .int .i64 s.nightTo, .slice q.ra q.rl q.rc, .int .i64 s.diff, .int .i64 s.least, .int .i64 s.fault, .slice q.ta q.tl q.tc]
/-- Lists' lengths, and how many find room. -/
def QCap (q : Slices) : Prop := q.wl ≤ q.wc ∧ q.el ≤ q.ec ∧ q.cl ≤ q.cc ∧ q.gl ≤ q.gc ∧ q.rl ≤ q.rc ∧ q.tl ≤ q.tc
/-- What Read tells. -/
def ReadSays (w : World) (bs : List Int) (e : Ending) (w' : World) : Prop :=
  ∃ s q er, e = .returned (.tuple #[.agg #[.int .i64 s.places, .slice q.wa q.wl q.wc, .int .i64 s.pn, .int .i64 s.pd, .slice q.ea q.el q.ec, .slice q.ca q.cl q.cc, .slice q.ga q.gl q.gc, .int .i64 s.allow, .int .i64 s.unit, .int .i64 s.cap, .int .i64 s.paidBreak, .int .i64 s.autoAfter, .int .i64 s.autoBreak, .int .i64 s.dayReg, .int .i64 s.dayOver, .int .i64 s.weekReg, .int .i64 s.nightFrom, .int .i64 s.nightTo, .slice q.ra q.rl q.rc, .int .i64 s.diff, .int .i64 s.least, .int .i64 s.fault, .slice q.ta q.tl q.tc], .int .i64 er]) ∧ readP bs = (s, er) ∧ SetupIs w' s q ∧ Below w.heap.size w w'
theorem setupIs_no (w : World) : SetupIs w noSetup ⟨none, 0, 0, none, 0, 0, none, 0, 0, none, 0, 0, none, 0, 0, none, 0, 0⟩ :=
  ⟨in_zero, in_zero, in_zero, in_zero, in_zero, in_zero, in_zero, in_zero, in_zero, in_zero, in_zero, in_zero, in_zero, in_zero, in_zero, in_zero, in_zero, ⟨rfl, by decide, fun r hr => by simp [noSetup] at hr, .inl rfl⟩, ⟨rfl, by decide, fun r hr => by simp [noSetup] at hr, .inl rfl⟩, ⟨rfl, by decide, fun r hr => by simp [noSetup] at hr, .inl rfl⟩, ⟨rfl, by decide, fun r hr => by simp [noSetup] at hr, .inl rfl⟩, ⟨rfl, by decide, fun r hr => by simp [noSetup] at hr, .inl rfl⟩, ⟨rfl, by decide, fun r hr => by simp [noSetup] at hr, .inl rfl⟩⟩
theorem results_two {fn : Func} {a b : Tmp} {t : TypeId} (h : fn.results = #[.cell a t, .tmp b]) (tmps : Array Value) (P : Program) (w : World) (p : Addr) (v u : Value) (hp : tmps.getD a undef = .pointer (some p)) (hl : (loadVar t p).run P w = .ok v w) (hu : tmps.getD b undef = u) :
    (results fn tmps).run P w = .ok (.tuple #[v, u]) w := by
  have hp' : tmps[a]?.getD undef = .pointer (some p) := by simpa using hp
  have hu' : tmps[b]?.getD undef = u := by simpa using hu
  simp [results, h, hp', hu', asAddr, hl]
theorem load_setup {w : World} {b : Nat} {cs : Array Value} {t : TypeId} (h : w.heap[b]? = some (.cells cs t)) (hs : cs.size = 23) : (loadVar 30 ⟨b, 0, none⟩).run Try.prog w = .ok (.agg cs) w :=
  run_loadVar_row w b t 30 cs _ _ h Try.underlying30 rfl (by rw [hs]; exact setup_size)
theorem wpList_build_is {P : Program} {ops : Array Oper} {rest : List Oper} {o : Oper} {a : Act} {w : World} {Q : Exit → Act → World → Prop} (hg : o.guard = none) (t : TypeId) (ho : o.op = .build t #[])
    (cells : Array Value) (hc : P.built t [] = some cells) (h : wpList P ops Q rest (a.put o.dst (.agg cells)) w) : wpList P ops Q (o :: rest) a w := by
  have e : (P.built t ((#[] : Array (Nat × Operand)).map fun (i, x) => (i, a.eval x)).toList) = some cells := by simpa using hc
  refine wpList_build hg t #[] ho (by rw [e]; rfl) ?_
  rw [e]
  exact h
theorem built_setup : Try.prog.built 30 [] = some #[.int .i64 0, .slice none 0 0, .int .i64 0, .int .i64 0, .slice none 0 0, .slice none 0 0, .slice none 0 0, .int .i64 0, .int .i64 0, .int .i64 0, .int .i64 0, .int .i64 0, .int .i64 0, .int .i64 0, .int .i64 0, .int .i64 0, .int .i64 0, .int .i64 0, .slice none 0 0, .int .i64 0, .int .i64 0, .int .i64 0, .slice none 0 0] := by kernel_rfl
theorem setup_of_eye' {W : World} {X : List Nat} {b : List Int} {q : Slices} {s : Setup} {t : Option (List Int)} (hE : eyeS b = (s, t)) (hb : Bytes b) (h1 : GrpX W X q.wa q.wl 3 (eye1 b).1) (h3 : GrpX W X q.ea q.el 4 (eye3 b).1) (h4 : GrpX W X q.ca q.cl 2 (eye4 b).1) (h5 : GrpX W X q.ga q.gl 2 (eye5 b).1) (h7 : GrpX W X q.ra q.rl 1 (eye7 b).1) (h9 : GrpX W X q.ta q.tl 2 (eye9 b).1)
    (m : q.wl ≤ 64 ∧ q.el ≤ 64 ∧ q.cl ≤ 64 ∧ q.gl ≤ 64 ∧ q.rl ≤ 64 ∧ q.tl ≤ 64) : SetupIs W s q := by
  have := setup_of_eye hb h1 h3 h4 h5 h7 h9 m
  rw [hE] at this
  exact this
theorem noSetup_says {w W : World} {bs : List Int} (h : readP bs = (noSetup, 70)) (k : Below w.heap.size w W) : ReadSays w bs (.returned (.tuple #[.agg #[.int .i64 0, .slice none 0 0, .int .i64 0, .int .i64 0, .slice none 0 0, .slice none 0 0, .slice none 0 0, .int .i64 0, .int .i64 0, .int .i64 0, .int .i64 0, .int .i64 0, .int .i64 0, .int .i64 0, .int .i64 0, .int .i64 0, .int .i64 0, .int .i64 0, .slice none 0 0, .int .i64 0, .int .i64 0, .int .i64 0, .slice none 0 0], .int .i64 70])) W :=
  ⟨noSetup, ⟨none, 0, 0, none, 0, 0, none, 0, 0, none, 0, 0, none, 0, 0, none, 0, 0⟩, 70, rfl, h, setupIs_no W, k⟩
set_option maxRecDepth 100000 in
set_option maxHeartbeats 4000000 in
theorem setup_Read (a : Option Addr) (len cap : Nat) (bs : List Int) (w : World) (h : Row8 w a len bs) (hl : len ≤ 1000000) (hcap : len ≤ cap) (hblk : ∀ b o, a = some ⟨b, o, none⟩ → b < w.heap.size) :
    Calls Try.prog 17 #[.slice a len cap] w (ReadSays w bs) := by
  have hby := h.2.2.1
  have k0 : Below w.heap.size w ((w.alloc (.cells #[.int .i64 0, .slice none 0 0, .int .i64 0, .int .i64 0, .slice none 0 0, .slice none 0 0, .slice none 0 0, .int .i64 0, .int .i64 0, .int .i64 0, .int .i64 0, .int .i64 0, .int .i64 0, .int .i64 0, .int .i64 0, .int .i64 0, .int .i64 0, .int .i64 0, .slice none 0 0, .int .i64 0, .int .i64 0, .int .i64 0, .slice none 0 0] 30)).alloc (.cells #[.slice a len cap, .bool true] 68)) := by go_grown
  have hS0 : ((w.alloc (.cells #[.int .i64 0, .slice none 0 0, .int .i64 0, .int .i64 0, .slice none 0 0, .slice none 0 0, .slice none 0 0, .int .i64 0, .int .i64 0, .int .i64 0, .int .i64 0, .int .i64 0, .int .i64 0, .int .i64 0, .int .i64 0, .int .i64 0, .int .i64 0, .int .i64 0, .slice none 0 0, .int .i64 0, .int .i64 0, .int .i64 0, .slice none 0 0] 30)).alloc (.cells #[.slice a len cap, .bool true] 68)).heap[w.heap.size]? = some (.cells [.int .i64 0, .slice none 0 0, .int .i64 0, .int .i64 0, .slice none 0 0, .slice none 0 0, .slice none 0 0, .int .i64 0, .int .i64 0, .int .i64 0, .int .i64 0, .int .i64 0, .int .i64 0, .int .i64 0, .int .i64 0, .int .i64 0, .int .i64 0, .int .i64 0, .slice none 0 0, .int .i64 0, .int .i64 0, .int .i64 0, .slice none 0 0].toArray 30) :=
    box_keep (w := w.alloc (.cells #[.int .i64 0, .slice none 0 0, .int .i64 0, .int .i64 0, .slice none 0 0, .slice none 0 0, .slice none 0 0, .int .i64 0, .int .i64 0, .int .i64 0, .int .i64 0, .int .i64 0, .int .i64 0, .int .i64 0, .int .i64 0, .int .i64 0, .int .i64 0, .int .i64 0, .slice none 0 0, .int .i64 0, .int .i64 0, .int .i64 0, .slice none 0 0] 30)) (B := w.heap.size + 1) ((Below.refl _ _).alloc (by simp) _) (box_new w _ rfl _ _) (by omega)
  have hH0 : ((w.alloc (.cells #[.int .i64 0, .slice none 0 0, .int .i64 0, .int .i64 0, .slice none 0 0, .slice none 0 0, .slice none 0 0, .int .i64 0, .int .i64 0, .int .i64 0, .int .i64 0, .int .i64 0, .int .i64 0, .int .i64 0, .int .i64 0, .int .i64 0, .int .i64 0, .int .i64 0, .slice none 0 0, .int .i64 0, .int .i64 0, .int .i64 0, .slice none 0 0] 30)).alloc (.cells #[.slice a len cap, .bool true] 68)).heap[w.heap.size + 1]? = some (.cells #[.slice a len cap, .bool true] 68) := box_new _ _ (by simp) _ _
  have hp : EyeIs ((w.alloc (.cells #[.int .i64 0, .slice none 0 0, .int .i64 0, .int .i64 0, .slice none 0 0, .slice none 0 0, .slice none 0 0, .int .i64 0, .int .i64 0, .int .i64 0, .int .i64 0, .int .i64 0, .int .i64 0, .int .i64 0, .int .i64 0, .int .i64 0, .int .i64 0, .int .i64 0, .slice none 0 0, .int .i64 0, .int .i64 0, .int .i64 0, .slice none 0 0] 30)).alloc (.cells #[.slice a len cap, .bool true] 68)) (w.heap.size + 1) [w.heap.size + 1, w.heap.size] (some bs) :=
    ⟨a, len, cap, true, bs, hH0, h.below k0, hcap, hl, fun b o hb => ⟨by have := hblk b o hb; simp; omega, by have := hblk b o hb; simp; omega⟩, fun x hx => by simp at hx; rcases hx with rfl | rfl <;> (simp; try omega), rfl⟩
  have KEY := Lib.hid (eye_setup (w.heap.size + 1) w.heap.size 30 [w.heap.size + 1, w.heap.size] bs _ hp (by simp) hS0 (by simp) (by omega))
  have K0 := Lib.hid k0
  have HBY := Lib.hid hby
  clear h hp hS0 hH0 k0 hby hblk
  go_enter Try.func17, Try.ntmps17
  go_wp2_with fail
  refine KEY.out.mono ?_
  rintro e1 w1 ⟨rfl, q, he, ho, hS, g1, g3, g4, g5, g7, g9, c1, c3, c4, c5, c7, c9, m⟩
  have hset := setup_of_eye (W := w1) (q := q) HBY.out g1 g3 g4 g5 g7 g9 m
  have B1 : Below w.heap.size w w1 := K0.out.trans (ho.below (by omega) (by omega) (by simp; omega))
  have hread : readP bs = if (eyeS bs).2 = some [] ∧ setupP (eyeS bs).1 = true then ((eyeS bs).1, 0) else (noSetup, 70) := rfl
  obtain ⟨⟨s, t⟩, hE⟩ : ∃ p, eyeS bs = p := ⟨_, rfl⟩
  rw [hE] at he hS hset hread
  simp only at he hS hset hread
  have HE := Lib.hid hE
  clear hE
  have G := Lib.hid (And.intro g1 (And.intro g3 (And.intro g4 (And.intro g5 (And.intro g7 (And.intro g9 m))))))
  clear KEY ho g1 g3 g4 g5 g7 g9 m c1 c3 c4 c5 c7 c9
  obtain ⟨a', n', c', ok, bs', hH, hrow, hnc, _, _, _, hst⟩ := he
  have q0 : w1.cell? ⟨w.heap.size + 1, 0, none⟩ = some (.slice a' n' c') := by simp [World.cell?, hH]
  have q1 : w1.cell? ⟨w.heap.size + 1, 1, none⟩ = some (.bool ok) := by simp [World.cell?, hH]
  have zl := B1.size
  have hH1 := block_lt hH
  have hS1 := block_lt hS
  have hn' := hrow.1
  have HROW := Lib.hid hrow
  have HST := Lib.hid hst
  have HR := Lib.hid hread
  have HSET := Lib.hid hset
  have HS := Lib.hid hS
  clear hst hread hrow hset hH
  have fail_ : ∀ (W : World), t ≠ some [] ∨ setupP s = false → Below w.heap.size w W → ReadSays w bs (.returned (.tuple #[.agg #[.int .i64 0, .slice none 0 0, .int .i64 0, .int .i64 0, .slice none 0 0, .slice none 0 0, .slice none 0 0, .int .i64 0, .int .i64 0, .int .i64 0, .int .i64 0, .int .i64 0, .int .i64 0, .int .i64 0, .int .i64 0, .int .i64 0, .int .i64 0, .int .i64 0, .slice none 0 0, .int .i64 0, .int .i64 0, .int .i64 0, .slice none 0 0], .int .i64 70])) W := fun W hc k =>
    noSetup_says (by rw [HR.out, if_neg]; rintro ⟨x, y⟩; rcases hc with hc | hc; exact hc x; rw [hc] at y; cases y) k
  have FAIL := Lib.hid fail_
  clear fail_
  cases ok
  · have hne : t ≠ some [] := by rw [HST.out]; simp
    clear hn'
    go_upto_region 4 with fail
    go_step
    refine wpList_build_is rfl 30 rfl _ built_setup ?_
    try simp only [Act.put, List.setIfInBounds_toArray, List.set_cons_zero, List.set_cons_succ]
    refine wpList_store_block rfl 30 (.tmp 2) (.tmp 26) rfl w.heap.size _ #[.int .i64 0, .slice none 0 0, .int .i64 0, .int .i64 0, .slice none 0 0, .slice none 0 0, .slice none 0 0, .int .i64 0, .int .i64 0, .int .i64 0, .int .i64 0, .int .i64 0, .int .i64 0, .int .i64 0, .int .i64 0, .int .i64 0, .int .i64 0, .int .i64 0, .slice none 0 0, .int .i64 0, .int .i64 0, .int .i64 0, .slice none 0 0] _ HS.out rfl rfl rfl setup_size (by kernel_rfl) ?_
    intro W oW sW
    go_wp2_with fail
    refine bodyPost_ret (v := .tuple #[.agg #[.int .i64 0, .slice none 0 0, .int .i64 0, .int .i64 0, .slice none 0 0, .slice none 0 0, .slice none 0 0, .int .i64 0, .int .i64 0, .int .i64 0, .int .i64 0, .int .i64 0, .int .i64 0, .int .i64 0, .int .i64 0, .int .i64 0, .int .i64 0, .int .i64 0, .slice none 0 0, .int .i64 0, .int .i64 0, .int .i64 0, .slice none 0 0], .int .i64 70]) (results_two Try.results17 _ _ _ _ _ _ rfl (load_setup sW rfl) rfl) rfl (FAIL.out W (.inl hne) (B1.trans (oW.below (Nat.le_refl _) B1.size)))
  · by_cases hn0 : n' = 0
    · have ht : t = some [] := by
        rw [HST.out, if_pos rfl, List.eq_nil_of_length_eq_zero (hn'.trans hn0)]
      subst hn0
      have HT := Lib.hid ht
      obtain ⟨r, hr⟩ : ∃ r, setupP s = r := ⟨_, rfl⟩
      have HRR := Lib.hid hr
      clear hn' ht hr
      go_wp2_with (refine wpList_load_box 30 (.tmp 2) rfl rfl w.heap.size rfl 30 #[.int .i64 s.places, .slice q.wa q.wl q.wc, .int .i64 s.pn, .int .i64 s.pd, .slice q.ea q.el q.ec, .slice q.ca q.cl q.cc, .slice q.ga q.gl q.gc, .int .i64 s.allow, .int .i64 s.unit, .int .i64 s.cap, .int .i64 s.paidBreak, .int .i64 s.autoAfter, .int .i64 s.autoBreak, .int .i64 s.dayReg, .int .i64 s.dayOver, .int .i64 s.weekReg, .int .i64 s.nightFrom, .int .i64 s.nightTo, .slice q.ra q.rl q.rc, .int .i64 s.diff, .int .i64 s.least, .int .i64 s.fault, .slice q.ta q.tl q.tc] HS.out setup_big ?_)
      refine (setup_Check s q r _ HSET.out HRR.out).mono ?_
      rintro e2 w2 ⟨rfl, k2⟩
      have hS2 := box_keep k2 HS.out hS1
      have HS2 := Lib.hid hS2
      have B2 := B1.trans (k2.mono B1.size)
      have HSET2 := Lib.hid (HSET.out.below k2)
      have G2 := Lib.hid k2
      clear hS2 k2
      cases r
      · skip
        go_upto_region 4 with fail
        go_step
        refine wpList_build_is rfl 30 rfl _ built_setup ?_
        try simp only [Act.put, List.setIfInBounds_toArray, List.set_cons_zero, List.set_cons_succ]
        refine wpList_store_block rfl 30 (.tmp 2) (.tmp 26) rfl w.heap.size _ #[.int .i64 0, .slice none 0 0, .int .i64 0, .int .i64 0, .slice none 0 0, .slice none 0 0, .slice none 0 0, .int .i64 0, .int .i64 0, .int .i64 0, .int .i64 0, .int .i64 0, .int .i64 0, .int .i64 0, .int .i64 0, .int .i64 0, .int .i64 0, .int .i64 0, .slice none 0 0, .int .i64 0, .int .i64 0, .int .i64 0, .slice none 0 0] _ HS2.out rfl rfl rfl setup_size (by kernel_rfl) ?_
        intro W oW sW
        go_wp2_with fail
        refine bodyPost_ret (v := .tuple #[.agg #[.int .i64 0, .slice none 0 0, .int .i64 0, .int .i64 0, .slice none 0 0, .slice none 0 0, .slice none 0 0, .int .i64 0, .int .i64 0, .int .i64 0, .int .i64 0, .int .i64 0, .int .i64 0, .int .i64 0, .int .i64 0, .int .i64 0, .int .i64 0, .int .i64 0, .slice none 0 0, .int .i64 0, .int .i64 0, .int .i64 0, .slice none 0 0], .int .i64 70]) (results_two Try.results17 _ _ _ _ _ _ rfl (load_setup sW rfl) rfl) rfl (FAIL.out W (.inr HRR.out) (B2.trans (oW.below (Nat.le_refl _) B2.size)))
      · go_upto_region 5 with fail
        go_step
        refine wpList_load_box 30 (.tmp 2) rfl rfl w.heap.size rfl 30 #[.int .i64 s.places, .slice q.wa q.wl q.wc, .int .i64 s.pn, .int .i64 s.pd, .slice q.ea q.el q.ec, .slice q.ca q.cl q.cc, .slice q.ga q.gl q.gc, .int .i64 s.allow, .int .i64 s.unit, .int .i64 s.cap, .int .i64 s.paidBreak, .int .i64 s.autoAfter, .int .i64 s.autoBreak, .int .i64 s.dayReg, .int .i64 s.dayOver, .int .i64 s.weekReg, .int .i64 s.nightFrom, .int .i64 s.nightTo, .slice q.ra q.rl q.rc, .int .i64 s.diff, .int .i64 s.least, .int .i64 s.fault, .slice q.ta q.tl q.tc] HS2.out setup_big ?_
        try simp only [Act.put, List.setIfInBounds_toArray, List.set_cons_zero, List.set_cons_succ]
        refine wpList_store_block rfl 30 (.tmp 2) (.tmp 27) rfl w.heap.size _ #[.int .i64 s.places, .slice q.wa q.wl q.wc, .int .i64 s.pn, .int .i64 s.pd, .slice q.ea q.el q.ec, .slice q.ca q.cl q.cc, .slice q.ga q.gl q.gc, .int .i64 s.allow, .int .i64 s.unit, .int .i64 s.cap, .int .i64 s.paidBreak, .int .i64 s.autoAfter, .int .i64 s.autoBreak, .int .i64 s.dayReg, .int .i64 s.dayOver, .int .i64 s.weekReg, .int .i64 s.nightFrom, .int .i64 s.nightTo, .slice q.ra q.rl q.rc, .int .i64 s.diff, .int .i64 s.least, .int .i64 s.fault, .slice q.ta q.tl q.tc] _ HS2.out rfl rfl rfl setup_size (by kernel_rfl) ?_
        intro W oW sW
        go_wp2_with fail
        refine bodyPost_ret (v := .tuple #[.agg #[.int .i64 s.places, .slice q.wa q.wl q.wc, .int .i64 s.pn, .int .i64 s.pd, .slice q.ea q.el q.ec, .slice q.ca q.cl q.cc, .slice q.ga q.gl q.gc, .int .i64 s.allow, .int .i64 s.unit, .int .i64 s.cap, .int .i64 s.paidBreak, .int .i64 s.autoAfter, .int .i64 s.autoBreak, .int .i64 s.dayReg, .int .i64 s.dayOver, .int .i64 s.weekReg, .int .i64 s.nightFrom, .int .i64 s.nightTo, .slice q.ra q.rl q.rc, .int .i64 s.diff, .int .i64 s.least, .int .i64 s.fault, .slice q.ta q.tl q.tc], .int .i64 0]) (results_two Try.results17 _ _ _ _ _ _ rfl (load_setup sW rfl) rfl) rfl ?_
        refine ⟨s, q, 0, rfl, ?_, ?_, B2.trans (oW.below (Nat.le_refl _) B2.size)⟩
        · rw [HR.out, if_pos ⟨HT.out, HRR.out⟩]
        · obtain ⟨g1, g3, g4, g5, g7, g9, m⟩ := G.out
          have o2 : Off2 w.heap.size w.heap.size w1 W := (Off.trans (Below.off G2.out) oW).two
          exact setup_of_eye' HE.out HBY.out (g1.off2 o2 (by simp) (by simp)) (g3.off2 o2 (by simp) (by simp)) (g4.off2 o2 (by simp) (by simp)) (g5.off2 o2 (by simp) (by simp)) (g7.off2 o2 (by simp) (by simp)) (g9.off2 o2 (by simp) (by simp)) m
    · have hne : t ≠ some [] := by
        rw [HST.out, if_pos rfl]
        intro z
        simp only [Option.some.injEq] at z
        rw [z] at hn'
        exact hn0 hn'.symm
      have hp0 : (0 : Int) < (n' : Int) := by omega
      have hp1 : 0 < n' := by omega
      clear hn'
      go_upto_region 4 with fail
      go_step
      refine wpList_build_is rfl 30 rfl _ built_setup ?_
      try simp only [Act.put, List.setIfInBounds_toArray, List.set_cons_zero, List.set_cons_succ]
      refine wpList_store_block rfl 30 (.tmp 2) (.tmp 26) rfl w.heap.size _ #[.int .i64 0, .slice none 0 0, .int .i64 0, .int .i64 0, .slice none 0 0, .slice none 0 0, .slice none 0 0, .int .i64 0, .int .i64 0, .int .i64 0, .int .i64 0, .int .i64 0, .int .i64 0, .int .i64 0, .int .i64 0, .int .i64 0, .int .i64 0, .int .i64 0, .slice none 0 0, .int .i64 0, .int .i64 0, .int .i64 0, .slice none 0 0] _ HS.out rfl rfl rfl setup_size (by kernel_rfl) ?_
      intro W oW sW
      go_wp2_with fail
      refine bodyPost_ret (v := .tuple #[.agg #[.int .i64 0, .slice none 0 0, .int .i64 0, .int .i64 0, .slice none 0 0, .slice none 0 0, .slice none 0 0, .int .i64 0, .int .i64 0, .int .i64 0, .int .i64 0, .int .i64 0, .int .i64 0, .int .i64 0, .int .i64 0, .int .i64 0, .int .i64 0, .int .i64 0, .slice none 0 0, .int .i64 0, .int .i64 0, .int .i64 0, .slice none 0 0], .int .i64 70]) (results_two Try.results17 _ _ _ _ _ _ rfl (load_setup sW rfl) rfl) rfl (FAIL.out W (.inl hne) (B1.trans (oW.below (Nat.le_refl _) B1.size)))
end Go.Proofs.Ytnjckaifgmliaaa
