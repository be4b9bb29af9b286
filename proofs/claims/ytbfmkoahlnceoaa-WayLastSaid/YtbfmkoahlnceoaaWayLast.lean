/- THE WALK of WayLast: it returns true, and turns nothing that was there. -/
import Derived.Test.YtbfmkoahlnceoaaWayTurns
import Derived.Deep.DeepCutAuto
set_option linter.unusedSimpArgs false
set_option linter.unusedVariables false
namespace Go.Proofs.Ytbfmkoahlnceoaa
open Go.RowKit Lu

/-! ### The plain side: what is least over the last way -/
def lastHalf (row l : Nat → Int) (u v : Nat) (m : Int) : Nat → Int := if 0 ≤ row u ∧ (l v < 0 ∨ row u + m < l v) then put l v (row u + m) else l
def lastStep (row l : Nat → Int) (x : Int × Int × Int) : Nat → Int :=
  lastHalf row (lastHalf row l x.1.toNat x.2.1.toNat x.2.2) x.2.1.toNat x.1.toNat x.2.2
structure Lst (done : WayL) (P a : Nat) (row l : Nat → Int) : Prop where
  lo : ∀ v, v < P → l v = -1 ∨ (0 ≤ row v ∧ row v ≤ l v)
  self : l a = 0
  hi : ∀ u v m, u < P → v < P → Joins done u v m → 0 ≤ row u → 0 ≤ l v ∧ l v ≤ row u + m
theorem Lst.half {ws done : WayL} {P a u v : Nat} {m : Int} {t : Nat → Nat → Int} {l : Nat → Int} (hw : WaysOk P ws) (hd : Dists ws P t) (ha : a < P) (h : Lst done P a (t a) l) (j : Joins ws u v m) :
    Lst done P a (t a) (lastHalf (t a) l u v m) ∧ (0 ≤ t a u → 0 ≤ lastHalf (t a) l u v m v ∧ lastHalf (t a) l u v m v ≤ t a u + m) := by
  have hj := j.ok hw
  have hlv := h.lo v hj.2.2.2
  have he := hd.edge hw ha j
  unfold lastHalf
  by_cases c : 0 ≤ t a u ∧ (l v < 0 ∨ t a u + m < l v)
  · rw [if_pos c]
    have e := he c.1
    refine ⟨⟨fun i hi => ?_, ?_, fun u' v' m' hu' hv' j' h0 => ?_⟩, fun _ => ?_⟩
    · unfold put
      split
      · rename_i q; subst q; exact .inr ⟨e.1, e.2⟩
      · exact h.lo i hi
    · unfold put
      split
      · rename_i q
        subst q
        have := h.self
        have h0 := (hd a a ha ha).unique (.self hw a)
        omega
      · exact h.self
    · have h1 := h.hi u' v' m' hu' hv' j' h0
      unfold put
      split
      · rename_i q; subst q; omega
      · exact h1
    · unfold put
      rw [if_pos rfl]
      omega
  · rw [if_neg c]
    refine ⟨h, fun h0 => ?_⟩
    have := he h0
    omega
theorem Lst.step {ws done : WayL} {P a : Nat} {x : Int × Int × Int} {t : Nat → Nat → Int} {l : Nat → Int} (hw : WaysOk P ws) (hd : Dists ws P t) (ha : a < P) (h : Lst done P a (t a) l) (hx : x ∈ ws) :
    Lst (done ++ [x]) P a (t a) (lastStep (t a) l x) := by
  have hl := hw.lo x hx
  have e1 : ((x.1.toNat : Nat) : Int) = x.1 := by omega
  have e2 : ((x.2.1.toNat : Nat) : Int) = x.2.1 := by omega
  have j : Joins ws x.1.toNat x.2.1.toNat x.2.2 := by left; rw [e1, e2]; exact hx
  obtain ⟨h1, g1⟩ := h.half hw hd ha j
  obtain ⟨h2, g2⟩ := h1.half hw hd ha j.symm
  have hj := j.ok hw
  -- behind the second half the first one's end is no higher
  have g1' : 0 ≤ t a x.1.toNat → 0 ≤ lastStep (t a) l x x.2.1.toNat ∧ lastStep (t a) l x x.2.1.toNat ≤ t a x.1.toNat + x.2.2 := by
    intro h0
    have h3 := g1 h0
    unfold lastStep
    generalize lastHalf (t a) l x.1.toNat x.2.1.toNat x.2.2 = l1 at *
    unfold lastHalf
    split
    · rename_i c
      unfold put
      split
      · rename_i q
        have hz := hd.edge hw ha j.symm
        rw [q] at h3 c ⊢
        rcases c with ⟨c1, c2⟩
        omega
      · exact h3
    · exact h3
  refine ⟨h2.lo, h2.self, fun u v m hu hv j' h0 => ?_⟩
  have key : Joins done u v m ∨ (u = x.1.toNat ∧ v = x.2.1.toNat ∧ m = x.2.2) ∨ (u = x.2.1.toNat ∧ v = x.1.toNat ∧ m = x.2.2) := by
    rcases j' with j' | j' <;> rcases List.mem_append.1 j' with j' | j'
    · exact .inl (.inl j')
    · simp only [List.mem_singleton] at j'
      right; left; rw [← j']; simp
    · exact .inl (.inr j')
    · simp only [List.mem_singleton] at j'
      right; right; rw [← j']; simp
  rcases key with k | ⟨rfl, rfl, rfl⟩ | ⟨rfl, rfl, rfl⟩
  · exact h2.hi u v m hu hv k h0
  · exact g1' h0
  · exact g2 h0
theorem Lst.start {P a : Nat} {t : Nat → Nat → Int} {ws : WayL} (hw : WaysOk P ws) (hd : Dists ws P t) (ha : a < P) : Lst [] P a (t a) (fun v => if v = a then 0 else -1) := by
  refine ⟨fun v hv => ?_, if_pos rfl, fun u v m hu hv j => ?_⟩
  · split
    · rename_i e
      subst e
      right
      rw [(hd v v ha ha).unique (.self hw v)]
      omega
    · exact .inl rfl
  · rcases j with j | j <;> cases j
theorem Lst.all {P a : Nat} {t : Nat → Nat → Int} {ws : WayL} (hw : WaysOk P ws) (hd : Dists ws P t) (ha : a < P) : ∀ (r done : WayL) (l : Nat → Int), (∀ x ∈ r, x ∈ ws) → Lst done P a (t a) l → Lst (done ++ r) P a (t a) (r.foldl (lastStep (t a)) l)
  | [], done, l, _, h => by rw [List.append_nil]; exact h
  | x :: r, done, l, hr, h => by
    have := Lst.all hw hd ha r (done ++ [x]) (lastStep (t a) l x) (fun y hy => hr y (by simp [hy])) (h.step hw hd ha (hr x (by simp)))
    rw [List.append_assoc] at this
    exact this
theorem last_is {P a : Nat} {t : Nat → Nat → Int} {ws : WayL} (hw : WaysOk P ws) (hd : Dists ws P t) (ha : a < P) {v : Nat} (hv : v < P) : ws.foldl (lastStep (t a)) (fun v => if v = a then 0 else -1) v = t a v := by
  have h := Lst.all hw hd ha ws [] _ (fun _ hx => hx) (.start hw hd ha)
  rw [List.nil_append] at h
  have hl := h.lo v hv
  have hge := (hd a v ha hv).ge
  by_cases e : a = v
  · subst e
    rw [h.self, (hd a a ha ha).unique (.self hw a)]
  · by_cases h0 : 0 ≤ t a v
    · obtain ⟨u, m, hu, j, u0, he, hm⟩ := hd.last hw ha hv e h0
      have := h.hi u v m hu hv j u0
      omega
    · omega
theorem lastHalf_skip {row l : Nat → Int} {u v : Nat} {m : Int} (c : ¬ (0 ≤ row u ∧ (l v < 0 ∨ row u + m < l v))) : lastHalf row l u v m = l := if_neg c
theorem lastHalf_set {row l : Nat → Int} {u v : Nat} {m : Int} (c : 0 ≤ row u ∧ (l v < 0 ∨ row u + m < l v)) : lastHalf row l u v m = put l v (row u + m) := if_pos c

theorem rowAt_new (w : World) (P : Nat) : RowAt (w.alloc (.cells (List.replicate P (Value.int .i64 0)).toArray 3)) w.heap.size P (fun _ => 0) :=
  ⟨by simp, fun j hj => by rw [World.cell?_alloc_new]; simp [hj], fun j _ => World.frozen?_alloc_new _ _ _ _, ⟨_, _, heap_alloc_new w _⟩⟩
set_option maxRecDepth 100000 in
set_option maxHeartbeats 8000000 in
theorem wayLast_walk (s : Setup) (q : Slices) (a : Int) (w : World) (h : SetupIs w s q) (ha : 0 ≤ a ∧ a ≤ 255) :
    Calls Try.prog 6 #[.agg #[.int .i64 s.places, .slice q.wa q.wl q.wc, .int .i64 s.pn, .int .i64 s.pd, .slice q.ea q.el q.ec, .slice q.ca q.cl q.cc, .slice q.ga q.gl q.gc, .int .i64 s.allow, .int .i64 s.unit, .int .i64 s.cap, .int .i64 s.paidBreak, .int .i64 s.autoAfter, .int .i64 s.autoBreak, .int .i64 s.dayReg, .int .i64 s.dayOver, .int .i64 s.weekReg, .int .i64 s.nightFrom, .int .i64 s.nightTo, .slice q.ra q.rl q.rc, .int .i64 s.diff, .int .i64 s.least, .int .i64 s.fault, .slice q.ta q.tl q.tc], .int .u8 a] w fun e w' => e = .returned (.bool true) ∧ Below w.heap.size w w' := by
  have hb : (w.alloc (.cells #[.int .i64 s.places, .slice q.wa q.wl q.wc, .int .i64 s.pn, .int .i64 s.pd, .slice q.ea q.el q.ec, .slice q.ca q.cl q.cc, .slice q.ga q.gl q.gc, .int .i64 s.allow, .int .i64 s.unit, .int .i64 s.cap, .int .i64 s.paidBreak, .int .i64 s.autoAfter, .int .i64 s.autoBreak, .int .i64 s.dayReg, .int .i64 s.dayOver, .int .i64 s.weekReg, .int .i64 s.nightFrom, .int .i64 s.nightTo, .slice q.ra q.rl q.rc, .int .i64 s.diff, .int .i64 s.least, .int .i64 s.fault, .slice q.ta q.tl q.tc] 30)).heap[w.heap.size]? = some (.cells #[.int .i64 s.places, .slice q.wa q.wl q.wc, .int .i64 s.pn, .int .i64 s.pd, .slice q.ea q.el q.ec, .slice q.ca q.cl q.cc, .slice q.ga q.gl q.gc, .int .i64 s.allow, .int .i64 s.unit, .int .i64 s.cap, .int .i64 s.paidBreak, .int .i64 s.autoAfter, .int .i64 s.autoBreak, .int .i64 s.dayReg, .int .i64 s.dayOver, .int .i64 s.weekReg, .int .i64 s.nightFrom, .int .i64 s.nightTo, .slice q.ra q.rl q.rc, .int .i64 s.diff, .int .i64 s.least, .int .i64 s.fault, .slice q.ta q.tl q.tc] 30) := box_new _ _ rfl _ _
  have B0 : Below w.heap.size w (w.alloc (.cells #[.int .i64 s.places, .slice q.wa q.wl q.wc, .int .i64 s.pn, .int .i64 s.pd, .slice q.ea q.el q.ec, .slice q.ca q.cl q.cc, .slice q.ga q.gl q.gc, .int .i64 s.allow, .int .i64 s.unit, .int .i64 s.cap, .int .i64 s.paidBreak, .int .i64 s.autoAfter, .int .i64 s.autoBreak, .int .i64 s.dayReg, .int .i64 s.dayOver, .int .i64 s.weekReg, .int .i64 s.nightFrom, .int .i64 s.nightTo, .slice q.ra q.rl q.rc, .int .i64 s.diff, .int .i64 s.least, .int .i64 s.fault, .slice q.ta q.tl q.tc] 30)) := by go_grown
  have z0 : w.heap.size < (w.alloc (.cells #[.int .i64 s.places, .slice q.wa q.wl q.wc, .int .i64 s.pn, .int .i64 s.pd, .slice q.ea q.el q.ec, .slice q.ca q.cl q.cc, .slice q.ga q.gl q.gc, .int .i64 s.allow, .int .i64 s.unit, .int .i64 s.cap, .int .i64 s.paidBreak, .int .i64 s.autoAfter, .int .i64 s.autoBreak, .int .i64 s.dayReg, .int .i64 s.dayOver, .int .i64 s.weekReg, .int .i64 s.nightFrom, .int .i64 s.nightTo, .slice q.ra q.rl q.rc, .int .i64 s.diff, .int .i64 s.least, .int .i64 s.fault, .slice q.ta q.tl q.tc] 30)).heap.size := by simp
  obtain ⟨f, hf⟩ : ∃ f, fewP s = f := ⟨_, rfl⟩
  have HF := Lib.hid hf
  clear hf
  go_enter Try.func6, Try.ntmps6
  go_wp2_with fail
  refine (awake09 _).mono ?_
  rintro e1 w1 ⟨rfl, k1⟩
  replace hb := box_keep k1 hb z0
  replace B0 := B0.trans (k1.mono (by omega))
  replace z0 := Nat.lt_of_lt_of_le z0 k1.size
  clear k1
  go_wp2_with (refine wpList_load_box 30 (.tmp 2) rfl rfl w.heap.size rfl 30 #[.int .i64 s.places, .slice q.wa q.wl q.wc, .int .i64 s.pn, .int .i64 s.pd, .slice q.ea q.el q.ec, .slice q.ca q.cl q.cc, .slice q.ga q.gl q.gc, .int .i64 s.allow, .int .i64 s.unit, .int .i64 s.cap, .int .i64 s.paidBreak, .int .i64 s.autoAfter, .int .i64 s.autoBreak, .int .i64 s.dayReg, .int .i64 s.dayOver, .int .i64 s.weekReg, .int .i64 s.nightFrom, .int .i64 s.nightTo, .slice q.ra q.rl q.rc, .int .i64 s.diff, .int .i64 s.least, .int .i64 s.fault, .slice q.ta q.tl q.tc] hb setup_big ?_)
  refine (ref7_Few s q f _ (h.below B0) HF.out).mono ?_
  rintro e2 w2 ⟨rfl, k2⟩
  replace hb := box_keep k2 hb z0
  replace B0 := B0.trans (k2.mono (by omega))
  replace z0 := Nat.lt_of_lt_of_le z0 k2.size
  clear k2
  cases f
  · go_wp2_with fail
    go_ret
    exact ⟨rfl, B0⟩
  obtain ⟨c, hc⟩ : ∃ c, setupP s = c := ⟨_, rfl⟩
  have HC := Lib.hid hc
  clear hc
  go_wp2_with (refine wpList_load_box 30 (.tmp 2) rfl rfl w.heap.size rfl 30 #[.int .i64 s.places, .slice q.wa q.wl q.wc, .int .i64 s.pn, .int .i64 s.pd, .slice q.ea q.el q.ec, .slice q.ca q.cl q.cc, .slice q.ga q.gl q.gc, .int .i64 s.allow, .int .i64 s.unit, .int .i64 s.cap, .int .i64 s.paidBreak, .int .i64 s.autoAfter, .int .i64 s.autoBreak, .int .i64 s.dayReg, .int .i64 s.dayOver, .int .i64 s.weekReg, .int .i64 s.nightFrom, .int .i64 s.nightTo, .slice q.ra q.rl q.rc, .int .i64 s.diff, .int .i64 s.least, .int .i64 s.fault, .slice q.ta q.tl q.tc] hb setup_big ?_)
  refine (setup_Check s q c _ (h.below B0) HC.out).mono ?_
  rintro e3 w3 ⟨rfl, k3⟩
  replace hb := box_keep k3 hb z0
  replace B0 := B0.trans (k3.mono (by omega))
  replace z0 := Nat.lt_of_lt_of_le z0 k3.size
  clear k3
  cases c
  · go_wp2_with fail
    go_ret
    exact ⟨rfl, B0⟩
  obtain ⟨P, hPl, hP, hw, hwl⟩ := waysOk HC.out
  have HPL := Lib.hid hPl
  clear hPl
  go_wp2_with (refine wpList_load_box 30 (.tmp 2) rfl rfl w.heap.size rfl 30 #[.int .i64 s.places, .slice q.wa q.wl q.wc, .int .i64 s.pn, .int .i64 s.pd, .slice q.ea q.el q.ec, .slice q.ca q.cl q.cc, .slice q.ga q.gl q.gc, .int .i64 s.allow, .int .i64 s.unit, .int .i64 s.cap, .int .i64 s.paidBreak, .int .i64 s.autoAfter, .int .i64 s.autoBreak, .int .i64 s.dayReg, .int .i64 s.dayOver, .int .i64 s.weekReg, .int .i64 s.nightFrom, .int .i64 s.nightTo, .slice q.ra q.rl q.rc, .int .i64 s.diff, .int .i64 s.least, .int .i64 s.fault, .slice q.ta q.tl q.tc] hb setup_big ?_)
  refine (way_Table_at s q P _ (h.below B0) HC.out HPL.out).mono ?_
  rintro e4 w4 ⟨o, base, rb, rfl, ht, ho1, ho2, k4⟩
  have HT := Lib.hid ht.r
  replace hb := box_keep k4 hb z0
  replace B0 := B0.trans (k4.mono (by omega))
  replace z0 := Nat.lt_of_lt_of_le z0 k4.size
  clear k4 ht ho1 ho2
  have cN : w4.cell? ⟨w.heap.size, 0, none⟩ = some (.int .i64 (P : Int)) := by rw [← HPL.out]; simp [World.cell?, hb]
  have cW : w4.cell? ⟨w.heap.size, 1, none⟩ = some (.slice q.wa q.wl q.wc) := by simp [World.cell?, hb]
  have hP0 : (0 : Int) ≤ (P : Int) := by omega
  have HD := Lib.hid (tableP_dists hw)
  have HWC := Lib.hid h.ways.2.2.2
  have HWL := Lib.hid (show q.wl = s.ways.length from h.ways.1.symm)
  obtain ⟨t, htt⟩ : ∃ t, tableP P s.ways = t := ⟨_, rfl⟩
  rw [htt] at HT HD
  clear hb htt
  have hM := metersP_nonneg hw.pos
  have hbd : ∀ a b, a < P → b < P → -1 ≤ t a b ∧ t a b ≤ 640000 := fun a b ha hb => ⟨(HD.out a b ha hb).ge, by have := HD.out.all hw ha hb; omega⟩
  have HBD := Lib.hid hbd
  clear hbd hM
  go_wp2_with fail
  refine (law9_square o P P rb _ t _ rfl hP.2 _ HT.out).mono ?_
  rintro e5 w5 ⟨rfl, rfl⟩
  have hPn : ¬ (P : Int) = 0 := by omega
  have hA0 : 0 ≤ a.tmod P := Int.tmod_nonneg _ ha.1
  have hA1 : a.tmod P < P := Int.tmod_lt_of_pos _ (by omega)
  obtain ⟨A, hA⟩ := Int.eq_ofNat_of_zero_le hA0
  have hAP : A < P := by omega
  have c0 := HT.out.hdr A hAP
  have hA2 : (0 : Int) ≤ (A : Int) := by omega
  have hA3 : (A : Int) < (P : Int) := by omega
  have hwr : IntKind.i64.wrap a = a := IntWalk.i64_in _ (by omega)
  clear hA0 hA1
  have hmk := run_make_ints P (by omega)
  go_wp2_with fail
  have hre : Array.replicate P (Value.int .i64 0) = (List.replicate P (Value.int .i64 0)).toArray := by simp
  rw [hre]
  refine gen_code (S := fun W => RowAt W w5.heap.size P (fun _ => 0) ∧ Below w5.heap.size w5 W) ⟨rowAt_new w5 P, by go_grown⟩ (fun W0 hW => ?_)
  obtain ⟨hrow, B1⟩ := hW
  have HROW := Lib.hid hrow
  clear hmk hre hrow
  go_loopg [9] P (fun g i wr => ∃ k : Nat, k ≤ P ∧ g = P - k ∧ i = .int .i64 k ∧ RowAt wr w5.heap.size P (fun v => if v < k then (if v = A then 0 else -1) else 0) ∧ Below w5.heap.size w5 wr)
  case atStart => exact ⟨0, by omega, by omega, rfl, HROW.out.same (fun j _ => by simp), B1⟩
  case round =>
    obtain ⟨k, hk, rfl, rfl, hrk, Bk⟩ := hrel
    by_cases hlt : k < P
    · have hk0 : (0 : Int) ≤ (k : Int) := by omega
      have hk1 : (k : Int) < (P : Int) := by omega
      have ck := hrk.cell k hlt
      have fk := hrk.fz k hlt
      have hs1 := hrk.set k hlt (-1)
      have Bs1 := Bk.setCell (p := ⟨w5.heap.size, k, none⟩) (Nat.le_refl _) (.int .i64 (-1))
      by_cases e : k = A
      · have hs2 := hs1.set k hlt 0
        have Bs2 := Bs1.setCell (p := ⟨w5.heap.size, k, none⟩) (Nat.le_refl _) (.int .i64 0)
        have hs3 := Lib.hid (hs2.same (r' := fun v => if v < k + 1 then (if v = A then 0 else -1) else 0) (fun v hv => by
          unfold put
          dsimp only
          by_cases e2 : v = k
          · rw [if_pos e2, if_pos (by omega), if_pos (by omega)]
          · rw [if_neg e2, if_neg e2]
            by_cases e3 : v < k
            · rw [if_pos e3, if_pos (show v < k + 1 by omega)]
            · rw [if_neg e3, if_neg (show ¬ v < k + 1 by omega)]))
        have e1 : ((k : Int) == (A : Int)) = true := by simp [e]
        clear hrk hs1 hs2 e HROW
        go_wp2_with fail
        go_roundg (P - (k + 1))
        case measure => omega
        case rel => exact ⟨k + 1, by omega, rfl, by go_num, hs3.out, Bs2⟩
      · have hs3 := Lib.hid (hs1.same (r' := fun v => if v < k + 1 then (if v = A then 0 else -1) else 0) (fun v hv => by
          unfold put
          dsimp only
          by_cases e2 : v = k
          · rw [if_pos e2, if_pos (by omega), if_neg (by omega)]
          · rw [if_neg e2]
            by_cases e3 : v < k
            · rw [if_pos e3, if_pos (show v < k + 1 by omega)]
            · rw [if_neg e3, if_neg (show ¬ v < k + 1 by omega)]))
        have e1 : ((k : Int) == (A : Int)) = false := by rw [beq_eq_false_iff_ne]; omega
        clear hrk hs1 e HROW
        go_wp2_with fail
        go_roundg (P - (k + 1))
        case measure => omega
        case rel => exact ⟨k + 1, by omega, rfl, by go_num, hs3.out, Bs1⟩
    · obtain rfl : P = k := by omega
      have hini := hrk.same (r' := fun v => if v = A then 0 else -1) (fun v hv => by rw [if_pos hv])
      obtain ⟨ini, hi⟩ : ∃ ini : Nat → Int, (fun v => if v = A then 0 else -1) = ini := ⟨_, rfl⟩
      rw [hi] at hini
      have HI := Lib.hid hi
      have HINI := Lib.hid hini
      clear hrk hi hini HROW
      go_wp2_with fail
      go_loopg [10] q.wl (fun gh i wy => ∃ j : Nat, j ≤ q.wl ∧ gh = q.wl - j ∧ i = .int .i64 j ∧ RowAt wy w5.heap.size P ((s.ways.take j).foldl (lastStep (t A)) ini) ∧ Below w5.heap.size w5 wy)
      case atStart => exact ⟨0, by omega, by omega, rfl, by rw [List.take_zero]; exact HINI.out, Bk⟩
      case round =>
        obtain ⟨j, hj, rfl, rfl, hrj, Bj⟩ := hrel
        have cWj := keepC Bj cW z0
        have HRJ := Lib.hid hrj
        clear hrj HINI
        by_cases hltj : j < q.wl
        · have hj1 : (j : Int) < (q.wl : Int) := by omega
          obtain ⟨b, off, hqa, hbl, hcell⟩ := HWC.out.resolve_left (by omega)
          rw [hqa] at cWj
          have Bw : Below w.heap.size w wr := B0.trans (Bj.mono (by omega))
          have hcl := hcell j hltj
          have d0 := keepC Bw hcl.1 hbl
          have d1 := keepC Bw hcl.2.1 hbl
          have d2 := keepC Bw hcl.2.2 hbl
          have hlw : j < s.ways.length := by have := HWL.out; omega
          have hq64 : q.wl ≤ 64 := by have := HWL.out; omega
          have hmem := getD_mem_3 (l := s.ways) (k := j) (by omega)
          have htake : s.ways.take (j + 1) = s.ways.take j ++ [s.ways.getD j (0, 0, 0)] := by
            rw [List.take_succ_eq_append_getElem (by omega), List.getD_eq_getElem?_getD, List.getElem?_eq_getElem (by omega)]; rfl
          obtain ⟨x0, x1, x2, hxy⟩ : ∃ x0 x1 x2, s.ways.getD j (0, 0, 0) = (x0, x1, x2) := ⟨_, _, _, rfl⟩
          rw [hxy] at d0 d1 d2 hmem htake
          have hlo := hw.lo _ hmem
          have hpo := hw.pos _ hmem
          simp only at d0 d1 d2 hlo hpo
          obtain ⟨X, rfl⟩ := Int.eq_ofNat_of_zero_le hlo.1
          obtain ⟨Y, rfl⟩ := Int.eq_ofNat_of_zero_le hlo.2.2.1
          have hX : X < P := by omega
          have hY : Y < P := by omega
          have hX0 : (0 : Int) ≤ (X : Int) := by omega
          have hX1 : (X : Int) < (P : Int) := by omega
          have hY0 : (0 : Int) ≤ (Y : Int) := by omega
          have hY1 : (Y : Int) < (P : Int) := by omega
          obtain ⟨l, hl⟩ : ∃ l, (s.ways.take j).foldl (lastStep (t A)) ini = l := ⟨_, rfl⟩
          have hfold : (s.ways.take (j + 1)).foldl (lastStep (t A)) ini = lastStep (t A) l ((X : Int), (Y : Int), x2) := by rw [htake, List.foldl_append, hl]; rfl
          rw [hl] at HRJ
          have HFOLD := Lib.hid hfold
          clear htake hxy hcell hcl hmem hfold hl hqa hlw
          have cl0 := HT.out.cell A X hAP hX
          have cl1 := HT.out.cell A Y hAP hY
          have bx := HBD.out A X hAP hX
          have byy := HBD.out A Y hAP hY
          have rbl : rb A < w5.heap.size := World.block_lt_of_cell? w5 _ cl0
          replace cl0 := keepC Bj cl0 rbl
          replace cl1 := keepC Bj cl1 rbl
          obtain ⟨xr, hxr⟩ : ∃ xr, t A X = xr := ⟨_, rfl⟩
          obtain ⟨yr, hyr⟩ : ∃ yr, t A Y = yr := ⟨_, rfl⟩
          rw [hxr] at cl0 bx
          rw [hyr] at cl1 byy
          have HXR := Lib.hid hxr
          have HYR := Lib.hid hyr
          clear hxr hyr
          go_upto_region 18 with fail
          iterate 26 (first | go_values | go_skip | go_guarded | go_step | go_upon | go_back)
          refine gen_code (S := fun V => V.cell? ⟨wr.heap.size, 0, none⟩ = some (.int .i64 (X : Int)) ∧ V.cell? ⟨wr.heap.size, 1, none⟩ = some (.int .i64 (Y : Int)) ∧ V.cell? ⟨wr.heap.size, 2, none⟩ = some (.int .i64 x2) ∧ V.cell? ⟨rb A, X, none⟩ = some (.int .i64 xr) ∧ V.cell? ⟨rb A, Y, none⟩ = some (.int .i64 yr) ∧ RowAt V w5.heap.size P l ∧ Below w5.heap.size w5 V) ⟨by simp [go_sem], by simp [go_sem], by simp [go_sem], keepA _ cl0, keepA _ cl1, HRJ.out.below (by go_grown), Bj.alloc Bj.size _⟩ (fun V hV => ?_)
          have ngb : ¬ w5.heap.size = wr.heap.size := by have := HRJ.out.lt; omega
          have nbg : ¬ wr.heap.size = w5.heap.size := by omega
          have nrg : ¬ rb A = w5.heap.size := by omega
          have ngr : ¬ w5.heap.size = rb A := by omega
          clear d0 d1 d2 cWj HRJ Bj cl0 cl1
          obtain ⟨l1, hl1⟩ : ∃ l1, lastHalf (t A) l X Y x2 = l1 := ⟨_, rfl⟩
          have HL1 := Lib.hid hl1
          clear hl1
          go_cut [] (fun V => V.cell? ⟨wr.heap.size, 0, none⟩ = some (.int .i64 (X : Int)) ∧ V.cell? ⟨wr.heap.size, 1, none⟩ = some (.int .i64 (Y : Int)) ∧ V.cell? ⟨wr.heap.size, 2, none⟩ = some (.int .i64 x2) ∧ V.cell? ⟨rb A, X, none⟩ = some (.int .i64 xr) ∧ V.cell? ⟨rb A, Y, none⟩ = some (.int .i64 yr) ∧ RowAt V w5.heap.size P l1 ∧ Below w5.heap.size w5 V)
          case first =>
            obtain ⟨g0, g1, g2, r0, r1, hr, BV⟩ := hV
            have cl := hr.cell Y hY
            have fl := hr.fz Y hY
            obtain ⟨ly, hly⟩ : ∃ ly, l Y = ly := ⟨_, rfl⟩
            rw [hly] at cl
            have HLY := Lib.hid hly
            have HR := Lib.hid hr
            clear hly hr
            have hwx : IntKind.i64.wrap (xr + x2) = xr + x2 := IntWalk.i64_in _ (by omega)
            by_cases ex : 0 ≤ xr
            · by_cases ey : ly < 0
              · have d2 : decide (ly < 0) = true := by rw [decide_eq_true_iff]; exact ey
                go_wp2_with fail
                go_quiet (fail)
                go_wp2_with fail
                refine wp_region_held_drew (S := (fun w' => w'.cell? ⟨wr.heap.size, 0, none⟩ = some (.int .i64 (X : Int)) ∧ w'.cell? ⟨wr.heap.size, 1, none⟩ = some (.int .i64 (Y : Int)) ∧ w'.cell? ⟨wr.heap.size, 2, none⟩ = some (.int .i64 x2) ∧ w'.cell? ⟨rb A, X, none⟩ = some (.int .i64 xr))) (by kernel_rfl) ?_ (fun hHeld => ?_)
                · exact ⟨g0, g1, g2, r0⟩
                refine wpAnyH_take (i := 0) (oi := ⟨some 102, _, _, _, _, none⟩) (v := ?_) rfl (by kernel_rfl) (by kernel_rfl) (by kernel_rfl) (fun _ _ _ h => h) (Or.inl ⟨by rfl, ?_⟩) (by assumption) ?_
                rotate_left
                · intro wz hSw; (try dsimp only at hSw); go_simp; (try with_reducible rfl)
                try simp only [Act.put, List.setIfInBounds_toArray, List.set_cons_zero, List.set_cons_succ]
                refine wpAnyH_take (i := 1) (oi := ⟨some 103, _, _, _, _, none⟩) (v := ?_) rfl (by kernel_rfl) (by kernel_rfl) (by kernel_rfl) (fun _ _ _ h => h) (Or.inl ⟨by rfl, ?_⟩) (by assumption) ?_
                rotate_left
                · intro wz hSw; (try dsimp only at hSw); go_simp; (try with_reducible rfl)
                try simp only [Act.put, List.setIfInBounds_toArray, List.set_cons_zero, List.set_cons_succ]
                refine wpAnyH_take (i := 2) (oi := ⟨some 104, _, _, _, _, none⟩) (v := ?_) rfl (by kernel_rfl) (by kernel_rfl) (by kernel_rfl) (fun _ _ _ h => h) (Or.inl ⟨by rfl, ?_⟩) (by assumption) ?_
                rotate_left
                · intro wz hSw; (try dsimp only at hSw); go_simp; (try with_reducible rfl)
                try simp only [Act.put, List.setIfInBounds_toArray, List.set_cons_zero, List.set_cons_succ]
                refine wpAnyH_take (i := 3) (oi := ⟨some 105, _, _, _, _, none⟩) (v := ?_) rfl (by kernel_rfl) (by kernel_rfl) (by kernel_rfl) (fun _ _ _ h => h) (Or.inl ⟨by rfl, ?_⟩) (by assumption) ?_
                rotate_left
                · intro wz hSw; (try dsimp only at hSw); go_simp; (try with_reducible rfl)
                try simp only [Act.put, List.setIfInBounds_toArray, List.set_cons_zero, List.set_cons_succ]
                refine wpAnyH_take (i := 4) (oi := ⟨some 106, _, _, _, _, none⟩) (v := ?_) rfl (by kernel_rfl) (by kernel_rfl) (by kernel_rfl) (fun _ _ _ h => h) (Or.inl ⟨by rfl, ?_⟩) (by assumption) ?_
                rotate_left
                · intro wz hSw; (try dsimp only at hSw); go_simp; (try with_reducible rfl)
                try simp only [Act.put, List.setIfInBounds_toArray, List.set_cons_zero, List.set_cons_succ]
                refine wpAnyH_take (i := 5) (oi := ⟨some 107, _, _, _, _, none⟩) (v := ?_) rfl (by kernel_rfl) (by kernel_rfl) (by kernel_rfl) (fun _ _ _ h => h) (Or.inl ⟨by rfl, ?_⟩) (by assumption) ?_
                rotate_left
                · intro wz hSw; (try dsimp only at hSw); go_simp; (try with_reducible rfl)
                try simp only [Act.put, List.setIfInBounds_toArray, List.set_cons_zero, List.set_cons_succ]
                refine wpAnyH_take (i := 6) (oi := ⟨some 108, _, _, _, _, none⟩) (v := ?_) rfl (by kernel_rfl) (by kernel_rfl) (by kernel_rfl) (fun _ _ _ h => h) (Or.inl ⟨by rfl, ?_⟩) (by assumption) ?_
                rotate_left
                · intro wz hSw; (try dsimp only at hSw); go_simp; (try with_reducible rfl)
                try simp only [Act.put, List.setIfInBounds_toArray, List.set_cons_zero, List.set_cons_succ]
                refine wpAnyH_take (i := 7) (oi := ⟨some 109, _, _, _, _, none⟩) (v := ?_) rfl (by kernel_rfl) (by kernel_rfl) (by kernel_rfl) (fun _ _ _ h => h) (Or.inl ⟨by rfl, ?_⟩) (by assumption) ?_
                rotate_left
                · intro wz hSw; (try dsimp only at hSw); go_simp; (try with_reducible rfl)
                try simp only [Act.put, List.setIfInBounds_toArray, List.set_cons_zero, List.set_cons_succ]
                refine wpAnyH_take (i := 8) (oi := ⟨some 110, _, _, _, _, none⟩) (v := ?_) rfl (by kernel_rfl) (by kernel_rfl) (by kernel_rfl) (fun _ _ _ h => h) (Or.inl ⟨by rfl, ?_⟩) (by assumption) ?_
                rotate_left
                · intro wz hSw; (try dsimp only at hSw); go_simp; (try with_reducible rfl)
                try simp only [Act.put, List.setIfInBounds_toArray, List.set_cons_zero, List.set_cons_succ]
                refine wpAnyH_take (i := 9) (oi := ⟨some 111, _, _, _, _, none⟩) (v := ?_) rfl (by kernel_rfl) (by kernel_rfl) (by kernel_rfl) (fun _ _ _ h => h) (Or.inl ⟨by rfl, ?_⟩) (by assumption) ?_
                rotate_left
                · intro wz hSw; (try dsimp only at hSw); go_simp; (try with_reducible rfl)
                try simp only [Act.put, List.setIfInBounds_toArray, List.set_cons_zero, List.set_cons_succ]
                refine wpAnyH_take (i := 10) (oi := ⟨some 112, _, _, _, _, none⟩) (v := ?_) rfl (by kernel_rfl) (by kernel_rfl) (by kernel_rfl) (fun _ _ _ h => h) (Or.inl ⟨by rfl, ?_⟩) (by assumption) ?_
                rotate_left
                · intro wz hSw; (try dsimp only at hSw); go_simp; (try with_reducible rfl)
                try simp only [Act.put, List.setIfInBounds_toArray, List.set_cons_zero, List.set_cons_succ]
                refine wpAnyH_take (i := 11) (oi := ⟨some 113, _, _, _, _, none⟩) (v := ?_) rfl (by kernel_rfl) (by kernel_rfl) (by kernel_rfl) (fun _ _ _ h => h) (Or.inl ⟨by rfl, ?_⟩) (by assumption) ?_
                rotate_left
                · intro wz hSw; (try dsimp only at hSw); go_simp; (try with_reducible rfl)
                try simp only [Act.put, List.setIfInBounds_toArray, List.set_cons_zero, List.set_cons_succ]
                refine wpAnyH_ready (rs := [12]) (by kernel_rfl) (by simp) ?_
                refine AllReadyH.cons (o := ⟨none, _, _, _, _, none⟩) rfl (fun K hK => ?_) AllReadyH.nil
                go_simp
                refine hK.out _ _ ?_ (fun hHeld => ?_)
                · exact ⟨by simp [go_sem, g0, ngb, nbg], by simp [go_sem, g1, ngb, nbg], by simp [go_sem, g2, ngb, nbg], by simp [go_sem, r0, nrg, ngr]⟩
                clear hK K
                try simp only [Act.put, List.setIfInBounds_toArray, List.set_cons_zero, List.set_cons_succ]
                refine wpAnyH_done (by kernel_rfl) ?_ _
                go_wp2_with fail
                have hset := HR.out.set Y hY (xr + x2)
                have hb := BV.setCell (p := ⟨w5.heap.size, Y, none⟩) (Nat.le_refl _) (.int .i64 (xr + x2))
                go_meet
                case rel =>
                  refine ⟨by simp [go_sem, g0, ngb, nbg], by simp [go_sem, g1, ngb, nbg], by simp [go_sem, g2, ngb, nbg], by simp [go_sem, r0, nrg, ngr], by simp [go_sem, r1, nrg, ngr], ?_, ?_⟩
                  · rw [← HL1.out, lastHalf_set ⟨by rw [HXR.out]; exact ex, .inl (by rw [HLY.out]; exact ey)⟩, HXR.out]; exact ⟨hset.lt, hset.cell, hset.fz, hset.ty⟩
                  · exact ⟨hb.os, hb.tape, hb.output, hb.size, hb.block⟩
              · have d2 : decide (ly < 0) = false := by rw [decide_eq_false_iff_not]; exact ey
                by_cases ez : xr + x2 < ly
                · have d3 : decide (xr + x2 < ly) = true := by rw [decide_eq_true_iff]; exact ez
                  go_wp2_with fail
                  go_quiet (fail)
                  go_wp2_with fail
                  refine wp_region_held_drew (S := (fun w' => w'.cell? ⟨wr.heap.size, 0, none⟩ = some (.int .i64 (X : Int)) ∧ w'.cell? ⟨wr.heap.size, 1, none⟩ = some (.int .i64 (Y : Int)) ∧ w'.cell? ⟨wr.heap.size, 2, none⟩ = some (.int .i64 x2) ∧ w'.cell? ⟨rb A, X, none⟩ = some (.int .i64 xr))) (by kernel_rfl) ?_ (fun hHeld => ?_)
                  · exact ⟨g0, g1, g2, r0⟩
                  refine wpAnyH_take (i := 0) (oi := ⟨some 102, _, _, _, _, none⟩) (v := ?_) rfl (by kernel_rfl) (by kernel_rfl) (by kernel_rfl) (fun _ _ _ h => h) (Or.inl ⟨by rfl, ?_⟩) (by assumption) ?_
                  rotate_left
                  · intro wz hSw; (try dsimp only at hSw); go_simp; (try with_reducible rfl)
                  try simp only [Act.put, List.setIfInBounds_toArray, List.set_cons_zero, List.set_cons_succ]
                  refine wpAnyH_take (i := 1) (oi := ⟨some 103, _, _, _, _, none⟩) (v := ?_) rfl (by kernel_rfl) (by kernel_rfl) (by kernel_rfl) (fun _ _ _ h => h) (Or.inl ⟨by rfl, ?_⟩) (by assumption) ?_
                  rotate_left
                  · intro wz hSw; (try dsimp only at hSw); go_simp; (try with_reducible rfl)
                  try simp only [Act.put, List.setIfInBounds_toArray, List.set_cons_zero, List.set_cons_succ]
                  refine wpAnyH_take (i := 2) (oi := ⟨some 104, _, _, _, _, none⟩) (v := ?_) rfl (by kernel_rfl) (by kernel_rfl) (by kernel_rfl) (fun _ _ _ h => h) (Or.inl ⟨by rfl, ?_⟩) (by assumption) ?_
                  rotate_left
                  · intro wz hSw; (try dsimp only at hSw); go_simp; (try with_reducible rfl)
                  try simp only [Act.put, List.setIfInBounds_toArray, List.set_cons_zero, List.set_cons_succ]
                  refine wpAnyH_take (i := 3) (oi := ⟨some 105, _, _, _, _, none⟩) (v := ?_) rfl (by kernel_rfl) (by kernel_rfl) (by kernel_rfl) (fun _ _ _ h => h) (Or.inl ⟨by rfl, ?_⟩) (by assumption) ?_
                  rotate_left
                  · intro wz hSw; (try dsimp only at hSw); go_simp; (try with_reducible rfl)
                  try simp only [Act.put, List.setIfInBounds_toArray, List.set_cons_zero, List.set_cons_succ]
                  refine wpAnyH_take (i := 4) (oi := ⟨some 106, _, _, _, _, none⟩) (v := ?_) rfl (by kernel_rfl) (by kernel_rfl) (by kernel_rfl) (fun _ _ _ h => h) (Or.inl ⟨by rfl, ?_⟩) (by assumption) ?_
                  rotate_left
                  · intro wz hSw; (try dsimp only at hSw); go_simp; (try with_reducible rfl)
                  try simp only [Act.put, List.setIfInBounds_toArray, List.set_cons_zero, List.set_cons_succ]
                  refine wpAnyH_take (i := 5) (oi := ⟨some 107, _, _, _, _, none⟩) (v := ?_) rfl (by kernel_rfl) (by kernel_rfl) (by kernel_rfl) (fun _ _ _ h => h) (Or.inl ⟨by rfl, ?_⟩) (by assumption) ?_
                  rotate_left
                  · intro wz hSw; (try dsimp only at hSw); go_simp; (try with_reducible rfl)
                  try simp only [Act.put, List.setIfInBounds_toArray, List.set_cons_zero, List.set_cons_succ]
                  refine wpAnyH_take (i := 6) (oi := ⟨some 108, _, _, _, _, none⟩) (v := ?_) rfl (by kernel_rfl) (by kernel_rfl) (by kernel_rfl) (fun _ _ _ h => h) (Or.inl ⟨by rfl, ?_⟩) (by assumption) ?_
                  rotate_left
                  · intro wz hSw; (try dsimp only at hSw); go_simp; (try with_reducible rfl)
                  try simp only [Act.put, List.setIfInBounds_toArray, List.set_cons_zero, List.set_cons_succ]
                  refine wpAnyH_take (i := 7) (oi := ⟨some 109, _, _, _, _, none⟩) (v := ?_) rfl (by kernel_rfl) (by kernel_rfl) (by kernel_rfl) (fun _ _ _ h => h) (Or.inl ⟨by rfl, ?_⟩) (by assumption) ?_
                  rotate_left
                  · intro wz hSw; (try dsimp only at hSw); go_simp; (try with_reducible rfl)
                  try simp only [Act.put, List.setIfInBounds_toArray, List.set_cons_zero, List.set_cons_succ]
                  refine wpAnyH_take (i := 8) (oi := ⟨some 110, _, _, _, _, none⟩) (v := ?_) rfl (by kernel_rfl) (by kernel_rfl) (by kernel_rfl) (fun _ _ _ h => h) (Or.inl ⟨by rfl, ?_⟩) (by assumption) ?_
                  rotate_left
                  · intro wz hSw; (try dsimp only at hSw); go_simp; (try with_reducible rfl)
                  try simp only [Act.put, List.setIfInBounds_toArray, List.set_cons_zero, List.set_cons_succ]
                  refine wpAnyH_take (i := 9) (oi := ⟨some 111, _, _, _, _, none⟩) (v := ?_) rfl (by kernel_rfl) (by kernel_rfl) (by kernel_rfl) (fun _ _ _ h => h) (Or.inl ⟨by rfl, ?_⟩) (by assumption) ?_
                  rotate_left
                  · intro wz hSw; (try dsimp only at hSw); go_simp; (try with_reducible rfl)
                  try simp only [Act.put, List.setIfInBounds_toArray, List.set_cons_zero, List.set_cons_succ]
                  refine wpAnyH_take (i := 10) (oi := ⟨some 112, _, _, _, _, none⟩) (v := ?_) rfl (by kernel_rfl) (by kernel_rfl) (by kernel_rfl) (fun _ _ _ h => h) (Or.inl ⟨by rfl, ?_⟩) (by assumption) ?_
                  rotate_left
                  · intro wz hSw; (try dsimp only at hSw); go_simp; (try with_reducible rfl)
                  try simp only [Act.put, List.setIfInBounds_toArray, List.set_cons_zero, List.set_cons_succ]
                  refine wpAnyH_take (i := 11) (oi := ⟨some 113, _, _, _, _, none⟩) (v := ?_) rfl (by kernel_rfl) (by kernel_rfl) (by kernel_rfl) (fun _ _ _ h => h) (Or.inl ⟨by rfl, ?_⟩) (by assumption) ?_
                  rotate_left
                  · intro wz hSw; (try dsimp only at hSw); go_simp; (try with_reducible rfl)
                  try simp only [Act.put, List.setIfInBounds_toArray, List.set_cons_zero, List.set_cons_succ]
                  refine wpAnyH_ready (rs := [12]) (by kernel_rfl) (by simp) ?_
                  refine AllReadyH.cons (o := ⟨none, _, _, _, _, none⟩) rfl (fun K hK => ?_) AllReadyH.nil
                  go_simp
                  refine hK.out _ _ ?_ (fun hHeld => ?_)
                  · exact ⟨by simp [go_sem, g0, ngb, nbg], by simp [go_sem, g1, ngb, nbg], by simp [go_sem, g2, ngb, nbg], by simp [go_sem, r0, nrg, ngr]⟩
                  clear hK K
                  try simp only [Act.put, List.setIfInBounds_toArray, List.set_cons_zero, List.set_cons_succ]
                  refine wpAnyH_done (by kernel_rfl) ?_ _
                  go_wp2_with fail
                  have hset := HR.out.set Y hY (xr + x2)
                  have hb := BV.setCell (p := ⟨w5.heap.size, Y, none⟩) (Nat.le_refl _) (.int .i64 (xr + x2))
                  go_meet
                  case rel =>
                    refine ⟨by simp [go_sem, g0, ngb, nbg], by simp [go_sem, g1, ngb, nbg], by simp [go_sem, g2, ngb, nbg], by simp [go_sem, r0, nrg, ngr], by simp [go_sem, r1, nrg, ngr], ?_, ?_⟩
                    · rw [← HL1.out, lastHalf_set ⟨by rw [HXR.out]; exact ex, .inr (by rw [HXR.out, HLY.out]; exact ez)⟩, HXR.out]; exact ⟨hset.lt, hset.cell, hset.fz, hset.ty⟩
                    · exact ⟨hb.os, hb.tape, hb.output, hb.size, hb.block⟩
                · have d3 : decide (xr + x2 < ly) = false := by rw [decide_eq_false_iff_not]; exact ez
                  go_wp2_with fail
                  go_quiet (fail)
                  go_wp2_with fail
                  go_meet
                  case rel => exact ⟨g0, g1, g2, r0, r1, by rw [← HL1.out, lastHalf_skip (by rw [HXR.out, HLY.out]; omega)]; exact ⟨HR.out.lt, HR.out.cell, HR.out.fz, HR.out.ty⟩, below_drewN BV _⟩
            · have d1 : decide (0 ≤ xr) = false := by rw [decide_eq_false_iff_not]; exact ex
              go_wp2_with fail
              go_quiet (fail)
              go_wp2_with fail
              go_meet
              case rel => exact ⟨g0, g1, g2, r0, r1, by rw [← HL1.out, lastHalf_skip (by rw [HXR.out]; omega)]; exact ⟨HR.out.lt, HR.out.cell, HR.out.fz, HR.out.ty⟩, below_drewN BV _⟩
          case rest =>
            obtain ⟨g0, g1, g2, r0, r1, hr, BV⟩ := hcut
            generalize wc = V at *
            obtain ⟨l2, hl2⟩ : ∃ l2, lastHalf (t A) l1 Y X x2 = l2 := ⟨_, rfl⟩
            have HL2 := Lib.hid hl2
            have hl2' : (s.ways.take (j + 1)).foldl (lastStep (t A)) ini = l2 := by rw [HFOLD.out, ← hl2, ← HL1.out]; rfl
            have HN := Lib.hid hl2'
            clear hl2 hl2'
            have cl := hr.cell X hX
            have fl := hr.fz X hX
            obtain ⟨ly, hly⟩ : ∃ ly, l1 X = ly := ⟨_, rfl⟩
            rw [hly] at cl
            have HLY := Lib.hid hly
            have HR := Lib.hid hr
            clear hly hr
            have hwx : IntKind.i64.wrap (yr + x2) = yr + x2 := IntWalk.i64_in _ (by omega)
            by_cases ex : 0 ≤ yr
            · by_cases ey : ly < 0
              · have d2 : decide (ly < 0) = true := by rw [decide_eq_true_iff]; exact ey
                go_wp2_with fail
                go_quiet (fail)
                go_wp2_with fail
                refine wp_region_held_drew (S := (fun w' => w'.cell? ⟨wr.heap.size, 0, none⟩ = some (.int .i64 (X : Int)) ∧ w'.cell? ⟨wr.heap.size, 1, none⟩ = some (.int .i64 (Y : Int)) ∧ w'.cell? ⟨wr.heap.size, 2, none⟩ = some (.int .i64 x2) ∧ w'.cell? ⟨rb A, Y, none⟩ = some (.int .i64 yr))) (by kernel_rfl) ?_ (fun hHeld => ?_)
                · exact ⟨g0, g1, g2, r1⟩
                refine wpAnyH_take (i := 0) (oi := ⟨some 144, _, _, _, _, none⟩) (v := ?_) rfl (by kernel_rfl) (by kernel_rfl) (by kernel_rfl) (fun _ _ _ h => h) (Or.inl ⟨by rfl, ?_⟩) (by assumption) ?_
                rotate_left
                · intro wz hSw; (try dsimp only at hSw); go_simp; (try with_reducible rfl)
                try simp only [Act.put, List.setIfInBounds_toArray, List.set_cons_zero, List.set_cons_succ]
                refine wpAnyH_take (i := 1) (oi := ⟨some 145, _, _, _, _, none⟩) (v := ?_) rfl (by kernel_rfl) (by kernel_rfl) (by kernel_rfl) (fun _ _ _ h => h) (Or.inl ⟨by rfl, ?_⟩) (by assumption) ?_
                rotate_left
                · intro wz hSw; (try dsimp only at hSw); go_simp; (try with_reducible rfl)
                try simp only [Act.put, List.setIfInBounds_toArray, List.set_cons_zero, List.set_cons_succ]
                refine wpAnyH_take (i := 2) (oi := ⟨some 146, _, _, _, _, none⟩) (v := ?_) rfl (by kernel_rfl) (by kernel_rfl) (by kernel_rfl) (fun _ _ _ h => h) (Or.inl ⟨by rfl, ?_⟩) (by assumption) ?_
                rotate_left
                · intro wz hSw; (try dsimp only at hSw); go_simp; (try with_reducible rfl)
                try simp only [Act.put, List.setIfInBounds_toArray, List.set_cons_zero, List.set_cons_succ]
                refine wpAnyH_take (i := 3) (oi := ⟨some 147, _, _, _, _, none⟩) (v := ?_) rfl (by kernel_rfl) (by kernel_rfl) (by kernel_rfl) (fun _ _ _ h => h) (Or.inl ⟨by rfl, ?_⟩) (by assumption) ?_
                rotate_left
                · intro wz hSw; (try dsimp only at hSw); go_simp; (try with_reducible rfl)
                try simp only [Act.put, List.setIfInBounds_toArray, List.set_cons_zero, List.set_cons_succ]
                refine wpAnyH_take (i := 4) (oi := ⟨some 148, _, _, _, _, none⟩) (v := ?_) rfl (by kernel_rfl) (by kernel_rfl) (by kernel_rfl) (fun _ _ _ h => h) (Or.inl ⟨by rfl, ?_⟩) (by assumption) ?_
                rotate_left
                · intro wz hSw; (try dsimp only at hSw); go_simp; (try with_reducible rfl)
                try simp only [Act.put, List.setIfInBounds_toArray, List.set_cons_zero, List.set_cons_succ]
                refine wpAnyH_take (i := 5) (oi := ⟨some 149, _, _, _, _, none⟩) (v := ?_) rfl (by kernel_rfl) (by kernel_rfl) (by kernel_rfl) (fun _ _ _ h => h) (Or.inl ⟨by rfl, ?_⟩) (by assumption) ?_
                rotate_left
                · intro wz hSw; (try dsimp only at hSw); go_simp; (try with_reducible rfl)
                try simp only [Act.put, List.setIfInBounds_toArray, List.set_cons_zero, List.set_cons_succ]
                refine wpAnyH_take (i := 6) (oi := ⟨some 150, _, _, _, _, none⟩) (v := ?_) rfl (by kernel_rfl) (by kernel_rfl) (by kernel_rfl) (fun _ _ _ h => h) (Or.inl ⟨by rfl, ?_⟩) (by assumption) ?_
                rotate_left
                · intro wz hSw; (try dsimp only at hSw); go_simp; (try with_reducible rfl)
                try simp only [Act.put, List.setIfInBounds_toArray, List.set_cons_zero, List.set_cons_succ]
                refine wpAnyH_take (i := 7) (oi := ⟨some 151, _, _, _, _, none⟩) (v := ?_) rfl (by kernel_rfl) (by kernel_rfl) (by kernel_rfl) (fun _ _ _ h => h) (Or.inl ⟨by rfl, ?_⟩) (by assumption) ?_
                rotate_left
                · intro wz hSw; (try dsimp only at hSw); go_simp; (try with_reducible rfl)
                try simp only [Act.put, List.setIfInBounds_toArray, List.set_cons_zero, List.set_cons_succ]
                refine wpAnyH_take (i := 8) (oi := ⟨some 152, _, _, _, _, none⟩) (v := ?_) rfl (by kernel_rfl) (by kernel_rfl) (by kernel_rfl) (fun _ _ _ h => h) (Or.inl ⟨by rfl, ?_⟩) (by assumption) ?_
                rotate_left
                · intro wz hSw; (try dsimp only at hSw); go_simp; (try with_reducible rfl)
                try simp only [Act.put, List.setIfInBounds_toArray, List.set_cons_zero, List.set_cons_succ]
                refine wpAnyH_take (i := 9) (oi := ⟨some 153, _, _, _, _, none⟩) (v := ?_) rfl (by kernel_rfl) (by kernel_rfl) (by kernel_rfl) (fun _ _ _ h => h) (Or.inl ⟨by rfl, ?_⟩) (by assumption) ?_
                rotate_left
                · intro wz hSw; (try dsimp only at hSw); go_simp; (try with_reducible rfl)
                try simp only [Act.put, List.setIfInBounds_toArray, List.set_cons_zero, List.set_cons_succ]
                refine wpAnyH_take (i := 10) (oi := ⟨some 154, _, _, _, _, none⟩) (v := ?_) rfl (by kernel_rfl) (by kernel_rfl) (by kernel_rfl) (fun _ _ _ h => h) (Or.inl ⟨by rfl, ?_⟩) (by assumption) ?_
                rotate_left
                · intro wz hSw; (try dsimp only at hSw); go_simp; (try with_reducible rfl)
                try simp only [Act.put, List.setIfInBounds_toArray, List.set_cons_zero, List.set_cons_succ]
                refine wpAnyH_take (i := 11) (oi := ⟨some 155, _, _, _, _, none⟩) (v := ?_) rfl (by kernel_rfl) (by kernel_rfl) (by kernel_rfl) (fun _ _ _ h => h) (Or.inl ⟨by rfl, ?_⟩) (by assumption) ?_
                rotate_left
                · intro wz hSw; (try dsimp only at hSw); go_simp; (try with_reducible rfl)
                try simp only [Act.put, List.setIfInBounds_toArray, List.set_cons_zero, List.set_cons_succ]
                refine wpAnyH_ready (rs := [12]) (by kernel_rfl) (by simp) ?_
                refine AllReadyH.cons (o := ⟨none, _, _, _, _, none⟩) rfl (fun K hK => ?_) AllReadyH.nil
                go_simp
                refine hK.out _ _ ?_ (fun hHeld => ?_)
                · exact ⟨by simp [go_sem, g0, ngb, nbg], by simp [go_sem, g1, ngb, nbg], by simp [go_sem, g2, ngb, nbg], by simp [go_sem, r1, nrg, ngr]⟩
                clear hK K
                try simp only [Act.put, List.setIfInBounds_toArray, List.set_cons_zero, List.set_cons_succ]
                refine wpAnyH_done (by kernel_rfl) ?_ _
                go_wp2_with fail
                have hset := HR.out.set X hX (yr + x2)
                have hb := BV.setCell (p := ⟨w5.heap.size, X, none⟩) (Nat.le_refl _) (.int .i64 (yr + x2))
                go_roundg (q.wl - (j + 1))
                case measure => omega
                case rel =>
                  refine ⟨j + 1, by omega, rfl, by go_num, ?_, ?_⟩
                  · rw [HN.out, ← HL2.out, lastHalf_set ⟨by rw [HYR.out]; exact ex, .inl (by rw [HLY.out]; exact ey)⟩, HYR.out]; exact ⟨hset.lt, hset.cell, hset.fz, hset.ty⟩
                  · exact ⟨hb.os, hb.tape, hb.output, hb.size, hb.block⟩
              · have d2 : decide (ly < 0) = false := by rw [decide_eq_false_iff_not]; exact ey
                by_cases ez : yr + x2 < ly
                · have d3 : decide (yr + x2 < ly) = true := by rw [decide_eq_true_iff]; exact ez
                  go_wp2_with fail
                  go_quiet (fail)
                  go_wp2_with fail
                  refine wp_region_held_drew (S := (fun w' => w'.cell? ⟨wr.heap.size, 0, none⟩ = some (.int .i64 (X : Int)) ∧ w'.cell? ⟨wr.heap.size, 1, none⟩ = some (.int .i64 (Y : Int)) ∧ w'.cell? ⟨wr.heap.size, 2, none⟩ = some (.int .i64 x2) ∧ w'.cell? ⟨rb A, Y, none⟩ = some (.int .i64 yr))) (by kernel_rfl) ?_ (fun hHeld => ?_)
                  · exact ⟨g0, g1, g2, r1⟩
                  refine wpAnyH_take (i := 0) (oi := ⟨some 144, _, _, _, _, none⟩) (v := ?_) rfl (by kernel_rfl) (by kernel_rfl) (by kernel_rfl) (fun _ _ _ h => h) (Or.inl ⟨by rfl, ?_⟩) (by assumption) ?_
                  rotate_left
                  · intro wz hSw; (try dsimp only at hSw); go_simp; (try with_reducible rfl)
                  try simp only [Act.put, List.setIfInBounds_toArray, List.set_cons_zero, List.set_cons_succ]
                  refine wpAnyH_take (i := 1) (oi := ⟨some 145, _, _, _, _, none⟩) (v := ?_) rfl (by kernel_rfl) (by kernel_rfl) (by kernel_rfl) (fun _ _ _ h => h) (Or.inl ⟨by rfl, ?_⟩) (by assumption) ?_
                  rotate_left
                  · intro wz hSw; (try dsimp only at hSw); go_simp; (try with_reducible rfl)
                  try simp only [Act.put, List.setIfInBounds_toArray, List.set_cons_zero, List.set_cons_succ]
                  refine wpAnyH_take (i := 2) (oi := ⟨some 146, _, _, _, _, none⟩) (v := ?_) rfl (by kernel_rfl) (by kernel_rfl) (by kernel_rfl) (fun _ _ _ h => h) (Or.inl ⟨by rfl, ?_⟩) (by assumption) ?_
                  rotate_left
                  · intro wz hSw; (try dsimp only at hSw); go_simp; (try with_reducible rfl)
                  try simp only [Act.put, List.setIfInBounds_toArray, List.set_cons_zero, List.set_cons_succ]
                  refine wpAnyH_take (i := 3) (oi := ⟨some 147, _, _, _, _, none⟩) (v := ?_) rfl (by kernel_rfl) (by kernel_rfl) (by kernel_rfl) (fun _ _ _ h => h) (Or.inl ⟨by rfl, ?_⟩) (by assumption) ?_
                  rotate_left
                  · intro wz hSw; (try dsimp only at hSw); go_simp; (try with_reducible rfl)
                  try simp only [Act.put, List.setIfInBounds_toArray, List.set_cons_zero, List.set_cons_succ]
                  refine wpAnyH_take (i := 4) (oi := ⟨some 148, _, _, _, _, none⟩) (v := ?_) rfl (by kernel_rfl) (by kernel_rfl) (by kernel_rfl) (fun _ _ _ h => h) (Or.inl ⟨by rfl, ?_⟩) (by assumption) ?_
                  rotate_left
                  · intro wz hSw; (try dsimp only at hSw); go_simp; (try with_reducible rfl)
                  try simp only [Act.put, List.setIfInBounds_toArray, List.set_cons_zero, List.set_cons_succ]
                  refine wpAnyH_take (i := 5) (oi := ⟨some 149, _, _, _, _, none⟩) (v := ?_) rfl (by kernel_rfl) (by kernel_rfl) (by kernel_rfl) (fun _ _ _ h => h) (Or.inl ⟨by rfl, ?_⟩) (by assumption) ?_
                  rotate_left
                  · intro wz hSw; (try dsimp only at hSw); go_simp; (try with_reducible rfl)
                  try simp only [Act.put, List.setIfInBounds_toArray, List.set_cons_zero, List.set_cons_succ]
                  refine wpAnyH_take (i := 6) (oi := ⟨some 150, _, _, _, _, none⟩) (v := ?_) rfl (by kernel_rfl) (by kernel_rfl) (by kernel_rfl) (fun _ _ _ h => h) (Or.inl ⟨by rfl, ?_⟩) (by assumption) ?_
                  rotate_left
                  · intro wz hSw; (try dsimp only at hSw); go_simp; (try with_reducible rfl)
                  try simp only [Act.put, List.setIfInBounds_toArray, List.set_cons_zero, List.set_cons_succ]
                  refine wpAnyH_take (i := 7) (oi := ⟨some 151, _, _, _, _, none⟩) (v := ?_) rfl (by kernel_rfl) (by kernel_rfl) (by kernel_rfl) (fun _ _ _ h => h) (Or.inl ⟨by rfl, ?_⟩) (by assumption) ?_
                  rotate_left
                  · intro wz hSw; (try dsimp only at hSw); go_simp; (try with_reducible rfl)
                  try simp only [Act.put, List.setIfInBounds_toArray, List.set_cons_zero, List.set_cons_succ]
                  refine wpAnyH_take (i := 8) (oi := ⟨some 152, _, _, _, _, none⟩) (v := ?_) rfl (by kernel_rfl) (by kernel_rfl) (by kernel_rfl) (fun _ _ _ h => h) (Or.inl ⟨by rfl, ?_⟩) (by assumption) ?_
                  rotate_left
                  · intro wz hSw; (try dsimp only at hSw); go_simp; (try with_reducible rfl)
                  try simp only [Act.put, List.setIfInBounds_toArray, List.set_cons_zero, List.set_cons_succ]
                  refine wpAnyH_take (i := 9) (oi := ⟨some 153, _, _, _, _, none⟩) (v := ?_) rfl (by kernel_rfl) (by kernel_rfl) (by kernel_rfl) (fun _ _ _ h => h) (Or.inl ⟨by rfl, ?_⟩) (by assumption) ?_
                  rotate_left
                  · intro wz hSw; (try dsimp only at hSw); go_simp; (try with_reducible rfl)
                  try simp only [Act.put, List.setIfInBounds_toArray, List.set_cons_zero, List.set_cons_succ]
                  refine wpAnyH_take (i := 10) (oi := ⟨some 154, _, _, _, _, none⟩) (v := ?_) rfl (by kernel_rfl) (by kernel_rfl) (by kernel_rfl) (fun _ _ _ h => h) (Or.inl ⟨by rfl, ?_⟩) (by assumption) ?_
                  rotate_left
                  · intro wz hSw; (try dsimp only at hSw); go_simp; (try with_reducible rfl)
                  try simp only [Act.put, List.setIfInBounds_toArray, List.set_cons_zero, List.set_cons_succ]
                  refine wpAnyH_take (i := 11) (oi := ⟨some 155, _, _, _, _, none⟩) (v := ?_) rfl (by kernel_rfl) (by kernel_rfl) (by kernel_rfl) (fun _ _ _ h => h) (Or.inl ⟨by rfl, ?_⟩) (by assumption) ?_
                  rotate_left
                  · intro wz hSw; (try dsimp only at hSw); go_simp; (try with_reducible rfl)
                  try simp only [Act.put, List.setIfInBounds_toArray, List.set_cons_zero, List.set_cons_succ]
                  refine wpAnyH_ready (rs := [12]) (by kernel_rfl) (by simp) ?_
                  refine AllReadyH.cons (o := ⟨none, _, _, _, _, none⟩) rfl (fun K hK => ?_) AllReadyH.nil
                  go_simp
                  refine hK.out _ _ ?_ (fun hHeld => ?_)
                  · exact ⟨by simp [go_sem, g0, ngb, nbg], by simp [go_sem, g1, ngb, nbg], by simp [go_sem, g2, ngb, nbg], by simp [go_sem, r1, nrg, ngr]⟩
                  clear hK K
                  try simp only [Act.put, List.setIfInBounds_toArray, List.set_cons_zero, List.set_cons_succ]
                  refine wpAnyH_done (by kernel_rfl) ?_ _
                  go_wp2_with fail
                  have hset := HR.out.set X hX (yr + x2)
                  have hb := BV.setCell (p := ⟨w5.heap.size, X, none⟩) (Nat.le_refl _) (.int .i64 (yr + x2))
                  go_roundg (q.wl - (j + 1))
                  case measure => omega
                  case rel =>
                    refine ⟨j + 1, by omega, rfl, by go_num, ?_, ?_⟩
                    · rw [HN.out, ← HL2.out, lastHalf_set ⟨by rw [HYR.out]; exact ex, .inr (by rw [HYR.out, HLY.out]; exact ez)⟩, HYR.out]; exact ⟨hset.lt, hset.cell, hset.fz, hset.ty⟩
                    · exact ⟨hb.os, hb.tape, hb.output, hb.size, hb.block⟩
                · have d3 : decide (yr + x2 < ly) = false := by rw [decide_eq_false_iff_not]; exact ez
                  go_wp2_with fail
                  go_quiet (fail)
                  go_wp2_with fail
                  go_roundg (q.wl - (j + 1))
                  case measure => omega
                  case rel => exact ⟨j + 1, by omega, rfl, by go_num, by rw [HN.out, ← HL2.out, lastHalf_skip (by rw [HYR.out, HLY.out]; omega)]; exact ⟨HR.out.lt, HR.out.cell, HR.out.fz, HR.out.ty⟩, below_drewN BV _⟩
            · have d1 : decide (0 ≤ yr) = false := by rw [decide_eq_false_iff_not]; exact ex
              go_wp2_with fail
              go_quiet (fail)
              go_wp2_with fail
              go_roundg (q.wl - (j + 1))
              case measure => omega
              case rel => exact ⟨j + 1, by omega, rfl, by go_num, by rw [HN.out, ← HL2.out, lastHalf_skip (by rw [HYR.out]; omega)]; exact ⟨HR.out.lt, HR.out.cell, HR.out.fz, HR.out.ty⟩, below_drewN BV _⟩
        · obtain rfl : q.wl = j := by omega
          have htk : s.ways.take q.wl = s.ways := List.take_of_length_le (by have := HWL.out; omega)
          rw [htk] at HRJ
          have hrow : RowAt wr w5.heap.size P (t A) := HRJ.out.same fun v hv => by rw [← HI.out]; exact last_is hw HD.out hAP hv
          have HROW := Lib.hid hrow
          have HTR := Lib.hid (HT.out.below Bj)
          clear htk hrow HRJ
          go_wp2_with fail
          go_loopg [12] P (fun g i wz => ∃ k : Nat, k ≤ P ∧ g = P - k ∧ i = .int .i64 k ∧ ∃ n, wz = wr.drewN n)
          case atStart => exact ⟨0, by omega, by omega, rfl, 0, rfl⟩
          case round =>
            obtain ⟨k, hk, rfl, rfl, n, rfl⟩ := hrel
            by_cases hlt : k < P
            · have hk0 : (0 : Int) ≤ (k : Int) := by omega
              have hk1 : (k : Int) < (P : Int) := by omega
              have c3 := HTR.out.cell A k hAP hlt
              have c4 := HROW.out.cell k hlt
              go_wp2_with fail
              go_quiet (fail)
              go_wp2_with fail
              go_roundg (P - (k + 1))
              case measure => omega
              case rel => exact ⟨k + 1, by omega, rfl, by go_num, _, by first | rfl | exact World.drewN_drewN _ _ _⟩
            · obtain rfl : P = k := by omega
              go_wp2_with fail
              go_ret
              exact ⟨rfl, below_drewN (B0.trans (Bj.mono (by omega))) n⟩
end Go.Proofs.Ytbfmkoahlnceoaa
