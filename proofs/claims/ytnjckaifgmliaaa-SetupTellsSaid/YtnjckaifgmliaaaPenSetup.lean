/- THE WALK of layer 7's setup, with a pen; a setup's bytes. -/
import Derived.Test.YtnjckaifgmliaaaPenList
import Derived.Test.YtnjckaifgmliaaaSetupCheck
import Derived.Test.YtnjckaifgmliaaaBlocks
set_option linter.unusedSimpArgs false
set_option linter.unusedVariables false
namespace Go.Proofs.Ytnjckaifgmliaaa
open Go.RowKit Lu

theorem flatMap_at {α : Type} (f : α → List Int) (K : Nat) (hf : ∀ x, (f x).length = K) : ∀ (l : List α) (m : Nat) (z : Int), (l.flatMap f)[m]? = some z → ∃ i j x, m = i * K + j ∧ j < K ∧ l[i]? = some x ∧ (f x)[j]? = some z
  | [], m, z, h => by simp at h
  | x :: l, m, z, h => by
    rw [List.flatMap_cons] at h
    by_cases hm : m < K
    · rw [List.getElem?_append_left (by rw [hf]; exact hm)] at h
      exact ⟨0, m, x, by omega, hm, rfl, h⟩
    · rw [List.getElem?_append_right (by rw [hf]; omega), hf] at h
      obtain ⟨i, j, y, e, hj, hy, hz⟩ := flatMap_at f K hf l (m - K) z h
      exact ⟨i + 1, j, y, by rw [Nat.succ_mul]; omega, hj, hy, hz⟩
theorem PenIs.ne {W : World} {H : Nat} {out : List Int} (h : PenIs W H out) {b o : Nat} {k : IntKind} {z : Int} (hc : W.cell? ⟨b, o, none⟩ = some (.int k z)) : b ≠ H := by
  rintro rfl
  obtain ⟨a, n, c, ok, hH, _⟩ := h
  rcases (show o = 0 ∨ o = 1 ∨ 2 ≤ o by omega) with rfl | rfl | ho
  · simp [World.cell?, hH] at hc
  · simp [World.cell?, hH] at hc
  · simp [World.cell?, hH, ho] at hc
theorem grp_ways {W : World} {H : Nat} {a : Option Addr} {n : Nat} {l : List (Int × Int × Int)} (h : Recs3 W a n l) (hp : ∀ (b o : Nat) (k : IntKind) (z : Int), W.cell? ⟨b, o, none⟩ = some (.int k z) → b ≠ H) : Grp W H a n 3 (flat3i l) := by
  obtain ⟨hl, _, _, hc⟩ := h
  refine ⟨by rw [flat3i_length, hl], ?_⟩
  rcases hc with h0 | ⟨b, off, ha, _, hc⟩
  · exact .inl h0
  · by_cases hz : n = 0
    · exact .inl hz
    · refine .inr ⟨b, off, ha, hp b _ _ _ (hc 0 (by omega)).1, fun m z hm => ?_⟩
      obtain ⟨i, j, x, rfl, hj, hx, hjz⟩ := flatMap_at (fun r : Int × Int × Int => [r.1, r.2.1, r.2.2]) 3 (fun _ => rfl) l m z hm
      have hi : i < n := by rw [← hl]; exact (List.getElem?_eq_some_iff.1 hx).1
      have hk := hc i hi
      rw [List.getD_eq_getElem?_getD, hx] at hk
      simp only [Option.getD_some] at hk
      rcases (show j = 0 ∨ j = 1 ∨ j = 2 by omega) with rfl | rfl | rfl
      · simp at hjz; subst hjz; simpa using hk.1
      · simp at hjz; subst hjz; have := hk.2.1; rw [Nat.add_assoc] at this; simpa using this
      · simp at hjz; subst hjz; have := hk.2.2; rw [Nat.add_assoc] at this; simpa using this
theorem grp_elements {W : World} {H : Nat} {a : Option Addr} {n : Nat} {l : List (Int × Int × Int × Int)} (h : Recs4 W a n l) (hp : ∀ (b o : Nat) (k : IntKind) (z : Int), W.cell? ⟨b, o, none⟩ = some (.int k z) → b ≠ H) : Grp W H a n 4 (flat4 l) := by
  obtain ⟨hl, _, _, hc⟩ := h
  refine ⟨by rw [flat4_length, hl], ?_⟩
  rcases hc with h0 | ⟨b, off, ha, _, hc⟩
  · exact .inl h0
  · by_cases hz : n = 0
    · exact .inl hz
    · refine .inr ⟨b, off, ha, hp b _ _ _ (hc 0 (by omega)).1, fun m z hm => ?_⟩
      obtain ⟨i, j, x, rfl, hj, hx, hjz⟩ := flatMap_at (fun r : Int × Int × Int × Int => [r.1, r.2.1, r.2.2.1, r.2.2.2]) 4 (fun _ => rfl) l m z hm
      have hi : i < n := by rw [← hl]; exact (List.getElem?_eq_some_iff.1 hx).1
      have hk := hc i hi
      rw [List.getD_eq_getElem?_getD, hx] at hk
      simp only [Option.getD_some] at hk
      rcases (show j = 0 ∨ j = 1 ∨ j = 2 ∨ j = 3 by omega) with rfl | rfl | rfl | rfl
      · simp at hjz; subst hjz; simpa using hk.1
      · simp at hjz; subst hjz; have := hk.2.1; rw [Nat.add_assoc] at this; simpa using this
      · simp at hjz; subst hjz; have := hk.2.2.1; rw [Nat.add_assoc] at this; simpa using this
      · simp at hjz; subst hjz; have := hk.2.2.2; rw [Nat.add_assoc] at this; simpa using this
theorem grp_pairs {W : World} {H : Nat} {a : Option Addr} {n : Nat} {l : List (Int × Int)} (h : Ratios W a n l) (hp : ∀ (b o : Nat) (k : IntKind) (z : Int), W.cell? ⟨b, o, none⟩ = some (.int k z) → b ≠ H) : Grp W H a n 2 (flat2 l) := by
  obtain ⟨hl, _, _, hc⟩ := h
  refine ⟨by rw [flat2_length, hl], ?_⟩
  rcases hc with h0 | ⟨b, off, ha, _, hc⟩
  · exact .inl h0
  · by_cases hz : n = 0
    · exact .inl hz
    · refine .inr ⟨b, off, ha, hp b _ _ _ (hc 0 (by omega)).1, fun m z hm => ?_⟩
      obtain ⟨i, j, x, rfl, hj, hx, hjz⟩ := flatMap_at (fun r : Int × Int => [r.1, r.2]) 2 (fun _ => rfl) l m z hm
      have hi : i < n := by rw [← hl]; exact (List.getElem?_eq_some_iff.1 hx).1
      have hk := hc i hi
      rw [List.getD_eq_getElem?_getD, hx] at hk
      simp only [Option.getD_some] at hk
      rcases (show j = 0 ∨ j = 1 by omega) with rfl | rfl
      · simp at hjz; subst hjz; simpa using hk.1
      · simp at hjz; subst hjz; have := hk.2; rw [Nat.add_assoc] at this; simpa using this
theorem grp_ints {W : World} {H : Nat} {a : Option Addr} {n : Nat} {l : List Int} (h : Ints W a n l) (hp : ∀ (b o : Nat) (k : IntKind) (z : Int), W.cell? ⟨b, o, none⟩ = some (.int k z) → b ≠ H) : Grp W H a n 1 l := by
  obtain ⟨hl, _, _, hc⟩ := h
  refine ⟨by omega, ?_⟩
  rcases hc with h0 | ⟨b, off, ha, hc⟩
  · exact .inl h0
  · by_cases hz : n = 0
    · exact .inl hz
    · refine .inr ⟨b, off, ha, hp b _ _ _ (hc 0 (by omega)), fun m z hm => ?_⟩
      have := hc m (by rw [← hl]; exact (List.getElem?_eq_some_iff.1 hm).1)
      rw [List.getD_eq_getElem?_getD, hm] at this
      exact this

theorem PenEnv.start {W : World} {H : Nat} {out : List Int} (hp : PenIs W H out) : PenEnv ((W.alloc (.cells #[.iface 64 (.pointer (some ⟨H, 0, none⟩))] 94)).alloc (.cells #[shareFn W.heap.size] 98)) H W.heap.size (W.heap.size + 1) out := by
  have k : Below W.heap.size W ((W.alloc (.cells #[.iface 64 (.pointer (some ⟨H, 0, none⟩))] 94)).alloc (.cells #[shareFn W.heap.size] 98)) := by go_grown
  have := hp.lt
  exact ⟨hp.below k, by simp [go_sem], by simp [go_sem], by omega, by omega⟩
set_option maxRecDepth 100000 in
set_option maxHeartbeats 4000000 in
theorem pen_setup (s : Setup) (q : Slices) (H S : Nat) (W : World) (h : SetupIs W s q) (hc : setupP s = true) (hp : PenIs W H []) (hS : W.heap[S]? = some (.cells #[.int .i64 s.places, .slice q.wa q.wl q.wc, .int .i64 s.pn, .int .i64 s.pd, .slice q.ea q.el q.ec, .slice q.ca q.cl q.cc, .slice q.ga q.gl q.gc, .int .i64 s.allow, .int .i64 s.unit, .int .i64 s.cap, .int .i64 s.paidBreak, .int .i64 s.autoAfter, .int .i64 s.autoBreak, .int .i64 s.dayReg, .int .i64 s.dayOver, .int .i64 s.weekReg, .int .i64 s.nightFrom, .int .i64 s.nightTo, .slice q.ra q.rl q.rc, .int .i64 s.diff, .int .i64 s.least, .int .i64 s.fault, .slice q.ta q.tl q.tc] 30)) (hn : S ≠ H) :
    Calls Try.prog 34 #[.iface 64 (.pointer (some ⟨H, 0, none⟩)), .pointer (some ⟨S, 0, none⟩)] W fun e W' => e = .returned (.tuple #[]) ∧ PenIs W' H (manyP (numbersP s)) ∧ Off H W W' := by
  have na : ∀ w, (nilAhead 274 64 (.pointer (some ⟨H, 0, none⟩)) "lumper/setup.put").run Try.prog w = .ok (some false) w := nil_ahead_pen _
  have ma : ∀ w, (method 274 64 (.pointer (some ⟨H, 0, none⟩)) "lumper/setup.put").run Try.prog w = .ok (138, .pointer (some ⟨H, 0, none⟩)) w := method_pen _
  obtain ⟨sh1, sh2, sh3, sh4, sh5, sh6⟩ := setup_short hc
  have hpk := setup_pk hc
  have ne : ∀ (b o : Nat) (k : IntKind) (z : Int), W.cell? ⟨b, o, none⟩ = some (.int k z) → b ≠ H := fun b o k z hz => hp.ne hz
  have G1 := Lib.hid (grp_ways h.ways ne)
  have G2 := Lib.hid (grp_elements h.elements ne)
  have G3 := Lib.hid (grp_pairs h.classes ne)
  have G4 := Lib.hid (grp_pairs h.gears ne)
  have G5 := Lib.hid (grp_ints h.rates ne)
  have G6 := Lib.hid (grp_pairs h.tiers ne)
  have l1 := h.ways.1; have l2 := h.elements.1; have l3 := h.classes.1; have l4 := h.gears.1; have l5 := h.rates.1; have l6 := h.tiers.1
  have hlt := hp.lt
  have env := PenEnv.start hp
  have k0 : Below W.heap.size W ((W.alloc (.cells #[.iface 64 (.pointer (some ⟨H, 0, none⟩))] 94)).alloc (.cells #[shareFn W.heap.size] 98)) := by go_grown
  have hSz := block_lt hS
  have hS1 := box_keep k0 hS hSz
  have oo : Off H W ((W.alloc (.cells #[.iface 64 (.pointer (some ⟨H, 0, none⟩))] 94)).alloc (.cells #[shareFn W.heap.size] 98)) := Below.off k0
  simp only [numbersP, List.mem_append, or_imp, forall_and] at hpk
  obtain ⟨p0, _, p1, p2, _, p3, _, p4, _, p5, p6, _, p7, p8, _, p9⟩ := hpk
  have PK := Lib.hid (And.intro p0 (And.intro p1 (And.intro p2 (And.intro p3 (And.intro p4 (And.intro p5 (And.intro p6 (And.intro p7 (And.intro p8 p9)))))))))
  clear p0 p1 p2 p3 p4 p5 p6 p7 p8 p9 h hc hp hS ne k0
  go_enter Try.func34, Try.ntmps34
  have c1 : ((W.alloc (.cells #[.iface 64 (.pointer (some ⟨H, 0, none⟩))] 94)).alloc (.cells #[.nilFunc] 98)).cell? ⟨W.heap.size + 1, 0, none⟩ = some .nilFunc := by simp [go_sem]
  have f1 : ((W.alloc (.cells #[.iface 64 (.pointer (some ⟨H, 0, none⟩))] 94)).alloc (.cells #[.nilFunc] 98)).frozen? ⟨W.heap.size + 1, 0, none⟩ = false := by simp [go_sem]
  have rs : ∀ (w : World) (a : Addr) (f : Fn) (x y : Array Value) (m), (store a (.func f x y) m).run Try.prog w = stored Try.prog w a (.func f x y) m := fun w a f x y m => run_store Try.prog w a _ m rfl
  go_upto_region 2 with fail
  refine gen_code (S := fun V => PenEnv V H W.heap.size (W.heap.size + 1) [] ∧ V.heap[S]? = some (.cells #[.int .i64 s.places, .slice q.wa q.wl q.wc, .int .i64 s.pn, .int .i64 s.pd, .slice q.ea q.el q.ec, .slice q.ca q.cl q.cc, .slice q.ga q.gl q.gc, .int .i64 s.allow, .int .i64 s.unit, .int .i64 s.cap, .int .i64 s.paidBreak, .int .i64 s.autoAfter, .int .i64 s.autoBreak, .int .i64 s.dayReg, .int .i64 s.dayOver, .int .i64 s.weekReg, .int .i64 s.nightFrom, .int .i64 s.nightTo, .slice q.ra q.rl q.rc, .int .i64 s.diff, .int .i64 s.least, .int .i64 s.fault, .slice q.ta q.tl q.tc] 30) ∧ Off H W V) ⟨env, hS1, oo⟩ (fun V hV => ?_)
  clear env hS1 oo
  obtain ⟨he, hS, ho⟩ := hV
  obtain ⟨o0, hO0⟩ : ∃ o : List Int, [] = o := ⟨_, rfl⟩
  rw [hO0] at he
  have hb : o0.length ≤ 0 := by rw [← hO0]; decide
  have HO0 := Lib.hid hO0
  clear hO0
  have kd : Below V.heap.size V V.drew := (Below.refl _ _).drew
  have hed := he.below kd
  have hod := ho.trans (Below.off kd)
  have hat : At V S 0 [s.places] := by
    intro i z hz
    have hi : i < 1 := by simpa using (List.getElem?_eq_some_iff.1 hz).1
    show V.cell? _ = _
    rcases (show i = 0 by omega) with rfl <;> (simp only [List.getElem?_cons_zero, List.getElem?_cons_succ, Option.some.injEq] at hz; subst hz; simp [World.cell?, hS])
  have KEY := Lib.hid (pen_put_new [(S, 0)] he hat hn rfl PK.out.1 (by omega) (by simp))
  have hml := manyP_len PK.out.1
  simp only [List.length_cons, List.length_nil] at hml
  have g0 := hed.hb
  have g1 := hed.sb
  unfold shareFn at g1
  refine wp_region_held_drew (S := (fun w' => w'.cell? ⟨W.heap.size, 0, none⟩ = some (.iface 64 (.pointer (some ⟨H, 0, none⟩))) ∧ w'.cell? ⟨(W.heap.size + 1), 0, none⟩ = some (.func (.func 70) #[] #[.pointer (some ⟨W.heap.size, 0, none⟩)]))) (by kernel_rfl) ?_ (fun hHeld => ?_)
  · exact ⟨g0, g1⟩
  refine wpAnyH_take (i := 0) (oi := ⟨some 6, _, _, _, _, none⟩) (v := ?_) rfl (by kernel_rfl) (by kernel_rfl) (by kernel_rfl) (fun _ _ _ h => h) (Or.inl ⟨by rfl, ?_⟩) (by assumption) ?_
  rotate_left
  · intro wz hSw; (try dsimp only at hSw); go_simp; (try with_reducible rfl)
  try simp only [Act.put, List.setIfInBounds_toArray, List.set_cons_zero, List.set_cons_succ]
  refine wpAnyH_take (i := 1) (oi := ⟨some 7, _, _, _, _, none⟩) (v := ?_) rfl (by kernel_rfl) (by kernel_rfl) (by kernel_rfl) (fun _ _ _ h => h) (Or.inl ⟨by rfl, ?_⟩) (by assumption) ?_
  rotate_left
  · intro wz hSw; (try dsimp only at hSw); go_simp; (try with_reducible rfl)
  try simp only [Act.put, List.setIfInBounds_toArray, List.set_cons_zero, List.set_cons_succ]
  refine wpAnyH_take (i := 2) (oi := ⟨some 8, _, _, _, _, none⟩) (v := ?_) rfl (by kernel_rfl) (by kernel_rfl) (by kernel_rfl) (fun _ _ _ h => h) (Or.inl ⟨by rfl, ?_⟩) (by assumption) ?_
  rotate_left
  · intro wz hSw; (try dsimp only at hSw); go_simp; (try with_reducible rfl)
  try simp only [Act.put, List.setIfInBounds_toArray, List.set_cons_zero, List.set_cons_succ]
  refine wpAnyH_take (i := 3) (oi := ⟨some 9, _, _, _, _, none⟩) (v := ?_) rfl (by kernel_rfl) (by kernel_rfl) (by kernel_rfl) (fun _ _ _ h => h) (Or.inl ⟨by rfl, ?_⟩) (by assumption) ?_
  rotate_left
  · intro wz hSw; (try dsimp only at hSw); go_simp; (try with_reducible rfl)
  try simp only [Act.put, List.setIfInBounds_toArray, List.set_cons_zero, List.set_cons_succ]
  refine wpAnyH_take (i := 5) (oi := ⟨some 11, _, _, _, _, none⟩) (v := ?_) rfl (by kernel_rfl) (by kernel_rfl) (by kernel_rfl) (fun _ _ _ h => h) (Or.inl ⟨by rfl, ?_⟩) (by assumption) ?_
  rotate_left
  · intro wz hSw; (try dsimp only at hSw); go_simp; (try with_reducible rfl)
  try simp only [Act.put, List.setIfInBounds_toArray, List.set_cons_zero, List.set_cons_succ]
  refine wpAnyH_take (i := 6) (oi := ⟨some 12, _, _, _, _, none⟩) (v := ?_) rfl (by kernel_rfl) (by kernel_rfl) (by kernel_rfl) (fun _ _ _ h => h) (Or.inl ⟨by rfl, ?_⟩) (by assumption) ?_
  rotate_left
  · intro wz hSw; (try dsimp only at hSw); go_simp; (try with_reducible rfl)
  try simp only [Act.put, List.setIfInBounds_toArray, List.set_cons_zero, List.set_cons_succ]
  refine wpAnyH_take (i := 7) (oi := ⟨some 13, _, _, _, _, none⟩) (v := ?_) rfl (by kernel_rfl) (by kernel_rfl) (by kernel_rfl) (fun _ _ _ h => h) (Or.inl ⟨by rfl, ?_⟩) (by assumption) ?_
  rotate_left
  · intro wz hSw; (try dsimp only at hSw); go_simp; (try with_reducible rfl)
  try simp only [Act.put, List.setIfInBounds_toArray, List.set_cons_zero, List.set_cons_succ]
  refine wpAnyH_ready (rs := [4]) (by kernel_rfl) (by simp) ?_
  refine AllReadyH.cons (o := ⟨some 10, _, _, _, _, none⟩) rfl (fun K hK => ?_) AllReadyH.nil
  go_simp
  replace g0 := keepA (.cells #[.pointer (some ⟨S, 0, none⟩)] 97) g0
  replace g1 := keepA (.cells #[.pointer (some ⟨S, 0, none⟩)] 97) g1
  refine hK.out _ _ ?_ (fun hHeld => ?_)
  · exact ⟨g0, g1⟩
  clear hK K
  try simp only [Act.put, List.setIfInBounds_toArray, List.set_cons_zero, List.set_cons_succ]
  refine wpAnyH_ready (rs := [8]) (by kernel_rfl) (by simp) ?_
  refine AllReadyH.cons (o := ⟨some 14, _, _, _, _, none⟩) rfl (fun K hK => ?_) AllReadyH.nil
  go_simp
  refine KEY.out.mono ?_
  rintro e1 w1 ⟨rfl, he', ho'⟩
  replace g0 := he'.hb
  replace g1 := he'.sb
  unfold shareFn at g1
  refine hK.out _ _ ?_ (fun hHeld => ?_)
  · exact ⟨g0, g1⟩
  clear hK K
  try simp only [Act.put, List.setIfInBounds_toArray, List.set_cons_zero, List.set_cons_succ]
  refine wpAnyH_done (by kernel_rfl) ?_ _
  replace ho := ho.trans ho'
  replace hS := ho'.at hS hn
  obtain ⟨o1, hO1⟩ : ∃ o : List Int, o0 ++ manyP [s.places] = o := ⟨_, rfl⟩
  rw [hO1] at he'
  replace he := he'
  replace hb : o1.length ≤ 3000 := by rw [← hO1]; simp only [List.length_append]; omega
  have HO1 := Lib.hid hO1
  clear hO1 he' ho' hed hod kd KEY hml g0 g1 hHeld hat
  go_wp2_with fail
  have kd : Below w1.heap.size w1 w1.drew := (Below.refl _ _).drew
  have hed := he.below kd
  have hod := ho.trans (Below.off kd)
  have hs : w1.drew.cell? ⟨S, 1, none⟩ = some (.slice q.wa q.wl q.wc) := by show w1.cell? _ = _; simp [World.cell?, hS]
  have KEY := Lib.hid (pen_list_Way H W.heap.size (W.heap.size + 1) S 1 q.wl q.wc q.wa (flat3i s.ways) o1 w1.drew hed hs hn (G1.out.off hod) PK.out.2.1 (by omega) (by omega))
  have hml := manyP_len PK.out.2.1
  rw [flat3i_length, l1] at hml
  have hol := oneP_len (n := (q.wl : Int)) ⟨by omega, by omega⟩
  have g0 := hed.hb
  have g1 := hed.sb
  unfold shareFn at g1
  refine wp_region_held_drew (S := (fun w' => w'.cell? ⟨W.heap.size, 0, none⟩ = some (.iface 64 (.pointer (some ⟨H, 0, none⟩))) ∧ w'.cell? ⟨(W.heap.size + 1), 0, none⟩ = some (.func (.func 70) #[] #[.pointer (some ⟨W.heap.size, 0, none⟩)]))) (by kernel_rfl) ?_ (fun hHeld => ?_)
  · exact ⟨g0, g1⟩
  refine wpAnyH_take (i := 0) (oi := ⟨some 15, _, _, _, _, none⟩) (v := ?_) rfl (by kernel_rfl) (by kernel_rfl) (by kernel_rfl) (fun _ _ _ h => h) (Or.inl ⟨by rfl, ?_⟩) (by assumption) ?_
  rotate_left
  · intro wz hSw; (try dsimp only at hSw); go_simp; (try with_reducible rfl)
  try simp only [Act.put, List.setIfInBounds_toArray, List.set_cons_zero, List.set_cons_succ]
  refine wpAnyH_take (i := 1) (oi := ⟨some 16, _, _, _, _, none⟩) (v := ?_) rfl (by kernel_rfl) (by kernel_rfl) (by kernel_rfl) (fun _ _ _ h => h) (Or.inl ⟨by rfl, ?_⟩) (by assumption) ?_
  rotate_left
  · intro wz hSw; (try dsimp only at hSw); go_simp; (try with_reducible rfl)
  try simp only [Act.put, List.setIfInBounds_toArray, List.set_cons_zero, List.set_cons_succ]
  refine wpAnyH_take (i := 2) (oi := ⟨some 17, _, _, _, _, none⟩) (v := ?_) rfl (by kernel_rfl) (by kernel_rfl) (by kernel_rfl) (fun _ _ _ h => h) (Or.inl ⟨by rfl, ?_⟩) (by assumption) ?_
  rotate_left
  · intro wz hSw; (try dsimp only at hSw); go_simp; (try with_reducible rfl)
  try simp only [Act.put, List.setIfInBounds_toArray, List.set_cons_zero, List.set_cons_succ]
  refine wpAnyH_take (i := 3) (oi := ⟨some 18, _, _, _, _, none⟩) (v := ?_) rfl (by kernel_rfl) (by kernel_rfl) (by kernel_rfl) (fun _ _ _ h => h) (Or.inl ⟨by rfl, ?_⟩) (by assumption) ?_
  rotate_left
  · intro wz hSw; (try dsimp only at hSw); go_simp; (try with_reducible rfl)
  try simp only [Act.put, List.setIfInBounds_toArray, List.set_cons_zero, List.set_cons_succ]
  refine wpAnyH_take (i := 4) (oi := ⟨some 19, _, _, _, _, none⟩) (v := ?_) rfl (by kernel_rfl) (by kernel_rfl) (by kernel_rfl) (fun _ _ _ h => h) (Or.inl ⟨by rfl, ?_⟩) (by assumption) ?_
  rotate_left
  · intro wz hSw; (try dsimp only at hSw); go_simp; (try with_reducible rfl)
  try simp only [Act.put, List.setIfInBounds_toArray, List.set_cons_zero, List.set_cons_succ]
  refine wpAnyH_ready (rs := [5]) (by kernel_rfl) (by simp) ?_
  refine AllReadyH.cons (o := ⟨some 20, _, _, _, _, none⟩) rfl (fun K hK => ?_) AllReadyH.nil
  go_simp
  refine KEY.out.mono ?_
  rintro e2 w2 ⟨rfl, he', ho'⟩
  replace g0 := he'.hb
  replace g1 := he'.sb
  unfold shareFn at g1
  refine hK.out _ _ ?_ (fun hHeld => ?_)
  · exact ⟨g0, g1⟩
  clear hK K
  try simp only [Act.put, List.setIfInBounds_toArray, List.set_cons_zero, List.set_cons_succ]
  refine wpAnyH_done (by kernel_rfl) ?_ _
  replace ho := hod.trans ho'
  replace hS := (Off.at (Below.off kd) hS hn)
  replace hS := ho'.at hS hn
  obtain ⟨o2, hO2⟩ : ∃ o : List Int, o1 ++ (oneP (q.wl : Int) ++ manyP (flat3i s.ways)) = o := ⟨_, rfl⟩
  rw [hO2] at he'
  replace he := he'
  replace hb : o2.length ≤ 6000 := by rw [← hO2]; simp only [List.length_append]; omega
  have HO2 := Lib.hid hO2
  clear hO2 he' ho' hed hod kd KEY hml g0 g1 hHeld hs hol
  go_wp2_with fail
  have kd : Below w2.heap.size w2 w2.drew := (Below.refl _ _).drew
  have hed := he.below kd
  have hod := ho.trans (Below.off kd)
  have hat : At w2.drew S 2 [s.pn, s.pd] := by
    intro i z hz
    have hi : i < 2 := by simpa using (List.getElem?_eq_some_iff.1 hz).1
    show w2.cell? _ = _
    rcases (show i = 0 ∨ i = 1 by omega) with rfl | rfl <;> (simp only [List.getElem?_cons_zero, List.getElem?_cons_succ, Option.some.injEq] at hz; subst hz; simp [World.cell?, hS])
  have KEY := Lib.hid (pen_share H W.heap.size (W.heap.size + 1) S 2 [s.pn, s.pd] o2 w2.drew hed hat rfl hn PK.out.2.2.1 (by omega))
  have hml := manyP_len PK.out.2.2.1
  simp only [List.length_cons, List.length_nil] at hml
  have g0 := hed.hb
  have g1 := hed.sb
  unfold shareFn at g1
  refine wp_region_held_drew (S := (fun w' => w'.cell? ⟨W.heap.size, 0, none⟩ = some (.iface 64 (.pointer (some ⟨H, 0, none⟩))) ∧ w'.cell? ⟨(W.heap.size + 1), 0, none⟩ = some (.func (.func 70) #[] #[.pointer (some ⟨W.heap.size, 0, none⟩)]))) (by kernel_rfl) ?_ (fun hHeld => ?_)
  · exact ⟨g0, g1⟩
  refine wpAnyH_take (i := 0) (oi := ⟨some 21, _, _, _, _, none⟩) (v := ?_) rfl (by kernel_rfl) (by kernel_rfl) (by kernel_rfl) (fun _ _ _ h => h) (Or.inl ⟨by rfl, ?_⟩) (by assumption) ?_
  rotate_left
  · intro wz hSw; (try dsimp only at hSw); go_simp; (try with_reducible rfl)
  try simp only [Act.put, List.setIfInBounds_toArray, List.set_cons_zero, List.set_cons_succ]
  refine wpAnyH_take (i := 1) (oi := ⟨some 22, _, _, _, _, none⟩) (v := ?_) rfl (by kernel_rfl) (by kernel_rfl) (by kernel_rfl) (fun _ _ _ h => h) (Or.inl ⟨by rfl, ?_⟩) (by assumption) ?_
  rotate_left
  · intro wz hSw; (try dsimp only at hSw); go_simp; (try with_reducible rfl)
  try simp only [Act.put, List.setIfInBounds_toArray, List.set_cons_zero, List.set_cons_succ]
  refine wpAnyH_take (i := 2) (oi := ⟨some 23, _, _, _, _, none⟩) (v := ?_) rfl (by kernel_rfl) (by kernel_rfl) (by kernel_rfl) (fun _ _ _ h => h) (Or.inl ⟨by rfl, ?_⟩) (by assumption) ?_
  rotate_left
  · intro wz hSw; (try dsimp only at hSw); go_simp; (try with_reducible rfl)
  try simp only [Act.put, List.setIfInBounds_toArray, List.set_cons_zero, List.set_cons_succ]
  refine wpAnyH_take (i := 3) (oi := ⟨some 24, _, _, _, _, none⟩) (v := ?_) rfl (by kernel_rfl) (by kernel_rfl) (by kernel_rfl) (fun _ _ _ h => h) (Or.inl ⟨by rfl, ?_⟩) (by assumption) ?_
  rotate_left
  · intro wz hSw; (try dsimp only at hSw); go_simp; (try with_reducible rfl)
  try simp only [Act.put, List.setIfInBounds_toArray, List.set_cons_zero, List.set_cons_succ]
  refine wpAnyH_ready (rs := [4]) (by kernel_rfl) (by simp) ?_
  refine AllReadyH.cons (o := ⟨some 25, _, _, _, _, none⟩) rfl (fun K hK => ?_) AllReadyH.nil
  go_simp
  refine KEY.out.mono ?_
  rintro e3 w3 ⟨rfl, he', ho'⟩
  replace g0 := he'.hb
  replace g1 := he'.sb
  unfold shareFn at g1
  refine hK.out _ _ ?_ (fun hHeld => ?_)
  · exact ⟨g0, g1⟩
  clear hK K
  try simp only [Act.put, List.setIfInBounds_toArray, List.set_cons_zero, List.set_cons_succ]
  refine wpAnyH_done (by kernel_rfl) ?_ _
  replace ho := hod.trans ho'
  replace hS := (Off.at (Below.off kd) hS hn)
  replace hS := ho'.at hS hn
  obtain ⟨o3, hO3⟩ : ∃ o : List Int, o2 ++ manyP [s.pn, s.pd] = o := ⟨_, rfl⟩
  rw [hO3] at he'
  replace he := he'
  replace hb : o3.length ≤ 9000 := by rw [← hO3]; simp only [List.length_append]; omega
  have HO3 := Lib.hid hO3
  clear hO3 he' ho' hed hod kd KEY hml g0 g1 hHeld hat
  go_wp2_with fail
  have kd : Below w3.heap.size w3 w3.drew := (Below.refl _ _).drew
  have hed := he.below kd
  have hod := ho.trans (Below.off kd)
  have hs : w3.drew.cell? ⟨S, 4, none⟩ = some (.slice q.ea q.el q.ec) := by show w3.cell? _ = _; simp [World.cell?, hS]
  have KEY := Lib.hid (pen_list_Element H W.heap.size (W.heap.size + 1) S 4 q.el q.ec q.ea (flat4 s.elements) o3 w3.drew hed hs hn (G2.out.off hod) PK.out.2.2.2.1 (by omega) (by omega))
  have hml := manyP_len PK.out.2.2.2.1
  rw [flat4_length, l2] at hml
  have hol := oneP_len (n := (q.el : Int)) ⟨by omega, by omega⟩
  have g0 := hed.hb
  have g1 := hed.sb
  unfold shareFn at g1
  refine wp_region_held_drew (S := (fun w' => w'.cell? ⟨W.heap.size, 0, none⟩ = some (.iface 64 (.pointer (some ⟨H, 0, none⟩))) ∧ w'.cell? ⟨(W.heap.size + 1), 0, none⟩ = some (.func (.func 70) #[] #[.pointer (some ⟨W.heap.size, 0, none⟩)]))) (by kernel_rfl) ?_ (fun hHeld => ?_)
  · exact ⟨g0, g1⟩
  refine wpAnyH_take (i := 0) (oi := ⟨some 26, _, _, _, _, none⟩) (v := ?_) rfl (by kernel_rfl) (by kernel_rfl) (by kernel_rfl) (fun _ _ _ h => h) (Or.inl ⟨by rfl, ?_⟩) (by assumption) ?_
  rotate_left
  · intro wz hSw; (try dsimp only at hSw); go_simp; (try with_reducible rfl)
  try simp only [Act.put, List.setIfInBounds_toArray, List.set_cons_zero, List.set_cons_succ]
  refine wpAnyH_take (i := 1) (oi := ⟨some 27, _, _, _, _, none⟩) (v := ?_) rfl (by kernel_rfl) (by kernel_rfl) (by kernel_rfl) (fun _ _ _ h => h) (Or.inl ⟨by rfl, ?_⟩) (by assumption) ?_
  rotate_left
  · intro wz hSw; (try dsimp only at hSw); go_simp; (try with_reducible rfl)
  try simp only [Act.put, List.setIfInBounds_toArray, List.set_cons_zero, List.set_cons_succ]
  refine wpAnyH_take (i := 2) (oi := ⟨some 28, _, _, _, _, none⟩) (v := ?_) rfl (by kernel_rfl) (by kernel_rfl) (by kernel_rfl) (fun _ _ _ h => h) (Or.inl ⟨by rfl, ?_⟩) (by assumption) ?_
  rotate_left
  · intro wz hSw; (try dsimp only at hSw); go_simp; (try with_reducible rfl)
  try simp only [Act.put, List.setIfInBounds_toArray, List.set_cons_zero, List.set_cons_succ]
  refine wpAnyH_take (i := 3) (oi := ⟨some 29, _, _, _, _, none⟩) (v := ?_) rfl (by kernel_rfl) (by kernel_rfl) (by kernel_rfl) (fun _ _ _ h => h) (Or.inl ⟨by rfl, ?_⟩) (by assumption) ?_
  rotate_left
  · intro wz hSw; (try dsimp only at hSw); go_simp; (try with_reducible rfl)
  try simp only [Act.put, List.setIfInBounds_toArray, List.set_cons_zero, List.set_cons_succ]
  refine wpAnyH_take (i := 4) (oi := ⟨some 30, _, _, _, _, none⟩) (v := ?_) rfl (by kernel_rfl) (by kernel_rfl) (by kernel_rfl) (fun _ _ _ h => h) (Or.inl ⟨by rfl, ?_⟩) (by assumption) ?_
  rotate_left
  · intro wz hSw; (try dsimp only at hSw); go_simp; (try with_reducible rfl)
  try simp only [Act.put, List.setIfInBounds_toArray, List.set_cons_zero, List.set_cons_succ]
  refine wpAnyH_ready (rs := [5]) (by kernel_rfl) (by simp) ?_
  refine AllReadyH.cons (o := ⟨some 31, _, _, _, _, none⟩) rfl (fun K hK => ?_) AllReadyH.nil
  go_simp
  refine KEY.out.mono ?_
  rintro e4 w4 ⟨rfl, he', ho'⟩
  replace g0 := he'.hb
  replace g1 := he'.sb
  unfold shareFn at g1
  refine hK.out _ _ ?_ (fun hHeld => ?_)
  · exact ⟨g0, g1⟩
  clear hK K
  try simp only [Act.put, List.setIfInBounds_toArray, List.set_cons_zero, List.set_cons_succ]
  refine wpAnyH_done (by kernel_rfl) ?_ _
  replace ho := hod.trans ho'
  replace hS := (Off.at (Below.off kd) hS hn)
  replace hS := ho'.at hS hn
  obtain ⟨o4, hO4⟩ : ∃ o : List Int, o3 ++ (oneP (q.el : Int) ++ manyP (flat4 s.elements)) = o := ⟨_, rfl⟩
  rw [hO4] at he'
  replace he := he'
  replace hb : o4.length ≤ 12000 := by rw [← hO4]; simp only [List.length_append]; omega
  have HO4 := Lib.hid hO4
  clear hO4 he' ho' hed hod kd KEY hml g0 g1 hHeld hs hol
  go_wp2_with fail
  have kd : Below w4.heap.size w4 w4.drew := (Below.refl _ _).drew
  have hed := he.below kd
  have hod := ho.trans (Below.off kd)
  have hs : w4.drew.cell? ⟨S, 5, none⟩ = some (.slice q.ca q.cl q.cc) := by show w4.cell? _ = _; simp [World.cell?, hS]
  have KEY := Lib.hid (pen_list_Ratio H W.heap.size (W.heap.size + 1) S 5 q.cl q.cc q.ca (flat2 s.classes) o4 w4.drew hed hs hn (G3.out.off hod) PK.out.2.2.2.2.1 (by omega) (by omega))
  have hml := manyP_len PK.out.2.2.2.2.1
  rw [flat2_length, l3] at hml
  have hol := oneP_len (n := (q.cl : Int)) ⟨by omega, by omega⟩
  have g0 := hed.hb
  have g1 := hed.sb
  unfold shareFn at g1
  refine wp_region_held_drew (S := (fun w' => w'.cell? ⟨W.heap.size, 0, none⟩ = some (.iface 64 (.pointer (some ⟨H, 0, none⟩))) ∧ w'.cell? ⟨(W.heap.size + 1), 0, none⟩ = some (.func (.func 70) #[] #[.pointer (some ⟨W.heap.size, 0, none⟩)]))) (by kernel_rfl) ?_ (fun hHeld => ?_)
  · exact ⟨g0, g1⟩
  refine wpAnyH_take (i := 0) (oi := ⟨some 32, _, _, _, _, none⟩) (v := ?_) rfl (by kernel_rfl) (by kernel_rfl) (by kernel_rfl) (fun _ _ _ h => h) (Or.inl ⟨by rfl, ?_⟩) (by assumption) ?_
  rotate_left
  · intro wz hSw; (try dsimp only at hSw); go_simp; (try with_reducible rfl)
  try simp only [Act.put, List.setIfInBounds_toArray, List.set_cons_zero, List.set_cons_succ]
  refine wpAnyH_take (i := 1) (oi := ⟨some 33, _, _, _, _, none⟩) (v := ?_) rfl (by kernel_rfl) (by kernel_rfl) (by kernel_rfl) (fun _ _ _ h => h) (Or.inl ⟨by rfl, ?_⟩) (by assumption) ?_
  rotate_left
  · intro wz hSw; (try dsimp only at hSw); go_simp; (try with_reducible rfl)
  try simp only [Act.put, List.setIfInBounds_toArray, List.set_cons_zero, List.set_cons_succ]
  refine wpAnyH_take (i := 2) (oi := ⟨some 34, _, _, _, _, none⟩) (v := ?_) rfl (by kernel_rfl) (by kernel_rfl) (by kernel_rfl) (fun _ _ _ h => h) (Or.inl ⟨by rfl, ?_⟩) (by assumption) ?_
  rotate_left
  · intro wz hSw; (try dsimp only at hSw); go_simp; (try with_reducible rfl)
  try simp only [Act.put, List.setIfInBounds_toArray, List.set_cons_zero, List.set_cons_succ]
  refine wpAnyH_take (i := 3) (oi := ⟨some 35, _, _, _, _, none⟩) (v := ?_) rfl (by kernel_rfl) (by kernel_rfl) (by kernel_rfl) (fun _ _ _ h => h) (Or.inl ⟨by rfl, ?_⟩) (by assumption) ?_
  rotate_left
  · intro wz hSw; (try dsimp only at hSw); go_simp; (try with_reducible rfl)
  try simp only [Act.put, List.setIfInBounds_toArray, List.set_cons_zero, List.set_cons_succ]
  refine wpAnyH_take (i := 4) (oi := ⟨some 36, _, _, _, _, none⟩) (v := ?_) rfl (by kernel_rfl) (by kernel_rfl) (by kernel_rfl) (fun _ _ _ h => h) (Or.inl ⟨by rfl, ?_⟩) (by assumption) ?_
  rotate_left
  · intro wz hSw; (try dsimp only at hSw); go_simp; (try with_reducible rfl)
  try simp only [Act.put, List.setIfInBounds_toArray, List.set_cons_zero, List.set_cons_succ]
  refine wpAnyH_ready (rs := [5]) (by kernel_rfl) (by simp) ?_
  refine AllReadyH.cons (o := ⟨some 37, _, _, _, _, none⟩) rfl (fun K hK => ?_) AllReadyH.nil
  go_simp
  refine KEY.out.mono ?_
  rintro e5 w5 ⟨rfl, he', ho'⟩
  replace g0 := he'.hb
  replace g1 := he'.sb
  unfold shareFn at g1
  refine hK.out _ _ ?_ (fun hHeld => ?_)
  · exact ⟨g0, g1⟩
  clear hK K
  try simp only [Act.put, List.setIfInBounds_toArray, List.set_cons_zero, List.set_cons_succ]
  refine wpAnyH_done (by kernel_rfl) ?_ _
  replace ho := hod.trans ho'
  replace hS := (Off.at (Below.off kd) hS hn)
  replace hS := ho'.at hS hn
  obtain ⟨o5, hO5⟩ : ∃ o : List Int, o4 ++ (oneP (q.cl : Int) ++ manyP (flat2 s.classes)) = o := ⟨_, rfl⟩
  rw [hO5] at he'
  replace he := he'
  replace hb : o5.length ≤ 15000 := by rw [← hO5]; simp only [List.length_append]; omega
  have HO5 := Lib.hid hO5
  clear hO5 he' ho' hed hod kd KEY hml g0 g1 hHeld hs hol
  go_wp2_with fail
  have kd : Below w5.heap.size w5 w5.drew := (Below.refl _ _).drew
  have hed := he.below kd
  have hod := ho.trans (Below.off kd)
  have hs : w5.drew.cell? ⟨S, 6, none⟩ = some (.slice q.ga q.gl q.gc) := by show w5.cell? _ = _; simp [World.cell?, hS]
  have KEY := Lib.hid (pen_list_Ratio H W.heap.size (W.heap.size + 1) S 6 q.gl q.gc q.ga (flat2 s.gears) o5 w5.drew hed hs hn (G4.out.off hod) PK.out.2.2.2.2.2.1 (by omega) (by omega))
  have hml := manyP_len PK.out.2.2.2.2.2.1
  rw [flat2_length, l4] at hml
  have hol := oneP_len (n := (q.gl : Int)) ⟨by omega, by omega⟩
  have g0 := hed.hb
  have g1 := hed.sb
  unfold shareFn at g1
  refine wp_region_held_drew (S := (fun w' => w'.cell? ⟨W.heap.size, 0, none⟩ = some (.iface 64 (.pointer (some ⟨H, 0, none⟩))) ∧ w'.cell? ⟨(W.heap.size + 1), 0, none⟩ = some (.func (.func 70) #[] #[.pointer (some ⟨W.heap.size, 0, none⟩)]))) (by kernel_rfl) ?_ (fun hHeld => ?_)
  · exact ⟨g0, g1⟩
  refine wpAnyH_take (i := 0) (oi := ⟨some 38, _, _, _, _, none⟩) (v := ?_) rfl (by kernel_rfl) (by kernel_rfl) (by kernel_rfl) (fun _ _ _ h => h) (Or.inl ⟨by rfl, ?_⟩) (by assumption) ?_
  rotate_left
  · intro wz hSw; (try dsimp only at hSw); go_simp; (try with_reducible rfl)
  try simp only [Act.put, List.setIfInBounds_toArray, List.set_cons_zero, List.set_cons_succ]
  refine wpAnyH_take (i := 1) (oi := ⟨some 39, _, _, _, _, none⟩) (v := ?_) rfl (by kernel_rfl) (by kernel_rfl) (by kernel_rfl) (fun _ _ _ h => h) (Or.inl ⟨by rfl, ?_⟩) (by assumption) ?_
  rotate_left
  · intro wz hSw; (try dsimp only at hSw); go_simp; (try with_reducible rfl)
  try simp only [Act.put, List.setIfInBounds_toArray, List.set_cons_zero, List.set_cons_succ]
  refine wpAnyH_take (i := 2) (oi := ⟨some 40, _, _, _, _, none⟩) (v := ?_) rfl (by kernel_rfl) (by kernel_rfl) (by kernel_rfl) (fun _ _ _ h => h) (Or.inl ⟨by rfl, ?_⟩) (by assumption) ?_
  rotate_left
  · intro wz hSw; (try dsimp only at hSw); go_simp; (try with_reducible rfl)
  try simp only [Act.put, List.setIfInBounds_toArray, List.set_cons_zero, List.set_cons_succ]
  refine wpAnyH_take (i := 3) (oi := ⟨some 41, _, _, _, _, none⟩) (v := ?_) rfl (by kernel_rfl) (by kernel_rfl) (by kernel_rfl) (fun _ _ _ h => h) (Or.inl ⟨by rfl, ?_⟩) (by assumption) ?_
  rotate_left
  · intro wz hSw; (try dsimp only at hSw); go_simp; (try with_reducible rfl)
  try simp only [Act.put, List.setIfInBounds_toArray, List.set_cons_zero, List.set_cons_succ]
  refine wpAnyH_take (i := 4) (oi := ⟨some 42, _, _, _, _, none⟩) (v := ?_) rfl (by kernel_rfl) (by kernel_rfl) (by kernel_rfl) (fun _ _ _ h => h) (Or.inl ⟨by rfl, ?_⟩) (by assumption) ?_
  rotate_left
  · intro wz hSw; (try dsimp only at hSw); go_simp; (try with_reducible rfl)
  try simp only [Act.put, List.setIfInBounds_toArray, List.set_cons_zero, List.set_cons_succ]
  refine wpAnyH_ready (rs := [5]) (by kernel_rfl) (by simp) ?_
  refine AllReadyH.cons (o := ⟨some 43, _, _, _, _, none⟩) rfl (fun K hK => ?_) AllReadyH.nil
  go_simp
  refine KEY.out.mono ?_
  rintro e6 w6 ⟨rfl, he', ho'⟩
  replace g0 := he'.hb
  replace g1 := he'.sb
  unfold shareFn at g1
  refine hK.out _ _ ?_ (fun hHeld => ?_)
  · exact ⟨g0, g1⟩
  clear hK K
  try simp only [Act.put, List.setIfInBounds_toArray, List.set_cons_zero, List.set_cons_succ]
  refine wpAnyH_done (by kernel_rfl) ?_ _
  replace ho := hod.trans ho'
  replace hS := (Off.at (Below.off kd) hS hn)
  replace hS := ho'.at hS hn
  obtain ⟨o6, hO6⟩ : ∃ o : List Int, o5 ++ (oneP (q.gl : Int) ++ manyP (flat2 s.gears)) = o := ⟨_, rfl⟩
  rw [hO6] at he'
  replace he := he'
  replace hb : o6.length ≤ 18000 := by rw [← hO6]; simp only [List.length_append]; omega
  have HO6 := Lib.hid hO6
  clear hO6 he' ho' hed hod kd KEY hml g0 g1 hHeld hs hol
  go_wp2_with fail
  have kd : Below w6.heap.size w6 w6.drew := (Below.refl _ _).drew
  have hed := he.below kd
  have hod := ho.trans (Below.off kd)
  have hat : At w6 S 7 [s.allow, s.unit, s.cap, s.paidBreak, s.autoAfter, s.autoBreak, s.dayReg, s.dayOver, s.weekReg, s.nightFrom, s.nightTo] := by
    intro i z hz
    have hi : i < 11 := by simpa using (List.getElem?_eq_some_iff.1 hz).1
    show w6.cell? _ = _
    rcases (show i = 0 ∨ i = 1 ∨ i = 2 ∨ i = 3 ∨ i = 4 ∨ i = 5 ∨ i = 6 ∨ i = 7 ∨ i = 8 ∨ i = 9 ∨ i = 10 by omega) with rfl | rfl | rfl | rfl | rfl | rfl | rfl | rfl | rfl | rfl | rfl <;> (simp only [List.getElem?_cons_zero, List.getElem?_cons_succ, Option.some.injEq] at hz; subst hz; simp [World.cell?, hS])
  have KEY := Lib.hid (pen_put_new [(S, 7), (S, 8), (S, 9), (S, 10), (S, 11), (S, 12), (S, 13), (S, 14), (S, 15), (S, 16), (S, 17)] he hat hn rfl PK.out.2.2.2.2.2.2.1 (by omega) (by simp))
  have hml := manyP_len PK.out.2.2.2.2.2.2.1
  simp only [timesL, List.length_cons, List.length_nil] at hml
  have g0 := hed.hb
  have g1 := hed.sb
  unfold shareFn at g1
  refine wp_region_held_drew (S := (fun w' => w'.cell? ⟨W.heap.size, 0, none⟩ = some (.iface 64 (.pointer (some ⟨H, 0, none⟩))) ∧ w'.cell? ⟨(W.heap.size + 1), 0, none⟩ = some (.func (.func 70) #[] #[.pointer (some ⟨W.heap.size, 0, none⟩)]))) (by kernel_rfl) ?_ (fun hHeld => ?_)
  · exact ⟨g0, g1⟩
  refine wpAnyH_take (i := 0) (oi := ⟨some 44, _, _, _, _, none⟩) (v := ?_) rfl (by kernel_rfl) (by kernel_rfl) (by kernel_rfl) (fun _ _ _ h => h) (Or.inl ⟨by rfl, ?_⟩) (by assumption) ?_
  rotate_left
  · intro wz hSw; (try dsimp only at hSw); go_simp; (try with_reducible rfl)
  try simp only [Act.put, List.setIfInBounds_toArray, List.set_cons_zero, List.set_cons_succ]
  refine wpAnyH_take (i := 1) (oi := ⟨some 45, _, _, _, _, none⟩) (v := ?_) rfl (by kernel_rfl) (by kernel_rfl) (by kernel_rfl) (fun _ _ _ h => h) (Or.inl ⟨by rfl, ?_⟩) (by assumption) ?_
  rotate_left
  · intro wz hSw; (try dsimp only at hSw); go_simp; (try with_reducible rfl)
  try simp only [Act.put, List.setIfInBounds_toArray, List.set_cons_zero, List.set_cons_succ]
  refine wpAnyH_take (i := 2) (oi := ⟨some 46, _, _, _, _, none⟩) (v := ?_) rfl (by kernel_rfl) (by kernel_rfl) (by kernel_rfl) (fun _ _ _ h => h) (Or.inl ⟨by rfl, ?_⟩) (by assumption) ?_
  rotate_left
  · intro wz hSw; (try dsimp only at hSw); go_simp; (try with_reducible rfl)
  try simp only [Act.put, List.setIfInBounds_toArray, List.set_cons_zero, List.set_cons_succ]
  refine wpAnyH_take (i := 3) (oi := ⟨some 47, _, _, _, _, none⟩) (v := ?_) rfl (by kernel_rfl) (by kernel_rfl) (by kernel_rfl) (fun _ _ _ h => h) (Or.inl ⟨by rfl, ?_⟩) (by assumption) ?_
  rotate_left
  · intro wz hSw; (try dsimp only at hSw); go_simp; (try with_reducible rfl)
  try simp only [Act.put, List.setIfInBounds_toArray, List.set_cons_zero, List.set_cons_succ]
  refine wpAnyH_take (i := 4) (oi := ⟨some 48, _, _, _, _, none⟩) (v := ?_) rfl (by kernel_rfl) (by kernel_rfl) (by kernel_rfl) (fun _ _ _ h => h) (Or.inl ⟨by rfl, ?_⟩) (by assumption) ?_
  rotate_left
  · intro wz hSw; (try dsimp only at hSw); go_simp; (try with_reducible rfl)
  try simp only [Act.put, List.setIfInBounds_toArray, List.set_cons_zero, List.set_cons_succ]
  refine wpAnyH_take (i := 5) (oi := ⟨some 49, _, _, _, _, none⟩) (v := ?_) rfl (by kernel_rfl) (by kernel_rfl) (by kernel_rfl) (fun _ _ _ h => h) (Or.inl ⟨by rfl, ?_⟩) (by assumption) ?_
  rotate_left
  · intro wz hSw; (try dsimp only at hSw); go_simp; (try with_reducible rfl)
  try simp only [Act.put, List.setIfInBounds_toArray, List.set_cons_zero, List.set_cons_succ]
  refine wpAnyH_take (i := 6) (oi := ⟨some 50, _, _, _, _, none⟩) (v := ?_) rfl (by kernel_rfl) (by kernel_rfl) (by kernel_rfl) (fun _ _ _ h => h) (Or.inl ⟨by rfl, ?_⟩) (by assumption) ?_
  rotate_left
  · intro wz hSw; (try dsimp only at hSw); go_simp; (try with_reducible rfl)
  try simp only [Act.put, List.setIfInBounds_toArray, List.set_cons_zero, List.set_cons_succ]
  refine wpAnyH_take (i := 7) (oi := ⟨some 51, _, _, _, _, none⟩) (v := ?_) rfl (by kernel_rfl) (by kernel_rfl) (by kernel_rfl) (fun _ _ _ h => h) (Or.inl ⟨by rfl, ?_⟩) (by assumption) ?_
  rotate_left
  · intro wz hSw; (try dsimp only at hSw); go_simp; (try with_reducible rfl)
  try simp only [Act.put, List.setIfInBounds_toArray, List.set_cons_zero, List.set_cons_succ]
  refine wpAnyH_take (i := 8) (oi := ⟨some 52, _, _, _, _, none⟩) (v := ?_) rfl (by kernel_rfl) (by kernel_rfl) (by kernel_rfl) (fun _ _ _ h => h) (Or.inl ⟨by rfl, ?_⟩) (by assumption) ?_
  rotate_left
  · intro wz hSw; (try dsimp only at hSw); go_simp; (try with_reducible rfl)
  try simp only [Act.put, List.setIfInBounds_toArray, List.set_cons_zero, List.set_cons_succ]
  refine wpAnyH_take (i := 9) (oi := ⟨some 53, _, _, _, _, none⟩) (v := ?_) rfl (by kernel_rfl) (by kernel_rfl) (by kernel_rfl) (fun _ _ _ h => h) (Or.inl ⟨by rfl, ?_⟩) (by assumption) ?_
  rotate_left
  · intro wz hSw; (try dsimp only at hSw); go_simp; (try with_reducible rfl)
  try simp only [Act.put, List.setIfInBounds_toArray, List.set_cons_zero, List.set_cons_succ]
  refine wpAnyH_take (i := 10) (oi := ⟨some 54, _, _, _, _, none⟩) (v := ?_) rfl (by kernel_rfl) (by kernel_rfl) (by kernel_rfl) (fun _ _ _ h => h) (Or.inl ⟨by rfl, ?_⟩) (by assumption) ?_
  rotate_left
  · intro wz hSw; (try dsimp only at hSw); go_simp; (try with_reducible rfl)
  try simp only [Act.put, List.setIfInBounds_toArray, List.set_cons_zero, List.set_cons_succ]
  refine wpAnyH_take (i := 11) (oi := ⟨some 55, _, _, _, _, none⟩) (v := ?_) rfl (by kernel_rfl) (by kernel_rfl) (by kernel_rfl) (fun _ _ _ h => h) (Or.inl ⟨by rfl, ?_⟩) (by assumption) ?_
  rotate_left
  · intro wz hSw; (try dsimp only at hSw); go_simp; (try with_reducible rfl)
  try simp only [Act.put, List.setIfInBounds_toArray, List.set_cons_zero, List.set_cons_succ]
  refine wpAnyH_take (i := 12) (oi := ⟨some 56, _, _, _, _, none⟩) (v := ?_) rfl (by kernel_rfl) (by kernel_rfl) (by kernel_rfl) (fun _ _ _ h => h) (Or.inl ⟨by rfl, ?_⟩) (by assumption) ?_
  rotate_left
  · intro wz hSw; (try dsimp only at hSw); go_simp; (try with_reducible rfl)
  try simp only [Act.put, List.setIfInBounds_toArray, List.set_cons_zero, List.set_cons_succ]
  refine wpAnyH_take (i := 13) (oi := ⟨some 57, _, _, _, _, none⟩) (v := ?_) rfl (by kernel_rfl) (by kernel_rfl) (by kernel_rfl) (fun _ _ _ h => h) (Or.inl ⟨by rfl, ?_⟩) (by assumption) ?_
  rotate_left
  · intro wz hSw; (try dsimp only at hSw); go_simp; (try with_reducible rfl)
  try simp only [Act.put, List.setIfInBounds_toArray, List.set_cons_zero, List.set_cons_succ]
  refine wpAnyH_take (i := 14) (oi := ⟨some 58, _, _, _, _, none⟩) (v := ?_) rfl (by kernel_rfl) (by kernel_rfl) (by kernel_rfl) (fun _ _ _ h => h) (Or.inl ⟨by rfl, ?_⟩) (by assumption) ?_
  rotate_left
  · intro wz hSw; (try dsimp only at hSw); go_simp; (try with_reducible rfl)
  try simp only [Act.put, List.setIfInBounds_toArray, List.set_cons_zero, List.set_cons_succ]
  refine wpAnyH_take (i := 15) (oi := ⟨some 59, _, _, _, _, none⟩) (v := ?_) rfl (by kernel_rfl) (by kernel_rfl) (by kernel_rfl) (fun _ _ _ h => h) (Or.inl ⟨by rfl, ?_⟩) (by assumption) ?_
  rotate_left
  · intro wz hSw; (try dsimp only at hSw); go_simp; (try with_reducible rfl)
  try simp only [Act.put, List.setIfInBounds_toArray, List.set_cons_zero, List.set_cons_succ]
  refine wpAnyH_take (i := 16) (oi := ⟨some 60, _, _, _, _, none⟩) (v := ?_) rfl (by kernel_rfl) (by kernel_rfl) (by kernel_rfl) (fun _ _ _ h => h) (Or.inl ⟨by rfl, ?_⟩) (by assumption) ?_
  rotate_left
  · intro wz hSw; (try dsimp only at hSw); go_simp; (try with_reducible rfl)
  try simp only [Act.put, List.setIfInBounds_toArray, List.set_cons_zero, List.set_cons_succ]
  refine wpAnyH_take (i := 17) (oi := ⟨some 61, _, _, _, _, none⟩) (v := ?_) rfl (by kernel_rfl) (by kernel_rfl) (by kernel_rfl) (fun _ _ _ h => h) (Or.inl ⟨by rfl, ?_⟩) (by assumption) ?_
  rotate_left
  · intro wz hSw; (try dsimp only at hSw); go_simp; (try with_reducible rfl)
  try simp only [Act.put, List.setIfInBounds_toArray, List.set_cons_zero, List.set_cons_succ]
  refine wpAnyH_take (i := 18) (oi := ⟨some 62, _, _, _, _, none⟩) (v := ?_) rfl (by kernel_rfl) (by kernel_rfl) (by kernel_rfl) (fun _ _ _ h => h) (Or.inl ⟨by rfl, ?_⟩) (by assumption) ?_
  rotate_left
  · intro wz hSw; (try dsimp only at hSw); go_simp; (try with_reducible rfl)
  try simp only [Act.put, List.setIfInBounds_toArray, List.set_cons_zero, List.set_cons_succ]
  refine wpAnyH_take (i := 19) (oi := ⟨some 63, _, _, _, _, none⟩) (v := ?_) rfl (by kernel_rfl) (by kernel_rfl) (by kernel_rfl) (fun _ _ _ h => h) (Or.inl ⟨by rfl, ?_⟩) (by assumption) ?_
  rotate_left
  · intro wz hSw; (try dsimp only at hSw); go_simp; (try with_reducible rfl)
  try simp only [Act.put, List.setIfInBounds_toArray, List.set_cons_zero, List.set_cons_succ]
  refine wpAnyH_take (i := 20) (oi := ⟨some 64, _, _, _, _, none⟩) (v := ?_) rfl (by kernel_rfl) (by kernel_rfl) (by kernel_rfl) (fun _ _ _ h => h) (Or.inl ⟨by rfl, ?_⟩) (by assumption) ?_
  rotate_left
  · intro wz hSw; (try dsimp only at hSw); go_simp; (try with_reducible rfl)
  try simp only [Act.put, List.setIfInBounds_toArray, List.set_cons_zero, List.set_cons_succ]
  refine wpAnyH_take (i := 21) (oi := ⟨some 65, _, _, _, _, none⟩) (v := ?_) rfl (by kernel_rfl) (by kernel_rfl) (by kernel_rfl) (fun _ _ _ h => h) (Or.inl ⟨by rfl, ?_⟩) (by assumption) ?_
  rotate_left
  · intro wz hSw; (try dsimp only at hSw); go_simp; (try with_reducible rfl)
  try simp only [Act.put, List.setIfInBounds_toArray, List.set_cons_zero, List.set_cons_succ]
  refine wpAnyH_take (i := 22) (oi := ⟨some 66, _, _, _, _, none⟩) (v := ?_) rfl (by kernel_rfl) (by kernel_rfl) (by kernel_rfl) (fun _ _ _ h => h) (Or.inl ⟨by rfl, ?_⟩) (by assumption) ?_
  rotate_left
  · intro wz hSw; (try dsimp only at hSw); go_simp; (try with_reducible rfl)
  try simp only [Act.put, List.setIfInBounds_toArray, List.set_cons_zero, List.set_cons_succ]
  refine wpAnyH_take (i := 23) (oi := ⟨some 67, _, _, _, _, none⟩) (v := ?_) rfl (by kernel_rfl) (by kernel_rfl) (by kernel_rfl) (fun _ _ _ h => h) (Or.inl ⟨by rfl, ?_⟩) (by assumption) ?_
  rotate_left
  · intro wz hSw; (try dsimp only at hSw); go_simp; (try with_reducible rfl)
  try simp only [Act.put, List.setIfInBounds_toArray, List.set_cons_zero, List.set_cons_succ]
  refine wpAnyH_take (i := 24) (oi := ⟨some 68, _, _, _, _, none⟩) (v := ?_) rfl (by kernel_rfl) (by kernel_rfl) (by kernel_rfl) (fun _ _ _ h => h) (Or.inl ⟨by rfl, ?_⟩) (by assumption) ?_
  rotate_left
  · intro wz hSw; (try dsimp only at hSw); go_simp; (try with_reducible rfl)
  try simp only [Act.put, List.setIfInBounds_toArray, List.set_cons_zero, List.set_cons_succ]
  refine wpAnyH_take (i := 25) (oi := ⟨some 69, _, _, _, _, none⟩) (v := ?_) rfl (by kernel_rfl) (by kernel_rfl) (by kernel_rfl) (fun _ _ _ h => h) (Or.inl ⟨by rfl, ?_⟩) (by assumption) ?_
  rotate_left
  · intro wz hSw; (try dsimp only at hSw); go_simp; (try with_reducible rfl)
  try simp only [Act.put, List.setIfInBounds_toArray, List.set_cons_zero, List.set_cons_succ]
  refine wpAnyH_take (i := 26) (oi := ⟨some 70, _, _, _, _, none⟩) (v := ?_) rfl (by kernel_rfl) (by kernel_rfl) (by kernel_rfl) (fun _ _ _ h => h) (Or.inl ⟨by rfl, ?_⟩) (by assumption) ?_
  rotate_left
  · intro wz hSw; (try dsimp only at hSw); go_simp; (try with_reducible rfl)
  try simp only [Act.put, List.setIfInBounds_toArray, List.set_cons_zero, List.set_cons_succ]
  refine wpAnyH_take (i := 27) (oi := ⟨some 71, _, _, _, _, none⟩) (v := ?_) rfl (by kernel_rfl) (by kernel_rfl) (by kernel_rfl) (fun _ _ _ h => h) (Or.inl ⟨by rfl, ?_⟩) (by assumption) ?_
  rotate_left
  · intro wz hSw; (try dsimp only at hSw); go_simp; (try with_reducible rfl)
  try simp only [Act.put, List.setIfInBounds_toArray, List.set_cons_zero, List.set_cons_succ]
  refine wpAnyH_take (i := 28) (oi := ⟨some 72, _, _, _, _, none⟩) (v := ?_) rfl (by kernel_rfl) (by kernel_rfl) (by kernel_rfl) (fun _ _ _ h => h) (Or.inl ⟨by rfl, ?_⟩) (by assumption) ?_
  rotate_left
  · intro wz hSw; (try dsimp only at hSw); go_simp; (try with_reducible rfl)
  try simp only [Act.put, List.setIfInBounds_toArray, List.set_cons_zero, List.set_cons_succ]
  refine wpAnyH_take (i := 29) (oi := ⟨some 73, _, _, _, _, none⟩) (v := ?_) rfl (by kernel_rfl) (by kernel_rfl) (by kernel_rfl) (fun _ _ _ h => h) (Or.inl ⟨by rfl, ?_⟩) (by assumption) ?_
  rotate_left
  · intro wz hSw; (try dsimp only at hSw); go_simp; (try with_reducible rfl)
  try simp only [Act.put, List.setIfInBounds_toArray, List.set_cons_zero, List.set_cons_succ]
  refine wpAnyH_take (i := 30) (oi := ⟨some 74, _, _, _, _, none⟩) (v := ?_) rfl (by kernel_rfl) (by kernel_rfl) (by kernel_rfl) (fun _ _ _ h => h) (Or.inl ⟨by rfl, ?_⟩) (by assumption) ?_
  rotate_left
  · intro wz hSw; (try dsimp only at hSw); go_simp; (try with_reducible rfl)
  try simp only [Act.put, List.setIfInBounds_toArray, List.set_cons_zero, List.set_cons_succ]
  refine wpAnyH_take (i := 31) (oi := ⟨some 75, _, _, _, _, none⟩) (v := ?_) rfl (by kernel_rfl) (by kernel_rfl) (by kernel_rfl) (fun _ _ _ h => h) (Or.inl ⟨by rfl, ?_⟩) (by assumption) ?_
  rotate_left
  · intro wz hSw; (try dsimp only at hSw); go_simp; (try with_reducible rfl)
  try simp only [Act.put, List.setIfInBounds_toArray, List.set_cons_zero, List.set_cons_succ]
  refine wpAnyH_take (i := 32) (oi := ⟨some 76, _, _, _, _, none⟩) (v := ?_) rfl (by kernel_rfl) (by kernel_rfl) (by kernel_rfl) (fun _ _ _ h => h) (Or.inl ⟨by rfl, ?_⟩) (by assumption) ?_
  rotate_left
  · intro wz hSw; (try dsimp only at hSw); go_simp; (try with_reducible rfl)
  try simp only [Act.put, List.setIfInBounds_toArray, List.set_cons_zero, List.set_cons_succ]
  refine wpAnyH_take (i := 33) (oi := ⟨some 77, _, _, _, _, none⟩) (v := ?_) rfl (by kernel_rfl) (by kernel_rfl) (by kernel_rfl) (fun _ _ _ h => h) (Or.inl ⟨by rfl, ?_⟩) (by assumption) ?_
  rotate_left
  · intro wz hSw; (try dsimp only at hSw); go_simp; (try with_reducible rfl)
  try simp only [Act.put, List.setIfInBounds_toArray, List.set_cons_zero, List.set_cons_succ]
  refine wpAnyH_take (i := 35) (oi := ⟨some 79, _, _, _, _, none⟩) (v := ?_) rfl (by kernel_rfl) (by kernel_rfl) (by kernel_rfl) (fun _ _ _ h => h) (Or.inl ⟨by rfl, ?_⟩) (by assumption) ?_
  rotate_left
  · intro wz hSw; (try dsimp only at hSw); go_simp; (try with_reducible rfl)
  try simp only [Act.put, List.setIfInBounds_toArray, List.set_cons_zero, List.set_cons_succ]
  refine wpAnyH_take (i := 36) (oi := ⟨some 80, _, _, _, _, none⟩) (v := ?_) rfl (by kernel_rfl) (by kernel_rfl) (by kernel_rfl) (fun _ _ _ h => h) (Or.inl ⟨by rfl, ?_⟩) (by assumption) ?_
  rotate_left
  · intro wz hSw; (try dsimp only at hSw); go_simp; (try with_reducible rfl)
  try simp only [Act.put, List.setIfInBounds_toArray, List.set_cons_zero, List.set_cons_succ]
  refine wpAnyH_take (i := 37) (oi := ⟨some 81, _, _, _, _, none⟩) (v := ?_) rfl (by kernel_rfl) (by kernel_rfl) (by kernel_rfl) (fun _ _ _ h => h) (Or.inl ⟨by rfl, ?_⟩) (by assumption) ?_
  rotate_left
  · intro wz hSw; (try dsimp only at hSw); go_simp; (try with_reducible rfl)
  try simp only [Act.put, List.setIfInBounds_toArray, List.set_cons_zero, List.set_cons_succ]
  refine wpAnyH_ready (rs := [34]) (by kernel_rfl) (by simp) ?_
  refine AllReadyH.cons (o := ⟨some 78, _, _, _, _, none⟩) rfl (fun K hK => ?_) AllReadyH.nil
  go_simp
  replace g0 := keepA (.cells #[.pointer (some ⟨S, 7, none⟩), .pointer (some ⟨S, 8, none⟩), .pointer (some ⟨S, 9, none⟩), .pointer (some ⟨S, 10, none⟩), .pointer (some ⟨S, 11, none⟩), .pointer (some ⟨S, 12, none⟩), .pointer (some ⟨S, 13, none⟩), .pointer (some ⟨S, 14, none⟩), .pointer (some ⟨S, 15, none⟩), .pointer (some ⟨S, 16, none⟩), .pointer (some ⟨S, 17, none⟩)] 97) g0
  replace g1 := keepA (.cells #[.pointer (some ⟨S, 7, none⟩), .pointer (some ⟨S, 8, none⟩), .pointer (some ⟨S, 9, none⟩), .pointer (some ⟨S, 10, none⟩), .pointer (some ⟨S, 11, none⟩), .pointer (some ⟨S, 12, none⟩), .pointer (some ⟨S, 13, none⟩), .pointer (some ⟨S, 14, none⟩), .pointer (some ⟨S, 15, none⟩), .pointer (some ⟨S, 16, none⟩), .pointer (some ⟨S, 17, none⟩)] 97) g1
  refine hK.out _ _ ?_ (fun hHeld => ?_)
  · exact ⟨g0, g1⟩
  clear hK K
  try simp only [Act.put, List.setIfInBounds_toArray, List.set_cons_zero, List.set_cons_succ]
  refine wpAnyH_ready (rs := [38]) (by kernel_rfl) (by simp) ?_
  refine AllReadyH.cons (o := ⟨some 82, _, _, _, _, none⟩) rfl (fun K hK => ?_) AllReadyH.nil
  go_simp
  refine KEY.out.mono ?_
  rintro e7 w7 ⟨rfl, he', ho'⟩
  replace g0 := he'.hb
  replace g1 := he'.sb
  unfold shareFn at g1
  refine hK.out _ _ ?_ (fun hHeld => ?_)
  · exact ⟨g0, g1⟩
  clear hK K
  try simp only [Act.put, List.setIfInBounds_toArray, List.set_cons_zero, List.set_cons_succ]
  refine wpAnyH_done (by kernel_rfl) ?_ _
  replace ho := ho.trans ho'
  replace hS := ho'.at hS hn
  obtain ⟨o7, hO7⟩ : ∃ o : List Int, o6 ++ manyP [s.allow, s.unit, s.cap, s.paidBreak, s.autoAfter, s.autoBreak, s.dayReg, s.dayOver, s.weekReg, s.nightFrom, s.nightTo] = o := ⟨_, rfl⟩
  rw [hO7] at he'
  replace he := he'
  replace hb : o7.length ≤ 21000 := by rw [← hO7]; simp only [List.length_append]; omega
  have HO7 := Lib.hid hO7
  clear hO7 he' ho' hed hod kd KEY hml g0 g1 hHeld hat
  go_wp2_with fail
  have kd : Below w7.heap.size w7 w7.drew := (Below.refl _ _).drew
  have hed := he.below kd
  have hod := ho.trans (Below.off kd)
  have hs : w7.drew.cell? ⟨S, 18, none⟩ = some (.slice q.ra q.rl q.rc) := by show w7.cell? _ = _; simp [World.cell?, hS]
  have KEY := Lib.hid (pen_list_Int H W.heap.size (W.heap.size + 1) S 18 q.rl q.rc q.ra s.rates o7 w7.drew hed hs hn (G5.out.off hod) PK.out.2.2.2.2.2.2.2.1 (by omega) (by omega))
  have hml := manyP_len PK.out.2.2.2.2.2.2.2.1
  rw [l5] at hml
  have hol := oneP_len (n := (q.rl : Int)) ⟨by omega, by omega⟩
  have g0 := hed.hb
  have g1 := hed.sb
  unfold shareFn at g1
  refine wp_region_held_drew (S := (fun w' => w'.cell? ⟨W.heap.size, 0, none⟩ = some (.iface 64 (.pointer (some ⟨H, 0, none⟩))) ∧ w'.cell? ⟨(W.heap.size + 1), 0, none⟩ = some (.func (.func 70) #[] #[.pointer (some ⟨W.heap.size, 0, none⟩)]))) (by kernel_rfl) ?_ (fun hHeld => ?_)
  · exact ⟨g0, g1⟩
  refine wpAnyH_take (i := 0) (oi := ⟨some 83, _, _, _, _, none⟩) (v := ?_) rfl (by kernel_rfl) (by kernel_rfl) (by kernel_rfl) (fun _ _ _ h => h) (Or.inl ⟨by rfl, ?_⟩) (by assumption) ?_
  rotate_left
  · intro wz hSw; (try dsimp only at hSw); go_simp; (try with_reducible rfl)
  try simp only [Act.put, List.setIfInBounds_toArray, List.set_cons_zero, List.set_cons_succ]
  refine wpAnyH_take (i := 1) (oi := ⟨some 84, _, _, _, _, none⟩) (v := ?_) rfl (by kernel_rfl) (by kernel_rfl) (by kernel_rfl) (fun _ _ _ h => h) (Or.inl ⟨by rfl, ?_⟩) (by assumption) ?_
  rotate_left
  · intro wz hSw; (try dsimp only at hSw); go_simp; (try with_reducible rfl)
  try simp only [Act.put, List.setIfInBounds_toArray, List.set_cons_zero, List.set_cons_succ]
  refine wpAnyH_take (i := 2) (oi := ⟨some 85, _, _, _, _, none⟩) (v := ?_) rfl (by kernel_rfl) (by kernel_rfl) (by kernel_rfl) (fun _ _ _ h => h) (Or.inl ⟨by rfl, ?_⟩) (by assumption) ?_
  rotate_left
  · intro wz hSw; (try dsimp only at hSw); go_simp; (try with_reducible rfl)
  try simp only [Act.put, List.setIfInBounds_toArray, List.set_cons_zero, List.set_cons_succ]
  refine wpAnyH_take (i := 3) (oi := ⟨some 86, _, _, _, _, none⟩) (v := ?_) rfl (by kernel_rfl) (by kernel_rfl) (by kernel_rfl) (fun _ _ _ h => h) (Or.inl ⟨by rfl, ?_⟩) (by assumption) ?_
  rotate_left
  · intro wz hSw; (try dsimp only at hSw); go_simp; (try with_reducible rfl)
  try simp only [Act.put, List.setIfInBounds_toArray, List.set_cons_zero, List.set_cons_succ]
  refine wpAnyH_take (i := 4) (oi := ⟨some 87, _, _, _, _, none⟩) (v := ?_) rfl (by kernel_rfl) (by kernel_rfl) (by kernel_rfl) (fun _ _ _ h => h) (Or.inl ⟨by rfl, ?_⟩) (by assumption) ?_
  rotate_left
  · intro wz hSw; (try dsimp only at hSw); go_simp; (try with_reducible rfl)
  try simp only [Act.put, List.setIfInBounds_toArray, List.set_cons_zero, List.set_cons_succ]
  refine wpAnyH_ready (rs := [5]) (by kernel_rfl) (by simp) ?_
  refine AllReadyH.cons (o := ⟨some 88, _, _, _, _, none⟩) rfl (fun K hK => ?_) AllReadyH.nil
  go_simp
  refine KEY.out.mono ?_
  rintro e8 w8 ⟨rfl, he', ho'⟩
  replace g0 := he'.hb
  replace g1 := he'.sb
  unfold shareFn at g1
  refine hK.out _ _ ?_ (fun hHeld => ?_)
  · exact ⟨g0, g1⟩
  clear hK K
  try simp only [Act.put, List.setIfInBounds_toArray, List.set_cons_zero, List.set_cons_succ]
  refine wpAnyH_done (by kernel_rfl) ?_ _
  replace ho := hod.trans ho'
  replace hS := (Off.at (Below.off kd) hS hn)
  replace hS := ho'.at hS hn
  obtain ⟨o8, hO8⟩ : ∃ o : List Int, o7 ++ (oneP (q.rl : Int) ++ manyP s.rates) = o := ⟨_, rfl⟩
  rw [hO8] at he'
  replace he := he'
  replace hb : o8.length ≤ 24000 := by rw [← hO8]; simp only [List.length_append]; omega
  have HO8 := Lib.hid hO8
  clear hO8 he' ho' hed hod kd KEY hml g0 g1 hHeld hs hol
  go_wp2_with fail
  have kd : Below w8.heap.size w8 w8.drew := (Below.refl _ _).drew
  have hed := he.below kd
  have hod := ho.trans (Below.off kd)
  have hat : At w8 S 19 [s.diff, s.least, s.fault] := by
    intro i z hz
    have hi : i < 3 := by simpa using (List.getElem?_eq_some_iff.1 hz).1
    show w8.cell? _ = _
    rcases (show i = 0 ∨ i = 1 ∨ i = 2 by omega) with rfl | rfl | rfl <;> (simp only [List.getElem?_cons_zero, List.getElem?_cons_succ, Option.some.injEq] at hz; subst hz; simp [World.cell?, hS])
  have KEY := Lib.hid (pen_put_new [(S, 19), (S, 20), (S, 21)] he hat hn rfl PK.out.2.2.2.2.2.2.2.2.1 (by omega) (by simp))
  have hml := manyP_len PK.out.2.2.2.2.2.2.2.2.1
  simp only [List.length_cons, List.length_nil] at hml
  have g0 := hed.hb
  have g1 := hed.sb
  unfold shareFn at g1
  refine wp_region_held_drew (S := (fun w' => w'.cell? ⟨W.heap.size, 0, none⟩ = some (.iface 64 (.pointer (some ⟨H, 0, none⟩))) ∧ w'.cell? ⟨(W.heap.size + 1), 0, none⟩ = some (.func (.func 70) #[] #[.pointer (some ⟨W.heap.size, 0, none⟩)]))) (by kernel_rfl) ?_ (fun hHeld => ?_)
  · exact ⟨g0, g1⟩
  refine wpAnyH_take (i := 0) (oi := ⟨some 89, _, _, _, _, none⟩) (v := ?_) rfl (by kernel_rfl) (by kernel_rfl) (by kernel_rfl) (fun _ _ _ h => h) (Or.inl ⟨by rfl, ?_⟩) (by assumption) ?_
  rotate_left
  · intro wz hSw; (try dsimp only at hSw); go_simp; (try with_reducible rfl)
  try simp only [Act.put, List.setIfInBounds_toArray, List.set_cons_zero, List.set_cons_succ]
  refine wpAnyH_take (i := 1) (oi := ⟨some 90, _, _, _, _, none⟩) (v := ?_) rfl (by kernel_rfl) (by kernel_rfl) (by kernel_rfl) (fun _ _ _ h => h) (Or.inl ⟨by rfl, ?_⟩) (by assumption) ?_
  rotate_left
  · intro wz hSw; (try dsimp only at hSw); go_simp; (try with_reducible rfl)
  try simp only [Act.put, List.setIfInBounds_toArray, List.set_cons_zero, List.set_cons_succ]
  refine wpAnyH_take (i := 2) (oi := ⟨some 91, _, _, _, _, none⟩) (v := ?_) rfl (by kernel_rfl) (by kernel_rfl) (by kernel_rfl) (fun _ _ _ h => h) (Or.inl ⟨by rfl, ?_⟩) (by assumption) ?_
  rotate_left
  · intro wz hSw; (try dsimp only at hSw); go_simp; (try with_reducible rfl)
  try simp only [Act.put, List.setIfInBounds_toArray, List.set_cons_zero, List.set_cons_succ]
  refine wpAnyH_take (i := 3) (oi := ⟨some 92, _, _, _, _, none⟩) (v := ?_) rfl (by kernel_rfl) (by kernel_rfl) (by kernel_rfl) (fun _ _ _ h => h) (Or.inl ⟨by rfl, ?_⟩) (by assumption) ?_
  rotate_left
  · intro wz hSw; (try dsimp only at hSw); go_simp; (try with_reducible rfl)
  try simp only [Act.put, List.setIfInBounds_toArray, List.set_cons_zero, List.set_cons_succ]
  refine wpAnyH_take (i := 4) (oi := ⟨some 93, _, _, _, _, none⟩) (v := ?_) rfl (by kernel_rfl) (by kernel_rfl) (by kernel_rfl) (fun _ _ _ h => h) (Or.inl ⟨by rfl, ?_⟩) (by assumption) ?_
  rotate_left
  · intro wz hSw; (try dsimp only at hSw); go_simp; (try with_reducible rfl)
  try simp only [Act.put, List.setIfInBounds_toArray, List.set_cons_zero, List.set_cons_succ]
  refine wpAnyH_take (i := 5) (oi := ⟨some 94, _, _, _, _, none⟩) (v := ?_) rfl (by kernel_rfl) (by kernel_rfl) (by kernel_rfl) (fun _ _ _ h => h) (Or.inl ⟨by rfl, ?_⟩) (by assumption) ?_
  rotate_left
  · intro wz hSw; (try dsimp only at hSw); go_simp; (try with_reducible rfl)
  try simp only [Act.put, List.setIfInBounds_toArray, List.set_cons_zero, List.set_cons_succ]
  refine wpAnyH_take (i := 6) (oi := ⟨some 95, _, _, _, _, none⟩) (v := ?_) rfl (by kernel_rfl) (by kernel_rfl) (by kernel_rfl) (fun _ _ _ h => h) (Or.inl ⟨by rfl, ?_⟩) (by assumption) ?_
  rotate_left
  · intro wz hSw; (try dsimp only at hSw); go_simp; (try with_reducible rfl)
  try simp only [Act.put, List.setIfInBounds_toArray, List.set_cons_zero, List.set_cons_succ]
  refine wpAnyH_take (i := 7) (oi := ⟨some 96, _, _, _, _, none⟩) (v := ?_) rfl (by kernel_rfl) (by kernel_rfl) (by kernel_rfl) (fun _ _ _ h => h) (Or.inl ⟨by rfl, ?_⟩) (by assumption) ?_
  rotate_left
  · intro wz hSw; (try dsimp only at hSw); go_simp; (try with_reducible rfl)
  try simp only [Act.put, List.setIfInBounds_toArray, List.set_cons_zero, List.set_cons_succ]
  refine wpAnyH_take (i := 8) (oi := ⟨some 97, _, _, _, _, none⟩) (v := ?_) rfl (by kernel_rfl) (by kernel_rfl) (by kernel_rfl) (fun _ _ _ h => h) (Or.inl ⟨by rfl, ?_⟩) (by assumption) ?_
  rotate_left
  · intro wz hSw; (try dsimp only at hSw); go_simp; (try with_reducible rfl)
  try simp only [Act.put, List.setIfInBounds_toArray, List.set_cons_zero, List.set_cons_succ]
  refine wpAnyH_take (i := 9) (oi := ⟨some 98, _, _, _, _, none⟩) (v := ?_) rfl (by kernel_rfl) (by kernel_rfl) (by kernel_rfl) (fun _ _ _ h => h) (Or.inl ⟨by rfl, ?_⟩) (by assumption) ?_
  rotate_left
  · intro wz hSw; (try dsimp only at hSw); go_simp; (try with_reducible rfl)
  try simp only [Act.put, List.setIfInBounds_toArray, List.set_cons_zero, List.set_cons_succ]
  refine wpAnyH_take (i := 11) (oi := ⟨some 100, _, _, _, _, none⟩) (v := ?_) rfl (by kernel_rfl) (by kernel_rfl) (by kernel_rfl) (fun _ _ _ h => h) (Or.inl ⟨by rfl, ?_⟩) (by assumption) ?_
  rotate_left
  · intro wz hSw; (try dsimp only at hSw); go_simp; (try with_reducible rfl)
  try simp only [Act.put, List.setIfInBounds_toArray, List.set_cons_zero, List.set_cons_succ]
  refine wpAnyH_take (i := 12) (oi := ⟨some 101, _, _, _, _, none⟩) (v := ?_) rfl (by kernel_rfl) (by kernel_rfl) (by kernel_rfl) (fun _ _ _ h => h) (Or.inl ⟨by rfl, ?_⟩) (by assumption) ?_
  rotate_left
  · intro wz hSw; (try dsimp only at hSw); go_simp; (try with_reducible rfl)
  try simp only [Act.put, List.setIfInBounds_toArray, List.set_cons_zero, List.set_cons_succ]
  refine wpAnyH_take (i := 13) (oi := ⟨some 102, _, _, _, _, none⟩) (v := ?_) rfl (by kernel_rfl) (by kernel_rfl) (by kernel_rfl) (fun _ _ _ h => h) (Or.inl ⟨by rfl, ?_⟩) (by assumption) ?_
  rotate_left
  · intro wz hSw; (try dsimp only at hSw); go_simp; (try with_reducible rfl)
  try simp only [Act.put, List.setIfInBounds_toArray, List.set_cons_zero, List.set_cons_succ]
  refine wpAnyH_ready (rs := [10]) (by kernel_rfl) (by simp) ?_
  refine AllReadyH.cons (o := ⟨some 99, _, _, _, _, none⟩) rfl (fun K hK => ?_) AllReadyH.nil
  go_simp
  replace g0 := keepA (.cells #[.pointer (some ⟨S, 19, none⟩), .pointer (some ⟨S, 20, none⟩), .pointer (some ⟨S, 21, none⟩)] 97) g0
  replace g1 := keepA (.cells #[.pointer (some ⟨S, 19, none⟩), .pointer (some ⟨S, 20, none⟩), .pointer (some ⟨S, 21, none⟩)] 97) g1
  refine hK.out _ _ ?_ (fun hHeld => ?_)
  · exact ⟨g0, g1⟩
  clear hK K
  try simp only [Act.put, List.setIfInBounds_toArray, List.set_cons_zero, List.set_cons_succ]
  refine wpAnyH_ready (rs := [14]) (by kernel_rfl) (by simp) ?_
  refine AllReadyH.cons (o := ⟨some 103, _, _, _, _, none⟩) rfl (fun K hK => ?_) AllReadyH.nil
  go_simp
  refine KEY.out.mono ?_
  rintro e9 w9 ⟨rfl, he', ho'⟩
  replace g0 := he'.hb
  replace g1 := he'.sb
  unfold shareFn at g1
  refine hK.out _ _ ?_ (fun hHeld => ?_)
  · exact ⟨g0, g1⟩
  clear hK K
  try simp only [Act.put, List.setIfInBounds_toArray, List.set_cons_zero, List.set_cons_succ]
  refine wpAnyH_done (by kernel_rfl) ?_ _
  replace ho := ho.trans ho'
  replace hS := ho'.at hS hn
  obtain ⟨o9, hO9⟩ : ∃ o : List Int, o8 ++ manyP [s.diff, s.least, s.fault] = o := ⟨_, rfl⟩
  rw [hO9] at he'
  replace he := he'
  replace hb : o9.length ≤ 27000 := by rw [← hO9]; simp only [List.length_append]; omega
  have HO9 := Lib.hid hO9
  clear hO9 he' ho' hed hod kd KEY hml g0 g1 hHeld hat
  go_wp2_with fail
  have kd : Below w9.heap.size w9 w9.drew := (Below.refl _ _).drew
  have hed := he.below kd
  have hod := ho.trans (Below.off kd)
  have hs : w9.drew.cell? ⟨S, 22, none⟩ = some (.slice q.ta q.tl q.tc) := by show w9.cell? _ = _; simp [World.cell?, hS]
  have KEY := Lib.hid (pen_list_Tier H W.heap.size (W.heap.size + 1) S 22 q.tl q.tc q.ta (flat2 s.tiers) o9 w9.drew hed hs hn (G6.out.off hod) PK.out.2.2.2.2.2.2.2.2.2 (by omega) (by omega))
  have hml := manyP_len PK.out.2.2.2.2.2.2.2.2.2
  rw [flat2_length, l6] at hml
  have hol := oneP_len (n := (q.tl : Int)) ⟨by omega, by omega⟩
  have g0 := hed.hb
  have g1 := hed.sb
  unfold shareFn at g1
  refine wp_region_held_drew (S := (fun w' => w'.cell? ⟨W.heap.size, 0, none⟩ = some (.iface 64 (.pointer (some ⟨H, 0, none⟩))) ∧ w'.cell? ⟨(W.heap.size + 1), 0, none⟩ = some (.func (.func 70) #[] #[.pointer (some ⟨W.heap.size, 0, none⟩)]))) (by kernel_rfl) ?_ (fun hHeld => ?_)
  · exact ⟨g0, g1⟩
  refine wpAnyH_take (i := 0) (oi := ⟨some 104, _, _, _, _, none⟩) (v := ?_) rfl (by kernel_rfl) (by kernel_rfl) (by kernel_rfl) (fun _ _ _ h => h) (Or.inl ⟨by rfl, ?_⟩) (by assumption) ?_
  rotate_left
  · intro wz hSw; (try dsimp only at hSw); go_simp; (try with_reducible rfl)
  try simp only [Act.put, List.setIfInBounds_toArray, List.set_cons_zero, List.set_cons_succ]
  refine wpAnyH_take (i := 1) (oi := ⟨some 105, _, _, _, _, none⟩) (v := ?_) rfl (by kernel_rfl) (by kernel_rfl) (by kernel_rfl) (fun _ _ _ h => h) (Or.inl ⟨by rfl, ?_⟩) (by assumption) ?_
  rotate_left
  · intro wz hSw; (try dsimp only at hSw); go_simp; (try with_reducible rfl)
  try simp only [Act.put, List.setIfInBounds_toArray, List.set_cons_zero, List.set_cons_succ]
  refine wpAnyH_take (i := 2) (oi := ⟨some 106, _, _, _, _, none⟩) (v := ?_) rfl (by kernel_rfl) (by kernel_rfl) (by kernel_rfl) (fun _ _ _ h => h) (Or.inl ⟨by rfl, ?_⟩) (by assumption) ?_
  rotate_left
  · intro wz hSw; (try dsimp only at hSw); go_simp; (try with_reducible rfl)
  try simp only [Act.put, List.setIfInBounds_toArray, List.set_cons_zero, List.set_cons_succ]
  refine wpAnyH_take (i := 3) (oi := ⟨some 107, _, _, _, _, none⟩) (v := ?_) rfl (by kernel_rfl) (by kernel_rfl) (by kernel_rfl) (fun _ _ _ h => h) (Or.inl ⟨by rfl, ?_⟩) (by assumption) ?_
  rotate_left
  · intro wz hSw; (try dsimp only at hSw); go_simp; (try with_reducible rfl)
  try simp only [Act.put, List.setIfInBounds_toArray, List.set_cons_zero, List.set_cons_succ]
  refine wpAnyH_take (i := 4) (oi := ⟨some 108, _, _, _, _, none⟩) (v := ?_) rfl (by kernel_rfl) (by kernel_rfl) (by kernel_rfl) (fun _ _ _ h => h) (Or.inl ⟨by rfl, ?_⟩) (by assumption) ?_
  rotate_left
  · intro wz hSw; (try dsimp only at hSw); go_simp; (try with_reducible rfl)
  try simp only [Act.put, List.setIfInBounds_toArray, List.set_cons_zero, List.set_cons_succ]
  refine wpAnyH_ready (rs := [5]) (by kernel_rfl) (by simp) ?_
  refine AllReadyH.cons (o := ⟨some 109, _, _, _, _, none⟩) rfl (fun K hK => ?_) AllReadyH.nil
  go_simp
  refine KEY.out.mono ?_
  rintro e10 w10 ⟨rfl, he', ho'⟩
  replace g0 := he'.hb
  replace g1 := he'.sb
  unfold shareFn at g1
  refine hK.out _ _ ?_ (fun hHeld => ?_)
  · exact ⟨g0, g1⟩
  clear hK K
  try simp only [Act.put, List.setIfInBounds_toArray, List.set_cons_zero, List.set_cons_succ]
  refine wpAnyH_done (by kernel_rfl) ?_ _
  replace ho := hod.trans ho'
  replace hS := (Off.at (Below.off kd) hS hn)
  replace hS := ho'.at hS hn
  obtain ⟨o10, hO10⟩ : ∃ o : List Int, o9 ++ (oneP (q.tl : Int) ++ manyP (flat2 s.tiers)) = o := ⟨_, rfl⟩
  rw [hO10] at he'
  replace he := he'
  replace hb : o10.length ≤ 30000 := by rw [← hO10]; simp only [List.length_append]; omega
  have HO10 := Lib.hid hO10
  clear hO10 he' ho' hed hod kd KEY hml g0 g1 hHeld hs hol

  refine bodyPost_end (v := .tuple #[]) (by simp [results, Try.results34, go_sem]) rfl ⟨rfl, ?_, ho⟩
  have e : o10 = manyP (numbersP s) := by
    rw [← HO10.out, ← HO9.out, ← HO8.out, ← HO7.out, ← HO6.out, ← HO5.out, ← HO4.out, ← HO3.out, ← HO2.out, ← HO1.out, ← HO0.out]
    rw [← l1, ← l2, ← l3, ← l4, ← l5, ← l6]
    simp only [numbersP, manyP_append, manyP_one, List.append_assoc, List.nil_append]
    rfl
  rw [← e]
  exact he.pen
end Go.Proofs.Ytnjckaifgmliaaa
