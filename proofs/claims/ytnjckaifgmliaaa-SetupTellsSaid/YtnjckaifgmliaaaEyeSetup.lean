/- THE WALK of layer 7's setup, with an eye. -/
import Derived.Test.YtnjckaifgmliaaaEyeList
import Derived.Test.YtnjckaifgmliaaaPenSetup
set_option linter.unusedSimpArgs false
set_option linter.unusedVariables false
namespace Go.Proofs.Ytnjckaifgmliaaa
open Go.RowKit Lu

theorem eyeEnv_start {W : World} {H : Nat} {X : List Nat} {st : Option (List Int)} (hp : EyeIs W H X st) (hx : H ∈ X) : EyeEnv ((W.alloc (.cells #[.iface 69 (.pointer (some ⟨H, 0, none⟩))] 94)).alloc (.cells #[shareFn W.heap.size] 98)) H W.heap.size (W.heap.size + 1) X st := by
  have k : Below W.heap.size W ((W.alloc (.cells #[.iface 69 (.pointer (some ⟨H, 0, none⟩))] 94)).alloc (.cells #[shareFn W.heap.size] 98)) := by go_grown
  have hl := hp.low
  exact ⟨hp.below k, by simp [go_sem], by simp [go_sem], hx, fun h => by have := hl _ h; omega, fun h => by have := hl _ h; omega⟩
theorem Blk3.of_at {W : World} {R : Nat} {T : TypeId} {cs : List Value} (h : W.heap[R]? = some (.cells cs.toArray T)) (xs : List Value) (zs : List Int) (ys : List Value) (e : cs = xs ++ (zs.map (Value.int .i64) ++ ys)) : Blk3 W R T xs zs ys := by
  unfold Blk3
  rw [← e]
  exact h
/-- What the eye leaves of a setup. -/
def EyeSetup (H S : Nat) (TS : TypeId) (X : List Nat) (b : List Int) (W : World) (e : Ending) (W' : World) : Prop :=
  e = .returned (.tuple #[]) ∧ ∃ q : Slices, EyeIs W' H X (eyeS b).2 ∧ Off2 H S W W' ∧
    W'.heap[S]? = some (.cells #[.int .i64 (eyeS b).1.places, .slice q.wa q.wl q.wc, .int .i64 (eyeS b).1.pn, .int .i64 (eyeS b).1.pd, .slice q.ea q.el q.ec, .slice q.ca q.cl q.cc, .slice q.ga q.gl q.gc, .int .i64 (eyeS b).1.allow, .int .i64 (eyeS b).1.unit, .int .i64 (eyeS b).1.cap, .int .i64 (eyeS b).1.paidBreak, .int .i64 (eyeS b).1.autoAfter, .int .i64 (eyeS b).1.autoBreak, .int .i64 (eyeS b).1.dayReg, .int .i64 (eyeS b).1.dayOver, .int .i64 (eyeS b).1.weekReg, .int .i64 (eyeS b).1.nightFrom, .int .i64 (eyeS b).1.nightTo, .slice q.ra q.rl q.rc, .int .i64 (eyeS b).1.diff, .int .i64 (eyeS b).1.least, .int .i64 (eyeS b).1.fault, .slice q.ta q.tl q.tc] TS) ∧
    GrpX W' X q.wa q.wl 3 (eye1 b).1 ∧ GrpX W' X q.ea q.el 4 (eye3 b).1 ∧ GrpX W' X q.ca q.cl 2 (eye4 b).1 ∧ GrpX W' X q.ga q.gl 2 (eye5 b).1 ∧ GrpX W' X q.ra q.rl 1 (eye7 b).1 ∧ GrpX W' X q.ta q.tl 2 (eye9 b).1 ∧
    q.wl ≤ q.wc ∧ q.el ≤ q.ec ∧ q.cl ≤ q.cc ∧ q.gl ≤ q.gc ∧ q.rl ≤ q.rc ∧ q.tl ≤ q.tc ∧ q.wl ≤ 64 ∧ q.el ≤ 64 ∧ q.cl ≤ 64 ∧ q.gl ≤ 64 ∧ q.rl ≤ 64 ∧ q.tl ≤ 64
set_option maxRecDepth 100000 in
set_option maxHeartbeats 4000000 in
theorem eye_setup (H S : Nat) (TS : TypeId) (X : List Nat) (b : List Int) (W : World) (hp : EyeIs W H X (some b)) (hX : H ∈ X) (hS0 : W.heap[S]? = some (.cells [.int .i64 0, .slice none 0 0, .int .i64 0, .int .i64 0, .slice none 0 0, .slice none 0 0, .slice none 0 0, .int .i64 0, .int .i64 0, .int .i64 0, .int .i64 0, .int .i64 0, .int .i64 0, .int .i64 0, .int .i64 0, .int .i64 0, .int .i64 0, .int .i64 0, .slice none 0 0, .int .i64 0, .int .i64 0, .int .i64 0, .slice none 0 0].toArray TS)) (hSX : S ∈ X) (hn : S ≠ H) :
    Calls Try.prog 34 #[.iface 69 (.pointer (some ⟨H, 0, none⟩)), .pointer (some ⟨S, 0, none⟩)] W (EyeSetup H S TS X b W) := by
  have na : ∀ w, (nilAhead 274 69 (.pointer (some ⟨H, 0, none⟩)) "lumper/setup.put").run Try.prog w = .ok (some false) w := nil_ahead_eye _
  have ma : ∀ w, (method 274 69 (.pointer (some ⟨H, 0, none⟩)) "lumper/setup.put").run Try.prog w = .ok (140, .pointer (some ⟨H, 0, none⟩)) w := method_eye _
  have env := eyeEnv_start hp hX
  have k0 : Below W.heap.size W ((W.alloc (.cells #[.iface 69 (.pointer (some ⟨H, 0, none⟩))] 94)).alloc (.cells #[shareFn W.heap.size] 98)) := by go_grown
  have hS1 := box_keep k0 hS0 (block_lt hS0)
  have oo : Off2 H S W ((W.alloc (.cells #[.iface 69 (.pointer (some ⟨H, 0, none⟩))] 94)).alloc (.cells #[shareFn W.heap.size] 98)) := Below.off2 k0
  clear hp hS0 k0
  obtain ⟨st0, hst0⟩ : ∃ s, some b = s := ⟨_, rfl⟩
  rw [hst0] at env
  have HST0 := Lib.hid hst0
  clear hst0
  go_enter Try.func34, Try.ntmps34
  have cc1 : ((W.alloc (.cells #[.iface 69 (.pointer (some ⟨H, 0, none⟩))] 94)).alloc (.cells #[.nilFunc] 98)).cell? ⟨W.heap.size + 1, 0, none⟩ = some .nilFunc := by simp [go_sem]
  have ff1 : ((W.alloc (.cells #[.iface 69 (.pointer (some ⟨H, 0, none⟩))] 94)).alloc (.cells #[.nilFunc] 98)).frozen? ⟨W.heap.size + 1, 0, none⟩ = false := by simp [go_sem]
  have rs : ∀ (w : World) (a : Addr) (f : Fn) (x y : Array Value) (m), (store a (.func f x y) m).run Try.prog w = stored Try.prog w a (.func f x y) m := fun w a f x y m => run_store Try.prog w a _ m rfl
  go_upto_region 2 with fail
  refine gen_code (S := fun V => EyeEnv V H W.heap.size (W.heap.size + 1) X st0 ∧ V.heap[S]? = some (.cells [.int .i64 0, .slice none 0 0, .int .i64 0, .int .i64 0, .slice none 0 0, .slice none 0 0, .slice none 0 0, .int .i64 0, .int .i64 0, .int .i64 0, .int .i64 0, .int .i64 0, .int .i64 0, .int .i64 0, .int .i64 0, .int .i64 0, .int .i64 0, .int .i64 0, .slice none 0 0, .int .i64 0, .int .i64 0, .int .i64 0, .slice none 0 0].toArray TS) ∧ Off2 H S W V) ⟨env, hS1, oo⟩ (fun V hV => ?_)
  clear env hS1 oo
  obtain ⟨he, hS, ho⟩ := hV
  have kd : Below V.heap.size V V.drew := (Below.refl _ _).drew
  have hed := he.below kd
  have hod := ho.trans (Below.off2 kd)
  have hbk : Blk3 V S TS [] [0] [.slice none 0 0, .int .i64 0, .int .i64 0, .slice none 0 0, .slice none 0 0, .slice none 0 0, .int .i64 0, .int .i64 0, .int .i64 0, .int .i64 0, .int .i64 0, .int .i64 0, .int .i64 0, .int .i64 0, .int .i64 0, .int .i64 0, .int .i64 0, .slice none 0 0, .int .i64 0, .int .i64 0, .int .i64 0, .slice none 0 0] := Blk3.of_at hS _ _ _ rfl
  have KEY := Lib.hid (eye_put_new [.pointer (some ⟨S, 0, none⟩)] he hbk rfl hSX hn rfl (by simp))
  have g0 := hed.hb
  have g1 := hed.sb
  unfold shareFn at g1
  refine wp_region_held_drew (S := (fun w' => w'.cell? ⟨W.heap.size, 0, none⟩ = some (.iface 69 (.pointer (some ⟨H, 0, none⟩))) ∧ w'.cell? ⟨(W.heap.size + 1), 0, none⟩ = some (.func (.func 70) #[] #[.pointer (some ⟨W.heap.size, 0, none⟩)]))) (by kernel_rfl) ?_ (fun hHeld => ?_)
  · exact ⟨g0, g1⟩
  refine wpAnyH_take (i := 0) (oi := ⟨some 6, _, _, _, _, none⟩) (v := ?_) rfl (by kernel_rfl) (by kernel_rfl) (by kernel_rfl) (fun _ _ _ h => h) (Or.inl ⟨by rfl, ?_⟩) (by assumption) ?_
  rotate_left
  · intro wz hSw; (try dsimp only at hSw); go_simp; (try with_reducible rfl)
  try simp only [Act.put, List.setIfInBounds_toArray, List.set_cons_zero, List.set_cons_succ]
  refine wpAnyH_take (i := 1) (oi := ⟨some 7, _, _, _, _, none⟩) (v := ?_) rfl (by kernel_rfl) (by kernel_rfl) (by kernel_rfl) (fun _ _ _ h => h) (Or.inl ⟨by rfl, ?_⟩) (by assumption) ?_
  rotate_left
  · intro wz hSw; (try dsimp only at hSw); go_simp; (try with_reducible rfl)
  try simp only [Act.put, List.setIfInBounds_toArray, List.set_cons_zero, List.set_cons_succ]
  refine wpAnyH_take (i := 2) (oi := ⟨some 8, _, _, _, _, none⟩) (v := ?_) rfl (by kernel_rfl) (by kernel_rfl) (by kernel_rfl) (fun _ _ _ h => h) (Or.inl ⟨by rfl, ?_⟩) (by assumption) ?_
  rotate_left
  · intro wz hSw; (try dsimp only at hSw); go_simp; (try with_reducible rfl)
  try simp only [Act.put, List.setIfInBounds_toArray, List.set_cons_zero, List.set_cons_succ]
  refine wpAnyH_take (i := 3) (oi := ⟨some 9, _, _, _, _, none⟩) (v := ?_) rfl (by kernel_rfl) (by kernel_rfl) (by kernel_rfl) (fun _ _ _ h => h) (Or.inl ⟨by rfl, ?_⟩) (by assumption) ?_
  rotate_left
  · intro wz hSw; (try dsimp only at hSw); go_simp; (try with_reducible rfl)
  try simp only [Act.put, List.setIfInBounds_toArray, List.set_cons_zero, List.set_cons_succ]
  refine wpAnyH_take (i := 5) (oi := ⟨some 11, _, _, _, _, none⟩) (v := ?_) rfl (by kernel_rfl) (by kernel_rfl) (by kernel_rfl) (fun _ _ _ h => h) (Or.inl ⟨by rfl, ?_⟩) (by assumption) ?_
  rotate_left
  · intro wz hSw; (try dsimp only at hSw); go_simp; (try with_reducible rfl)
  try simp only [Act.put, List.setIfInBounds_toArray, List.set_cons_zero, List.set_cons_succ]
  refine wpAnyH_take (i := 6) (oi := ⟨some 12, _, _, _, _, none⟩) (v := ?_) rfl (by kernel_rfl) (by kernel_rfl) (by kernel_rfl) (fun _ _ _ h => h) (Or.inl ⟨by rfl, ?_⟩) (by assumption) ?_
  rotate_left
  · intro wz hSw; (try dsimp only at hSw); go_simp; (try with_reducible rfl)
  try simp only [Act.put, List.setIfInBounds_toArray, List.set_cons_zero, List.set_cons_succ]
  refine wpAnyH_take (i := 7) (oi := ⟨some 13, _, _, _, _, none⟩) (v := ?_) rfl (by kernel_rfl) (by kernel_rfl) (by kernel_rfl) (fun _ _ _ h => h) (Or.inl ⟨by rfl, ?_⟩) (by assumption) ?_
  rotate_left
  · intro wz hSw; (try dsimp only at hSw); go_simp; (try with_reducible rfl)
  try simp only [Act.put, List.setIfInBounds_toArray, List.set_cons_zero, List.set_cons_succ]
  refine wpAnyH_ready (rs := [4]) (by kernel_rfl) (by simp) ?_
  refine AllReadyH.cons (o := ⟨some 10, _, _, _, _, none⟩) rfl (fun K hK => ?_) AllReadyH.nil
  go_simp
  replace g0 := keepA (.cells #[.pointer (some ⟨S, 0, none⟩)] 97) g0
  replace g1 := keepA (.cells #[.pointer (some ⟨S, 0, none⟩)] 97) g1
  refine hK.out _ _ ?_ (fun hHeld => ?_)
  · exact ⟨g0, g1⟩
  clear hK K
  try simp only [Act.put, List.setIfInBounds_toArray, List.set_cons_zero, List.set_cons_succ]
  refine wpAnyH_ready (rs := [8]) (by kernel_rfl) (by simp) ?_
  refine AllReadyH.cons (o := ⟨some 14, _, _, _, _, none⟩) rfl (fun K hK => ?_) AllReadyH.nil
  go_simp
  refine KEY.out.mono ?_
  rintro e1 w1 ⟨rfl, he', hb', ho'⟩
  replace g0 := he'.hb
  replace g1 := he'.sb
  unfold shareFn at g1
  refine hK.out _ _ ?_ (fun hHeld => ?_)
  · exact ⟨g0, g1⟩
  clear hK K
  try simp only [Act.put, List.setIfInBounds_toArray, List.set_cons_zero, List.set_cons_succ]
  refine wpAnyH_done (by kernel_rfl) ?_ _
  obtain ⟨l0, st1, hE0⟩ : ∃ l s, eyeL st0 [0] = (l, s) := ⟨_, _, rfl⟩
  rw [hE0] at he' hb'
  simp only at he' hb'
  have hlen0 : l0.length = 1 := by have := eyeL_len st0 [0]; rw [hE0] at this; exact this
  obtain ⟨x0, rfl⟩ : ∃ x0, l0 = [x0] := by match l0, hlen0 with | [x0], _ => exact ⟨x0, rfl⟩
  have hS2 : w1.heap[S]? = some (.cells [.int .i64 x0, .slice none 0 0, .int .i64 0, .int .i64 0, .slice none 0 0, .slice none 0 0, .slice none 0 0, .int .i64 0, .int .i64 0, .int .i64 0, .int .i64 0, .int .i64 0, .int .i64 0, .int .i64 0, .int .i64 0, .int .i64 0, .int .i64 0, .int .i64 0, .slice none 0 0, .int .i64 0, .int .i64 0, .int .i64 0, .slice none 0 0].toArray TS) := by
    unfold Blk3 at hb'
    simpa using hb'
  replace ho := ho.trans ho'
  have HE0 := Lib.hid hE0
  replace he := he'
  replace hS := hS2
  clear hE0 he' ho' hed hod kd KEY g0 g1 hHeld hS2 hb' hbk
  go_wp2_with fail
  have kd : Below w1.heap.size w1 w1.drew := (Below.refl _ _).drew
  have hed := he.below kd
  have hod := ho.trans (Below.off2 kd)
  have hsd := box_keep kd hS (block_lt hS)
  have KEY := Lib.hid (eye_list_Way H W.heap.size (W.heap.size + 1) S 1 TS X _ _ w1.drew hed hsd rfl hSX hn)
  have g0 := hed.hb
  have g1 := hed.sb
  unfold shareFn at g1
  refine wp_region_held_drew (S := (fun w' => w'.cell? ⟨W.heap.size, 0, none⟩ = some (.iface 69 (.pointer (some ⟨H, 0, none⟩))) ∧ w'.cell? ⟨(W.heap.size + 1), 0, none⟩ = some (.func (.func 70) #[] #[.pointer (some ⟨W.heap.size, 0, none⟩)]))) (by kernel_rfl) ?_ (fun hHeld => ?_)
  · exact ⟨g0, g1⟩
  refine wpAnyH_take (i := 0) (oi := ⟨some 15, _, _, _, _, none⟩) (v := ?_) rfl (by kernel_rfl) (by kernel_rfl) (by kernel_rfl) (fun _ _ _ h => h) (Or.inl ⟨by rfl, ?_⟩) (by assumption) ?_
  rotate_left
  · intro wz hSw; (try dsimp only at hSw); go_simp; (try with_reducible rfl)
  try simp only [Act.put, List.setIfInBounds_toArray, List.set_cons_zero, List.set_cons_succ]
  refine wpAnyH_take (i := 1) (oi := ⟨some 16, _, _, _, _, none⟩) (v := ?_) rfl (by kernel_rfl) (by kernel_rfl) (by kernel_rfl) (fun _ _ _ h => h) (Or.inl ⟨by rfl, ?_⟩) (by assumption) ?_
  rotate_left
  · intro wz hSw; (try dsimp only at hSw); go_simp; (try with_reducible rfl)
  try simp only [Act.put, List.setIfInBounds_toArray, List.set_cons_zero, List.set_cons_succ]
  refine wpAnyH_take (i := 2) (oi := ⟨some 17, _, _, _, _, none⟩) (v := ?_) rfl (by kernel_rfl) (by kernel_rfl) (by kernel_rfl) (fun _ _ _ h => h) (Or.inl ⟨by rfl, ?_⟩) (by assumption) ?_
  rotate_left
  · intro wz hSw; (try dsimp only at hSw); go_simp; (try with_reducible rfl)
  try simp only [Act.put, List.setIfInBounds_toArray, List.set_cons_zero, List.set_cons_succ]
  refine wpAnyH_take (i := 3) (oi := ⟨some 18, _, _, _, _, none⟩) (v := ?_) rfl (by kernel_rfl) (by kernel_rfl) (by kernel_rfl) (fun _ _ _ h => h) (Or.inl ⟨by rfl, ?_⟩) (by assumption) ?_
  rotate_left
  · intro wz hSw; (try dsimp only at hSw); go_simp; (try with_reducible rfl)
  try simp only [Act.put, List.setIfInBounds_toArray, List.set_cons_zero, List.set_cons_succ]
  refine wpAnyH_take (i := 4) (oi := ⟨some 19, _, _, _, _, none⟩) (v := ?_) rfl (by kernel_rfl) (by kernel_rfl) (by kernel_rfl) (fun _ _ _ h => h) (Or.inl ⟨by rfl, ?_⟩) (by assumption) ?_
  rotate_left
  · intro wz hSw; (try dsimp only at hSw); go_simp; (try with_reducible rfl)
  try simp only [Act.put, List.setIfInBounds_toArray, List.set_cons_zero, List.set_cons_succ]
  refine wpAnyH_ready (rs := [5]) (by kernel_rfl) (by simp) ?_
  refine AllReadyH.cons (o := ⟨some 20, _, _, _, _, none⟩) rfl (fun K hK => ?_) AllReadyH.nil
  go_simp
  refine KEY.out.mono ?_
  rintro e2 w2 ⟨rfl, a1, c1, he', hS', hg1, hcl1, ho'⟩
  replace g0 := he'.hb
  replace g1 := he'.sb
  unfold shareFn at g1
  refine hK.out _ _ ?_ (fun hHeld => ?_)
  · exact ⟨g0, g1⟩
  clear hK K
  try simp only [Act.put, List.setIfInBounds_toArray, List.set_cons_zero, List.set_cons_succ]
  refine wpAnyH_done (by kernel_rfl) ?_ _
  obtain ⟨l1, st2, hE1⟩ : ∃ l s, eyeR 3 st1 = (l, s) := ⟨_, _, rfl⟩
  obtain ⟨n1, hN1⟩ : ∃ m, (eyeM st1).1 = m := ⟨_, rfl⟩
  rw [hE1] at he' hg1
  rw [hN1] at hS' hg1 hcl1
  simp only at he' hg1
  have hS2 : w2.heap[S]? = some (.cells [.int .i64 x0, .slice a1 n1 c1, .int .i64 0, .int .i64 0, .slice none 0 0, .slice none 0 0, .slice none 0 0, .int .i64 0, .int .i64 0, .int .i64 0, .int .i64 0, .int .i64 0, .int .i64 0, .int .i64 0, .int .i64 0, .int .i64 0, .int .i64 0, .int .i64 0, .slice none 0 0, .int .i64 0, .int .i64 0, .int .i64 0, .slice none 0 0].toArray TS) := by simpa using hS'
  replace ho := hod.trans ho'
  have HE1 := Lib.hid hE1
  replace he := he'
  replace hS := hS2
  have HN1 := Lib.hid hN1
  clear hE1 he' ho' hed hod kd KEY g0 g1 hHeld hS2 hS' hsd hN1
  go_wp2_with fail
  have kd : Below w2.heap.size w2 w2.drew := (Below.refl _ _).drew
  have hed := he.below kd
  have hod := ho.trans (Below.off2 kd)
  have hbk : Blk3 w2.drew S TS [.int .i64 x0, .slice a1 n1 c1] [0, 0] [.slice none 0 0, .slice none 0 0, .slice none 0 0, .int .i64 0, .int .i64 0, .int .i64 0, .int .i64 0, .int .i64 0, .int .i64 0, .int .i64 0, .int .i64 0, .int .i64 0, .int .i64 0, .int .i64 0, .slice none 0 0, .int .i64 0, .int .i64 0, .int .i64 0, .slice none 0 0] := Blk3.of_at (box_keep kd hS (block_lt hS)) _ _ _ rfl
  have KEY := Lib.hid (eye_share H W.heap.size (W.heap.size + 1) S 2 TS X [.int .i64 x0, .slice a1 n1 c1] [.slice none 0 0, .slice none 0 0, .slice none 0 0, .int .i64 0, .int .i64 0, .int .i64 0, .int .i64 0, .int .i64 0, .int .i64 0, .int .i64 0, .int .i64 0, .int .i64 0, .int .i64 0, .int .i64 0, .slice none 0 0, .int .i64 0, .int .i64 0, .int .i64 0, .slice none 0 0] [0, 0] _ w2.drew hed hbk rfl rfl hSX hn)
  have g0 := hed.hb
  have g1 := hed.sb
  unfold shareFn at g1
  refine wp_region_held_drew (S := (fun w' => w'.cell? ⟨W.heap.size, 0, none⟩ = some (.iface 69 (.pointer (some ⟨H, 0, none⟩))) ∧ w'.cell? ⟨(W.heap.size + 1), 0, none⟩ = some (.func (.func 70) #[] #[.pointer (some ⟨W.heap.size, 0, none⟩)]))) (by kernel_rfl) ?_ (fun hHeld => ?_)
  · exact ⟨g0, g1⟩
  refine wpAnyH_take (i := 0) (oi := ⟨some 21, _, _, _, _, none⟩) (v := ?_) rfl (by kernel_rfl) (by kernel_rfl) (by kernel_rfl) (fun _ _ _ h => h) (Or.inl ⟨by rfl, ?_⟩) (by assumption) ?_
  rotate_left
  · intro wz hSw; (try dsimp only at hSw); go_simp; (try with_reducible rfl)
  try simp only [Act.put, List.setIfInBounds_toArray, List.set_cons_zero, List.set_cons_succ]
  refine wpAnyH_take (i := 1) (oi := ⟨some 22, _, _, _, _, none⟩) (v := ?_) rfl (by kernel_rfl) (by kernel_rfl) (by kernel_rfl) (fun _ _ _ h => h) (Or.inl ⟨by rfl, ?_⟩) (by assumption) ?_
  rotate_left
  · intro wz hSw; (try dsimp only at hSw); go_simp; (try with_reducible rfl)
  try simp only [Act.put, List.setIfInBounds_toArray, List.set_cons_zero, List.set_cons_succ]
  refine wpAnyH_take (i := 2) (oi := ⟨some 23, _, _, _, _, none⟩) (v := ?_) rfl (by kernel_rfl) (by kernel_rfl) (by kernel_rfl) (fun _ _ _ h => h) (Or.inl ⟨by rfl, ?_⟩) (by assumption) ?_
  rotate_left
  · intro wz hSw; (try dsimp only at hSw); go_simp; (try with_reducible rfl)
  try simp only [Act.put, List.setIfInBounds_toArray, List.set_cons_zero, List.set_cons_succ]
  refine wpAnyH_take (i := 3) (oi := ⟨some 24, _, _, _, _, none⟩) (v := ?_) rfl (by kernel_rfl) (by kernel_rfl) (by kernel_rfl) (fun _ _ _ h => h) (Or.inl ⟨by rfl, ?_⟩) (by assumption) ?_
  rotate_left
  · intro wz hSw; (try dsimp only at hSw); go_simp; (try with_reducible rfl)
  try simp only [Act.put, List.setIfInBounds_toArray, List.set_cons_zero, List.set_cons_succ]
  refine wpAnyH_ready (rs := [4]) (by kernel_rfl) (by simp) ?_
  refine AllReadyH.cons (o := ⟨some 25, _, _, _, _, none⟩) rfl (fun K hK => ?_) AllReadyH.nil
  go_simp
  refine KEY.out.mono ?_
  rintro e3 w3 ⟨rfl, he', hb', ho'⟩
  replace g0 := he'.hb
  replace g1 := he'.sb
  unfold shareFn at g1
  refine hK.out _ _ ?_ (fun hHeld => ?_)
  · exact ⟨g0, g1⟩
  clear hK K
  try simp only [Act.put, List.setIfInBounds_toArray, List.set_cons_zero, List.set_cons_succ]
  refine wpAnyH_done (by kernel_rfl) ?_ _
  obtain ⟨l2, st3, hE2⟩ : ∃ l s, eyeL st2 [0, 0] = (l, s) := ⟨_, _, rfl⟩
  rw [hE2] at he' hb'
  simp only at he' hb'
  have hlen2 : l2.length = 2 := by have := eyeL_len st2 [0, 0]; rw [hE2] at this; exact this
  obtain ⟨x2, x3, rfl⟩ : ∃ x2 x3, l2 = [x2, x3] := by match l2, hlen2 with | [x2, x3], _ => exact ⟨x2, x3, rfl⟩
  have hS2 : w3.heap[S]? = some (.cells [.int .i64 x0, .slice a1 n1 c1, .int .i64 x2, .int .i64 x3, .slice none 0 0, .slice none 0 0, .slice none 0 0, .int .i64 0, .int .i64 0, .int .i64 0, .int .i64 0, .int .i64 0, .int .i64 0, .int .i64 0, .int .i64 0, .int .i64 0, .int .i64 0, .int .i64 0, .slice none 0 0, .int .i64 0, .int .i64 0, .int .i64 0, .slice none 0 0].toArray TS) := by
    unfold Blk3 at hb'
    simpa using hb'
  replace hg1 := (hg1.below kd).off2 ho' hX hSX
  replace ho := hod.trans ho'
  have HE2 := Lib.hid hE2
  replace he := he'
  replace hS := hS2
  clear hE2 he' ho' hed hod kd KEY g0 g1 hHeld hS2 hb' hbk
  go_wp2_with fail
  have kd : Below w3.heap.size w3 w3.drew := (Below.refl _ _).drew
  have hed := he.below kd
  have hod := ho.trans (Below.off2 kd)
  have hsd := box_keep kd hS (block_lt hS)
  have KEY := Lib.hid (eye_list_Element H W.heap.size (W.heap.size + 1) S 4 TS X _ _ w3.drew hed hsd rfl hSX hn)
  have g0 := hed.hb
  have g1 := hed.sb
  unfold shareFn at g1
  refine wp_region_held_drew (S := (fun w' => w'.cell? ⟨W.heap.size, 0, none⟩ = some (.iface 69 (.pointer (some ⟨H, 0, none⟩))) ∧ w'.cell? ⟨(W.heap.size + 1), 0, none⟩ = some (.func (.func 70) #[] #[.pointer (some ⟨W.heap.size, 0, none⟩)]))) (by kernel_rfl) ?_ (fun hHeld => ?_)
  · exact ⟨g0, g1⟩
  refine wpAnyH_take (i := 0) (oi := ⟨some 26, _, _, _, _, none⟩) (v := ?_) rfl (by kernel_rfl) (by kernel_rfl) (by kernel_rfl) (fun _ _ _ h => h) (Or.inl ⟨by rfl, ?_⟩) (by assumption) ?_
  rotate_left
  · intro wz hSw; (try dsimp only at hSw); go_simp; (try with_reducible rfl)
  try simp only [Act.put, List.setIfInBounds_toArray, List.set_cons_zero, List.set_cons_succ]
  refine wpAnyH_take (i := 1) (oi := ⟨some 27, _, _, _, _, none⟩) (v := ?_) rfl (by kernel_rfl) (by kernel_rfl) (by kernel_rfl) (fun _ _ _ h => h) (Or.inl ⟨by rfl, ?_⟩) (by assumption) ?_
  rotate_left
  · intro wz hSw; (try dsimp only at hSw); go_simp; (try with_reducible rfl)
  try simp only [Act.put, List.setIfInBounds_toArray, List.set_cons_zero, List.set_cons_succ]
  refine wpAnyH_take (i := 2) (oi := ⟨some 28, _, _, _, _, none⟩) (v := ?_) rfl (by kernel_rfl) (by kernel_rfl) (by kernel_rfl) (fun _ _ _ h => h) (Or.inl ⟨by rfl, ?_⟩) (by assumption) ?_
  rotate_left
  · intro wz hSw; (try dsimp only at hSw); go_simp; (try with_reducible rfl)
  try simp only [Act.put, List.setIfInBounds_toArray, List.set_cons_zero, List.set_cons_succ]
  refine wpAnyH_take (i := 3) (oi := ⟨some 29, _, _, _, _, none⟩) (v := ?_) rfl (by kernel_rfl) (by kernel_rfl) (by kernel_rfl) (fun _ _ _ h => h) (Or.inl ⟨by rfl, ?_⟩) (by assumption) ?_
  rotate_left
  · intro wz hSw; (try dsimp only at hSw); go_simp; (try with_reducible rfl)
  try simp only [Act.put, List.setIfInBounds_toArray, List.set_cons_zero, List.set_cons_succ]
  refine wpAnyH_take (i := 4) (oi := ⟨some 30, _, _, _, _, none⟩) (v := ?_) rfl (by kernel_rfl) (by kernel_rfl) (by kernel_rfl) (fun _ _ _ h => h) (Or.inl ⟨by rfl, ?_⟩) (by assumption) ?_
  rotate_left
  · intro wz hSw; (try dsimp only at hSw); go_simp; (try with_reducible rfl)
  try simp only [Act.put, List.setIfInBounds_toArray, List.set_cons_zero, List.set_cons_succ]
  refine wpAnyH_ready (rs := [5]) (by kernel_rfl) (by simp) ?_
  refine AllReadyH.cons (o := ⟨some 31, _, _, _, _, none⟩) rfl (fun K hK => ?_) AllReadyH.nil
  go_simp
  refine KEY.out.mono ?_
  rintro e4 w4 ⟨rfl, a3, c3, he', hS', hg3, hcl3, ho'⟩
  replace g0 := he'.hb
  replace g1 := he'.sb
  unfold shareFn at g1
  refine hK.out _ _ ?_ (fun hHeld => ?_)
  · exact ⟨g0, g1⟩
  clear hK K
  try simp only [Act.put, List.setIfInBounds_toArray, List.set_cons_zero, List.set_cons_succ]
  refine wpAnyH_done (by kernel_rfl) ?_ _
  obtain ⟨l3, st4, hE3⟩ : ∃ l s, eyeR 4 st3 = (l, s) := ⟨_, _, rfl⟩
  obtain ⟨n3, hN3⟩ : ∃ m, (eyeM st3).1 = m := ⟨_, rfl⟩
  rw [hE3] at he' hg3
  rw [hN3] at hS' hg3 hcl3
  simp only at he' hg3
  have hS2 : w4.heap[S]? = some (.cells [.int .i64 x0, .slice a1 n1 c1, .int .i64 x2, .int .i64 x3, .slice a3 n3 c3, .slice none 0 0, .slice none 0 0, .int .i64 0, .int .i64 0, .int .i64 0, .int .i64 0, .int .i64 0, .int .i64 0, .int .i64 0, .int .i64 0, .int .i64 0, .int .i64 0, .int .i64 0, .slice none 0 0, .int .i64 0, .int .i64 0, .int .i64 0, .slice none 0 0].toArray TS) := by simpa using hS'
  replace hg1 := (hg1.below kd).off2 ho' hX hSX
  replace ho := hod.trans ho'
  have HE3 := Lib.hid hE3
  replace he := he'
  replace hS := hS2
  have HN3 := Lib.hid hN3
  clear hE3 he' ho' hed hod kd KEY g0 g1 hHeld hS2 hS' hsd hN3
  go_wp2_with fail
  have kd : Below w4.heap.size w4 w4.drew := (Below.refl _ _).drew
  have hed := he.below kd
  have hod := ho.trans (Below.off2 kd)
  have hsd := box_keep kd hS (block_lt hS)
  have KEY := Lib.hid (eye_list_Ratio H W.heap.size (W.heap.size + 1) S 5 TS X _ _ w4.drew hed hsd rfl hSX hn)
  have g0 := hed.hb
  have g1 := hed.sb
  unfold shareFn at g1
  refine wp_region_held_drew (S := (fun w' => w'.cell? ⟨W.heap.size, 0, none⟩ = some (.iface 69 (.pointer (some ⟨H, 0, none⟩))) ∧ w'.cell? ⟨(W.heap.size + 1), 0, none⟩ = some (.func (.func 70) #[] #[.pointer (some ⟨W.heap.size, 0, none⟩)]))) (by kernel_rfl) ?_ (fun hHeld => ?_)
  · exact ⟨g0, g1⟩
  refine wpAnyH_take (i := 0) (oi := ⟨some 32, _, _, _, _, none⟩) (v := ?_) rfl (by kernel_rfl) (by kernel_rfl) (by kernel_rfl) (fun _ _ _ h => h) (Or.inl ⟨by rfl, ?_⟩) (by assumption) ?_
  rotate_left
  · intro wz hSw; (try dsimp only at hSw); go_simp; (try with_reducible rfl)
  try simp only [Act.put, List.setIfInBounds_toArray, List.set_cons_zero, List.set_cons_succ]
  refine wpAnyH_take (i := 1) (oi := ⟨some 33, _, _, _, _, none⟩) (v := ?_) rfl (by kernel_rfl) (by kernel_rfl) (by kernel_rfl) (fun _ _ _ h => h) (Or.inl ⟨by rfl, ?_⟩) (by assumption) ?_
  rotate_left
  · intro wz hSw; (try dsimp only at hSw); go_simp; (try with_reducible rfl)
  try simp only [Act.put, List.setIfInBounds_toArray, List.set_cons_zero, List.set_cons_succ]
  refine wpAnyH_take (i := 2) (oi := ⟨some 34, _, _, _, _, none⟩) (v := ?_) rfl (by kernel_rfl) (by kernel_rfl) (by kernel_rfl) (fun _ _ _ h => h) (Or.inl ⟨by rfl, ?_⟩) (by assumption) ?_
  rotate_left
  · intro wz hSw; (try dsimp only at hSw); go_simp; (try with_reducible rfl)
  try simp only [Act.put, List.setIfInBounds_toArray, List.set_cons_zero, List.set_cons_succ]
  refine wpAnyH_take (i := 3) (oi := ⟨some 35, _, _, _, _, none⟩) (v := ?_) rfl (by kernel_rfl) (by kernel_rfl) (by kernel_rfl) (fun _ _ _ h => h) (Or.inl ⟨by rfl, ?_⟩) (by assumption) ?_
  rotate_left
  · intro wz hSw; (try dsimp only at hSw); go_simp; (try with_reducible rfl)
  try simp only [Act.put, List.setIfInBounds_toArray, List.set_cons_zero, List.set_cons_succ]
  refine wpAnyH_take (i := 4) (oi := ⟨some 36, _, _, _, _, none⟩) (v := ?_) rfl (by kernel_rfl) (by kernel_rfl) (by kernel_rfl) (fun _ _ _ h => h) (Or.inl ⟨by rfl, ?_⟩) (by assumption) ?_
  rotate_left
  · intro wz hSw; (try dsimp only at hSw); go_simp; (try with_reducible rfl)
  try simp only [Act.put, List.setIfInBounds_toArray, List.set_cons_zero, List.set_cons_succ]
  refine wpAnyH_ready (rs := [5]) (by kernel_rfl) (by simp) ?_
  refine AllReadyH.cons (o := ⟨some 37, _, _, _, _, none⟩) rfl (fun K hK => ?_) AllReadyH.nil
  go_simp
  refine KEY.out.mono ?_
  rintro e5 w5 ⟨rfl, a4, c4, he', hS', hg4, hcl4, ho'⟩
  replace g0 := he'.hb
  replace g1 := he'.sb
  unfold shareFn at g1
  refine hK.out _ _ ?_ (fun hHeld => ?_)
  · exact ⟨g0, g1⟩
  clear hK K
  try simp only [Act.put, List.setIfInBounds_toArray, List.set_cons_zero, List.set_cons_succ]
  refine wpAnyH_done (by kernel_rfl) ?_ _
  obtain ⟨l4, st5, hE4⟩ : ∃ l s, eyeR 2 st4 = (l, s) := ⟨_, _, rfl⟩
  obtain ⟨n4, hN4⟩ : ∃ m, (eyeM st4).1 = m := ⟨_, rfl⟩
  rw [hE4] at he' hg4
  rw [hN4] at hS' hg4 hcl4
  simp only at he' hg4
  have hS2 : w5.heap[S]? = some (.cells [.int .i64 x0, .slice a1 n1 c1, .int .i64 x2, .int .i64 x3, .slice a3 n3 c3, .slice a4 n4 c4, .slice none 0 0, .int .i64 0, .int .i64 0, .int .i64 0, .int .i64 0, .int .i64 0, .int .i64 0, .int .i64 0, .int .i64 0, .int .i64 0, .int .i64 0, .int .i64 0, .slice none 0 0, .int .i64 0, .int .i64 0, .int .i64 0, .slice none 0 0].toArray TS) := by simpa using hS'
  replace hg1 := (hg1.below kd).off2 ho' hX hSX
  replace hg3 := (hg3.below kd).off2 ho' hX hSX
  replace ho := hod.trans ho'
  have HE4 := Lib.hid hE4
  replace he := he'
  replace hS := hS2
  have HN4 := Lib.hid hN4
  clear hE4 he' ho' hed hod kd KEY g0 g1 hHeld hS2 hS' hsd hN4
  go_wp2_with fail
  have kd : Below w5.heap.size w5 w5.drew := (Below.refl _ _).drew
  have hed := he.below kd
  have hod := ho.trans (Below.off2 kd)
  have hsd := box_keep kd hS (block_lt hS)
  have KEY := Lib.hid (eye_list_Ratio H W.heap.size (W.heap.size + 1) S 6 TS X _ _ w5.drew hed hsd rfl hSX hn)
  have g0 := hed.hb
  have g1 := hed.sb
  unfold shareFn at g1
  refine wp_region_held_drew (S := (fun w' => w'.cell? ⟨W.heap.size, 0, none⟩ = some (.iface 69 (.pointer (some ⟨H, 0, none⟩))) ∧ w'.cell? ⟨(W.heap.size + 1), 0, none⟩ = some (.func (.func 70) #[] #[.pointer (some ⟨W.heap.size, 0, none⟩)]))) (by kernel_rfl) ?_ (fun hHeld => ?_)
  · exact ⟨g0, g1⟩
  refine wpAnyH_take (i := 0) (oi := ⟨some 38, _, _, _, _, none⟩) (v := ?_) rfl (by kernel_rfl) (by kernel_rfl) (by kernel_rfl) (fun _ _ _ h => h) (Or.inl ⟨by rfl, ?_⟩) (by assumption) ?_
  rotate_left
  · intro wz hSw; (try dsimp only at hSw); go_simp; (try with_reducible rfl)
  try simp only [Act.put, List.setIfInBounds_toArray, List.set_cons_zero, List.set_cons_succ]
  refine wpAnyH_take (i := 1) (oi := ⟨some 39, _, _, _, _, none⟩) (v := ?_) rfl (by kernel_rfl) (by kernel_rfl) (by kernel_rfl) (fun _ _ _ h => h) (Or.inl ⟨by rfl, ?_⟩) (by assumption) ?_
  rotate_left
  · intro wz hSw; (try dsimp only at hSw); go_simp; (try with_reducible rfl)
  try simp only [Act.put, List.setIfInBounds_toArray, List.set_cons_zero, List.set_cons_succ]
  refine wpAnyH_take (i := 2) (oi := ⟨some 40, _, _, _, _, none⟩) (v := ?_) rfl (by kernel_rfl) (by kernel_rfl) (by kernel_rfl) (fun _ _ _ h => h) (Or.inl ⟨by rfl, ?_⟩) (by assumption) ?_
  rotate_left
  · intro wz hSw; (try dsimp only at hSw); go_simp; (try with_reducible rfl)
  try simp only [Act.put, List.setIfInBounds_toArray, List.set_cons_zero, List.set_cons_succ]
  refine wpAnyH_take (i := 3) (oi := ⟨some 41, _, _, _, _, none⟩) (v := ?_) rfl (by kernel_rfl) (by kernel_rfl) (by kernel_rfl) (fun _ _ _ h => h) (Or.inl ⟨by rfl, ?_⟩) (by assumption) ?_
  rotate_left
  · intro wz hSw; (try dsimp only at hSw); go_simp; (try with_reducible rfl)
  try simp only [Act.put, List.setIfInBounds_toArray, List.set_cons_zero, List.set_cons_succ]
  refine wpAnyH_take (i := 4) (oi := ⟨some 42, _, _, _, _, none⟩) (v := ?_) rfl (by kernel_rfl) (by kernel_rfl) (by kernel_rfl) (fun _ _ _ h => h) (Or.inl ⟨by rfl, ?_⟩) (by assumption) ?_
  rotate_left
  · intro wz hSw; (try dsimp only at hSw); go_simp; (try with_reducible rfl)
  try simp only [Act.put, List.setIfInBounds_toArray, List.set_cons_zero, List.set_cons_succ]
  refine wpAnyH_ready (rs := [5]) (by kernel_rfl) (by simp) ?_
  refine AllReadyH.cons (o := ⟨some 43, _, _, _, _, none⟩) rfl (fun K hK => ?_) AllReadyH.nil
  go_simp
  refine KEY.out.mono ?_
  rintro e6 w6 ⟨rfl, a5, c5, he', hS', hg5, hcl5, ho'⟩
  replace g0 := he'.hb
  replace g1 := he'.sb
  unfold shareFn at g1
  refine hK.out _ _ ?_ (fun hHeld => ?_)
  · exact ⟨g0, g1⟩
  clear hK K
  try simp only [Act.put, List.setIfInBounds_toArray, List.set_cons_zero, List.set_cons_succ]
  refine wpAnyH_done (by kernel_rfl) ?_ _
  obtain ⟨l5, st6, hE5⟩ : ∃ l s, eyeR 2 st5 = (l, s) := ⟨_, _, rfl⟩
  obtain ⟨n5, hN5⟩ : ∃ m, (eyeM st5).1 = m := ⟨_, rfl⟩
  rw [hE5] at he' hg5
  rw [hN5] at hS' hg5 hcl5
  simp only at he' hg5
  have hS2 : w6.heap[S]? = some (.cells [.int .i64 x0, .slice a1 n1 c1, .int .i64 x2, .int .i64 x3, .slice a3 n3 c3, .slice a4 n4 c4, .slice a5 n5 c5, .int .i64 0, .int .i64 0, .int .i64 0, .int .i64 0, .int .i64 0, .int .i64 0, .int .i64 0, .int .i64 0, .int .i64 0, .int .i64 0, .int .i64 0, .slice none 0 0, .int .i64 0, .int .i64 0, .int .i64 0, .slice none 0 0].toArray TS) := by simpa using hS'
  replace hg1 := (hg1.below kd).off2 ho' hX hSX
  replace hg3 := (hg3.below kd).off2 ho' hX hSX
  replace hg4 := (hg4.below kd).off2 ho' hX hSX
  replace ho := hod.trans ho'
  have HE5 := Lib.hid hE5
  replace he := he'
  replace hS := hS2
  have HN5 := Lib.hid hN5
  clear hE5 he' ho' hed hod kd KEY g0 g1 hHeld hS2 hS' hsd hN5
  go_wp2_with fail
  have kd : Below w6.heap.size w6 w6.drew := (Below.refl _ _).drew
  have hed := he.below kd
  have hod := ho.trans (Below.off2 kd)
  have hbk : Blk3 w6 S TS [.int .i64 x0, .slice a1 n1 c1, .int .i64 x2, .int .i64 x3, .slice a3 n3 c3, .slice a4 n4 c4, .slice a5 n5 c5] [0, 0, 0, 0, 0, 0, 0, 0, 0, 0, 0] [.slice none 0 0, .int .i64 0, .int .i64 0, .int .i64 0, .slice none 0 0] := Blk3.of_at hS _ _ _ rfl
  have KEY := Lib.hid (eye_put_new [.pointer (some ⟨S, 7, none⟩), .pointer (some ⟨S, 8, none⟩), .pointer (some ⟨S, 9, none⟩), .pointer (some ⟨S, 10, none⟩), .pointer (some ⟨S, 11, none⟩), .pointer (some ⟨S, 12, none⟩), .pointer (some ⟨S, 13, none⟩), .pointer (some ⟨S, 14, none⟩), .pointer (some ⟨S, 15, none⟩), .pointer (some ⟨S, 16, none⟩), .pointer (some ⟨S, 17, none⟩)] he hbk rfl hSX hn rfl (by simp))
  have g0 := hed.hb
  have g1 := hed.sb
  unfold shareFn at g1
  refine wp_region_held_drew (S := (fun w' => w'.cell? ⟨W.heap.size, 0, none⟩ = some (.iface 69 (.pointer (some ⟨H, 0, none⟩))) ∧ w'.cell? ⟨(W.heap.size + 1), 0, none⟩ = some (.func (.func 70) #[] #[.pointer (some ⟨W.heap.size, 0, none⟩)]))) (by kernel_rfl) ?_ (fun hHeld => ?_)
  · exact ⟨g0, g1⟩
  refine wpAnyH_take (i := 0) (oi := ⟨some 44, _, _, _, _, none⟩) (v := ?_) rfl (by kernel_rfl) (by kernel_rfl) (by kernel_rfl) (fun _ _ _ h => h) (Or.inl ⟨by rfl, ?_⟩) (by assumption) ?_
  rotate_left
  · intro wz hSw; (try dsimp only at hSw); go_simp; (try with_reducible rfl)
  try simp only [Act.put, List.setIfInBounds_toArray, List.set_cons_zero, List.set_cons_succ]
  refine wpAnyH_take (i := 1) (oi := ⟨some 45, _, _, _, _, none⟩) (v := ?_) rfl (by kernel_rfl) (by kernel_rfl) (by kernel_rfl) (fun _ _ _ h => h) (Or.inl ⟨by rfl, ?_⟩) (by assumption) ?_
  rotate_left
  · intro wz hSw; (try dsimp only at hSw); go_simp; (try with_reducible rfl)
  try simp only [Act.put, List.setIfInBounds_toArray, List.set_cons_zero, List.set_cons_succ]
  refine wpAnyH_take (i := 2) (oi := ⟨some 46, _, _, _, _, none⟩) (v := ?_) rfl (by kernel_rfl) (by kernel_rfl) (by kernel_rfl) (fun _ _ _ h => h) (Or.inl ⟨by rfl, ?_⟩) (by assumption) ?_
  rotate_left
  · intro wz hSw; (try dsimp only at hSw); go_simp; (try with_reducible rfl)
  try simp only [Act.put, List.setIfInBounds_toArray, List.set_cons_zero, List.set_cons_succ]
  refine wpAnyH_take (i := 3) (oi := ⟨some 47, _, _, _, _, none⟩) (v := ?_) rfl (by kernel_rfl) (by kernel_rfl) (by kernel_rfl) (fun _ _ _ h => h) (Or.inl ⟨by rfl, ?_⟩) (by assumption) ?_
  rotate_left
  · intro wz hSw; (try dsimp only at hSw); go_simp; (try with_reducible rfl)
  try simp only [Act.put, List.setIfInBounds_toArray, List.set_cons_zero, List.set_cons_succ]
  refine wpAnyH_take (i := 4) (oi := ⟨some 48, _, _, _, _, none⟩) (v := ?_) rfl (by kernel_rfl) (by kernel_rfl) (by kernel_rfl) (fun _ _ _ h => h) (Or.inl ⟨by rfl, ?_⟩) (by assumption) ?_
  rotate_left
  · intro wz hSw; (try dsimp only at hSw); go_simp; (try with_reducible rfl)
  try simp only [Act.put, List.setIfInBounds_toArray, List.set_cons_zero, List.set_cons_succ]
  refine wpAnyH_take (i := 5) (oi := ⟨some 49, _, _, _, _, none⟩) (v := ?_) rfl (by kernel_rfl) (by kernel_rfl) (by kernel_rfl) (fun _ _ _ h => h) (Or.inl ⟨by rfl, ?_⟩) (by assumption) ?_
  rotate_left
  · intro wz hSw; (try dsimp only at hSw); go_simp; (try with_reducible rfl)
  try simp only [Act.put, List.setIfInBounds_toArray, List.set_cons_zero, List.set_cons_succ]
  refine wpAnyH_take (i := 6) (oi := ⟨some 50, _, _, _, _, none⟩) (v := ?_) rfl (by kernel_rfl) (by kernel_rfl) (by kernel_rfl) (fun _ _ _ h => h) (Or.inl ⟨by rfl, ?_⟩) (by assumption) ?_
  rotate_left
  · intro wz hSw; (try dsimp only at hSw); go_simp; (try with_reducible rfl)
  try simp only [Act.put, List.setIfInBounds_toArray, List.set_cons_zero, List.set_cons_succ]
  refine wpAnyH_take (i := 7) (oi := ⟨some 51, _, _, _, _, none⟩) (v := ?_) rfl (by kernel_rfl) (by kernel_rfl) (by kernel_rfl) (fun _ _ _ h => h) (Or.inl ⟨by rfl, ?_⟩) (by assumption) ?_
  rotate_left
  · intro wz hSw; (try dsimp only at hSw); go_simp; (try with_reducible rfl)
  try simp only [Act.put, List.setIfInBounds_toArray, List.set_cons_zero, List.set_cons_succ]
  refine wpAnyH_take (i := 8) (oi := ⟨some 52, _, _, _, _, none⟩) (v := ?_) rfl (by kernel_rfl) (by kernel_rfl) (by kernel_rfl) (fun _ _ _ h => h) (Or.inl ⟨by rfl, ?_⟩) (by assumption) ?_
  rotate_left
  · intro wz hSw; (try dsimp only at hSw); go_simp; (try with_reducible rfl)
  try simp only [Act.put, List.setIfInBounds_toArray, List.set_cons_zero, List.set_cons_succ]
  refine wpAnyH_take (i := 9) (oi := ⟨some 53, _, _, _, _, none⟩) (v := ?_) rfl (by kernel_rfl) (by kernel_rfl) (by kernel_rfl) (fun _ _ _ h => h) (Or.inl ⟨by rfl, ?_⟩) (by assumption) ?_
  rotate_left
  · intro wz hSw; (try dsimp only at hSw); go_simp; (try with_reducible rfl)
  try simp only [Act.put, List.setIfInBounds_toArray, List.set_cons_zero, List.set_cons_succ]
  refine wpAnyH_take (i := 10) (oi := ⟨some 54, _, _, _, _, none⟩) (v := ?_) rfl (by kernel_rfl) (by kernel_rfl) (by kernel_rfl) (fun _ _ _ h => h) (Or.inl ⟨by rfl, ?_⟩) (by assumption) ?_
  rotate_left
  · intro wz hSw; (try dsimp only at hSw); go_simp; (try with_reducible rfl)
  try simp only [Act.put, List.setIfInBounds_toArray, List.set_cons_zero, List.set_cons_succ]
  refine wpAnyH_take (i := 11) (oi := ⟨some 55, _, _, _, _, none⟩) (v := ?_) rfl (by kernel_rfl) (by kernel_rfl) (by kernel_rfl) (fun _ _ _ h => h) (Or.inl ⟨by rfl, ?_⟩) (by assumption) ?_
  rotate_left
  · intro wz hSw; (try dsimp only at hSw); go_simp; (try with_reducible rfl)
  try simp only [Act.put, List.setIfInBounds_toArray, List.set_cons_zero, List.set_cons_succ]
  refine wpAnyH_take (i := 12) (oi := ⟨some 56, _, _, _, _, none⟩) (v := ?_) rfl (by kernel_rfl) (by kernel_rfl) (by kernel_rfl) (fun _ _ _ h => h) (Or.inl ⟨by rfl, ?_⟩) (by assumption) ?_
  rotate_left
  · intro wz hSw; (try dsimp only at hSw); go_simp; (try with_reducible rfl)
  try simp only [Act.put, List.setIfInBounds_toArray, List.set_cons_zero, List.set_cons_succ]
  refine wpAnyH_take (i := 13) (oi := ⟨some 57, _, _, _, _, none⟩) (v := ?_) rfl (by kernel_rfl) (by kernel_rfl) (by kernel_rfl) (fun _ _ _ h => h) (Or.inl ⟨by rfl, ?_⟩) (by assumption) ?_
  rotate_left
  · intro wz hSw; (try dsimp only at hSw); go_simp; (try with_reducible rfl)
  try simp only [Act.put, List.setIfInBounds_toArray, List.set_cons_zero, List.set_cons_succ]
  refine wpAnyH_take (i := 14) (oi := ⟨some 58, _, _, _, _, none⟩) (v := ?_) rfl (by kernel_rfl) (by kernel_rfl) (by kernel_rfl) (fun _ _ _ h => h) (Or.inl ⟨by rfl, ?_⟩) (by assumption) ?_
  rotate_left
  · intro wz hSw; (try dsimp only at hSw); go_simp; (try with_reducible rfl)
  try simp only [Act.put, List.setIfInBounds_toArray, List.set_cons_zero, List.set_cons_succ]
  refine wpAnyH_take (i := 15) (oi := ⟨some 59, _, _, _, _, none⟩) (v := ?_) rfl (by kernel_rfl) (by kernel_rfl) (by kernel_rfl) (fun _ _ _ h => h) (Or.inl ⟨by rfl, ?_⟩) (by assumption) ?_
  rotate_left
  · intro wz hSw; (try dsimp only at hSw); go_simp; (try with_reducible rfl)
  try simp only [Act.put, List.setIfInBounds_toArray, List.set_cons_zero, List.set_cons_succ]
  refine wpAnyH_take (i := 16) (oi := ⟨some 60, _, _, _, _, none⟩) (v := ?_) rfl (by kernel_rfl) (by kernel_rfl) (by kernel_rfl) (fun _ _ _ h => h) (Or.inl ⟨by rfl, ?_⟩) (by assumption) ?_
  rotate_left
  · intro wz hSw; (try dsimp only at hSw); go_simp; (try with_reducible rfl)
  try simp only [Act.put, List.setIfInBounds_toArray, List.set_cons_zero, List.set_cons_succ]
  refine wpAnyH_take (i := 17) (oi := ⟨some 61, _, _, _, _, none⟩) (v := ?_) rfl (by kernel_rfl) (by kernel_rfl) (by kernel_rfl) (fun _ _ _ h => h) (Or.inl ⟨by rfl, ?_⟩) (by assumption) ?_
  rotate_left
  · intro wz hSw; (try dsimp only at hSw); go_simp; (try with_reducible rfl)
  try simp only [Act.put, List.setIfInBounds_toArray, List.set_cons_zero, List.set_cons_succ]
  refine wpAnyH_take (i := 18) (oi := ⟨some 62, _, _, _, _, none⟩) (v := ?_) rfl (by kernel_rfl) (by kernel_rfl) (by kernel_rfl) (fun _ _ _ h => h) (Or.inl ⟨by rfl, ?_⟩) (by assumption) ?_
  rotate_left
  · intro wz hSw; (try dsimp only at hSw); go_simp; (try with_reducible rfl)
  try simp only [Act.put, List.setIfInBounds_toArray, List.set_cons_zero, List.set_cons_succ]
  refine wpAnyH_take (i := 19) (oi := ⟨some 63, _, _, _, _, none⟩) (v := ?_) rfl (by kernel_rfl) (by kernel_rfl) (by kernel_rfl) (fun _ _ _ h => h) (Or.inl ⟨by rfl, ?_⟩) (by assumption) ?_
  rotate_left
  · intro wz hSw; (try dsimp only at hSw); go_simp; (try with_reducible rfl)
  try simp only [Act.put, List.setIfInBounds_toArray, List.set_cons_zero, List.set_cons_succ]
  refine wpAnyH_take (i := 20) (oi := ⟨some 64, _, _, _, _, none⟩) (v := ?_) rfl (by kernel_rfl) (by kernel_rfl) (by kernel_rfl) (fun _ _ _ h => h) (Or.inl ⟨by rfl, ?_⟩) (by assumption) ?_
  rotate_left
  · intro wz hSw; (try dsimp only at hSw); go_simp; (try with_reducible rfl)
  try simp only [Act.put, List.setIfInBounds_toArray, List.set_cons_zero, List.set_cons_succ]
  refine wpAnyH_take (i := 21) (oi := ⟨some 65, _, _, _, _, none⟩) (v := ?_) rfl (by kernel_rfl) (by kernel_rfl) (by kernel_rfl) (fun _ _ _ h => h) (Or.inl ⟨by rfl, ?_⟩) (by assumption) ?_
  rotate_left
  · intro wz hSw; (try dsimp only at hSw); go_simp; (try with_reducible rfl)
  try simp only [Act.put, List.setIfInBounds_toArray, List.set_cons_zero, List.set_cons_succ]
  refine wpAnyH_take (i := 22) (oi := ⟨some 66, _, _, _, _, none⟩) (v := ?_) rfl (by kernel_rfl) (by kernel_rfl) (by kernel_rfl) (fun _ _ _ h => h) (Or.inl ⟨by rfl, ?_⟩) (by assumption) ?_
  rotate_left
  · intro wz hSw; (try dsimp only at hSw); go_simp; (try with_reducible rfl)
  try simp only [Act.put, List.setIfInBounds_toArray, List.set_cons_zero, List.set_cons_succ]
  refine wpAnyH_take (i := 23) (oi := ⟨some 67, _, _, _, _, none⟩) (v := ?_) rfl (by kernel_rfl) (by kernel_rfl) (by kernel_rfl) (fun _ _ _ h => h) (Or.inl ⟨by rfl, ?_⟩) (by assumption) ?_
  rotate_left
  · intro wz hSw; (try dsimp only at hSw); go_simp; (try with_reducible rfl)
  try simp only [Act.put, List.setIfInBounds_toArray, List.set_cons_zero, List.set_cons_succ]
  refine wpAnyH_take (i := 24) (oi := ⟨some 68, _, _, _, _, none⟩) (v := ?_) rfl (by kernel_rfl) (by kernel_rfl) (by kernel_rfl) (fun _ _ _ h => h) (Or.inl ⟨by rfl, ?_⟩) (by assumption) ?_
  rotate_left
  · intro wz hSw; (try dsimp only at hSw); go_simp; (try with_reducible rfl)
  try simp only [Act.put, List.setIfInBounds_toArray, List.set_cons_zero, List.set_cons_succ]
  refine wpAnyH_take (i := 25) (oi := ⟨some 69, _, _, _, _, none⟩) (v := ?_) rfl (by kernel_rfl) (by kernel_rfl) (by kernel_rfl) (fun _ _ _ h => h) (Or.inl ⟨by rfl, ?_⟩) (by assumption) ?_
  rotate_left
  · intro wz hSw; (try dsimp only at hSw); go_simp; (try with_reducible rfl)
  try simp only [Act.put, List.setIfInBounds_toArray, List.set_cons_zero, List.set_cons_succ]
  refine wpAnyH_take (i := 26) (oi := ⟨some 70, _, _, _, _, none⟩) (v := ?_) rfl (by kernel_rfl) (by kernel_rfl) (by kernel_rfl) (fun _ _ _ h => h) (Or.inl ⟨by rfl, ?_⟩) (by assumption) ?_
  rotate_left
  · intro wz hSw; (try dsimp only at hSw); go_simp; (try with_reducible rfl)
  try simp only [Act.put, List.setIfInBounds_toArray, List.set_cons_zero, List.set_cons_succ]
  refine wpAnyH_take (i := 27) (oi := ⟨some 71, _, _, _, _, none⟩) (v := ?_) rfl (by kernel_rfl) (by kernel_rfl) (by kernel_rfl) (fun _ _ _ h => h) (Or.inl ⟨by rfl, ?_⟩) (by assumption) ?_
  rotate_left
  · intro wz hSw; (try dsimp only at hSw); go_simp; (try with_reducible rfl)
  try simp only [Act.put, List.setIfInBounds_toArray, List.set_cons_zero, List.set_cons_succ]
  refine wpAnyH_take (i := 28) (oi := ⟨some 72, _, _, _, _, none⟩) (v := ?_) rfl (by kernel_rfl) (by kernel_rfl) (by kernel_rfl) (fun _ _ _ h => h) (Or.inl ⟨by rfl, ?_⟩) (by assumption) ?_
  rotate_left
  · intro wz hSw; (try dsimp only at hSw); go_simp; (try with_reducible rfl)
  try simp only [Act.put, List.setIfInBounds_toArray, List.set_cons_zero, List.set_cons_succ]
  refine wpAnyH_take (i := 29) (oi := ⟨some 73, _, _, _, _, none⟩) (v := ?_) rfl (by kernel_rfl) (by kernel_rfl) (by kernel_rfl) (fun _ _ _ h => h) (Or.inl ⟨by rfl, ?_⟩) (by assumption) ?_
  rotate_left
  · intro wz hSw; (try dsimp only at hSw); go_simp; (try with_reducible rfl)
  try simp only [Act.put, List.setIfInBounds_toArray, List.set_cons_zero, List.set_cons_succ]
  refine wpAnyH_take (i := 30) (oi := ⟨some 74, _, _, _, _, none⟩) (v := ?_) rfl (by kernel_rfl) (by kernel_rfl) (by kernel_rfl) (fun _ _ _ h => h) (Or.inl ⟨by rfl, ?_⟩) (by assumption) ?_
  rotate_left
  · intro wz hSw; (try dsimp only at hSw); go_simp; (try with_reducible rfl)
  try simp only [Act.put, List.setIfInBounds_toArray, List.set_cons_zero, List.set_cons_succ]
  refine wpAnyH_take (i := 31) (oi := ⟨some 75, _, _, _, _, none⟩) (v := ?_) rfl (by kernel_rfl) (by kernel_rfl) (by kernel_rfl) (fun _ _ _ h => h) (Or.inl ⟨by rfl, ?_⟩) (by assumption) ?_
  rotate_left
  · intro wz hSw; (try dsimp only at hSw); go_simp; (try with_reducible rfl)
  try simp only [Act.put, List.setIfInBounds_toArray, List.set_cons_zero, List.set_cons_succ]
  refine wpAnyH_take (i := 32) (oi := ⟨some 76, _, _, _, _, none⟩) (v := ?_) rfl (by kernel_rfl) (by kernel_rfl) (by kernel_rfl) (fun _ _ _ h => h) (Or.inl ⟨by rfl, ?_⟩) (by assumption) ?_
  rotate_left
  · intro wz hSw; (try dsimp only at hSw); go_simp; (try with_reducible rfl)
  try simp only [Act.put, List.setIfInBounds_toArray, List.set_cons_zero, List.set_cons_succ]
  refine wpAnyH_take (i := 33) (oi := ⟨some 77, _, _, _, _, none⟩) (v := ?_) rfl (by kernel_rfl) (by kernel_rfl) (by kernel_rfl) (fun _ _ _ h => h) (Or.inl ⟨by rfl, ?_⟩) (by assumption) ?_
  rotate_left
  · intro wz hSw; (try dsimp only at hSw); go_simp; (try with_reducible rfl)
  try simp only [Act.put, List.setIfInBounds_toArray, List.set_cons_zero, List.set_cons_succ]
  refine wpAnyH_take (i := 35) (oi := ⟨some 79, _, _, _, _, none⟩) (v := ?_) rfl (by kernel_rfl) (by kernel_rfl) (by kernel_rfl) (fun _ _ _ h => h) (Or.inl ⟨by rfl, ?_⟩) (by assumption) ?_
  rotate_left
  · intro wz hSw; (try dsimp only at hSw); go_simp; (try with_reducible rfl)
  try simp only [Act.put, List.setIfInBounds_toArray, List.set_cons_zero, List.set_cons_succ]
  refine wpAnyH_take (i := 36) (oi := ⟨some 80, _, _, _, _, none⟩) (v := ?_) rfl (by kernel_rfl) (by kernel_rfl) (by kernel_rfl) (fun _ _ _ h => h) (Or.inl ⟨by rfl, ?_⟩) (by assumption) ?_
  rotate_left
  · intro wz hSw; (try dsimp only at hSw); go_simp; (try with_reducible rfl)
  try simp only [Act.put, List.setIfInBounds_toArray, List.set_cons_zero, List.set_cons_succ]
  refine wpAnyH_take (i := 37) (oi := ⟨some 81, _, _, _, _, none⟩) (v := ?_) rfl (by kernel_rfl) (by kernel_rfl) (by kernel_rfl) (fun _ _ _ h => h) (Or.inl ⟨by rfl, ?_⟩) (by assumption) ?_
  rotate_left
  · intro wz hSw; (try dsimp only at hSw); go_simp; (try with_reducible rfl)
  try simp only [Act.put, List.setIfInBounds_toArray, List.set_cons_zero, List.set_cons_succ]
  refine wpAnyH_ready (rs := [34]) (by kernel_rfl) (by simp) ?_
  refine AllReadyH.cons (o := ⟨some 78, _, _, _, _, none⟩) rfl (fun K hK => ?_) AllReadyH.nil
  go_simp
  replace g0 := keepA (.cells #[.pointer (some ⟨S, 7, none⟩), .pointer (some ⟨S, 8, none⟩), .pointer (some ⟨S, 9, none⟩), .pointer (some ⟨S, 10, none⟩), .pointer (some ⟨S, 11, none⟩), .pointer (some ⟨S, 12, none⟩), .pointer (some ⟨S, 13, none⟩), .pointer (some ⟨S, 14, none⟩), .pointer (some ⟨S, 15, none⟩), .pointer (some ⟨S, 16, none⟩), .pointer (some ⟨S, 17, none⟩)] 97) g0
  replace g1 := keepA (.cells #[.pointer (some ⟨S, 7, none⟩), .pointer (some ⟨S, 8, none⟩), .pointer (some ⟨S, 9, none⟩), .pointer (some ⟨S, 10, none⟩), .pointer (some ⟨S, 11, none⟩), .pointer (some ⟨S, 12, none⟩), .pointer (some ⟨S, 13, none⟩), .pointer (some ⟨S, 14, none⟩), .pointer (some ⟨S, 15, none⟩), .pointer (some ⟨S, 16, none⟩), .pointer (some ⟨S, 17, none⟩)] 97) g1
  refine hK.out _ _ ?_ (fun hHeld => ?_)
  · exact ⟨g0, g1⟩
  clear hK K
  try simp only [Act.put, List.setIfInBounds_toArray, List.set_cons_zero, List.set_cons_succ]
  refine wpAnyH_ready (rs := [38]) (by kernel_rfl) (by simp) ?_
  refine AllReadyH.cons (o := ⟨some 82, _, _, _, _, none⟩) rfl (fun K hK => ?_) AllReadyH.nil
  go_simp
  refine KEY.out.mono ?_
  rintro e7 w7 ⟨rfl, he', hb', ho'⟩
  replace g0 := he'.hb
  replace g1 := he'.sb
  unfold shareFn at g1
  refine hK.out _ _ ?_ (fun hHeld => ?_)
  · exact ⟨g0, g1⟩
  clear hK K
  try simp only [Act.put, List.setIfInBounds_toArray, List.set_cons_zero, List.set_cons_succ]
  refine wpAnyH_done (by kernel_rfl) ?_ _
  obtain ⟨l6, st7, hE6⟩ : ∃ l s, eyeL st6 [0, 0, 0, 0, 0, 0, 0, 0, 0, 0, 0] = (l, s) := ⟨_, _, rfl⟩
  rw [hE6] at he' hb'
  simp only at he' hb'
  have hlen6 : l6.length = 11 := by have := eyeL_len st6 [0, 0, 0, 0, 0, 0, 0, 0, 0, 0, 0]; rw [hE6] at this; exact this
  obtain ⟨x7, x8, x9, x10, x11, x12, x13, x14, x15, x16, x17, rfl⟩ : ∃ x7 x8 x9 x10 x11 x12 x13 x14 x15 x16 x17, l6 = [x7, x8, x9, x10, x11, x12, x13, x14, x15, x16, x17] := by match l6, hlen6 with | [x7, x8, x9, x10, x11, x12, x13, x14, x15, x16, x17], _ => exact ⟨x7, x8, x9, x10, x11, x12, x13, x14, x15, x16, x17, rfl⟩
  have hS2 : w7.heap[S]? = some (.cells [.int .i64 x0, .slice a1 n1 c1, .int .i64 x2, .int .i64 x3, .slice a3 n3 c3, .slice a4 n4 c4, .slice a5 n5 c5, .int .i64 x7, .int .i64 x8, .int .i64 x9, .int .i64 x10, .int .i64 x11, .int .i64 x12, .int .i64 x13, .int .i64 x14, .int .i64 x15, .int .i64 x16, .int .i64 x17, .slice none 0 0, .int .i64 0, .int .i64 0, .int .i64 0, .slice none 0 0].toArray TS) := by
    unfold Blk3 at hb'
    simpa using hb'
  replace hg1 := (hg1).off2 ho' hX hSX
  replace hg3 := (hg3).off2 ho' hX hSX
  replace hg4 := (hg4).off2 ho' hX hSX
  replace hg5 := (hg5).off2 ho' hX hSX
  replace ho := ho.trans ho'
  have HE6 := Lib.hid hE6
  replace he := he'
  replace hS := hS2
  clear hE6 he' ho' hed hod kd KEY g0 g1 hHeld hS2 hb' hbk
  go_wp2_with fail
  have kd : Below w7.heap.size w7 w7.drew := (Below.refl _ _).drew
  have hed := he.below kd
  have hod := ho.trans (Below.off2 kd)
  have hsd := box_keep kd hS (block_lt hS)
  have KEY := Lib.hid (eye_list_Int H W.heap.size (W.heap.size + 1) S 18 TS X _ _ w7.drew hed hsd rfl hSX hn)
  have g0 := hed.hb
  have g1 := hed.sb
  unfold shareFn at g1
  refine wp_region_held_drew (S := (fun w' => w'.cell? ⟨W.heap.size, 0, none⟩ = some (.iface 69 (.pointer (some ⟨H, 0, none⟩))) ∧ w'.cell? ⟨(W.heap.size + 1), 0, none⟩ = some (.func (.func 70) #[] #[.pointer (some ⟨W.heap.size, 0, none⟩)]))) (by kernel_rfl) ?_ (fun hHeld => ?_)
  · exact ⟨g0, g1⟩
  refine wpAnyH_take (i := 0) (oi := ⟨some 83, _, _, _, _, none⟩) (v := ?_) rfl (by kernel_rfl) (by kernel_rfl) (by kernel_rfl) (fun _ _ _ h => h) (Or.inl ⟨by rfl, ?_⟩) (by assumption) ?_
  rotate_left
  · intro wz hSw; (try dsimp only at hSw); go_simp; (try with_reducible rfl)
  try simp only [Act.put, List.setIfInBounds_toArray, List.set_cons_zero, List.set_cons_succ]
  refine wpAnyH_take (i := 1) (oi := ⟨some 84, _, _, _, _, none⟩) (v := ?_) rfl (by kernel_rfl) (by kernel_rfl) (by kernel_rfl) (fun _ _ _ h => h) (Or.inl ⟨by rfl, ?_⟩) (by assumption) ?_
  rotate_left
  · intro wz hSw; (try dsimp only at hSw); go_simp; (try with_reducible rfl)
  try simp only [Act.put, List.setIfInBounds_toArray, List.set_cons_zero, List.set_cons_succ]
  refine wpAnyH_take (i := 2) (oi := ⟨some 85, _, _, _, _, none⟩) (v := ?_) rfl (by kernel_rfl) (by kernel_rfl) (by kernel_rfl) (fun _ _ _ h => h) (Or.inl ⟨by rfl, ?_⟩) (by assumption) ?_
  rotate_left
  · intro wz hSw; (try dsimp only at hSw); go_simp; (try with_reducible rfl)
  try simp only [Act.put, List.setIfInBounds_toArray, List.set_cons_zero, List.set_cons_succ]
  refine wpAnyH_take (i := 3) (oi := ⟨some 86, _, _, _, _, none⟩) (v := ?_) rfl (by kernel_rfl) (by kernel_rfl) (by kernel_rfl) (fun _ _ _ h => h) (Or.inl ⟨by rfl, ?_⟩) (by assumption) ?_
  rotate_left
  · intro wz hSw; (try dsimp only at hSw); go_simp; (try with_reducible rfl)
  try simp only [Act.put, List.setIfInBounds_toArray, List.set_cons_zero, List.set_cons_succ]
  refine wpAnyH_take (i := 4) (oi := ⟨some 87, _, _, _, _, none⟩) (v := ?_) rfl (by kernel_rfl) (by kernel_rfl) (by kernel_rfl) (fun _ _ _ h => h) (Or.inl ⟨by rfl, ?_⟩) (by assumption) ?_
  rotate_left
  · intro wz hSw; (try dsimp only at hSw); go_simp; (try with_reducible rfl)
  try simp only [Act.put, List.setIfInBounds_toArray, List.set_cons_zero, List.set_cons_succ]
  refine wpAnyH_ready (rs := [5]) (by kernel_rfl) (by simp) ?_
  refine AllReadyH.cons (o := ⟨some 88, _, _, _, _, none⟩) rfl (fun K hK => ?_) AllReadyH.nil
  go_simp
  refine KEY.out.mono ?_
  rintro e8 w8 ⟨rfl, a7, c7, he', hS', hg7, hcl7, ho'⟩
  replace g0 := he'.hb
  replace g1 := he'.sb
  unfold shareFn at g1
  refine hK.out _ _ ?_ (fun hHeld => ?_)
  · exact ⟨g0, g1⟩
  clear hK K
  try simp only [Act.put, List.setIfInBounds_toArray, List.set_cons_zero, List.set_cons_succ]
  refine wpAnyH_done (by kernel_rfl) ?_ _
  obtain ⟨l7, st8, hE7⟩ : ∃ l s, eyeR 1 st7 = (l, s) := ⟨_, _, rfl⟩
  obtain ⟨n7, hN7⟩ : ∃ m, (eyeM st7).1 = m := ⟨_, rfl⟩
  rw [hE7] at he' hg7
  rw [hN7] at hS' hg7 hcl7
  simp only at he' hg7
  have hS2 : w8.heap[S]? = some (.cells [.int .i64 x0, .slice a1 n1 c1, .int .i64 x2, .int .i64 x3, .slice a3 n3 c3, .slice a4 n4 c4, .slice a5 n5 c5, .int .i64 x7, .int .i64 x8, .int .i64 x9, .int .i64 x10, .int .i64 x11, .int .i64 x12, .int .i64 x13, .int .i64 x14, .int .i64 x15, .int .i64 x16, .int .i64 x17, .slice a7 n7 c7, .int .i64 0, .int .i64 0, .int .i64 0, .slice none 0 0].toArray TS) := by simpa using hS'
  replace hg1 := (hg1.below kd).off2 ho' hX hSX
  replace hg3 := (hg3.below kd).off2 ho' hX hSX
  replace hg4 := (hg4.below kd).off2 ho' hX hSX
  replace hg5 := (hg5.below kd).off2 ho' hX hSX
  replace ho := hod.trans ho'
  have HE7 := Lib.hid hE7
  replace he := he'
  replace hS := hS2
  have HN7 := Lib.hid hN7
  clear hE7 he' ho' hed hod kd KEY g0 g1 hHeld hS2 hS' hsd hN7
  go_wp2_with fail
  have kd : Below w8.heap.size w8 w8.drew := (Below.refl _ _).drew
  have hed := he.below kd
  have hod := ho.trans (Below.off2 kd)
  have hbk : Blk3 w8 S TS [.int .i64 x0, .slice a1 n1 c1, .int .i64 x2, .int .i64 x3, .slice a3 n3 c3, .slice a4 n4 c4, .slice a5 n5 c5, .int .i64 x7, .int .i64 x8, .int .i64 x9, .int .i64 x10, .int .i64 x11, .int .i64 x12, .int .i64 x13, .int .i64 x14, .int .i64 x15, .int .i64 x16, .int .i64 x17, .slice a7 n7 c7] [0, 0, 0] [.slice none 0 0] := Blk3.of_at hS _ _ _ rfl
  have KEY := Lib.hid (eye_put_new [.pointer (some ⟨S, 19, none⟩), .pointer (some ⟨S, 20, none⟩), .pointer (some ⟨S, 21, none⟩)] he hbk rfl hSX hn rfl (by simp))
  have g0 := hed.hb
  have g1 := hed.sb
  unfold shareFn at g1
  refine wp_region_held_drew (S := (fun w' => w'.cell? ⟨W.heap.size, 0, none⟩ = some (.iface 69 (.pointer (some ⟨H, 0, none⟩))) ∧ w'.cell? ⟨(W.heap.size + 1), 0, none⟩ = some (.func (.func 70) #[] #[.pointer (some ⟨W.heap.size, 0, none⟩)]))) (by kernel_rfl) ?_ (fun hHeld => ?_)
  · exact ⟨g0, g1⟩
  refine wpAnyH_take (i := 0) (oi := ⟨some 89, _, _, _, _, none⟩) (v := ?_) rfl (by kernel_rfl) (by kernel_rfl) (by kernel_rfl) (fun _ _ _ h => h) (Or.inl ⟨by rfl, ?_⟩) (by assumption) ?_
  rotate_left
  · intro wz hSw; (try dsimp only at hSw); go_simp; (try with_reducible rfl)
  try simp only [Act.put, List.setIfInBounds_toArray, List.set_cons_zero, List.set_cons_succ]
  refine wpAnyH_take (i := 1) (oi := ⟨some 90, _, _, _, _, none⟩) (v := ?_) rfl (by kernel_rfl) (by kernel_rfl) (by kernel_rfl) (fun _ _ _ h => h) (Or.inl ⟨by rfl, ?_⟩) (by assumption) ?_
  rotate_left
  · intro wz hSw; (try dsimp only at hSw); go_simp; (try with_reducible rfl)
  try simp only [Act.put, List.setIfInBounds_toArray, List.set_cons_zero, List.set_cons_succ]
  refine wpAnyH_take (i := 2) (oi := ⟨some 91, _, _, _, _, none⟩) (v := ?_) rfl (by kernel_rfl) (by kernel_rfl) (by kernel_rfl) (fun _ _ _ h => h) (Or.inl ⟨by rfl, ?_⟩) (by assumption) ?_
  rotate_left
  · intro wz hSw; (try dsimp only at hSw); go_simp; (try with_reducible rfl)
  try simp only [Act.put, List.setIfInBounds_toArray, List.set_cons_zero, List.set_cons_succ]
  refine wpAnyH_take (i := 3) (oi := ⟨some 92, _, _, _, _, none⟩) (v := ?_) rfl (by kernel_rfl) (by kernel_rfl) (by kernel_rfl) (fun _ _ _ h => h) (Or.inl ⟨by rfl, ?_⟩) (by assumption) ?_
  rotate_left
  · intro wz hSw; (try dsimp only at hSw); go_simp; (try with_reducible rfl)
  try simp only [Act.put, List.setIfInBounds_toArray, List.set_cons_zero, List.set_cons_succ]
  refine wpAnyH_take (i := 4) (oi := ⟨some 93, _, _, _, _, none⟩) (v := ?_) rfl (by kernel_rfl) (by kernel_rfl) (by kernel_rfl) (fun _ _ _ h => h) (Or.inl ⟨by rfl, ?_⟩) (by assumption) ?_
  rotate_left
  · intro wz hSw; (try dsimp only at hSw); go_simp; (try with_reducible rfl)
  try simp only [Act.put, List.setIfInBounds_toArray, List.set_cons_zero, List.set_cons_succ]
  refine wpAnyH_take (i := 5) (oi := ⟨some 94, _, _, _, _, none⟩) (v := ?_) rfl (by kernel_rfl) (by kernel_rfl) (by kernel_rfl) (fun _ _ _ h => h) (Or.inl ⟨by rfl, ?_⟩) (by assumption) ?_
  rotate_left
  · intro wz hSw; (try dsimp only at hSw); go_simp; (try with_reducible rfl)
  try simp only [Act.put, List.setIfInBounds_toArray, List.set_cons_zero, List.set_cons_succ]
  refine wpAnyH_take (i := 6) (oi := ⟨some 95, _, _, _, _, none⟩) (v := ?_) rfl (by kernel_rfl) (by kernel_rfl) (by kernel_rfl) (fun _ _ _ h => h) (Or.inl ⟨by rfl, ?_⟩) (by assumption) ?_
  rotate_left
  · intro wz hSw; (try dsimp only at hSw); go_simp; (try with_reducible rfl)
  try simp only [Act.put, List.setIfInBounds_toArray, List.set_cons_zero, List.set_cons_succ]
  refine wpAnyH_take (i := 7) (oi := ⟨some 96, _, _, _, _, none⟩) (v := ?_) rfl (by kernel_rfl) (by kernel_rfl) (by kernel_rfl) (fun _ _ _ h => h) (Or.inl ⟨by rfl, ?_⟩) (by assumption) ?_
  rotate_left
  · intro wz hSw; (try dsimp only at hSw); go_simp; (try with_reducible rfl)
  try simp only [Act.put, List.setIfInBounds_toArray, List.set_cons_zero, List.set_cons_succ]
  refine wpAnyH_take (i := 8) (oi := ⟨some 97, _, _, _, _, none⟩) (v := ?_) rfl (by kernel_rfl) (by kernel_rfl) (by kernel_rfl) (fun _ _ _ h => h) (Or.inl ⟨by rfl, ?_⟩) (by assumption) ?_
  rotate_left
  · intro wz hSw; (try dsimp only at hSw); go_simp; (try with_reducible rfl)
  try simp only [Act.put, List.setIfInBounds_toArray, List.set_cons_zero, List.set_cons_succ]
  refine wpAnyH_take (i := 9) (oi := ⟨some 98, _, _, _, _, none⟩) (v := ?_) rfl (by kernel_rfl) (by kernel_rfl) (by kernel_rfl) (fun _ _ _ h => h) (Or.inl ⟨by rfl, ?_⟩) (by assumption) ?_
  rotate_left
  · intro wz hSw; (try dsimp only at hSw); go_simp; (try with_reducible rfl)
  try simp only [Act.put, List.setIfInBounds_toArray, List.set_cons_zero, List.set_cons_succ]
  refine wpAnyH_take (i := 11) (oi := ⟨some 100, _, _, _, _, none⟩) (v := ?_) rfl (by kernel_rfl) (by kernel_rfl) (by kernel_rfl) (fun _ _ _ h => h) (Or.inl ⟨by rfl, ?_⟩) (by assumption) ?_
  rotate_left
  · intro wz hSw; (try dsimp only at hSw); go_simp; (try with_reducible rfl)
  try simp only [Act.put, List.setIfInBounds_toArray, List.set_cons_zero, List.set_cons_succ]
  refine wpAnyH_take (i := 12) (oi := ⟨some 101, _, _, _, _, none⟩) (v := ?_) rfl (by kernel_rfl) (by kernel_rfl) (by kernel_rfl) (fun _ _ _ h => h) (Or.inl ⟨by rfl, ?_⟩) (by assumption) ?_
  rotate_left
  · intro wz hSw; (try dsimp only at hSw); go_simp; (try with_reducible rfl)
  try simp only [Act.put, List.setIfInBounds_toArray, List.set_cons_zero, List.set_cons_succ]
  refine wpAnyH_take (i := 13) (oi := ⟨some 102, _, _, _, _, none⟩) (v := ?_) rfl (by kernel_rfl) (by kernel_rfl) (by kernel_rfl) (fun _ _ _ h => h) (Or.inl ⟨by rfl, ?_⟩) (by assumption) ?_
  rotate_left
  · intro wz hSw; (try dsimp only at hSw); go_simp; (try with_reducible rfl)
  try simp only [Act.put, List.setIfInBounds_toArray, List.set_cons_zero, List.set_cons_succ]
  refine wpAnyH_ready (rs := [10]) (by kernel_rfl) (by simp) ?_
  refine AllReadyH.cons (o := ⟨some 99, _, _, _, _, none⟩) rfl (fun K hK => ?_) AllReadyH.nil
  go_simp
  replace g0 := keepA (.cells #[.pointer (some ⟨S, 19, none⟩), .pointer (some ⟨S, 20, none⟩), .pointer (some ⟨S, 21, none⟩)] 97) g0
  replace g1 := keepA (.cells #[.pointer (some ⟨S, 19, none⟩), .pointer (some ⟨S, 20, none⟩), .pointer (some ⟨S, 21, none⟩)] 97) g1
  refine hK.out _ _ ?_ (fun hHeld => ?_)
  · exact ⟨g0, g1⟩
  clear hK K
  try simp only [Act.put, List.setIfInBounds_toArray, List.set_cons_zero, List.set_cons_succ]
  refine wpAnyH_ready (rs := [14]) (by kernel_rfl) (by simp) ?_
  refine AllReadyH.cons (o := ⟨some 103, _, _, _, _, none⟩) rfl (fun K hK => ?_) AllReadyH.nil
  go_simp
  refine KEY.out.mono ?_
  rintro e9 w9 ⟨rfl, he', hb', ho'⟩
  replace g0 := he'.hb
  replace g1 := he'.sb
  unfold shareFn at g1
  refine hK.out _ _ ?_ (fun hHeld => ?_)
  · exact ⟨g0, g1⟩
  clear hK K
  try simp only [Act.put, List.setIfInBounds_toArray, List.set_cons_zero, List.set_cons_succ]
  refine wpAnyH_done (by kernel_rfl) ?_ _
  obtain ⟨l8, st9, hE8⟩ : ∃ l s, eyeL st8 [0, 0, 0] = (l, s) := ⟨_, _, rfl⟩
  rw [hE8] at he' hb'
  simp only at he' hb'
  have hlen8 : l8.length = 3 := by have := eyeL_len st8 [0, 0, 0]; rw [hE8] at this; exact this
  obtain ⟨x19, x20, x21, rfl⟩ : ∃ x19 x20 x21, l8 = [x19, x20, x21] := by match l8, hlen8 with | [x19, x20, x21], _ => exact ⟨x19, x20, x21, rfl⟩
  have hS2 : w9.heap[S]? = some (.cells [.int .i64 x0, .slice a1 n1 c1, .int .i64 x2, .int .i64 x3, .slice a3 n3 c3, .slice a4 n4 c4, .slice a5 n5 c5, .int .i64 x7, .int .i64 x8, .int .i64 x9, .int .i64 x10, .int .i64 x11, .int .i64 x12, .int .i64 x13, .int .i64 x14, .int .i64 x15, .int .i64 x16, .int .i64 x17, .slice a7 n7 c7, .int .i64 x19, .int .i64 x20, .int .i64 x21, .slice none 0 0].toArray TS) := by
    unfold Blk3 at hb'
    simpa using hb'
  replace hg1 := (hg1).off2 ho' hX hSX
  replace hg3 := (hg3).off2 ho' hX hSX
  replace hg4 := (hg4).off2 ho' hX hSX
  replace hg5 := (hg5).off2 ho' hX hSX
  replace hg7 := (hg7).off2 ho' hX hSX
  replace ho := ho.trans ho'
  have HE8 := Lib.hid hE8
  replace he := he'
  replace hS := hS2
  clear hE8 he' ho' hed hod kd KEY g0 g1 hHeld hS2 hb' hbk
  go_wp2_with fail
  have kd : Below w9.heap.size w9 w9.drew := (Below.refl _ _).drew
  have hed := he.below kd
  have hod := ho.trans (Below.off2 kd)
  have hsd := box_keep kd hS (block_lt hS)
  have KEY := Lib.hid (eye_list_Tier H W.heap.size (W.heap.size + 1) S 22 TS X _ _ w9.drew hed hsd rfl hSX hn)
  have g0 := hed.hb
  have g1 := hed.sb
  unfold shareFn at g1
  refine wp_region_held_drew (S := (fun w' => w'.cell? ⟨W.heap.size, 0, none⟩ = some (.iface 69 (.pointer (some ⟨H, 0, none⟩))) ∧ w'.cell? ⟨(W.heap.size + 1), 0, none⟩ = some (.func (.func 70) #[] #[.pointer (some ⟨W.heap.size, 0, none⟩)]))) (by kernel_rfl) ?_ (fun hHeld => ?_)
  · exact ⟨g0, g1⟩
  refine wpAnyH_take (i := 0) (oi := ⟨some 104, _, _, _, _, none⟩) (v := ?_) rfl (by kernel_rfl) (by kernel_rfl) (by kernel_rfl) (fun _ _ _ h => h) (Or.inl ⟨by rfl, ?_⟩) (by assumption) ?_
  rotate_left
  · intro wz hSw; (try dsimp only at hSw); go_simp; (try with_reducible rfl)
  try simp only [Act.put, List.setIfInBounds_toArray, List.set_cons_zero, List.set_cons_succ]
  refine wpAnyH_take (i := 1) (oi := ⟨some 105, _, _, _, _, none⟩) (v := ?_) rfl (by kernel_rfl) (by kernel_rfl) (by kernel_rfl) (fun _ _ _ h => h) (Or.inl ⟨by rfl, ?_⟩) (by assumption) ?_
  rotate_left
  · intro wz hSw; (try dsimp only at hSw); go_simp; (try with_reducible rfl)
  try simp only [Act.put, List.setIfInBounds_toArray, List.set_cons_zero, List.set_cons_succ]
  refine wpAnyH_take (i := 2) (oi := ⟨some 106, _, _, _, _, none⟩) (v := ?_) rfl (by kernel_rfl) (by kernel_rfl) (by kernel_rfl) (fun _ _ _ h => h) (Or.inl ⟨by rfl, ?_⟩) (by assumption) ?_
  rotate_left
  · intro wz hSw; (try dsimp only at hSw); go_simp; (try with_reducible rfl)
  try simp only [Act.put, List.setIfInBounds_toArray, List.set_cons_zero, List.set_cons_succ]
  refine wpAnyH_take (i := 3) (oi := ⟨some 107, _, _, _, _, none⟩) (v := ?_) rfl (by kernel_rfl) (by kernel_rfl) (by kernel_rfl) (fun _ _ _ h => h) (Or.inl ⟨by rfl, ?_⟩) (by assumption) ?_
  rotate_left
  · intro wz hSw; (try dsimp only at hSw); go_simp; (try with_reducible rfl)
  try simp only [Act.put, List.setIfInBounds_toArray, List.set_cons_zero, List.set_cons_succ]
  refine wpAnyH_take (i := 4) (oi := ⟨some 108, _, _, _, _, none⟩) (v := ?_) rfl (by kernel_rfl) (by kernel_rfl) (by kernel_rfl) (fun _ _ _ h => h) (Or.inl ⟨by rfl, ?_⟩) (by assumption) ?_
  rotate_left
  · intro wz hSw; (try dsimp only at hSw); go_simp; (try with_reducible rfl)
  try simp only [Act.put, List.setIfInBounds_toArray, List.set_cons_zero, List.set_cons_succ]
  refine wpAnyH_ready (rs := [5]) (by kernel_rfl) (by simp) ?_
  refine AllReadyH.cons (o := ⟨some 109, _, _, _, _, none⟩) rfl (fun K hK => ?_) AllReadyH.nil
  go_simp
  refine KEY.out.mono ?_
  rintro e10 w10 ⟨rfl, a9, c9, he', hS', hg9, hcl9, ho'⟩
  replace g0 := he'.hb
  replace g1 := he'.sb
  unfold shareFn at g1
  refine hK.out _ _ ?_ (fun hHeld => ?_)
  · exact ⟨g0, g1⟩
  clear hK K
  try simp only [Act.put, List.setIfInBounds_toArray, List.set_cons_zero, List.set_cons_succ]
  refine wpAnyH_done (by kernel_rfl) ?_ _
  obtain ⟨l9, st10, hE9⟩ : ∃ l s, eyeR 2 st9 = (l, s) := ⟨_, _, rfl⟩
  obtain ⟨n9, hN9⟩ : ∃ m, (eyeM st9).1 = m := ⟨_, rfl⟩
  rw [hE9] at he' hg9
  rw [hN9] at hS' hg9 hcl9
  simp only at he' hg9
  have hS2 : w10.heap[S]? = some (.cells [.int .i64 x0, .slice a1 n1 c1, .int .i64 x2, .int .i64 x3, .slice a3 n3 c3, .slice a4 n4 c4, .slice a5 n5 c5, .int .i64 x7, .int .i64 x8, .int .i64 x9, .int .i64 x10, .int .i64 x11, .int .i64 x12, .int .i64 x13, .int .i64 x14, .int .i64 x15, .int .i64 x16, .int .i64 x17, .slice a7 n7 c7, .int .i64 x19, .int .i64 x20, .int .i64 x21, .slice a9 n9 c9].toArray TS) := by simpa using hS'
  replace hg1 := (hg1.below kd).off2 ho' hX hSX
  replace hg3 := (hg3.below kd).off2 ho' hX hSX
  replace hg4 := (hg4.below kd).off2 ho' hX hSX
  replace hg5 := (hg5.below kd).off2 ho' hX hSX
  replace hg7 := (hg7.below kd).off2 ho' hX hSX
  replace ho := hod.trans ho'
  have HE9 := Lib.hid hE9
  replace he := he'
  replace hS := hS2
  have HN9 := Lib.hid hN9
  clear hE9 he' ho' hed hod kd KEY g0 g1 hHeld hS2 hS' hsd hN9

  refine bodyPost_end (v := .tuple #[]) (by simp [results, Try.results34, go_sem]) rfl ?_
  have e0 : eye0 b = ([x0], st1) := by unfold eye0; rw [HST0.out]; exact HE0.out
  have e1 : eye1 b = (l1, st2) := by unfold eye1; rw [e0]; exact HE1.out
  have e2 : eye2 b = ([x2, x3], st3) := by unfold eye2; rw [e1]; exact HE2.out
  have e3 : eye3 b = (l3, st4) := by unfold eye3; rw [e2]; exact HE3.out
  have e4 : eye4 b = (l4, st5) := by unfold eye4; rw [e3]; exact HE4.out
  have e5 : eye5 b = (l5, st6) := by unfold eye5; rw [e4]; exact HE5.out
  have e6 : eye6 b = ([x7, x8, x9, x10, x11, x12, x13, x14, x15, x16, x17], st7) := by unfold eye6; rw [e5]; exact HE6.out
  have e7 : eye7 b = (l7, st8) := by unfold eye7; rw [e6]; exact HE7.out
  have e8 : eye8 b = ([x19, x20, x21], st9) := by unfold eye8; rw [e7]; exact HE8.out
  have e9 : eye9 b = (l9, st10) := by unfold eye9; rw [e8]; exact HE9.out
  have m1 : n1 ≤ 64 := by rw [← HN1.out]; exact eyeM_le _
  have m3 : n3 ≤ 64 := by rw [← HN3.out]; exact eyeM_le _
  have m4 : n4 ≤ 64 := by rw [← HN4.out]; exact eyeM_le _
  have m5 : n5 ≤ 64 := by rw [← HN5.out]; exact eyeM_le _
  have m7 : n7 ≤ 64 := by rw [← HN7.out]; exact eyeM_le _
  have m9 : n9 ≤ 64 := by rw [← HN9.out]; exact eyeM_le _
  refine ⟨rfl, ⟨a1, n1, c1, a3, n3, c3, a4, n4, c4, a5, n5, c5, a7, n7, c7, a9, n9, c9⟩, ?_, ho, ?_, ?_, ?_, ?_, ?_, ?_, ?_, hcl1, hcl3, hcl4, hcl5, hcl7, hcl9, m1, m3, m4, m5, m7, m9⟩
  · unfold eyeS
    rw [e9]
    exact he.eye
  · unfold eyeS
    rw [e0, e1, e2, e3, e4, e5, e6, e7, e8, e9]
    exact hS
  · rw [e1]; exact hg1
  · rw [e3]; exact hg3
  · rw [e4]; exact hg4
  · rw [e5]; exact hg5
  · rw [e7]; exact hg7
  · rw [e9]; exact hg9
end Go.Proofs.Ytnjckaifgmliaaa
