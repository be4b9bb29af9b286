/- THE WALKS of layer 7's closures, with an eye. -/
import Derived.Test.YtnjckaifgmliaaaEye
set_option linter.unusedSimpArgs false
set_option linter.unusedVariables false
namespace Go.Proofs.Ytnjckaifgmliaaa
open Go.RowKit Lu

/-- The eye in block H, the hand that holds it in HB, and the closure of shares in SB. -/
structure EyeEnv (W : World) (H HB SB : Nat) (X : List Nat) (st : Option (List Int)) : Prop where
  eye : EyeIs W H X st
  hb : W.cell? ⟨HB, 0, none⟩ = some (.iface 69 (.pointer (some ⟨H, 0, none⟩)))
  sb : W.cell? ⟨SB, 0, none⟩ = some (shareFn HB)
  hx : H ∈ X
  nb : HB ∉ X
  ns : SB ∉ X
theorem EyeEnv.below {W W' : World} {H HB SB : Nat} {X : List Nat} {st : Option (List Int)} (h : EyeEnv W H HB SB X st) (k : Below W.heap.size W W') : EyeEnv W' H HB SB X st :=
  ⟨h.eye.below k, keepD k h.hb, keepD k h.sb, h.hx, h.nb, h.ns⟩
theorem EyeEnv.off {W W' : World} {H HB SB R : Nat} {X : List Nat} {st st' : Option (List Int)} (h : EyeEnv W H HB SB X st) (k : Off2 H R W W') (hR : R ∈ X) (hp : EyeIs W' H X st') : EyeEnv W' H HB SB X st' :=
  have n1 : HB ≠ H := fun z => h.nb (z ▸ h.hx)
  have n2 : HB ≠ R := fun z => h.nb (z ▸ hR)
  have n3 : SB ≠ H := fun z => h.ns (z ▸ h.hx)
  have n4 : SB ≠ R := fun z => h.ns (z ▸ hR)
  ⟨hp, k.cell h.hb n1 n2, k.cell h.sb n3 n4, h.hx, h.nb, h.ns⟩
theorem EyeEnv.more {W W' : World} {H HB SB R : Nat} {X : List Nat} {st : Option (List Int)} (h : EyeEnv W H HB SB X st) (k : Below W.heap.size W W') (hR : W.heap.size ≤ R) (hR2 : R < W'.heap.size) : EyeEnv W' H HB SB (R :: X) st := by
  have h1 := World.block_lt_of_cell? W _ h.hb
  have h2 := World.block_lt_of_cell? W _ h.sb
  simp only at h1 h2
  refine ⟨h.eye.more k hR hR2, keepD k h.hb, keepD k h.sb, by simp [h.hx], ?_, ?_⟩
  · simp only [List.mem_cons, not_or]; exact ⟨by omega, h.nb⟩
  · simp only [List.mem_cons, not_or]; exact ⟨by omega, h.ns⟩
theorem EyeEnv.less {W : World} {H HB SB : Nat} {X Y : List Nat} {st : Option (List Int)} (h : EyeEnv W H HB SB X st) (k : ∀ x ∈ Y, x ∈ X) (hx : H ∈ Y) : EyeEnv W H HB SB Y st :=
  ⟨h.eye.less k, h.hb, h.sb, hx, fun z => h.nb (k _ z), fun z => h.ns (k _ z)⟩
theorem Blk3.left {W : World} {R : Nat} {T : TypeId} {xs ys : List Value} {a b : List Int} (h : Blk3 W R T xs (a ++ b) ys) : Blk3 W R T xs a (b.map (Value.int .i64) ++ ys) := by
  unfold Blk3 at *
  simpa using h
theorem Blk3.right {W : World} {R : Nat} {T : TypeId} {xs ys : List Value} {a b : List Int} (h : Blk3 W R T xs (a ++ b) ys) : Blk3 W R T (xs ++ a.map (Value.int .i64)) b ys := by
  unfold Blk3 at *
  simpa using h
theorem Blk3.swap {W : World} {R : Nat} {T : TypeId} {xs ys : List Value} {a b : List Int} (h : Blk3 W R T xs a (b.map (Value.int .i64) ++ ys)) : Blk3 W R T (xs ++ a.map (Value.int .i64)) b ys := by
  unfold Blk3 at *
  simpa using h
theorem Blk3.join {W : World} {R : Nat} {T : TypeId} {xs ys : List Value} {a b : List Int} (h : Blk3 W R T (xs ++ a.map (Value.int .i64)) b ys) : Blk3 W R T xs (a ++ b) ys := by
  unfold Blk3 at *
  simpa using h
theorem Blk3.join' {W : World} {R : Nat} {T : TypeId} {xs ys : List Value} {a b : List Int} (h : Blk3 W R T xs a (b.map (Value.int .i64) ++ ys)) : Blk3 W R T xs (a ++ b) ys := by
  unfold Blk3 at *
  simpa using h
theorem nil_ahead_eye (a : Addr) (w : World) : (nilAhead 274 69 (.pointer (some a)) "lumper/setup.put").run Try.prog w = .ok (some false) w := by kernel_rfl
theorem method_eye (a : Addr) (w : World) : (method 274 69 (.pointer (some a)) "lumper/setup.put").run Try.prog w = .ok (140, .pointer (some a)) w := by kernel_rfl
theorem nil_ahead_eye_many (a : Addr) (w : World) : (nilAhead 274 69 (.pointer (some a)) "lumper/setup.many").run Try.prog w = .ok (some false) w := by kernel_rfl
theorem method_eye_many (a : Addr) (w : World) : (method 274 69 (.pointer (some a)) "lumper/setup.many").run Try.prog w = .ok (139, .pointer (some a)) w := by kernel_rfl
/-- put, its list made just now. -/
theorem eye_put_any {H HB SB R ro : Nat} {T : TypeId} {X : List Nat} {xs ys : List Value} {zs : List Int} {st : Option (List Int)} {W W2 : World} (vs : List Value) (h : EyeEnv W H HB SB X st) (hb : Blk3 W R T xs zs ys) (hro : xs.length = ro) (hR : R ∈ X) (hn : R ≠ H) (hvs : vs = (List.range zs.length).map fun i => ptr (R, ro + i)) (hz : zs.length ≤ 1000)
    (k0 : Below W.heap.size W W2) (hc : Cells W2 (some ⟨W.heap.size, 0, none⟩) vs) :
    Calls Try.prog 140 #[.pointer (some ⟨H, 0, none⟩), .slice (some ⟨W.heap.size, 0, none⟩) zs.length zs.length] W2 fun e W' => e = .returned (.tuple #[]) ∧ EyeEnv W' H HB SB X (eyeL st zs).2 ∧ Blk3 W' R T xs (eyeL st zs).1 ys ∧ Off2 H R W W' := by
  subst hro
  have hH := h.eye.lt
  have hRl := block_lt hb
  have h1 := h.below k0
  have hb1 := hb.below k0
  rw [hvs] at hc
  refine (eye_put H R W.heap.size 0 zs.length T X xs ys zs st _ h1.eye h.hx hR hn hb1 hc (by omega) (by omega) hz).mono ?_
  rintro e W' ⟨rfl, hp, hb', ho⟩
  exact ⟨rfl, h1.off ho hR hp, hb', (Below.off2 k0).trans ho⟩
theorem eye_put_new {H HB SB R ro : Nat} {T : TypeId} {X : List Nat} {xs ys : List Value} {zs : List Int} {st : Option (List Int)} {W : World} (vs : List Value) (h : EyeEnv W H HB SB X st) (hb : Blk3 W R T xs zs ys) (hro : xs.length = ro) (hR : R ∈ X) (hn : R ≠ H) (hvs : vs = (List.range zs.length).map fun i => ptr (R, ro + i)) (hz : zs.length ≤ 1000) :
    Calls Try.prog 140 #[.pointer (some ⟨H, 0, none⟩), .slice (some ⟨W.heap.size, 0, none⟩) zs.length zs.length] ((W.alloc (.cells vs.toArray 97)).drew) fun e W' => e = .returned (.tuple #[]) ∧ EyeEnv W' H HB SB X (eyeL st zs).2 ∧ Blk3 W' R T xs (eyeL st zs).1 ys ∧ Off2 H R W W' :=
  eye_put_any vs h hb hro hR hn hvs hz (((Below.refl _ _).alloc (Nat.le_refl _) _).drew) (cells_drew (cells_ptrs W _ _))
theorem eye_put_new0 {H HB SB R ro : Nat} {T : TypeId} {X : List Nat} {xs ys : List Value} {zs : List Int} {st : Option (List Int)} {W : World} (vs : List Value) (h : EyeEnv W H HB SB X st) (hb : Blk3 W R T xs zs ys) (hro : xs.length = ro) (hR : R ∈ X) (hn : R ≠ H) (hvs : vs = (List.range zs.length).map fun i => ptr (R, ro + i)) (hz : zs.length ≤ 1000) :
    Calls Try.prog 140 #[.pointer (some ⟨H, 0, none⟩), .slice (some ⟨W.heap.size, 0, none⟩) zs.length zs.length] (W.alloc (.cells vs.toArray 97)) fun e W' => e = .returned (.tuple #[]) ∧ EyeEnv W' H HB SB X (eyeL st zs).2 ∧ Blk3 W' R T xs (eyeL st zs).1 ys ∧ Off2 H R W W' :=
  eye_put_any vs h hb hro hR hn hvs hz ((Below.refl _ _).alloc (Nat.le_refl _) _) (cells_ptrs W _ _)

set_option maxRecDepth 100000 in
theorem eye_share (H HB SB R ro : Nat) (T : TypeId) (X : List Nat) (xs ys : List Value) (zs : List Int) (st : Option (List Int)) (W : World) (h : EyeEnv W H HB SB X st) (hb : Blk3 W R T xs zs ys) (hro : xs.length = ro) (hk : zs.length = 2) (hR : R ∈ X) (hn : R ≠ H) :
    Calls Try.prog 70 #[.pointer (some ⟨R, ro, none⟩), .pointer (some ⟨HB, 0, none⟩)] W fun e W' => e = .returned (.tuple #[]) ∧ EyeEnv W' H HB SB X (eyeL st zs).2 ∧ Blk3 W' R T xs (eyeL st zs).1 ys ∧ Off2 H R W W' := by
  obtain ⟨n0, n1, rfl⟩ : ∃ n0 n1, zs = [n0, n1] := by match zs, hk with | [n0, n1], _ => exact ⟨n0, n1, rfl⟩
  have g0 := h.hb
  have na : ∀ w, (nilAhead 274 69 (.pointer (some ⟨H, 0, none⟩)) "lumper/setup.put").run Try.prog w = .ok (some false) w := nil_ahead_eye _
  have ma : ∀ w, (method 274 69 (.pointer (some ⟨H, 0, none⟩)) "lumper/setup.put").run Try.prog w = .ok (140, .pointer (some ⟨H, 0, none⟩)) w := method_eye _
  have KEY := Lib.hid (eye_put_new [.pointer (some ⟨R, ro, none⟩), .pointer (some ⟨R, ro + 1, none⟩)] h hb hro hR hn rfl (by simp))
  clear h hb hro hk
  go_enter Try.func70, Try.ntmps70
  replace g0 : W.drew.cell? _ = _ := g0
  refine wp_region_held_drew (S := (fun w' => w'.cell? ⟨HB, 0, none⟩ = some (.iface 69 (.pointer (some ⟨H, 0, none⟩))))) (by kernel_rfl) ?_ (fun hHeld => ?_)
  · exact g0
  refine wpAnyH_take (i := 0) (oi := ⟨some 3, _, _, _, _, none⟩) (v := ?_) rfl (by kernel_rfl) (by kernel_rfl) (by kernel_rfl) (fun _ _ _ h => h) (Or.inl ⟨by rfl, ?_⟩) (by assumption) ?_
  rotate_left
  · intro wz hSw; (try dsimp only at hSw); go_simp; (try with_reducible rfl)
  try simp only [Act.put, List.setIfInBounds_toArray, List.set_cons_zero, List.set_cons_succ]
  refine wpAnyH_take (i := 1) (oi := ⟨some 4, _, _, _, _, none⟩) (v := ?_) rfl (by kernel_rfl) (by kernel_rfl) (by kernel_rfl) (fun _ _ _ h => h) (Or.inl ⟨by rfl, ?_⟩) (by assumption) ?_
  rotate_left
  · intro wz hSw; (try dsimp only at hSw); go_simp; (try with_reducible rfl)
  try simp only [Act.put, List.setIfInBounds_toArray, List.set_cons_zero, List.set_cons_succ]
  refine wpAnyH_take (i := 2) (oi := ⟨some 5, _, _, _, _, none⟩) (v := ?_) rfl (by kernel_rfl) (by kernel_rfl) (by kernel_rfl) (fun _ _ _ h => h) (Or.inl ⟨by rfl, ?_⟩) (by assumption) ?_
  rotate_left
  · intro wz hSw; (try dsimp only at hSw); go_simp; (try with_reducible rfl)
  try simp only [Act.put, List.setIfInBounds_toArray, List.set_cons_zero, List.set_cons_succ]
  refine wpAnyH_take (i := 3) (oi := ⟨some 6, _, _, _, _, none⟩) (v := ?_) rfl (by kernel_rfl) (by kernel_rfl) (by kernel_rfl) (fun _ _ _ h => h) (Or.inl ⟨by rfl, ?_⟩) (by assumption) ?_
  rotate_left
  · intro wz hSw; (try dsimp only at hSw); go_simp; (try with_reducible rfl)
  try simp only [Act.put, List.setIfInBounds_toArray, List.set_cons_zero, List.set_cons_succ]
  refine wpAnyH_take (i := 4) (oi := ⟨some 7, _, _, _, _, none⟩) (v := ?_) rfl (by kernel_rfl) (by kernel_rfl) (by kernel_rfl) (fun _ _ _ h => h) (Or.inl ⟨by rfl, ?_⟩) (by assumption) ?_
  rotate_left
  · intro wz hSw; (try dsimp only at hSw); go_simp; (try with_reducible rfl)
  try simp only [Act.put, List.setIfInBounds_toArray, List.set_cons_zero, List.set_cons_succ]
  refine wpAnyH_take (i := 5) (oi := ⟨some 8, _, _, _, _, none⟩) (v := ?_) rfl (by kernel_rfl) (by kernel_rfl) (by kernel_rfl) (fun _ _ _ h => h) (Or.inl ⟨by rfl, ?_⟩) (by assumption) ?_
  rotate_left
  · intro wz hSw; (try dsimp only at hSw); go_simp; (try with_reducible rfl)
  try simp only [Act.put, List.setIfInBounds_toArray, List.set_cons_zero, List.set_cons_succ]
  refine wpAnyH_take (i := 6) (oi := ⟨some 9, _, _, _, _, none⟩) (v := ?_) rfl (by kernel_rfl) (by kernel_rfl) (by kernel_rfl) (fun _ _ _ h => h) (Or.inl ⟨by rfl, ?_⟩) (by assumption) ?_
  rotate_left
  · intro wz hSw; (try dsimp only at hSw); go_simp; (try with_reducible rfl)
  try simp only [Act.put, List.setIfInBounds_toArray, List.set_cons_zero, List.set_cons_succ]
  refine wpAnyH_take (i := 8) (oi := ⟨some 11, _, _, _, _, none⟩) (v := ?_) rfl (by kernel_rfl) (by kernel_rfl) (by kernel_rfl) (fun _ _ _ h => h) (Or.inl ⟨by rfl, ?_⟩) (by assumption) ?_
  rotate_left
  · intro wz hSw; (try dsimp only at hSw); go_simp; (try with_reducible rfl)
  try simp only [Act.put, List.setIfInBounds_toArray, List.set_cons_zero, List.set_cons_succ]
  refine wpAnyH_take (i := 9) (oi := ⟨some 12, _, _, _, _, none⟩) (v := ?_) rfl (by kernel_rfl) (by kernel_rfl) (by kernel_rfl) (fun _ _ _ h => h) (Or.inl ⟨by rfl, ?_⟩) (by assumption) ?_
  rotate_left
  · intro wz hSw; (try dsimp only at hSw); go_simp; (try with_reducible rfl)
  try simp only [Act.put, List.setIfInBounds_toArray, List.set_cons_zero, List.set_cons_succ]
  refine wpAnyH_take (i := 10) (oi := ⟨some 13, _, _, _, _, none⟩) (v := ?_) rfl (by kernel_rfl) (by kernel_rfl) (by kernel_rfl) (fun _ _ _ h => h) (Or.inl ⟨by rfl, ?_⟩) (by assumption) ?_
  rotate_left
  · intro wz hSw; (try dsimp only at hSw); go_simp; (try with_reducible rfl)
  try simp only [Act.put, List.setIfInBounds_toArray, List.set_cons_zero, List.set_cons_succ]
  refine wpAnyH_ready (rs := [7]) (by kernel_rfl) (by simp) ?_
  refine AllReadyH.cons (o := ⟨some 10, _, _, _, _, none⟩) rfl (fun K hK => ?_) AllReadyH.nil
  go_simp
  replace g0 := keepA (.cells #[.pointer (some ⟨R, ro, none⟩), .pointer (some ⟨R, ro + 1, none⟩)] 97) g0
  refine hK.out _ _ ?_ (fun hHeld => ?_)
  · exact g0
  clear hK K
  try simp only [Act.put, List.setIfInBounds_toArray, List.set_cons_zero, List.set_cons_succ]
  refine wpAnyH_ready (rs := [11]) (by kernel_rfl) (by simp) ?_
  refine AllReadyH.cons (o := ⟨some 14, _, _, _, _, none⟩) rfl (fun K hK => ?_) AllReadyH.nil
  go_simp
  refine KEY.out.mono ?_
  rintro e1 w1 ⟨rfl, he, hbk, ho⟩
  replace g0 := he.hb
  refine hK.out _ _ ?_ (fun hHeld => ?_)
  · exact g0
  clear hK K
  try simp only [Act.put, List.setIfInBounds_toArray, List.set_cons_zero, List.set_cons_succ]
  refine wpAnyH_done (by kernel_rfl) ?_ _
  clear KEY
  refine bodyPost_end (v := .tuple #[]) (by simp [results, Try.results70, go_sem]) rfl ⟨rfl, he, hbk, ho⟩

set_option maxRecDepth 100000 in
theorem eye_way (H HB SB R ro : Nat) (T : TypeId) (X : List Nat) (xs ys : List Value) (zs : List Int) (st : Option (List Int)) (W : World) (h : EyeEnv W H HB SB X st) (hb : Blk3 W R T xs zs ys) (hro : xs.length = ro) (hk : zs.length = 3) (hR : R ∈ X) (hn : R ≠ H) :
    Calls Try.prog 72 #[.pointer (some ⟨R, ro, none⟩), .pointer (some ⟨HB, 0, none⟩)] W fun e W' => e = .returned (.tuple #[]) ∧ EyeEnv W' H HB SB X (eyeL st zs).2 ∧ Blk3 W' R T xs (eyeL st zs).1 ys ∧ Off2 H R W W' := by
  obtain ⟨n0, n1, n2, rfl⟩ : ∃ n0 n1 n2, zs = [n0, n1, n2] := by match zs, hk with | [n0, n1, n2], _ => exact ⟨n0, n1, n2, rfl⟩
  have g0 := h.hb
  have na : ∀ w, (nilAhead 274 69 (.pointer (some ⟨H, 0, none⟩)) "lumper/setup.put").run Try.prog w = .ok (some false) w := nil_ahead_eye _
  have ma : ∀ w, (method 274 69 (.pointer (some ⟨H, 0, none⟩)) "lumper/setup.put").run Try.prog w = .ok (140, .pointer (some ⟨H, 0, none⟩)) w := method_eye _
  have KEY := Lib.hid (eye_put_new [.pointer (some ⟨R, ro, none⟩), .pointer (some ⟨R, ro + 1, none⟩), .pointer (some ⟨R, ro + 2, none⟩)] h hb hro hR hn rfl (by simp))
  clear h hb hro hk
  go_enter Try.func72, Try.ntmps72
  replace g0 : W.drew.cell? _ = _ := g0
  refine wp_region_held_drew (S := (fun w' => w'.cell? ⟨HB, 0, none⟩ = some (.iface 69 (.pointer (some ⟨H, 0, none⟩))))) (by kernel_rfl) ?_ (fun hHeld => ?_)
  · exact g0
  refine wpAnyH_take (i := 0) (oi := ⟨some 3, _, _, _, _, none⟩) (v := ?_) rfl (by kernel_rfl) (by kernel_rfl) (by kernel_rfl) (fun _ _ _ h => h) (Or.inl ⟨by rfl, ?_⟩) (by assumption) ?_
  rotate_left
  · intro wz hSw; (try dsimp only at hSw); go_simp; (try with_reducible rfl)
  try simp only [Act.put, List.setIfInBounds_toArray, List.set_cons_zero, List.set_cons_succ]
  refine wpAnyH_take (i := 1) (oi := ⟨some 4, _, _, _, _, none⟩) (v := ?_) rfl (by kernel_rfl) (by kernel_rfl) (by kernel_rfl) (fun _ _ _ h => h) (Or.inl ⟨by rfl, ?_⟩) (by assumption) ?_
  rotate_left
  · intro wz hSw; (try dsimp only at hSw); go_simp; (try with_reducible rfl)
  try simp only [Act.put, List.setIfInBounds_toArray, List.set_cons_zero, List.set_cons_succ]
  refine wpAnyH_take (i := 2) (oi := ⟨some 5, _, _, _, _, none⟩) (v := ?_) rfl (by kernel_rfl) (by kernel_rfl) (by kernel_rfl) (fun _ _ _ h => h) (Or.inl ⟨by rfl, ?_⟩) (by assumption) ?_
  rotate_left
  · intro wz hSw; (try dsimp only at hSw); go_simp; (try with_reducible rfl)
  try simp only [Act.put, List.setIfInBounds_toArray, List.set_cons_zero, List.set_cons_succ]
  refine wpAnyH_take (i := 3) (oi := ⟨some 6, _, _, _, _, none⟩) (v := ?_) rfl (by kernel_rfl) (by kernel_rfl) (by kernel_rfl) (fun _ _ _ h => h) (Or.inl ⟨by rfl, ?_⟩) (by assumption) ?_
  rotate_left
  · intro wz hSw; (try dsimp only at hSw); go_simp; (try with_reducible rfl)
  try simp only [Act.put, List.setIfInBounds_toArray, List.set_cons_zero, List.set_cons_succ]
  refine wpAnyH_take (i := 4) (oi := ⟨some 7, _, _, _, _, none⟩) (v := ?_) rfl (by kernel_rfl) (by kernel_rfl) (by kernel_rfl) (fun _ _ _ h => h) (Or.inl ⟨by rfl, ?_⟩) (by assumption) ?_
  rotate_left
  · intro wz hSw; (try dsimp only at hSw); go_simp; (try with_reducible rfl)
  try simp only [Act.put, List.setIfInBounds_toArray, List.set_cons_zero, List.set_cons_succ]
  refine wpAnyH_take (i := 5) (oi := ⟨some 8, _, _, _, _, none⟩) (v := ?_) rfl (by kernel_rfl) (by kernel_rfl) (by kernel_rfl) (fun _ _ _ h => h) (Or.inl ⟨by rfl, ?_⟩) (by assumption) ?_
  rotate_left
  · intro wz hSw; (try dsimp only at hSw); go_simp; (try with_reducible rfl)
  try simp only [Act.put, List.setIfInBounds_toArray, List.set_cons_zero, List.set_cons_succ]
  refine wpAnyH_take (i := 6) (oi := ⟨some 9, _, _, _, _, none⟩) (v := ?_) rfl (by kernel_rfl) (by kernel_rfl) (by kernel_rfl) (fun _ _ _ h => h) (Or.inl ⟨by rfl, ?_⟩) (by assumption) ?_
  rotate_left
  · intro wz hSw; (try dsimp only at hSw); go_simp; (try with_reducible rfl)
  try simp only [Act.put, List.setIfInBounds_toArray, List.set_cons_zero, List.set_cons_succ]
  refine wpAnyH_take (i := 7) (oi := ⟨some 10, _, _, _, _, none⟩) (v := ?_) rfl (by kernel_rfl) (by kernel_rfl) (by kernel_rfl) (fun _ _ _ h => h) (Or.inl ⟨by rfl, ?_⟩) (by assumption) ?_
  rotate_left
  · intro wz hSw; (try dsimp only at hSw); go_simp; (try with_reducible rfl)
  try simp only [Act.put, List.setIfInBounds_toArray, List.set_cons_zero, List.set_cons_succ]
  refine wpAnyH_take (i := 8) (oi := ⟨some 11, _, _, _, _, none⟩) (v := ?_) rfl (by kernel_rfl) (by kernel_rfl) (by kernel_rfl) (fun _ _ _ h => h) (Or.inl ⟨by rfl, ?_⟩) (by assumption) ?_
  rotate_left
  · intro wz hSw; (try dsimp only at hSw); go_simp; (try with_reducible rfl)
  try simp only [Act.put, List.setIfInBounds_toArray, List.set_cons_zero, List.set_cons_succ]
  refine wpAnyH_take (i := 9) (oi := ⟨some 12, _, _, _, _, none⟩) (v := ?_) rfl (by kernel_rfl) (by kernel_rfl) (by kernel_rfl) (fun _ _ _ h => h) (Or.inl ⟨by rfl, ?_⟩) (by assumption) ?_
  rotate_left
  · intro wz hSw; (try dsimp only at hSw); go_simp; (try with_reducible rfl)
  try simp only [Act.put, List.setIfInBounds_toArray, List.set_cons_zero, List.set_cons_succ]
  refine wpAnyH_take (i := 11) (oi := ⟨some 14, _, _, _, _, none⟩) (v := ?_) rfl (by kernel_rfl) (by kernel_rfl) (by kernel_rfl) (fun _ _ _ h => h) (Or.inl ⟨by rfl, ?_⟩) (by assumption) ?_
  rotate_left
  · intro wz hSw; (try dsimp only at hSw); go_simp; (try with_reducible rfl)
  try simp only [Act.put, List.setIfInBounds_toArray, List.set_cons_zero, List.set_cons_succ]
  refine wpAnyH_take (i := 12) (oi := ⟨some 15, _, _, _, _, none⟩) (v := ?_) rfl (by kernel_rfl) (by kernel_rfl) (by kernel_rfl) (fun _ _ _ h => h) (Or.inl ⟨by rfl, ?_⟩) (by assumption) ?_
  rotate_left
  · intro wz hSw; (try dsimp only at hSw); go_simp; (try with_reducible rfl)
  try simp only [Act.put, List.setIfInBounds_toArray, List.set_cons_zero, List.set_cons_succ]
  refine wpAnyH_take (i := 13) (oi := ⟨some 16, _, _, _, _, none⟩) (v := ?_) rfl (by kernel_rfl) (by kernel_rfl) (by kernel_rfl) (fun _ _ _ h => h) (Or.inl ⟨by rfl, ?_⟩) (by assumption) ?_
  rotate_left
  · intro wz hSw; (try dsimp only at hSw); go_simp; (try with_reducible rfl)
  try simp only [Act.put, List.setIfInBounds_toArray, List.set_cons_zero, List.set_cons_succ]
  refine wpAnyH_ready (rs := [10]) (by kernel_rfl) (by simp) ?_
  refine AllReadyH.cons (o := ⟨some 13, _, _, _, _, none⟩) rfl (fun K hK => ?_) AllReadyH.nil
  go_simp
  replace g0 := keepA (.cells #[.pointer (some ⟨R, ro, none⟩), .pointer (some ⟨R, ro + 1, none⟩), .pointer (some ⟨R, ro + 2, none⟩)] 97) g0
  refine hK.out _ _ ?_ (fun hHeld => ?_)
  · exact g0
  clear hK K
  try simp only [Act.put, List.setIfInBounds_toArray, List.set_cons_zero, List.set_cons_succ]
  refine wpAnyH_ready (rs := [14]) (by kernel_rfl) (by simp) ?_
  refine AllReadyH.cons (o := ⟨some 17, _, _, _, _, none⟩) rfl (fun K hK => ?_) AllReadyH.nil
  go_simp
  refine KEY.out.mono ?_
  rintro e1 w1 ⟨rfl, he, hbk, ho⟩
  replace g0 := he.hb
  refine hK.out _ _ ?_ (fun hHeld => ?_)
  · exact g0
  clear hK K
  try simp only [Act.put, List.setIfInBounds_toArray, List.set_cons_zero, List.set_cons_succ]
  refine wpAnyH_done (by kernel_rfl) ?_ _
  clear KEY
  refine bodyPost_end (v := .tuple #[]) (by simp [results, Try.results72, go_sem]) rfl ⟨rfl, he, hbk, ho⟩

set_option maxRecDepth 100000 in
theorem eye_tier (H HB SB R ro : Nat) (T : TypeId) (X : List Nat) (xs ys : List Value) (zs : List Int) (st : Option (List Int)) (W : World) (h : EyeEnv W H HB SB X st) (hb : Blk3 W R T xs zs ys) (hro : xs.length = ro) (hk : zs.length = 2) (hR : R ∈ X) (hn : R ≠ H) :
    Calls Try.prog 79 #[.pointer (some ⟨R, ro, none⟩), .pointer (some ⟨HB, 0, none⟩)] W fun e W' => e = .returned (.tuple #[]) ∧ EyeEnv W' H HB SB X (eyeL st zs).2 ∧ Blk3 W' R T xs (eyeL st zs).1 ys ∧ Off2 H R W W' := by
  obtain ⟨n0, n1, rfl⟩ : ∃ n0 n1, zs = [n0, n1] := by match zs, hk with | [n0, n1], _ => exact ⟨n0, n1, rfl⟩
  have g0 := h.hb
  have na : ∀ w, (nilAhead 274 69 (.pointer (some ⟨H, 0, none⟩)) "lumper/setup.put").run Try.prog w = .ok (some false) w := nil_ahead_eye _
  have ma : ∀ w, (method 274 69 (.pointer (some ⟨H, 0, none⟩)) "lumper/setup.put").run Try.prog w = .ok (140, .pointer (some ⟨H, 0, none⟩)) w := method_eye _
  have KEY := Lib.hid (eye_put_new [.pointer (some ⟨R, ro, none⟩), .pointer (some ⟨R, ro + 1, none⟩)] h hb hro hR hn rfl (by simp))
  clear h hb hro hk
  go_enter Try.func79, Try.ntmps79
  replace g0 : W.drew.cell? _ = _ := g0
  refine wp_region_held_drew (S := (fun w' => w'.cell? ⟨HB, 0, none⟩ = some (.iface 69 (.pointer (some ⟨H, 0, none⟩))))) (by kernel_rfl) ?_ (fun hHeld => ?_)
  · exact g0
  refine wpAnyH_take (i := 0) (oi := ⟨some 3, _, _, _, _, none⟩) (v := ?_) rfl (by kernel_rfl) (by kernel_rfl) (by kernel_rfl) (fun _ _ _ h => h) (Or.inl ⟨by rfl, ?_⟩) (by assumption) ?_
  rotate_left
  · intro wz hSw; (try dsimp only at hSw); go_simp; (try with_reducible rfl)
  try simp only [Act.put, List.setIfInBounds_toArray, List.set_cons_zero, List.set_cons_succ]
  refine wpAnyH_take (i := 1) (oi := ⟨some 4, _, _, _, _, none⟩) (v := ?_) rfl (by kernel_rfl) (by kernel_rfl) (by kernel_rfl) (fun _ _ _ h => h) (Or.inl ⟨by rfl, ?_⟩) (by assumption) ?_
  rotate_left
  · intro wz hSw; (try dsimp only at hSw); go_simp; (try with_reducible rfl)
  try simp only [Act.put, List.setIfInBounds_toArray, List.set_cons_zero, List.set_cons_succ]
  refine wpAnyH_take (i := 2) (oi := ⟨some 5, _, _, _, _, none⟩) (v := ?_) rfl (by kernel_rfl) (by kernel_rfl) (by kernel_rfl) (fun _ _ _ h => h) (Or.inl ⟨by rfl, ?_⟩) (by assumption) ?_
  rotate_left
  · intro wz hSw; (try dsimp only at hSw); go_simp; (try with_reducible rfl)
  try simp only [Act.put, List.setIfInBounds_toArray, List.set_cons_zero, List.set_cons_succ]
  refine wpAnyH_take (i := 3) (oi := ⟨some 6, _, _, _, _, none⟩) (v := ?_) rfl (by kernel_rfl) (by kernel_rfl) (by kernel_rfl) (fun _ _ _ h => h) (Or.inl ⟨by rfl, ?_⟩) (by assumption) ?_
  rotate_left
  · intro wz hSw; (try dsimp only at hSw); go_simp; (try with_reducible rfl)
  try simp only [Act.put, List.setIfInBounds_toArray, List.set_cons_zero, List.set_cons_succ]
  refine wpAnyH_take (i := 4) (oi := ⟨some 7, _, _, _, _, none⟩) (v := ?_) rfl (by kernel_rfl) (by kernel_rfl) (by kernel_rfl) (fun _ _ _ h => h) (Or.inl ⟨by rfl, ?_⟩) (by assumption) ?_
  rotate_left
  · intro wz hSw; (try dsimp only at hSw); go_simp; (try with_reducible rfl)
  try simp only [Act.put, List.setIfInBounds_toArray, List.set_cons_zero, List.set_cons_succ]
  refine wpAnyH_take (i := 5) (oi := ⟨some 8, _, _, _, _, none⟩) (v := ?_) rfl (by kernel_rfl) (by kernel_rfl) (by kernel_rfl) (fun _ _ _ h => h) (Or.inl ⟨by rfl, ?_⟩) (by assumption) ?_
  rotate_left
  · intro wz hSw; (try dsimp only at hSw); go_simp; (try with_reducible rfl)
  try simp only [Act.put, List.setIfInBounds_toArray, List.set_cons_zero, List.set_cons_succ]
  refine wpAnyH_take (i := 6) (oi := ⟨some 9, _, _, _, _, none⟩) (v := ?_) rfl (by kernel_rfl) (by kernel_rfl) (by kernel_rfl) (fun _ _ _ h => h) (Or.inl ⟨by rfl, ?_⟩) (by assumption) ?_
  rotate_left
  · intro wz hSw; (try dsimp only at hSw); go_simp; (try with_reducible rfl)
  try simp only [Act.put, List.setIfInBounds_toArray, List.set_cons_zero, List.set_cons_succ]
  refine wpAnyH_take (i := 8) (oi := ⟨some 11, _, _, _, _, none⟩) (v := ?_) rfl (by kernel_rfl) (by kernel_rfl) (by kernel_rfl) (fun _ _ _ h => h) (Or.inl ⟨by rfl, ?_⟩) (by assumption) ?_
  rotate_left
  · intro wz hSw; (try dsimp only at hSw); go_simp; (try with_reducible rfl)
  try simp only [Act.put, List.setIfInBounds_toArray, List.set_cons_zero, List.set_cons_succ]
  refine wpAnyH_take (i := 9) (oi := ⟨some 12, _, _, _, _, none⟩) (v := ?_) rfl (by kernel_rfl) (by kernel_rfl) (by kernel_rfl) (fun _ _ _ h => h) (Or.inl ⟨by rfl, ?_⟩) (by assumption) ?_
  rotate_left
  · intro wz hSw; (try dsimp only at hSw); go_simp; (try with_reducible rfl)
  try simp only [Act.put, List.setIfInBounds_toArray, List.set_cons_zero, List.set_cons_succ]
  refine wpAnyH_take (i := 10) (oi := ⟨some 13, _, _, _, _, none⟩) (v := ?_) rfl (by kernel_rfl) (by kernel_rfl) (by kernel_rfl) (fun _ _ _ h => h) (Or.inl ⟨by rfl, ?_⟩) (by assumption) ?_
  rotate_left
  · intro wz hSw; (try dsimp only at hSw); go_simp; (try with_reducible rfl)
  try simp only [Act.put, List.setIfInBounds_toArray, List.set_cons_zero, List.set_cons_succ]
  refine wpAnyH_ready (rs := [7]) (by kernel_rfl) (by simp) ?_
  refine AllReadyH.cons (o := ⟨some 10, _, _, _, _, none⟩) rfl (fun K hK => ?_) AllReadyH.nil
  go_simp
  replace g0 := keepA (.cells #[.pointer (some ⟨R, ro, none⟩), .pointer (some ⟨R, ro + 1, none⟩)] 97) g0
  refine hK.out _ _ ?_ (fun hHeld => ?_)
  · exact g0
  clear hK K
  try simp only [Act.put, List.setIfInBounds_toArray, List.set_cons_zero, List.set_cons_succ]
  refine wpAnyH_ready (rs := [11]) (by kernel_rfl) (by simp) ?_
  refine AllReadyH.cons (o := ⟨some 14, _, _, _, _, none⟩) rfl (fun K hK => ?_) AllReadyH.nil
  go_simp
  refine KEY.out.mono ?_
  rintro e1 w1 ⟨rfl, he, hbk, ho⟩
  replace g0 := he.hb
  refine hK.out _ _ ?_ (fun hHeld => ?_)
  · exact g0
  clear hK K
  try simp only [Act.put, List.setIfInBounds_toArray, List.set_cons_zero, List.set_cons_succ]
  refine wpAnyH_done (by kernel_rfl) ?_ _
  clear KEY
  refine bodyPost_end (v := .tuple #[]) (by simp [results, Try.results79, go_sem]) rfl ⟨rfl, he, hbk, ho⟩

set_option maxRecDepth 100000 in
theorem eye_rate (H HB SB R ro : Nat) (T : TypeId) (X : List Nat) (xs ys : List Value) (zs : List Int) (st : Option (List Int)) (W : World) (h : EyeEnv W H HB SB X st) (hb : Blk3 W R T xs zs ys) (hro : xs.length = ro) (hk : zs.length = 1) (hR : R ∈ X) (hn : R ≠ H) :
    Calls Try.prog 77 #[.pointer (some ⟨R, ro, none⟩), .pointer (some ⟨HB, 0, none⟩)] W fun e W' => e = .returned (.tuple #[]) ∧ EyeEnv W' H HB SB X (eyeL st zs).2 ∧ Blk3 W' R T xs (eyeL st zs).1 ys ∧ Off2 H R W W' := by
  obtain ⟨n0, rfl⟩ : ∃ n0, zs = [n0] := by match zs, hk with | [n0], _ => exact ⟨n0, rfl⟩
  have g0 := h.hb
  have na : ∀ w, (nilAhead 274 69 (.pointer (some ⟨H, 0, none⟩)) "lumper/setup.put").run Try.prog w = .ok (some false) w := nil_ahead_eye _
  have ma : ∀ w, (method 274 69 (.pointer (some ⟨H, 0, none⟩)) "lumper/setup.put").run Try.prog w = .ok (140, .pointer (some ⟨H, 0, none⟩)) w := method_eye _
  have KEY := Lib.hid (eye_put_new0 [.pointer (some ⟨R, ro, none⟩)] h hb hro hR hn rfl (by simp))
  clear h hb hro hk
  go_enter Try.func77, Try.ntmps77
  go_wp2_with fail
  refine KEY.out.mono ?_
  rintro e1 w1 ⟨rfl, he, hbk, ho⟩
  clear KEY
  go_wp2_with fail
  refine bodyPost_end (v := .tuple #[]) (by simp [results, Try.results77, go_sem]) rfl ⟨rfl, he, hbk, ho⟩

set_option maxRecDepth 100000 in
theorem eye_element (H HB SB R ro : Nat) (T : TypeId) (X : List Nat) (xs ys : List Value) (zs : List Int) (st : Option (List Int)) (W : World) (h : EyeEnv W H HB SB X st) (hb : Blk3 W R T xs zs ys) (hro : xs.length = ro) (hk : zs.length = 4) (hR : R ∈ X) (hn : R ≠ H) :
    Calls Try.prog 74 #[.pointer (some ⟨R, ro, none⟩), .pointer (some ⟨SB, 0, none⟩)] W fun e W' => e = .returned (.tuple #[]) ∧ EyeEnv W' H HB SB X (eyeL st zs).2 ∧ Blk3 W' R T xs (eyeL st zs).1 ys ∧ Off2 H R W W' := by
  obtain ⟨n0, n1, n2, n3, rfl⟩ : ∃ n0 n1 n2 n3, zs = [n0, n1, n2, n3] := by match zs, hk with | [n0, n1, n2, n3], _ => exact ⟨n0, n1, n2, n3, rfl⟩
  have g0 := h.sb
  unfold shareFn at g0
  have kd : Below W.heap.size W W.drew := (Below.refl _ _).drew
  have KEY := Lib.hid (eye_share H HB SB R ro T X xs _ [n0, n1] st W.drew (h.below kd) ((Blk3.left (a := [n0, n1]) (b := [n2, n3]) hb).below kd) hro rfl hR hn)
  have KEY2 := Lib.hid (fun (w1 : World) (st1 : Option (List Int)) (l1 : List Int) (hl1 : l1.length = 2) (he : EyeEnv w1 H HB SB X st1) (hbk : Blk3 w1 R T xs l1 ([n2, n3].map (Value.int .i64) ++ ys)) => eye_share H HB SB R (ro + 2) T X _ ys [n2, n3] st1 w1.drew (he.below ((Below.refl _ _).drew)) ((Blk3.swap hbk).below ((Below.refl _ _).drew)) (by rw [List.length_append, List.length_map, hl1, hro]) rfl hR hn)
  have hap := eyeL_append st [n0, n1] [n2, n3]
  have hl1 : (eyeL st [n0, n1]).1.length = 2 := eyeL_len st [n0, n1]
  have HAP := Lib.hid hap
  clear h hb hro hk hap
  generalize eyeL st [n0, n1] = s1 at *
  obtain ⟨l1, st1⟩ := s1
  simp only at hl1 KEY HAP
  go_enter Try.func74, Try.ntmps74
  go_wp2_with fail
  replace g0 : W.drew.cell? _ = _ := g0
  refine wp_region_held_drew (S := (fun w' => w'.cell? ⟨SB, 0, none⟩ = some (.func (.func 70) #[] #[.pointer (some ⟨HB, 0, none⟩)]))) (by kernel_rfl) ?_ (fun hHeld => ?_)
  · exact g0
  refine wpAnyH_take (i := 0) (oi := ⟨some 3, _, _, _, _, none⟩) (v := ?_) rfl (by kernel_rfl) (by kernel_rfl) (by kernel_rfl) (fun _ _ _ h => h) (Or.inl ⟨by rfl, ?_⟩) (by assumption) ?_
  rotate_left
  · intro wz hSw; (try dsimp only at hSw); go_simp; (try with_reducible rfl)
  try simp only [Act.put, List.setIfInBounds_toArray, List.set_cons_zero, List.set_cons_succ]
  refine wpAnyH_take (i := 1) (oi := ⟨some 4, _, _, _, _, none⟩) (v := ?_) rfl (by kernel_rfl) (by kernel_rfl) (by kernel_rfl) (fun _ _ _ h => h) (Or.inl ⟨by rfl, ?_⟩) (by assumption) ?_
  rotate_left
  · intro wz hSw; (try dsimp only at hSw); go_simp; (try with_reducible rfl)
  try simp only [Act.put, List.setIfInBounds_toArray, List.set_cons_zero, List.set_cons_succ]
  refine wpAnyH_take (i := 2) (oi := ⟨some 5, _, _, _, _, none⟩) (v := ?_) rfl (by kernel_rfl) (by kernel_rfl) (by kernel_rfl) (fun _ _ _ h => h) (Or.inl ⟨by rfl, ?_⟩) (by assumption) ?_
  rotate_left
  · intro wz hSw; (try dsimp only at hSw); go_simp; (try with_reducible rfl)
  try simp only [Act.put, List.setIfInBounds_toArray, List.set_cons_zero, List.set_cons_succ]
  refine wpAnyH_take (i := 3) (oi := ⟨some 6, _, _, _, _, none⟩) (v := ?_) rfl (by kernel_rfl) (by kernel_rfl) (by kernel_rfl) (fun _ _ _ h => h) (Or.inl ⟨by rfl, ?_⟩) (by assumption) ?_
  rotate_left
  · intro wz hSw; (try dsimp only at hSw); go_simp; (try with_reducible rfl)
  try simp only [Act.put, List.setIfInBounds_toArray, List.set_cons_zero, List.set_cons_succ]
  refine wpAnyH_ready (rs := [4]) (by kernel_rfl) (by simp) ?_
  refine AllReadyH.cons (o := ⟨some 7, _, _, _, _, none⟩) rfl (fun K hK => ?_) AllReadyH.nil
  go_simp
  refine KEY.out.mono ?_
  rintro e1 w1 ⟨rfl, he, hbk, ho⟩
  replace g0 := he.sb
  unfold shareFn at g0
  refine hK.out _ _ ?_ (fun hHeld => ?_)
  · exact g0
  clear hK K
  try simp only [Act.put, List.setIfInBounds_toArray, List.set_cons_zero, List.set_cons_succ]
  refine wpAnyH_done (by kernel_rfl) ?_ _
  go_wp2_with fail
  replace g0 : w1.drew.cell? _ = _ := g0
  refine wp_region_held_drew (S := (fun w' => w'.cell? ⟨SB, 0, none⟩ = some (.func (.func 70) #[] #[.pointer (some ⟨HB, 0, none⟩)]))) (by kernel_rfl) ?_ (fun hHeld => ?_)
  · exact g0
  refine wpAnyH_take (i := 0) (oi := ⟨some 8, _, _, _, _, none⟩) (v := ?_) rfl (by kernel_rfl) (by kernel_rfl) (by kernel_rfl) (fun _ _ _ h => h) (Or.inl ⟨by rfl, ?_⟩) (by assumption) ?_
  rotate_left
  · intro wz hSw; (try dsimp only at hSw); go_simp; (try with_reducible rfl)
  try simp only [Act.put, List.setIfInBounds_toArray, List.set_cons_zero, List.set_cons_succ]
  refine wpAnyH_take (i := 1) (oi := ⟨some 9, _, _, _, _, none⟩) (v := ?_) rfl (by kernel_rfl) (by kernel_rfl) (by kernel_rfl) (fun _ _ _ h => h) (Or.inl ⟨by rfl, ?_⟩) (by assumption) ?_
  rotate_left
  · intro wz hSw; (try dsimp only at hSw); go_simp; (try with_reducible rfl)
  try simp only [Act.put, List.setIfInBounds_toArray, List.set_cons_zero, List.set_cons_succ]
  refine wpAnyH_take (i := 2) (oi := ⟨some 10, _, _, _, _, none⟩) (v := ?_) rfl (by kernel_rfl) (by kernel_rfl) (by kernel_rfl) (fun _ _ _ h => h) (Or.inl ⟨by rfl, ?_⟩) (by assumption) ?_
  rotate_left
  · intro wz hSw; (try dsimp only at hSw); go_simp; (try with_reducible rfl)
  try simp only [Act.put, List.setIfInBounds_toArray, List.set_cons_zero, List.set_cons_succ]
  refine wpAnyH_take (i := 3) (oi := ⟨some 11, _, _, _, _, none⟩) (v := ?_) rfl (by kernel_rfl) (by kernel_rfl) (by kernel_rfl) (fun _ _ _ h => h) (Or.inl ⟨by rfl, ?_⟩) (by assumption) ?_
  rotate_left
  · intro wz hSw; (try dsimp only at hSw); go_simp; (try with_reducible rfl)
  try simp only [Act.put, List.setIfInBounds_toArray, List.set_cons_zero, List.set_cons_succ]
  refine wpAnyH_ready (rs := [4]) (by kernel_rfl) (by simp) ?_
  refine AllReadyH.cons (o := ⟨some 12, _, _, _, _, none⟩) rfl (fun K hK => ?_) AllReadyH.nil
  go_simp
  refine (KEY2.out w1 st1 l1 hl1 he hbk).mono ?_
  rintro e1 w2 ⟨rfl, he2, hbk2, ho2⟩
  replace g0 := he2.sb
  unfold shareFn at g0
  refine hK.out _ _ ?_ (fun hHeld => ?_)
  · exact g0
  clear hK K
  try simp only [Act.put, List.setIfInBounds_toArray, List.set_cons_zero, List.set_cons_succ]
  refine wpAnyH_done (by kernel_rfl) ?_ _
  clear KEY KEY2
  refine bodyPost_end (v := .tuple #[]) (by simp [results, Try.results74, go_sem]) rfl ⟨rfl, ?_, ?_, (Below.off2 kd).trans (ho.trans ((Below.off2 ((Below.refl _ _).drew)).trans ho2))⟩
  · rw [show eyeL st [n0, n1, n2, n3] = _ from HAP.out]
    exact he2
  · rw [show eyeL st [n0, n1, n2, n3] = _ from HAP.out]
    exact Blk3.join hbk2
end Go.Proofs.Ytnjckaifgmliaaa
