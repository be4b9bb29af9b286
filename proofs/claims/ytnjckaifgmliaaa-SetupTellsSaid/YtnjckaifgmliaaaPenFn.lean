/- THE WALKS of layer 7's closures, with a pen. -/
import Derived.Test.YtnjckaifgmliaaaPenMany
set_option linter.unusedSimpArgs false
set_option linter.unusedVariables false
namespace Go.Proofs.Ytnjckaifgmliaaa
open Go.RowKit Lu

def ptr (r : Nat × Nat) : Value := .pointer (some ⟨r.1, r.2, none⟩)
def shareFn (HB : Nat) : Value := .func (.func 70) #[] #[.pointer (some ⟨HB, 0, none⟩)]
/-- The pen in block H, the hand that holds it in HB, and the closure of shares in SB. -/
structure PenEnv (W : World) (H HB SB : Nat) (out : List Int) : Prop where
  pen : PenIs W H out
  hb : W.cell? ⟨HB, 0, none⟩ = some (.iface 64 (.pointer (some ⟨H, 0, none⟩)))
  sb : W.cell? ⟨SB, 0, none⟩ = some (shareFn HB)
  nb : HB ≠ H
  ns : SB ≠ H
theorem PenEnv.below {W W' : World} {H HB SB : Nat} {out : List Int} (h : PenEnv W H HB SB out) (k : Below W.heap.size W W') : PenEnv W' H HB SB out :=
  ⟨h.pen.below k, keepD k h.hb, keepD k h.sb, h.nb, h.ns⟩
theorem PenEnv.off {W W' : World} {H HB SB : Nat} {out out' : List Int} (h : PenEnv W H HB SB out) (k : Off H W W') (hp : PenIs W' H out') : PenEnv W' H HB SB out' :=
  ⟨hp, k.cell h.hb h.nb, k.cell h.sb h.ns, h.nb, h.ns⟩
/-- Numbers stand from a place on. -/
def At (W : World) (R ro : Nat) (zs : List Int) : Prop := ∀ (i : Nat) (z : Int), zs[i]? = some z → W.cell? ⟨R, ro + i, none⟩ = some (.int .i64 z)
theorem At.below {W W' : World} {R ro : Nat} {zs : List Int} (h : At W R ro zs) (k : Below W.heap.size W W') : At W' R ro zs := fun i z hz => keepD k (h i z hz)
theorem At.off {H : Nat} {W W' : World} {R ro : Nat} {zs : List Int} (h : At W R ro zs) (k : Off H W W') (hn : R ≠ H) : At W' R ro zs := fun i z hz => k.cell (h i z hz) hn
theorem At.take {W : World} {R ro : Nat} {a b : List Int} (h : At W R ro (a ++ b)) : At W R ro a := fun i z hz => h i z (by rw [List.getElem?_append_left (List.getElem?_eq_some_iff.1 hz).1]; exact hz)
theorem At.drop {W : World} {R ro : Nat} {a b : List Int} (h : At W R ro (a ++ b)) : At W R (ro + a.length) b := fun i z hz => by
  have := h (a.length + i) z (by rw [List.getElem?_append_right (by omega), show a.length + i - a.length = i by omega]; exact hz)
  rw [← Nat.add_assoc] at this
  exact this
theorem cells_ptrs (W : World) (T : TypeId) (vs : List Value) : Cells (W.alloc (.cells vs.toArray T)) (some ⟨W.heap.size, 0, none⟩) vs := .inr ⟨W.heap.size, 0, rfl, fun i u hu => by
  unfold World.cell?
  simp only [heap_alloc_new, Nat.zero_add]
  simpa using hu⟩
theorem nil_ahead_pen (a : Addr) (w : World) : (nilAhead 274 64 (.pointer (some a)) "lumper/setup.put").run Try.prog w = .ok (some false) w := by kernel_rfl
theorem method_pen (a : Addr) (w : World) : (method 274 64 (.pointer (some a)) "lumper/setup.put").run Try.prog w = .ok (138, .pointer (some a)) w := by kernel_rfl
theorem nil_ahead_pen_many (a : Addr) (w : World) : (nilAhead 274 64 (.pointer (some a)) "lumper/setup.many").run Try.prog w = .ok (some false) w := by kernel_rfl
theorem method_pen_many (a : Addr) (w : World) : (method 274 64 (.pointer (some a)) "lumper/setup.many").run Try.prog w = .ok (137, .pointer (some a)) w := by kernel_rfl
/-- put, its list made just now. -/
theorem pen_put_any {H HB SB R ro : Nat} {zs out : List Int} {W W2 : World} (ads : List (Nat × Nat)) (h : PenEnv W H HB SB out) (ha : At W R ro zs) (hr : R ≠ H) (hads : ads = (List.range zs.length).map fun i => (R, ro + i)) (hpk : ∀ z ∈ zs, Pk z) (hb : out.length ≤ 900000) (hz : zs.length ≤ 1000)
    (k0 : Below W.heap.size W W2) (hc : Cells W2 (some ⟨W.heap.size, 0, none⟩) (ads.map ptr)) :
    Calls Try.prog 138 #[.pointer (some ⟨H, 0, none⟩), .slice (some ⟨W.heap.size, 0, none⟩) zs.length zs.length] W2 fun e W' => e = .returned (.tuple #[]) ∧ PenEnv W' H HB SB (out ++ manyP zs) ∧ Off H W W' := by
  have hH := h.pen.lt
  have h1 := h.below k0
  have ha1 := ha.below k0
  have hlen : ads.length = zs.length := by rw [hads]; simp
  refine (pen_put H W.heap.size 0 zs.length ads zs out _ h1.pen hc (by omega) hlen ?_ hpk (by omega)).mono ?_
  · intro j r z hr' hz'
    rw [hads, List.getElem?_map] at hr'
    have hj := (List.getElem?_eq_some_iff.1 hz').1
    rw [List.getElem?_range hj] at hr'
    simp only [Option.map_some, Option.some.injEq] at hr'
    subst hr'
    exact ⟨ha1 j z hz', hr⟩
  · rintro e W' ⟨rfl, hp, ho⟩
    exact ⟨rfl, h1.off ho hp, (Below.off k0).trans ho⟩
theorem cells_drew {W : World} {a : Option Addr} {xs : List Value} (h : Cells W a xs) : Cells W.drew a xs := h
theorem pen_put_new {H HB SB R ro : Nat} {zs out : List Int} {W : World} (ads : List (Nat × Nat)) (h : PenEnv W H HB SB out) (ha : At W R ro zs) (hr : R ≠ H) (hads : ads = (List.range zs.length).map fun i => (R, ro + i)) (hpk : ∀ z ∈ zs, Pk z) (hb : out.length ≤ 900000) (hz : zs.length ≤ 1000) :
    Calls Try.prog 138 #[.pointer (some ⟨H, 0, none⟩), .slice (some ⟨W.heap.size, 0, none⟩) zs.length zs.length] ((W.alloc (.cells (ads.map ptr).toArray 97)).drew) fun e W' => e = .returned (.tuple #[]) ∧ PenEnv W' H HB SB (out ++ manyP zs) ∧ Off H W W' :=
  pen_put_any ads h ha hr hads hpk hb hz (((Below.refl _ _).alloc (Nat.le_refl _) _).drew) (cells_drew (cells_ptrs W _ _))
theorem pen_put_new0 {H HB SB R ro : Nat} {zs out : List Int} {W : World} (ads : List (Nat × Nat)) (h : PenEnv W H HB SB out) (ha : At W R ro zs) (hr : R ≠ H) (hads : ads = (List.range zs.length).map fun i => (R, ro + i)) (hpk : ∀ z ∈ zs, Pk z) (hb : out.length ≤ 900000) (hz : zs.length ≤ 1000) :
    Calls Try.prog 138 #[.pointer (some ⟨H, 0, none⟩), .slice (some ⟨W.heap.size, 0, none⟩) zs.length zs.length] (W.alloc (.cells (ads.map ptr).toArray 97)) fun e W' => e = .returned (.tuple #[]) ∧ PenEnv W' H HB SB (out ++ manyP zs) ∧ Off H W W' :=
  pen_put_any ads h ha hr hads hpk hb hz ((Below.refl _ _).alloc (Nat.le_refl _) _) (cells_ptrs W _ _)

set_option maxRecDepth 100000 in
theorem pen_share (H HB SB R ro : Nat) (zs out : List Int) (W : World) (h : PenEnv W H HB SB out) (ha : At W R ro zs) (hk : zs.length = 2) (hr : R ≠ H) (hpk : ∀ z ∈ zs, Pk z) (hb : out.length ≤ 900000) :
    Calls Try.prog 70 #[.pointer (some ⟨R, ro, none⟩), .pointer (some ⟨HB, 0, none⟩)] W fun e W' => e = .returned (.tuple #[]) ∧ PenEnv W' H HB SB (out ++ manyP zs) ∧ Off H W W' := by
  obtain ⟨n0, n1, rfl⟩ : ∃ n0 n1, zs = [n0, n1] := by match zs, hk with | [n0, n1], _ => exact ⟨n0, n1, rfl⟩
  have g0 := h.hb
  have na : ∀ w, (nilAhead 274 64 (.pointer (some ⟨H, 0, none⟩)) "lumper/setup.put").run Try.prog w = .ok (some false) w := nil_ahead_pen _
  have ma : ∀ w, (method 274 64 (.pointer (some ⟨H, 0, none⟩)) "lumper/setup.put").run Try.prog w = .ok (138, .pointer (some ⟨H, 0, none⟩)) w := method_pen _
  have KEY := Lib.hid (pen_put_new [(R, ro), (R, ro + 1)] h ha hr rfl hpk hb (by simp))
  clear h ha hpk hk
  go_enter Try.func70, Try.ntmps70
  replace g0 : W.drew.cell? _ = _ := g0
  refine wp_region_held_drew (S := (fun w' => w'.cell? ⟨HB, 0, none⟩ = some (.iface 64 (.pointer (some ⟨H, 0, none⟩))))) (by kernel_rfl) ?_ (fun hHeld => ?_)
  · exact g0
  refine wpAnyH_take (i := 0) (oi := ⟨some 3, _, _, _, _, none⟩) (v := ?_) rfl (by kernel_rfl) (by kernel_rfl) (by kernel_rfl) (fun _ _ _ h => h) (Or.inl ⟨by rfl, ?_⟩) (by assumption) ?_
  rotate_left
  · intro wz hSw; (try dsimp only at hSw); go_simp; (try with_reducible rfl)
  try simp only [Act.put, List.setIfInBounds_toArray, List.set_cons_zero, List.set_cons_succ]
  refine wpAnyH_take (i := 1) (oi := ⟨some 4, _, _, _, _, none⟩) (v := ?_) rfl (by kernel_rfl) (by kernel_rfl) (by kernel_rfl) (fun _ _ _ h => h) (Or.inl ⟨by rfl, ?_⟩) (by assumption) ?_
  rotate_left
  · intro wz hSw; (try dsimp only at hSw); go_simp; (try with_reducible rfl)
  try simp only [Act.put, List.setIfInBounds_toArray, List.set_cons_zero, List.set_cons_succ]
  refine wpAnyH_take (i := 2) (oi := ⟨some 5, _, _, _, _, none⟩) (v := ?_) rfl (by kernel_rfl) (by kernel_rfl) (by kernel_rfl) (fun _ _ _ h => h) (Or.inl ⟨by rfl, ?_⟩) (by assumption) ?_
  rotate_left
  · intro wz hSw; (try dsimp only at hSw); go_simp; (try with_reducible rfl)
  try simp only [Act.put, List.setIfInBounds_toArray, List.set_cons_zero, List.set_cons_succ]
  refine wpAnyH_take (i := 3) (oi := ⟨some 6, _, _, _, _, none⟩) (v := ?_) rfl (by kernel_rfl) (by kernel_rfl) (by kernel_rfl) (fun _ _ _ h => h) (Or.inl ⟨by rfl, ?_⟩) (by assumption) ?_
  rotate_left
  · intro wz hSw; (try dsimp only at hSw); go_simp; (try with_reducible rfl)
  try simp only [Act.put, List.setIfInBounds_toArray, List.set_cons_zero, List.set_cons_succ]
  refine wpAnyH_take (i := 4) (oi := ⟨some 7, _, _, _, _, none⟩) (v := ?_) rfl (by kernel_rfl) (by kernel_rfl) (by kernel_rfl) (fun _ _ _ h => h) (Or.inl ⟨by rfl, ?_⟩) (by assumption) ?_
  rotate_left
  · intro wz hSw; (try dsimp only at hSw); go_simp; (try with_reducible rfl)
  try simp only [Act.put, List.setIfInBounds_toArray, List.set_cons_zero, List.set_cons_succ]
  refine wpAnyH_take (i := 5) (oi := ⟨some 8, _, _, _, _, none⟩) (v := ?_) rfl (by kernel_rfl) (by kernel_rfl) (by kernel_rfl) (fun _ _ _ h => h) (Or.inl ⟨by rfl, ?_⟩) (by assumption) ?_
  rotate_left
  · intro wz hSw; (try dsimp only at hSw); go_simp; (try with_reducible rfl)
  try simp only [Act.put, List.setIfInBounds_toArray, List.set_cons_zero, List.set_cons_succ]
  refine wpAnyH_take (i := 6) (oi := ⟨some 9, _, _, _, _, none⟩) (v := ?_) rfl (by kernel_rfl) (by kernel_rfl) (by kernel_rfl) (fun _ _ _ h => h) (Or.inl ⟨by rfl, ?_⟩) (by assumption) ?_
  rotate_left
  · intro wz hSw; (try dsimp only at hSw); go_simp; (try with_reducible rfl)
  try simp only [Act.put, List.setIfInBounds_toArray, List.set_cons_zero, List.set_cons_succ]
  refine wpAnyH_take (i := 8) (oi := ⟨some 11, _, _, _, _, none⟩) (v := ?_) rfl (by kernel_rfl) (by kernel_rfl) (by kernel_rfl) (fun _ _ _ h => h) (Or.inl ⟨by rfl, ?_⟩) (by assumption) ?_
  rotate_left
  · intro wz hSw; (try dsimp only at hSw); go_simp; (try with_reducible rfl)
  try simp only [Act.put, List.setIfInBounds_toArray, List.set_cons_zero, List.set_cons_succ]
  refine wpAnyH_take (i := 9) (oi := ⟨some 12, _, _, _, _, none⟩) (v := ?_) rfl (by kernel_rfl) (by kernel_rfl) (by kernel_rfl) (fun _ _ _ h => h) (Or.inl ⟨by rfl, ?_⟩) (by assumption) ?_
  rotate_left
  · intro wz hSw; (try dsimp only at hSw); go_simp; (try with_reducible rfl)
  try simp only [Act.put, List.setIfInBounds_toArray, List.set_cons_zero, List.set_cons_succ]
  refine wpAnyH_take (i := 10) (oi := ⟨some 13, _, _, _, _, none⟩) (v := ?_) rfl (by kernel_rfl) (by kernel_rfl) (by kernel_rfl) (fun _ _ _ h => h) (Or.inl ⟨by rfl, ?_⟩) (by assumption) ?_
  rotate_left
  · intro wz hSw; (try dsimp only at hSw); go_simp; (try with_reducible rfl)
  try simp only [Act.put, List.setIfInBounds_toArray, List.set_cons_zero, List.set_cons_succ]
  refine wpAnyH_ready (rs := [7]) (by kernel_rfl) (by simp) ?_
  refine AllReadyH.cons (o := ⟨some 10, _, _, _, _, none⟩) rfl (fun K hK => ?_) AllReadyH.nil
  go_simp
  replace g0 := keepA (.cells #[.pointer (some ⟨R, ro, none⟩), .pointer (some ⟨R, ro + 1, none⟩)] 97) g0
  refine hK.out _ _ ?_ (fun hHeld => ?_)
  · exact g0
  clear hK K
  try simp only [Act.put, List.setIfInBounds_toArray, List.set_cons_zero, List.set_cons_succ]
  refine wpAnyH_ready (rs := [11]) (by kernel_rfl) (by simp) ?_
  refine AllReadyH.cons (o := ⟨some 14, _, _, _, _, none⟩) rfl (fun K hK => ?_) AllReadyH.nil
  go_simp
  refine KEY.out.mono ?_
  rintro e1 w1 ⟨rfl, he, ho⟩
  replace g0 := he.hb
  refine hK.out _ _ ?_ (fun hHeld => ?_)
  · exact g0
  clear hK K
  try simp only [Act.put, List.setIfInBounds_toArray, List.set_cons_zero, List.set_cons_succ]
  refine wpAnyH_done (by kernel_rfl) ?_ _
  clear KEY
  refine bodyPost_end (v := .tuple #[]) (by simp [results, Try.results70, go_sem]) rfl ⟨rfl, he, ho⟩

set_option maxRecDepth 100000 in
theorem pen_way (H HB SB R ro : Nat) (zs out : List Int) (W : World) (h : PenEnv W H HB SB out) (ha : At W R ro zs) (hk : zs.length = 3) (hr : R ≠ H) (hpk : ∀ z ∈ zs, Pk z) (hb : out.length ≤ 900000) :
    Calls Try.prog 72 #[.pointer (some ⟨R, ro, none⟩), .pointer (some ⟨HB, 0, none⟩)] W fun e W' => e = .returned (.tuple #[]) ∧ PenEnv W' H HB SB (out ++ manyP zs) ∧ Off H W W' := by
  obtain ⟨n0, n1, n2, rfl⟩ : ∃ n0 n1 n2, zs = [n0, n1, n2] := by match zs, hk with | [n0, n1, n2], _ => exact ⟨n0, n1, n2, rfl⟩
  have g0 := h.hb
  have na : ∀ w, (nilAhead 274 64 (.pointer (some ⟨H, 0, none⟩)) "lumper/setup.put").run Try.prog w = .ok (some false) w := nil_ahead_pen _
  have ma : ∀ w, (method 274 64 (.pointer (some ⟨H, 0, none⟩)) "lumper/setup.put").run Try.prog w = .ok (138, .pointer (some ⟨H, 0, none⟩)) w := method_pen _
  have KEY := Lib.hid (pen_put_new [(R, ro), (R, ro + 1), (R, ro + 2)] h ha hr rfl hpk hb (by simp))
  clear h ha hpk hk
  go_enter Try.func72, Try.ntmps72
  replace g0 : W.drew.cell? _ = _ := g0
  refine wp_region_held_drew (S := (fun w' => w'.cell? ⟨HB, 0, none⟩ = some (.iface 64 (.pointer (some ⟨H, 0, none⟩))))) (by kernel_rfl) ?_ (fun hHeld => ?_)
  · exact g0
  refine wpAnyH_take (i := 0) (oi := ⟨some 3, _, _, _, _, none⟩) (v := ?_) rfl (by kernel_rfl) (by kernel_rfl) (by kernel_rfl) (fun _ _ _ h => h) (Or.inl ⟨by rfl, ?_⟩) (by assumption) ?_
  rotate_left
  · intro wz hSw; (try dsimp only at hSw); go_simp; (try with_reducible rfl)
  try simp only [Act.put, List.setIfInBounds_toArray, List.set_cons_zero, List.set_cons_succ]
  refine wpAnyH_take (i := 1) (oi := ⟨some 4, _, _, _, _, none⟩) (v := ?_) rfl (by kernel_rfl) (by kernel_rfl) (by kernel_rfl) (fun _ _ _ h => h) (Or.inl ⟨by rfl, ?_⟩) (by assumption) ?_
  rotate_left
  · intro wz hSw; (try dsimp only at hSw); go_simp; (try with_reducible rfl)
  try simp only [Act.put, List.setIfInBounds_toArray, List.set_cons_zero, List.set_cons_succ]
  refine wpAnyH_take (i := 2) (oi := ⟨some 5, _, _, _, _, none⟩) (v := ?_) rfl (by kernel_rfl) (by kernel_rfl) (by kernel_rfl) (fun _ _ _ h => h) (Or.inl ⟨by rfl, ?_⟩) (by assumption) ?_
  rotate_left
  · intro wz hSw; (try dsimp only at hSw); go_simp; (try with_reducible rfl)
  try simp only [Act.put, List.setIfInBounds_toArray, List.set_cons_zero, List.set_cons_succ]
  refine wpAnyH_take (i := 3) (oi := ⟨some 6, _, _, _, _, none⟩) (v := ?_) rfl (by kernel_rfl) (by kernel_rfl) (by kernel_rfl) (fun _ _ _ h => h) (Or.inl ⟨by rfl, ?_⟩) (by assumption) ?_
  rotate_left
  · intro wz hSw; (try dsimp only at hSw); go_simp; (try with_reducible rfl)
  try simp only [Act.put, List.setIfInBounds_toArray, List.set_cons_zero, List.set_cons_succ]
  refine wpAnyH_take (i := 4) (oi := ⟨some 7, _, _, _, _, none⟩) (v := ?_) rfl (by kernel_rfl) (by kernel_rfl) (by kernel_rfl) (fun _ _ _ h => h) (Or.inl ⟨by rfl, ?_⟩) (by assumption) ?_
  rotate_left
  · intro wz hSw; (try dsimp only at hSw); go_simp; (try with_reducible rfl)
  try simp only [Act.put, List.setIfInBounds_toArray, List.set_cons_zero, List.set_cons_succ]
  refine wpAnyH_take (i := 5) (oi := ⟨some 8, _, _, _, _, none⟩) (v := ?_) rfl (by kernel_rfl) (by kernel_rfl) (by kernel_rfl) (fun _ _ _ h => h) (Or.inl ⟨by rfl, ?_⟩) (by assumption) ?_
  rotate_left
  · intro wz hSw; (try dsimp only at hSw); go_simp; (try with_reducible rfl)
  try simp only [Act.put, List.setIfInBounds_toArray, List.set_cons_zero, List.set_cons_succ]
  refine wpAnyH_take (i := 6) (oi := ⟨some 9, _, _, _, _, none⟩) (v := ?_) rfl (by kernel_rfl) (by kernel_rfl) (by kernel_rfl) (fun _ _ _ h => h) (Or.inl ⟨by rfl, ?_⟩) (by assumption) ?_
  rotate_left
  · intro wz hSw; (try dsimp only at hSw); go_simp; (try with_reducible rfl)
  try simp only [Act.put, List.setIfInBounds_toArray, List.set_cons_zero, List.set_cons_succ]
  refine wpAnyH_take (i := 7) (oi := ⟨some 10, _, _, _, _, none⟩) (v := ?_) rfl (by kernel_rfl) (by kernel_rfl) (by kernel_rfl) (fun _ _ _ h => h) (Or.inl ⟨by rfl, ?_⟩) (by assumption) ?_
  rotate_left
  · intro wz hSw; (try dsimp only at hSw); go_simp; (try with_reducible rfl)
  try simp only [Act.put, List.setIfInBounds_toArray, List.set_cons_zero, List.set_cons_succ]
  refine wpAnyH_take (i := 8) (oi := ⟨some 11, _, _, _, _, none⟩) (v := ?_) rfl (by kernel_rfl) (by kernel_rfl) (by kernel_rfl) (fun _ _ _ h => h) (Or.inl ⟨by rfl, ?_⟩) (by assumption) ?_
  rotate_left
  · intro wz hSw; (try dsimp only at hSw); go_simp; (try with_reducible rfl)
  try simp only [Act.put, List.setIfInBounds_toArray, List.set_cons_zero, List.set_cons_succ]
  refine wpAnyH_take (i := 9) (oi := ⟨some 12, _, _, _, _, none⟩) (v := ?_) rfl (by kernel_rfl) (by kernel_rfl) (by kernel_rfl) (fun _ _ _ h => h) (Or.inl ⟨by rfl, ?_⟩) (by assumption) ?_
  rotate_left
  · intro wz hSw; (try dsimp only at hSw); go_simp; (try with_reducible rfl)
  try simp only [Act.put, List.setIfInBounds_toArray, List.set_cons_zero, List.set_cons_succ]
  refine wpAnyH_take (i := 11) (oi := ⟨some 14, _, _, _, _, none⟩) (v := ?_) rfl (by kernel_rfl) (by kernel_rfl) (by kernel_rfl) (fun _ _ _ h => h) (Or.inl ⟨by rfl, ?_⟩) (by assumption) ?_
  rotate_left
  · intro wz hSw; (try dsimp only at hSw); go_simp; (try with_reducible rfl)
  try simp only [Act.put, List.setIfInBounds_toArray, List.set_cons_zero, List.set_cons_succ]
  refine wpAnyH_take (i := 12) (oi := ⟨some 15, _, _, _, _, none⟩) (v := ?_) rfl (by kernel_rfl) (by kernel_rfl) (by kernel_rfl) (fun _ _ _ h => h) (Or.inl ⟨by rfl, ?_⟩) (by assumption) ?_
  rotate_left
  · intro wz hSw; (try dsimp only at hSw); go_simp; (try with_reducible rfl)
  try simp only [Act.put, List.setIfInBounds_toArray, List.set_cons_zero, List.set_cons_succ]
  refine wpAnyH_take (i := 13) (oi := ⟨some 16, _, _, _, _, none⟩) (v := ?_) rfl (by kernel_rfl) (by kernel_rfl) (by kernel_rfl) (fun _ _ _ h => h) (Or.inl ⟨by rfl, ?_⟩) (by assumption) ?_
  rotate_left
  · intro wz hSw; (try dsimp only at hSw); go_simp; (try with_reducible rfl)
  try simp only [Act.put, List.setIfInBounds_toArray, List.set_cons_zero, List.set_cons_succ]
  refine wpAnyH_ready (rs := [10]) (by kernel_rfl) (by simp) ?_
  refine AllReadyH.cons (o := ⟨some 13, _, _, _, _, none⟩) rfl (fun K hK => ?_) AllReadyH.nil
  go_simp
  replace g0 := keepA (.cells #[.pointer (some ⟨R, ro, none⟩), .pointer (some ⟨R, ro + 1, none⟩), .pointer (some ⟨R, ro + 2, none⟩)] 97) g0
  refine hK.out _ _ ?_ (fun hHeld => ?_)
  · exact g0
  clear hK K
  try simp only [Act.put, List.setIfInBounds_toArray, List.set_cons_zero, List.set_cons_succ]
  refine wpAnyH_ready (rs := [14]) (by kernel_rfl) (by simp) ?_
  refine AllReadyH.cons (o := ⟨some 17, _, _, _, _, none⟩) rfl (fun K hK => ?_) AllReadyH.nil
  go_simp
  refine KEY.out.mono ?_
  rintro e1 w1 ⟨rfl, he, ho⟩
  replace g0 := he.hb
  refine hK.out _ _ ?_ (fun hHeld => ?_)
  · exact g0
  clear hK K
  try simp only [Act.put, List.setIfInBounds_toArray, List.set_cons_zero, List.set_cons_succ]
  refine wpAnyH_done (by kernel_rfl) ?_ _
  clear KEY
  refine bodyPost_end (v := .tuple #[]) (by simp [results, Try.results72, go_sem]) rfl ⟨rfl, he, ho⟩

set_option maxRecDepth 100000 in
theorem pen_tier (H HB SB R ro : Nat) (zs out : List Int) (W : World) (h : PenEnv W H HB SB out) (ha : At W R ro zs) (hk : zs.length = 2) (hr : R ≠ H) (hpk : ∀ z ∈ zs, Pk z) (hb : out.length ≤ 900000) :
    Calls Try.prog 79 #[.pointer (some ⟨R, ro, none⟩), .pointer (some ⟨HB, 0, none⟩)] W fun e W' => e = .returned (.tuple #[]) ∧ PenEnv W' H HB SB (out ++ manyP zs) ∧ Off H W W' := by
  obtain ⟨n0, n1, rfl⟩ : ∃ n0 n1, zs = [n0, n1] := by match zs, hk with | [n0, n1], _ => exact ⟨n0, n1, rfl⟩
  have g0 := h.hb
  have na : ∀ w, (nilAhead 274 64 (.pointer (some ⟨H, 0, none⟩)) "lumper/setup.put").run Try.prog w = .ok (some false) w := nil_ahead_pen _
  have ma : ∀ w, (method 274 64 (.pointer (some ⟨H, 0, none⟩)) "lumper/setup.put").run Try.prog w = .ok (138, .pointer (some ⟨H, 0, none⟩)) w := method_pen _
  have KEY := Lib.hid (pen_put_new [(R, ro), (R, ro + 1)] h ha hr rfl hpk hb (by simp))
  clear h ha hpk hk
  go_enter Try.func79, Try.ntmps79
  replace g0 : W.drew.cell? _ = _ := g0
  refine wp_region_held_drew (S := (fun w' => w'.cell? ⟨HB, 0, none⟩ = some (.iface 64 (.pointer (some ⟨H, 0, none⟩))))) (by kernel_rfl) ?_ (fun hHeld => ?_)
  · exact g0
  refine wpAnyH_take (i := 0) (oi := ⟨some 3, _, _, _, _, none⟩) (v := ?_) rfl (by kernel_rfl) (by kernel_rfl) (by kernel_rfl) (fun _ _ _ h => h) (Or.inl ⟨by rfl, ?_⟩) (by assumption) ?_
  rotate_left
  · intro wz hSw; (try dsimp only at hSw); go_simp; (try with_reducible rfl)
  try simp only [Act.put, List.setIfInBounds_toArray, List.set_cons_zero, List.set_cons_succ]
  refine wpAnyH_take (i := 1) (oi := ⟨some 4, _, _, _, _, none⟩) (v := ?_) rfl (by kernel_rfl) (by kernel_rfl) (by kernel_rfl) (fun _ _ _ h => h) (Or.inl ⟨by rfl, ?_⟩) (by assumption) ?_
  rotate_left
  · intro wz hSw; (try dsimp only at hSw); go_simp; (try with_reducible rfl)
  try simp only [Act.put, List.setIfInBounds_toArray, List.set_cons_zero, List.set_cons_succ]
  refine wpAnyH_take (i := 2) (oi := ⟨some 5, _, _, _, _, none⟩) (v := ?_) rfl (by kernel_rfl) (by kernel_rfl) (by kernel_rfl) (fun _ _ _ h => h) (Or.inl ⟨by rfl, ?_⟩) (by assumption) ?_
  rotate_left
  · intro wz hSw; (try dsimp only at hSw); go_simp; (try with_reducible rfl)
  try simp only [Act.put, List.setIfInBounds_toArray, List.set_cons_zero, List.set_cons_succ]
  refine wpAnyH_take (i := 3) (oi := ⟨some 6, _, _, _, _, none⟩) (v := ?_) rfl (by kernel_rfl) (by kernel_rfl) (by kernel_rfl) (fun _ _ _ h => h) (Or.inl ⟨by rfl, ?_⟩) (by assumption) ?_
  rotate_left
  · intro wz hSw; (try dsimp only at hSw); go_simp; (try with_reducible rfl)
  try simp only [Act.put, List.setIfInBounds_toArray, List.set_cons_zero, List.set_cons_succ]
  refine wpAnyH_take (i := 4) (oi := ⟨some 7, _, _, _, _, none⟩) (v := ?_) rfl (by kernel_rfl) (by kernel_rfl) (by kernel_rfl) (fun _ _ _ h => h) (Or.inl ⟨by rfl, ?_⟩) (by assumption) ?_
  rotate_left
  · intro wz hSw; (try dsimp only at hSw); go_simp; (try with_reducible rfl)
  try simp only [Act.put, List.setIfInBounds_toArray, List.set_cons_zero, List.set_cons_succ]
  refine wpAnyH_take (i := 5) (oi := ⟨some 8, _, _, _, _, none⟩) (v := ?_) rfl (by kernel_rfl) (by kernel_rfl) (by kernel_rfl) (fun _ _ _ h => h) (Or.inl ⟨by rfl, ?_⟩) (by assumption) ?_
  rotate_left
  · intro wz hSw; (try dsimp only at hSw); go_simp; (try with_reducible rfl)
  try simp only [Act.put, List.setIfInBounds_toArray, List.set_cons_zero, List.set_cons_succ]
  refine wpAnyH_take (i := 6) (oi := ⟨some 9, _, _, _, _, none⟩) (v := ?_) rfl (by kernel_rfl) (by kernel_rfl) (by kernel_rfl) (fun _ _ _ h => h) (Or.inl ⟨by rfl, ?_⟩) (by assumption) ?_
  rotate_left
  · intro wz hSw; (try dsimp only at hSw); go_simp; (try with_reducible rfl)
  try simp only [Act.put, List.setIfInBounds_toArray, List.set_cons_zero, List.set_cons_succ]
  refine wpAnyH_take (i := 8) (oi := ⟨some 11, _, _, _, _, none⟩) (v := ?_) rfl (by kernel_rfl) (by kernel_rfl) (by kernel_rfl) (fun _ _ _ h => h) (Or.inl ⟨by rfl, ?_⟩) (by assumption) ?_
  rotate_left
  · intro wz hSw; (try dsimp only at hSw); go_simp; (try with_reducible rfl)
  try simp only [Act.put, List.setIfInBounds_toArray, List.set_cons_zero, List.set_cons_succ]
  refine wpAnyH_take (i := 9) (oi := ⟨some 12, _, _, _, _, none⟩) (v := ?_) rfl (by kernel_rfl) (by kernel_rfl) (by kernel_rfl) (fun _ _ _ h => h) (Or.inl ⟨by rfl, ?_⟩) (by assumption) ?_
  rotate_left
  · intro wz hSw; (try dsimp only at hSw); go_simp; (try with_reducible rfl)
  try simp only [Act.put, List.setIfInBounds_toArray, List.set_cons_zero, List.set_cons_succ]
  refine wpAnyH_take (i := 10) (oi := ⟨some 13, _, _, _, _, none⟩) (v := ?_) rfl (by kernel_rfl) (by kernel_rfl) (by kernel_rfl) (fun _ _ _ h => h) (Or.inl ⟨by rfl, ?_⟩) (by assumption) ?_
  rotate_left
  · intro wz hSw; (try dsimp only at hSw); go_simp; (try with_reducible rfl)
  try simp only [Act.put, List.setIfInBounds_toArray, List.set_cons_zero, List.set_cons_succ]
  refine wpAnyH_ready (rs := [7]) (by kernel_rfl) (by simp) ?_
  refine AllReadyH.cons (o := ⟨some 10, _, _, _, _, none⟩) rfl (fun K hK => ?_) AllReadyH.nil
  go_simp
  replace g0 := keepA (.cells #[.pointer (some ⟨R, ro, none⟩), .pointer (some ⟨R, ro + 1, none⟩)] 97) g0
  refine hK.out _ _ ?_ (fun hHeld => ?_)
  · exact g0
  clear hK K
  try simp only [Act.put, List.setIfInBounds_toArray, List.set_cons_zero, List.set_cons_succ]
  refine wpAnyH_ready (rs := [11]) (by kernel_rfl) (by simp) ?_
  refine AllReadyH.cons (o := ⟨some 14, _, _, _, _, none⟩) rfl (fun K hK => ?_) AllReadyH.nil
  go_simp
  refine KEY.out.mono ?_
  rintro e1 w1 ⟨rfl, he, ho⟩
  replace g0 := he.hb
  refine hK.out _ _ ?_ (fun hHeld => ?_)
  · exact g0
  clear hK K
  try simp only [Act.put, List.setIfInBounds_toArray, List.set_cons_zero, List.set_cons_succ]
  refine wpAnyH_done (by kernel_rfl) ?_ _
  clear KEY
  refine bodyPost_end (v := .tuple #[]) (by simp [results, Try.results79, go_sem]) rfl ⟨rfl, he, ho⟩

set_option maxRecDepth 100000 in
theorem pen_rate (H HB SB R ro : Nat) (zs out : List Int) (W : World) (h : PenEnv W H HB SB out) (ha : At W R ro zs) (hk : zs.length = 1) (hr : R ≠ H) (hpk : ∀ z ∈ zs, Pk z) (hb : out.length ≤ 900000) :
    Calls Try.prog 77 #[.pointer (some ⟨R, ro, none⟩), .pointer (some ⟨HB, 0, none⟩)] W fun e W' => e = .returned (.tuple #[]) ∧ PenEnv W' H HB SB (out ++ manyP zs) ∧ Off H W W' := by
  obtain ⟨n0, rfl⟩ : ∃ n0, zs = [n0] := by match zs, hk with | [n0], _ => exact ⟨n0, rfl⟩
  have g0 := h.hb
  have na : ∀ w, (nilAhead 274 64 (.pointer (some ⟨H, 0, none⟩)) "lumper/setup.put").run Try.prog w = .ok (some false) w := nil_ahead_pen _
  have ma : ∀ w, (method 274 64 (.pointer (some ⟨H, 0, none⟩)) "lumper/setup.put").run Try.prog w = .ok (138, .pointer (some ⟨H, 0, none⟩)) w := method_pen _
  have KEY := Lib.hid (pen_put_new0 [(R, ro)] h ha hr rfl hpk hb (by simp))
  clear h ha hpk hk
  go_enter Try.func77, Try.ntmps77
  go_wp2_with fail
  refine KEY.out.mono ?_
  rintro e1 w1 ⟨rfl, he, ho⟩
  clear KEY
  go_wp2_with fail
  refine bodyPost_end (v := .tuple #[]) (by simp [results, Try.results77, go_sem]) rfl ⟨rfl, he, ho⟩

set_option maxRecDepth 100000 in
theorem pen_element (H HB SB R ro : Nat) (zs out : List Int) (W : World) (h : PenEnv W H HB SB out) (ha : At W R ro zs) (hk : zs.length = 4) (hr : R ≠ H) (hpk : ∀ z ∈ zs, Pk z) (hb : out.length ≤ 900000 - 100) :
    Calls Try.prog 74 #[.pointer (some ⟨R, ro, none⟩), .pointer (some ⟨SB, 0, none⟩)] W fun e W' => e = .returned (.tuple #[]) ∧ PenEnv W' H HB SB (out ++ manyP zs) ∧ Off H W W' := by
  obtain ⟨n0, n1, n2, n3, rfl⟩ : ∃ n0 n1 n2 n3, zs = [n0, n1, n2, n3] := by match zs, hk with | [n0, n1, n2, n3], _ => exact ⟨n0, n1, n2, n3, rfl⟩
  have g0 := h.sb
  unfold shareFn at g0
  have p1 : ∀ z ∈ [n0, n1], Pk z := fun z hz => hpk z (by simp only [List.mem_cons, List.not_mem_nil, or_false] at hz ⊢; omega)
  have p2 : ∀ z ∈ [n2, n3], Pk z := fun z hz => hpk z (by simp only [List.mem_cons, List.not_mem_nil, or_false] at hz ⊢; omega)
  have a1 : At W R ro [n0, n1] := At.take (b := [n2, n3]) ha
  have a2 : At W R (ro + 2) [n2, n3] := At.drop (a := [n0, n1]) ha
  have kd : Below W.heap.size W W.drew := (Below.refl _ _).drew
  have KEY := Lib.hid (pen_share H HB SB R ro [n0, n1] out W.drew (h.below kd) (a1.below kd) rfl hr p1 (by omega))
  have hl := manyP_len p1
  have KEY2 := Lib.hid (fun (w1 : World) (he : PenEnv w1 H HB SB (out ++ manyP [n0, n1])) (ho : Off H W.drew w1) => pen_share H HB SB R (ro + 2) [n2, n3] (out ++ manyP [n0, n1]) w1.drew (he.below ((Below.refl _ _).drew)) (((a2.below kd).off ho hr).below ((Below.refl _ _).drew)) rfl hr p2 (by rw [List.length_append]; simp only [List.length_cons, List.length_nil] at hl; omega))
  clear h ha hpk hk a1 a2 hl
  go_enter Try.func74, Try.ntmps74
  go_wp2_with fail
  replace g0 : W.drew.cell? _ = _ := g0
  refine wp_region_held_drew (S := (fun w' => w'.cell? ⟨SB, 0, none⟩ = some (.func (.func 70) #[] #[.pointer (some ⟨HB, 0, none⟩)]))) (by kernel_rfl) ?_ (fun hHeld => ?_)
  · exact g0
  refine wpAnyH_take (i := 0) (oi := ⟨some 3, _, _, _, _, none⟩) (v := ?_) rfl (by kernel_rfl) (by kernel_rfl) (by kernel_rfl) (fun _ _ _ h => h) (Or.inl ⟨by rfl, ?_⟩) (by assumption) ?_
  rotate_left
  · intro wz hSw; (try dsimp only at hSw); go_simp; (try with_reducible rfl)
  try simp only [Act.put, List.setIfInBounds_toArray, List.set_cons_zero, List.set_cons_succ]
  refine wpAnyH_take (i := 1) (oi := ⟨some 4, _, _, _, _, none⟩) (v := ?_) rfl (by kernel_rfl) (by kernel_rfl) (by kernel_rfl) (fun _ _ _ h => h) (Or.inl ⟨by rfl, ?_⟩) (by assumption) ?_
  rotate_left
  · intro wz hSw; (try dsimp only at hSw); go_simp; (try with_reducible rfl)
  try simp only [Act.put, List.setIfInBounds_toArray, List.set_cons_zero, List.set_cons_succ]
  refine wpAnyH_take (i := 2) (oi := ⟨some 5, _, _, _, _, none⟩) (v := ?_) rfl (by kernel_rfl) (by kernel_rfl) (by kernel_rfl) (fun _ _ _ h => h) (Or.inl ⟨by rfl, ?_⟩) (by assumption) ?_
  rotate_left
  · intro wz hSw; (try dsimp only at hSw); go_simp; (try with_reducible rfl)
  try simp only [Act.put, List.setIfInBounds_toArray, List.set_cons_zero, List.set_cons_succ]
  refine wpAnyH_take (i := 3) (oi := ⟨some 6, _, _, _, _, none⟩) (v := ?_) rfl (by kernel_rfl) (by kernel_rfl) (by kernel_rfl) (fun _ _ _ h => h) (Or.inl ⟨by rfl, ?_⟩) (by assumption) ?_
  rotate_left
  · intro wz hSw; (try dsimp only at hSw); go_simp; (try with_reducible rfl)
  try simp only [Act.put, List.setIfInBounds_toArray, List.set_cons_zero, List.set_cons_succ]
  refine wpAnyH_ready (rs := [4]) (by kernel_rfl) (by simp) ?_
  refine AllReadyH.cons (o := ⟨some 7, _, _, _, _, none⟩) rfl (fun K hK => ?_) AllReadyH.nil
  go_simp
  refine KEY.out.mono ?_
  rintro e1 w1 ⟨rfl, he, ho⟩
  replace g0 := he.sb
  unfold shareFn at g0
  refine hK.out _ _ ?_ (fun hHeld => ?_)
  · exact g0
  clear hK K
  try simp only [Act.put, List.setIfInBounds_toArray, List.set_cons_zero, List.set_cons_succ]
  refine wpAnyH_done (by kernel_rfl) ?_ _
  go_wp2_with fail
  replace g0 : w1.drew.cell? _ = _ := g0
  refine wp_region_held_drew (S := (fun w' => w'.cell? ⟨SB, 0, none⟩ = some (.func (.func 70) #[] #[.pointer (some ⟨HB, 0, none⟩)]))) (by kernel_rfl) ?_ (fun hHeld => ?_)
  · exact g0
  refine wpAnyH_take (i := 0) (oi := ⟨some 8, _, _, _, _, none⟩) (v := ?_) rfl (by kernel_rfl) (by kernel_rfl) (by kernel_rfl) (fun _ _ _ h => h) (Or.inl ⟨by rfl, ?_⟩) (by assumption) ?_
  rotate_left
  · intro wz hSw; (try dsimp only at hSw); go_simp; (try with_reducible rfl)
  try simp only [Act.put, List.setIfInBounds_toArray, List.set_cons_zero, List.set_cons_succ]
  refine wpAnyH_take (i := 1) (oi := ⟨some 9, _, _, _, _, none⟩) (v := ?_) rfl (by kernel_rfl) (by kernel_rfl) (by kernel_rfl) (fun _ _ _ h => h) (Or.inl ⟨by rfl, ?_⟩) (by assumption) ?_
  rotate_left
  · intro wz hSw; (try dsimp only at hSw); go_simp; (try with_reducible rfl)
  try simp only [Act.put, List.setIfInBounds_toArray, List.set_cons_zero, List.set_cons_succ]
  refine wpAnyH_take (i := 2) (oi := ⟨some 10, _, _, _, _, none⟩) (v := ?_) rfl (by kernel_rfl) (by kernel_rfl) (by kernel_rfl) (fun _ _ _ h => h) (Or.inl ⟨by rfl, ?_⟩) (by assumption) ?_
  rotate_left
  · intro wz hSw; (try dsimp only at hSw); go_simp; (try with_reducible rfl)
  try simp only [Act.put, List.setIfInBounds_toArray, List.set_cons_zero, List.set_cons_succ]
  refine wpAnyH_take (i := 3) (oi := ⟨some 11, _, _, _, _, none⟩) (v := ?_) rfl (by kernel_rfl) (by kernel_rfl) (by kernel_rfl) (fun _ _ _ h => h) (Or.inl ⟨by rfl, ?_⟩) (by assumption) ?_
  rotate_left
  · intro wz hSw; (try dsimp only at hSw); go_simp; (try with_reducible rfl)
  try simp only [Act.put, List.setIfInBounds_toArray, List.set_cons_zero, List.set_cons_succ]
  refine wpAnyH_ready (rs := [4]) (by kernel_rfl) (by simp) ?_
  refine AllReadyH.cons (o := ⟨some 12, _, _, _, _, none⟩) rfl (fun K hK => ?_) AllReadyH.nil
  go_simp
  refine (KEY2.out w1 he ho).mono ?_
  rintro e1 w2 ⟨rfl, he2, ho2⟩
  replace g0 := he2.sb
  unfold shareFn at g0
  refine hK.out _ _ ?_ (fun hHeld => ?_)
  · exact g0
  clear hK K
  try simp only [Act.put, List.setIfInBounds_toArray, List.set_cons_zero, List.set_cons_succ]
  refine wpAnyH_done (by kernel_rfl) ?_ _
  clear KEY KEY2
  refine bodyPost_end (v := .tuple #[]) (by simp [results, Try.results74, go_sem]) rfl ⟨rfl, ?_, (Below.off kd).trans (ho.trans ((Below.off ((Below.refl _ _).drew)).trans ho2))⟩
  have e : manyP [n0, n1, n2, n3] = manyP [n0, n1] ++ manyP [n2, n3] := manyP_append [n0, n1] [n2, n3]
  rw [e, ← List.append_assoc]
  exact he2
end Go.Proofs.Ytnjckaifgmliaaa
