/- THE WALK of layer 7's pen: numbers behind its bytes. -/
import Derived.Test.YtnjckaifgmliaaaPackPut
import Derived.Test.YtnjckaifgmliaaaPlainHand2
import Derived.Test.YtnjckaifgmliaaaRepeat
import Derived.OrdersHeld
set_option linter.unusedSimpArgs false
set_option linter.unusedVariables false
namespace Go.Proofs.Ytnjckaifgmliaaa
open Go.RowKit Lu

/-- Nothing that was there has turned, but for block H. -/
structure Off (H : Nat) (w w' : World) : Prop where
  os : w'.os = w.os
  tape : w'.tape = w.tape
  output : w'.output = w.output
  size : w.heap.size ≤ w'.heap.size
  block : ∀ k, k < w.heap.size → k ≠ H → w'.heap[k]? = w.heap[k]?
theorem Off.refl (H : Nat) (w : World) : Off H w w := ⟨rfl, rfl, rfl, Nat.le_refl _, fun _ _ _ => rfl⟩
theorem Off.trans {H : Nat} {a b c : World} (h : Off H a b) (k : Off H b c) : Off H a c :=
  ⟨k.os.trans h.os, k.tape.trans h.tape, k.output.trans h.output, Nat.le_trans h.size k.size, fun i hi hn => (k.block i (Nat.lt_of_lt_of_le hi h.size) hn).trans (h.block i hi hn)⟩
theorem Below.off {H : Nat} {w w' : World} (h : Below w.heap.size w w') : Off H w w' := ⟨h.os, h.tape, h.output, h.size, fun k hk _ => h.block k hk⟩
theorem Off.setCell {H : Nat} {a w : World} (h : Off H a w) {p : Addr} (hp : p.block = H) (u : Value) : Off H a (w.setCell p u) :=
  h.trans ⟨rfl, rfl, rfl, by simp [World.setCell], fun k _ hn => Below.heap_setCell _ _ _ _ (by omega)⟩
theorem Off.cell {H : Nat} {w w' : World} (h : Off H w w') {p : Addr} {v : Value} (hc : w.cell? p = some v) (hp : p.block ≠ H) : w'.cell? p = some v :=
  (World.cell?_of_block (w := w) (h.block p.block (World.block_lt_of_cell? w p hc) hp)).trans hc
theorem Off.at {H b : Nat} {w w' : World} {x : Obj} (h : Off H w w') (hb : w.heap[b]? = some x) (hn : b ≠ H) : w'.heap[b]? = some x := (h.block b (block_lt hb) hn).trans hb
theorem Off.below {H B : Nat} {w w' : World} (h : Off H w w') (hB : B ≤ H) (hw : B ≤ w.heap.size) : Below B w w' := ⟨h.os, h.tape, h.output, h.size, fun k hk => h.block k (by omega) (by omega)⟩
theorem Row8.off {H : Nat} {w w' : World} {a : Option Addr} {n : Nat} {bs : List Int} (h : Row8 w a n bs) (k : Off H w w') (hn : ∀ b o, a = some ⟨b, o, none⟩ → b ≠ H) : Row8 w' a n bs := by
  refine ⟨h.1, h.2.1, h.2.2.1, ?_, h.2.2.2.2⟩
  rcases h.2.2.2.1 with h0 | ⟨b, off, ha, hc⟩
  · exact .inl h0
  · exact .inr ⟨b, off, ha, fun i u hi => k.cell (hc i u hi) (hn b off ha)⟩
/-- The pen lies in block H and has written these bytes. -/
def PenIs (W : World) (H : Nat) (out : List Int) : Prop := ∃ a n c ok, W.heap[H]? = some (.cells #[.slice a n c, .bool ok] 62) ∧ Row8 W a n out ∧ (∀ b o, a = some ⟨b, o, none⟩ → b ≠ H) ∧ n ≤ c
theorem PenIs.below {W W' : World} {H : Nat} {out : List Int} (h : PenIs W H out) (k : Below W.heap.size W W') : PenIs W' H out := by
  obtain ⟨a, n, c, ok, h1, h2, h3⟩ := h
  exact ⟨a, n, c, ok, box_keep k h1 (block_lt h1), h2.below k, h3⟩
theorem PenIs.lt {W : World} {H : Nat} {out : List Int} (h : PenIs W H out) : H < W.heap.size := by
  obtain ⟨a, n, c, ok, h1, _⟩ := h
  exact block_lt h1
theorem heap_setCell {w : World} {N i : Nat} {cs : Array Value} {t : TypeId} (h : w.heap[N]? = some (.cells cs t)) (v : Value) : (w.setCell ⟨N, i, none⟩ v).heap[N]? = some (.cells (cs.setIfInBounds i v) t) := by
  simp [World.setCell, Array.getElem?_modify, h]
theorem own_cap {w : World} {base : Nat} {e : TypeId} {n : Nat} {a : Option Addr} {c : Nat} {xs : List Value} (h : w.ownsRow base e 1 (.slice a n c) n xs) : n ≤ c := by
  rcases h.2 with ⟨he, rfl⟩ | ⟨g, cap, cur, he, _, _, hnc, _⟩
  · omega
  · injection he with _ _ hc
    omega
theorem own_block {w : World} {base : Nat} {e : TypeId} {n : Nat} {a : Option Addr} {c : Nat} {xs : List Value} (h : w.ownsRow base e 1 (.slice a n c) n xs) : ∀ b o, a = some ⟨b, o, none⟩ → base ≤ b := by
  intro b o ha
  subst ha
  exact (h.lt b rfl).1

set_option maxRecDepth 100000 in
set_option maxHeartbeats 4000000 in
theorem pen_put (H Q qo cc : Nat) (ads : List (Nat × Nat)) (zs out : List Int) (W : World) (hp : PenIs W H out) (hq : Cells W (some ⟨Q, qo, none⟩) (ads.map fun r => Value.pointer (some ⟨r.1, r.2, none⟩))) (hQ : Q ≠ H) (hlen : ads.length = zs.length)
    (hz : ∀ (j : Nat) (r : Nat × Nat) (z : Int), ads[j]? = some r → zs[j]? = some z → W.cell? ⟨r.1, r.2, none⟩ = some (.int .i64 z) ∧ r.1 ≠ H) (hpk : ∀ z ∈ zs, Pk z) (hb : out.length + 9 * zs.length ≤ 1000000) :
    Calls Try.prog 138 #[.pointer (some ⟨H, 0, none⟩), .slice (some ⟨Q, qo, none⟩) zs.length cc] W fun e W' => e = .returned (.tuple #[]) ∧ PenIs W' H (out ++ manyP zs) ∧ Off H W W' := by
  have HPK := Lib.hid hpk
  have HZ := Lib.hid hz
  have HQ := Lib.hid hq
  have HP := Lib.hid hp
  clear hpk hz hq hp
  go_enter Try.func138, Try.ntmps138
  go_wp2_with fail
  go_loopw [10] (fun i wr => ∃ k : Nat, k ≤ zs.length ∧ i = .int .i64 k ∧ PenIs wr H (out ++ manyP (zs.take k)) ∧ Off H W wr) (fun i _ => zs.length - (intOf i).toNat)
  case atStart => exact ⟨0, by omega, rfl, by simpa [manyP] using HP.out, Off.refl _ _⟩
  case round =>
    obtain ⟨k, hk, rfl, hpen, ho⟩ := hrel
    by_cases hlt : k < zs.length
    · have hk0 : (0 : Int) ≤ (k : Int) := by omega
      have hk1 : (k : Int) < (zs.length : Int) := by omega
      obtain ⟨a, n, c, ok, hH, hrow, hne⟩ := hpen
      obtain ⟨⟨ab, ao⟩, hr⟩ : ∃ r, ads[k]? = some r := ⟨_, List.getElem?_eq_getElem (by omega)⟩
      obtain ⟨z, hzk⟩ : ∃ z, zs[k]? = some z := ⟨_, List.getElem?_eq_getElem hlt⟩
      obtain ⟨hcz, hzn⟩ := HZ.out k _ _ hr hzk
      have g1 := ho.cell hcz hzn
      have hpz := HPK.out z (List.mem_of_getElem? hzk)
      have gq : wr.cell? ⟨Q, qo + k, none⟩ = some (.pointer (some ⟨ab, ao, none⟩)) := by
        rcases HQ.out with h0 | ⟨b, off, hb', hc⟩
        · rw [List.map_eq_nil_iff] at h0; rw [h0] at hr; simp at hr
        · simp only [Option.some.injEq, Addr.mk.injEq, and_true] at hb'
          obtain ⟨rfl, rfl⟩ := hb'
          exact ho.cell (hc k _ (by rw [List.getElem?_map, hr]; rfl)) hQ
      have g0 : wr.cell? ⟨H, 0, none⟩ = some (.slice a n c) := by simp [World.cell?, hH]
      have g2 : wr.cell? ⟨H, 1, none⟩ = some (.bool ok) := by simp [World.cell?, hH]
      have zH := block_lt hH
      have zA := World.block_lt_of_cell? wr _ g1
      have HROW := Lib.hid hrow
      have hnl : n ≤ 1000000 - 9 := by
        have h1 := hrow.1
        have h2 := manyP_len (l := zs.take k) (fun m hm => HPK.out m (List.mem_of_mem_take hm))
        rw [List.length_append] at h1
        rw [List.length_take] at h2
        omega
      clear hcz
      go_wp2_with fail
      replace g0 : wr.drew.cell? _ = _ := g0
      replace g1 : wr.drew.cell? _ = _ := g1
      replace g2 : wr.drew.cell? _ = _ := g2
      have D : Off H W wr.drew := ho.trans (Below.off ((Below.refl _ _).drew))
      refine wp_region_held_drew (S := (fun w' => w'.cell? ⟨H, 0, none⟩ = some (.slice a n c) ∧ w'.cell? ⟨ab, ao, none⟩ = some (.int .i64 z))) (by kernel_rfl) ?_ (fun hHeld => ?_)
      · exact ⟨g0, g1⟩
      refine wpAnyH_take (i := 0) (oi := ⟨some 15, _, _, _, _, none⟩) (v := ?_) rfl (by kernel_rfl) (by kernel_rfl) (by kernel_rfl) (fun _ _ _ h => h) (Or.inl ⟨by rfl, ?_⟩) (by assumption) ?_
      rotate_left
      · intro wz hSw; (try dsimp only at hSw); go_simp; (try with_reducible rfl)
      try simp only [Act.put, List.setIfInBounds_toArray, List.set_cons_zero, List.set_cons_succ]
      refine wpAnyH_take (i := 1) (oi := ⟨some 16, _, _, _, _, none⟩) (v := ?_) rfl (by kernel_rfl) (by kernel_rfl) (by kernel_rfl) (fun _ _ _ h => h) (Or.inl ⟨by rfl, ?_⟩) (by assumption) ?_
      rotate_left
      · intro wz hSw; (try dsimp only at hSw); go_simp; (try with_reducible rfl)
      try simp only [Act.put, List.setIfInBounds_toArray, List.set_cons_zero, List.set_cons_succ]
      refine wpAnyH_take (i := 2) (oi := ⟨some 17, _, _, _, _, none⟩) (v := ?_) rfl (by kernel_rfl) (by kernel_rfl) (by kernel_rfl) (fun _ _ _ h => h) (Or.inl ⟨by rfl, ?_⟩) (by assumption) ?_
      rotate_left
      · intro wz hSw; (try dsimp only at hSw); go_simp; (try with_reducible rfl)
      try simp only [Act.put, List.setIfInBounds_toArray, List.set_cons_zero, List.set_cons_succ]
      refine wpAnyH_take (i := 3) (oi := ⟨some 18, _, _, _, _, none⟩) (v := ?_) rfl (by kernel_rfl) (by kernel_rfl) (by kernel_rfl) (fun _ _ _ h => h) (Or.inl ⟨by rfl, ?_⟩) (by assumption) ?_
      rotate_left
      · intro wz hSw; (try dsimp only at hSw); go_simp; (try with_reducible rfl)
      try simp only [Act.put, List.setIfInBounds_toArray, List.set_cons_zero, List.set_cons_succ]
      refine wpAnyH_take (i := 4) (oi := ⟨some 19, _, _, _, _, none⟩) (v := ?_) rfl (by kernel_rfl) (by kernel_rfl) (by kernel_rfl) (fun _ _ _ h => h) (Or.inl ⟨by rfl, ?_⟩) (by assumption) ?_
      rotate_left
      · intro wz hSw; (try dsimp only at hSw); go_simp; (try with_reducible rfl)
      try simp only [Act.put, List.setIfInBounds_toArray, List.set_cons_zero, List.set_cons_succ]
      refine wpAnyH_take (i := 5) (oi := ⟨some 20, _, _, _, _, none⟩) (v := ?_) rfl (by kernel_rfl) (by kernel_rfl) (by kernel_rfl) (fun _ _ _ h => h) (Or.inl ⟨by rfl, ?_⟩) (by assumption) ?_
      rotate_left
      · intro wz hSw; (try dsimp only at hSw); go_simp; (try with_reducible rfl)
      try simp only [Act.put, List.setIfInBounds_toArray, List.set_cons_zero, List.set_cons_succ]
      refine wpAnyH_take (i := 6) (oi := ⟨some 21, _, _, _, _, none⟩) (v := ?_) rfl (by kernel_rfl) (by kernel_rfl) (by kernel_rfl) (fun _ _ _ h => h) (Or.inl ⟨by rfl, ?_⟩) (by assumption) ?_
      rotate_left
      · intro wz hSw; (try dsimp only at hSw); go_simp; (try with_reducible rfl)
      try simp only [Act.put, List.setIfInBounds_toArray, List.set_cons_zero, List.set_cons_succ]
      refine wpAnyH_take (i := 7) (oi := ⟨some 22, _, _, _, _, none⟩) (v := ?_) rfl (by kernel_rfl) (by kernel_rfl) (by kernel_rfl) (fun _ _ _ h => h) (Or.inl ⟨by rfl, ?_⟩) (by assumption) ?_
      rotate_left
      · intro wz hSw; (try dsimp only at hSw); go_simp; (try with_reducible rfl)
      try simp only [Act.put, List.setIfInBounds_toArray, List.set_cons_zero, List.set_cons_succ]
      refine wpAnyH_ready (rs := [8]) (by kernel_rfl) (by simp) ?_
      refine AllReadyH.cons (o := ⟨some 23, _, _, _, _, none⟩) rfl (fun K hK => ?_) AllReadyH.nil
      go_simp
      replace g0 := keepA (.cells #[.int .i64 z] 3) g0
      replace g1 := keepA (.cells #[.int .i64 z] 3) g1
      refine hK.out _ _ ?_ (fun hHeld => ?_)
      · exact ⟨g0, g1⟩
      clear hK K
      try simp only [Act.put, List.setIfInBounds_toArray, List.set_cons_zero, List.set_cons_succ]
      refine wpAnyH_ready (rs := [9]) (by kernel_rfl) (by simp) ?_
      refine AllReadyH.cons (o := ⟨some 24, _, _, _, _, none⟩) rfl (fun K hK => ?_) AllReadyH.nil
      go_simp
      refine (pack_Put z a n c (out ++ manyP (zs.take k)) wr.drew.heap.size 0 1 _ (hrow.below (by go_grown)) (by omega) hpz (by simp [go_sem]) (by simp)).mono ?_
      rintro e2 w2 ⟨v, rfl, own2, k2⟩
      replace g0 := keepC k2 g0 (by simp; omega)
      replace g1 := keepC k2 g1 (by simp; omega)
      refine hK.out _ _ ?_ (fun hHeld => ?_)
      · exact ⟨g0, g1⟩
      clear hK K
      try simp only [Act.put, List.setIfInBounds_toArray, List.set_cons_zero, List.set_cons_succ]
      refine wpAnyH_take (i := 10) (oi := ⟨some 14, _, _, _, _, none⟩) (v := ?_) rfl (by kernel_rfl) (by kernel_rfl) (by kernel_rfl) (fun _ _ _ h => h) (Or.inl ⟨by rfl, ?_⟩) (by assumption) ?_
      rotate_left
      · intro wz hSw; (try dsimp only at hSw); go_simp; (try with_reducible rfl)
      try simp only [Act.put, List.setIfInBounds_toArray, List.set_cons_zero, List.set_cons_succ]
      refine wpAnyH_take (i := 11) (oi := ⟨some 25, _, _, _, _, none⟩) (v := ?_) rfl (by kernel_rfl) (by kernel_rfl) (by kernel_rfl) (fun _ _ _ h => h) (Or.inl ⟨by rfl, ?_⟩) (by assumption) ?_
      rotate_left
      · intro wz hSw; (try dsimp only at hSw); go_simp; (try with_reducible rfl)
      try simp only [Act.put, List.setIfInBounds_toArray, List.set_cons_zero, List.set_cons_succ]
      refine wpAnyH_take (i := 12) (oi := ⟨some 26, _, _, _, _, none⟩) (v := ?_) rfl (by kernel_rfl) (by kernel_rfl) (by kernel_rfl) (fun _ _ _ h => h) (Or.inl ⟨by rfl, ?_⟩) (by assumption) ?_
      rotate_left
      · intro wz hSw; (try dsimp only at hSw); go_simp; (try with_reducible rfl)
      try simp only [Act.put, List.setIfInBounds_toArray, List.set_cons_zero, List.set_cons_succ]
      refine wpAnyH_take (i := 13) (oi := ⟨some 6, _, _, _, _, none⟩) (v := ?_) rfl (by kernel_rfl) (by kernel_rfl) (by kernel_rfl) (fun _ _ _ h => h) (Or.inl ⟨by rfl, ?_⟩) (by assumption) ?_
      rotate_left
      · intro wz hSw; (try dsimp only at hSw); go_simp; (try with_reducible rfl)
      try simp only [Act.put, List.setIfInBounds_toArray, List.set_cons_zero, List.set_cons_succ]
      refine wpAnyH_take (i := 14) (oi := ⟨some 7, _, _, _, _, none⟩) (v := ?_) rfl (by kernel_rfl) (by kernel_rfl) (by kernel_rfl) (fun _ _ _ h => h) (Or.inl ⟨by rfl, ?_⟩) (by assumption) ?_
      rotate_left
      · intro wz hSw; (try dsimp only at hSw); go_simp; (try with_reducible rfl)
      try simp only [Act.put, List.setIfInBounds_toArray, List.set_cons_zero, List.set_cons_succ]
      refine wpAnyH_done (by kernel_rfl) ?_ _
      have hH2 := box_keep k2 (box_keep (B := wr.heap.size) (by go_grown) hH (by omega)) (by simp; omega)
      obtain ⟨a2, c2, rfl, hrow2⟩ := Row8.of_own own2 ((hrow.2.2.1).append (bytes_oneP hpz)) (by have := (oneP_len hpz); omega)
      have hb2 := own_block own2
      have hcp := own_cap own2
      have q0 : w2.cell? ⟨H, 0, none⟩ = some (.slice a n c) := by simp [World.cell?, hH2]
      have q1 : w2.cell? ⟨H, 1, none⟩ = some (.bool ok) := by simp [World.cell?, hH2]
      have f0 : w2.frozen? ⟨H, 0, none⟩ = false := by simp [World.frozen?, hH2]
      have f1 : w2.frozen? ⟨H, 1, none⟩ = false := by simp [World.frozen?, hH2]
      have D2 : Off H W w2 := D.trans (Below.off ((Below.refl wr.drew.heap.size wr.drew).alloc (Nat.le_refl _) _ |>.trans (k2.mono (by simp))))
      have HT := Lib.hid (show zs.take (k + 1) = zs.take k ++ [z] by rw [List.take_succ_eq_append_getElem hlt]; rw [List.getElem?_eq_getElem hlt] at hzk; rw [Option.some.inj hzk])
      have hfin : ∀ b : Bool, PenIs ((w2.setCell ⟨H, 0, none⟩ (.slice a2 (n + (oneP z).length) c2)).setCell ⟨H, 1, none⟩ (.bool b)) H (out ++ manyP (zs.take (k + 1))) ∧ Off H W ((w2.setCell ⟨H, 0, none⟩ (.slice a2 (n + (oneP z).length) c2)).setCell ⟨H, 1, none⟩ (.bool b)) := fun b => by
        have D3 : Off H w2 ((w2.setCell ⟨H, 0, none⟩ (.slice a2 (n + (oneP z).length) c2)).setCell ⟨H, 1, none⟩ (.bool b)) := ((Off.refl H w2).setCell rfl _).setCell rfl _
        have hne2 : ∀ b o, a2 = some ⟨b, o, none⟩ → b ≠ H := fun b o hb0 => by have := hb2 b o hb0; simp at this; omega
        refine ⟨⟨a2, _, c2, _, heap_setCell (heap_setCell hH2 _) _, ?_, hne2, hcp⟩, D2.trans D3⟩
        rw [HT.out, manyP_append, ← List.append_assoc, show manyP [z] = oneP z by unfold manyP; simp]
        exact hrow2.off D3 hne2
      have HFIN := Lib.hid hfin
      clear g0 g1 g2 hH hr hzk gq own2 k2 hpz hrow hfin
      cases ok
      · go_wp2_with fail
        go_roundw
        case rel => exact ⟨k + 1, by omega, by go_num, HFIN.out _⟩
        case measure => simp [intOf]; omega
      · go_wp2_with fail
        go_roundw
        case rel => exact ⟨k + 1, by omega, by go_num, HFIN.out _⟩
        case measure => simp [intOf]; omega
    · obtain rfl : k = zs.length := by omega
      rw [List.take_length] at hpen
      go_wp2_with fail
      refine bodyPost_end (v := .tuple #[]) (by simp [results, Try.results138, go_sem]) rfl ⟨rfl, hpen, ho⟩
end Go.Proofs.Ytnjckaifgmliaaa
