/- slices.Repeat of one number: what way.Table asks of Go's library. -/
import Derived.Test.YtnjckaifgmliaaaBlocks
import Derived.Test.YtnjckaifgmliaaaNumUp
import Derived.Laws.CopyOwn
import Derived.Laws.MakeOwn
import Derived.Deep.RegionLaw
import Derived.Deep.RegionHeld3
import Derived.Laws.OwnMore
set_option linter.unusedSimpArgs false
set_option linter.unusedVariables false
namespace Go.Proofs.Ytnjckaifgmliaaa
open Go.RowKit Lu

set_option maxHeartbeats 4000000 in
theorem bits_Mul64 (n : Nat) (hn : 1 ≤ n ∧ n ≤ 16) (w : World) :
    Calls Try.prog 121 #[.int .u64 1, .int .u64 n] w fun e w' => e = .returned (.tuple #[.int .u64 0, .int .u64 n]) ∧ ∃ k, w' = w.drewN k := by
  rcases (show n = 1 ∨ n = 2 ∨ n = 3 ∨ n = 4 ∨ n = 5 ∨ n = 6 ∨ n = 7 ∨ n = 8 ∨ n = 9 ∨ n = 10 ∨ n = 11 ∨ n = 12 ∨ n = 13 ∨ n = 14 ∨ n = 15 ∨ n = 16 by omega) with rfl | rfl | rfl | rfl | rfl | rfl | rfl | rfl | rfl | rfl | rfl | rfl | rfl | rfl | rfl | rfl
  all_goals
    go_enter Try.func121, Try.ntmps121
    go_wp2_with fail
    go_ret2
    exact ⟨rfl, 0, rfl⟩
theorem bits_Mul (n : Nat) (hn : 1 ≤ n ∧ n ≤ 16) (w : World) :
    Calls Try.prog 117 #[.int .u64 1, .int .u64 n] w fun e w' => e = .returned (.tuple #[.int .u64 0, .int .u64 n]) ∧ ∃ k, w' = w.drewN k := by
  have H := Lib.hid (bits_Mul64 n hn w)
  go_enter Try.func117, Try.ntmps117
  go_wp2_with fail
  refine H.out.mono ?_
  rintro e w1 ⟨rfl, k, rfl⟩
  go_wp2_with fail
  go_ret2
  exact ⟨rfl, k, rfl⟩

/-- The world behind a name. -/
theorem gen_code {P : Program} {c : Code} {Q : Exit → Act → World → Prop} {a : Act} {w : World} (S : World → Prop) (h : S w) (k : ∀ W, S W → Code.wp P c Q a W) : Code.wp P c Q a w := k w h
theorem block_lt {w : World} {b : Nat} {o : Obj} (h : w.heap[b]? = some o) : b < w.heap.size := (Array.getElem?_eq_some_iff.1 h).1
def Repeated (v : Int) (n : Nat) (w : World) (e : Ending) (w' : World) : Prop :=
  ∃ g, e = .returned (.slice (some ⟨g, 0, none⟩) n n) ∧ w.heap.size ≤ g ∧ g < w'.heap.size ∧ w'.heap[g]? = some (.cells (List.replicate n (Value.int .i64 v)).toArray 3) ∧ Below w.heap.size w w'
theorem run_make_ints (n : Nat) (hn : n ≤ 1000) (W : World) :
    (Instr.makeSlice 27 (.int .i64 (n : Int)) (.int .i64 (n : Int))).run Try.prog W = .ok (.slice (some ⟨W.heap.size, 0, none⟩) n n) (W.alloc (.cells (List.replicate n (Value.int .i64 0)).toArray 3)) := by
  obtain ⟨i0, hi, hz0, hz1, hz2⟩ := info_parts infoInt
  have h := run_make (P := Try.prog) W 27 3 i0 (.int .i64 0) Try.underlying27 hi hz0 .i64 .i64 n n (by omega) (by omega) (by rw [hz2]; omega) (by omega)
  rw [h, hz1]
  simp only [Int.toNat_natCast, Nat.mul_one]
  have e : madeCells (Value.int .i64 0).cells n = (List.replicate n (Value.int .i64 0)).toArray := by
    apply Array.toList_inj.1
    show (madeCells #[Value.int .i64 0] n).toList = _
    rw [toList_madeCells_one]
  rw [e]
/-- A row whose first k numbers are v. -/
def repRow (v : Int) (n k : Nat) : List Value := List.replicate k (Value.int .i64 v) ++ List.replicate (n - k) (Value.int .i64 0)
theorem splice_rep (v : Int) (n k c : Nat) (hk : k + c ≤ n) : splice (repRow v n k) k (List.replicate c (Value.int .i64 v)) = repRow v n (k + c) := by
  unfold splice repRow
  simp only [List.length_replicate]
  rw [List.take_left' (by simp), List.drop_append]
  simp only [List.length_replicate, List.drop_replicate]
  rw [show k - (k + c) = 0 by omega, List.replicate_zero, List.nil_append, ← List.append_assoc, List.replicate_append_replicate, show n - k - (k + c - k) = n - (k + c) by omega]
theorem repRow_len (v : Int) (n k : Nat) (hk : k ≤ n) : (repRow v n k).length = n := by unfold repRow; simp; omega
theorem repRow_at (v : Int) (n k j : Nat) (hj : j < k) : (repRow v n k)[j]? = some (Value.int .i64 v) := by
  unfold repRow
  rw [List.getElem?_append_left (by simpa using hj), List.getElem?_replicate, if_pos hj]
set_option maxHeartbeats 4000000 in
theorem slices_Repeat (v : Int) (n : Nat) (hn : 1 ≤ n ∧ n ≤ 16) (xb : Nat) (w : World) (hx : w.cell? ⟨xb, 0, none⟩ = some (.int .i64 v)) :
    Calls Try.prog 103 #[.slice (some ⟨xb, 0, none⟩) 1 1, .int .i64 n] w (Repeated v n w) := by
  have hmk := run_make_ints n (by omega)
  have HM := Lib.hid (bits_Mul n hn w)
  have hn0 : (0 : Int) ≤ n := by omega
  have hn1 : (n : Int) ≤ 16 := by omega
  go_enter Try.func103, Try.ntmps103
  go_wp2_with fail
  refine HM.out.mono ?_
  rintro e w1 ⟨rfl, k0, rfl⟩
  go_upto_region 7 with fail
  refine gen_code (S := fun W => W.heap[w.heap.size]? = some (.cells (repRow v n 0).toArray 3) ∧ W.cell? ⟨xb, 0, none⟩ = some (.int .i64 v) ∧ Below w.heap.size w W ∧ w.heap.size < W.heap.size) ?_ (fun W hW => ?_)
  · have hB : Below w.heap.size w ((w.drewN k0).alloc (.cells (Array.replicate n (Value.int .i64 0)) 3)) := ((below_drewN_iff k0).2 (Below.refl _ _)).alloc (Nat.le_refl _) _
    refine ⟨?_, keepD hB hx, hB, by simp⟩
    have := box_new (w.drewN k0) w.heap.size rfl (Array.replicate n (Value.int .i64 0)) 3
    simpa [repRow] using this
  obtain ⟨hg, hx1, hB, hz⟩ := hW
  have hsrc : ∀ (j : Nat) (u : Value), (List.replicate 1 (Value.int .i64 v))[j]? = some u → W.cell? ((⟨xb, 0, none⟩ : Addr).add j) = some u := by
    intro j u hu
    rw [Addr.add_lit]
    obtain rfl : j = 0 := by have := (List.getElem?_eq_some_iff.1 hu).1; simpa using this
    simp at hu
    subst hu
    exact hx1
  have hsz : (Try.prog.info? 3).map (·.size) = some 1 := by
    obtain ⟨i0, hi, hz0, hz1, hz2⟩ := info_parts infoInt
    rw [hi]; simp [hz1]
  have HSRC := Lib.hid hsrc
  have HSZ := Lib.hid hsz
  have HG := Lib.hid hg
  have hmin : (List.replicate 1 (Value.int .i64 v)).length = Nat.min 1 n := by simp [Nat.min_def]; omega
  have HMIN := Lib.hid hmin
  clear hsrc hsz hg hmk HM hx hmin
  go_wp2_with ((refine wpList_copy_splice rfl (.tmp 31) (.tmp 32) 27 27 rfl 3 Try.underlying27 HSZ.out (some ⟨w.heap.size, 0, none⟩) (some ⟨xb, 0, none⟩) n n 1 1 rfl rfl w.heap.size 0 _ 3 HG.out (List.replicate 1 (Value.int .i64 v)) HMIN.out (fun _ => ⟨rfl, _, rfl, HSRC.out⟩) (by rw [repRow_len _ _ _ (by omega)]; simp; omega) (by simp; rfl) w.heap.size w hB (Nat.le_refl _) ?_); (intro W2 hg2 hb2); (have hz2 : w.heap.size < W2.heap.size := block_lt hg2.out))
  go_loopw [8] (fun m wr => ∃ k : Nat, 1 ≤ k ∧ k ≤ n ∧ m = .int .i64 k ∧ wr.heap[w.heap.size]? = some (.cells (repRow v n k).toArray 3) ∧ Below w.heap.size w wr) (fun m _ => n - (intOf m).toNat)
  case atStart =>
    refine ⟨1, by omega, by omega, rfl, ?_, hb2⟩
    rw [hg2.out, splice_rep v n 0 1 (by omega)]
  case round =>
    obtain ⟨k, hk1, hk, rfl, hgr, hbr⟩ := hrel
    have HGR := Lib.hid hgr
    clear hgr
    by_cases hlt : k < n
    · have q1 : (0 : Int) ≤ (k : Int) := by omega
      have q2 : (k : Int) ≤ (n : Int) := by omega
      have q3 : (k : Int) < (n : Int) := by omega
      have hne : ¬ n = k := by omega
      have hcl : (List.replicate (Nat.min k (n - k)) (Value.int .i64 v)).length = Nat.min k (n - k) := List.length_replicate
      have hmn : Nat.min k (n - k) ≤ k ∧ Nat.min k (n - k) ≤ n - k ∧ 1 ≤ Nat.min k (n - k) := by simp only [Nat.min_def]; split <;> omega
      have hsrc2 : ∀ (j : Nat) (u : Value), (List.replicate (Nat.min k (n - k)) (Value.int .i64 v))[j]? = some u → wr.drew.cell? ((⟨w.heap.size, 0, none⟩ : Addr).add j) = some u := by
        intro j u hu
        have hj : j < Nat.min k (n - k) := by have := (List.getElem?_eq_some_iff.1 hu).1; simpa using this
        rw [Addr.add_lit, Nat.zero_add]
        rw [List.getElem?_replicate, if_pos hj] at hu
        obtain rfl := Option.some.inj hu
        have := repRow_at v n k j (by omega)
        have hgd : wr.drew.heap[w.heap.size]? = some (.cells (repRow v n k).toArray 3) := HGR.out
        simp [World.cell?, hgd, this]
      have hfit : k + (List.replicate (Nat.min k (n - k)) (Value.int .i64 v)).length ≤ (repRow v n k).length := by rw [repRow_len _ _ _ hk, hcl]; omega
      have I1 := Lib.hid (show IntKind.i64.wrap ((k : Int) + (Nat.min k (n - k) : Nat)) = (k : Int) + (Nat.min k (n - k) : Nat) from IntWalk.i64_in _ (by omega))
      have HC := Lib.hid hcl
      have HSRC2 := Lib.hid hsrc2
      have HFIT := Lib.hid hfit
      have HBR := Lib.hid hbr.drew
      clear hcl hsrc2 hfit
      go_wp2_with fail
      refine wp_region_held_drew (S := (fun _ => True)) (by kernel_rfl) ?_ (fun hHeld => ?_)
      · trivial
      refine wpAnyH_take (i := 0) (oi := ⟨some 38, _, _, _, _, none⟩) (v := ?_) rfl (by kernel_rfl) (by kernel_rfl) (by kernel_rfl) (fun _ _ _ h => h) (Or.inl ⟨by rfl, ?_⟩) (by assumption) ?_
      rotate_left
      · intro wz hSw; (try dsimp only at hSw); go_simp; (try with_reducible rfl)
      try simp only [Act.put, List.setIfInBounds_toArray, List.set_cons_zero, List.set_cons_succ]
      refine wpAnyH_take (i := 1) (oi := ⟨some 39, _, _, _, _, none⟩) (v := ?_) rfl (by kernel_rfl) (by kernel_rfl) (by kernel_rfl) (fun _ _ _ h => h) (Or.inl ⟨by rfl, ?_⟩) (by assumption) ?_
      rotate_left
      · intro wz hSw; (try dsimp only at hSw); go_simp; (try with_reducible rfl)
      try simp only [Act.put, List.setIfInBounds_toArray, List.set_cons_zero, List.set_cons_succ]
      refine wpAnyH_take (i := 2) (oi := ⟨some 40, _, _, _, _, none⟩) (v := ?_) rfl (by kernel_rfl) (by kernel_rfl) (by kernel_rfl) (fun _ _ _ h => h) (Or.inl ⟨by rfl, ?_⟩) (by assumption) ?_
      rotate_left
      · intro wz hSw; (try dsimp only at hSw); go_simp; (try with_reducible rfl)
      try simp only [Act.put, List.setIfInBounds_toArray, List.set_cons_zero, List.set_cons_succ]
      refine wpAnyH_take (i := 3) (oi := ⟨some 41, _, _, _, _, none⟩) (v := ?_) rfl (by kernel_rfl) (by kernel_rfl) (by kernel_rfl) (fun _ _ _ h => h) (Or.inl ⟨by rfl, ?_⟩) (by assumption) ?_
      rotate_left
      · intro wz hSw; (try dsimp only at hSw); go_simp; (try with_reducible rfl)
      try simp only [Act.put, List.setIfInBounds_toArray, List.set_cons_zero, List.set_cons_succ]
      refine wpAnyH_take (i := 4) (oi := ⟨some 42, _, _, _, _, none⟩) (v := ?_) rfl (by kernel_rfl) (by kernel_rfl) (by kernel_rfl) (fun _ _ _ h => h) (Or.inl ⟨by rfl, ?_⟩) (by assumption) ?_
      rotate_left
      · intro wz hSw; (try dsimp only at hSw); go_simp; (try with_reducible rfl)
      try simp only [Act.put, List.setIfInBounds_toArray, List.set_cons_zero, List.set_cons_succ]
      refine wpAnyH_take (i := 5) (oi := ⟨some 43, _, _, _, _, none⟩) (v := ?_) rfl (by kernel_rfl) (by kernel_rfl) (by kernel_rfl) (fun _ _ _ h => h) (Or.inl ⟨by rfl, ?_⟩) (by assumption) ?_
      rotate_left
      · intro wz hSw; (try dsimp only at hSw); go_simp; (try with_reducible rfl)
      try simp only [Act.put, List.setIfInBounds_toArray, List.set_cons_zero, List.set_cons_succ]
      refine wpAnyH_take (i := 6) (oi := ⟨some 44, _, _, _, _, none⟩) (v := ?_) rfl (by kernel_rfl) (by kernel_rfl) (by kernel_rfl) (fun _ _ _ h => h) (Or.inl ⟨by rfl, ?_⟩) (by assumption) ?_
      rotate_left
      · intro wz hSw; (try dsimp only at hSw); go_simp; (try with_reducible rfl)
      try simp only [Act.put, List.setIfInBounds_toArray, List.set_cons_zero, List.set_cons_succ]
      refine wpAnyH_ready (rs := [7]) (by kernel_rfl) (by simp) ?_
      refine AllReadyH.cons (o := ⟨some 45, _, _, _, _, none⟩) rfl (fun K hK => ?_) AllReadyH.nil
      refine step_copy_splice rfl (.tmp 41) (.tmp 44) 27 27 rfl 3 Try.underlying27 HSZ.out (some ⟨w.heap.size, k, none⟩) (some ⟨w.heap.size, 0, none⟩) (n - k) (n - k) k n rfl rfl w.heap.size k (repRow v n k) 3 HGR.out (List.replicate (Nat.min k (n - k)) (Value.int .i64 v)) HC.out (fun _ => ⟨rfl, _, rfl, HSRC2.out⟩) HFIT.out (by intro u hu; rw [List.mem_replicate] at hu; rw [hu.2]; rfl) w.heap.size w HBR.out (Nat.le_refl _) ?_
      intro w4 hg4 hb4
      refine hK.out _ _ ?_ (fun hHeld => ?_)
      · trivial
      clear hK K
      try simp only [Act.put, List.setIfInBounds_toArray, List.set_cons_zero, List.set_cons_succ]
      refine wpAnyH_take (i := 8) (oi := ⟨some 46, _, _, _, _, none⟩) (v := ?_) rfl (by kernel_rfl) (by kernel_rfl) (by kernel_rfl) (fun _ _ _ h => h) (Or.inl ⟨by rfl, ?_⟩) (by assumption) ?_
      rotate_left
      · intro wz hSw; (try dsimp only at hSw); go_simp; (try with_reducible rfl)
      try simp only [Act.put, List.setIfInBounds_toArray, List.set_cons_zero, List.set_cons_succ]
      refine wpAnyH_take (i := 9) (oi := ⟨some 8, _, _, _, _, none⟩) (v := ?_) rfl (by kernel_rfl) (by kernel_rfl) (by kernel_rfl) (fun _ _ _ h => h) (Or.inl ⟨by rfl, ?_⟩) (by assumption) ?_
      rotate_left
      · intro wz hSw; (try dsimp only at hSw); go_simp; (try with_reducible rfl)
      try simp only [Act.put, List.setIfInBounds_toArray, List.set_cons_zero, List.set_cons_succ]
      refine wpAnyH_done (by kernel_rfl) ?_ _
      go_wp2
      go_roundw
      case rel =>
        refine ⟨k + Nat.min k (n - k), by omega, by omega, ?_, ?_, hb4⟩
        · rw [I1.out]; go_num
        · rw [hg4.out, splice_rep v n k _ (by omega)]
      case measure => simp only [intOf]; simp; rw [I1.out]; omega
    · obtain rfl : k = n := by omega
      go_wp2_with fail
      go_ret
      refine ⟨w.heap.size, rfl, Nat.le_refl _, block_lt HGR.out, ?_, hbr⟩
      rw [HGR.out]
      unfold repRow
      simp
end Go.Proofs.Ytnjckaifgmliaaa
