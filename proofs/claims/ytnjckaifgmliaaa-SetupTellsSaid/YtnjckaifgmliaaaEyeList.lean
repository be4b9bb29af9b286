/- THE WALKS of layer 7's lists, with an eye. -/
import Derived.Test.YtnjckaifgmliaaaEyeFn
set_option linter.unusedSimpArgs false
set_option linter.unusedVariables false
namespace Go.Proofs.Ytnjckaifgmliaaa
open Go.RowKit Lu

/-- A list of groups of K numbers, in a block that none of these is. -/
def GrpX (W : World) (X : List Nat) (a : Option Addr) (n K : Nat) (L : List Int) : Prop := L.length = n * K ∧ (a = none → n = 0) ∧ (n = 0 ∨ ∃ b, a = some ⟨b, 0, none⟩ ∧ b ∉ X ∧ b < W.heap.size ∧ At W b 0 L)
theorem At.off2 {H S : Nat} {W W' : World} {R ro : Nat} {zs : List Int} (h : At W R ro zs) (k : Off2 H S W W') (hn : R ≠ H) (hm : R ≠ S) : At W' R ro zs := fun i z hz => k.cell (h i z hz) hn hm
theorem GrpX.off2 {W W' : World} {X : List Nat} {a : Option Addr} {n K H S : Nat} {L : List Int} (h : GrpX W X a n K L) (k : Off2 H S W W') (hH : H ∈ X) (hS : S ∈ X) : GrpX W' X a n K L := by
  refine ⟨h.1, h.2.1, ?_⟩
  rcases h.2.2 with h0 | ⟨b, ha, hn, hl, hat⟩
  · exact .inl h0
  · exact .inr ⟨b, ha, hn, Nat.lt_of_lt_of_le hl k.size, hat.off2 k (fun z => hn (z ▸ hH)) (fun z => hn (z ▸ hS))⟩
theorem GrpX.below {W W' : World} {X : List Nat} {a : Option Addr} {n K : Nat} {L : List Int} (h : GrpX W X a n K L) (k : Below W.heap.size W W') : GrpX W' X a n K L := by
  refine ⟨h.1, h.2.1, ?_⟩
  rcases h.2.2 with h0 | ⟨b, ha, hn, hl, hat⟩
  · exact .inl h0
  · exact .inr ⟨b, ha, hn, Nat.lt_of_lt_of_le hl k.size, hat.below k⟩
theorem made_zeros (zc : Array Value) (K n : Nat) (hs : zc.size = K) (hz : ∀ i, i < K → zc[i]! = .int .i64 0) (hK : 0 < K) : madeCells zc (n * K) = (List.replicate (n * K) (Value.int .i64 0)).toArray := by
  apply Array.ext
  · simp [madeCells]
  · intro i h1 h2
    simp only [madeCells, Array.getElem_map, Array.getElem_range, List.getElem_toArray, List.getElem_replicate]
    exact hz _ (by rw [hs]; exact Nat.mod_lt _ hK)
/-- What a list that is read leaves. -/
def ListDone (H HB SB S so K : Nat) (TS : TypeId) (X : List Nat) (cs : Array Value) (st : Option (List Int)) (W : World) (e : Ending) (W' : World) : Prop :=
  e = .returned (.tuple #[]) ∧ ∃ a c, EyeEnv W' H HB SB X (eyeR K st).2 ∧ W'.heap[S]? = some (.cells (cs.setIfInBounds so (.slice a (eyeM st).1 c)) TS) ∧ GrpX W' X a (eyeM st).1 K (eyeR K st).1 ∧ (eyeM st).1 ≤ c ∧ Off2 H S W W'
theorem eyeR_zero {K : Nat} {st : Option (List Int)} (h : (eyeM st).1 = 0) : eyeR K st = ([], (eyeM st).2) := by
  unfold eyeR
  rw [h, Nat.zero_mul]
  rfl
theorem set_same {cs : Array Value} {i : Nat} {v : Value} (h : cs[i]? = some v) : cs.setIfInBounds i v = cs := by
  apply Array.ext
  · simp
  · intro j h1 h2
    rw [Array.getElem_setIfInBounds]
    split
    · rename_i e
      subst e
      rw [Array.getElem?_eq_getElem (by simpa using h2)] at h
      exact (Option.some.inj h).symm
    · rfl
theorem rep_step (k K n : Nat) (h : k < n) : List.replicate ((n - k) * K) (0 : Int) = List.replicate K 0 ++ List.replicate ((n - (k + 1)) * K) 0 := by
  rw [List.replicate_append_replicate]
  congr 1
  rw [show n - k = (n - (k + 1)) + 1 by omega, Nat.succ_mul, Nat.add_comm]
theorem eyeL_rep (st : Option (List Int)) (k K : Nat) : eyeL st (List.replicate ((k + 1) * K) 0) = ((eyeL st (List.replicate (k * K) 0)).1 ++ (eyeL (eyeL st (List.replicate (k * K) 0)).2 (List.replicate K 0)).1, (eyeL (eyeL st (List.replicate (k * K) 0)).2 (List.replicate K 0)).2) := by
  rw [Nat.succ_mul, ← List.replicate_append_replicate, eyeL_append]
theorem eyeM_le (st : Option (List Int)) : (eyeM st).1 ≤ 64 := by
  unfold eyeM
  split
  · simp
  · simp only; omega

theorem info_Way : (Try.prog.info? 58).map (fun i => (i.zero, i.size, i.bytes)) = some (some (.agg #[.int .i64 0, .int .i64 0, .int .i64 0]), 3, 24) := by kernel_rfl
theorem make_Way (n : Nat) (hn : n ≤ 64) (W : World) :
    (Instr.makeSlice 22 (.int .i64 (n : Int)) (.int .i64 (n : Int))).run Try.prog W = .ok (.slice (some ⟨W.heap.size, 0, none⟩) n n) (W.alloc (.cells (List.replicate (n * 3) (Value.int .i64 0)).toArray 58)) := by
  obtain ⟨i0, hi, hz0, hz1, hz2⟩ := info_parts info_Way
  have h := run_make (P := Try.prog) W 22 58 i0 (.agg #[.int .i64 0, .int .i64 0, .int .i64 0]) Try.underlying22 hi hz0 .i64 .i64 n n (by omega) (by omega) (by rw [hz2]; omega) (by omega)
  rw [h, hz1]
  simp only [Int.toNat_natCast]
  rw [made_zeros (Value.agg #[.int .i64 0, .int .i64 0, .int .i64 0]).cells 3 n rfl (by intro i hi; rcases (show i = 0 ∨ i = 1 ∨ i = 2 by omega) with rfl | rfl | rfl <;> rfl) (by decide)]
set_option maxRecDepth 100000 in
set_option maxHeartbeats 2000000 in
theorem eye_list_Way (H HB SB S so : Nat) (TS : TypeId) (X : List Nat) (cs : Array Value) (st : Option (List Int)) (W : World) (h : EyeEnv W H HB SB X st) (hS : W.heap[S]? = some (.cells cs TS)) (hso : cs[so]? = some (.slice none 0 0)) (hSX : S ∈ X) (hn : S ≠ H) :
    Calls Try.prog 71 #[.iface 69 (.pointer (some ⟨H, 0, none⟩)), .pointer (some ⟨S, so, none⟩), .func (.func 72) #[] #[.pointer (some ⟨HB, 0, none⟩)]] W (ListDone H HB SB S so 3 TS X cs st W) := by
  have na : ∀ w, (nilAhead 274 69 (.pointer (some ⟨H, 0, none⟩)) "lumper/setup.many").run Try.prog w = .ok (some false) w := nil_ahead_eye_many _
  have ma : ∀ w, (method 274 69 (.pointer (some ⟨H, 0, none⟩)) "lumper/setup.many").run Try.prog w = .ok (139, .pointer (some ⟨H, 0, none⟩)) w := method_eye_many _
  have kd : Below W.heap.size W W.drew := (Below.refl _ _).drew
  have hs : W.cell? ⟨S, so, none⟩ = some (.slice none 0 0) := by simp [World.cell?, hS, hso]
  have hM := eyeM_le st
  have hX := h.hx
  have hHl := h.eye.lt
  have hlow : ∀ x ∈ X, x < W.heap.size := h.eye.low
  have HLOW := Lib.hid hlow
  clear hlow
  go_enter Try.func71, Try.ntmps71
  go_wp2_with fail
  have g0 : W.drew.cell? ⟨S, so, none⟩ = some (.slice none 0 0) := hs
  refine wp_region_held_drew (S := (fun w' => w'.cell? ⟨S, so, none⟩ = some (.slice none 0 0))) (by kernel_rfl) ?_ (fun hHeld => ?_)
  · exact g0
  refine wpAnyH_take (i := 0) (oi := ⟨some 8, _, _, _, _, none⟩) (v := ?_) rfl (by kernel_rfl) (by kernel_rfl) (by kernel_rfl) (fun _ _ _ h => h) (Or.inl ⟨by rfl, ?_⟩) (by assumption) ?_
  rotate_left
  · intro wz hSw; (try dsimp only at hSw); go_simp; (try with_reducible rfl)
  try simp only [Act.put, List.setIfInBounds_toArray, List.set_cons_zero, List.set_cons_succ]
  refine wpAnyH_take (i := 1) (oi := ⟨some 9, _, _, _, _, none⟩) (v := ?_) rfl (by kernel_rfl) (by kernel_rfl) (by kernel_rfl) (fun _ _ _ h => h) (Or.inl ⟨by rfl, ?_⟩) (by assumption) ?_
  rotate_left
  · intro wz hSw; (try dsimp only at hSw); go_simp; (try with_reducible rfl)
  try simp only [Act.put, List.setIfInBounds_toArray, List.set_cons_zero, List.set_cons_succ]
  refine wpAnyH_take (i := 2) (oi := ⟨some 10, _, _, _, _, none⟩) (v := ?_) rfl (by kernel_rfl) (by kernel_rfl) (by kernel_rfl) (fun _ _ _ h => h) (Or.inl ⟨by rfl, ?_⟩) (by assumption) ?_
  rotate_left
  · intro wz hSw; (try dsimp only at hSw); go_simp; (try with_reducible rfl)
  try simp only [Act.put, List.setIfInBounds_toArray, List.set_cons_zero, List.set_cons_succ]
  refine wpAnyH_take (i := 3) (oi := ⟨some 11, _, _, _, _, none⟩) (v := ?_) rfl (by kernel_rfl) (by kernel_rfl) (by kernel_rfl) (fun _ _ _ h => h) (Or.inl ⟨by rfl, ?_⟩) (by assumption) ?_
  rotate_left
  · intro wz hSw; (try dsimp only at hSw); go_simp; (try with_reducible rfl)
  try simp only [Act.put, List.setIfInBounds_toArray, List.set_cons_zero, List.set_cons_succ]
  refine wpAnyH_take (i := 4) (oi := ⟨some 12, _, _, _, _, none⟩) (v := ?_) rfl (by kernel_rfl) (by kernel_rfl) (by kernel_rfl) (fun _ _ _ h => h) (Or.inl ⟨by rfl, ?_⟩) (by assumption) ?_
  rotate_left
  · intro wz hSw; (try dsimp only at hSw); go_simp; (try with_reducible rfl)
  try simp only [Act.put, List.setIfInBounds_toArray, List.set_cons_zero, List.set_cons_succ]
  refine wpAnyH_take (i := 5) (oi := ⟨some 13, _, _, _, _, none⟩) (v := ?_) rfl (by kernel_rfl) (by kernel_rfl) (by kernel_rfl) (fun _ _ _ h => h) (Or.inl ⟨by rfl, ?_⟩) (by assumption) ?_
  rotate_left
  · intro wz hSw; (try dsimp only at hSw); go_simp; (try with_reducible rfl)
  try simp only [Act.put, List.setIfInBounds_toArray, List.set_cons_zero, List.set_cons_succ]
  refine wpAnyH_take (i := 6) (oi := ⟨some 14, _, _, _, _, none⟩) (v := ?_) rfl (by kernel_rfl) (by kernel_rfl) (by kernel_rfl) (fun _ _ _ h => h) (Or.inl ⟨by rfl, ?_⟩) (by assumption) ?_
  rotate_left
  · intro wz hSw; (try dsimp only at hSw); go_simp; (try with_reducible rfl)
  try simp only [Act.put, List.setIfInBounds_toArray, List.set_cons_zero, List.set_cons_succ]
  refine wpAnyH_take (i := 7) (oi := ⟨some 15, _, _, _, _, none⟩) (v := ?_) rfl (by kernel_rfl) (by kernel_rfl) (by kernel_rfl) (fun _ _ _ h => h) (Or.inl ⟨by rfl, ?_⟩) (by assumption) ?_
  rotate_left
  · intro wz hSw; (try dsimp only at hSw); go_simp; (try with_reducible rfl)
  try simp only [Act.put, List.setIfInBounds_toArray, List.set_cons_zero, List.set_cons_succ]
  refine wpAnyH_ready (rs := [8]) (by kernel_rfl) (by simp) ?_
  refine AllReadyH.cons (o := ⟨some 16, _, _, _, _, none⟩) rfl (fun K hK => ?_) AllReadyH.nil
  go_simp
  refine (eye_many H X 0 st _ (h.below kd).eye h.hx).mono ?_
  rintro e1 w1 ⟨rfl, hp1, o1⟩
  replace g0 := o1.cell g0 hn
  refine hK.out _ _ ?_ (fun hHeld => ?_)
  · exact g0
  clear hK K
  try simp only [Act.put, List.setIfInBounds_toArray, List.set_cons_zero, List.set_cons_succ]
  refine wpAnyH_take (i := 9) (oi := ⟨some 6, _, _, _, _, none⟩) (v := ?_) rfl (by kernel_rfl) (by kernel_rfl) (by kernel_rfl) (fun _ _ _ h => h) (Or.inl ⟨by rfl, ?_⟩) (by assumption) ?_
  rotate_left
  · intro wz hSw; (try dsimp only at hSw); go_simp; (try with_reducible rfl)
  try simp only [Act.put, List.setIfInBounds_toArray, List.set_cons_zero, List.set_cons_succ]
  refine wpAnyH_done (by kernel_rfl) ?_ _
  have o0 : Off H W w1 := (Below.off kd).trans o1
  have h1 : EyeEnv w1 H HB SB X (eyeM st).2 := h.off (R := H) o0.two h.hx hp1
  have hS1 := o0.at hS hn
  clear o1 hp1 h hs kd hHeld hS
  obtain ⟨n, hN⟩ : ∃ n, (eyeM st).1 = n := ⟨_, rfl⟩
  rw [hN] at hM
  by_cases h0 : n = 0
  · have hz := eyeR_zero (K := 3) (hN.trans h0)
    subst h0
    have hfin : ListDone H HB SB S so 3 TS X cs st W (.returned (.tuple #[])) w1 := by
      refine ⟨rfl, none, 0, ?_, ?_, ?_, ?_, o0.two⟩
      · rw [hz]; exact h1
      · rw [hN, set_same hso]; exact hS1
      · rw [hz, hN]; exact ⟨by simp, fun _ => rfl, .inl rfl⟩
      · rw [hN]; exact Nat.le_refl _
    have HFIN := Lib.hid hfin
    have hN' : ((eyeM st).1 : Int) = 0 := by rw [hN]; rfl
    rw [hN']
    clear hfin h1 hS1 hso hz hN hN'
    go_wp2_with fail
    go_loopw [31] (fun i wr => i = .int .i64 0 ∧ wr = w1) (fun i _ => 1 - (intOf i).toNat)
    case atStart => exact ⟨rfl, rfl⟩
    case round =>
      obtain ⟨rfl, rfl⟩ := hrel
      go_wp2_with fail
      refine bodyPost_end (v := .tuple #[]) (by simp [results, Try.results71, go_sem]) rfl HFIN.out
  · have hne : ((0 : Int) == (n : Int)) = false := by rw [beq_eq_false_iff_ne]; omega
    have hne' : ((0 : Int) != (n : Int)) = true := by rw [bne_iff_ne]; omega
    have hmk := make_Way n (by omega)
    have f0 : ∀ T zs, (w1.alloc (.cells zs T)).frozen? ⟨S, so, none⟩ = false := fun T zs => by
      have := box_keep (B := w1.heap.size) (w1 := w1.alloc (.cells zs T)) (by go_grown) hS1 (block_lt hS1)
      simp [World.frozen?, this]
    have zS := block_lt hS1
    have HSO := Lib.hid hso
    have HH1 := Lib.hid h1
    have HS1 := Lib.hid hS1
    have HN := Lib.hid hN
    have hRdef : eyeR 3 st = eyeL (eyeM st).2 (List.replicate ((eyeM st).1 * 3) 0) := rfl
    rw [hN] at hRdef
    have HRD := Lib.hid hRdef
    rw [hN]
    clear h1 hS1 hN hso hRdef
    go_wp2_with fail
    refine gen_code (S := fun V => EyeEnv V H HB SB (w1.heap.size :: X) (eyeM st).2 ∧ V.heap[S]? = some (.cells (cs.setIfInBounds so (.slice (some ⟨w1.heap.size, 0, none⟩) n n)) TS) ∧ Blk3 V w1.heap.size 58 [] (List.replicate (n * 3) 0) [] ∧ Off2 H S W V) ?_ (fun V hV => ?_)
    · have O1 : Off2 H S w1 (w1.setCell ⟨S, so, none⟩ (.slice (some ⟨w1.heap.size, 0, none⟩) n n)) := (Off2.refl H S w1).setCell (.inr rfl) _
      have he0 := HH1.out.off O1 hSX (HH1.out.eye.off (R := S) O1.size (fun b _ hb => Below.heap_setCell _ _ _ _ hb) hSX hn)
      have hS2 := heap_setCell (i := so) HS1.out (.slice (some ⟨w1.heap.size, 0, none⟩) n n)
      have hsz : (w1.setCell ⟨S, so, none⟩ (.slice (some ⟨w1.heap.size, 0, none⟩) n n)).heap.size = w1.heap.size := by simp [World.setCell]
      have hb := box_new (w1.setCell ⟨S, so, none⟩ (.slice (some ⟨w1.heap.size, 0, none⟩) n n)) w1.heap.size hsz.symm (Array.replicate (n * 3) (Value.int .i64 0)) 58
      generalize w1.setCell ⟨S, so, none⟩ (.slice (some ⟨w1.heap.size, 0, none⟩) n n) = wS at *
      have ka : Below wS.heap.size wS (wS.alloc (.cells (Array.replicate (n * 3) (Value.int .i64 0)) 58)) := by go_grown
      refine ⟨he0.more ka (by omega) (by simp; omega), box_keep ka hS2 (by omega), ?_, o0.two.trans (O1.trans (Below.off2 ka))⟩
      unfold Blk3
      simpa using hb
    obtain ⟨he, hS2, hb, ho⟩ := hV
    have gs : V.cell? ⟨S, so, none⟩ = some (.slice (some ⟨w1.heap.size, 0, none⟩) n n) := by
      have := (Array.getElem?_eq_some_iff.1 HSO.out).1
      simp [World.cell?, hS2, this]
    have HW := Lib.hid o0
    obtain ⟨R, hRR⟩ : ∃ R, w1.heap.size = R := ⟨_, rfl⟩
    rw [hRR] at he hS2 hb gs zS ⊢
    have hRW : W.heap.size ≤ R := by have := HW.out.size; omega
    clear f0 hmk HH1 HS1 HW o0 g0 hne hne' hRR w1
    go_wp2_with fail
    go_loopw [31] (fun i wr => ∃ k : Nat, k ≤ n ∧ i = .int .i64 k ∧ EyeEnv wr H HB SB (R :: X) (eyeL (eyeM st).2 (List.replicate (k * 3) 0)).2 ∧ Blk3 wr R 58 [] ((eyeL (eyeM st).2 (List.replicate (k * 3) 0)).1 ++ List.replicate ((n - k) * 3) 0) [] ∧ Off2 H S W wr ∧ wr.heap[S]? = some (.cells (cs.setIfInBounds so (.slice (some ⟨R, 0, none⟩) n n)) TS)) (fun i _ => n - (intOf i).toNat)
    case atStart => exact ⟨0, by omega, rfl, by rw [Nat.zero_mul]; exact he, by rw [Nat.zero_mul]; exact hb, ho, hS2⟩
    case round =>
      clear he hb ho hS2 gs
      obtain ⟨k, hk, rfl, he, hb, ho, hS2⟩ := hrel
      have gs : wr.cell? ⟨S, so, none⟩ = some (.slice (some ⟨R, 0, none⟩) n n) := by
        have := (Array.getElem?_eq_some_iff.1 HSO.out).1
        simp [World.cell?, hS2, this]
      by_cases hlt : k < n
      · have hk0 : (0 : Int) ≤ (k : Int) := by omega
        have hk1 : (k : Int) < (n : Int) := by omega
        rw [rep_step k 3 n hlt, ← List.append_assoc] at hb
        have hstep := eyeL_rep (eyeM st).2 k 3
        have hl1 : (eyeL (eyeM st).2 (List.replicate (k * 3) 0)).1.length = k * 3 := by rw [eyeL_len, List.length_replicate]
        generalize eyeL (eyeM st).2 (List.replicate (k * 3) 0) = sk at *
        obtain ⟨lk, sk⟩ := sk
        simp only at he hb hstep hl1
        have KEY := Lib.hid (eye_way H HB SB R (k * 3) 58 (R :: X) ([] ++ lk.map (Value.int .i64)) _ (List.replicate 3 0) sk wr he (Blk3.right (Blk3.left hb)) (by simp [hl1]) (by simp) (by simp) (by omega))
        have HST := Lib.hid hstep
        have HS2 := Lib.hid hS2
        have HO := Lib.hid ho
        clear hb he hstep hS2 ho hl1
        go_wp2_with fail
        refine KEY.out.mono ?_
        rintro e2 w2 ⟨rfl, he2, hb2, ho2⟩
        have hRS : S ≠ R := by omega
        have hS3 := ho2.at HS2.out hn hRS
        have hb3 := Blk3.join (Blk3.join' hb2)
        have ho3 := HO.out.fresh ho2 hRW
        have HB3 := Lib.hid hb3
        have HS3 := Lib.hid hS3
        clear KEY gs hb2 ho2 hb3 hS3
        go_wp2_with fail
        go_roundw
        case rel =>
          refine ⟨k + 1, by omega, by go_num, ?_, ?_, ho3, HS3.out⟩
          · rw [HST.out]; exact he2
          · rw [HST.out]; simp only [List.append_assoc]; exact HB3.out
        case measure => simp [intOf]; omega
      · obtain rfl : n = k := by omega
        rw [Nat.sub_self, Nat.zero_mul, List.replicate_zero, List.append_nil] at hb
        rw [← HRD.out] at hb he
        have hfin : ListDone H HB SB S so 3 TS X cs st W (.returned (.tuple #[])) wr := by
          refine ⟨rfl, some ⟨R, 0, none⟩, n, he.less (fun x hx => by simp [hx]) hX, ?_, ?_, ?_, ho⟩
          · rw [HN.out]; exact hS2
          · rw [HN.out]
            refine ⟨by rw [HRD.out, eyeL_len, List.length_replicate], fun z => by (cases z), .inr ⟨R, rfl, ?_, block_lt hb, fun i z hz => ?_⟩⟩
            · intro hx
              have := HLOW.out R hx
              omega
            · have := hb.cell hz
              simpa using this
          · rw [HN.out]; exact Nat.le_refl _
        have HFIN := Lib.hid hfin
        clear hfin hb he ho hS2
        go_wp2_with fail
        refine bodyPost_end (v := .tuple #[]) (by simp [results, Try.results71, go_sem]) rfl HFIN.out

theorem info_Element : (Try.prog.info? 74).map (fun i => (i.zero, i.size, i.bytes)) = some (some (.agg #[.int .i64 0, .int .i64 0, .int .i64 0, .int .i64 0]), 4, 32) := by kernel_rfl
theorem make_Element (n : Nat) (hn : n ≤ 64) (W : World) :
    (Instr.makeSlice 25 (.int .i64 (n : Int)) (.int .i64 (n : Int))).run Try.prog W = .ok (.slice (some ⟨W.heap.size, 0, none⟩) n n) (W.alloc (.cells (List.replicate (n * 4) (Value.int .i64 0)).toArray 74)) := by
  obtain ⟨i0, hi, hz0, hz1, hz2⟩ := info_parts info_Element
  have h := run_make (P := Try.prog) W 25 74 i0 (.agg #[.int .i64 0, .int .i64 0, .int .i64 0, .int .i64 0]) Try.underlying25 hi hz0 .i64 .i64 n n (by omega) (by omega) (by rw [hz2]; omega) (by omega)
  rw [h, hz1]
  simp only [Int.toNat_natCast]
  rw [made_zeros (Value.agg #[.int .i64 0, .int .i64 0, .int .i64 0, .int .i64 0]).cells 4 n rfl (by intro i hi; rcases (show i = 0 ∨ i = 1 ∨ i = 2 ∨ i = 3 by omega) with rfl | rfl | rfl | rfl <;> rfl) (by decide)]
set_option maxRecDepth 100000 in
set_option maxHeartbeats 2000000 in
theorem eye_list_Element (H HB SB S so : Nat) (TS : TypeId) (X : List Nat) (cs : Array Value) (st : Option (List Int)) (W : World) (h : EyeEnv W H HB SB X st) (hS : W.heap[S]? = some (.cells cs TS)) (hso : cs[so]? = some (.slice none 0 0)) (hSX : S ∈ X) (hn : S ≠ H) :
    Calls Try.prog 73 #[.iface 69 (.pointer (some ⟨H, 0, none⟩)), .pointer (some ⟨S, so, none⟩), .func (.func 74) #[] #[.pointer (some ⟨SB, 0, none⟩)]] W (ListDone H HB SB S so 4 TS X cs st W) := by
  have na : ∀ w, (nilAhead 274 69 (.pointer (some ⟨H, 0, none⟩)) "lumper/setup.many").run Try.prog w = .ok (some false) w := nil_ahead_eye_many _
  have ma : ∀ w, (method 274 69 (.pointer (some ⟨H, 0, none⟩)) "lumper/setup.many").run Try.prog w = .ok (139, .pointer (some ⟨H, 0, none⟩)) w := method_eye_many _
  have kd : Below W.heap.size W W.drew := (Below.refl _ _).drew
  have hs : W.cell? ⟨S, so, none⟩ = some (.slice none 0 0) := by simp [World.cell?, hS, hso]
  have hM := eyeM_le st
  have hX := h.hx
  have hHl := h.eye.lt
  have hlow : ∀ x ∈ X, x < W.heap.size := h.eye.low
  have HLOW := Lib.hid hlow
  clear hlow
  go_enter Try.func73, Try.ntmps73
  go_wp2_with fail
  have g0 : W.drew.cell? ⟨S, so, none⟩ = some (.slice none 0 0) := hs
  refine wp_region_held_drew (S := (fun w' => w'.cell? ⟨S, so, none⟩ = some (.slice none 0 0))) (by kernel_rfl) ?_ (fun hHeld => ?_)
  · exact g0
  refine wpAnyH_take (i := 0) (oi := ⟨some 8, _, _, _, _, none⟩) (v := ?_) rfl (by kernel_rfl) (by kernel_rfl) (by kernel_rfl) (fun _ _ _ h => h) (Or.inl ⟨by rfl, ?_⟩) (by assumption) ?_
  rotate_left
  · intro wz hSw; (try dsimp only at hSw); go_simp; (try with_reducible rfl)
  try simp only [Act.put, List.setIfInBounds_toArray, List.set_cons_zero, List.set_cons_succ]
  refine wpAnyH_take (i := 1) (oi := ⟨some 9, _, _, _, _, none⟩) (v := ?_) rfl (by kernel_rfl) (by kernel_rfl) (by kernel_rfl) (fun _ _ _ h => h) (Or.inl ⟨by rfl, ?_⟩) (by assumption) ?_
  rotate_left
  · intro wz hSw; (try dsimp only at hSw); go_simp; (try with_reducible rfl)
  try simp only [Act.put, List.setIfInBounds_toArray, List.set_cons_zero, List.set_cons_succ]
  refine wpAnyH_take (i := 2) (oi := ⟨some 10, _, _, _, _, none⟩) (v := ?_) rfl (by kernel_rfl) (by kernel_rfl) (by kernel_rfl) (fun _ _ _ h => h) (Or.inl ⟨by rfl, ?_⟩) (by assumption) ?_
  rotate_left
  · intro wz hSw; (try dsimp only at hSw); go_simp; (try with_reducible rfl)
  try simp only [Act.put, List.setIfInBounds_toArray, List.set_cons_zero, List.set_cons_succ]
  refine wpAnyH_take (i := 3) (oi := ⟨some 11, _, _, _, _, none⟩) (v := ?_) rfl (by kernel_rfl) (by kernel_rfl) (by kernel_rfl) (fun _ _ _ h => h) (Or.inl ⟨by rfl, ?_⟩) (by assumption) ?_
  rotate_left
  · intro wz hSw; (try dsimp only at hSw); go_simp; (try with_reducible rfl)
  try simp only [Act.put, List.setIfInBounds_toArray, List.set_cons_zero, List.set_cons_succ]
  refine wpAnyH_take (i := 4) (oi := ⟨some 12, _, _, _, _, none⟩) (v := ?_) rfl (by kernel_rfl) (by kernel_rfl) (by kernel_rfl) (fun _ _ _ h => h) (Or.inl ⟨by rfl, ?_⟩) (by assumption) ?_
  rotate_left
  · intro wz hSw; (try dsimp only at hSw); go_simp; (try with_reducible rfl)
  try simp only [Act.put, List.setIfInBounds_toArray, List.set_cons_zero, List.set_cons_succ]
  refine wpAnyH_take (i := 5) (oi := ⟨some 13, _, _, _, _, none⟩) (v := ?_) rfl (by kernel_rfl) (by kernel_rfl) (by kernel_rfl) (fun _ _ _ h => h) (Or.inl ⟨by rfl, ?_⟩) (by assumption) ?_
  rotate_left
  · intro wz hSw; (try dsimp only at hSw); go_simp; (try with_reducible rfl)
  try simp only [Act.put, List.setIfInBounds_toArray, List.set_cons_zero, List.set_cons_succ]
  refine wpAnyH_take (i := 6) (oi := ⟨some 14, _, _, _, _, none⟩) (v := ?_) rfl (by kernel_rfl) (by kernel_rfl) (by kernel_rfl) (fun _ _ _ h => h) (Or.inl ⟨by rfl, ?_⟩) (by assumption) ?_
  rotate_left
  · intro wz hSw; (try dsimp only at hSw); go_simp; (try with_reducible rfl)
  try simp only [Act.put, List.setIfInBounds_toArray, List.set_cons_zero, List.set_cons_succ]
  refine wpAnyH_take (i := 7) (oi := ⟨some 15, _, _, _, _, none⟩) (v := ?_) rfl (by kernel_rfl) (by kernel_rfl) (by kernel_rfl) (fun _ _ _ h => h) (Or.inl ⟨by rfl, ?_⟩) (by assumption) ?_
  rotate_left
  · intro wz hSw; (try dsimp only at hSw); go_simp; (try with_reducible rfl)
  try simp only [Act.put, List.setIfInBounds_toArray, List.set_cons_zero, List.set_cons_succ]
  refine wpAnyH_ready (rs := [8]) (by kernel_rfl) (by simp) ?_
  refine AllReadyH.cons (o := ⟨some 16, _, _, _, _, none⟩) rfl (fun K hK => ?_) AllReadyH.nil
  go_simp
  refine (eye_many H X 0 st _ (h.below kd).eye h.hx).mono ?_
  rintro e1 w1 ⟨rfl, hp1, o1⟩
  replace g0 := o1.cell g0 hn
  refine hK.out _ _ ?_ (fun hHeld => ?_)
  · exact g0
  clear hK K
  try simp only [Act.put, List.setIfInBounds_toArray, List.set_cons_zero, List.set_cons_succ]
  refine wpAnyH_take (i := 9) (oi := ⟨some 6, _, _, _, _, none⟩) (v := ?_) rfl (by kernel_rfl) (by kernel_rfl) (by kernel_rfl) (fun _ _ _ h => h) (Or.inl ⟨by rfl, ?_⟩) (by assumption) ?_
  rotate_left
  · intro wz hSw; (try dsimp only at hSw); go_simp; (try with_reducible rfl)
  try simp only [Act.put, List.setIfInBounds_toArray, List.set_cons_zero, List.set_cons_succ]
  refine wpAnyH_done (by kernel_rfl) ?_ _
  have o0 : Off H W w1 := (Below.off kd).trans o1
  have h1 : EyeEnv w1 H HB SB X (eyeM st).2 := h.off (R := H) o0.two h.hx hp1
  have hS1 := o0.at hS hn
  clear o1 hp1 h hs kd hHeld hS
  obtain ⟨n, hN⟩ : ∃ n, (eyeM st).1 = n := ⟨_, rfl⟩
  rw [hN] at hM
  by_cases h0 : n = 0
  · have hz := eyeR_zero (K := 4) (hN.trans h0)
    subst h0
    have hfin : ListDone H HB SB S so 4 TS X cs st W (.returned (.tuple #[])) w1 := by
      refine ⟨rfl, none, 0, ?_, ?_, ?_, ?_, o0.two⟩
      · rw [hz]; exact h1
      · rw [hN, set_same hso]; exact hS1
      · rw [hz, hN]; exact ⟨by simp, fun _ => rfl, .inl rfl⟩
      · rw [hN]; exact Nat.le_refl _
    have HFIN := Lib.hid hfin
    have hN' : ((eyeM st).1 : Int) = 0 := by rw [hN]; rfl
    rw [hN']
    clear hfin h1 hS1 hso hz hN hN'
    go_wp2_with fail
    go_loopw [31] (fun i wr => i = .int .i64 0 ∧ wr = w1) (fun i _ => 1 - (intOf i).toNat)
    case atStart => exact ⟨rfl, rfl⟩
    case round =>
      obtain ⟨rfl, rfl⟩ := hrel
      go_wp2_with fail
      refine bodyPost_end (v := .tuple #[]) (by simp [results, Try.results73, go_sem]) rfl HFIN.out
  · have hne : ((0 : Int) == (n : Int)) = false := by rw [beq_eq_false_iff_ne]; omega
    have hne' : ((0 : Int) != (n : Int)) = true := by rw [bne_iff_ne]; omega
    have hmk := make_Element n (by omega)
    have f0 : ∀ T zs, (w1.alloc (.cells zs T)).frozen? ⟨S, so, none⟩ = false := fun T zs => by
      have := box_keep (B := w1.heap.size) (w1 := w1.alloc (.cells zs T)) (by go_grown) hS1 (block_lt hS1)
      simp [World.frozen?, this]
    have zS := block_lt hS1
    have HSO := Lib.hid hso
    have HH1 := Lib.hid h1
    have HS1 := Lib.hid hS1
    have HN := Lib.hid hN
    have hRdef : eyeR 4 st = eyeL (eyeM st).2 (List.replicate ((eyeM st).1 * 4) 0) := rfl
    rw [hN] at hRdef
    have HRD := Lib.hid hRdef
    rw [hN]
    clear h1 hS1 hN hso hRdef
    go_wp2_with fail
    refine gen_code (S := fun V => EyeEnv V H HB SB (w1.heap.size :: X) (eyeM st).2 ∧ V.heap[S]? = some (.cells (cs.setIfInBounds so (.slice (some ⟨w1.heap.size, 0, none⟩) n n)) TS) ∧ Blk3 V w1.heap.size 74 [] (List.replicate (n * 4) 0) [] ∧ Off2 H S W V) ?_ (fun V hV => ?_)
    · have O1 : Off2 H S w1 (w1.setCell ⟨S, so, none⟩ (.slice (some ⟨w1.heap.size, 0, none⟩) n n)) := (Off2.refl H S w1).setCell (.inr rfl) _
      have he0 := HH1.out.off O1 hSX (HH1.out.eye.off (R := S) O1.size (fun b _ hb => Below.heap_setCell _ _ _ _ hb) hSX hn)
      have hS2 := heap_setCell (i := so) HS1.out (.slice (some ⟨w1.heap.size, 0, none⟩) n n)
      have hsz : (w1.setCell ⟨S, so, none⟩ (.slice (some ⟨w1.heap.size, 0, none⟩) n n)).heap.size = w1.heap.size := by simp [World.setCell]
      have hb := box_new (w1.setCell ⟨S, so, none⟩ (.slice (some ⟨w1.heap.size, 0, none⟩) n n)) w1.heap.size hsz.symm (Array.replicate (n * 4) (Value.int .i64 0)) 74
      generalize w1.setCell ⟨S, so, none⟩ (.slice (some ⟨w1.heap.size, 0, none⟩) n n) = wS at *
      have ka : Below wS.heap.size wS (wS.alloc (.cells (Array.replicate (n * 4) (Value.int .i64 0)) 74)) := by go_grown
      refine ⟨he0.more ka (by omega) (by simp; omega), box_keep ka hS2 (by omega), ?_, o0.two.trans (O1.trans (Below.off2 ka))⟩
      unfold Blk3
      simpa using hb
    obtain ⟨he, hS2, hb, ho⟩ := hV
    have gs : V.cell? ⟨S, so, none⟩ = some (.slice (some ⟨w1.heap.size, 0, none⟩) n n) := by
      have := (Array.getElem?_eq_some_iff.1 HSO.out).1
      simp [World.cell?, hS2, this]
    have HW := Lib.hid o0
    obtain ⟨R, hRR⟩ : ∃ R, w1.heap.size = R := ⟨_, rfl⟩
    rw [hRR] at he hS2 hb gs zS ⊢
    have hRW : W.heap.size ≤ R := by have := HW.out.size; omega
    clear f0 hmk HH1 HS1 HW o0 g0 hne hne' hRR w1
    go_wp2_with fail
    go_loopw [31] (fun i wr => ∃ k : Nat, k ≤ n ∧ i = .int .i64 k ∧ EyeEnv wr H HB SB (R :: X) (eyeL (eyeM st).2 (List.replicate (k * 4) 0)).2 ∧ Blk3 wr R 74 [] ((eyeL (eyeM st).2 (List.replicate (k * 4) 0)).1 ++ List.replicate ((n - k) * 4) 0) [] ∧ Off2 H S W wr ∧ wr.heap[S]? = some (.cells (cs.setIfInBounds so (.slice (some ⟨R, 0, none⟩) n n)) TS)) (fun i _ => n - (intOf i).toNat)
    case atStart => exact ⟨0, by omega, rfl, by rw [Nat.zero_mul]; exact he, by rw [Nat.zero_mul]; exact hb, ho, hS2⟩
    case round =>
      clear he hb ho hS2 gs
      obtain ⟨k, hk, rfl, he, hb, ho, hS2⟩ := hrel
      have gs : wr.cell? ⟨S, so, none⟩ = some (.slice (some ⟨R, 0, none⟩) n n) := by
        have := (Array.getElem?_eq_some_iff.1 HSO.out).1
        simp [World.cell?, hS2, this]
      by_cases hlt : k < n
      · have hk0 : (0 : Int) ≤ (k : Int) := by omega
        have hk1 : (k : Int) < (n : Int) := by omega
        rw [rep_step k 4 n hlt, ← List.append_assoc] at hb
        have hstep := eyeL_rep (eyeM st).2 k 4
        have hl1 : (eyeL (eyeM st).2 (List.replicate (k * 4) 0)).1.length = k * 4 := by rw [eyeL_len, List.length_replicate]
        generalize eyeL (eyeM st).2 (List.replicate (k * 4) 0) = sk at *
        obtain ⟨lk, sk⟩ := sk
        simp only at he hb hstep hl1
        have KEY := Lib.hid (eye_element H HB SB R (k * 4) 74 (R :: X) ([] ++ lk.map (Value.int .i64)) _ (List.replicate 4 0) sk wr he (Blk3.right (Blk3.left hb)) (by simp [hl1]) (by simp) (by simp) (by omega))
        have HST := Lib.hid hstep
        have HS2 := Lib.hid hS2
        have HO := Lib.hid ho
        clear hb he hstep hS2 ho hl1
        go_wp2_with fail
        refine KEY.out.mono ?_
        rintro e2 w2 ⟨rfl, he2, hb2, ho2⟩
        have hRS : S ≠ R := by omega
        have hS3 := ho2.at HS2.out hn hRS
        have hb3 := Blk3.join (Blk3.join' hb2)
        have ho3 := HO.out.fresh ho2 hRW
        have HB3 := Lib.hid hb3
        have HS3 := Lib.hid hS3
        clear KEY gs hb2 ho2 hb3 hS3
        go_wp2_with fail
        go_roundw
        case rel =>
          refine ⟨k + 1, by omega, by go_num, ?_, ?_, ho3, HS3.out⟩
          · rw [HST.out]; exact he2
          · rw [HST.out]; simp only [List.append_assoc]; exact HB3.out
        case measure => simp [intOf]; omega
      · obtain rfl : n = k := by omega
        rw [Nat.sub_self, Nat.zero_mul, List.replicate_zero, List.append_nil] at hb
        rw [← HRD.out] at hb he
        have hfin : ListDone H HB SB S so 4 TS X cs st W (.returned (.tuple #[])) wr := by
          refine ⟨rfl, some ⟨R, 0, none⟩, n, he.less (fun x hx => by simp [hx]) hX, ?_, ?_, ?_, ho⟩
          · rw [HN.out]; exact hS2
          · rw [HN.out]
            refine ⟨by rw [HRD.out, eyeL_len, List.length_replicate], fun z => by (cases z), .inr ⟨R, rfl, ?_, block_lt hb, fun i z hz => ?_⟩⟩
            · intro hx
              have := HLOW.out R hx
              omega
            · have := hb.cell hz
              simpa using this
          · rw [HN.out]; exact Nat.le_refl _
        have HFIN := Lib.hid hfin
        clear hfin hb he ho hS2
        go_wp2_with fail
        refine bodyPost_end (v := .tuple #[]) (by simp [results, Try.results73, go_sem]) rfl HFIN.out

theorem info_Ratio : (Try.prog.info? 24).map (fun i => (i.zero, i.size, i.bytes)) = some (some (.agg #[.int .i64 0, .int .i64 0]), 2, 16) := by kernel_rfl
theorem make_Ratio (n : Nat) (hn : n ≤ 64) (W : World) :
    (Instr.makeSlice 26 (.int .i64 (n : Int)) (.int .i64 (n : Int))).run Try.prog W = .ok (.slice (some ⟨W.heap.size, 0, none⟩) n n) (W.alloc (.cells (List.replicate (n * 2) (Value.int .i64 0)).toArray 24)) := by
  obtain ⟨i0, hi, hz0, hz1, hz2⟩ := info_parts info_Ratio
  have h := run_make (P := Try.prog) W 26 24 i0 (.agg #[.int .i64 0, .int .i64 0]) Try.underlying26 hi hz0 .i64 .i64 n n (by omega) (by omega) (by rw [hz2]; omega) (by omega)
  rw [h, hz1]
  simp only [Int.toNat_natCast]
  rw [made_zeros (Value.agg #[.int .i64 0, .int .i64 0]).cells 2 n rfl (by intro i hi; rcases (show i = 0 ∨ i = 1 by omega) with rfl | rfl <;> rfl) (by decide)]
set_option maxRecDepth 100000 in
set_option maxHeartbeats 2000000 in
theorem eye_list_Ratio (H HB SB S so : Nat) (TS : TypeId) (X : List Nat) (cs : Array Value) (st : Option (List Int)) (W : World) (h : EyeEnv W H HB SB X st) (hS : W.heap[S]? = some (.cells cs TS)) (hso : cs[so]? = some (.slice none 0 0)) (hSX : S ∈ X) (hn : S ≠ H) :
    Calls Try.prog 75 #[.iface 69 (.pointer (some ⟨H, 0, none⟩)), .pointer (some ⟨S, so, none⟩), .func (.func 70) #[] #[.pointer (some ⟨HB, 0, none⟩)]] W (ListDone H HB SB S so 2 TS X cs st W) := by
  have na : ∀ w, (nilAhead 274 69 (.pointer (some ⟨H, 0, none⟩)) "lumper/setup.many").run Try.prog w = .ok (some false) w := nil_ahead_eye_many _
  have ma : ∀ w, (method 274 69 (.pointer (some ⟨H, 0, none⟩)) "lumper/setup.many").run Try.prog w = .ok (139, .pointer (some ⟨H, 0, none⟩)) w := method_eye_many _
  have kd : Below W.heap.size W W.drew := (Below.refl _ _).drew
  have hs : W.cell? ⟨S, so, none⟩ = some (.slice none 0 0) := by simp [World.cell?, hS, hso]
  have hM := eyeM_le st
  have hX := h.hx
  have hHl := h.eye.lt
  have hlow : ∀ x ∈ X, x < W.heap.size := h.eye.low
  have HLOW := Lib.hid hlow
  clear hlow
  go_enter Try.func75, Try.ntmps75
  go_wp2_with fail
  have g0 : W.drew.cell? ⟨S, so, none⟩ = some (.slice none 0 0) := hs
  refine wp_region_held_drew (S := (fun w' => w'.cell? ⟨S, so, none⟩ = some (.slice none 0 0))) (by kernel_rfl) ?_ (fun hHeld => ?_)
  · exact g0
  refine wpAnyH_take (i := 0) (oi := ⟨some 8, _, _, _, _, none⟩) (v := ?_) rfl (by kernel_rfl) (by kernel_rfl) (by kernel_rfl) (fun _ _ _ h => h) (Or.inl ⟨by rfl, ?_⟩) (by assumption) ?_
  rotate_left
  · intro wz hSw; (try dsimp only at hSw); go_simp; (try with_reducible rfl)
  try simp only [Act.put, List.setIfInBounds_toArray, List.set_cons_zero, List.set_cons_succ]
  refine wpAnyH_take (i := 1) (oi := ⟨some 9, _, _, _, _, none⟩) (v := ?_) rfl (by kernel_rfl) (by kernel_rfl) (by kernel_rfl) (fun _ _ _ h => h) (Or.inl ⟨by rfl, ?_⟩) (by assumption) ?_
  rotate_left
  · intro wz hSw; (try dsimp only at hSw); go_simp; (try with_reducible rfl)
  try simp only [Act.put, List.setIfInBounds_toArray, List.set_cons_zero, List.set_cons_succ]
  refine wpAnyH_take (i := 2) (oi := ⟨some 10, _, _, _, _, none⟩) (v := ?_) rfl (by kernel_rfl) (by kernel_rfl) (by kernel_rfl) (fun _ _ _ h => h) (Or.inl ⟨by rfl, ?_⟩) (by assumption) ?_
  rotate_left
  · intro wz hSw; (try dsimp only at hSw); go_simp; (try with_reducible rfl)
  try simp only [Act.put, List.setIfInBounds_toArray, List.set_cons_zero, List.set_cons_succ]
  refine wpAnyH_take (i := 3) (oi := ⟨some 11, _, _, _, _, none⟩) (v := ?_) rfl (by kernel_rfl) (by kernel_rfl) (by kernel_rfl) (fun _ _ _ h => h) (Or.inl ⟨by rfl, ?_⟩) (by assumption) ?_
  rotate_left
  · intro wz hSw; (try dsimp only at hSw); go_simp; (try with_reducible rfl)
  try simp only [Act.put, List.setIfInBounds_toArray, List.set_cons_zero, List.set_cons_succ]
  refine wpAnyH_take (i := 4) (oi := ⟨some 12, _, _, _, _, none⟩) (v := ?_) rfl (by kernel_rfl) (by kernel_rfl) (by kernel_rfl) (fun _ _ _ h => h) (Or.inl ⟨by rfl, ?_⟩) (by assumption) ?_
  rotate_left
  · intro wz hSw; (try dsimp only at hSw); go_simp; (try with_reducible rfl)
  try simp only [Act.put, List.setIfInBounds_toArray, List.set_cons_zero, List.set_cons_succ]
  refine wpAnyH_take (i := 5) (oi := ⟨some 13, _, _, _, _, none⟩) (v := ?_) rfl (by kernel_rfl) (by kernel_rfl) (by kernel_rfl) (fun _ _ _ h => h) (Or.inl ⟨by rfl, ?_⟩) (by assumption) ?_
  rotate_left
  · intro wz hSw; (try dsimp only at hSw); go_simp; (try with_reducible rfl)
  try simp only [Act.put, List.setIfInBounds_toArray, List.set_cons_zero, List.set_cons_succ]
  refine wpAnyH_take (i := 6) (oi := ⟨some 14, _, _, _, _, none⟩) (v := ?_) rfl (by kernel_rfl) (by kernel_rfl) (by kernel_rfl) (fun _ _ _ h => h) (Or.inl ⟨by rfl, ?_⟩) (by assumption) ?_
  rotate_left
  · intro wz hSw; (try dsimp only at hSw); go_simp; (try with_reducible rfl)
  try simp only [Act.put, List.setIfInBounds_toArray, List.set_cons_zero, List.set_cons_succ]
  refine wpAnyH_take (i := 7) (oi := ⟨some 15, _, _, _, _, none⟩) (v := ?_) rfl (by kernel_rfl) (by kernel_rfl) (by kernel_rfl) (fun _ _ _ h => h) (Or.inl ⟨by rfl, ?_⟩) (by assumption) ?_
  rotate_left
  · intro wz hSw; (try dsimp only at hSw); go_simp; (try with_reducible rfl)
  try simp only [Act.put, List.setIfInBounds_toArray, List.set_cons_zero, List.set_cons_succ]
  refine wpAnyH_ready (rs := [8]) (by kernel_rfl) (by simp) ?_
  refine AllReadyH.cons (o := ⟨some 16, _, _, _, _, none⟩) rfl (fun K hK => ?_) AllReadyH.nil
  go_simp
  refine (eye_many H X 0 st _ (h.below kd).eye h.hx).mono ?_
  rintro e1 w1 ⟨rfl, hp1, o1⟩
  replace g0 := o1.cell g0 hn
  refine hK.out _ _ ?_ (fun hHeld => ?_)
  · exact g0
  clear hK K
  try simp only [Act.put, List.setIfInBounds_toArray, List.set_cons_zero, List.set_cons_succ]
  refine wpAnyH_take (i := 9) (oi := ⟨some 6, _, _, _, _, none⟩) (v := ?_) rfl (by kernel_rfl) (by kernel_rfl) (by kernel_rfl) (fun _ _ _ h => h) (Or.inl ⟨by rfl, ?_⟩) (by assumption) ?_
  rotate_left
  · intro wz hSw; (try dsimp only at hSw); go_simp; (try with_reducible rfl)
  try simp only [Act.put, List.setIfInBounds_toArray, List.set_cons_zero, List.set_cons_succ]
  refine wpAnyH_done (by kernel_rfl) ?_ _
  have o0 : Off H W w1 := (Below.off kd).trans o1
  have h1 : EyeEnv w1 H HB SB X (eyeM st).2 := h.off (R := H) o0.two h.hx hp1
  have hS1 := o0.at hS hn
  clear o1 hp1 h hs kd hHeld hS
  obtain ⟨n, hN⟩ : ∃ n, (eyeM st).1 = n := ⟨_, rfl⟩
  rw [hN] at hM
  by_cases h0 : n = 0
  · have hz := eyeR_zero (K := 2) (hN.trans h0)
    subst h0
    have hfin : ListDone H HB SB S so 2 TS X cs st W (.returned (.tuple #[])) w1 := by
      refine ⟨rfl, none, 0, ?_, ?_, ?_, ?_, o0.two⟩
      · rw [hz]; exact h1
      · rw [hN, set_same hso]; exact hS1
      · rw [hz, hN]; exact ⟨by simp, fun _ => rfl, .inl rfl⟩
      · rw [hN]; exact Nat.le_refl _
    have HFIN := Lib.hid hfin
    have hN' : ((eyeM st).1 : Int) = 0 := by rw [hN]; rfl
    rw [hN']
    clear hfin h1 hS1 hso hz hN hN'
    go_wp2_with fail
    go_loopw [31] (fun i wr => i = .int .i64 0 ∧ wr = w1) (fun i _ => 1 - (intOf i).toNat)
    case atStart => exact ⟨rfl, rfl⟩
    case round =>
      obtain ⟨rfl, rfl⟩ := hrel
      go_wp2_with fail
      refine bodyPost_end (v := .tuple #[]) (by simp [results, Try.results75, go_sem]) rfl HFIN.out
  · have hne : ((0 : Int) == (n : Int)) = false := by rw [beq_eq_false_iff_ne]; omega
    have hne' : ((0 : Int) != (n : Int)) = true := by rw [bne_iff_ne]; omega
    have hmk := make_Ratio n (by omega)
    have f0 : ∀ T zs, (w1.alloc (.cells zs T)).frozen? ⟨S, so, none⟩ = false := fun T zs => by
      have := box_keep (B := w1.heap.size) (w1 := w1.alloc (.cells zs T)) (by go_grown) hS1 (block_lt hS1)
      simp [World.frozen?, this]
    have zS := block_lt hS1
    have HSO := Lib.hid hso
    have HH1 := Lib.hid h1
    have HS1 := Lib.hid hS1
    have HN := Lib.hid hN
    have hRdef : eyeR 2 st = eyeL (eyeM st).2 (List.replicate ((eyeM st).1 * 2) 0) := rfl
    rw [hN] at hRdef
    have HRD := Lib.hid hRdef
    rw [hN]
    clear h1 hS1 hN hso hRdef
    go_wp2_with fail
    refine gen_code (S := fun V => EyeEnv V H HB SB (w1.heap.size :: X) (eyeM st).2 ∧ V.heap[S]? = some (.cells (cs.setIfInBounds so (.slice (some ⟨w1.heap.size, 0, none⟩) n n)) TS) ∧ Blk3 V w1.heap.size 24 [] (List.replicate (n * 2) 0) [] ∧ Off2 H S W V) ?_ (fun V hV => ?_)
    · have O1 : Off2 H S w1 (w1.setCell ⟨S, so, none⟩ (.slice (some ⟨w1.heap.size, 0, none⟩) n n)) := (Off2.refl H S w1).setCell (.inr rfl) _
      have he0 := HH1.out.off O1 hSX (HH1.out.eye.off (R := S) O1.size (fun b _ hb => Below.heap_setCell _ _ _ _ hb) hSX hn)
      have hS2 := heap_setCell (i := so) HS1.out (.slice (some ⟨w1.heap.size, 0, none⟩) n n)
      have hsz : (w1.setCell ⟨S, so, none⟩ (.slice (some ⟨w1.heap.size, 0, none⟩) n n)).heap.size = w1.heap.size := by simp [World.setCell]
      have hb := box_new (w1.setCell ⟨S, so, none⟩ (.slice (some ⟨w1.heap.size, 0, none⟩) n n)) w1.heap.size hsz.symm (Array.replicate (n * 2) (Value.int .i64 0)) 24
      generalize w1.setCell ⟨S, so, none⟩ (.slice (some ⟨w1.heap.size, 0, none⟩) n n) = wS at *
      have ka : Below wS.heap.size wS (wS.alloc (.cells (Array.replicate (n * 2) (Value.int .i64 0)) 24)) := by go_grown
      refine ⟨he0.more ka (by omega) (by simp; omega), box_keep ka hS2 (by omega), ?_, o0.two.trans (O1.trans (Below.off2 ka))⟩
      unfold Blk3
      simpa using hb
    obtain ⟨he, hS2, hb, ho⟩ := hV
    have gs : V.cell? ⟨S, so, none⟩ = some (.slice (some ⟨w1.heap.size, 0, none⟩) n n) := by
      have := (Array.getElem?_eq_some_iff.1 HSO.out).1
      simp [World.cell?, hS2, this]
    have HW := Lib.hid o0
    obtain ⟨R, hRR⟩ : ∃ R, w1.heap.size = R := ⟨_, rfl⟩
    rw [hRR] at he hS2 hb gs zS ⊢
    have hRW : W.heap.size ≤ R := by have := HW.out.size; omega
    clear f0 hmk HH1 HS1 HW o0 g0 hne hne' hRR w1
    go_wp2_with fail
    go_loopw [31] (fun i wr => ∃ k : Nat, k ≤ n ∧ i = .int .i64 k ∧ EyeEnv wr H HB SB (R :: X) (eyeL (eyeM st).2 (List.replicate (k * 2) 0)).2 ∧ Blk3 wr R 24 [] ((eyeL (eyeM st).2 (List.replicate (k * 2) 0)).1 ++ List.replicate ((n - k) * 2) 0) [] ∧ Off2 H S W wr ∧ wr.heap[S]? = some (.cells (cs.setIfInBounds so (.slice (some ⟨R, 0, none⟩) n n)) TS)) (fun i _ => n - (intOf i).toNat)
    case atStart => exact ⟨0, by omega, rfl, by rw [Nat.zero_mul]; exact he, by rw [Nat.zero_mul]; exact hb, ho, hS2⟩
    case round =>
      clear he hb ho hS2 gs
      obtain ⟨k, hk, rfl, he, hb, ho, hS2⟩ := hrel
      have gs : wr.cell? ⟨S, so, none⟩ = some (.slice (some ⟨R, 0, none⟩) n n) := by
        have := (Array.getElem?_eq_some_iff.1 HSO.out).1
        simp [World.cell?, hS2, this]
      by_cases hlt : k < n
      · have hk0 : (0 : Int) ≤ (k : Int) := by omega
        have hk1 : (k : Int) < (n : Int) := by omega
        rw [rep_step k 2 n hlt, ← List.append_assoc] at hb
        have hstep := eyeL_rep (eyeM st).2 k 2
        have hl1 : (eyeL (eyeM st).2 (List.replicate (k * 2) 0)).1.length = k * 2 := by rw [eyeL_len, List.length_replicate]
        generalize eyeL (eyeM st).2 (List.replicate (k * 2) 0) = sk at *
        obtain ⟨lk, sk⟩ := sk
        simp only at he hb hstep hl1
        have KEY := Lib.hid (eye_share H HB SB R (k * 2) 24 (R :: X) ([] ++ lk.map (Value.int .i64)) _ (List.replicate 2 0) sk wr he (Blk3.right (Blk3.left hb)) (by simp [hl1]) (by simp) (by simp) (by omega))
        have HST := Lib.hid hstep
        have HS2 := Lib.hid hS2
        have HO := Lib.hid ho
        clear hb he hstep hS2 ho hl1
        go_wp2_with fail
        refine KEY.out.mono ?_
        rintro e2 w2 ⟨rfl, he2, hb2, ho2⟩
        have hRS : S ≠ R := by omega
        have hS3 := ho2.at HS2.out hn hRS
        have hb3 := Blk3.join (Blk3.join' hb2)
        have ho3 := HO.out.fresh ho2 hRW
        have HB3 := Lib.hid hb3
        have HS3 := Lib.hid hS3
        clear KEY gs hb2 ho2 hb3 hS3
        go_wp2_with fail
        go_roundw
        case rel =>
          refine ⟨k + 1, by omega, by go_num, ?_, ?_, ho3, HS3.out⟩
          · rw [HST.out]; exact he2
          · rw [HST.out]; simp only [List.append_assoc]; exact HB3.out
        case measure => simp [intOf]; omega
      · obtain rfl : n = k := by omega
        rw [Nat.sub_self, Nat.zero_mul, List.replicate_zero, List.append_nil] at hb
        rw [← HRD.out] at hb he
        have hfin : ListDone H HB SB S so 2 TS X cs st W (.returned (.tuple #[])) wr := by
          refine ⟨rfl, some ⟨R, 0, none⟩, n, he.less (fun x hx => by simp [hx]) hX, ?_, ?_, ?_, ho⟩
          · rw [HN.out]; exact hS2
          · rw [HN.out]
            refine ⟨by rw [HRD.out, eyeL_len, List.length_replicate], fun z => by (cases z), .inr ⟨R, rfl, ?_, block_lt hb, fun i z hz => ?_⟩⟩
            · intro hx
              have := HLOW.out R hx
              omega
            · have := hb.cell hz
              simpa using this
          · rw [HN.out]; exact Nat.le_refl _
        have HFIN := Lib.hid hfin
        clear hfin hb he ho hS2
        go_wp2_with fail
        refine bodyPost_end (v := .tuple #[]) (by simp [results, Try.results75, go_sem]) rfl HFIN.out

theorem info_Int : (Try.prog.info? 3).map (fun i => (i.zero, i.size, i.bytes)) = some (some (.int .i64 0), 1, 8) := by kernel_rfl
theorem make_Int (n : Nat) (hn : n ≤ 64) (W : World) :
    (Instr.makeSlice 27 (.int .i64 (n : Int)) (.int .i64 (n : Int))).run Try.prog W = .ok (.slice (some ⟨W.heap.size, 0, none⟩) n n) (W.alloc (.cells (List.replicate n (Value.int .i64 0)).toArray 3)) := by
  obtain ⟨i0, hi, hz0, hz1, hz2⟩ := info_parts info_Int
  have h := run_make (P := Try.prog) W 27 3 i0 (.int .i64 0) Try.underlying27 hi hz0 .i64 .i64 n n (by omega) (by omega) (by rw [hz2]; omega) (by omega)
  rw [h, hz1]
  simp only [Int.toNat_natCast]
  have hmz := made_zeros (Value.int .i64 0).cells 1 n rfl (by intro i hi; rcases (show i = 0 by omega) with rfl <;> rfl) (by decide)
  simp only [Nat.mul_one] at hmz ⊢
  rw [hmz]
set_option maxRecDepth 100000 in
set_option maxHeartbeats 2000000 in
theorem eye_list_Int (H HB SB S so : Nat) (TS : TypeId) (X : List Nat) (cs : Array Value) (st : Option (List Int)) (W : World) (h : EyeEnv W H HB SB X st) (hS : W.heap[S]? = some (.cells cs TS)) (hso : cs[so]? = some (.slice none 0 0)) (hSX : S ∈ X) (hn : S ≠ H) :
    Calls Try.prog 76 #[.iface 69 (.pointer (some ⟨H, 0, none⟩)), .pointer (some ⟨S, so, none⟩), .func (.func 77) #[] #[.pointer (some ⟨HB, 0, none⟩)]] W (ListDone H HB SB S so 1 TS X cs st W) := by
  have na : ∀ w, (nilAhead 274 69 (.pointer (some ⟨H, 0, none⟩)) "lumper/setup.many").run Try.prog w = .ok (some false) w := nil_ahead_eye_many _
  have ma : ∀ w, (method 274 69 (.pointer (some ⟨H, 0, none⟩)) "lumper/setup.many").run Try.prog w = .ok (139, .pointer (some ⟨H, 0, none⟩)) w := method_eye_many _
  have kd : Below W.heap.size W W.drew := (Below.refl _ _).drew
  have hs : W.cell? ⟨S, so, none⟩ = some (.slice none 0 0) := by simp [World.cell?, hS, hso]
  have hM := eyeM_le st
  have hX := h.hx
  have hHl := h.eye.lt
  have hlow : ∀ x ∈ X, x < W.heap.size := h.eye.low
  have HLOW := Lib.hid hlow
  clear hlow
  go_enter Try.func76, Try.ntmps76
  go_wp2_with fail
  have g0 : W.drew.cell? ⟨S, so, none⟩ = some (.slice none 0 0) := hs
  refine wp_region_held_drew (S := (fun w' => w'.cell? ⟨S, so, none⟩ = some (.slice none 0 0))) (by kernel_rfl) ?_ (fun hHeld => ?_)
  · exact g0
  refine wpAnyH_take (i := 0) (oi := ⟨some 8, _, _, _, _, none⟩) (v := ?_) rfl (by kernel_rfl) (by kernel_rfl) (by kernel_rfl) (fun _ _ _ h => h) (Or.inl ⟨by rfl, ?_⟩) (by assumption) ?_
  rotate_left
  · intro wz hSw; (try dsimp only at hSw); go_simp; (try with_reducible rfl)
  try simp only [Act.put, List.setIfInBounds_toArray, List.set_cons_zero, List.set_cons_succ]
  refine wpAnyH_take (i := 1) (oi := ⟨some 9, _, _, _, _, none⟩) (v := ?_) rfl (by kernel_rfl) (by kernel_rfl) (by kernel_rfl) (fun _ _ _ h => h) (Or.inl ⟨by rfl, ?_⟩) (by assumption) ?_
  rotate_left
  · intro wz hSw; (try dsimp only at hSw); go_simp; (try with_reducible rfl)
  try simp only [Act.put, List.setIfInBounds_toArray, List.set_cons_zero, List.set_cons_succ]
  refine wpAnyH_take (i := 2) (oi := ⟨some 10, _, _, _, _, none⟩) (v := ?_) rfl (by kernel_rfl) (by kernel_rfl) (by kernel_rfl) (fun _ _ _ h => h) (Or.inl ⟨by rfl, ?_⟩) (by assumption) ?_
  rotate_left
  · intro wz hSw; (try dsimp only at hSw); go_simp; (try with_reducible rfl)
  try simp only [Act.put, List.setIfInBounds_toArray, List.set_cons_zero, List.set_cons_succ]
  refine wpAnyH_take (i := 3) (oi := ⟨some 11, _, _, _, _, none⟩) (v := ?_) rfl (by kernel_rfl) (by kernel_rfl) (by kernel_rfl) (fun _ _ _ h => h) (Or.inl ⟨by rfl, ?_⟩) (by assumption) ?_
  rotate_left
  · intro wz hSw; (try dsimp only at hSw); go_simp; (try with_reducible rfl)
  try simp only [Act.put, List.setIfInBounds_toArray, List.set_cons_zero, List.set_cons_succ]
  refine wpAnyH_take (i := 4) (oi := ⟨some 12, _, _, _, _, none⟩) (v := ?_) rfl (by kernel_rfl) (by kernel_rfl) (by kernel_rfl) (fun _ _ _ h => h) (Or.inl ⟨by rfl, ?_⟩) (by assumption) ?_
  rotate_left
  · intro wz hSw; (try dsimp only at hSw); go_simp; (try with_reducible rfl)
  try simp only [Act.put, List.setIfInBounds_toArray, List.set_cons_zero, List.set_cons_succ]
  refine wpAnyH_take (i := 5) (oi := ⟨some 13, _, _, _, _, none⟩) (v := ?_) rfl (by kernel_rfl) (by kernel_rfl) (by kernel_rfl) (fun _ _ _ h => h) (Or.inl ⟨by rfl, ?_⟩) (by assumption) ?_
  rotate_left
  · intro wz hSw; (try dsimp only at hSw); go_simp; (try with_reducible rfl)
  try simp only [Act.put, List.setIfInBounds_toArray, List.set_cons_zero, List.set_cons_succ]
  refine wpAnyH_take (i := 6) (oi := ⟨some 14, _, _, _, _, none⟩) (v := ?_) rfl (by kernel_rfl) (by kernel_rfl) (by kernel_rfl) (fun _ _ _ h => h) (Or.inl ⟨by rfl, ?_⟩) (by assumption) ?_
  rotate_left
  · intro wz hSw; (try dsimp only at hSw); go_simp; (try with_reducible rfl)
  try simp only [Act.put, List.setIfInBounds_toArray, List.set_cons_zero, List.set_cons_succ]
  refine wpAnyH_take (i := 7) (oi := ⟨some 15, _, _, _, _, none⟩) (v := ?_) rfl (by kernel_rfl) (by kernel_rfl) (by kernel_rfl) (fun _ _ _ h => h) (Or.inl ⟨by rfl, ?_⟩) (by assumption) ?_
  rotate_left
  · intro wz hSw; (try dsimp only at hSw); go_simp; (try with_reducible rfl)
  try simp only [Act.put, List.setIfInBounds_toArray, List.set_cons_zero, List.set_cons_succ]
  refine wpAnyH_ready (rs := [8]) (by kernel_rfl) (by simp) ?_
  refine AllReadyH.cons (o := ⟨some 16, _, _, _, _, none⟩) rfl (fun K hK => ?_) AllReadyH.nil
  go_simp
  refine (eye_many H X 0 st _ (h.below kd).eye h.hx).mono ?_
  rintro e1 w1 ⟨rfl, hp1, o1⟩
  replace g0 := o1.cell g0 hn
  refine hK.out _ _ ?_ (fun hHeld => ?_)
  · exact g0
  clear hK K
  try simp only [Act.put, List.setIfInBounds_toArray, List.set_cons_zero, List.set_cons_succ]
  refine wpAnyH_take (i := 9) (oi := ⟨some 6, _, _, _, _, none⟩) (v := ?_) rfl (by kernel_rfl) (by kernel_rfl) (by kernel_rfl) (fun _ _ _ h => h) (Or.inl ⟨by rfl, ?_⟩) (by assumption) ?_
  rotate_left
  · intro wz hSw; (try dsimp only at hSw); go_simp; (try with_reducible rfl)
  try simp only [Act.put, List.setIfInBounds_toArray, List.set_cons_zero, List.set_cons_succ]
  refine wpAnyH_done (by kernel_rfl) ?_ _
  have o0 : Off H W w1 := (Below.off kd).trans o1
  have h1 : EyeEnv w1 H HB SB X (eyeM st).2 := h.off (R := H) o0.two h.hx hp1
  have hS1 := o0.at hS hn
  clear o1 hp1 h hs kd hHeld hS
  obtain ⟨n, hN⟩ : ∃ n, (eyeM st).1 = n := ⟨_, rfl⟩
  rw [hN] at hM
  by_cases h0 : n = 0
  · have hz := eyeR_zero (K := 1) (hN.trans h0)
    subst h0
    have hfin : ListDone H HB SB S so 1 TS X cs st W (.returned (.tuple #[])) w1 := by
      refine ⟨rfl, none, 0, ?_, ?_, ?_, ?_, o0.two⟩
      · rw [hz]; exact h1
      · rw [hN, set_same hso]; exact hS1
      · rw [hz, hN]; exact ⟨by simp, fun _ => rfl, .inl rfl⟩
      · rw [hN]; exact Nat.le_refl _
    have HFIN := Lib.hid hfin
    have hN' : ((eyeM st).1 : Int) = 0 := by rw [hN]; rfl
    rw [hN']
    clear hfin h1 hS1 hso hz hN hN'
    go_wp2_with fail
    go_loopw [31] (fun i wr => i = .int .i64 0 ∧ wr = w1) (fun i _ => 1 - (intOf i).toNat)
    case atStart => exact ⟨rfl, rfl⟩
    case round =>
      obtain ⟨rfl, rfl⟩ := hrel
      go_wp2_with fail
      refine bodyPost_end (v := .tuple #[]) (by simp [results, Try.results76, go_sem]) rfl HFIN.out
  · have hne : ((0 : Int) == (n : Int)) = false := by rw [beq_eq_false_iff_ne]; omega
    have hne' : ((0 : Int) != (n : Int)) = true := by rw [bne_iff_ne]; omega
    have hmk := make_Int n (by omega)
    have f0 : ∀ T zs, (w1.alloc (.cells zs T)).frozen? ⟨S, so, none⟩ = false := fun T zs => by
      have := box_keep (B := w1.heap.size) (w1 := w1.alloc (.cells zs T)) (by go_grown) hS1 (block_lt hS1)
      simp [World.frozen?, this]
    have zS := block_lt hS1
    have HSO := Lib.hid hso
    have HH1 := Lib.hid h1
    have HS1 := Lib.hid hS1
    have HN := Lib.hid hN
    have hRdef : eyeR 1 st = eyeL (eyeM st).2 (List.replicate ((eyeM st).1 * 1) 0) := rfl
    rw [hN] at hRdef
    have HRD := Lib.hid hRdef
    rw [hN]
    clear h1 hS1 hN hso hRdef
    go_wp2_with fail
    refine gen_code (S := fun V => EyeEnv V H HB SB (w1.heap.size :: X) (eyeM st).2 ∧ V.heap[S]? = some (.cells (cs.setIfInBounds so (.slice (some ⟨w1.heap.size, 0, none⟩) n n)) TS) ∧ Blk3 V w1.heap.size 3 [] (List.replicate n 0) [] ∧ Off2 H S W V) ?_ (fun V hV => ?_)
    · have O1 : Off2 H S w1 (w1.setCell ⟨S, so, none⟩ (.slice (some ⟨w1.heap.size, 0, none⟩) n n)) := (Off2.refl H S w1).setCell (.inr rfl) _
      have he0 := HH1.out.off O1 hSX (HH1.out.eye.off (R := S) O1.size (fun b _ hb => Below.heap_setCell _ _ _ _ hb) hSX hn)
      have hS2 := heap_setCell (i := so) HS1.out (.slice (some ⟨w1.heap.size, 0, none⟩) n n)
      have hsz : (w1.setCell ⟨S, so, none⟩ (.slice (some ⟨w1.heap.size, 0, none⟩) n n)).heap.size = w1.heap.size := by simp [World.setCell]
      have hb := box_new (w1.setCell ⟨S, so, none⟩ (.slice (some ⟨w1.heap.size, 0, none⟩) n n)) w1.heap.size hsz.symm (Array.replicate n (Value.int .i64 0)) 3
      generalize w1.setCell ⟨S, so, none⟩ (.slice (some ⟨w1.heap.size, 0, none⟩) n n) = wS at *
      have ka : Below wS.heap.size wS (wS.alloc (.cells (Array.replicate n (Value.int .i64 0)) 3)) := by go_grown
      refine ⟨he0.more ka (by omega) (by simp; omega), box_keep ka hS2 (by omega), ?_, o0.two.trans (O1.trans (Below.off2 ka))⟩
      unfold Blk3
      simpa using hb
    obtain ⟨he, hS2, hb, ho⟩ := hV
    have gs : V.cell? ⟨S, so, none⟩ = some (.slice (some ⟨w1.heap.size, 0, none⟩) n n) := by
      have := (Array.getElem?_eq_some_iff.1 HSO.out).1
      simp [World.cell?, hS2, this]
    have HW := Lib.hid o0
    obtain ⟨R, hRR⟩ : ∃ R, w1.heap.size = R := ⟨_, rfl⟩
    rw [hRR] at he hS2 hb gs zS ⊢
    have hRW : W.heap.size ≤ R := by have := HW.out.size; omega
    clear f0 hmk HH1 HS1 HW o0 g0 hne hne' hRR w1
    go_wp2_with fail
    go_loopw [31] (fun i wr => ∃ k : Nat, k ≤ n ∧ i = .int .i64 k ∧ EyeEnv wr H HB SB (R :: X) (eyeL (eyeM st).2 (List.replicate (k * 1) 0)).2 ∧ Blk3 wr R 3 [] ((eyeL (eyeM st).2 (List.replicate (k * 1) 0)).1 ++ List.replicate ((n - k) * 1) 0) [] ∧ Off2 H S W wr ∧ wr.heap[S]? = some (.cells (cs.setIfInBounds so (.slice (some ⟨R, 0, none⟩) n n)) TS)) (fun i _ => n - (intOf i).toNat)
    case atStart => exact ⟨0, by omega, rfl, by rw [Nat.zero_mul]; exact he, by simpa [eyeL] using hb, ho, hS2⟩
    case round =>
      clear he hb ho hS2 gs
      obtain ⟨k, hk, rfl, he, hb, ho, hS2⟩ := hrel
      have gs : wr.cell? ⟨S, so, none⟩ = some (.slice (some ⟨R, 0, none⟩) n n) := by
        have := (Array.getElem?_eq_some_iff.1 HSO.out).1
        simp [World.cell?, hS2, this]
      by_cases hlt : k < n
      · have hk0 : (0 : Int) ≤ (k : Int) := by omega
        have hk1 : (k : Int) < (n : Int) := by omega
        rw [rep_step k 1 n hlt, ← List.append_assoc] at hb
        have hstep := eyeL_rep (eyeM st).2 k 1
        have hl1 : (eyeL (eyeM st).2 (List.replicate (k * 1) 0)).1.length = k * 1 := by rw [eyeL_len, List.length_replicate]
        generalize eyeL (eyeM st).2 (List.replicate (k * 1) 0) = sk at *
        obtain ⟨lk, sk⟩ := sk
        simp only at he hb hstep hl1
        have KEY := Lib.hid (eye_rate H HB SB R (k * 1) 3 (R :: X) ([] ++ lk.map (Value.int .i64)) _ (List.replicate 1 0) sk wr he (Blk3.right (Blk3.left hb)) (by simp [hl1]) (by simp) (by simp) (by omega))
        have HST := Lib.hid hstep
        have HS2 := Lib.hid hS2
        have HO := Lib.hid ho
        simp only [Nat.mul_one] at KEY
        clear hb he hstep hS2 ho hl1
        go_wp2_with fail
        refine KEY.out.mono ?_
        rintro e2 w2 ⟨rfl, he2, hb2, ho2⟩
        have hRS : S ≠ R := by omega
        have hS3 := ho2.at HS2.out hn hRS
        have hb3 := Blk3.join (Blk3.join' hb2)
        have ho3 := HO.out.fresh ho2 hRW
        have HB3 := Lib.hid hb3
        have HS3 := Lib.hid hS3
        clear KEY gs hb2 ho2 hb3 hS3
        go_wp2_with fail
        go_roundw
        case rel =>
          refine ⟨k + 1, by omega, by go_num, ?_, ?_, ho3, HS3.out⟩
          · rw [HST.out]; exact he2
          · rw [HST.out]; simp only [List.append_assoc]; simpa using HB3.out
        case measure => simp [intOf]; omega
      · obtain rfl : n = k := by omega
        rw [Nat.sub_self, Nat.zero_mul, List.replicate_zero, List.append_nil] at hb
        rw [← HRD.out] at hb he
        have hfin : ListDone H HB SB S so 1 TS X cs st W (.returned (.tuple #[])) wr := by
          refine ⟨rfl, some ⟨R, 0, none⟩, n, he.less (fun x hx => by simp [hx]) hX, ?_, ?_, ?_, ho⟩
          · rw [HN.out]; exact hS2
          · rw [HN.out]
            refine ⟨by rw [HRD.out, eyeL_len, List.length_replicate], fun z => by (cases z), .inr ⟨R, rfl, ?_, block_lt hb, fun i z hz => ?_⟩⟩
            · intro hx
              have := HLOW.out R hx
              omega
            · have := hb.cell hz
              simpa using this
          · rw [HN.out]; exact Nat.le_refl _
        have HFIN := Lib.hid hfin
        clear hfin hb he ho hS2
        go_wp2_with fail
        refine bodyPost_end (v := .tuple #[]) (by simp [results, Try.results76, go_sem]) rfl HFIN.out

theorem info_Tier : (Try.prog.info? 76).map (fun i => (i.zero, i.size, i.bytes)) = some (some (.agg #[.int .i64 0, .int .i64 0]), 2, 16) := by kernel_rfl
theorem make_Tier (n : Nat) (hn : n ≤ 64) (W : World) :
    (Instr.makeSlice 28 (.int .i64 (n : Int)) (.int .i64 (n : Int))).run Try.prog W = .ok (.slice (some ⟨W.heap.size, 0, none⟩) n n) (W.alloc (.cells (List.replicate (n * 2) (Value.int .i64 0)).toArray 76)) := by
  obtain ⟨i0, hi, hz0, hz1, hz2⟩ := info_parts info_Tier
  have h := run_make (P := Try.prog) W 28 76 i0 (.agg #[.int .i64 0, .int .i64 0]) Try.underlying28 hi hz0 .i64 .i64 n n (by omega) (by omega) (by rw [hz2]; omega) (by omega)
  rw [h, hz1]
  simp only [Int.toNat_natCast]
  rw [made_zeros (Value.agg #[.int .i64 0, .int .i64 0]).cells 2 n rfl (by intro i hi; rcases (show i = 0 ∨ i = 1 by omega) with rfl | rfl <;> rfl) (by decide)]
set_option maxRecDepth 100000 in
set_option maxHeartbeats 2000000 in
theorem eye_list_Tier (H HB SB S so : Nat) (TS : TypeId) (X : List Nat) (cs : Array Value) (st : Option (List Int)) (W : World) (h : EyeEnv W H HB SB X st) (hS : W.heap[S]? = some (.cells cs TS)) (hso : cs[so]? = some (.slice none 0 0)) (hSX : S ∈ X) (hn : S ≠ H) :
    Calls Try.prog 78 #[.iface 69 (.pointer (some ⟨H, 0, none⟩)), .pointer (some ⟨S, so, none⟩), .func (.func 79) #[] #[.pointer (some ⟨HB, 0, none⟩)]] W (ListDone H HB SB S so 2 TS X cs st W) := by
  have na : ∀ w, (nilAhead 274 69 (.pointer (some ⟨H, 0, none⟩)) "lumper/setup.many").run Try.prog w = .ok (some false) w := nil_ahead_eye_many _
  have ma : ∀ w, (method 274 69 (.pointer (some ⟨H, 0, none⟩)) "lumper/setup.many").run Try.prog w = .ok (139, .pointer (some ⟨H, 0, none⟩)) w := method_eye_many _
  have kd : Below W.heap.size W W.drew := (Below.refl _ _).drew
  have hs : W.cell? ⟨S, so, none⟩ = some (.slice none 0 0) := by simp [World.cell?, hS, hso]
  have hM := eyeM_le st
  have hX := h.hx
  have hHl := h.eye.lt
  have hlow : ∀ x ∈ X, x < W.heap.size := h.eye.low
  have HLOW := Lib.hid hlow
  clear hlow
  go_enter Try.func78, Try.ntmps78
  go_wp2_with fail
  have g0 : W.drew.cell? ⟨S, so, none⟩ = some (.slice none 0 0) := hs
  refine wp_region_held_drew (S := (fun w' => w'.cell? ⟨S, so, none⟩ = some (.slice none 0 0))) (by kernel_rfl) ?_ (fun hHeld => ?_)
  · exact g0
  refine wpAnyH_take (i := 0) (oi := ⟨some 8, _, _, _, _, none⟩) (v := ?_) rfl (by kernel_rfl) (by kernel_rfl) (by kernel_rfl) (fun _ _ _ h => h) (Or.inl ⟨by rfl, ?_⟩) (by assumption) ?_
  rotate_left
  · intro wz hSw; (try dsimp only at hSw); go_simp; (try with_reducible rfl)
  try simp only [Act.put, List.setIfInBounds_toArray, List.set_cons_zero, List.set_cons_succ]
  refine wpAnyH_take (i := 1) (oi := ⟨some 9, _, _, _, _, none⟩) (v := ?_) rfl (by kernel_rfl) (by kernel_rfl) (by kernel_rfl) (fun _ _ _ h => h) (Or.inl ⟨by rfl, ?_⟩) (by assumption) ?_
  rotate_left
  · intro wz hSw; (try dsimp only at hSw); go_simp; (try with_reducible rfl)
  try simp only [Act.put, List.setIfInBounds_toArray, List.set_cons_zero, List.set_cons_succ]
  refine wpAnyH_take (i := 2) (oi := ⟨some 10, _, _, _, _, none⟩) (v := ?_) rfl (by kernel_rfl) (by kernel_rfl) (by kernel_rfl) (fun _ _ _ h => h) (Or.inl ⟨by rfl, ?_⟩) (by assumption) ?_
  rotate_left
  · intro wz hSw; (try dsimp only at hSw); go_simp; (try with_reducible rfl)
  try simp only [Act.put, List.setIfInBounds_toArray, List.set_cons_zero, List.set_cons_succ]
  refine wpAnyH_take (i := 3) (oi := ⟨some 11, _, _, _, _, none⟩) (v := ?_) rfl (by kernel_rfl) (by kernel_rfl) (by kernel_rfl) (fun _ _ _ h => h) (Or.inl ⟨by rfl, ?_⟩) (by assumption) ?_
  rotate_left
  · intro wz hSw; (try dsimp only at hSw); go_simp; (try with_reducible rfl)
  try simp only [Act.put, List.setIfInBounds_toArray, List.set_cons_zero, List.set_cons_succ]
  refine wpAnyH_take (i := 4) (oi := ⟨some 12, _, _, _, _, none⟩) (v := ?_) rfl (by kernel_rfl) (by kernel_rfl) (by kernel_rfl) (fun _ _ _ h => h) (Or.inl ⟨by rfl, ?_⟩) (by assumption) ?_
  rotate_left
  · intro wz hSw; (try dsimp only at hSw); go_simp; (try with_reducible rfl)
  try simp only [Act.put, List.setIfInBounds_toArray, List.set_cons_zero, List.set_cons_succ]
  refine wpAnyH_take (i := 5) (oi := ⟨some 13, _, _, _, _, none⟩) (v := ?_) rfl (by kernel_rfl) (by kernel_rfl) (by kernel_rfl) (fun _ _ _ h => h) (Or.inl ⟨by rfl, ?_⟩) (by assumption) ?_
  rotate_left
  · intro wz hSw; (try dsimp only at hSw); go_simp; (try with_reducible rfl)
  try simp only [Act.put, List.setIfInBounds_toArray, List.set_cons_zero, List.set_cons_succ]
  refine wpAnyH_take (i := 6) (oi := ⟨some 14, _, _, _, _, none⟩) (v := ?_) rfl (by kernel_rfl) (by kernel_rfl) (by kernel_rfl) (fun _ _ _ h => h) (Or.inl ⟨by rfl, ?_⟩) (by assumption) ?_
  rotate_left
  · intro wz hSw; (try dsimp only at hSw); go_simp; (try with_reducible rfl)
  try simp only [Act.put, List.setIfInBounds_toArray, List.set_cons_zero, List.set_cons_succ]
  refine wpAnyH_take (i := 7) (oi := ⟨some 15, _, _, _, _, none⟩) (v := ?_) rfl (by kernel_rfl) (by kernel_rfl) (by kernel_rfl) (fun _ _ _ h => h) (Or.inl ⟨by rfl, ?_⟩) (by assumption) ?_
  rotate_left
  · intro wz hSw; (try dsimp only at hSw); go_simp; (try with_reducible rfl)
  try simp only [Act.put, List.setIfInBounds_toArray, List.set_cons_zero, List.set_cons_succ]
  refine wpAnyH_ready (rs := [8]) (by kernel_rfl) (by simp) ?_
  refine AllReadyH.cons (o := ⟨some 16, _, _, _, _, none⟩) rfl (fun K hK => ?_) AllReadyH.nil
  go_simp
  refine (eye_many H X 0 st _ (h.below kd).eye h.hx).mono ?_
  rintro e1 w1 ⟨rfl, hp1, o1⟩
  replace g0 := o1.cell g0 hn
  refine hK.out _ _ ?_ (fun hHeld => ?_)
  · exact g0
  clear hK K
  try simp only [Act.put, List.setIfInBounds_toArray, List.set_cons_zero, List.set_cons_succ]
  refine wpAnyH_take (i := 9) (oi := ⟨some 6, _, _, _, _, none⟩) (v := ?_) rfl (by kernel_rfl) (by kernel_rfl) (by kernel_rfl) (fun _ _ _ h => h) (Or.inl ⟨by rfl, ?_⟩) (by assumption) ?_
  rotate_left
  · intro wz hSw; (try dsimp only at hSw); go_simp; (try with_reducible rfl)
  try simp only [Act.put, List.setIfInBounds_toArray, List.set_cons_zero, List.set_cons_succ]
  refine wpAnyH_done (by kernel_rfl) ?_ _
  have o0 : Off H W w1 := (Below.off kd).trans o1
  have h1 : EyeEnv w1 H HB SB X (eyeM st).2 := h.off (R := H) o0.two h.hx hp1
  have hS1 := o0.at hS hn
  clear o1 hp1 h hs kd hHeld hS
  obtain ⟨n, hN⟩ : ∃ n, (eyeM st).1 = n := ⟨_, rfl⟩
  rw [hN] at hM
  by_cases h0 : n = 0
  · have hz := eyeR_zero (K := 2) (hN.trans h0)
    subst h0
    have hfin : ListDone H HB SB S so 2 TS X cs st W (.returned (.tuple #[])) w1 := by
      refine ⟨rfl, none, 0, ?_, ?_, ?_, ?_, o0.two⟩
      · rw [hz]; exact h1
      · rw [hN, set_same hso]; exact hS1
      · rw [hz, hN]; exact ⟨by simp, fun _ => rfl, .inl rfl⟩
      · rw [hN]; exact Nat.le_refl _
    have HFIN := Lib.hid hfin
    have hN' : ((eyeM st).1 : Int) = 0 := by rw [hN]; rfl
    rw [hN']
    clear hfin h1 hS1 hso hz hN hN'
    go_wp2_with fail
    go_loopw [31] (fun i wr => i = .int .i64 0 ∧ wr = w1) (fun i _ => 1 - (intOf i).toNat)
    case atStart => exact ⟨rfl, rfl⟩
    case round =>
      obtain ⟨rfl, rfl⟩ := hrel
      go_wp2_with fail
      refine bodyPost_end (v := .tuple #[]) (by simp [results, Try.results78, go_sem]) rfl HFIN.out
  · have hne : ((0 : Int) == (n : Int)) = false := by rw [beq_eq_false_iff_ne]; omega
    have hne' : ((0 : Int) != (n : Int)) = true := by rw [bne_iff_ne]; omega
    have hmk := make_Tier n (by omega)
    have f0 : ∀ T zs, (w1.alloc (.cells zs T)).frozen? ⟨S, so, none⟩ = false := fun T zs => by
      have := box_keep (B := w1.heap.size) (w1 := w1.alloc (.cells zs T)) (by go_grown) hS1 (block_lt hS1)
      simp [World.frozen?, this]
    have zS := block_lt hS1
    have HSO := Lib.hid hso
    have HH1 := Lib.hid h1
    have HS1 := Lib.hid hS1
    have HN := Lib.hid hN
    have hRdef : eyeR 2 st = eyeL (eyeM st).2 (List.replicate ((eyeM st).1 * 2) 0) := rfl
    rw [hN] at hRdef
    have HRD := Lib.hid hRdef
    rw [hN]
    clear h1 hS1 hN hso hRdef
    go_wp2_with fail
    refine gen_code (S := fun V => EyeEnv V H HB SB (w1.heap.size :: X) (eyeM st).2 ∧ V.heap[S]? = some (.cells (cs.setIfInBounds so (.slice (some ⟨w1.heap.size, 0, none⟩) n n)) TS) ∧ Blk3 V w1.heap.size 76 [] (List.replicate (n * 2) 0) [] ∧ Off2 H S W V) ?_ (fun V hV => ?_)
    · have O1 : Off2 H S w1 (w1.setCell ⟨S, so, none⟩ (.slice (some ⟨w1.heap.size, 0, none⟩) n n)) := (Off2.refl H S w1).setCell (.inr rfl) _
      have he0 := HH1.out.off O1 hSX (HH1.out.eye.off (R := S) O1.size (fun b _ hb => Below.heap_setCell _ _ _ _ hb) hSX hn)
      have hS2 := heap_setCell (i := so) HS1.out (.slice (some ⟨w1.heap.size, 0, none⟩) n n)
      have hsz : (w1.setCell ⟨S, so, none⟩ (.slice (some ⟨w1.heap.size, 0, none⟩) n n)).heap.size = w1.heap.size := by simp [World.setCell]
      have hb := box_new (w1.setCell ⟨S, so, none⟩ (.slice (some ⟨w1.heap.size, 0, none⟩) n n)) w1.heap.size hsz.symm (Array.replicate (n * 2) (Value.int .i64 0)) 76
      generalize w1.setCell ⟨S, so, none⟩ (.slice (some ⟨w1.heap.size, 0, none⟩) n n) = wS at *
      have ka : Below wS.heap.size wS (wS.alloc (.cells (Array.replicate (n * 2) (Value.int .i64 0)) 76)) := by go_grown
      refine ⟨he0.more ka (by omega) (by simp; omega), box_keep ka hS2 (by omega), ?_, o0.two.trans (O1.trans (Below.off2 ka))⟩
      unfold Blk3
      simpa using hb
    obtain ⟨he, hS2, hb, ho⟩ := hV
    have gs : V.cell? ⟨S, so, none⟩ = some (.slice (some ⟨w1.heap.size, 0, none⟩) n n) := by
      have := (Array.getElem?_eq_some_iff.1 HSO.out).1
      simp [World.cell?, hS2, this]
    have HW := Lib.hid o0
    obtain ⟨R, hRR⟩ : ∃ R, w1.heap.size = R := ⟨_, rfl⟩
    rw [hRR] at he hS2 hb gs zS ⊢
    have hRW : W.heap.size ≤ R := by have := HW.out.size; omega
    clear f0 hmk HH1 HS1 HW o0 g0 hne hne' hRR w1
    go_wp2_with fail
    go_loopw [31] (fun i wr => ∃ k : Nat, k ≤ n ∧ i = .int .i64 k ∧ EyeEnv wr H HB SB (R :: X) (eyeL (eyeM st).2 (List.replicate (k * 2) 0)).2 ∧ Blk3 wr R 76 [] ((eyeL (eyeM st).2 (List.replicate (k * 2) 0)).1 ++ List.replicate ((n - k) * 2) 0) [] ∧ Off2 H S W wr ∧ wr.heap[S]? = some (.cells (cs.setIfInBounds so (.slice (some ⟨R, 0, none⟩) n n)) TS)) (fun i _ => n - (intOf i).toNat)
    case atStart => exact ⟨0, by omega, rfl, by rw [Nat.zero_mul]; exact he, by rw [Nat.zero_mul]; exact hb, ho, hS2⟩
    case round =>
      clear he hb ho hS2 gs
      obtain ⟨k, hk, rfl, he, hb, ho, hS2⟩ := hrel
      have gs : wr.cell? ⟨S, so, none⟩ = some (.slice (some ⟨R, 0, none⟩) n n) := by
        have := (Array.getElem?_eq_some_iff.1 HSO.out).1
        simp [World.cell?, hS2, this]
      by_cases hlt : k < n
      · have hk0 : (0 : Int) ≤ (k : Int) := by omega
        have hk1 : (k : Int) < (n : Int) := by omega
        rw [rep_step k 2 n hlt, ← List.append_assoc] at hb
        have hstep := eyeL_rep (eyeM st).2 k 2
        have hl1 : (eyeL (eyeM st).2 (List.replicate (k * 2) 0)).1.length = k * 2 := by rw [eyeL_len, List.length_replicate]
        generalize eyeL (eyeM st).2 (List.replicate (k * 2) 0) = sk at *
        obtain ⟨lk, sk⟩ := sk
        simp only at he hb hstep hl1
        have KEY := Lib.hid (eye_tier H HB SB R (k * 2) 76 (R :: X) ([] ++ lk.map (Value.int .i64)) _ (List.replicate 2 0) sk wr he (Blk3.right (Blk3.left hb)) (by simp [hl1]) (by simp) (by simp) (by omega))
        have HST := Lib.hid hstep
        have HS2 := Lib.hid hS2
        have HO := Lib.hid ho
        clear hb he hstep hS2 ho hl1
        go_wp2_with fail
        refine KEY.out.mono ?_
        rintro e2 w2 ⟨rfl, he2, hb2, ho2⟩
        have hRS : S ≠ R := by omega
        have hS3 := ho2.at HS2.out hn hRS
        have hb3 := Blk3.join (Blk3.join' hb2)
        have ho3 := HO.out.fresh ho2 hRW
        have HB3 := Lib.hid hb3
        have HS3 := Lib.hid hS3
        clear KEY gs hb2 ho2 hb3 hS3
        go_wp2_with fail
        go_roundw
        case rel =>
          refine ⟨k + 1, by omega, by go_num, ?_, ?_, ho3, HS3.out⟩
          · rw [HST.out]; exact he2
          · rw [HST.out]; simp only [List.append_assoc]; exact HB3.out
        case measure => simp [intOf]; omega
      · obtain rfl : n = k := by omega
        rw [Nat.sub_self, Nat.zero_mul, List.replicate_zero, List.append_nil] at hb
        rw [← HRD.out] at hb he
        have hfin : ListDone H HB SB S so 2 TS X cs st W (.returned (.tuple #[])) wr := by
          refine ⟨rfl, some ⟨R, 0, none⟩, n, he.less (fun x hx => by simp [hx]) hX, ?_, ?_, ?_, ho⟩
          · rw [HN.out]; exact hS2
          · rw [HN.out]
            refine ⟨by rw [HRD.out, eyeL_len, List.length_replicate], fun z => by (cases z), .inr ⟨R, rfl, ?_, block_lt hb, fun i z hz => ?_⟩⟩
            · intro hx
              have := HLOW.out R hx
              omega
            · have := hb.cell hz
              simpa using this
          · rw [HN.out]; exact Nat.le_refl _
        have HFIN := Lib.hid hfin
        clear hfin hb he ho hS2
        go_wp2_with fail
        refine bodyPost_end (v := .tuple #[]) (by simp [results, Try.results78, go_sem]) rfl HFIN.out
end Go.Proofs.Ytnjckaifgmliaaa
