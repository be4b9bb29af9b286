/- THE WALKS of layer 7's lists, with a pen. -/
import Derived.Test.YtnjckaifgmliaaaPenFn
set_option linter.unusedSimpArgs false
set_option linter.unusedVariables false
namespace Go.Proofs.Ytnjckaifgmliaaa
open Go.RowKit Lu

theorem At.mid {W : World} {R ro : Nat} {L : List Int} (h : At W R ro L) (j k : Nat) : At W R (ro + j) ((L.drop j).take k) := fun i z hz => by
  have hi := (List.getElem?_eq_some_iff.1 hz).1
  rw [List.length_take] at hi
  rw [List.getElem?_take_of_lt (by omega), List.getElem?_drop] at hz
  have := h (j + i) z hz
  rw [← Nat.add_assoc] at this
  exact this
theorem take_step (L : List Int) (k K : Nat) : L.take ((k + 1) * K) = L.take (k * K) ++ (L.drop (k * K)).take K := by
  rw [Nat.succ_mul, List.take_add]
/-- A list of groups of K numbers. -/
def Grp (W : World) (H : Nat) (a : Option Addr) (n K : Nat) (L : List Int) : Prop := L.length = n * K ∧ (n = 0 ∨ ∃ b off, a = some ⟨b, off, none⟩ ∧ b ≠ H ∧ At W b off L)
theorem Grp.off {H : Nat} {W W' : World} {a : Option Addr} {n K : Nat} {L : List Int} (h : Grp W H a n K L) (k : Off H W W') : Grp W' H a n K L := by
  refine ⟨h.1, ?_⟩
  rcases h.2 with h0 | ⟨b, off, ha, hn, hat⟩
  · exact .inl h0
  · exact .inr ⟨b, off, ha, hn, hat.off k hn⟩

set_option maxRecDepth 100000 in
set_option maxHeartbeats 1000000 in
theorem pen_list_Way (H HB SB S so n c : Nat) (a : Option Addr) (L out : List Int) (W : World) (h : PenEnv W H HB SB out) (hs : W.cell? ⟨S, so, none⟩ = some (.slice a n c)) (hS : S ≠ H) (hG : Grp W H a n 3 L) (hpk : ∀ z ∈ L, Pk z) (hn : n ≤ 64) (hb : out.length ≤ 100000) :
    Calls Try.prog 71 #[.iface 64 (.pointer (some ⟨H, 0, none⟩)), .pointer (some ⟨S, so, none⟩), .func (.func 72) #[] #[.pointer (some ⟨HB, 0, none⟩)]] W fun e W' => e = .returned (.tuple #[]) ∧ PenEnv W' H HB SB (out ++ (oneP (n : Int) ++ manyP L)) ∧ Off H W W' := by
  have na : ∀ w, (nilAhead 274 64 (.pointer (some ⟨H, 0, none⟩)) "lumper/setup.many").run Try.prog w = .ok (some false) w := nil_ahead_pen_many _
  have ma : ∀ w, (method 274 64 (.pointer (some ⟨H, 0, none⟩)) "lumper/setup.many").run Try.prog w = .ok (137, .pointer (some ⟨H, 0, none⟩)) w := method_pen_many _
  have kd : Below W.heap.size W W.drew := (Below.refl _ _).drew
  have HG := Lib.hid hG
  have HPK := Lib.hid hpk
  have hone := oneP_len (n := (n : Int)) ⟨by omega, by omega⟩
  have hlen := hG.1
  have hm := manyP_len hpk
  clear hG hpk
  go_enter Try.func71, Try.ntmps71
  go_wp2_with fail
  have g0 : W.drew.cell? ⟨S, so, none⟩ = some (.slice a n c) := hs
  refine wp_region_held_drew (S := (fun w' => w'.cell? ⟨S, so, none⟩ = some (.slice a n c))) (by kernel_rfl) ?_ (fun hHeld => ?_)
  · exact g0
  refine wpAnyH_take (i := 0) (oi := ⟨some 8, _, _, _, _, none⟩) (v := ?_) rfl (by kernel_rfl) (by kernel_rfl) (by kernel_rfl) (fun _ _ _ h => h) (Or.inl ⟨by rfl, ?_⟩) (by assumption) ?_
  rotate_left
  · intro wz hSw; (try dsimp only at hSw); go_simp; (try with_reducible rfl)
  try simp only [Act.put, List.setIfInBounds_toArray, List.set_cons_zero, List.set_cons_succ]
  refine wpAnyH_take (i := 1) (oi := ⟨some 9, _, _, _, _, none⟩) (v := ?_) rfl (by kernel_rfl) (by kernel_rfl) (by kernel_rfl) (fun _ _ _ h => h) (Or.inl ⟨by rfl, ?_⟩) (by assumption) ?_
  rotate_left
  · intro wz hSw; (try dsimp only at hSw); go_simp; (try with_reducible rfl)
  try simp only [Act.put, List.setIfInBounds_toArray, List.set_cons_zero, List.set_cons_succ]
  refine wpAnyH_take (i := 2) (oi := ⟨some 10, _, _, _, _, none⟩) (v := ?_) rfl (by kernel_rfl) (by kernel_rfl) (by kernel_rfl) (fun _ _ _ h => h) (Or.inl ⟨by rfl, ?_⟩) (by assumption) ?_
  rotate_left
  · intro wz hSw; (try dsimp only at hSw); go_simp; (try with_reducible rfl)
  try simp only [Act.put, List.setIfInBounds_toArray, List.set_cons_zero, List.set_cons_succ]
  refine wpAnyH_take (i := 3) (oi := ⟨some 11, _, _, _, _, none⟩) (v := ?_) rfl (by kernel_rfl) (by kernel_rfl) (by kernel_rfl) (fun _ _ _ h => h) (Or.inl ⟨by rfl, ?_⟩) (by assumption) ?_
  rotate_left
  · intro wz hSw; (try dsimp only at hSw); go_simp; (try with_reducible rfl)
  try simp only [Act.put, List.setIfInBounds_toArray, List.set_cons_zero, List.set_cons_succ]
  refine wpAnyH_take (i := 4) (oi := ⟨some 12, _, _, _, _, none⟩) (v := ?_) rfl (by kernel_rfl) (by kernel_rfl) (by kernel_rfl) (fun _ _ _ h => h) (Or.inl ⟨by rfl, ?_⟩) (by assumption) ?_
  rotate_left
  · intro wz hSw; (try dsimp only at hSw); go_simp; (try with_reducible rfl)
  try simp only [Act.put, List.setIfInBounds_toArray, List.set_cons_zero, List.set_cons_succ]
  refine wpAnyH_take (i := 5) (oi := ⟨some 13, _, _, _, _, none⟩) (v := ?_) rfl (by kernel_rfl) (by kernel_rfl) (by kernel_rfl) (fun _ _ _ h => h) (Or.inl ⟨by rfl, ?_⟩) (by assumption) ?_
  rotate_left
  · intro wz hSw; (try dsimp only at hSw); go_simp; (try with_reducible rfl)
  try simp only [Act.put, List.setIfInBounds_toArray, List.set_cons_zero, List.set_cons_succ]
  refine wpAnyH_take (i := 6) (oi := ⟨some 14, _, _, _, _, none⟩) (v := ?_) rfl (by kernel_rfl) (by kernel_rfl) (by kernel_rfl) (fun _ _ _ h => h) (Or.inl ⟨by rfl, ?_⟩) (by assumption) ?_
  rotate_left
  · intro wz hSw; (try dsimp only at hSw); go_simp; (try with_reducible rfl)
  try simp only [Act.put, List.setIfInBounds_toArray, List.set_cons_zero, List.set_cons_succ]
  refine wpAnyH_take (i := 7) (oi := ⟨some 15, _, _, _, _, none⟩) (v := ?_) rfl (by kernel_rfl) (by kernel_rfl) (by kernel_rfl) (fun _ _ _ h => h) (Or.inl ⟨by rfl, ?_⟩) (by assumption) ?_
  rotate_left
  · intro wz hSw; (try dsimp only at hSw); go_simp; (try with_reducible rfl)
  try simp only [Act.put, List.setIfInBounds_toArray, List.set_cons_zero, List.set_cons_succ]
  refine wpAnyH_ready (rs := [8]) (by kernel_rfl) (by simp) ?_
  refine AllReadyH.cons (o := ⟨some 16, _, _, _, _, none⟩) rfl (fun K hK => ?_) AllReadyH.nil
  go_simp
  refine (pen_many H n out _ (h.below kd).pen (by omega) (by omega)).mono ?_
  rintro e1 w1 ⟨rfl, hp1, o1⟩
  replace g0 := o1.cell g0 hS
  refine hK.out _ _ ?_ (fun hHeld => ?_)
  · exact g0
  clear hK K
  try simp only [Act.put, List.setIfInBounds_toArray, List.set_cons_zero, List.set_cons_succ]
  refine wpAnyH_take (i := 9) (oi := ⟨some 6, _, _, _, _, none⟩) (v := ?_) rfl (by kernel_rfl) (by kernel_rfl) (by kernel_rfl) (fun _ _ _ h => h) (Or.inl ⟨by rfl, ?_⟩) (by assumption) ?_
  rotate_left
  · intro wz hSw; (try dsimp only at hSw); go_simp; (try with_reducible rfl)
  try simp only [Act.put, List.setIfInBounds_toArray, List.set_cons_zero, List.set_cons_succ]
  refine wpAnyH_done (by kernel_rfl) ?_ _
  have o0 : Off H W w1 := (Below.off kd).trans o1
  have h1 := h.off o0 hp1
  clear o1 hp1 h hs kd hHeld
  go_wp2_with fail
  go_loopw [31] (fun i wr => ∃ k : Nat, k ≤ n ∧ i = .int .i64 k ∧ PenEnv wr H HB SB (out ++ (oneP (n : Int) ++ manyP (L.take (k * 3)))) ∧ Off H W wr ∧ wr.cell? ⟨S, so, none⟩ = some (.slice a n c)) (fun i _ => n - (intOf i).toNat)
  case atStart => exact ⟨0, by omega, rfl, by rw [Nat.zero_mul, List.take_zero, manyP_nil, List.append_nil]; exact h1, o0, g0⟩
  case round =>
    obtain ⟨k, hk, rfl, he, ho, gs⟩ := hrel
    by_cases hlt : k < n
    · have hk0 : (0 : Int) ≤ (k : Int) := by omega
      have hk1 : (k : Int) < (n : Int) := by omega
      obtain ⟨b, off, rfl, hbn, hat⟩ := (HG.out.off ho).2.resolve_left (by omega)
      have hz1 : ((L.drop (k * 3)).take 3).length = 3 := by rw [List.length_take, List.length_drop]; omega
      have hz2 : ∀ z ∈ (L.drop (k * 3)).take 3, Pk z := fun z hz => HPK.out z (List.mem_of_mem_drop (List.mem_of_mem_take hz))
      have hl2 := manyP_len (l := L.take (k * 3)) (fun z hz => HPK.out z (List.mem_of_mem_take hz))
      rw [List.length_take] at hl2
      have KEY := Lib.hid (pen_way H HB SB b (off + k * 3) ((L.drop (k * 3)).take 3) (out ++ (oneP (n : Int) ++ manyP (L.take (k * 3)))) wr he (hat.mid _ _) hz1 hbn hz2 (by rw [List.length_append, List.length_append]; omega))
      have hst := Lib.hid (take_step L k 3)
      clear hat hz1 hz2 hl2 he
      go_wp2_with fail
      refine KEY.out.mono ?_
      rintro e2 w2 ⟨rfl, he2, ho2⟩
      have gs2 := ho2.cell gs hS
      clear KEY gs
      go_wp2_with fail
      go_roundw
      case rel =>
        refine ⟨k + 1, by omega, by go_num, ?_, ho.trans ho2, gs2⟩
        rw [hst.out, manyP_append, ← List.append_assoc (oneP (n : Int)), ← List.append_assoc out]
        exact he2
      case measure => simp [intOf]; omega
    · obtain rfl : n = k := by omega
      go_wp2_with fail
      rw [← hlen, List.take_length] at he
      refine bodyPost_end (v := .tuple #[]) (by simp [results, Try.results71, go_sem]) rfl ⟨rfl, he, ho⟩

set_option maxRecDepth 100000 in
set_option maxHeartbeats 1000000 in
theorem pen_list_Element (H HB SB S so n c : Nat) (a : Option Addr) (L out : List Int) (W : World) (h : PenEnv W H HB SB out) (hs : W.cell? ⟨S, so, none⟩ = some (.slice a n c)) (hS : S ≠ H) (hG : Grp W H a n 4 L) (hpk : ∀ z ∈ L, Pk z) (hn : n ≤ 64) (hb : out.length ≤ 100000) :
    Calls Try.prog 73 #[.iface 64 (.pointer (some ⟨H, 0, none⟩)), .pointer (some ⟨S, so, none⟩), .func (.func 74) #[] #[.pointer (some ⟨SB, 0, none⟩)]] W fun e W' => e = .returned (.tuple #[]) ∧ PenEnv W' H HB SB (out ++ (oneP (n : Int) ++ manyP L)) ∧ Off H W W' := by
  have na : ∀ w, (nilAhead 274 64 (.pointer (some ⟨H, 0, none⟩)) "lumper/setup.many").run Try.prog w = .ok (some false) w := nil_ahead_pen_many _
  have ma : ∀ w, (method 274 64 (.pointer (some ⟨H, 0, none⟩)) "lumper/setup.many").run Try.prog w = .ok (137, .pointer (some ⟨H, 0, none⟩)) w := method_pen_many _
  have kd : Below W.heap.size W W.drew := (Below.refl _ _).drew
  have HG := Lib.hid hG
  have HPK := Lib.hid hpk
  have hone := oneP_len (n := (n : Int)) ⟨by omega, by omega⟩
  have hlen := hG.1
  have hm := manyP_len hpk
  clear hG hpk
  go_enter Try.func73, Try.ntmps73
  go_wp2_with fail
  have g0 : W.drew.cell? ⟨S, so, none⟩ = some (.slice a n c) := hs
  refine wp_region_held_drew (S := (fun w' => w'.cell? ⟨S, so, none⟩ = some (.slice a n c))) (by kernel_rfl) ?_ (fun hHeld => ?_)
  · exact g0
  refine wpAnyH_take (i := 0) (oi := ⟨some 8, _, _, _, _, none⟩) (v := ?_) rfl (by kernel_rfl) (by kernel_rfl) (by kernel_rfl) (fun _ _ _ h => h) (Or.inl ⟨by rfl, ?_⟩) (by assumption) ?_
  rotate_left
  · intro wz hSw; (try dsimp only at hSw); go_simp; (try with_reducible rfl)
  try simp only [Act.put, List.setIfInBounds_toArray, List.set_cons_zero, List.set_cons_succ]
  refine wpAnyH_take (i := 1) (oi := ⟨some 9, _, _, _, _, none⟩) (v := ?_) rfl (by kernel_rfl) (by kernel_rfl) (by kernel_rfl) (fun _ _ _ h => h) (Or.inl ⟨by rfl, ?_⟩) (by assumption) ?_
  rotate_left
  · intro wz hSw; (try dsimp only at hSw); go_simp; (try with_reducible rfl)
  try simp only [Act.put, List.setIfInBounds_toArray, List.set_cons_zero, List.set_cons_succ]
  refine wpAnyH_take (i := 2) (oi := ⟨some 10, _, _, _, _, none⟩) (v := ?_) rfl (by kernel_rfl) (by kernel_rfl) (by kernel_rfl) (fun _ _ _ h => h) (Or.inl ⟨by rfl, ?_⟩) (by assumption) ?_
  rotate_left
  · intro wz hSw; (try dsimp only at hSw); go_simp; (try with_reducible rfl)
  try simp only [Act.put, List.setIfInBounds_toArray, List.set_cons_zero, List.set_cons_succ]
  refine wpAnyH_take (i := 3) (oi := ⟨some 11, _, _, _, _, none⟩) (v := ?_) rfl (by kernel_rfl) (by kernel_rfl) (by kernel_rfl) (fun _ _ _ h => h) (Or.inl ⟨by rfl, ?_⟩) (by assumption) ?_
  rotate_left
  · intro wz hSw; (try dsimp only at hSw); go_simp; (try with_reducible rfl)
  try simp only [Act.put, List.setIfInBounds_toArray, List.set_cons_zero, List.set_cons_succ]
  refine wpAnyH_take (i := 4) (oi := ⟨some 12, _, _, _, _, none⟩) (v := ?_) rfl (by kernel_rfl) (by kernel_rfl) (by kernel_rfl) (fun _ _ _ h => h) (Or.inl ⟨by rfl, ?_⟩) (by assumption) ?_
  rotate_left
  · intro wz hSw; (try dsimp only at hSw); go_simp; (try with_reducible rfl)
  try simp only [Act.put, List.setIfInBounds_toArray, List.set_cons_zero, List.set_cons_succ]
  refine wpAnyH_take (i := 5) (oi := ⟨some 13, _, _, _, _, none⟩) (v := ?_) rfl (by kernel_rfl) (by kernel_rfl) (by kernel_rfl) (fun _ _ _ h => h) (Or.inl ⟨by rfl, ?_⟩) (by assumption) ?_
  rotate_left
  · intro wz hSw; (try dsimp only at hSw); go_simp; (try with_reducible rfl)
  try simp only [Act.put, List.setIfInBounds_toArray, List.set_cons_zero, List.set_cons_succ]
  refine wpAnyH_take (i := 6) (oi := ⟨some 14, _, _, _, _, none⟩) (v := ?_) rfl (by kernel_rfl) (by kernel_rfl) (by kernel_rfl) (fun _ _ _ h => h) (Or.inl ⟨by rfl, ?_⟩) (by assumption) ?_
  rotate_left
  · intro wz hSw; (try dsimp only at hSw); go_simp; (try with_reducible rfl)
  try simp only [Act.put, List.setIfInBounds_toArray, List.set_cons_zero, List.set_cons_succ]
  refine wpAnyH_take (i := 7) (oi := ⟨some 15, _, _, _, _, none⟩) (v := ?_) rfl (by kernel_rfl) (by kernel_rfl) (by kernel_rfl) (fun _ _ _ h => h) (Or.inl ⟨by rfl, ?_⟩) (by assumption) ?_
  rotate_left
  · intro wz hSw; (try dsimp only at hSw); go_simp; (try with_reducible rfl)
  try simp only [Act.put, List.setIfInBounds_toArray, List.set_cons_zero, List.set_cons_succ]
  refine wpAnyH_ready (rs := [8]) (by kernel_rfl) (by simp) ?_
  refine AllReadyH.cons (o := ⟨some 16, _, _, _, _, none⟩) rfl (fun K hK => ?_) AllReadyH.nil
  go_simp
  refine (pen_many H n out _ (h.below kd).pen (by omega) (by omega)).mono ?_
  rintro e1 w1 ⟨rfl, hp1, o1⟩
  replace g0 := o1.cell g0 hS
  refine hK.out _ _ ?_ (fun hHeld => ?_)
  · exact g0
  clear hK K
  try simp only [Act.put, List.setIfInBounds_toArray, List.set_cons_zero, List.set_cons_succ]
  refine wpAnyH_take (i := 9) (oi := ⟨some 6, _, _, _, _, none⟩) (v := ?_) rfl (by kernel_rfl) (by kernel_rfl) (by kernel_rfl) (fun _ _ _ h => h) (Or.inl ⟨by rfl, ?_⟩) (by assumption) ?_
  rotate_left
  · intro wz hSw; (try dsimp only at hSw); go_simp; (try with_reducible rfl)
  try simp only [Act.put, List.setIfInBounds_toArray, List.set_cons_zero, List.set_cons_succ]
  refine wpAnyH_done (by kernel_rfl) ?_ _
  have o0 : Off H W w1 := (Below.off kd).trans o1
  have h1 := h.off o0 hp1
  clear o1 hp1 h hs kd hHeld
  go_wp2_with fail
  go_loopw [31] (fun i wr => ∃ k : Nat, k ≤ n ∧ i = .int .i64 k ∧ PenEnv wr H HB SB (out ++ (oneP (n : Int) ++ manyP (L.take (k * 4)))) ∧ Off H W wr ∧ wr.cell? ⟨S, so, none⟩ = some (.slice a n c)) (fun i _ => n - (intOf i).toNat)
  case atStart => exact ⟨0, by omega, rfl, by rw [Nat.zero_mul, List.take_zero, manyP_nil, List.append_nil]; exact h1, o0, g0⟩
  case round =>
    obtain ⟨k, hk, rfl, he, ho, gs⟩ := hrel
    by_cases hlt : k < n
    · have hk0 : (0 : Int) ≤ (k : Int) := by omega
      have hk1 : (k : Int) < (n : Int) := by omega
      obtain ⟨b, off, rfl, hbn, hat⟩ := (HG.out.off ho).2.resolve_left (by omega)
      have hz1 : ((L.drop (k * 4)).take 4).length = 4 := by rw [List.length_take, List.length_drop]; omega
      have hz2 : ∀ z ∈ (L.drop (k * 4)).take 4, Pk z := fun z hz => HPK.out z (List.mem_of_mem_drop (List.mem_of_mem_take hz))
      have hl2 := manyP_len (l := L.take (k * 4)) (fun z hz => HPK.out z (List.mem_of_mem_take hz))
      rw [List.length_take] at hl2
      have KEY := Lib.hid (pen_element H HB SB b (off + k * 4) ((L.drop (k * 4)).take 4) (out ++ (oneP (n : Int) ++ manyP (L.take (k * 4)))) wr he (hat.mid _ _) hz1 hbn hz2 (by rw [List.length_append, List.length_append]; omega))
      have hst := Lib.hid (take_step L k 4)
      clear hat hz1 hz2 hl2 he
      go_wp2_with fail
      refine KEY.out.mono ?_
      rintro e2 w2 ⟨rfl, he2, ho2⟩
      have gs2 := ho2.cell gs hS
      clear KEY gs
      go_wp2_with fail
      go_roundw
      case rel =>
        refine ⟨k + 1, by omega, by go_num, ?_, ho.trans ho2, gs2⟩
        rw [hst.out, manyP_append, ← List.append_assoc (oneP (n : Int)), ← List.append_assoc out]
        exact he2
      case measure => simp [intOf]; omega
    · obtain rfl : n = k := by omega
      go_wp2_with fail
      rw [← hlen, List.take_length] at he
      refine bodyPost_end (v := .tuple #[]) (by simp [results, Try.results73, go_sem]) rfl ⟨rfl, he, ho⟩

set_option maxRecDepth 100000 in
set_option maxHeartbeats 1000000 in
theorem pen_list_Ratio (H HB SB S so n c : Nat) (a : Option Addr) (L out : List Int) (W : World) (h : PenEnv W H HB SB out) (hs : W.cell? ⟨S, so, none⟩ = some (.slice a n c)) (hS : S ≠ H) (hG : Grp W H a n 2 L) (hpk : ∀ z ∈ L, Pk z) (hn : n ≤ 64) (hb : out.length ≤ 100000) :
    Calls Try.prog 75 #[.iface 64 (.pointer (some ⟨H, 0, none⟩)), .pointer (some ⟨S, so, none⟩), .func (.func 70) #[] #[.pointer (some ⟨HB, 0, none⟩)]] W fun e W' => e = .returned (.tuple #[]) ∧ PenEnv W' H HB SB (out ++ (oneP (n : Int) ++ manyP L)) ∧ Off H W W' := by
  have na : ∀ w, (nilAhead 274 64 (.pointer (some ⟨H, 0, none⟩)) "lumper/setup.many").run Try.prog w = .ok (some false) w := nil_ahead_pen_many _
  have ma : ∀ w, (method 274 64 (.pointer (some ⟨H, 0, none⟩)) "lumper/setup.many").run Try.prog w = .ok (137, .pointer (some ⟨H, 0, none⟩)) w := method_pen_many _
  have kd : Below W.heap.size W W.drew := (Below.refl _ _).drew
  have HG := Lib.hid hG
  have HPK := Lib.hid hpk
  have hone := oneP_len (n := (n : Int)) ⟨by omega, by omega⟩
  have hlen := hG.1
  have hm := manyP_len hpk
  clear hG hpk
  go_enter Try.func75, Try.ntmps75
  go_wp2_with fail
  have g0 : W.drew.cell? ⟨S, so, none⟩ = some (.slice a n c) := hs
  refine wp_region_held_drew (S := (fun w' => w'.cell? ⟨S, so, none⟩ = some (.slice a n c))) (by kernel_rfl) ?_ (fun hHeld => ?_)
  · exact g0
  refine wpAnyH_take (i := 0) (oi := ⟨some 8, _, _, _, _, none⟩) (v := ?_) rfl (by kernel_rfl) (by kernel_rfl) (by kernel_rfl) (fun _ _ _ h => h) (Or.inl ⟨by rfl, ?_⟩) (by assumption) ?_
  rotate_left
  · intro wz hSw; (try dsimp only at hSw); go_simp; (try with_reducible rfl)
  try simp only [Act.put, List.setIfInBounds_toArray, List.set_cons_zero, List.set_cons_succ]
  refine wpAnyH_take (i := 1) (oi := ⟨some 9, _, _, _, _, none⟩) (v := ?_) rfl (by kernel_rfl) (by kernel_rfl) (by kernel_rfl) (fun _ _ _ h => h) (Or.inl ⟨by rfl, ?_⟩) (by assumption) ?_
  rotate_left
  · intro wz hSw; (try dsimp only at hSw); go_simp; (try with_reducible rfl)
  try simp only [Act.put, List.setIfInBounds_toArray, List.set_cons_zero, List.set_cons_succ]
  refine wpAnyH_take (i := 2) (oi := ⟨some 10, _, _, _, _, none⟩) (v := ?_) rfl (by kernel_rfl) (by kernel_rfl) (by kernel_rfl) (fun _ _ _ h => h) (Or.inl ⟨by rfl, ?_⟩) (by assumption) ?_
  rotate_left
  · intro wz hSw; (try dsimp only at hSw); go_simp; (try with_reducible rfl)
  try simp only [Act.put, List.setIfInBounds_toArray, List.set_cons_zero, List.set_cons_succ]
  refine wpAnyH_take (i := 3) (oi := ⟨some 11, _, _, _, _, none⟩) (v := ?_) rfl (by kernel_rfl) (by kernel_rfl) (by kernel_rfl) (fun _ _ _ h => h) (Or.inl ⟨by rfl, ?_⟩) (by assumption) ?_
  rotate_left
  · intro wz hSw; (try dsimp only at hSw); go_simp; (try with_reducible rfl)
  try simp only [Act.put, List.setIfInBounds_toArray, List.set_cons_zero, List.set_cons_succ]
  refine wpAnyH_take (i := 4) (oi := ⟨some 12, _, _, _, _, none⟩) (v := ?_) rfl (by kernel_rfl) (by kernel_rfl) (by kernel_rfl) (fun _ _ _ h => h) (Or.inl ⟨by rfl, ?_⟩) (by assumption) ?_
  rotate_left
  · intro wz hSw; (try dsimp only at hSw); go_simp; (try with_reducible rfl)
  try simp only [Act.put, List.setIfInBounds_toArray, List.set_cons_zero, List.set_cons_succ]
  refine wpAnyH_take (i := 5) (oi := ⟨some 13, _, _, _, _, none⟩) (v := ?_) rfl (by kernel_rfl) (by kernel_rfl) (by kernel_rfl) (fun _ _ _ h => h) (Or.inl ⟨by rfl, ?_⟩) (by assumption) ?_
  rotate_left
  · intro wz hSw; (try dsimp only at hSw); go_simp; (try with_reducible rfl)
  try simp only [Act.put, List.setIfInBounds_toArray, List.set_cons_zero, List.set_cons_succ]
  refine wpAnyH_take (i := 6) (oi := ⟨some 14, _, _, _, _, none⟩) (v := ?_) rfl (by kernel_rfl) (by kernel_rfl) (by kernel_rfl) (fun _ _ _ h => h) (Or.inl ⟨by rfl, ?_⟩) (by assumption) ?_
  rotate_left
  · intro wz hSw; (try dsimp only at hSw); go_simp; (try with_reducible rfl)
  try simp only [Act.put, List.setIfInBounds_toArray, List.set_cons_zero, List.set_cons_succ]
  refine wpAnyH_take (i := 7) (oi := ⟨some 15, _, _, _, _, none⟩) (v := ?_) rfl (by kernel_rfl) (by kernel_rfl) (by kernel_rfl) (fun _ _ _ h => h) (Or.inl ⟨by rfl, ?_⟩) (by assumption) ?_
  rotate_left
  · intro wz hSw; (try dsimp only at hSw); go_simp; (try with_reducible rfl)
  try simp only [Act.put, List.setIfInBounds_toArray, List.set_cons_zero, List.set_cons_succ]
  refine wpAnyH_ready (rs := [8]) (by kernel_rfl) (by simp) ?_
  refine AllReadyH.cons (o := ⟨some 16, _, _, _, _, none⟩) rfl (fun K hK => ?_) AllReadyH.nil
  go_simp
  refine (pen_many H n out _ (h.below kd).pen (by omega) (by omega)).mono ?_
  rintro e1 w1 ⟨rfl, hp1, o1⟩
  replace g0 := o1.cell g0 hS
  refine hK.out _ _ ?_ (fun hHeld => ?_)
  · exact g0
  clear hK K
  try simp only [Act.put, List.setIfInBounds_toArray, List.set_cons_zero, List.set_cons_succ]
  refine wpAnyH_take (i := 9) (oi := ⟨some 6, _, _, _, _, none⟩) (v := ?_) rfl (by kernel_rfl) (by kernel_rfl) (by kernel_rfl) (fun _ _ _ h => h) (Or.inl ⟨by rfl, ?_⟩) (by assumption) ?_
  rotate_left
  · intro wz hSw; (try dsimp only at hSw); go_simp; (try with_reducible rfl)
  try simp only [Act.put, List.setIfInBounds_toArray, List.set_cons_zero, List.set_cons_succ]
  refine wpAnyH_done (by kernel_rfl) ?_ _
  have o0 : Off H W w1 := (Below.off kd).trans o1
  have h1 := h.off o0 hp1
  clear o1 hp1 h hs kd hHeld
  go_wp2_with fail
  go_loopw [31] (fun i wr => ∃ k : Nat, k ≤ n ∧ i = .int .i64 k ∧ PenEnv wr H HB SB (out ++ (oneP (n : Int) ++ manyP (L.take (k * 2)))) ∧ Off H W wr ∧ wr.cell? ⟨S, so, none⟩ = some (.slice a n c)) (fun i _ => n - (intOf i).toNat)
  case atStart => exact ⟨0, by omega, rfl, by rw [Nat.zero_mul, List.take_zero, manyP_nil, List.append_nil]; exact h1, o0, g0⟩
  case round =>
    obtain ⟨k, hk, rfl, he, ho, gs⟩ := hrel
    by_cases hlt : k < n
    · have hk0 : (0 : Int) ≤ (k : Int) := by omega
      have hk1 : (k : Int) < (n : Int) := by omega
      obtain ⟨b, off, rfl, hbn, hat⟩ := (HG.out.off ho).2.resolve_left (by omega)
      have hz1 : ((L.drop (k * 2)).take 2).length = 2 := by rw [List.length_take, List.length_drop]; omega
      have hz2 : ∀ z ∈ (L.drop (k * 2)).take 2, Pk z := fun z hz => HPK.out z (List.mem_of_mem_drop (List.mem_of_mem_take hz))
      have hl2 := manyP_len (l := L.take (k * 2)) (fun z hz => HPK.out z (List.mem_of_mem_take hz))
      rw [List.length_take] at hl2
      have KEY := Lib.hid (pen_share H HB SB b (off + k * 2) ((L.drop (k * 2)).take 2) (out ++ (oneP (n : Int) ++ manyP (L.take (k * 2)))) wr he (hat.mid _ _) hz1 hbn hz2 (by rw [List.length_append, List.length_append]; omega))
      have hst := Lib.hid (take_step L k 2)
      clear hat hz1 hz2 hl2 he
      go_wp2_with fail
      refine KEY.out.mono ?_
      rintro e2 w2 ⟨rfl, he2, ho2⟩
      have gs2 := ho2.cell gs hS
      clear KEY gs
      go_wp2_with fail
      go_roundw
      case rel =>
        refine ⟨k + 1, by omega, by go_num, ?_, ho.trans ho2, gs2⟩
        rw [hst.out, manyP_append, ← List.append_assoc (oneP (n : Int)), ← List.append_assoc out]
        exact he2
      case measure => simp [intOf]; omega
    · obtain rfl : n = k := by omega
      go_wp2_with fail
      rw [← hlen, List.take_length] at he
      refine bodyPost_end (v := .tuple #[]) (by simp [results, Try.results75, go_sem]) rfl ⟨rfl, he, ho⟩

set_option maxRecDepth 100000 in
set_option maxHeartbeats 1000000 in
theorem pen_list_Int (H HB SB S so n c : Nat) (a : Option Addr) (L out : List Int) (W : World) (h : PenEnv W H HB SB out) (hs : W.cell? ⟨S, so, none⟩ = some (.slice a n c)) (hS : S ≠ H) (hG : Grp W H a n 1 L) (hpk : ∀ z ∈ L, Pk z) (hn : n ≤ 64) (hb : out.length ≤ 100000) :
    Calls Try.prog 76 #[.iface 64 (.pointer (some ⟨H, 0, none⟩)), .pointer (some ⟨S, so, none⟩), .func (.func 77) #[] #[.pointer (some ⟨HB, 0, none⟩)]] W fun e W' => e = .returned (.tuple #[]) ∧ PenEnv W' H HB SB (out ++ (oneP (n : Int) ++ manyP L)) ∧ Off H W W' := by
  have na : ∀ w, (nilAhead 274 64 (.pointer (some ⟨H, 0, none⟩)) "lumper/setup.many").run Try.prog w = .ok (some false) w := nil_ahead_pen_many _
  have ma : ∀ w, (method 274 64 (.pointer (some ⟨H, 0, none⟩)) "lumper/setup.many").run Try.prog w = .ok (137, .pointer (some ⟨H, 0, none⟩)) w := method_pen_many _
  have kd : Below W.heap.size W W.drew := (Below.refl _ _).drew
  have HG := Lib.hid hG
  have HPK := Lib.hid hpk
  have hone := oneP_len (n := (n : Int)) ⟨by omega, by omega⟩
  have hlen := hG.1
  have hm := manyP_len hpk
  clear hG hpk
  go_enter Try.func76, Try.ntmps76
  go_wp2_with fail
  have g0 : W.drew.cell? ⟨S, so, none⟩ = some (.slice a n c) := hs
  refine wp_region_held_drew (S := (fun w' => w'.cell? ⟨S, so, none⟩ = some (.slice a n c))) (by kernel_rfl) ?_ (fun hHeld => ?_)
  · exact g0
  refine wpAnyH_take (i := 0) (oi := ⟨some 8, _, _, _, _, none⟩) (v := ?_) rfl (by kernel_rfl) (by kernel_rfl) (by kernel_rfl) (fun _ _ _ h => h) (Or.inl ⟨by rfl, ?_⟩) (by assumption) ?_
  rotate_left
  · intro wz hSw; (try dsimp only at hSw); go_simp; (try with_reducible rfl)
  try simp only [Act.put, List.setIfInBounds_toArray, List.set_cons_zero, List.set_cons_succ]
  refine wpAnyH_take (i := 1) (oi := ⟨some 9, _, _, _, _, none⟩) (v := ?_) rfl (by kernel_rfl) (by kernel_rfl) (by kernel_rfl) (fun _ _ _ h => h) (Or.inl ⟨by rfl, ?_⟩) (by assumption) ?_
  rotate_left
  · intro wz hSw; (try dsimp only at hSw); go_simp; (try with_reducible rfl)
  try simp only [Act.put, List.setIfInBounds_toArray, List.set_cons_zero, List.set_cons_succ]
  refine wpAnyH_take (i := 2) (oi := ⟨some 10, _, _, _, _, none⟩) (v := ?_) rfl (by kernel_rfl) (by kernel_rfl) (by kernel_rfl) (fun _ _ _ h => h) (Or.inl ⟨by rfl, ?_⟩) (by assumption) ?_
  rotate_left
  · intro wz hSw; (try dsimp only at hSw); go_simp; (try with_reducible rfl)
  try simp only [Act.put, List.setIfInBounds_toArray, List.set_cons_zero, List.set_cons_succ]
  refine wpAnyH_take (i := 3) (oi := ⟨some 11, _, _, _, _, none⟩) (v := ?_) rfl (by kernel_rfl) (by kernel_rfl) (by kernel_rfl) (fun _ _ _ h => h) (Or.inl ⟨by rfl, ?_⟩) (by assumption) ?_
  rotate_left
  · intro wz hSw; (try dsimp only at hSw); go_simp; (try with_reducible rfl)
  try simp only [Act.put, List.setIfInBounds_toArray, List.set_cons_zero, List.set_cons_succ]
  refine wpAnyH_take (i := 4) (oi := ⟨some 12, _, _, _, _, none⟩) (v := ?_) rfl (by kernel_rfl) (by kernel_rfl) (by kernel_rfl) (fun _ _ _ h => h) (Or.inl ⟨by rfl, ?_⟩) (by assumption) ?_
  rotate_left
  · intro wz hSw; (try dsimp only at hSw); go_simp; (try with_reducible rfl)
  try simp only [Act.put, List.setIfInBounds_toArray, List.set_cons_zero, List.set_cons_succ]
  refine wpAnyH_take (i := 5) (oi := ⟨some 13, _, _, _, _, none⟩) (v := ?_) rfl (by kernel_rfl) (by kernel_rfl) (by kernel_rfl) (fun _ _ _ h => h) (Or.inl ⟨by rfl, ?_⟩) (by assumption) ?_
  rotate_left
  · intro wz hSw; (try dsimp only at hSw); go_simp; (try with_reducible rfl)
  try simp only [Act.put, List.setIfInBounds_toArray, List.set_cons_zero, List.set_cons_succ]
  refine wpAnyH_take (i := 6) (oi := ⟨some 14, _, _, _, _, none⟩) (v := ?_) rfl (by kernel_rfl) (by kernel_rfl) (by kernel_rfl) (fun _ _ _ h => h) (Or.inl ⟨by rfl, ?_⟩) (by assumption) ?_
  rotate_left
  · intro wz hSw; (try dsimp only at hSw); go_simp; (try with_reducible rfl)
  try simp only [Act.put, List.setIfInBounds_toArray, List.set_cons_zero, List.set_cons_succ]
  refine wpAnyH_take (i := 7) (oi := ⟨some 15, _, _, _, _, none⟩) (v := ?_) rfl (by kernel_rfl) (by kernel_rfl) (by kernel_rfl) (fun _ _ _ h => h) (Or.inl ⟨by rfl, ?_⟩) (by assumption) ?_
  rotate_left
  · intro wz hSw; (try dsimp only at hSw); go_simp; (try with_reducible rfl)
  try simp only [Act.put, List.setIfInBounds_toArray, List.set_cons_zero, List.set_cons_succ]
  refine wpAnyH_ready (rs := [8]) (by kernel_rfl) (by simp) ?_
  refine AllReadyH.cons (o := ⟨some 16, _, _, _, _, none⟩) rfl (fun K hK => ?_) AllReadyH.nil
  go_simp
  refine (pen_many H n out _ (h.below kd).pen (by omega) (by omega)).mono ?_
  rintro e1 w1 ⟨rfl, hp1, o1⟩
  replace g0 := o1.cell g0 hS
  refine hK.out _ _ ?_ (fun hHeld => ?_)
  · exact g0
  clear hK K
  try simp only [Act.put, List.setIfInBounds_toArray, List.set_cons_zero, List.set_cons_succ]
  refine wpAnyH_take (i := 9) (oi := ⟨some 6, _, _, _, _, none⟩) (v := ?_) rfl (by kernel_rfl) (by kernel_rfl) (by kernel_rfl) (fun _ _ _ h => h) (Or.inl ⟨by rfl, ?_⟩) (by assumption) ?_
  rotate_left
  · intro wz hSw; (try dsimp only at hSw); go_simp; (try with_reducible rfl)
  try simp only [Act.put, List.setIfInBounds_toArray, List.set_cons_zero, List.set_cons_succ]
  refine wpAnyH_done (by kernel_rfl) ?_ _
  have o0 : Off H W w1 := (Below.off kd).trans o1
  have h1 := h.off o0 hp1
  clear o1 hp1 h hs kd hHeld
  go_wp2_with fail
  go_loopw [31] (fun i wr => ∃ k : Nat, k ≤ n ∧ i = .int .i64 k ∧ PenEnv wr H HB SB (out ++ (oneP (n : Int) ++ manyP (L.take (k * 1)))) ∧ Off H W wr ∧ wr.cell? ⟨S, so, none⟩ = some (.slice a n c)) (fun i _ => n - (intOf i).toNat)
  case atStart => exact ⟨0, by omega, rfl, by rw [Nat.zero_mul, List.take_zero, manyP_nil, List.append_nil]; exact h1, o0, g0⟩
  case round =>
    obtain ⟨k, hk, rfl, he, ho, gs⟩ := hrel
    by_cases hlt : k < n
    · have hk0 : (0 : Int) ≤ (k : Int) := by omega
      have hk1 : (k : Int) < (n : Int) := by omega
      obtain ⟨b, off, rfl, hbn, hat⟩ := (HG.out.off ho).2.resolve_left (by omega)
      have hz1 : ((L.drop (k * 1)).take 1).length = 1 := by rw [List.length_take, List.length_drop]; omega
      have hz2 : ∀ z ∈ (L.drop (k * 1)).take 1, Pk z := fun z hz => HPK.out z (List.mem_of_mem_drop (List.mem_of_mem_take hz))
      have hl2 := manyP_len (l := L.take (k * 1)) (fun z hz => HPK.out z (List.mem_of_mem_take hz))
      rw [List.length_take] at hl2
      have KEY := Lib.hid (pen_rate H HB SB b (off + k * 1) ((L.drop (k * 1)).take 1) (out ++ (oneP (n : Int) ++ manyP (L.take (k * 1)))) wr he (hat.mid _ _) hz1 hbn hz2 (by rw [List.length_append, List.length_append]; omega))
      have hst := Lib.hid (take_step L k 1)
      simp only [Nat.mul_one] at KEY hst
      clear hat hz1 hz2 hl2 he
      go_wp2_with fail
      refine KEY.out.mono ?_
      rintro e2 w2 ⟨rfl, he2, ho2⟩
      have gs2 := ho2.cell gs hS
      clear KEY gs
      go_wp2_with fail
      go_roundw
      case rel =>
        refine ⟨k + 1, by omega, by go_num, ?_, ho.trans ho2, gs2⟩
        simp only [Nat.mul_one]
        rw [hst.out, manyP_append, ← List.append_assoc (oneP (n : Int)), ← List.append_assoc out]
        exact he2
      case measure => simp [intOf]; omega
    · obtain rfl : n = k := by omega
      go_wp2_with fail
      rw [← hlen, List.take_length] at he
      refine bodyPost_end (v := .tuple #[]) (by simp [results, Try.results76, go_sem]) rfl ⟨rfl, he, ho⟩

set_option maxRecDepth 100000 in
set_option maxHeartbeats 1000000 in
theorem pen_list_Tier (H HB SB S so n c : Nat) (a : Option Addr) (L out : List Int) (W : World) (h : PenEnv W H HB SB out) (hs : W.cell? ⟨S, so, none⟩ = some (.slice a n c)) (hS : S ≠ H) (hG : Grp W H a n 2 L) (hpk : ∀ z ∈ L, Pk z) (hn : n ≤ 64) (hb : out.length ≤ 100000) :
    Calls Try.prog 78 #[.iface 64 (.pointer (some ⟨H, 0, none⟩)), .pointer (some ⟨S, so, none⟩), .func (.func 79) #[] #[.pointer (some ⟨HB, 0, none⟩)]] W fun e W' => e = .returned (.tuple #[]) ∧ PenEnv W' H HB SB (out ++ (oneP (n : Int) ++ manyP L)) ∧ Off H W W' := by
  have na : ∀ w, (nilAhead 274 64 (.pointer (some ⟨H, 0, none⟩)) "lumper/setup.many").run Try.prog w = .ok (some false) w := nil_ahead_pen_many _
  have ma : ∀ w, (method 274 64 (.pointer (some ⟨H, 0, none⟩)) "lumper/setup.many").run Try.prog w = .ok (137, .pointer (some ⟨H, 0, none⟩)) w := method_pen_many _
  have kd : Below W.heap.size W W.drew := (Below.refl _ _).drew
  have HG := Lib.hid hG
  have HPK := Lib.hid hpk
  have hone := oneP_len (n := (n : Int)) ⟨by omega, by omega⟩
  have hlen := hG.1
  have hm := manyP_len hpk
  clear hG hpk
  go_enter Try.func78, Try.ntmps78
  go_wp2_with fail
  have g0 : W.drew.cell? ⟨S, so, none⟩ = some (.slice a n c) := hs
  refine wp_region_held_drew (S := (fun w' => w'.cell? ⟨S, so, none⟩ = some (.slice a n c))) (by kernel_rfl) ?_ (fun hHeld => ?_)
  · exact g0
  refine wpAnyH_take (i := 0) (oi := ⟨some 8, _, _, _, _, none⟩) (v := ?_) rfl (by kernel_rfl) (by kernel_rfl) (by kernel_rfl) (fun _ _ _ h => h) (Or.inl ⟨by rfl, ?_⟩) (by assumption) ?_
  rotate_left
  · intro wz hSw; (try dsimp only at hSw); go_simp; (try with_reducible rfl)
  try simp only [Act.put, List.setIfInBounds_toArray, List.set_cons_zero, List.set_cons_succ]
  refine wpAnyH_take (i := 1) (oi := ⟨some 9, _, _, _, _, none⟩) (v := ?_) rfl (by kernel_rfl) (by kernel_rfl) (by kernel_rfl) (fun _ _ _ h => h) (Or.inl ⟨by rfl, ?_⟩) (by assumption) ?_
  rotate_left
  · intro wz hSw; (try dsimp only at hSw); go_simp; (try with_reducible rfl)
  try simp only [Act.put, List.setIfInBounds_toArray, List.set_cons_zero, List.set_cons_succ]
  refine wpAnyH_take (i := 2) (oi := ⟨some 10, _, _, _, _, none⟩) (v := ?_) rfl (by kernel_rfl) (by kernel_rfl) (by kernel_rfl) (fun _ _ _ h => h) (Or.inl ⟨by rfl, ?_⟩) (by assumption) ?_
  rotate_left
  · intro wz hSw; (try dsimp only at hSw); go_simp; (try with_reducible rfl)
  try simp only [Act.put, List.setIfInBounds_toArray, List.set_cons_zero, List.set_cons_succ]
  refine wpAnyH_take (i := 3) (oi := ⟨some 11, _, _, _, _, none⟩) (v := ?_) rfl (by kernel_rfl) (by kernel_rfl) (by kernel_rfl) (fun _ _ _ h => h) (Or.inl ⟨by rfl, ?_⟩) (by assumption) ?_
  rotate_left
  · intro wz hSw; (try dsimp only at hSw); go_simp; (try with_reducible rfl)
  try simp only [Act.put, List.setIfInBounds_toArray, List.set_cons_zero, List.set_cons_succ]
  refine wpAnyH_take (i := 4) (oi := ⟨some 12, _, _, _, _, none⟩) (v := ?_) rfl (by kernel_rfl) (by kernel_rfl) (by kernel_rfl) (fun _ _ _ h => h) (Or.inl ⟨by rfl, ?_⟩) (by assumption) ?_
  rotate_left
  · intro wz hSw; (try dsimp only at hSw); go_simp; (try with_reducible rfl)
  try simp only [Act.put, List.setIfInBounds_toArray, List.set_cons_zero, List.set_cons_succ]
  refine wpAnyH_take (i := 5) (oi := ⟨some 13, _, _, _, _, none⟩) (v := ?_) rfl (by kernel_rfl) (by kernel_rfl) (by kernel_rfl) (fun _ _ _ h => h) (Or.inl ⟨by rfl, ?_⟩) (by assumption) ?_
  rotate_left
  · intro wz hSw; (try dsimp only at hSw); go_simp; (try with_reducible rfl)
  try simp only [Act.put, List.setIfInBounds_toArray, List.set_cons_zero, List.set_cons_succ]
  refine wpAnyH_take (i := 6) (oi := ⟨some 14, _, _, _, _, none⟩) (v := ?_) rfl (by kernel_rfl) (by kernel_rfl) (by kernel_rfl) (fun _ _ _ h => h) (Or.inl ⟨by rfl, ?_⟩) (by assumption) ?_
  rotate_left
  · intro wz hSw; (try dsimp only at hSw); go_simp; (try with_reducible rfl)
  try simp only [Act.put, List.setIfInBounds_toArray, List.set_cons_zero, List.set_cons_succ]
  refine wpAnyH_take (i := 7) (oi := ⟨some 15, _, _, _, _, none⟩) (v := ?_) rfl (by kernel_rfl) (by kernel_rfl) (by kernel_rfl) (fun _ _ _ h => h) (Or.inl ⟨by rfl, ?_⟩) (by assumption) ?_
  rotate_left
  · intro wz hSw; (try dsimp only at hSw); go_simp; (try with_reducible rfl)
  try simp only [Act.put, List.setIfInBounds_toArray, List.set_cons_zero, List.set_cons_succ]
  refine wpAnyH_ready (rs := [8]) (by kernel_rfl) (by simp) ?_
  refine AllReadyH.cons (o := ⟨some 16, _, _, _, _, none⟩) rfl (fun K hK => ?_) AllReadyH.nil
  go_simp
  refine (pen_many H n out _ (h.below kd).pen (by omega) (by omega)).mono ?_
  rintro e1 w1 ⟨rfl, hp1, o1⟩
  replace g0 := o1.cell g0 hS
  refine hK.out _ _ ?_ (fun hHeld => ?_)
  · exact g0
  clear hK K
  try simp only [Act.put, List.setIfInBounds_toArray, List.set_cons_zero, List.set_cons_succ]
  refine wpAnyH_take (i := 9) (oi := ⟨some 6, _, _, _, _, none⟩) (v := ?_) rfl (by kernel_rfl) (by kernel_rfl) (by kernel_rfl) (fun _ _ _ h => h) (Or.inl ⟨by rfl, ?_⟩) (by assumption) ?_
  rotate_left
  · intro wz hSw; (try dsimp only at hSw); go_simp; (try with_reducible rfl)
  try simp only [Act.put, List.setIfInBounds_toArray, List.set_cons_zero, List.set_cons_succ]
  refine wpAnyH_done (by kernel_rfl) ?_ _
  have o0 : Off H W w1 := (Below.off kd).trans o1
  have h1 := h.off o0 hp1
  clear o1 hp1 h hs kd hHeld
  go_wp2_with fail
  go_loopw [31] (fun i wr => ∃ k : Nat, k ≤ n ∧ i = .int .i64 k ∧ PenEnv wr H HB SB (out ++ (oneP (n : Int) ++ manyP (L.take (k * 2)))) ∧ Off H W wr ∧ wr.cell? ⟨S, so, none⟩ = some (.slice a n c)) (fun i _ => n - (intOf i).toNat)
  case atStart => exact ⟨0, by omega, rfl, by rw [Nat.zero_mul, List.take_zero, manyP_nil, List.append_nil]; exact h1, o0, g0⟩
  case round =>
    obtain ⟨k, hk, rfl, he, ho, gs⟩ := hrel
    by_cases hlt : k < n
    · have hk0 : (0 : Int) ≤ (k : Int) := by omega
      have hk1 : (k : Int) < (n : Int) := by omega
      obtain ⟨b, off, rfl, hbn, hat⟩ := (HG.out.off ho).2.resolve_left (by omega)
      have hz1 : ((L.drop (k * 2)).take 2).length = 2 := by rw [List.length_take, List.length_drop]; omega
      have hz2 : ∀ z ∈ (L.drop (k * 2)).take 2, Pk z := fun z hz => HPK.out z (List.mem_of_mem_drop (List.mem_of_mem_take hz))
      have hl2 := manyP_len (l := L.take (k * 2)) (fun z hz => HPK.out z (List.mem_of_mem_take hz))
      rw [List.length_take] at hl2
      have KEY := Lib.hid (pen_tier H HB SB b (off + k * 2) ((L.drop (k * 2)).take 2) (out ++ (oneP (n : Int) ++ manyP (L.take (k * 2)))) wr he (hat.mid _ _) hz1 hbn hz2 (by rw [List.length_append, List.length_append]; omega))
      have hst := Lib.hid (take_step L k 2)
      clear hat hz1 hz2 hl2 he
      go_wp2_with fail
      refine KEY.out.mono ?_
      rintro e2 w2 ⟨rfl, he2, ho2⟩
      have gs2 := ho2.cell gs hS
      clear KEY gs
      go_wp2_with fail
      go_roundw
      case rel =>
        refine ⟨k + 1, by omega, by go_num, ?_, ho.trans ho2, gs2⟩
        rw [hst.out, manyP_append, ← List.append_assoc (oneP (n : Int)), ← List.append_assoc out]
        exact he2
      case measure => simp [intOf]; omega
    · obtain rfl : n = k := by omega
      go_wp2_with fail
      rw [← hlen, List.take_length] at he
      refine bodyPost_end (v := .tuple #[]) (by simp [results, Try.results78, go_sem]) rfl ⟨rfl, he, ho⟩
end Go.Proofs.Ytnjckaifgmliaaa
