/- THE WALKS of layer 7's eye: numbers out of its bytes; how many. -/
import Derived.Test.YtnjckaifgmliaaaEyeBase
set_option linter.unusedSimpArgs false
set_option linter.unusedVariables false
namespace Go.Proofs.Ytnjckaifgmliaaa
open Go.RowKit Lu

set_option maxRecDepth 100000 in
set_option maxHeartbeats 4000000 in
theorem eye_put (H R Q qo cc : Nat) (T : TypeId) (X : List Nat) (xs ys : List Value) (zs : List Int) (st : Option (List Int)) (W : World) (hp : EyeIs W H X st) (hH : H ∈ X) (hR : R ∈ X) (hn : R ≠ H) (hb : Blk3 W R T xs zs ys)
    (hq : Cells W (some ⟨Q, qo, none⟩) ((List.range zs.length).map fun i => Value.pointer (some ⟨R, xs.length + i, none⟩))) (hQ : Q ≠ H) (hQR : Q ≠ R) (hz : zs.length ≤ 1000) :
    Calls Try.prog 140 #[.pointer (some ⟨H, 0, none⟩), .slice (some ⟨Q, qo, none⟩) zs.length cc] W fun e W' => e = .returned (.tuple #[]) ∧ EyeIs W' H X (eyeL st zs).2 ∧ Blk3 W' R T xs (eyeL st zs).1 ys ∧ Off2 H R W W' := by
  have HQ := Lib.hid hq
  have HP := Lib.hid hp
  have HBK := Lib.hid hb
  clear hq hp hb
  go_enter Try.func140, Try.ntmps140
  go_wp2_with fail
  go_loopw [11] (fun i wr => ∃ k : Nat, k ≤ zs.length ∧ i = .int .i64 k ∧ EyeIs wr H X (eyeL st (zs.take k)).2 ∧ Blk3 wr R T xs ((eyeL st (zs.take k)).1 ++ zs.drop k) ys ∧ Off2 H R W wr) (fun i _ => zs.length - (intOf i).toNat)
  case atStart => exact ⟨0, by omega, rfl, HP.out, HBK.out, Off2.refl _ _ _⟩
  case round =>
    obtain ⟨k, hk, rfl, he, hb, ho⟩ := hrel
    by_cases hlt : k < zs.length
    · have hk0 : (0 : Int) ≤ (k : Int) := by omega
      have hk1 : (k : Int) < (zs.length : Int) := by omega
      obtain ⟨z, hzk⟩ : ∃ z, zs[k]? = some z := ⟨_, List.getElem?_eq_getElem hlt⟩
      have hdone := eyeL_snoc st zs hzk
      have hstop := eyeL_stop st zs hzk
      have hl1 : (eyeL st (zs.take k)).1.length = k := by rw [eyeL_len, List.length_take]; omega
      rw [drop_at hzk] at hb hstop
      obtain ⟨⟨s1, s2⟩, hs⟩ : ∃ s, eyeL st (zs.take k) = s := ⟨_, rfl⟩
      rw [hs] at he hb hdone hstop hl1
      clear hs
      simp only at he hb hdone hstop hl1
      obtain ⟨a, n, c, ok, bs, hHc, hrow, hnc, hnl, hfar, hlow, rfl⟩ := he
      have gq : wr.cell? ⟨Q, qo + k, none⟩ = some (.pointer (some ⟨R, xs.length + k, none⟩)) := by
        rcases HQ.out with h0 | ⟨b, off, hb', hc⟩
        · exfalso
          have := congrArg List.length h0
          simp only [List.length_map, List.length_range, List.length_nil] at this
          omega
        · simp only [Option.some.injEq, Addr.mk.injEq, and_true] at hb'
          obtain ⟨rfl, rfl⟩ := hb'
          exact ho.cell (hc k _ (by rw [List.getElem?_map, List.getElem?_range hlt]; rfl)) hQ hQR
      have g0 : wr.cell? ⟨H, 0, none⟩ = some (.slice a n c) := by simp [World.cell?, hHc]
      have zH := block_lt hHc
      have hne : ∀ b o, a = some ⟨b, o, none⟩ → b ≠ H ∧ b ≠ R := fun b o h => ⟨fun z => (hfar b o h).2 (z ▸ hH), fun z => (hfar b o h).2 (z ▸ hR)⟩
      have HROW := Lib.hid hrow
      have HB := Lib.hid hb
      have HSTOP := Lib.hid hstop
      have HDONE := Lib.hid hdone
      have HFAR := Lib.hid hfar
      have HLOW := Lib.hid hlow
      have HNE := Lib.hid hne
      have HO := Lib.hid ho
      have HLEN := Lib.hid hl1
      clear hrow hb hstop hdone hfar hlow hne ho hzk hl1
      go_wp2_with fail
      refine (pack_Take a n c bs _ HROW.out hnl hnc).mono ?_
      rintro e1 w1 ⟨k1, htook⟩
      have hH1 := box_keep k1 hHc zH
      have q0 : w1.cell? ⟨H, 0, none⟩ = some (.slice a n c) := by simp [World.cell?, hH1]
      have q1 : w1.cell? ⟨H, 1, none⟩ = some (.bool ok) := by simp [World.cell?, hH1]
      have f0 : w1.frozen? ⟨H, 0, none⟩ = false := by simp [World.frozen?, hH1]
      have f1 : w1.frozen? ⟨H, 1, none⟩ = false := by simp [World.frozen?, hH1]
      have HK1 := Lib.hid k1
      have HH1 := Lib.hid hH1
      have hfail : eyeN (if ok = true then some bs else none) z = (z, none) → EyeIs (w1.setCell ⟨H, 1, none⟩ (.bool false)) H X (eyeL st zs).2 ∧ Blk3 (w1.setCell ⟨H, 1, none⟩ (.bool false)) R T xs (eyeL st zs).1 ys ∧ Off2 H R W (w1.setCell ⟨H, 1, none⟩ (.bool false)) := fun hz => by
        have O1 : Off2 H R wr (w1.setCell ⟨H, 1, none⟩ (.bool false)) := (Below.off2 (H := H) (R := R) HK1.out).setCell (.inl rfl) _
        rw [HSTOP.out (by rw [hz])]
        exact ⟨⟨a, n, c, false, bs, heap_setCell HH1.out _, HROW.out.off2 O1 HNE.out, hnc, hnl, fun b o h => ⟨Nat.lt_of_lt_of_le (HFAR.out b o h).1 O1.size, (HFAR.out b o h).2⟩, fun x hx => Nat.lt_of_lt_of_le (HLOW.out x hx) O1.size, rfl⟩,
          (HB.out.below HK1.out).far (p := ⟨H, 1, none⟩) (Ne.symm hn) _, HO.out.trans O1⟩
      have HFAIL := Lib.hid hfail
      clear k1 hH1 hHc g0 gq hfail
      cases ht : takeP bs with
      | none =>
        rw [ht] at htook
        simp only at htook
        subst htook
        have hz : eyeN (if ok = true then some bs else none) z = (z, none) := by cases ok <;> simp [eyeN, ht]
        have hfin := HFAIL.out hz
        have HFIN := Lib.hid hfin
        clear ht hz hfin HFAIL
        cases ok
        · go_wp2_with fail
          refine bodyPost_ret (v := .tuple #[]) (by simp [results, Try.results140, go_sem]) rfl ⟨rfl, HFIN.out⟩
        · go_wp2_with fail
          refine bodyPost_ret (v := .tuple #[]) (by simp [results, Try.results140, go_sem]) rfl ⟨rfl, HFIN.out⟩
      | some x =>
        obtain ⟨m, r⟩ := x
        rw [ht] at htook
        simp only at htook
        obtain ⟨a2, c2, rfl, hrow2, hrc, hfar2⟩ := htook
        cases ok
        · have hz : eyeN (if false = true then some bs else none) z = (z, none) := by simp [eyeN]
          have hfin := HFAIL.out hz
          have HFIN := Lib.hid hfin
          clear ht hz hfin HFAIL hrow2 hrc hfar2
          go_wp2_with fail
          refine bodyPost_ret (v := .tuple #[]) (by simp [results, Try.results140, go_sem]) rfl ⟨rfl, HFIN.out⟩
        · have hrl : r.length ≤ 1000000 := by have := takeP_pos HROW.out.2.2.1 ht; have := HROW.out.1; omega
          have hz : eyeN (if true = true then some bs else none) z = (m, some r) := by simp [eyeN, ht]
          rw [hz] at HDONE
          have hbk1 := HB.out.below HK1.out
          have cR : w1.cell? ⟨R, xs.length + k, none⟩ = some (.int .i64 z) := hbk1.cell (by rw [List.getElem?_append_right (by have := HLEN.out; omega), HLEN.out, Nat.sub_self]; rfl)
          have fR := hbk1.free (xs.length + k)
          have hn1 : ¬ R = H := hn
          have hn2 : ¬ H = R := fun z => hn z.symm
          have hfin : EyeIs (((w1.setCell ⟨H, 1, none⟩ (.bool true)).setCell ⟨R, xs.length + k, none⟩ (.int .i64 m)).setCell ⟨H, 0, none⟩ (.slice a2 r.length c2)) H X (eyeL st (zs.take (k + 1))).2 ∧ Blk3 (((w1.setCell ⟨H, 1, none⟩ (.bool true)).setCell ⟨R, xs.length + k, none⟩ (.int .i64 m)).setCell ⟨H, 0, none⟩ (.slice a2 r.length c2)) R T xs ((eyeL st (zs.take (k + 1))).1 ++ zs.drop (k + 1)) ys ∧ Off2 H R W (((w1.setCell ⟨H, 1, none⟩ (.bool true)).setCell ⟨R, xs.length + k, none⟩ (.int .i64 m)).setCell ⟨H, 0, none⟩ (.slice a2 r.length c2)) := by
            have O2 : Off2 H R w1 (((w1.setCell ⟨H, 1, none⟩ (.bool true)).setCell ⟨R, xs.length + k, none⟩ (.int .i64 m)).setCell ⟨H, 0, none⟩ (.slice a2 r.length c2)) := (((Off2.refl H R w1).setCell (.inl rfl) _).setCell (.inr rfl) _).setCell (.inl rfl) _
            have O1 := (Below.off2 (H := H) (R := R) HK1.out).trans O2
            have hh1 := heap_setCell (i := 1) HH1.out (.bool true)
            have hh2 := (Below.heap_setCell _ ⟨R, xs.length + k, none⟩ (.int .i64 m) H (Ne.symm hn)).trans hh1
            have hh3 := heap_setCell (i := 0) hh2 (.slice a2 r.length c2)
            have hne2 : ∀ b o, a2 = some ⟨b, o, none⟩ → b ∉ X := fun b o h hx => by have := (hfar2 b o h).1; have := HLOW.out b hx; omega
            rw [HDONE.out]
            refine ⟨⟨a2, r.length, c2, true, r, hh3, hrow2.off2 O2 (fun b o h => ⟨fun z => hne2 b o h (z ▸ hH), fun z => hne2 b o h (z ▸ hR)⟩), hrc, hrl, fun b o h => ⟨Nat.lt_of_lt_of_le (hfar2 b o h).2 O2.size, hne2 b o h⟩, fun x hx => Nat.lt_of_lt_of_le (HLOW.out x hx) O1.size, rfl⟩, ?_, HO.out.trans O1⟩
            simp only [List.append_assoc, List.cons_append, List.nil_append]
            exact ((hbk1.far (p := ⟨H, 1, none⟩) (Ne.symm hn) _).set (by rw [HLEN.out]) m).far (p := ⟨H, 0, none⟩) (Ne.symm hn) _
          have HFIN := Lib.hid hfin
          clear ht hz hfin HFAIL hrow2 hfar2 hbk1
          go_wp2_with fail
          go_roundw
          case rel => exact ⟨k + 1, by omega, by go_num, HFIN.out⟩
          case measure => simp [intOf]; omega
    · obtain rfl : k = zs.length := by omega
      rw [List.take_length] at he hb
      rw [List.drop_length, List.append_nil] at hb
      go_wp2_with fail
      refine bodyPost_end (v := .tuple #[]) (by simp [results, Try.results140, go_sem]) rfl ⟨rfl, he, hb, ho⟩
set_option maxRecDepth 100000 in
set_option maxHeartbeats 1000000 in
theorem eye_many (H : Nat) (X : List Nat) (v : Int) (st : Option (List Int)) (W : World) (hp : EyeIs W H X st) (hH : H ∈ X) :
    Calls Try.prog 139 #[.pointer (some ⟨H, 0, none⟩), .int .i64 v] W fun e W' => e = .returned (.int .i64 ((eyeM st).1 : Int)) ∧ EyeIs W' H X (eyeM st).2 ∧ Off H W W' := by
  have zH := hp.lt
  have k0 : Below W.heap.size W ((W.alloc (.cells #[.int .i64 0] 3)).alloc (.cells #[.pointer (some ⟨W.heap.size, 0, none⟩)] 97)) := by go_grown
  have hp' := hp.more (R := W.heap.size) k0 (Nat.le_refl _) (by simp; omega)
  have hc := cells_one (W.alloc (.cells #[.int .i64 0] 3)) (.pointer (some ⟨W.heap.size, 0, none⟩)) 97
  have hbk : Blk3 ((W.alloc (.cells #[.int .i64 0] 3)).alloc (.cells #[.pointer (some ⟨W.heap.size, 0, none⟩)] 97)) W.heap.size 3 [] [0] [] := box_keep (w := W.alloc (.cells #[.int .i64 0] 3)) (B := W.heap.size + 1) ((Below.refl _ _).alloc (by simp) _) (box_new W _ rfl _ _) (by omega)
  have key := eye_put H W.heap.size (W.heap.size + 1) 0 1 3 (W.heap.size :: X) [] [] [0] st _ hp' (by simp [hH]) (by simp) (by omega) hbk (by simpa using hc) (by omega) (by omega) (by simp)
  have e1 : eyeL st [0] = ([(eyeN st 0).1], (eyeN st 0).2) := rfl
  rw [e1] at key
  have KEY := Lib.hid key
  have hM : eyeM st = if 64 < (eyeN st 0).1 then (0, none) else ((eyeN st 0).1.toNat, (eyeN st 0).2) := rfl
  have hnn : 0 ≤ (eyeN st 0).1 ∧ (eyeN st 0).1 ≤ 9223372036854775807 := by
    unfold eyeN
    cases hp.elim' with
    | inl h => subst h; simp
    | inr h =>
      obtain ⟨bs, rfl, hby⟩ := h
      simp only
      cases ht : takeP bs with
      | none => simp
      | some x => exact (takeP_some (n := x.1) (r := x.2) hby (by rw [ht])).2
  generalize eyeN st 0 = en at *
  obtain ⟨n, s2⟩ := en
  simp only at hM hnn KEY
  have HM := Lib.hid hM
  clear key hc hbk e1 hp hp' hM
  go_enter Try.func139, Try.ntmps139
  go_wp2_with fail
  refine (KEY.out).mono ?_
  rintro e1 w1 ⟨rfl, hp1, hb1, o1⟩
  have c0 : w1.cell? ⟨W.heap.size, 0, none⟩ = some (.int .i64 n) := hb1.cell (i := 0) rfl
  have fz := hb1.free 0
  have O1 : Off H W w1 := ((Below.off2 k0).trans o1).one (Nat.le_refl _)
  have hne1 : ¬ H = W.heap.size := by omega
  have hne2 : ¬ W.heap.size = H := by omega
  clear KEY
  by_cases h64 : 64 < n
  · have y : decide (64 < n) = true := by rw [decide_eq_true_iff]; exact h64
    obtain ⟨a, nn, c, ok, bs, hHc, hrow, hnc, hnl, hfar, hlow, hst⟩ := hp1
    have g1 : w1.cell? ⟨H, 1, none⟩ = some (.bool ok) := by simp [World.cell?, hHc]
    have f1 : w1.frozen? ⟨H, 1, none⟩ = false := by simp [World.frozen?, hHc]
    have zs := O1.size
    have hfin : EyeIs ((w1.setCell ⟨H, 1, none⟩ (.bool false)).setCell ⟨W.heap.size, 0, none⟩ (.int .i64 0)) H X none ∧ Off H W ((w1.setCell ⟨H, 1, none⟩ (.bool false)).setCell ⟨W.heap.size, 0, none⟩ (.int .i64 0)) := by
      have O3 : Off2 H W.heap.size w1 ((w1.setCell ⟨H, 1, none⟩ (.bool false)).setCell ⟨W.heap.size, 0, none⟩ (.int .i64 0)) := ((Off2.refl H W.heap.size w1).setCell (.inl rfl) _).setCell (.inr rfl) _
      refine ⟨⟨a, nn, c, false, bs, (Below.heap_setCell _ ⟨W.heap.size, 0, none⟩ (.int .i64 0) H (by simp only; omega)).trans (heap_setCell hHc _), hrow.off2 O3 (fun b o h => ⟨fun z => (hfar b o h).2 (z ▸ by simp [hH]), fun z => (hfar b o h).2 (z ▸ by simp)⟩), hnc, hnl, fun b o h => ⟨Nat.lt_of_lt_of_le (hfar b o h).1 O3.size, fun hx => (hfar b o h).2 (by simp [hx])⟩, fun x hx => Nat.lt_of_lt_of_le (hlow x (by simp [hx])) O3.size, rfl⟩, (((Below.off2 k0).trans o1).trans O3).one (Nat.le_refl _)⟩
    have HFIN := Lib.hid hfin
    clear hfin hHc hrow hfar hlow hst hb1 o1 O1
    go_wp2_with fail
    refine bodyPost_ret (v := .int .i64 0) (by simp [results, Try.results139, go_sem, c0, hne1, hne2]) rfl ?_
    rw [HM.out, if_pos h64]
    exact ⟨rfl, HFIN.out⟩
  · have y : decide (64 < n) = false := by rw [decide_eq_false_iff_not]; exact h64
    have hfin : EyeIs (w1.setCell ⟨W.heap.size, 0, none⟩ (.int .i64 n)) H X s2 ∧ Off H W (w1.setCell ⟨W.heap.size, 0, none⟩ (.int .i64 n)) := by
      have hsz := O1.size
      have hh := hp1.lt
      refine ⟨(hp1.off (R := W.heap.size) (by simp [World.setCell]) (fun b _ hb => Below.heap_setCell _ _ _ _ (by omega)) (by simp) (by omega)).less (fun x hx => by simp [hx]), (((Below.off2 k0).trans o1).setCell (.inr rfl) _).one (Nat.le_refl _)⟩
    have HFIN := Lib.hid hfin
    have hnt : ((n.toNat : Nat) : Int) = n := by omega
    have HNT := Lib.hid hnt
    clear hfin hb1 o1 O1 hp1 hnt
    go_wp2_with fail
    refine bodyPost_ret (v := .int .i64 n) (by simp [results, Try.results139, go_sem, c0]) rfl ?_
    rw [HM.out, if_neg (by omega)]
    simp only
    rw [HNT.out]
    exact ⟨rfl, HFIN.out⟩
end Go.Proofs.Ytnjckaifgmliaaa
