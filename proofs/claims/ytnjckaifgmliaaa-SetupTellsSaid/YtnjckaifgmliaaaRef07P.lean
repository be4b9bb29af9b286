/- WORDS for the reference's Read: rows that it has laid, while the box of the setup turns. -/
import Derived.Test.YtnjckaifgmliaaaTake
import Derived.Test.YtnjckaifgmliaaaPlainHand3
import Derived.Deep.QuietTactic
import Derived.BigQuiet
import Derived.Test.YtnjckaifgmliaaaRef07N
import Derived.Test.YtnjckaifgmliaaaWrite
import Derived.Test.YtnjckaifgmliaaaPlainHand4
import Derived.Test.YtnjckaifgmliaaaRead
import Derived.Test.YtnjckaifgmliaaaSetupApart
set_option linter.unusedSimpArgs false
set_option linter.unusedVariables false
-- (MERGED of several texts)

/- THE WALKS of layer 5's reference: a number's bytes; numbers behind each other; the number that bytes begin with. -/

namespace Go.Proofs.Ytnjckaifgmliaaa
open Go.RowKit Lu

theorem own_base {w : World} {base base' : Nat} {e : TypeId} {size : Nat} {v : Value} {n : Nat} {xs : List Value} (h : w.ownsRow base e size v n xs) (hb : base' ≤ base) : w.ownsRow base' e size v n xs := by
  refine ⟨h.1, ?_⟩
  rcases h.2 with h0 | ⟨g, cap, cur, hv, hg, hr⟩
  · exact .inl h0
  · exact .inr ⟨g, cap, cur, hv, Nat.le_trans hb hg, hr⟩
theorem own_below {w w' : World} {base : Nat} {e : TypeId} {size : Nat} {v : Value} {n : Nat} {xs : List Value} (h : w.ownsRow base e size v n xs) (k : Below w.heap.size w w') : w'.ownsRow base e size v n xs := by
  refine ⟨h.1, ?_⟩
  rcases h.2 with h0 | ⟨g, cap, cur, hv, hg, hh, hr⟩
  · exact .inl h0
  · exact .inr ⟨g, cap, cur, hv, hg, (k.block g (block_lt hh)).trans hh, hr⟩
theorem own_none {w : World} {base : Nat} {e : TypeId} {n c : Nat} {xs : List Value} (h : w.ownsRow base e 1 (.slice none n c) n xs) : n = 0 := by
  rcases h.2 with ⟨_, h0⟩ | ⟨_, _, _, hv, _⟩
  · exact h0
  · cases hv
set_option maxRecDepth 100000 in
set_option maxHeartbeats 1000000 in
theorem ref5_digits (n : Nat) : ∀ (w : World), n ≤ 9223372036854775807 → Calls Try.prog 105 #[.int .i64 (n : Int)] w fun e w' => ∃ v, e = .returned v ∧ w'.ownsRow w.heap.size 5 1 v (digN n).length ((digN n).map (Value.int .u8)) ∧ Below w.heap.size w w' := by
  induction n using Nat.strongRecOn with
  | _ n ih =>
    intro w hn
    obtain ⟨i0, hi, hz0, hz1, hz2⟩ := info_parts infoByte
    by_cases h0 : n = 0
    · subst h0
      clear ih hi hz0 hz1 hz2
      rw [digN_zero]
      go_enter Try.func105, Try.ntmps105
      go_wp2_with fail
      go_ret
      exact ⟨_, rfl, ⟨rfl, .inl ⟨rfl, rfl⟩⟩, Below.refl _ _⟩
    · have hne : ((n : Int) == 0) = false := by rw [beq_eq_false_iff_ne]; omega
      have hlen : (digN n).length = (digN (n / 256)).length + 1 := digN_len_step h0
      have hl8 : (digN n).length ≤ 8 := digN_len_le n 8 (by omega)
      have hle : (digN (n / 256)).length ≤ 7 := by omega
      have hds := digN_step h0
      have key := ih (n / 256) (by omega) w (by omega)
      obtain ⟨q, hq⟩ : ∃ q, n / 256 = q := ⟨_, rfl⟩
      obtain ⟨r, hr⟩ : ∃ r, n % 256 = r := ⟨_, rfl⟩
      have hn0 : (0 : Int) ≤ (n : Int) := by omega
      have hn1 : (n : Int) ≤ 9223372036854775807 := by omega
      have ht : (n : Int).tdiv 256 = (q : Int) := by rw [Int.tdiv_eq_ediv_of_nonneg (by omega)]; omega
      have hm : (n : Int).tmod 256 = (r : Int) := by rw [Int.tmod_eq_emod_of_nonneg (by omega)]; omega
      have hd : (n : Int) / 256 = (q : Int) := by omega
      have hr' : (n : Int) % 256 = (r : Int) := by omega
      have hw : IntKind.i64.wrap (q : Int) = (q : Int) := IntWalk.i64_in _ (by omega)
      have hr8 : IntKind.u8.wrap (r : Int) = (r : Int) := by rw [IntKind.wrap_u8]; omega
      rw [hq] at hlen hle hds key
      rw [hr] at hds
      have KEY := Lib.hid key
      have HLEN := Lib.hid hlen
      have HDS := Lib.hid hds
      clear ih hlen hl8 hq hr hds key
      go_enter Try.func105, Try.ntmps105
      go_wp2_with fail
      refine (KEY.out).mono ?_
      rintro e1 w1 ⟨v1, rfl, own1, k1⟩
      have HOWN := Lib.hid own1
      have z1 := k1.size
      clear own1 KEY
      go_wp2_with (at_builtin; (refine wpList_append_cells _ rfl (.tmp 7) (.tmp 11) 31 rfl w.heap.size 5 i0 (.int .u8 0) 1 1 Try.underlying31 hi hz0 hz1 hz2 rfl (by decide) _ (digN q).length _ rfl (HOWN.out.alloc _) (some ⟨w1.heap.size, 0, none⟩) 1 1 [_] rfl rfl (cells_one _ _ _) (by simp) (by intro u hu; simp at hu; subst hu; rfl) (by unfold maxLen; omega) (by omega) (by simp; omega) ?_; intro v' W' own' grow'))
      have Bg := below_own (k1.alloc k1.size _) (HOWN.out.alloc _) grow' (Nat.le_refl _) (by simp; omega)
      go_wp2_with fail
      go_ret
      refine ⟨_, rfl, ?_, Bg⟩
      rw [HLEN.out, HDS.out, List.map_append]
      exact own'
set_option maxRecDepth 100000 in
theorem ref5_One (n : Int) (w : World) (h : Pk n) : Calls Try.prog 80 #[.int .i64 n] w fun e w' => ∃ v, e = .returned v ∧ w'.ownsRow w.heap.size 5 1 v (oneP n).length ((oneP n).map (Value.int .u8)) ∧ Below w.heap.size w w' := by
  obtain ⟨i0, hi, hz0, hz1, hz2⟩ := info_parts infoByte
  obtain ⟨m, rfl⟩ := Int.eq_ofNat_of_zero_le h.1
  have hl := h.len
  have hm := h.2
  have key := ref5_digits m w (by omega)
  have e1 : oneP (m : Int) = ((digN m).length : Int) :: digN m := rfl
  rw [e1, List.length_cons]
  rw [Int.toNat_natCast] at hl
  generalize digN m = d at *
  have KEY := Lib.hid key
  have hw8 : IntKind.u8.wrap (d.length : Int) = (d.length : Int) := by rw [IntKind.wrap_u8]; omega
  clear key e1 h
  go_enter Try.func80, Try.ntmps80
  go_wp2_with fail
  refine (KEY.out).mono ?_
  rintro e1 w1 ⟨v1, rfl, own1, k1⟩
  obtain ⟨a1, c1, rfl, hc1⟩ := Cells.of_own own1
  have hnone : a1 = none → d.length = 0 := by
    intro ha
    subst ha
    exact own_none own1
  have HC := Lib.hid (hc1.below (w' := w1.alloc (.cells #[.int .u8 (d.length : Int)] 5)) (by go_grown))
  have own0 := own_full w1 5 1 w1.heap.size w1.heap.size 1 [.int .u8 (d.length : Int)] (Nat.le_refl _) rfl rfl (by decide)
  have HOWN := Lib.hid own0
  have HNONE := Lib.hid hnone
  clear own1 own0 KEY hc1 hnone
  go_wp2_with (at_builtin; (refine wpList_append_cells _ rfl (.tmp 9) (.tmp 10) 31 rfl w1.heap.size 5 i0 (.int .u8 0) 1 1 Try.underlying31 hi hz0 hz1 hz2 rfl (by decide) _ 1 _ rfl HOWN.out a1 d.length c1 (d.map (Value.int .u8)) rfl (by simp) HC.out HNONE.out (oneCell_u8 d) (by unfold maxLen; omega) (by omega) (by simp) ?_; intro v' W' own' grow'))
  have Bg := below_own (k1.alloc k1.size _) (own_base HOWN.out k1.size) grow' (Nat.le_refl _) (by have := k1.size; simp; omega)
  go_wp2_with fail
  go_ret
  refine ⟨_, rfl, ?_, Bg⟩
  have e2 := own_base own' k1.size
  rw [Nat.add_comm] at e2
  exact e2
set_option maxRecDepth 100000 in
set_option maxHeartbeats 1000000 in
theorem ref5_Put (A : Option Addr) (n c : Nat) (zs : List Int) (w : World) (h : Ints w A n zs) (hpk : ∀ z ∈ zs, Pk z) (hn : n ≤ 100000) :
    Calls Try.prog 35 #[.slice none 0 0, .slice A n c] w fun e w' => ∃ v, e = .returned (.tuple #[v, .int .i64 0]) ∧ w'.ownsRow w.heap.size 5 1 v (manyP zs).length ((manyP zs).map (Value.int .u8)) ∧ Below w.heap.size w w' := by
  obtain ⟨i0, hi, hz0, hz1, hz2⟩ := info_parts infoByte
  have HPK := Lib.hid hpk
  have HINT := Lib.hid h
  have hzl := h.1
  have own0 := own_empty w 5 1 w.heap.size w.heap.size (Nat.le_refl _) rfl
  have HO0 := Lib.hid own0
  clear hpk h own0
  go_enter Try.func35, Try.ntmps35
  go_wp2_with (at_builtin; (refine wpList_append_cells _ rfl (.tmp 8) (.tmp 9) 31 rfl w.heap.size 5 i0 (.int .u8 0) 1 1 Try.underlying31 hi hz0 hz1 hz2 rfl (by decide) _ 0 _ rfl HO0.out none 0 0 [] rfl rfl (.inl rfl) (by simp) (by intro u hu; simp at hu) (by unfold maxLen; omega) (by omega) (by simp) ?_; intro v' W' own' grow'))
  have B0 := below_own ((Below.refl w.heap.size w).alloc (Nat.le_refl _) _) HO0.out grow' (Nat.le_refl _) (by simp)
  have HO1 := Lib.hid own'
  clear own' grow'
  go_wp2_with fail
  go_loopw [6, 7] (fun v i wr => ∃ k : Nat, k ≤ n ∧ i = .int .i64 k ∧ wr.ownsRow w.heap.size 5 1 v (manyP (zs.take k)).length ((manyP (zs.take k)).map (Value.int .u8)) ∧ Below w.heap.size w wr) (fun _ i _ => n - (intOf i).toNat)
  case atStart => exact ⟨0, by omega, rfl, by simpa [manyP] using HO1.out, B0⟩
  case round =>
    obtain ⟨k, hk, rfl, hown, Br⟩ := hrel
    have HOWN := Lib.hid hown
    clear hown
    by_cases hlt : k < n
    · have hk0 : (0 : Int) ≤ (k : Int) := by omega
      have hk1 : (k : Int) < (n : Int) := by omega
      obtain ⟨b, off, rfl, hcell⟩ : ∃ b off, A = some ⟨b, off, none⟩ ∧ ∀ i, i < n → w.cell? ⟨b, off + i, none⟩ = some (.int .i64 (zs.getD i 0)) := by
        rcases HINT.out.2.2.2 with h0 | h0
        · omega
        · exact h0
      have gk := keepD Br (hcell k hlt)
      have hmem : zs.getD k 0 ∈ zs := by
        rw [List.getD_eq_getElem?_getD, List.getElem?_eq_getElem (by omega)]
        exact List.getElem_mem _
      have hpz := HPK.out _ hmem
      have ht : zs.take (k + 1) = zs.take k ++ [zs.getD k 0] := by
        rw [List.take_succ_eq_append_getElem (by omega), List.getD_eq_getElem?_getD, List.getElem?_eq_getElem (by omega)]; rfl
      have HT := Lib.hid ht
      have hml := manyP_len (l := zs.take k) (fun m hm => HPK.out m (List.mem_of_mem_take hm))
      rw [List.length_take] at hml
      have hol := oneP_len hpz
      generalize zs.getD k 0 = z at *
      have hz0' := hpz.1
      have yz : decide (z < 0) = false := by rw [decide_eq_false_iff_not]; omega
      clear hcell hmem ht
      go_wp2_with fail
      refine (ref5_One z _ hpz).mono ?_
      rintro e2 w2 ⟨v2, rfl, own2, k2⟩
      obtain ⟨a2, c2, rfl, hc2⟩ := Cells.of_own own2
      have hnone : a2 = none → (oneP z).length = 0 := by
        intro ha
        subst ha
        exact own_none own2
      have HC2 := Lib.hid hc2
      have HNONE := Lib.hid hnone
      have HOW2 := Lib.hid (own_below HOWN.out k2)
      have B2 := Br.trans (k2.mono Br.size)
      clear own2 hc2 hnone
      go_wp2_with (at_builtin; (refine wpList_append_cells _ rfl (.tmp 22) (.tmp 27) 31 rfl w.heap.size 5 i0 (.int .u8 0) 1 1 Try.underlying31 hi hz0 hz1 hz2 rfl (by decide) _ (manyP (zs.take k)).length _ rfl HOW2.out a2 (oneP z).length c2 ((oneP z).map (Value.int .u8)) rfl (by simp) HC2.out HNONE.out (oneCell_u8 _) (by unfold maxLen; omega) (by omega) (by have := B2.size; omega) ?_; intro v' W' own' grow'))
      have Bg := below_own B2 HOW2.out grow' (Nat.le_refl _) B2.size
      go_wp2_with fail
      go_roundw
      case rel =>
        refine ⟨k + 1, by omega, by go_num, ?_, Bg⟩
        rw [HT.out, manyP_append, show manyP [z] = oneP z by unfold manyP; simp, List.length_append, List.map_append]
        exact own'
      case measure => simp [intOf]; omega
    · obtain rfl : k = n := by omega
      rw [List.take_of_length_le (by omega)] at HOWN
      go_wp2_with fail
      refine bodyPost_ret (v := .tuple #[u6, .int .i64 0]) (by simp [results, Try.results35, go_sem]) rfl ⟨_, rfl, HOWN.out, Br⟩
end Go.Proofs.Ytnjckaifgmliaaa

/- THE WALK of layer 5's reference: the number that bytes begin with. -/

namespace Go.Proofs.Ytnjckaifgmliaaa
open Go.RowKit Lu

theorem row_drop {w : World} {b off len : Nat} {bs : List Int} (h : Row8 w (some ⟨b, off, none⟩) len bs) (k : Nat) (hk : k ≤ len) : Row8 w (some ⟨b, off + k, none⟩) (len - k) (bs.drop k) := by
  refine ⟨by rw [List.length_drop, h.1], by have := h.2.1; omega, fun c hc => h.2.2.1 c (List.mem_of_mem_drop hc), ?_, fun h => by cases h⟩
  rcases h.2.2.2.1 with h0 | ⟨b', off', ha, hc⟩
  · left
    have : bs = [] := by simpa using h0
    rw [this]; simp
  · simp only [Option.some.injEq, Addr.mk.injEq, and_true] at ha
    obtain ⟨rfl, rfl⟩ := ha
    refine .inr ⟨_, _, rfl, fun i u hu => ?_⟩
    rw [List.getElem?_map, List.getElem?_drop] at hu
    have := hc (k + i) u (by rw [List.getElem?_map]; exact hu)
    rw [← Nat.add_assoc] at this
    exact this
theorem row_end {w : World} {ad : Option Addr} {len k : Nat} {bs : List Int} (hl : bs.length = len) (hk : len = k) : Row8 w ad (len - k) (bs.drop k) := by
  subst hk
  subst hl
  exact ⟨by simp, by omega, fun c hc => by simp at hc, .inl (by simp), fun _ => by omega⟩
/-- What the reference's Take tells. -/
def Took5 (w : World) (a0 : Option Addr) (bs : List Int) (e : Ending) (w' : World) : Prop :=
  (∃ k, w' = w.drewN k) ∧ match takeP bs with
  | none => e = .returned (.tuple #[.int .i64 0, .slice none 0 0, .int .i64 50])
  | some (n, r) => ∃ a c, e = .returned (.tuple #[.int .i64 n, .slice a r.length c, .int .i64 0]) ∧ Row8 w' a r.length r ∧ r.length ≤ c ∧ ∀ b o, a = some ⟨b, o, none⟩ → ∃ o', a0 = some ⟨b, o', none⟩
theorem Row8.drewN {w : World} {a : Option Addr} {n : Nat} {bs : List Int} (h : Row8 w a n bs) (k : Nat) : Row8 (w.drewN k) a n bs := h.below (below_drewN (Below.refl _ _) k)
set_option maxRecDepth 100000 in
set_option maxHeartbeats 4000000 in
theorem ref5_Take (a : Option Addr) (len cap : Nat) (bs : List Int) (w : World) (h : Row8 w a len bs) (hl : len ≤ 1000000) (hcap : len ≤ cap) : Calls Try.prog 81 #[.slice a len cap] w (Took5 w a bs) := by
  have HROW := Lib.hid h
  obtain ⟨hlen, _, hby, hc, hna⟩ := h
  have none_is : ∀ {e : Ending}, takeP bs = none → e = .returned (.tuple #[.int .i64 0, .slice none 0 0, .int .i64 50]) → Took5 w a bs e w := fun ht he => ⟨⟨0, rfl⟩, by rw [ht]; exact he⟩
  go_enter Try.func81, Try.ntmps81
  cases bs with
  | nil =>
    obtain rfl : len = 0 := by simpa using hlen.symm
    clear HROW hc hby hna
    go_wp2_with fail
    refine bodyPost_ret (v := .tuple #[.int .i64 0, .slice none 0 0, .int .i64 50]) (by simp [results, Try.results81, go_sem]) rfl (none_is rfl rfl)
  | cons c r =>
    obtain ⟨b, off, rfl, hcell⟩ : ∃ b off, a = some ⟨b, off, none⟩ ∧ ∀ i u, ((c :: r).map (Value.int .u8))[i]? = some u → w.cell? ⟨b, off + i, none⟩ = some u := by
      rcases hc with h0 | hc
      · simp at h0
      · exact hc
    have hl1 : r.length + 1 ≤ len := by have := hlen; simp only [List.length_cons] at this; omega
    have hl2 : len ≤ r.length + 1 := by have := hlen; simp only [List.length_cons] at this; omega
    have HLQ := Lib.hid hlen
    have c0 : w.cell? ⟨b, off, none⟩ = some (.int .u8 c) := hcell 0 _ rfl
    have hb := hby c (by simp)
    have hlp : (0 : Int) < (len : Int) := by omega
    have hlp' : 0 < len := by omega
    have hne : ((len : Int) == 0) = false := by rw [beq_eq_false_iff_ne]; omega
    have hw : IntKind.i64.wrap c = c := IntWalk.i64_in _ (by omega)
    clear hlen
    by_cases hbad : 8 < c ∨ (r.length : Int) < c
    · have hT : takeP (c :: r) = none := by rw [takeP_cons, if_pos]; rcases hbad with h | h <;> simp [h]
      have HN := Lib.hid (none_is (e := .returned (.tuple #[.int .i64 0, .slice none 0 0, .int .i64 50])) hT rfl)
      clear hT none_is hcell HROW hc hna hby
      by_cases h8 : 8 < c
      · have y8 : decide (8 < c) = true := by rw [decide_eq_true_iff]; exact h8
        go_wp2_with fail
        refine bodyPost_ret (v := .tuple #[.int .i64 0, .slice none 0 0, .int .i64 50]) (by simp [results, Try.results81, go_sem]) rfl HN.out
      · have y8 : decide (8 < c) = false := by rw [decide_eq_false_iff_not]; exact h8
        have y9 : decide ((len : Int) ≤ c) = true := by rw [decide_eq_true_iff]; omega
        go_wp2_with fail
        refine bodyPost_ret (v := .tuple #[.int .i64 0, .slice none 0 0, .int .i64 50]) (by simp [results, Try.results81, go_sem]) rfl HN.out
    · have h8 : ¬ 8 < c := fun z => hbad (.inl z)
      have h9 : c ≤ (r.length : Int) := by omega
      have y8 : decide (8 < c) = false := by rw [decide_eq_false_iff_not]; exact h8
      have y9 : decide ((len : Int) ≤ c) = false := by rw [decide_eq_false_iff_not]; omega
      obtain ⟨m, rfl⟩ := Int.eq_ofNat_of_zero_le hb.1
      have hm8 : m ≤ 8 := by omega
      have hmr : m ≤ r.length := by omega
      have hTC := takeP_cons (m : Int) r
      have HCELL := Lib.hid hcell
      have HBY := Lib.hid hby
      clear hcell hby hc hna h8 h9 hbad
      by_cases herr : (m : Int) = 8 ∧ 128 ≤ r.headD 0 ∨ 0 < (m : Int) ∧ r.headD 0 = 0
      · have hT : takeP ((m : Int) :: r) = none := by rw [hTC, if_pos]; rcases herr with h | h; exact .inr (.inr (.inl h)); exact .inr (.inr (.inr h))
        have HN := Lib.hid (none_is (e := .returned (.tuple #[.int .i64 0, .slice none 0 0, .int .i64 50])) hT rfl)
        obtain ⟨d, r, rfl⟩ : ∃ d r', r = d :: r' := by
          cases r with
          | nil => exfalso; simp at hmr; omega
          | cons d r => exact ⟨d, r, rfl⟩
        have c1 : w.cell? ⟨b, off + 1, none⟩ = some (.int .u8 d) := HCELL.out 1 _ rfl
        have hlp1 : (1 : Int) < (len : Int) := by simp only [List.length_cons] at hl1; omega
        have hlp1' : 1 < len := by omega
        simp only [List.headD_cons] at herr
        clear hT hTC none_is HROW HCELL
        have hm0 : 0 < (m : Int) := by omega
        have ym : decide (0 < (m : Int)) = true := by rw [decide_eq_true_iff]; exact hm0
        have ym' : decide (0 < m) = true := by rw [decide_eq_true_iff]; omega
        by_cases hA : (m : Int) = 8 ∧ 128 ≤ d
        · have ya : ((m : Int) == 8) = true := by rw [beq_iff_eq]; exact hA.1
          have yb : decide (128 ≤ d) = true := by rw [decide_eq_true_iff]; exact hA.2
          clear herr hA
          go_wp2_with fail
          refine bodyPost_ret (v := .tuple #[.int .i64 0, .slice none 0 0, .int .i64 50]) (by simp [results, Try.results81, go_sem]) rfl HN.out
        · obtain rfl : d = 0 := by rcases herr with h | h; exact absurd h hA; exact h.2
          have yb : decide ((128 : Int) ≤ 0) = false := by decide
          clear herr hA
          by_cases ya : (m : Int) = 8
          · have ya' : ((m : Int) == 8) = true := by rw [beq_iff_eq]; exact ya
            clear ya
            go_wp2_with fail
            refine bodyPost_ret (v := .tuple #[.int .i64 0, .slice none 0 0, .int .i64 50]) (by simp [results, Try.results81, go_sem]) rfl HN.out
          · have ya' : ((m : Int) == 8) = false := by rw [beq_eq_false_iff_ne]; exact ya
            clear ya
            go_wp2_with fail
            refine bodyPost_ret (v := .tuple #[.int .i64 0, .slice none 0 0, .int .i64 50]) (by simp [results, Try.results81, go_sem]) rfl HN.out
      · rw [if_neg (by rintro (h | h | h | h) <;> first | omega | exact herr (.inl h) | exact herr (.inr h))] at hTC
        rw [Int.toNat_natCast] at hTC
        obtain ⟨_, hpk, _⟩ : _ ∧ Pk (valN (r.take m)) ∧ _ := by
          rcases take_split hm8 hmr (fun x hx => HBY.out x (by simp [hx])) with ⟨_, h⟩ | ⟨h, _⟩
          · exact h
          · rw [hTC] at h; cases h
        have HTC := Lib.hid hTC
        have HPK := Lib.hid hpk
        clear hTC hpk none_is
        have main : ∀ (aa : Act), aa.tmps = aa.tmps → True := fun _ _ => trivial
        clear main
        have hend : ∀ (W : World) (k : Nat), W = w.drewN k → ∀ ad c2, Row8 w ad (len - (m + 1)) ((((m : Int) :: r)).drop (m + 1)) → len - (m + 1) ≤ c2 → (∀ b' o', ad = some ⟨b', o', none⟩ → b' = b) → Took5 w (some ⟨b, off, none⟩) ((m : Int) :: r) (.returned (.tuple #[.int .i64 (valN (r.take m)), .slice ad (len - (m + 1)) c2, .int .i64 0])) W := fun W k hW ad c2 hr hc2 hbb => by
          have e1 : len - (m + 1) = (r.drop m).length := by rw [List.length_drop]; omega
          refine ⟨⟨k, hW⟩, ?_⟩
          rw [HTC.out]
          rw [List.drop_succ_cons, e1] at hr
          rw [e1] at hc2 ⊢
          exact ⟨ad, c2, rfl, by rw [hW]; exact hr.drewN k, hc2, fun b' o' h => ⟨off, by rw [hbb b' o' h]⟩⟩
        have HEND := Lib.hid hend
        clear hend
        by_cases hcm : cap = m + 1
        · have hrow : ∀ ad, Row8 w ad (len - (m + 1)) (((m : Int) :: r).drop (m + 1)) := fun ad => row_end HLQ.out (by omega)
          have HR := Lib.hid hrow
          clear hrow
          by_cases hm0 : m = 0
          · have ym : decide (0 < m) = false := by rw [decide_eq_false_iff_not]; omega
            have ymi : decide ((0 : Int) < (m : Int)) = false := by rw [decide_eq_false_iff_not]; omega
            have ya' : ((m : Int) == 8) = false := by rw [beq_eq_false_iff_ne]; omega
            clear herr hm0
            go_wp2_with fail
            go_loop [6, 7] (fun v i => ∃ k : Nat, k ≤ m ∧ i = .int .i64 (k + 1) ∧ v = .int .i64 (valN (r.take k))) (fun _ i => m + 1 - (intOf i).toNat)
            case atStart => exact ⟨0, by omega, rfl, rfl⟩
            case round =>
              obtain ⟨k, hk, rfl, rfl⟩ := hrel
              by_cases hkm : k < m
              · have y1 : decide ((k : Int) + 1 ≤ (m : Int)) = true := by rw [decide_eq_true_iff]; omega
                have hkr : k < r.length := by omega
                have hck := HCELL.out (k + 1) _ (by rw [List.map_cons, List.getElem?_cons_succ, List.getElem?_map, List.getElem?_eq_getElem hkr]; rfl)
                have hdk := HBY.out r[k] (by simp)
                have htk := List.take_succ_eq_append_getElem hkr
                generalize r[k] = dk at *
                have hvs : valN (r.take (k + 1)) = valN (r.take k) * 256 + dk := by rw [htk, valN_snoc]
                have hbt : Bytes (r.take k) := fun x hx => HBY.out x (by simp [List.mem_of_mem_take hx])
                have hv0 := valN_nonneg _ hbt
                have hbt1 : Bytes (r.take (k + 1)) := fun x hx => HBY.out x (by simp [List.mem_of_mem_take hx])
                have hv1 := valN_lt _ hbt1
                have hlk : (r.take (k + 1)).length = k + 1 := by rw [List.length_take]; omega
                have hmax : valN (r.take k) * 256 + dk ≤ 9223372036854775807 := by
                  by_cases h8 : k + 1 = m
                  · have := HPK.out.2; rw [← h8, hvs] at this; exact this
                  · have p7 : ∀ k : Fin 8, (256 : Int) ^ k.val ≤ 72057594037927936 := by decide
                    have h7 := p7 ⟨k + 1, by omega⟩
                    simp only at h7
                    rw [hlk, hvs] at hv1
                    omega
                have HVS := Lib.hid hvs
                have hk0 : (0 : Int) ≤ (k : Int) + 1 := by omega
                have hk1 : (k : Int) + 1 < (len : Int) := by omega
                have hkn : ((k : Int) + 1).toNat = k + 1 := by omega
                have hwd : IntKind.i64.wrap dk = dk := IntWalk.i64_in _ (by omega)
                have hx1 : valN (r.take k) * 256 ≤ 9223372036854775807 := by omega
                generalize valN (r.take k) = V at *
                clear hvs hbt hbt1 hv1 hlk htk
                go_wp2_with fail
                go_round
                case rel =>
                  refine ⟨k + 1, by omega, by go_num, ?_⟩
                  rw [HVS.out]
                case measure => simp [intOf]; omega
              · obtain rfl : k = m := by omega
                have y1 : decide ((k : Int) + 1 ≤ (k : Int)) = false := by rw [decide_eq_false_iff_not]; omega
                have hn0 : (0 : Int) ≤ (k : Int) + 1 := by omega
                have hn1 : (k : Int) + 1 ≤ (len : Int) := by omega
                have hn2 : (len : Int) ≤ (cap : Int) := by omega
                have hkn : ((k : Int) + 1).toNat = k + 1 := by omega
                have hwk : IntKind.i64.wrap ((k : Int) + 1) = (k : Int) + 1 := IntWalk.i64_in _ (by omega)
                generalize valN (r.take k) = V at *
                go_wp2_with fail
                go_quiet (fail)
                go_wp2_with fail
                refine bodyPost_ret (v := .tuple #[.int .i64 V, .slice (some ⟨b, off, none⟩) (len - (k + 1)) 0, .int .i64 0]) (by simp [results, Try.results81, go_sem]) rfl (HEND.out _ nq rfl _ _ (HR.out _) (by omega) (fun b' o' h => by cases h; rfl))
          · have hmp : 0 < (m : Int) := by omega
            have hmp' : 0 < m := by omega
            obtain ⟨d, r, rfl⟩ : ∃ d r', r = d :: r' := by
              cases r with
              | nil => exfalso; simp at hmr; omega
              | cons d r => exact ⟨d, r, rfl⟩
            have c1 : w.cell? ⟨b, off + 1, none⟩ = some (.int .u8 d) := HCELL.out 1 _ rfl
            have hlp1 : (1 : Int) < (len : Int) := by simp only [List.length_cons] at hl1; omega
            have hlp1' : 1 < len := by omega
            simp only [List.headD_cons] at herr
            have yd : (d == 0) = false := by rw [beq_eq_false_iff_ne]; intro z; exact herr (.inr ⟨hmp, z⟩)
            by_cases ya : (m : Int) = 8
            · have ya' : ((m : Int) == 8) = true := by rw [beq_iff_eq]; exact ya
              have yb : decide (128 ≤ d) = false := by rw [decide_eq_false_iff_not]; intro z; exact herr (.inl ⟨ya, z⟩)
              clear herr ya
              go_wp2_with fail
              go_loop [6, 7] (fun v i => ∃ k : Nat, k ≤ m ∧ i = .int .i64 (k + 1) ∧ v = .int .i64 (valN ((d :: r).take k))) (fun _ i => m + 1 - (intOf i).toNat)
              case atStart => exact ⟨0, by omega, rfl, rfl⟩
              case round =>
                obtain ⟨k, hk, rfl, rfl⟩ := hrel
                by_cases hkm : k < m
                · have y1 : decide ((k : Int) + 1 ≤ (m : Int)) = true := by rw [decide_eq_true_iff]; omega
                  have hkr : k < (d :: r).length := by omega
                  have hck := HCELL.out (k + 1) _ (by rw [List.map_cons, List.getElem?_cons_succ, List.getElem?_map, List.getElem?_eq_getElem hkr]; rfl)
                  have hdk := HBY.out (d :: r)[k] (by simp)
                  have htk := List.take_succ_eq_append_getElem hkr
                  generalize (d :: r)[k] = dk at *
                  have hvs : valN ((d :: r).take (k + 1)) = valN ((d :: r).take k) * 256 + dk := by rw [htk, valN_snoc]
                  have hbt : Bytes ((d :: r).take k) := fun x hx => HBY.out x (by simp [List.mem_of_mem_take hx])
                  have hv0 := valN_nonneg _ hbt
                  have hbt1 : Bytes ((d :: r).take (k + 1)) := fun x hx => HBY.out x (by simp [List.mem_of_mem_take hx])
                  have hv1 := valN_lt _ hbt1
                  have hlk : ((d :: r).take (k + 1)).length = k + 1 := by rw [List.length_take]; omega
                  have hmax : valN ((d :: r).take k) * 256 + dk ≤ 9223372036854775807 := by
                    by_cases h8 : k + 1 = m
                    · have := HPK.out.2; rw [← h8, hvs] at this; exact this
                    · have p7 : ∀ k : Fin 8, (256 : Int) ^ k.val ≤ 72057594037927936 := by decide
                      have h7 := p7 ⟨k + 1, by omega⟩
                      simp only at h7
                      rw [hlk, hvs] at hv1
                      omega
                  have HVS := Lib.hid hvs
                  have hk0 : (0 : Int) ≤ (k : Int) + 1 := by omega
                  have hk1 : (k : Int) + 1 < (len : Int) := by omega
                  have hkn : ((k : Int) + 1).toNat = k + 1 := by omega
                  have hwd : IntKind.i64.wrap dk = dk := IntWalk.i64_in _ (by omega)
                  have hx1 : valN ((d :: r).take k) * 256 ≤ 9223372036854775807 := by omega
                  generalize valN ((d :: r).take k) = V at *
                  clear hvs hbt hbt1 hv1 hlk htk
                  go_wp2_with fail
                  go_round
                  case rel =>
                    refine ⟨k + 1, by omega, by go_num, ?_⟩
                    rw [HVS.out]
                  case measure => simp [intOf]; omega
                · obtain rfl : k = m := by omega
                  have y1 : decide ((k : Int) + 1 ≤ (k : Int)) = false := by rw [decide_eq_false_iff_not]; omega
                  have hn0 : (0 : Int) ≤ (k : Int) + 1 := by omega
                  have hn1 : (k : Int) + 1 ≤ (len : Int) := by omega
                  have hn2 : (len : Int) ≤ (cap : Int) := by omega
                  have hkn : ((k : Int) + 1).toNat = k + 1 := by omega
                  have hwk : IntKind.i64.wrap ((k : Int) + 1) = (k : Int) + 1 := IntWalk.i64_in _ (by omega)
                  generalize valN ((d :: r).take k) = V at *
                  go_wp2_with fail
                  go_quiet (fail)
                  go_wp2_with fail
                  refine bodyPost_ret (v := .tuple #[.int .i64 V, .slice (some ⟨b, off, none⟩) (len - (k + 1)) 0, .int .i64 0]) (by simp [results, Try.results81, go_sem]) rfl (HEND.out _ nq rfl _ _ (HR.out _) (by omega) (fun b' o' h => by cases h; rfl))
            · have ya' : ((m : Int) == 8) = false := by rw [beq_eq_false_iff_ne]; exact ya
              clear herr ya
              go_wp2_with fail
              go_loop [6, 7] (fun v i => ∃ k : Nat, k ≤ m ∧ i = .int .i64 (k + 1) ∧ v = .int .i64 (valN ((d :: r).take k))) (fun _ i => m + 1 - (intOf i).toNat)
              case atStart => exact ⟨0, by omega, rfl, rfl⟩
              case round =>
                obtain ⟨k, hk, rfl, rfl⟩ := hrel
                by_cases hkm : k < m
                · have y1 : decide ((k : Int) + 1 ≤ (m : Int)) = true := by rw [decide_eq_true_iff]; omega
                  have hkr : k < (d :: r).length := by omega
                  have hck := HCELL.out (k + 1) _ (by rw [List.map_cons, List.getElem?_cons_succ, List.getElem?_map, List.getElem?_eq_getElem hkr]; rfl)
                  have hdk := HBY.out (d :: r)[k] (by simp)
                  have htk := List.take_succ_eq_append_getElem hkr
                  generalize (d :: r)[k] = dk at *
                  have hvs : valN ((d :: r).take (k + 1)) = valN ((d :: r).take k) * 256 + dk := by rw [htk, valN_snoc]
                  have hbt : Bytes ((d :: r).take k) := fun x hx => HBY.out x (by simp [List.mem_of_mem_take hx])
                  have hv0 := valN_nonneg _ hbt
                  have hbt1 : Bytes ((d :: r).take (k + 1)) := fun x hx => HBY.out x (by simp [List.mem_of_mem_take hx])
                  have hv1 := valN_lt _ hbt1
                  have hlk : ((d :: r).take (k + 1)).length = k + 1 := by rw [List.length_take]; omega
                  have hmax : valN ((d :: r).take k) * 256 + dk ≤ 9223372036854775807 := by
                    by_cases h8 : k + 1 = m
                    · have := HPK.out.2; rw [← h8, hvs] at this; exact this
                    · have p7 : ∀ k : Fin 8, (256 : Int) ^ k.val ≤ 72057594037927936 := by decide
                      have h7 := p7 ⟨k + 1, by omega⟩
                      simp only at h7
                      rw [hlk, hvs] at hv1
                      omega
                  have HVS := Lib.hid hvs
                  have hk0 : (0 : Int) ≤ (k : Int) + 1 := by omega
                  have hk1 : (k : Int) + 1 < (len : Int) := by omega
                  have hkn : ((k : Int) + 1).toNat = k + 1 := by omega
                  have hwd : IntKind.i64.wrap dk = dk := IntWalk.i64_in _ (by omega)
                  have hx1 : valN ((d :: r).take k) * 256 ≤ 9223372036854775807 := by omega
                  generalize valN ((d :: r).take k) = V at *
                  clear hvs hbt hbt1 hv1 hlk htk
                  go_wp2_with fail
                  go_round
                  case rel =>
                    refine ⟨k + 1, by omega, by go_num, ?_⟩
                    rw [HVS.out]
                  case measure => simp [intOf]; omega
                · obtain rfl : k = m := by omega
                  have y1 : decide ((k : Int) + 1 ≤ (k : Int)) = false := by rw [decide_eq_false_iff_not]; omega
                  have hn0 : (0 : Int) ≤ (k : Int) + 1 := by omega
                  have hn1 : (k : Int) + 1 ≤ (len : Int) := by omega
                  have hn2 : (len : Int) ≤ (cap : Int) := by omega
                  have hkn : ((k : Int) + 1).toNat = k + 1 := by omega
                  have hwk : IntKind.i64.wrap ((k : Int) + 1) = (k : Int) + 1 := IntWalk.i64_in _ (by omega)
                  generalize valN ((d :: r).take k) = V at *
                  go_wp2_with fail
                  go_quiet (fail)
                  go_wp2_with fail
                  refine bodyPost_ret (v := .tuple #[.int .i64 V, .slice (some ⟨b, off, none⟩) (len - (k + 1)) 0, .int .i64 0]) (by simp [results, Try.results81, go_sem]) rfl (HEND.out _ nq rfl _ _ (HR.out _) (by omega) (fun b' o' h => by cases h; rfl))
        · have hrow : Row8 w (some ⟨b, off + (m + 1), none⟩) (len - (m + 1)) (((m : Int) :: r).drop (m + 1)) := row_drop HROW.out _ (by omega)
          have HR := Lib.hid hrow
          clear hrow
          by_cases hm0 : m = 0
          · have ym : decide (0 < m) = false := by rw [decide_eq_false_iff_not]; omega
            have ymi : decide ((0 : Int) < (m : Int)) = false := by rw [decide_eq_false_iff_not]; omega
            have ya' : ((m : Int) == 8) = false := by rw [beq_eq_false_iff_ne]; omega
            clear herr hm0
            go_wp2_with fail
            go_loop [6, 7] (fun v i => ∃ k : Nat, k ≤ m ∧ i = .int .i64 (k + 1) ∧ v = .int .i64 (valN (r.take k))) (fun _ i => m + 1 - (intOf i).toNat)
            case atStart => exact ⟨0, by omega, rfl, rfl⟩
            case round =>
              obtain ⟨k, hk, rfl, rfl⟩ := hrel
              by_cases hkm : k < m
              · have y1 : decide ((k : Int) + 1 ≤ (m : Int)) = true := by rw [decide_eq_true_iff]; omega
                have hkr : k < r.length := by omega
                have hck := HCELL.out (k + 1) _ (by rw [List.map_cons, List.getElem?_cons_succ, List.getElem?_map, List.getElem?_eq_getElem hkr]; rfl)
                have hdk := HBY.out r[k] (by simp)
                have htk := List.take_succ_eq_append_getElem hkr
                generalize r[k] = dk at *
                have hvs : valN (r.take (k + 1)) = valN (r.take k) * 256 + dk := by rw [htk, valN_snoc]
                have hbt : Bytes (r.take k) := fun x hx => HBY.out x (by simp [List.mem_of_mem_take hx])
                have hv0 := valN_nonneg _ hbt
                have hbt1 : Bytes (r.take (k + 1)) := fun x hx => HBY.out x (by simp [List.mem_of_mem_take hx])
                have hv1 := valN_lt _ hbt1
                have hlk : (r.take (k + 1)).length = k + 1 := by rw [List.length_take]; omega
                have hmax : valN (r.take k) * 256 + dk ≤ 9223372036854775807 := by
                  by_cases h8 : k + 1 = m
                  · have := HPK.out.2; rw [← h8, hvs] at this; exact this
                  · have p7 : ∀ k : Fin 8, (256 : Int) ^ k.val ≤ 72057594037927936 := by decide
                    have h7 := p7 ⟨k + 1, by omega⟩
                    simp only at h7
                    rw [hlk, hvs] at hv1
                    omega
                have HVS := Lib.hid hvs
                have hk0 : (0 : Int) ≤ (k : Int) + 1 := by omega
                have hk1 : (k : Int) + 1 < (len : Int) := by omega
                have hkn : ((k : Int) + 1).toNat = k + 1 := by omega
                have hwd : IntKind.i64.wrap dk = dk := IntWalk.i64_in _ (by omega)
                have hx1 : valN (r.take k) * 256 ≤ 9223372036854775807 := by omega
                generalize valN (r.take k) = V at *
                clear hvs hbt hbt1 hv1 hlk htk
                go_wp2_with fail
                go_round
                case rel =>
                  refine ⟨k + 1, by omega, by go_num, ?_⟩
                  rw [HVS.out]
                case measure => simp [intOf]; omega
              · obtain rfl : k = m := by omega
                have y1 : decide ((k : Int) + 1 ≤ (k : Int)) = false := by rw [decide_eq_false_iff_not]; omega
                have hn0 : (0 : Int) ≤ (k : Int) + 1 := by omega
                have hn1 : (k : Int) + 1 ≤ (len : Int) := by omega
                have hn2 : (len : Int) ≤ (cap : Int) := by omega
                have hkn : ((k : Int) + 1).toNat = k + 1 := by omega
                have hwk : IntKind.i64.wrap ((k : Int) + 1) = (k : Int) + 1 := IntWalk.i64_in _ (by omega)
                generalize valN (r.take k) = V at *
                go_wp2_with fail
                go_quiet (fail)
                go_wp2_with fail
                refine bodyPost_ret (v := .tuple #[.int .i64 V, .slice (some ⟨b, off + (k + 1), none⟩) (len - (k + 1)) (cap - (k + 1)), .int .i64 0]) (by simp [results, Try.results81, go_sem]) rfl (HEND.out _ nq rfl _ _ HR.out (by omega) (fun b' o' h => by cases h; rfl))
          · have hmp : 0 < (m : Int) := by omega
            have hmp' : 0 < m := by omega
            obtain ⟨d, r, rfl⟩ : ∃ d r', r = d :: r' := by
              cases r with
              | nil => exfalso; simp at hmr; omega
              | cons d r => exact ⟨d, r, rfl⟩
            have c1 : w.cell? ⟨b, off + 1, none⟩ = some (.int .u8 d) := HCELL.out 1 _ rfl
            have hlp1 : (1 : Int) < (len : Int) := by simp only [List.length_cons] at hl1; omega
            have hlp1' : 1 < len := by omega
            simp only [List.headD_cons] at herr
            have yd : (d == 0) = false := by rw [beq_eq_false_iff_ne]; intro z; exact herr (.inr ⟨hmp, z⟩)
            by_cases ya : (m : Int) = 8
            · have ya' : ((m : Int) == 8) = true := by rw [beq_iff_eq]; exact ya
              have yb : decide (128 ≤ d) = false := by rw [decide_eq_false_iff_not]; intro z; exact herr (.inl ⟨ya, z⟩)
              clear herr ya
              go_wp2_with fail
              go_loop [6, 7] (fun v i => ∃ k : Nat, k ≤ m ∧ i = .int .i64 (k + 1) ∧ v = .int .i64 (valN ((d :: r).take k))) (fun _ i => m + 1 - (intOf i).toNat)
              case atStart => exact ⟨0, by omega, rfl, rfl⟩
              case round =>
                obtain ⟨k, hk, rfl, rfl⟩ := hrel
                by_cases hkm : k < m
                · have y1 : decide ((k : Int) + 1 ≤ (m : Int)) = true := by rw [decide_eq_true_iff]; omega
                  have hkr : k < (d :: r).length := by omega
                  have hck := HCELL.out (k + 1) _ (by rw [List.map_cons, List.getElem?_cons_succ, List.getElem?_map, List.getElem?_eq_getElem hkr]; rfl)
                  have hdk := HBY.out (d :: r)[k] (by simp)
                  have htk := List.take_succ_eq_append_getElem hkr
                  generalize (d :: r)[k] = dk at *
                  have hvs : valN ((d :: r).take (k + 1)) = valN ((d :: r).take k) * 256 + dk := by rw [htk, valN_snoc]
                  have hbt : Bytes ((d :: r).take k) := fun x hx => HBY.out x (by simp [List.mem_of_mem_take hx])
                  have hv0 := valN_nonneg _ hbt
                  have hbt1 : Bytes ((d :: r).take (k + 1)) := fun x hx => HBY.out x (by simp [List.mem_of_mem_take hx])
                  have hv1 := valN_lt _ hbt1
                  have hlk : ((d :: r).take (k + 1)).length = k + 1 := by rw [List.length_take]; omega
                  have hmax : valN ((d :: r).take k) * 256 + dk ≤ 9223372036854775807 := by
                    by_cases h8 : k + 1 = m
                    · have := HPK.out.2; rw [← h8, hvs] at this; exact this
                    · have p7 : ∀ k : Fin 8, (256 : Int) ^ k.val ≤ 72057594037927936 := by decide
                      have h7 := p7 ⟨k + 1, by omega⟩
                      simp only at h7
                      rw [hlk, hvs] at hv1
                      omega
                  have HVS := Lib.hid hvs
                  have hk0 : (0 : Int) ≤ (k : Int) + 1 := by omega
                  have hk1 : (k : Int) + 1 < (len : Int) := by omega
                  have hkn : ((k : Int) + 1).toNat = k + 1 := by omega
                  have hwd : IntKind.i64.wrap dk = dk := IntWalk.i64_in _ (by omega)
                  have hx1 : valN ((d :: r).take k) * 256 ≤ 9223372036854775807 := by omega
                  generalize valN ((d :: r).take k) = V at *
                  clear hvs hbt hbt1 hv1 hlk htk
                  go_wp2_with fail
                  go_round
                  case rel =>
                    refine ⟨k + 1, by omega, by go_num, ?_⟩
                    rw [HVS.out]
                  case measure => simp [intOf]; omega
                · obtain rfl : k = m := by omega
                  have y1 : decide ((k : Int) + 1 ≤ (k : Int)) = false := by rw [decide_eq_false_iff_not]; omega
                  have hn0 : (0 : Int) ≤ (k : Int) + 1 := by omega
                  have hn1 : (k : Int) + 1 ≤ (len : Int) := by omega
                  have hn2 : (len : Int) ≤ (cap : Int) := by omega
                  have hkn : ((k : Int) + 1).toNat = k + 1 := by omega
                  have hwk : IntKind.i64.wrap ((k : Int) + 1) = (k : Int) + 1 := IntWalk.i64_in _ (by omega)
                  generalize valN ((d :: r).take k) = V at *
                  go_wp2_with fail
                  go_quiet (fail)
                  go_wp2_with fail
                  refine bodyPost_ret (v := .tuple #[.int .i64 V, .slice (some ⟨b, off + (k + 1), none⟩) (len - (k + 1)) (cap - (k + 1)), .int .i64 0]) (by simp [results, Try.results81, go_sem]) rfl (HEND.out _ nq rfl _ _ HR.out (by omega) (fun b' o' h => by cases h; rfl))
            · have ya' : ((m : Int) == 8) = false := by rw [beq_eq_false_iff_ne]; exact ya
              clear herr ya
              go_wp2_with fail
              go_loop [6, 7] (fun v i => ∃ k : Nat, k ≤ m ∧ i = .int .i64 (k + 1) ∧ v = .int .i64 (valN ((d :: r).take k))) (fun _ i => m + 1 - (intOf i).toNat)
              case atStart => exact ⟨0, by omega, rfl, rfl⟩
              case round =>
                obtain ⟨k, hk, rfl, rfl⟩ := hrel
                by_cases hkm : k < m
                · have y1 : decide ((k : Int) + 1 ≤ (m : Int)) = true := by rw [decide_eq_true_iff]; omega
                  have hkr : k < (d :: r).length := by omega
                  have hck := HCELL.out (k + 1) _ (by rw [List.map_cons, List.getElem?_cons_succ, List.getElem?_map, List.getElem?_eq_getElem hkr]; rfl)
                  have hdk := HBY.out (d :: r)[k] (by simp)
                  have htk := List.take_succ_eq_append_getElem hkr
                  generalize (d :: r)[k] = dk at *
                  have hvs : valN ((d :: r).take (k + 1)) = valN ((d :: r).take k) * 256 + dk := by rw [htk, valN_snoc]
                  have hbt : Bytes ((d :: r).take k) := fun x hx => HBY.out x (by simp [List.mem_of_mem_take hx])
                  have hv0 := valN_nonneg _ hbt
                  have hbt1 : Bytes ((d :: r).take (k + 1)) := fun x hx => HBY.out x (by simp [List.mem_of_mem_take hx])
                  have hv1 := valN_lt _ hbt1
                  have hlk : ((d :: r).take (k + 1)).length = k + 1 := by rw [List.length_take]; omega
                  have hmax : valN ((d :: r).take k) * 256 + dk ≤ 9223372036854775807 := by
                    by_cases h8 : k + 1 = m
                    · have := HPK.out.2; rw [← h8, hvs] at this; exact this
                    · have p7 : ∀ k : Fin 8, (256 : Int) ^ k.val ≤ 72057594037927936 := by decide
                      have h7 := p7 ⟨k + 1, by omega⟩
                      simp only at h7
                      rw [hlk, hvs] at hv1
                      omega
                  have HVS := Lib.hid hvs
                  have hk0 : (0 : Int) ≤ (k : Int) + 1 := by omega
                  have hk1 : (k : Int) + 1 < (len : Int) := by omega
                  have hkn : ((k : Int) + 1).toNat = k + 1 := by omega
                  have hwd : IntKind.i64.wrap dk = dk := IntWalk.i64_in _ (by omega)
                  have hx1 : valN ((d :: r).take k) * 256 ≤ 9223372036854775807 := by omega
                  generalize valN ((d :: r).take k) = V at *
                  clear hvs hbt hbt1 hv1 hlk htk
                  go_wp2_with fail
                  go_round
                  case rel =>
                    refine ⟨k + 1, by omega, by go_num, ?_⟩
                    rw [HVS.out]
                  case measure => simp [intOf]; omega
                · obtain rfl : k = m := by omega
                  have y1 : decide ((k : Int) + 1 ≤ (k : Int)) = false := by rw [decide_eq_false_iff_not]; omega
                  have hn0 : (0 : Int) ≤ (k : Int) + 1 := by omega
                  have hn1 : (k : Int) + 1 ≤ (len : Int) := by omega
                  have hn2 : (len : Int) ≤ (cap : Int) := by omega
                  have hkn : ((k : Int) + 1).toNat = k + 1 := by omega
                  have hwk : IntKind.i64.wrap ((k : Int) + 1) = (k : Int) + 1 := IntWalk.i64_in _ (by omega)
                  generalize valN ((d :: r).take k) = V at *
                  go_wp2_with fail
                  go_quiet (fail)
                  go_wp2_with fail
                  refine bodyPost_ret (v := .tuple #[.int .i64 V, .slice (some ⟨b, off + (k + 1), none⟩) (len - (k + 1)) (cap - (k + 1)), .int .i64 0]) (by simp [results, Try.results81, go_sem]) rfl (HEND.out _ nq rfl _ _ HR.out (by omega) (fun b' o' h => by cases h; rfl))
end Go.Proofs.Ytnjckaifgmliaaa

/- THE WALKS of layer 7's reference, fifth part: a number of a list, a ratio, how many; all numbers of bytes; a setup's bytes. -/

namespace Go.Proofs.Ytnjckaifgmliaaa
open Go.RowKit Lu

theorem atP_lt {l : List Int} {i : Nat} (h : i < l.length) : l[i]? = some (atP l i) := by
  unfold atP
  rw [List.getD_eq_getElem?_getD, List.getElem?_eq_getElem h]
  rfl
theorem atP_ge {l : List Int} {i : Nat} (h : l.length ≤ i) : atP l i = 0 := by
  unfold atP
  rw [List.getD_eq_getElem?_getD, List.getElem?_eq_none h]
  rfl
theorem ref7_at (A : Option Addr) (n c : Nat) (zs : List Int) (i : Nat) (w : World) (h : Ints w A n zs) (hi : i ≤ 100000) :
    Calls Try.prog 38 #[.slice A n c, .int .i64 (i : Int)] w fun e w' => e = .returned (.int .i64 (atP zs i)) ∧ w = w' := by
  have hl := h.1
  have hn := h.2.1
  have h0 : decide ((i : Int) < 0) = false := by rw [decide_eq_false_iff_not]; omega
  by_cases hlt : i < n
  · have h1 : decide ((n : Int) ≤ (i : Int)) = false := by rw [decide_eq_false_iff_not]; omega
    have hi0 : (0 : Int) ≤ (i : Int) := by omega
    have hi1 : (i : Int) < (n : Int) := by omega
    obtain ⟨b, off, rfl, hc⟩ := h.2.2.2.resolve_left (by omega)
    have g0 := hc i hlt
    have e : zs.getD i 0 = atP zs i := rfl
    rw [e] at g0
    clear h hc hl e
    go_enter Try.func38, Try.ntmps38
    go_wp2_with fail
    go_ret
    exact ⟨rfl, rfl⟩
  · have h1 : decide ((n : Int) ≤ (i : Int)) = true := by rw [decide_eq_true_iff]; omega
    have e := atP_ge (l := zs) (i := i) (by omega)
    rw [e]
    clear h hl e
    go_enter Try.func38, Try.ntmps38
    go_wp2_with fail
    go_ret
    exact ⟨rfl, rfl⟩
theorem ref7_many (A : Option Addr) (n c : Nat) (zs : List Int) (i : Nat) (w : World) (h : Ints w A n zs) (hi : i ≤ 100000) (hp : ∀ z ∈ zs, 0 ≤ z) :
    Calls Try.prog 39 #[.slice A n c, .int .i64 (i : Int)] w fun e w' => e = .returned (.int .i64 (cntP zs i : Int)) ∧ w = w' := by
  have hnn : 0 ≤ atP zs i := by
    by_cases hl : i < zs.length
    · exact hp _ (List.mem_of_getElem? (atP_lt hl))
    · rw [atP_ge (by omega)]; omega
  have e : ((cntP zs i : Nat) : Int) = min (atP zs i) 100 := by unfold cntP; omega
  have key := ref7_at A n c zs i w h hi
  rw [e]
  generalize atP zs i = z at *
  have KEY := Lib.hid key
  clear e key h hp
  go_enter Try.func39, Try.ntmps39
  go_wp2_with fail
  refine KEY.out.mono ?_
  rintro e w' ⟨rfl, rfl⟩
  go_wp2_with fail
  go_ret
  refine ⟨?_, rfl⟩
  first | rfl | (congr 1) | simp_all
theorem ref7_part (A : Option Addr) (n c : Nat) (zs : List Int) (i : Nat) (w : World) (h : Ints w A n zs) (hi : i ≤ 90000) :
    Calls Try.prog 40 #[.slice A n c, .int .i64 (i : Int)] w fun e w' => e = .returned (.agg #[.int .i64 (atP zs i), .int .i64 (atP zs (i + 1))]) ∧ w' = w.alloc (.cells #[.int .i64 (atP zs i), .int .i64 (atP zs (i + 1))] 24) := by
  have h' := h.below (w' := w.alloc (.cells #[.int .i64 0, .int .i64 0] 24)) (by go_grown)
  have K1 := Lib.hid (ref7_at A n c zs i _ h' (by omega))
  have K2 := Lib.hid (ref7_at A n c zs (i + 1) _ h' (by omega))
  have e1 : IntKind.i64.wrap ((i : Int) + 1) = ((i + 1 : Nat) : Int) := by rw [IntWalk.i64_in _ (by omega)]; omega
  have e2 : (i : Int) + 1 = ((i + 1 : Nat) : Int) := by omega
  obtain ⟨j, hj⟩ : ∃ j, i + 1 = j := ⟨_, rfl⟩
  rw [hj] at K2 e1 e2 ⊢
  clear h h' hj
  go_enter Try.func40, Try.ntmps40
  go_wp2_with fail
  refine K1.out.mono ?_
  rintro e w1 ⟨rfl, rfl⟩
  go_wp2_with fail
  refine K2.out.mono ?_
  rintro e w2 ⟨rfl, rfl⟩
  go_wp2_with fail
  refine bodyPost_ret (v := .agg #[.int .i64 (atP zs i), .int .i64 (atP zs j)]) (by simp [results, Try.results40, go_sem]) rfl ⟨rfl, rfl⟩
def lenV : Value → Nat
  | .slice _ n _ => n
  | _ => 0
theorem row_low {W1 W2 : World} {B n : Nat} {a : Option Addr} {bs : List Int} (h : Row8 W1 a n bs) (hb : ∀ b o, a = some ⟨b, o, none⟩ → b < B) {w : World} (k1 : Below B w W1) (k2 : Below B w W2) : Row8 W2 a n bs := by
  refine ⟨h.1, h.2.1, h.2.2.1, ?_, h.2.2.2.2⟩
  rcases h.2.2.2.1 with h0 | ⟨b, off, ha, hc⟩
  · exact .inl h0
  · refine .inr ⟨b, off, ha, fun i u hu => ?_⟩
    have h1 := hc i u hu
    have hlt := hb b off ha
    have e1 := k1.cell (p := ⟨b, off + i, none⟩) hlt
    have e2 := k2.cell (p := ⟨b, off + i, none⟩) hlt
    rw [e2, ← e1]
    exact h1
set_option maxRecDepth 100000 in
set_option maxHeartbeats 2000000 in
/-- All numbers of bytes. -/
theorem ref7_all (a : Option Addr) (len c : Nat) (bs : List Int) (w : World) (h : Row8 w a len bs) (hc : len ≤ c) (hl : len ≤ 10000) (hblk : ∀ b o, a = some ⟨b, o, none⟩ → b < w.heap.size) :
    Calls Try.prog 37 #[.slice a len c] w fun e w' => ∃ v L, e = .returned v ∧ w'.ownsRow w.heap.size 3 1 v L.length (L.map (Value.int .i64)) ∧ AllIs bs L ∧ Below w.heap.size w w' := by
  obtain ⟨i0, hi, hz0, hz1, hz2⟩ := info_parts infoInt
  have hlen := h.1
  have HR := Lib.hid h
  have HB := Lib.hid hblk
  have HL := Lib.hid hlen
  clear h hblk hlen
  go_enter Try.func37, Try.ntmps37
  go_wp2_with fail
  go_loopw [0, 3] (fun bv v wr => ∃ (a' : Option Addr) (n' c' : Nat) (cur out : List Int), bv = .slice a' n' c' ∧ Row8 wr a' n' cur ∧ n' ≤ c' ∧ (∀ b o, a' = some ⟨b, o, none⟩ → b < w.heap.size) ∧ bs = manyP out ++ cur ∧ (∀ x ∈ out, Pk x) ∧ out.length + n' ≤ len ∧ wr.ownsRow w.heap.size 3 1 v out.length (out.map (Value.int .i64)) ∧ Below w.heap.size w wr) (fun bv _ _ => lenV bv)
  case atStart => exact ⟨a, len, c, bs, [], rfl, HR.out, hc, HB.out, rfl, fun x hx => by simp at hx, by simp, ⟨rfl, .inl ⟨rfl, rfl⟩⟩, Below.refl _ _⟩
  case round =>
    obtain ⟨a', n', c', cur, out, rfl, hrow, hnc, hb', hbs, hpk, hol, hown, hbel⟩ := hrel
    have hcl := hrow.1
    have HROW := Lib.hid hrow
    have HBB := Lib.hid hb'
    have HBS := Lib.hid hbs
    have HPK := Lib.hid hpk
    have HOWN := Lib.hid hown
    clear hrow hb' hbs hpk hown
    by_cases h0 : n' = 0
    · have hd : cur = [] := List.eq_nil_of_length_eq_zero (hcl.trans h0)
      have hall : AllIs bs out := AllIs.done (by rw [HBS.out, hd, List.append_nil]) HPK.out (by have := HL.out; omega)
      have HALL := Lib.hid hall
      subst h0
      clear hd hall hcl
      go_wp2_with fail
      go_ret
      exact ⟨_, out, rfl, HOWN.out, HALL.out, hbel⟩
    · have y0 : (0 : Int) < (n' : Int) := by omega
      have y1 : 0 < n' := by omega
      have hne : cur ≠ [] := by rintro rfl; exact h0 hcl.symm
      have hcn : cur.length = n' := hcl
      have HCN := Lib.hid hcn
      clear hcl hcn h0
      go_wp2_with fail
      refine (ref5_Take a' n' c' cur wr HROW.out (by omega) hnc).mono ?_
      rintro e1 w1 ⟨⟨kd, rfl⟩, htook⟩
      cases ht : takeP cur with
      | none =>
        rw [ht] at htook
        simp only at htook
        subst htook
        have hall : AllIs bs [] := AllIs.none HBS.out HPK.out hne ht
        have HALL := Lib.hid hall
        clear hall ht hne
        go_wp2_with fail
        go_ret
        exact ⟨_, [], rfl, ⟨rfl, .inl ⟨rfl, rfl⟩⟩, HALL.out, below_drewN hbel _⟩
      | some x =>
        obtain ⟨m, r⟩ := x
        rw [ht] at htook
        simp only at htook
        obtain ⟨a2, c2, rfl, hrow2, hrc, hbk2⟩ := htook
        have hts := takeP_some HROW.out.2.2.1 ht
        have htp := takeP_pos HROW.out.2.2.1 ht
        rw [HCN.out] at htp
        have hb2 : ∀ b o, a2 = some ⟨b, o, none⟩ → b < w.heap.size := fun b o hb => by
          obtain ⟨o', ho⟩ := hbk2 b o hb
          exact HBB.out b o' ho
        have HTS := Lib.hid hts
        have HR2 := Lib.hid hrow2
        have HB2 := Lib.hid hb2
        have BD := below_drewN hbel kd
        have hoD : (wr.drewN kd).ownsRow w.heap.size 3 1 _ out.length (out.map (Value.int .i64)) := own_below HOWN.out (below_drewN (Below.refl _ _) kd)
        have HOD := Lib.hid hoD
        generalize hV : wr.drewN kd = V at *
        clear hbk2 hts hrow2 hb2 ht hoD hV hne
        go_wp2_with (at_builtin; (refine wpList_append_cells _ rfl (.tmp 18) (.tmp 20) 27 rfl w.heap.size 3 i0 (.int .i64 0) 1 8 Try.underlying27 hi hz0 hz1 hz2 rfl (by decide) _ out.length _ rfl (HOD.out.alloc _) (some ⟨V.heap.size, 0, none⟩) 1 1 [_] rfl rfl (cells_one _ _ _) (by simp) (by intro u hu; simp at hu; subst hu; rfl) (by unfold maxLen; omega) (by omega) (by have := BD.size; simp; omega) ?_; intro v' W' own' grow'))
        have Bg := below_own (BD.alloc BD.size _) (HOD.out.alloc _) grow' (Nat.le_refl _) (by have := BD.size; simp; omega)
        have hrow3 := row_low HR2.out HB2.out BD Bg
        have HR3 := Lib.hid hrow3
        have HOWN' := Lib.hid own'
        clear hrow3 own' grow' HR2
        go_wp2_with fail
        go_roundw
        case rel =>
          refine ⟨a2, r.length, c2, r, out ++ [m], rfl, HR3.out, hrc, HB2.out, ?_, ?_, by rw [List.length_append]; simp only [List.length_cons, List.length_nil]; omega, ?_, Bg⟩
          · rw [HBS.out, HTS.out.1, manyP_append, List.append_assoc, show manyP [m] = oneP m by unfold manyP; simp]
          · intro x hx
            rcases List.mem_append.1 hx with hx | hx
            · exact HPK.out x hx
            · simp only [List.mem_singleton] at hx; rw [hx]; exact HTS.out.2
          · rw [List.length_append, List.map_append]
            exact HOWN'.out
        case measure => simp [lenV]; omega
end Go.Proofs.Ytnjckaifgmliaaa

/- THE WALK of lumperref07.Write: a setup's bytes. -/

namespace Go.Proofs.Ytnjckaifgmliaaa
open Go.RowKit Lu

theorem few_of {s : Setup} (h : setupP s = true) : fewP s = true := by
  obtain ⟨a, b, c, d, e, f⟩ := setup_short h
  unfold fewP
  simp only [Bool.and_eq_true, decide_eq_true_eq]
  omega
theorem setup_bytes_le' {s : Setup} (h : setupP s = true) : (manyP (numbersP s)).length ≤ 3600 := by
  have h1 := manyP_len (setup_pk h)
  have h2 := numbersP_len h
  omega
/-- What the reference's Write tells. -/
def Wrote7 (w : World) (s : Setup) (e : Ending) (w' : World) : Prop :=
  ∃ a n c bs er, e = .returned (.tuple #[.slice a n c, .int .i64 er]) ∧ writeP s = (bs, er) ∧ Row8 w' a n bs ∧ Below w.heap.size w w'
set_option maxRecDepth 100000 in
set_option maxHeartbeats 1000000 in
theorem ref7_Write (s : Setup) (q : Slices) (w : World) (h : SetupIs w s q) : Calls Try.prog 16 #[.agg #[.int .i64 s.places, .slice q.wa q.wl q.wc, .int .i64 s.pn, .int .i64 s.pd, .slice q.ea q.el q.ec, .slice q.ca q.cl q.cc, .slice q.ga q.gl q.gc, .int .i64 s.allow, .int .i64 s.unit, .int .i64 s.cap, .int .i64 s.paidBreak, .int .i64 s.autoAfter, .int .i64 s.autoBreak, .int .i64 s.dayReg, .int .i64 s.dayOver, .int .i64 s.weekReg, .int .i64 s.nightFrom, .int .i64 s.nightTo, .slice q.ra q.rl q.rc, .int .i64 s.diff, .int .i64 s.least, .int .i64 s.fault, .slice q.ta q.tl q.tc]] w (Wrote7 w s) := by
  have hb : (w.alloc (.cells #[.int .i64 s.places, .slice q.wa q.wl q.wc, .int .i64 s.pn, .int .i64 s.pd, .slice q.ea q.el q.ec, .slice q.ca q.cl q.cc, .slice q.ga q.gl q.gc, .int .i64 s.allow, .int .i64 s.unit, .int .i64 s.cap, .int .i64 s.paidBreak, .int .i64 s.autoAfter, .int .i64 s.autoBreak, .int .i64 s.dayReg, .int .i64 s.dayOver, .int .i64 s.weekReg, .int .i64 s.nightFrom, .int .i64 s.nightTo, .slice q.ra q.rl q.rc, .int .i64 s.diff, .int .i64 s.least, .int .i64 s.fault, .slice q.ta q.tl q.tc] 30)).heap[w.heap.size]? = some (.cells #[.int .i64 s.places, .slice q.wa q.wl q.wc, .int .i64 s.pn, .int .i64 s.pd, .slice q.ea q.el q.ec, .slice q.ca q.cl q.cc, .slice q.ga q.gl q.gc, .int .i64 s.allow, .int .i64 s.unit, .int .i64 s.cap, .int .i64 s.paidBreak, .int .i64 s.autoAfter, .int .i64 s.autoBreak, .int .i64 s.dayReg, .int .i64 s.dayOver, .int .i64 s.weekReg, .int .i64 s.nightFrom, .int .i64 s.nightTo, .slice q.ra q.rl q.rc, .int .i64 s.diff, .int .i64 s.least, .int .i64 s.fault, .slice q.ta q.tl q.tc] 30) := box_new w _ rfl _ _
  have B0 : Below w.heap.size w (w.alloc (.cells #[.int .i64 s.places, .slice q.wa q.wl q.wc, .int .i64 s.pn, .int .i64 s.pd, .slice q.ea q.el q.ec, .slice q.ca q.cl q.cc, .slice q.ga q.gl q.gc, .int .i64 s.allow, .int .i64 s.unit, .int .i64 s.cap, .int .i64 s.paidBreak, .int .i64 s.autoAfter, .int .i64 s.autoBreak, .int .i64 s.dayReg, .int .i64 s.dayOver, .int .i64 s.weekReg, .int .i64 s.nightFrom, .int .i64 s.nightTo, .slice q.ra q.rl q.rc, .int .i64 s.diff, .int .i64 s.least, .int .i64 s.fault, .slice q.ta q.tl q.tc] 30)) := by go_grown
  obtain ⟨c, hc⟩ : ∃ c, setupP s = c := ⟨_, rfl⟩
  have HC := Lib.hid hc
  clear hc
  go_enter Try.func16, Try.ntmps16
  go_wp2_with (refine wpList_load_box 30 (.tmp 1) rfl rfl w.heap.size rfl 30 #[.int .i64 s.places, .slice q.wa q.wl q.wc, .int .i64 s.pn, .int .i64 s.pd, .slice q.ea q.el q.ec, .slice q.ca q.cl q.cc, .slice q.ga q.gl q.gc, .int .i64 s.allow, .int .i64 s.unit, .int .i64 s.cap, .int .i64 s.paidBreak, .int .i64 s.autoAfter, .int .i64 s.autoBreak, .int .i64 s.dayReg, .int .i64 s.dayOver, .int .i64 s.weekReg, .int .i64 s.nightFrom, .int .i64 s.nightTo, .slice q.ra q.rl q.rc, .int .i64 s.diff, .int .i64 s.least, .int .i64 s.fault, .slice q.ta q.tl q.tc] hb setup_big ?_)
  refine (ref7_Check s q c _ (h.below B0) HC.out).mono ?_
  rintro e1 w1 ⟨rfl, k1⟩
  replace hb := box_keep k1 hb (block_lt hb)
  replace B0 := B0.trans (k1.mono B0.size)
  have h1 := (h.below B0)
  clear k1
  cases c
  · go_wp2_with fail
    refine bodyPost_ret (v := .tuple #[.slice none 0 0, .int .i64 70]) (by simp [results, Try.results16, go_sem]) rfl ⟨none, 0, 0, [], 70, rfl, writeP_no HC.out, Row8_nil _, B0⟩
  · go_wp2_with (refine wpList_load_box 30 (.tmp 1) rfl rfl w.heap.size rfl 30 #[.int .i64 s.places, .slice q.wa q.wl q.wc, .int .i64 s.pn, .int .i64 s.pd, .slice q.ea q.el q.ec, .slice q.ca q.cl q.cc, .slice q.ga q.gl q.gc, .int .i64 s.allow, .int .i64 s.unit, .int .i64 s.cap, .int .i64 s.paidBreak, .int .i64 s.autoAfter, .int .i64 s.autoBreak, .int .i64 s.dayReg, .int .i64 s.dayOver, .int .i64 s.weekReg, .int .i64 s.nightFrom, .int .i64 s.nightTo, .slice q.ra q.rl q.rc, .int .i64 s.diff, .int .i64 s.least, .int .i64 s.fault, .slice q.ta q.tl q.tc] hb setup_big ?_)
    refine (ref7_numbers s q w1 h1 (few_of HC.out)).mono ?_
    rintro e2 w2 ⟨v2, rfl, own2, k2⟩
    obtain ⟨a2, c2, rfl, hc2⟩ := Cells.of_own own2
    have hln := numbersP_len HC.out
    have hpk := setup_pk HC.out
    have hint : Ints w2 a2 (numbersP s).length (numbersP s) := Ints.of_cells rfl (by omega) (fun z hz => (hpk z hz).in64) hc2
    have HI := Lib.hid hint
    have HP := Lib.hid hpk
    have HW := Lib.hid (writeP_yes HC.out)
    have hmb := setup_bytes_le' HC.out
    have B2 := B0.trans (k2.mono B0.size)
    generalize numbersP s = ns at *
    clear hint hpk own2 hc2 k2 hb
    go_wp2_with fail
    refine (ref5_Put a2 ns.length c2 ns w2 HI.out HP.out (by omega)).mono ?_
    rintro e3 w3 ⟨v3, rfl, own3, k3⟩
    obtain ⟨a3, c3, rfl, hrow3⟩ := Row8.of_own own3 (bytes_manyP HP.out) (by omega)
    go_wp2_with fail
    refine bodyPost_ret (v := .tuple #[.slice a3 (manyP ns).length c3, .int .i64 0]) (by simp [results, Try.results16, go_sem]) rfl ⟨a3, _, c3, _, 0, rfl, HW.out, hrow3, B2.trans (k3.mono B2.size)⟩
end Go.Proofs.Ytnjckaifgmliaaa

namespace Go.Proofs.Ytnjckaifgmliaaa
open Go.RowKit Lu

theorem grp_own {W : World} {base K n S : Nat} {e : TypeId} {v : Value} {L : List Int} (h : W.ownsRow base e K v n (L.map (Value.int .i64))) (hS : S < base) : ∃ a c, v = .slice a n c ∧ GrpX W [S] a n K L := by
  have hl : L.length = n * K := by have := h.1; simpa using this
  rcases h.2 with ⟨rfl, rfl⟩ | ⟨g, cap, cur, rfl, hb, hg, hn, hm, hs, ht⟩
  · exact ⟨none, 0, rfl, hl, fun _ => rfl, .inl rfl⟩
  · refine ⟨some ⟨g, 0, none⟩, cap, rfl, hl, (fun z => by cases z), .inr ⟨g, rfl, by simp; omega, block_lt hg, fun i z hz => ?_⟩⟩
    have := h.cells (g := g) rfl i (.int .i64 z) (by rw [List.getElem?_map, hz]; rfl)
    rw [Addr.add_lit] at this
    exact this
theorem GrpX.off {W W' : World} {S n K : Nat} {a : Option Addr} {L : List Int} (h : GrpX W [S] a n K L) (k : Off S W W') : GrpX W' [S] a n K L := h.off2 (H := S) (S := S) k.two (by simp) (by simp)
theorem pairs_of {W : World} {X : List Nat} {a : Option Addr} {n : Nat} {l : List (Int × Int)} (h : GrpX W X a n 2 (flat2 l)) (hin : ∀ z ∈ flat2 l, In z) (hn : n ≤ 1000) : Ratios W a n l := by
  have hl : l.length = n := by have := h.1; rw [flat2_length] at this; omega
  have hg := group2_in n h.1 hin
  rw [group2_flat] at hg
  refine ⟨hl, by omega, hg, ?_⟩
  rcases h.2.2 with h0 | ⟨b, ha, _, hlt, hat⟩
  · exact .inl h0
  · refine .inr ⟨b, 0, ha, hlt, fun i hi => ?_⟩
    obtain ⟨g0, g1⟩ := flat2_get (l := l) (i := i) (by omega)
    exact ⟨hat _ _ g0, by rw [Nat.add_assoc]; exact hat _ _ g1⟩
theorem ways_of {W : World} {X : List Nat} {a : Option Addr} {n : Nat} {l : List (Int × Int × Int)} (h : GrpX W X a n 3 (flat3i l)) (hin : ∀ z ∈ flat3i l, In z) (hn : n ≤ 1000) : Recs3 W a n l := by
  have hl : l.length = n := by have := h.1; rw [flat3i_length] at this; omega
  have hg := group3_in n h.1 hin
  rw [group3_flat] at hg
  refine ⟨hl, by omega, hg, ?_⟩
  rcases h.2.2 with h0 | ⟨b, ha, _, hlt, hat⟩
  · exact .inl h0
  · refine .inr ⟨b, 0, ha, hlt, fun i hi => ?_⟩
    obtain ⟨g0, g1, g2⟩ := flat3_get (l := l) (i := i) (by omega)
    exact ⟨hat _ _ g0, by rw [Nat.add_assoc]; exact hat _ _ g1, by rw [Nat.add_assoc]; exact hat _ _ g2⟩
theorem elements_of {W : World} {X : List Nat} {a : Option Addr} {n : Nat} {l : List (Int × Int × Int × Int)} (h : GrpX W X a n 4 (flat4 l)) (hin : ∀ z ∈ flat4 l, In z) (hn : n ≤ 1000) : Recs4 W a n l := by
  have hl : l.length = n := by have := h.1; rw [flat4_length] at this; omega
  have hg := group4_in n h.1 hin
  rw [group4_flat] at hg
  refine ⟨hl, by omega, hg, ?_⟩
  rcases h.2.2 with h0 | ⟨b, ha, _, hlt, hat⟩
  · exact .inl h0
  · refine .inr ⟨b, 0, ha, hlt, fun i hi => ?_⟩
    obtain ⟨g0, g1, g2, g3⟩ := flat4_get (l := l) (i := i) (by omega)
    exact ⟨hat _ _ g0, by rw [Nat.add_assoc]; exact hat _ _ g1, by rw [Nat.add_assoc]; exact hat _ _ g2, by rw [Nat.add_assoc]; exact hat _ _ g3⟩
theorem ints_of {W : World} {X : List Nat} {a : Option Addr} {n : Nat} {l : List Int} (h : GrpX W X a n 1 l) (hin : ∀ z ∈ l, In z) (hn : n ≤ 10000) : Ints W a n l := by
  have hl : l.length = n := by have := h.1; omega
  refine ⟨hl, by omega, hin, ?_⟩
  rcases h.2.2 with h0 | ⟨b, ha, _, hlt, hat⟩
  · exact .inl h0
  · refine .inr ⟨b, 0, ha, fun i hi => hat i _ ?_⟩
    rw [List.getD_eq_getElem?_getD, List.getElem?_eq_getElem (by omega)]
    rfl
/-! ### What is read, number by number -/
theorem read1_snoc (l : List Int) (p k : Nat) : read1 l p (k + 1) = read1 l p k ++ [atP l (p + k)] := by
  unfold read1
  rw [List.range_succ, List.map_append]
  rfl
theorem read2_snoc (l : List Int) (p k : Nat) : flat2 (read2 l p (k + 1)) = flat2 (read2 l p k) ++ [atP l (p + k * 2), atP l (p + k * 2 + 1)] := by
  unfold read2 flat2
  rw [List.range_succ, List.map_append, List.flatMap_append]
  rfl
theorem read3_snoc (l : List Int) (p k : Nat) : flat3i (read3 l p (k + 1)) = flat3i (read3 l p k) ++ [atP l (p + k * 3), atP l (p + k * 3 + 1), atP l (p + k * 3 + 2)] := by
  unfold read3 flat3i
  rw [List.range_succ, List.map_append, List.flatMap_append]
  rfl
theorem read4_snoc (l : List Int) (p k : Nat) : flat4 (read4 l p (k + 1)) = flat4 (read4 l p k) ++ [atP l (p + k * 4), atP l (p + k * 4 + 1), atP l (p + k * 4 + 2), atP l (p + k * 4 + 3)] := by
  unfold read4 flat4
  rw [List.range_succ, List.map_append, List.flatMap_append]
  rfl
theorem atP_in {l : List Int} (h : ∀ z ∈ l, Pk z) (i : Nat) : In (atP l i) := getD_in (fun z hz => (h z hz).in64) i
theorem read_in2 {l : List Int} (h : ∀ z ∈ l, Pk z) (p k : Nat) : ∀ z ∈ flat2 (read2 l p k), In z := by
  induction k with
  | zero => intro z hz; simp [read2, flat2] at hz
  | succ k ih =>
    rw [read2_snoc]
    intro z hz
    rcases List.mem_append.1 hz with hz | hz
    · exact ih z hz
    · simp only [List.mem_cons, List.not_mem_nil, or_false] at hz
      rcases hz with rfl | rfl <;> exact atP_in h _
theorem read_in3 {l : List Int} (h : ∀ z ∈ l, Pk z) (p k : Nat) : ∀ z ∈ flat3i (read3 l p k), In z := by
  induction k with
  | zero => intro z hz; simp [read3, flat3i] at hz
  | succ k ih =>
    rw [read3_snoc]
    intro z hz
    rcases List.mem_append.1 hz with hz | hz
    · exact ih z hz
    · simp only [List.mem_cons, List.not_mem_nil, or_false] at hz
      rcases hz with rfl | rfl | rfl <;> exact atP_in h _
theorem read_in4 {l : List Int} (h : ∀ z ∈ l, Pk z) (p k : Nat) : ∀ z ∈ flat4 (read4 l p k), In z := by
  induction k with
  | zero => intro z hz; simp [read4, flat4] at hz
  | succ k ih =>
    rw [read4_snoc]
    intro z hz
    rcases List.mem_append.1 hz with hz | hz
    · exact ih z hz
    · simp only [List.mem_cons, List.not_mem_nil, or_false] at hz
      rcases hz with rfl | rfl | rfl | rfl <;> exact atP_in h _
theorem read_in1 {l : List Int} (h : ∀ z ∈ l, Pk z) (p k : Nat) : ∀ z ∈ read1 l p k, In z := by
  induction k with
  | zero => intro z hz; simp [read1] at hz
  | succ k ih =>
    rw [read1_snoc]
    intro z hz
    rcases List.mem_append.1 hz with hz | hz
    · exact ih z hz
    · simp only [List.mem_cons, List.not_mem_nil, or_false] at hz
      rw [hz]; exact atP_in h _
end Go.Proofs.Ytnjckaifgmliaaa
