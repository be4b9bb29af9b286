/- THE WALK of layer 5: the number that bytes begin with. -/
import Derived.Test.YtnjckaifgmliaaaPen
import Derived.Laws.BitsAllLaws
import Derived.ScopeJumps
import Derived.Deep.LoopGhost
set_option linter.unusedSimpArgs false
set_option linter.unusedVariables false
namespace Go.Proofs.Ytnjckaifgmliaaa
open Go.RowKit Lu

theorem or_digit (n c : Nat) (hn : n < 72057594037927936) (hc : c < 256) : bits .or .i64 (IntKind.i64.wrap ((n : Int) * 256)) (c : Int) = IntKind.i64.wrap ((n : Int) * 256 + c) := by
  show IntKind.i64.wrap ((BitVec.ofInt 64 (IntKind.i64.wrap ((n : Int) * 256)) ||| BitVec.ofInt 64 (c : Int)).toNat : Int) = _
  have e1 : (BitVec.ofInt 64 (IntKind.i64.wrap ((n : Int) * 256))).toNat = n * 256 := by
    rw [BitVec.toNat_ofInt, IntWalk.i64_left]
    unfold wrap64
    omega
  have e2 : (BitVec.ofInt 64 (c : Int)).toNat = c := by rw [BitVec.toNat_ofInt]; omega
  rw [BitVec.toNat_or, e1, e2, Nat.or_comm, nat_join8' _ _ (by omega) hc]
  congr 1

/-- What Take tells. -/
def Took (w : World) (bs : List Int) (e : Ending) (w' : World) : Prop :=
  Below w.heap.size w w' ∧ match takeP bs with
  | none => e = .returned (.tuple #[.int .i64 0, .slice none 0 0, .int .i64 50])
  | some (n, r) => ∃ a c, e = .returned (.tuple #[.int .i64 n, .slice a r.length c, .int .i64 0]) ∧ Row8 w' a r.length r ∧ r.length ≤ c ∧ ∀ b o, a = some ⟨b, o, none⟩ → w.heap.size ≤ b ∧ b < w'.heap.size
theorem own_far {w : World} {base : Nat} {e : TypeId} {n : Nat} {a : Option Addr} {c : Nat} {xs : List Value} (h : w.ownsRow base e 1 (.slice a n c) n xs) : ∀ b o, a = some ⟨b, o, none⟩ → base ≤ b ∧ b < w.heap.size := by
  intro b o ha
  subst ha
  exact h.lt b rfl
theorem valN_cons (a : Int) (d : List Int) : valN (a :: d) = a * 256 ^ d.length + valN d := by
  induction d using snoc_ind with
  | h0 => simp [valN]
  | h1 d c ih =>
    rw [← List.cons_append, valN_snoc, ih, valN_snoc]
    simp only [List.length_append, List.length_cons, List.length_nil, Int.pow_succ, Nat.zero_add]
    grind
theorem take_split {r : List Int} {m : Nat} (hm8 : m ≤ 8) (hmr : m ≤ r.length) (hby : Bytes r) :
    (takeP ((m : Int) :: r) = some (valN (r.take m), r.drop m) ∧ IntKind.i64.wrap (valN (r.take m)) = valN (r.take m) ∧ Pk (valN (r.take m)) ∧ (digN (valN (r.take m)).toNat).length = m) ∨
    (takeP ((m : Int) :: r) = none ∧ (IntKind.i64.wrap (valN (r.take m)) < 0 ∨ ∃ L : Nat, IntKind.i64.wrap (valN (r.take m)) = valN (r.take m) ∧ Pk (valN (r.take m)) ∧ (digN (valN (r.take m)).toNat).length = L ∧ L ≠ m)) := by
  have hd : Bytes (r.take m) := fun x hx => hby x (List.mem_of_mem_take hx)
  have hl : (r.take m).length = m := by rw [List.length_take]; omega
  have hnn := valN_nonneg _ hd
  have hlt := valN_lt _ hd
  rw [hl] at hlt
  have hhd : 0 < m → (r.take m).headD 0 = r.headD 0 := by
    intro hp
    cases r with
    | nil => rw [List.take_nil]
    | cons a l => obtain ⟨k, rfl⟩ : ∃ k, m = k + 1 := ⟨m - 1, by omega⟩; rfl
  have p7 : ∀ k : Fin 8, (256 : Int) ^ k.val ≤ 72057594037927936 := by decide
  have p8 : (256 : Int) ^ 8 = 18446744073709551616 := by decide
  rw [takeP_cons]
  by_cases h0 : 0 < m ∧ r.headD 0 = 0
  · right
    refine ⟨by rw [if_pos]; right; right; right; exact ⟨by omega, h0.2⟩, .inr ?_⟩
    have hz := hhd h0.1
    rw [h0.2] at hz
    generalize r.take m = d at *
    cases d with
    | nil => simp at hl; omega
    | cons a d =>
      obtain rfl : a = 0 := hz
      have hdl : d.length + 1 = m := by simpa using hl
      have hb2 : Bytes d := fun x hx => hd x (by simp [hx])
      have h1 := valN_lt d hb2
      have h2 := valN_nonneg d hb2
      have e : valN ((0 : Int) :: d) = valN d := by rw [valN_cons]; omega
      rw [e]
      have h3 := p7 ⟨d.length, by omega⟩
      simp only at h3
      have hle := digN_len_le (valN d).toNat d.length (by
        have : ((256 ^ d.length : Nat) : Int) = 256 ^ d.length := Int.natCast_pow 256 d.length
        omega)
      exact ⟨_, IntWalk.i64_in _ (by omega), ⟨h2, by omega⟩, rfl, by omega⟩
  · by_cases h8 : m = 8 ∧ 128 ≤ r.headD 0
    · right
      refine ⟨by rw [if_pos]; right; right; left; exact ⟨by omega, h8.2⟩, .inl ?_⟩
      have hz := hhd (by omega)
      rw [← hz] at h8
      obtain ⟨rfl, h8⟩ := h8
      generalize r.take 8 = d at *
      cases d with
      | nil => cases hl
      | cons a d =>
        have h8 : 128 ≤ a := h8
        have hdl : d.length = 7 := by simpa using hl
        have h2 := valN_nonneg d (fun x hx => hd x (by simp [hx]))
        have e : valN (a :: d) = a * 256 ^ d.length + valN d := valN_cons a d
        rw [hdl, show (256 : Int) ^ 7 = 72057594037927936 by decide] at e
        rw [p8] at hlt
        rw [IntWalk.i64_left]
        unfold wrap64
        omega
    · left
      have hbound : valN (r.take m) ≤ 9223372036854775807 := by
        by_cases hm : m = 8
        · have hz := hhd (by omega)
          subst hm
          generalize r.take 8 = d at *
          cases d with
          | nil => cases hl
          | cons a d =>
            have hz : a = r.headD 0 := hz
            have hdl : d.length = 7 := by simpa using hl
            have h2 := valN_lt d (fun x hx => hd x (by simp [hx]))
            have e : valN (a :: d) = a * 256 ^ d.length + valN d := valN_cons a d
            rw [hdl, show (256 : Int) ^ 7 = 72057594037927936 by decide] at e
            rw [hdl, show (256 : Int) ^ 7 = 72057594037927936 by decide] at h2
            omega
        · have := p7 ⟨m, by omega⟩
          simp only at this
          omega
      refine ⟨by rw [if_neg, Int.toNat_natCast]; rintro (z | z | ⟨z, z2⟩ | ⟨z, z2⟩) <;> omega, IntWalk.i64_in _ (by omega), ⟨hnn, hbound⟩, ?_⟩
      rw [digN_valN _ hd (fun hne => ?_), hl]
      have hp : 0 < m := by
        apply Classical.byContradiction
        intro hz
        apply hne
        rw [show m = 0 by omega, List.take_zero]
      rw [hhd hp]
      exact fun z => h0 ⟨hp, z⟩
theorem wp_scope_out {P : Program} {a : Act} {w : World} {Q : Exit → Act → World → Prop} {c rest : Code} (l : Nat) (hf : findLabel c l = some rest)
    (first : c.wp P (Exit.jump l (fun a w => rest.wp P (Exit.jump l (fun _ _ => False) Q) a w) Q) a w) : (Code.scope c).wp P Q a w :=
  wp_scope_jumps l _ (fun _ _ => 0) hf first fun a w h => Code.wp_mono (fun e a w hq => by
    cases e <;> first | exact hq | exact absurd hq.2 id) h
set_option maxRecDepth 100000 in
set_option maxHeartbeats 4000000 in
theorem pack_Take (a : Option Addr) (len cap : Nat) (bs : List Int) (w : World) (h : Row8 w a len bs) (hl : len ≤ 1000000) (hcap : len ≤ cap) : Calls Try.prog 141 #[.slice a len cap] w (Took w bs) := by
  obtain ⟨hlen, _, hby, hc, hna⟩ := h
  go_enter Try.func141, Try.ntmps141
  go_wp2_with fail
  refine wp_scope_out 0 rfl ?_
  cases bs with
  | nil =>
    obtain rfl : len = 0 := by simpa using hlen.symm
    go_wp2_with fail
    go_step3
    refine ⟨rfl, ?_⟩
    go_wp2_with fail
    simp only [Exit.jump]
    refine bodyPost_ret (v := .tuple #[.int .i64 0, .slice none 0 0, .int .i64 50]) (by simp [results, Try.results141, go_sem]) rfl ⟨Below.refl _ _, rfl⟩
  | cons c r =>
    obtain ⟨b, off, rfl, hcell⟩ : ∃ b off, a = some ⟨b, off, none⟩ ∧ ∀ i u, ((c :: r).map (Value.int .u8))[i]? = some u → w.cell? ⟨b, off + i, none⟩ = some u := by
      rcases hc with h0 | hc
      · simp at h0
      · exact hc
    have hl1 : len = r.length + 1 := by simpa using hlen.symm
    have c0 : w.cell? ⟨b, off, none⟩ = some (.int .u8 c) := hcell 0 _ rfl
    have hb := hby c (by simp)
    have hlp : (0 : Int) < (len : Int) := by omega
    have hne : ((len : Int) == 0) = false := by rw [beq_eq_false_iff_ne]; omega
    have hw : IntKind.i64.wrap c = c := IntWalk.i64_in _ (by omega)
    by_cases hbad : 8 < c ∨ (r.length : Int) < c
    · have hT : takeP (c :: r) = none := by rw [takeP_cons, if_pos]; rcases hbad with h | h <;> simp [h]
      have hy : ∀ (P : Prop) [Decidable P], True := fun _ _ => trivial
      by_cases h8 : 8 < c
      · have y8 : decide (8 < c) = true := by rw [decide_eq_true_iff]; exact h8
        go_wp2_with fail
        go_step3
        refine ⟨rfl, ?_⟩
        go_wp2_with fail
        simp only [Exit.jump]
        refine bodyPost_ret (v := .tuple #[.int .i64 0, .slice none 0 0, .int .i64 50]) (by simp [results, Try.results141, go_sem]) rfl ⟨Below.refl _ _, by rw [hT]⟩
      · have y8 : decide (8 < c) = false := by rw [decide_eq_false_iff_not]; exact h8
        have y9 : decide ((len : Int) ≤ c) = true := by rw [decide_eq_true_iff]; omega
        go_wp2_with fail
        go_step3
        refine ⟨rfl, ?_⟩
        go_wp2_with fail
        simp only [Exit.jump]
        refine bodyPost_ret (v := .tuple #[.int .i64 0, .slice none 0 0, .int .i64 50]) (by simp [results, Try.results141, go_sem]) rfl ⟨Below.refl _ _, by rw [hT]⟩
    · have h8 : ¬ 8 < c := fun z => hbad (.inl z)
      have h9 : c ≤ (r.length : Int) := by omega
      have y8 : decide (8 < c) = false := by rw [decide_eq_false_iff_not]; exact h8
      have y9 : decide ((len : Int) ≤ c) = false := by rw [decide_eq_false_iff_not]; omega
      obtain ⟨m, rfl⟩ := Int.eq_ofNat_of_zero_le hb.1
      have hm8 : m ≤ 8 := by omega
      have hmr : m ≤ r.length := by omega
      have HT := Lib.hid (takeP_cons (m : Int) r)
      have HCELL := Lib.hid hcell
      have HBY := Lib.hid hby
      clear hcell hby hc hna h8 h9 hbad
      by_cases hc1 : cap = 1
      · obtain rfl : r = [] := List.eq_nil_of_length_eq_zero (by omega)
        obtain rfl : m = 0 := by simpa using hmr
        subst hc1
        have hT0 : takeP [((0 : Nat) : Int)] = some (0, []) := by decide
        have HT0 := Lib.hid hT0
        have hpk : Pk 0 := ⟨by decide, by decide⟩
        have hd0 : (digN (0 : Int).toNat).length = 0 := by rw [show (0 : Int).toNat = 0 from rfl, digN_zero]; rfl
        have HD0 := Lib.hid hd0
        have hrow : ∀ ad, Row8 w ad 0 [] := fun ad => ⟨rfl, by decide, fun x hx => by simp at hx, .inl rfl, fun _ => rfl⟩
        clear hT0 hd0 HT
        go_wp2_with fail
        go_step3
        go_wp2_with fail
        go_loopw [27, 5] (fun i v wx => i = .int .i64 0 ∧ v = .int .i64 0 ∧ w = wx) (fun i _ _ => 1 - (intOf i).toNat)
        case atStart => exact ⟨rfl, rfl, rfl⟩
        case round =>
          obtain ⟨rfl, rfl, rfl⟩ := hrel
          go_wp2_with fail
          refine (pack_need 0 0 _ hpk HD0.out).mono ?_
          rintro e2 w2 ⟨rfl, hw2⟩
          rw [hw2]
          clear hw2 w2
          go_wp2_with fail
          refine (bytes_Clone _ _ _ [] _ (hrow _) (by omega)).mono ?_
          rintro e3 w3 ⟨v3, rfl, own3, k3⟩
          obtain ⟨a3, c3, rfl, hrow3⟩ := Row8.of_own own3 (fun x hx => by simp at hx) (by omega)
          have hbl := own_far own3
          go_wp2_with fail
          simp only [Exit.jump]
          refine bodyPost_ret (v := .tuple #[.int .i64 0, .slice a3 0 c3, .int .i64 0]) (by simp [results, Try.results141, go_sem]) rfl ⟨k3, ?_⟩
          rw [HT0.out]
          exact ⟨a3, c3, rfl, hrow3, Nat.zero_le _, hbl⟩
      · skip
        go_wp2_with fail
        go_step3
        go_wp2_with fail
        go_loopw [27, 5] (fun i v wx => ∃ k : Nat, k ≤ m ∧ i = .int .i64 k ∧ v = .int .i64 (IntKind.i64.wrap (valN (r.take k))) ∧ w = wx) (fun i _ _ => m + 1 - (intOf i).toNat)
        case atStart => exact ⟨0, by omega, rfl, rfl, rfl⟩
        case round =>
          obtain ⟨k, hk, rfl, rfl, rfl⟩ := hrel
          by_cases hkm : m = k
          · subst hkm
            clear hk
            by_cases hkr : m < r.length
            · have hk0 : (0 : Int) ≤ (m : Int) := by omega
              have hk1 : (m : Int) < (r.length : Int) := by omega
              have hck := HCELL.out (m + 1) _ (by rw [List.map_cons, List.getElem?_cons_succ, List.getElem?_map, List.getElem?_eq_getElem hkr]; rfl)
              rw [show off + (m + 1) = off + 1 + m by omega] at hck
              generalize r[m] = dk at hck
              rcases take_split hm8 hmr (fun x hx => HBY.out x (by simp [hx])) with ⟨hT, hx, hpk, hL⟩ | ⟨hT, hneg | ⟨L, hx, hpk, hL, hne2⟩⟩
              · rw [hx]
                obtain ⟨V, hV⟩ : ∃ V, valN (r.take m) = V := ⟨_, rfl⟩
                rw [hV] at hpk hL hT ⊢
                have hv0 := hpk.1
                have yv : decide (0 ≤ V) = true := by rw [decide_eq_true_iff]; exact hv0
                have HT := Lib.hid hT
                clear hT hx hV
                have hw1 : IntKind.i64.wrap (1 + (m : Int)) = 1 + (m : Int) := IntWalk.i64_in _ (by omega)
                go_wp2_with fail
                refine (pack_need V m _ hpk hL).mono ?_
                rintro e2 w2 ⟨rfl, hw2⟩
                rw [hw2]
                clear hw2 w2
                have hnn : r.length + 1 - (1 + m) = (r.drop m).length := by rw [List.length_drop]; omega
                have HNN := Lib.hid hnn
                clear hnn
                have hbd : Bytes (r.drop m) := fun x hx => HBY.out x (by simp [List.mem_of_mem_drop hx])
                by_cases hcm : cap = 1 + m
                · exfalso
                  omega
                · have hrow : Row8 w (some ⟨b, off + (1 + m), none⟩) (r.length + 1 - (1 + m)) (r.drop m) := ⟨HNN.out.symm, by omega, hbd, .inr ⟨b, off + (1 + m), rfl, fun i u hu => by
                    rw [List.getElem?_map, List.getElem?_drop] at hu
                    have := HCELL.out (1 + m + i) u (by rw [List.map_cons, show 1 + m + i = (m + i) + 1 by omega, List.getElem?_cons_succ, List.getElem?_map]; exact hu)
                    rw [show off + (1 + m) + i = off + (1 + m + i) by omega]
                    exact this⟩, fun h => by cases h⟩
                  go_wp2_with fail
                  (with_reducible refine (bytes_Clone _ _ _ (r.drop m) _ hrow (by omega)).mono ?_)
                  rintro e3 w3 ⟨v3, rfl, own3, k3⟩
                  obtain ⟨a3, c3, rfl, hrow3⟩ := Row8.of_own own3 hbd (by omega)
                  have hbl := own_far own3
                  have hcp := own_cap own3
                  rw [HNN.out] at hrow3 hcp ⊢
                  go_wp2_with fail
                  simp only [Exit.jump]
                  refine bodyPost_ret (v := .tuple #[.int .i64 V, .slice a3 (r.drop m).length c3, .int .i64 0]) (by simp [results, Try.results141, go_sem]) rfl ⟨k3, ?_⟩
                  rw [HT.out]
                  exact ⟨a3, c3, rfl, hrow3, hcp, hbl⟩
              · have yv : decide (0 ≤ IntKind.i64.wrap (valN (r.take m))) = false := by rw [decide_eq_false_iff_not]; omega
                have HT := Lib.hid hT
                generalize IntKind.i64.wrap (valN (r.take m)) = V at *
                clear hT
                go_wp2_with fail
                go_step3
                go_wp2_with fail
                simp only [Exit.jump]
                refine bodyPost_ret (v := .tuple #[.int .i64 0, .slice none 0 0, .int .i64 50]) (by simp [results, Try.results141, go_sem]) rfl ⟨Below.refl _ _, by rw [HT.out]⟩
              · rw [hx]
                obtain ⟨V, hV⟩ : ∃ V, valN (r.take m) = V := ⟨_, rfl⟩
                rw [hV] at hpk hL ⊢
                have hv0 := hpk.1
                have yv : decide (0 ≤ V) = true := by rw [decide_eq_true_iff]; exact hv0
                have HT := Lib.hid hT
                clear hT hx hV
                have yl : ((L : Int) == (m : Int)) = false := by rw [beq_eq_false_iff_ne]; omega
                go_wp2_with fail
                refine (pack_need V L _ hpk hL).mono ?_
                rintro e2 w2 ⟨rfl, hw2⟩
                rw [hw2]
                clear hw2 w2
                go_wp2_with fail
                go_step3
                go_wp2_with fail
                simp only [Exit.jump]
                refine bodyPost_ret (v := .tuple #[.int .i64 0, .slice none 0 0, .int .i64 50]) (by simp [results, Try.results141, go_sem]) rfl ⟨Below.refl _ _, by rw [HT.out]⟩
            · have hk1 : ¬ (m : Int) < (r.length : Int) := by omega
              rcases take_split hm8 hmr (fun x hx => HBY.out x (by simp [hx])) with ⟨hT, hx, hpk, hL⟩ | ⟨hT, hneg | ⟨L, hx, hpk, hL, hne2⟩⟩
              · rw [hx]
                obtain ⟨V, hV⟩ : ∃ V, valN (r.take m) = V := ⟨_, rfl⟩
                rw [hV] at hpk hL hT ⊢
                have hv0 := hpk.1
                have yv : decide (0 ≤ V) = true := by rw [decide_eq_true_iff]; exact hv0
                have HT := Lib.hid hT
                clear hT hx hV
                have hw1 : IntKind.i64.wrap (1 + (m : Int)) = 1 + (m : Int) := IntWalk.i64_in _ (by omega)
                go_wp2_with fail
                refine (pack_need V m _ hpk hL).mono ?_
                rintro e2 w2 ⟨rfl, hw2⟩
                rw [hw2]
                clear hw2 w2
                have hnn : r.length + 1 - (1 + m) = (r.drop m).length := by rw [List.length_drop]; omega
                have HNN := Lib.hid hnn
                clear hnn
                have hbd : Bytes (r.drop m) := fun x hx => HBY.out x (by simp [List.mem_of_mem_drop hx])
                by_cases hcm : cap = 1 + m
                · have hrow : ∀ ad, Row8 w ad (r.length + 1 - (1 + m)) (r.drop m) := fun ad => by
                    have hz : r.drop m = [] := List.eq_nil_of_length_eq_zero (by rw [List.length_drop]; omega)
                    rw [hz]
                    exact ⟨by simp; omega, by omega, fun x hx => by simp at hx, .inl rfl, fun _ => by omega⟩
                  go_wp2_with fail
                  (with_reducible refine (bytes_Clone _ _ _ (r.drop m) _ (hrow _) (by omega)).mono ?_)
                  rintro e3 w3 ⟨v3, rfl, own3, k3⟩
                  obtain ⟨a3, c3, rfl, hrow3⟩ := Row8.of_own own3 hbd (by omega)
                  have hbl := own_far own3
                  have hcp := own_cap own3
                  rw [HNN.out] at hrow3 hcp ⊢
                  go_wp2_with fail
                  simp only [Exit.jump]
                  refine bodyPost_ret (v := .tuple #[.int .i64 V, .slice a3 (r.drop m).length c3, .int .i64 0]) (by simp [results, Try.results141, go_sem]) rfl ⟨k3, ?_⟩
                  rw [HT.out]
                  exact ⟨a3, c3, rfl, hrow3, hcp, hbl⟩
                · have hrow : Row8 w (some ⟨b, off + (1 + m), none⟩) (r.length + 1 - (1 + m)) (r.drop m) := ⟨HNN.out.symm, by omega, hbd, .inr ⟨b, off + (1 + m), rfl, fun i u hu => by
                    rw [List.getElem?_map, List.getElem?_drop] at hu
                    have := HCELL.out (1 + m + i) u (by rw [List.map_cons, show 1 + m + i = (m + i) + 1 by omega, List.getElem?_cons_succ, List.getElem?_map]; exact hu)
                    rw [show off + (1 + m) + i = off + (1 + m + i) by omega]
                    exact this⟩, fun h => by cases h⟩
                  go_wp2_with fail
                  (with_reducible refine (bytes_Clone _ _ _ (r.drop m) _ hrow (by omega)).mono ?_)
                  rintro e3 w3 ⟨v3, rfl, own3, k3⟩
                  obtain ⟨a3, c3, rfl, hrow3⟩ := Row8.of_own own3 hbd (by omega)
                  have hbl := own_far own3
                  have hcp := own_cap own3
                  rw [HNN.out] at hrow3 hcp ⊢
                  go_wp2_with fail
                  simp only [Exit.jump]
                  refine bodyPost_ret (v := .tuple #[.int .i64 V, .slice a3 (r.drop m).length c3, .int .i64 0]) (by simp [results, Try.results141, go_sem]) rfl ⟨k3, ?_⟩
                  rw [HT.out]
                  exact ⟨a3, c3, rfl, hrow3, hcp, hbl⟩
              · have yv : decide (0 ≤ IntKind.i64.wrap (valN (r.take m))) = false := by rw [decide_eq_false_iff_not]; omega
                have HT := Lib.hid hT
                generalize IntKind.i64.wrap (valN (r.take m)) = V at *
                clear hT
                go_wp2_with fail
                go_step3
                go_wp2_with fail
                simp only [Exit.jump]
                refine bodyPost_ret (v := .tuple #[.int .i64 0, .slice none 0 0, .int .i64 50]) (by simp [results, Try.results141, go_sem]) rfl ⟨Below.refl _ _, by rw [HT.out]⟩
              · rw [hx]
                obtain ⟨V, hV⟩ : ∃ V, valN (r.take m) = V := ⟨_, rfl⟩
                rw [hV] at hpk hL ⊢
                have hv0 := hpk.1
                have yv : decide (0 ≤ V) = true := by rw [decide_eq_true_iff]; exact hv0
                have HT := Lib.hid hT
                clear hT hx hV
                have yl : ((L : Int) == (m : Int)) = false := by rw [beq_eq_false_iff_ne]; omega
                go_wp2_with fail
                refine (pack_need V L _ hpk hL).mono ?_
                rintro e2 w2 ⟨rfl, hw2⟩
                rw [hw2]
                clear hw2 w2
                go_wp2_with fail
                go_step3
                go_wp2_with fail
                simp only [Exit.jump]
                refine bodyPost_ret (v := .tuple #[.int .i64 0, .slice none 0 0, .int .i64 50]) (by simp [results, Try.results141, go_sem]) rfl ⟨Below.refl _ _, by rw [HT.out]⟩
          · have hkr : k < r.length := by omega
            have hk0 : (0 : Int) ≤ (k : Int) := by omega
            have hk1 : (k : Int) < (r.length : Int) := by omega
            have hkne : ((k : Int) == (m : Int)) = false := by rw [beq_eq_false_iff_ne]; omega
            have hck := HCELL.out (k + 1) _ (by rw [List.map_cons, List.getElem?_cons_succ, List.getElem?_map, List.getElem?_eq_getElem hkr]; rfl)
            rw [show off + (k + 1) = off + 1 + k by omega] at hck
            have hdk := HBY.out r[k] (by simp)
            have htk := List.take_succ_eq_append_getElem hkr
            generalize r[k] = dk at *
            have hbt : Bytes (r.take k) := fun x hx => HBY.out x (by simp [List.mem_of_mem_take hx])
            have hv0 := valN_nonneg _ hbt
            have hv1 := valN_lt _ hbt
            have hlk : (r.take k).length = k := by rw [List.length_take]; omega
            have p7 : ∀ k : Fin 8, (256 : Int) ^ k.val ≤ 72057594037927936 := by decide
            have h7 := p7 ⟨k, by omega⟩
            simp only at h7
            rw [hlk] at hv1
            have hvs : valN (r.take (k + 1)) = valN (r.take k) * 256 + dk := by rw [htk, valN_snoc]
            have HVS := Lib.hid hvs
            obtain ⟨V, hV⟩ := Int.eq_ofNat_of_zero_le hv0
            obtain ⟨D, rfl⟩ := Int.eq_ofNat_of_zero_le hdk.1
            have hVlt : V < 72057594037927936 := by omega
            have hDlt : D < 256 := by omega
            have hwV : IntKind.i64.wrap (V : Int) = (V : Int) := IntWalk.i64_in _ (by omega)
            have hwD : IntKind.i64.wrap (D : Int) = (D : Int) := IntWalk.i64_in _ (by omega)
            have hor := or_digit V D hVlt hDlt
            have HV := Lib.hid hV
            rw [hV, hwV]
            clear hV hvs htk hbt hv0 hv1 hlk p7 h7 hwV
            go_wp2_with fail
            go_roundw
            case rel =>
              refine ⟨k + 1, by omega, by go_num, ?_, trivial⟩
              rw [HVS.out, HV.out, ← hor, IntWalk.i64_left]
            case measure => simp [intOf]; omega
end Go.Proofs.Ytnjckaifgmliaaa
