/- THE HEAD OF THE STATEMENTS of layer 7: 'awake' returns true. -/
import Derived.Test.YtnjckaifgmliaaaRead
import Derived.Test.YtnjckaifgmliaaaEmpty
import Derived.Laws.BytesArg
set_option linter.unusedSimpArgs false
set_option linter.unusedVariables false
namespace Go.Proofs.Ytnjckaifgmliaaa
open Go.RowKit Lu

theorem results_cell1 {fn : Func} {a : Tmp} {t : TypeId} (h : fn.results = #[.cell a t]) (tmps : Array Value) (P : Program) (w : World) (p : Addr) (v : Value) (hp : tmps.getD a undef = .pointer (some p)) (hl : (loadVar t p).run P w = .ok v w) :
    (results fn tmps).run P w = .ok v w := by
  have hp' : tmps[a]?.getD undef = .pointer (some p) := by simpa using hp
  simp [results, h, hp', asAddr, hl]
def s7 : Setup := ⟨3, [(0, 2, 300)], 1, 2, [], [], [], 0, 900, 36000, 0, 0, 0, 0, 0, 0, 0, 0, [1500], 0, 0, 0, []⟩
def s7w : Setup := ⟨3, [(0, 2, 300)], 1, 2, [], [], [], 0, 900, 59, 0, 0, 0, 0, 0, 0, 0, 0, [1500], 0, 0, 0, []⟩
theorem s7_may : setupP s7 = true := by decide +kernel
theorem s7w_no : setupP s7w = false := by decide +kernel
theorem one_small {n : Nat} (h0 : n ≠ 0) (h : n < 256) : oneP (n : Int) = [1, (n : Int)] := by
  unfold oneP
  rw [Int.toNat_natCast, digN_step h0, show n / 256 = 0 by omega, digN_zero, show n % 256 = n by omega]
  rfl
theorem one_300 : oneP 300 = [2, 1, 44] := by
  unfold oneP
  rw [show (300 : Int).toNat = 300 from rfl, digN_step (by decide), digN_step (by decide), show 300 / 256 / 256 = 0 from rfl, digN_zero]
  rfl
theorem s7_bytes : ∃ r, manyP (numbersP s7) = 1 :: 3 :: 1 :: 1 :: 0 :: 1 :: 2 :: 2 :: 1 :: 44 :: r := by
  have e : numbersP s7 = 3 :: 1 :: 0 :: 2 :: 300 :: [1, 2, 0, 0, 0, 0, 900, 36000, 0, 0, 0, 0, 0, 0, 0, 0, 1, 1500, 0, 0, 0, 0] := by decide +kernel
  have o3 : oneP 3 = [1, 3] := one_small (n := 3) (by decide) (by decide)
  have o1 : oneP 1 = [1, 1] := one_small (n := 1) (by decide) (by decide)
  have o2 : oneP 2 = [1, 2] := one_small (n := 2) (by decide) (by decide)
  have o0 : oneP 0 = [0] := by unfold oneP; rw [show (0 : Int).toNat = 0 from rfl, digN_zero]; rfl
  rw [e, manyP_cons, manyP_cons, manyP_cons, manyP_cons, manyP_cons, o3, o1, o0, o2, one_300]
  exact ⟨_, rfl⟩
theorem read_nil : readP [] = (noSetup, 70) := by
  refine readP_no (fun c h => by simp at h) fun s h => ?_
  have := manyP_zero h.2.symm
  unfold numbersP at this
  simp at this
theorem row_take {w : World} {a : Option Addr} {n : Nat} {bs : List Int} (h : Row8 w a n bs) (k : Nat) (hk : k ≤ n) : Row8 w a k (bs.take k) := by
  refine ⟨by rw [List.length_take, h.1]; omega, by have := h.2.1; omega, fun c hc => h.2.2.1 c (List.mem_of_mem_take hc), ?_, fun ha => by have := h.2.2.2.2 ha; omega⟩
  rcases h.2.2.2.1 with h0 | ⟨b, off, ha, hc⟩
  · left
    have : bs = [] := by simpa using h0
    rw [this]; simp
  · refine .inr ⟨b, off, ha, fun i u hu => hc i u ?_⟩
    rw [List.getElem?_map, List.getElem?_take] at hu
    rw [List.getElem?_map]
    split at hu
    · exact hu
    · simp at hu
/-- A text of bytes. -/
theorem conv_row {w : World} {a : Option Addr} {n : Nat} {bs : List Int} (h : Row8 w a n bs) (c : Nat) : (convert 31 9 (.slice a n c)).run Try.prog w = .ok (.string (strOfNums bs)) w := by
  cases a with
  | none =>
    have h0 := h.2.2.2.2 rfl
    have hb : bs = [] := List.eq_nil_of_length_eq_zero (h.1.trans h0)
    rw [hb]
    exact run_convert_bytes_nil w 31 5 Try.underlying31 Try.underlying5 n c 9 Try.underlying9
  | some ad =>
    by_cases h0 : n = 0
    · have hb : bs = [] := List.eq_nil_of_length_eq_zero (h.1.trans h0)
      subst h0 hb
      rw [run_convert_bytes_string w 31 9 5 _ 0 c Try.underlying31 Try.underlying5 Try.underlying9, run_bytesToString w ad 0 c [] (by simp [loadCells, loadCellsFrom])]
      rfl
    · obtain ⟨b, off, ha, hc⟩ : ∃ b off, some ad = some ⟨b, off, none⟩ ∧ ∀ i u, (bs.map (Value.int .u8))[i]? = some u → w.cell? ⟨b, off + i, none⟩ = some u := by
        rcases h.2.2.2.1 with h1 | h1
        · exfalso
          have : bs = [] := by simpa using h1
          rw [this] at h
          exact h0 h.1.symm
        · exact h1
      simp only [Option.some.injEq] at ha
      subst ha
      refine run_convert_bytes_arg w 31 5 Try.underlying31 Try.underlying5 b off n c bs h.1 (fun i hi => hc i _ ?_) 9 Try.underlying9
      have hl : i < bs.length := by rw [h.1]; exact hi
      rw [List.getElem?_map, List.getElem?_eq_getElem hl, List.getD_eq_getElem?_getD, List.getElem?_eq_getElem hl]
      rfl
def LeastSays (w : World) (e : Ending) (w' : World) : Prop :=
  ∃ q : Slices, e = .returned (.agg #[.int .i64 s7.places, .slice q.wa q.wl q.wc, .int .i64 s7.pn, .int .i64 s7.pd, .slice q.ea q.el q.ec, .slice q.ca q.cl q.cc, .slice q.ga q.gl q.gc, .int .i64 s7.allow, .int .i64 s7.unit, .int .i64 s7.cap, .int .i64 s7.paidBreak, .int .i64 s7.autoAfter, .int .i64 s7.autoBreak, .int .i64 s7.dayReg, .int .i64 s7.dayOver, .int .i64 s7.weekReg, .int .i64 s7.nightFrom, .int .i64 s7.nightTo, .slice q.ra q.rl q.rc, .int .i64 s7.diff, .int .i64 s7.least, .int .i64 s7.fault, .slice q.ta q.tl q.tc]) ∧ SetupIs w' s7 q ∧ Below w.heap.size w w'
theorem recs3_none (w : World) : Recs3 w none 0 [] := ⟨rfl, by decide, by simp, .inl rfl⟩
theorem recs4_none (w : World) : Recs4 w none 0 [] := ⟨rfl, by decide, by simp, .inl rfl⟩
theorem ratios_none (w : World) : Ratios w none 0 [] := ⟨rfl, by decide, by simp, .inl rfl⟩
theorem setupIs_7 (w : World) (A B : Nat) (hA : A < w.heap.size) (h0 : w.cell? ⟨A, 0, none⟩ = some (.int .i64 0)) (h1 : w.cell? ⟨A, 1, none⟩ = some (.int .i64 2)) (h2 : w.cell? ⟨A, 2, none⟩ = some (.int .i64 300)) (h3 : w.cell? ⟨B, 0, none⟩ = some (.int .i64 1500)) :
    SetupIs w s7 ⟨some ⟨A, 0, none⟩, 1, 1, none, 0, 0, none, 0, 0, none, 0, 0, some ⟨B, 0, none⟩, 1, 1, none, 0, 0⟩ := by
  refine ⟨by decide, by decide, by decide, by decide, by decide, by decide, by decide, by decide, by decide, by decide, by decide, by decide, by decide, by decide, by decide, by decide, by decide, ?_, recs4_none w, ratios_none w, ratios_none w, ?_, ratios_none w⟩
  · show Recs3 w (some ⟨A, 0, none⟩) 1 [(0, 2, 300)]
    refine ⟨rfl, by decide, by simp [In], .inr ⟨A, 0, rfl, hA, fun i hi => ?_⟩⟩
    obtain rfl : i = 0 := by omega
    exact ⟨h0, h1, h2⟩
  · show Ints w (some ⟨B, 0, none⟩) 1 [1500]
    refine ⟨rfl, by decide, by simp [In], .inr ⟨B, 0, rfl, fun i hi => ?_⟩⟩
    obtain rfl : i = 0 := by omega
    exact h3
set_option maxRecDepth 100000 in
set_option maxHeartbeats 1000000 in
theorem law_least (w : World) : Calls Try.prog 33 #[] w (LeastSays w) := by
  have hb : (((w.alloc (.cells #[.int .i64 0, .slice none 0 0, .int .i64 0, .int .i64 0, .slice none 0 0, .slice none 0 0, .slice none 0 0, .int .i64 0, .int .i64 0, .int .i64 0, .int .i64 0, .int .i64 0, .int .i64 0, .int .i64 0, .int .i64 0, .int .i64 0, .int .i64 0, .int .i64 0, .slice none 0 0, .int .i64 0, .int .i64 0, .int .i64 0, .slice none 0 0] 30)).alloc (.cells #[.int .i64 0, .int .i64 2, .int .i64 300] 58)).alloc (.cells #[.int .i64 1500] 3)).heap[w.heap.size]? = some (.cells #[.int .i64 0, .slice none 0 0, .int .i64 0, .int .i64 0, .slice none 0 0, .slice none 0 0, .slice none 0 0, .int .i64 0, .int .i64 0, .int .i64 0, .int .i64 0, .int .i64 0, .int .i64 0, .int .i64 0, .int .i64 0, .int .i64 0, .int .i64 0, .int .i64 0, .slice none 0 0, .int .i64 0, .int .i64 0, .int .i64 0, .slice none 0 0] 30) := box_keep (w := w.alloc (.cells #[.int .i64 0, .slice none 0 0, .int .i64 0, .int .i64 0, .slice none 0 0, .slice none 0 0, .slice none 0 0, .int .i64 0, .int .i64 0, .int .i64 0, .int .i64 0, .int .i64 0, .int .i64 0, .int .i64 0, .int .i64 0, .int .i64 0, .int .i64 0, .int .i64 0, .slice none 0 0, .int .i64 0, .int .i64 0, .int .i64 0, .slice none 0 0] 30)) (B := w.heap.size + 1) (((Below.refl _ _).alloc (by simp) _).alloc (by simp) _) (box_new w _ rfl _ _) (by omega)
  have c0 : (((w.alloc (.cells #[.int .i64 0, .slice none 0 0, .int .i64 0, .int .i64 0, .slice none 0 0, .slice none 0 0, .slice none 0 0, .int .i64 0, .int .i64 0, .int .i64 0, .int .i64 0, .int .i64 0, .int .i64 0, .int .i64 0, .int .i64 0, .int .i64 0, .int .i64 0, .int .i64 0, .slice none 0 0, .int .i64 0, .int .i64 0, .int .i64 0, .slice none 0 0] 30)).alloc (.cells #[.int .i64 0, .int .i64 2, .int .i64 300] 58)).alloc (.cells #[.int .i64 1500] 3)).cell? ⟨w.heap.size + 1, 0, none⟩ = some (.int .i64 0) := by simp [go_sem]
  have c1 : (((w.alloc (.cells #[.int .i64 0, .slice none 0 0, .int .i64 0, .int .i64 0, .slice none 0 0, .slice none 0 0, .slice none 0 0, .int .i64 0, .int .i64 0, .int .i64 0, .int .i64 0, .int .i64 0, .int .i64 0, .int .i64 0, .int .i64 0, .int .i64 0, .int .i64 0, .int .i64 0, .slice none 0 0, .int .i64 0, .int .i64 0, .int .i64 0, .slice none 0 0] 30)).alloc (.cells #[.int .i64 0, .int .i64 2, .int .i64 300] 58)).alloc (.cells #[.int .i64 1500] 3)).cell? ⟨w.heap.size + 1, 1, none⟩ = some (.int .i64 2) := by simp [go_sem]
  have c2 : (((w.alloc (.cells #[.int .i64 0, .slice none 0 0, .int .i64 0, .int .i64 0, .slice none 0 0, .slice none 0 0, .slice none 0 0, .int .i64 0, .int .i64 0, .int .i64 0, .int .i64 0, .int .i64 0, .int .i64 0, .int .i64 0, .int .i64 0, .int .i64 0, .int .i64 0, .int .i64 0, .slice none 0 0, .int .i64 0, .int .i64 0, .int .i64 0, .slice none 0 0] 30)).alloc (.cells #[.int .i64 0, .int .i64 2, .int .i64 300] 58)).alloc (.cells #[.int .i64 1500] 3)).cell? ⟨w.heap.size + 1, 2, none⟩ = some (.int .i64 300) := by simp [go_sem]
  have c3 : (((w.alloc (.cells #[.int .i64 0, .slice none 0 0, .int .i64 0, .int .i64 0, .slice none 0 0, .slice none 0 0, .slice none 0 0, .int .i64 0, .int .i64 0, .int .i64 0, .int .i64 0, .int .i64 0, .int .i64 0, .int .i64 0, .int .i64 0, .int .i64 0, .int .i64 0, .int .i64 0, .slice none 0 0, .int .i64 0, .int .i64 0, .int .i64 0, .slice none 0 0] 30)).alloc (.cells #[.int .i64 0, .int .i64 2, .int .i64 300] 58)).alloc (.cells #[.int .i64 1500] 3)).cell? ⟨w.heap.size + 1 + 1, 0, none⟩ = some (.int .i64 1500) := by simp [go_sem]
  have B0 : Below w.heap.size w (((w.alloc (.cells #[.int .i64 0, .slice none 0 0, .int .i64 0, .int .i64 0, .slice none 0 0, .slice none 0 0, .slice none 0 0, .int .i64 0, .int .i64 0, .int .i64 0, .int .i64 0, .int .i64 0, .int .i64 0, .int .i64 0, .int .i64 0, .int .i64 0, .int .i64 0, .int .i64 0, .slice none 0 0, .int .i64 0, .int .i64 0, .int .i64 0, .slice none 0 0] 30)).alloc (.cells #[.int .i64 0, .int .i64 2, .int .i64 300] 58)).alloc (.cells #[.int .i64 1500] 3)) := by go_grown
  have C := Lib.hid (And.intro c0 (And.intro c1 (And.intro c2 c3)))
  have HB := Lib.hid hb
  clear c0 c1 c2 c3 hb
  go_enter Try.func33, Try.ntmps33
  go_wp2_with ((refine wpList_store_block rfl 30 (.tmp 0) (.tmp 5) rfl w.heap.size _ #[.int .i64 3, .slice (some ⟨w.heap.size + 1, 0, none⟩) 1 1, .int .i64 1, .int .i64 2, .slice none 0 0, .slice none 0 0, .slice none 0 0, .int .i64 0, .int .i64 900, .int .i64 36000, .int .i64 0, .int .i64 0, .int .i64 0, .int .i64 0, .int .i64 0, .int .i64 0, .int .i64 0, .int .i64 0, .slice (some ⟨w.heap.size + 1 + 1, 0, none⟩) 1 1, .int .i64 0, .int .i64 0, .int .i64 0, .slice none 0 0] _ HB.out rfl rfl rfl setup_size (by kernel_rfl) ?_; intro W oW sW))
  refine bodyPost_ret (v := .agg #[.int .i64 3, .slice (some ⟨w.heap.size + 1, 0, none⟩) 1 1, .int .i64 1, .int .i64 2, .slice none 0 0, .slice none 0 0, .slice none 0 0, .int .i64 0, .int .i64 900, .int .i64 36000, .int .i64 0, .int .i64 0, .int .i64 0, .int .i64 0, .int .i64 0, .int .i64 0, .int .i64 0, .int .i64 0, .slice (some ⟨w.heap.size + 1 + 1, 0, none⟩) 1 1, .int .i64 0, .int .i64 0, .int .i64 0, .slice none 0 0]) (results_cell1 Try.results33 _ _ _ _ _ rfl (load_setup sW rfl)) rfl ?_
  obtain ⟨c0, c1, c2, c3⟩ := C.out
  refine ⟨⟨some ⟨w.heap.size + 1, 0, none⟩, 1, 1, none, 0, 0, none, 0, 0, none, 0, 0, some ⟨w.heap.size + 1 + 1, 0, none⟩, 1, 1, none, 0, 0⟩, rfl, ?_, B0.trans (oW.below (Nat.le_refl _) B0.size)⟩
  have hsz := oW.size
  simp only [World.size_alloc] at hsz
  exact setupIs_7 W _ _ (by omega) (oW.cell c0 (by simp)) (oW.cell c1 (by simp)) (oW.cell c2 (by simp)) (oW.cell c3 (by simp only; omega))
theorem row_lt {w : World} {a : Option Addr} {n : Nat} {bs : List Int} (h : Row8 w a n bs) (hn : 0 < n) : ∀ b o, a = some ⟨b, o, none⟩ → b < w.heap.size := by
  intro b o ha
  rcases h.2.2.2.1 with h0 | ⟨b', off, hb, hc⟩
  · exfalso
    have : bs = [] := by simpa using h0
    rw [this] at h
    have := h.1
    simp at this
    omega
  · rw [ha] at hb
    simp only [Option.some.injEq, Addr.mk.injEq, and_true] at hb
    obtain ⟨rfl, rfl⟩ := hb
    have hl : 0 < bs.length := by rw [h.1]; exact hn
    exact World.block_lt_of_cell? w _ (hc 0 _ (by rw [List.getElem?_map, List.getElem?_eq_getElem hl]; rfl))
theorem setup_bytes_le {s : Setup} (h : setupP s = true) : (manyP (numbersP s)).length ≤ 3600 := by
  have h1 := manyP_len (setup_pk h)
  have h2 := numbersP_len h
  omega
set_option maxRecDepth 100000 in
set_option maxHeartbeats 4000000 in
theorem awake7 (w : World) : Calls Try.prog 13 #[] w fun e w' => e = .returned (.bool true) ∧ Below w.heap.size w w' := by
  obtain ⟨rest, hbytes⟩ := s7_bytes
  have hlen := setup_bytes_le s7_may
  have hl10 : 10 ≤ (manyP (numbersP s7)).length := by rw [hbytes]; simp only [List.length_cons]; omega
  have ht9 : (manyP (numbersP s7)).take 9 = [1, 3, 1, 1, 0, 1, 2, 2, 1] := by rw [hbytes]; rfl
  have HT9 := Lib.hid ht9
  have hW := writeP_yes s7_may
  have hWW := write_read s7_may
  generalize manyP (numbersP s7) = mb at *
  clear hbytes ht9
  go_enter Try.func13, Try.ntmps13
  go_wp2_with fail
  refine (law_least w).mono ?_
  rintro e1 w1 ⟨q1, rfl, hs1, B1⟩
  go_upto_region 2 with (refine wpList_store_new _ _ _ rfl 30 (.tmp 1) (.tmp 11) rfl #[.int .i64 s7.places, .slice q1.wa q1.wl q1.wc, .int .i64 s7.pn, .int .i64 s7.pd, .slice q1.ea q1.el q1.ec, .slice q1.ca q1.cl q1.cc, .slice q1.ga q1.gl q1.gc, .int .i64 s7.allow, .int .i64 s7.unit, .int .i64 s7.cap, .int .i64 s7.paidBreak, .int .i64 s7.autoAfter, .int .i64 s7.autoBreak, .int .i64 s7.dayReg, .int .i64 s7.dayOver, .int .i64 s7.weekReg, .int .i64 s7.nightFrom, .int .i64 s7.nightTo, .slice q1.ra q1.rl q1.rc, .int .i64 s7.diff, .int .i64 s7.least, .int .i64 s7.fault, .slice q1.ta q1.tl q1.tc] w1.heap.size rfl rfl rfl rfl setup_size (by kernel_rfl) ?_)
  refine gen_code (S := fun V => V.heap[w1.heap.size]? = some (.cells #[.int .i64 s7.places, .slice q1.wa q1.wl q1.wc, .int .i64 s7.pn, .int .i64 s7.pd, .slice q1.ea q1.el q1.ec, .slice q1.ca q1.cl q1.cc, .slice q1.ga q1.gl q1.gc, .int .i64 s7.allow, .int .i64 s7.unit, .int .i64 s7.cap, .int .i64 s7.paidBreak, .int .i64 s7.autoAfter, .int .i64 s7.autoBreak, .int .i64 s7.dayReg, .int .i64 s7.dayOver, .int .i64 s7.weekReg, .int .i64 s7.nightFrom, .int .i64 s7.nightTo, .slice q1.ra q1.rl q1.rc, .int .i64 s7.diff, .int .i64 s7.least, .int .i64 s7.fault, .slice q1.ta q1.tl q1.tc] 30) ∧ SetupIs V s7 q1 ∧ Below w.heap.size w V) ⟨box_new _ _ rfl _ _, hs1.below (by go_grown), B1.alloc B1.size _⟩ (fun V1 hV => ?_)
  clear hs1 B1
  generalize w1.heap.size = S1 at *
  clear w1
  obtain ⟨hb1, HS1, BB⟩ := hV
  have HI1 := Lib.hid HS1
  clear HS1
  go_wp2_with (refine wpList_load_box 30 (.tmp 1) rfl rfl S1 rfl 30 #[.int .i64 s7.places, .slice q1.wa q1.wl q1.wc, .int .i64 s7.pn, .int .i64 s7.pd, .slice q1.ea q1.el q1.ec, .slice q1.ca q1.cl q1.cc, .slice q1.ga q1.gl q1.gc, .int .i64 s7.allow, .int .i64 s7.unit, .int .i64 s7.cap, .int .i64 s7.paidBreak, .int .i64 s7.autoAfter, .int .i64 s7.autoBreak, .int .i64 s7.dayReg, .int .i64 s7.dayOver, .int .i64 s7.weekReg, .int .i64 s7.nightFrom, .int .i64 s7.nightTo, .slice q1.ra q1.rl q1.rc, .int .i64 s7.diff, .int .i64 s7.least, .int .i64 s7.fault, .slice q1.ta q1.tl q1.tc] hb1 setup_big ?_)
  refine (setup_Write s7 q1 V1 HI1.out).mono ?_
  rintro e2 w2 ⟨a, n, c, bs, er, rfl, hwr, hrow, hnc, k2⟩
  rw [hW] at hwr
  simp only [Prod.mk.injEq] at hwr
  obtain ⟨rfl, rfl⟩ := hwr
  have hn := hrow.1
  replace hb1 := box_keep k2 hb1 (block_lt hb1)
  replace HI1 := Lib.hid (HI1.out.below k2)
  replace BB := BB.trans (k2.mono BB.size)
  have HROW := Lib.hid hrow
  have HLT := Lib.hid (row_lt hrow (by omega))
  clear k2 V1 hrow hW
  go_wp2_with fail
  refine (setup_Read a n c mb w2 HROW.out (by omega) hnc HLT.out).mono ?_
  rintro e3 w3 ⟨t, q2, er2, rfl, hrd, hs2, k3⟩
  rw [hWW] at hrd
  simp only [Prod.mk.injEq] at hrd
  obtain ⟨rfl, rfl⟩ := hrd
  replace hb1 := box_keep k3 hb1 (block_lt hb1)
  replace HI1 := Lib.hid (HI1.out.below k3)
  replace HROW := Lib.hid (HROW.out.below k3)
  replace BB := BB.trans (k3.mono BB.size)
  clear k3 HLT hWW w2
  go_upto_region 4 with (refine wpList_store_new _ _ _ rfl 30 (.tmp 4) (.tmp 20) rfl #[.int .i64 s7.places, .slice q2.wa q2.wl q2.wc, .int .i64 s7.pn, .int .i64 s7.pd, .slice q2.ea q2.el q2.ec, .slice q2.ca q2.cl q2.cc, .slice q2.ga q2.gl q2.gc, .int .i64 s7.allow, .int .i64 s7.unit, .int .i64 s7.cap, .int .i64 s7.paidBreak, .int .i64 s7.autoAfter, .int .i64 s7.autoBreak, .int .i64 s7.dayReg, .int .i64 s7.dayOver, .int .i64 s7.weekReg, .int .i64 s7.nightFrom, .int .i64 s7.nightTo, .slice q2.ra q2.rl q2.rc, .int .i64 s7.diff, .int .i64 s7.least, .int .i64 s7.fault, .slice q2.ta q2.tl q2.tc] w3.heap.size rfl rfl rfl rfl setup_size (by kernel_rfl) ?_)
  refine gen_code (S := fun V => V.heap[w3.heap.size]? = some (.cells #[.int .i64 s7.places, .slice q2.wa q2.wl q2.wc, .int .i64 s7.pn, .int .i64 s7.pd, .slice q2.ea q2.el q2.ec, .slice q2.ca q2.cl q2.cc, .slice q2.ga q2.gl q2.gc, .int .i64 s7.allow, .int .i64 s7.unit, .int .i64 s7.cap, .int .i64 s7.paidBreak, .int .i64 s7.autoAfter, .int .i64 s7.autoBreak, .int .i64 s7.dayReg, .int .i64 s7.dayOver, .int .i64 s7.weekReg, .int .i64 s7.nightFrom, .int .i64 s7.nightTo, .slice q2.ra q2.rl q2.rc, .int .i64 s7.diff, .int .i64 s7.least, .int .i64 s7.fault, .slice q2.ta q2.tl q2.tc] 30) ∧ V.heap[S1]? = some (.cells #[.int .i64 s7.places, .slice q1.wa q1.wl q1.wc, .int .i64 s7.pn, .int .i64 s7.pd, .slice q1.ea q1.el q1.ec, .slice q1.ca q1.cl q1.cc, .slice q1.ga q1.gl q1.gc, .int .i64 s7.allow, .int .i64 s7.unit, .int .i64 s7.cap, .int .i64 s7.paidBreak, .int .i64 s7.autoAfter, .int .i64 s7.autoBreak, .int .i64 s7.dayReg, .int .i64 s7.dayOver, .int .i64 s7.weekReg, .int .i64 s7.nightFrom, .int .i64 s7.nightTo, .slice q1.ra q1.rl q1.rc, .int .i64 s7.diff, .int .i64 s7.least, .int .i64 s7.fault, .slice q1.ta q1.tl q1.tc] 30) ∧ SetupIs V s7 q1 ∧ SetupIs V s7 q2 ∧ Row8 V a n mb ∧ Below w.heap.size w V) ⟨box_new _ _ rfl _ _, box_keep (B := w3.heap.size) (by go_grown) hb1 (block_lt hb1), HI1.out.below (by go_grown), hs2.below (by go_grown), HROW.out.below (by go_grown), BB.alloc BB.size _⟩ (fun V3 hV => ?_)
  clear hb1 HI1 hs2 HROW BB
  generalize w3.heap.size = S2 at *
  clear w3
  obtain ⟨hb2, hb1, HS1, HS2, hrow, BB⟩ := hV
  have HI1 := Lib.hid HS1
  have HI2 := Lib.hid HS2
  have HROW := Lib.hid hrow
  have HB1 := Lib.hid hb1
  have HB2 := Lib.hid hb2
  clear HS1 HS2 hrow hb1 hb2
  go_wp2_with fail
  refine (law_least V3).mono ?_
  rintro e4 w4 ⟨q3, rfl, hs3, k4⟩
  replace HB1 := Lib.hid (box_keep k4 HB1.out (block_lt HB1.out))
  replace HB2 := Lib.hid (box_keep k4 HB2.out (block_lt HB2.out))
  replace HI1 := Lib.hid (HI1.out.below k4)
  replace HI2 := Lib.hid (HI2.out.below k4)
  replace HROW := Lib.hid (HROW.out.below k4)
  replace BB := BB.trans (k4.mono BB.size)
  clear k4 V3
  go_upto_region 5 with (refine wpList_store_new _ _ _ rfl 30 (.tmp 6) (.tmp 22) rfl #[.int .i64 s7.places, .slice q3.wa q3.wl q3.wc, .int .i64 s7.pn, .int .i64 s7.pd, .slice q3.ea q3.el q3.ec, .slice q3.ca q3.cl q3.cc, .slice q3.ga q3.gl q3.gc, .int .i64 s7.allow, .int .i64 s7.unit, .int .i64 s7.cap, .int .i64 s7.paidBreak, .int .i64 s7.autoAfter, .int .i64 s7.autoBreak, .int .i64 s7.dayReg, .int .i64 s7.dayOver, .int .i64 s7.weekReg, .int .i64 s7.nightFrom, .int .i64 s7.nightTo, .slice q3.ra q3.rl q3.rc, .int .i64 s7.diff, .int .i64 s7.least, .int .i64 s7.fault, .slice q3.ta q3.tl q3.tc] w4.heap.size rfl rfl rfl rfl setup_size (by kernel_rfl) ?_)
  refine gen_code (S := fun V => V.heap[w4.heap.size]? = some (.cells #[.int .i64 s7.places, .slice q3.wa q3.wl q3.wc, .int .i64 s7.pn, .int .i64 s7.pd, .slice q3.ea q3.el q3.ec, .slice q3.ca q3.cl q3.cc, .slice q3.ga q3.gl q3.gc, .int .i64 s7.allow, .int .i64 s7.unit, .int .i64 s7.cap, .int .i64 s7.paidBreak, .int .i64 s7.autoAfter, .int .i64 s7.autoBreak, .int .i64 s7.dayReg, .int .i64 s7.dayOver, .int .i64 s7.weekReg, .int .i64 s7.nightFrom, .int .i64 s7.nightTo, .slice q3.ra q3.rl q3.rc, .int .i64 s7.diff, .int .i64 s7.least, .int .i64 s7.fault, .slice q3.ta q3.tl q3.tc] 30) ∧ Below w4.heap.size w4 V) ⟨box_new _ _ rfl _ _, by go_grown⟩ (fun V4 hV => ?_)
  obtain ⟨hb3, k5⟩ := hV
  have f3 : V4.frozen? ⟨w4.heap.size, 9, none⟩ = false := by simp [World.frozen?, hb3]
  have g3 : V4.cell? ⟨w4.heap.size, 9, none⟩ = some (.int .i64 s7.cap) := by simp [World.cell?, hb3]
  have hb4 := heap_setCell (i := 9) hb3 (.int .i64 59)
  have hb5 : (V4.setCell ⟨w4.heap.size, 9, none⟩ (.int .i64 59)).heap[w4.heap.size]? = some (.cells #[.int .i64 s7w.places, .slice q3.wa q3.wl q3.wc, .int .i64 s7w.pn, .int .i64 s7w.pd, .slice q3.ea q3.el q3.ec, .slice q3.ca q3.cl q3.cc, .slice q3.ga q3.gl q3.gc, .int .i64 s7w.allow, .int .i64 s7w.unit, .int .i64 s7w.cap, .int .i64 s7w.paidBreak, .int .i64 s7w.autoAfter, .int .i64 s7w.autoBreak, .int .i64 s7w.dayReg, .int .i64 s7w.dayOver, .int .i64 s7w.weekReg, .int .i64 s7w.nightFrom, .int .i64 s7w.nightTo, .slice q3.ra q3.rl q3.rc, .int .i64 s7w.diff, .int .i64 s7w.least, .int .i64 s7w.fault, .slice q3.ta q3.tl q3.tc] 30) := hb4
  have k6 : Below w4.heap.size w4 (V4.setCell ⟨w4.heap.size, 9, none⟩ (.int .i64 59)) := Below.setCell (p := ⟨w4.heap.size, 9, none⟩) k5 (Nat.le_refl _) _
  have hs3w : SetupIs w4 s7w q3 := ⟨hs3.places, hs3.pn, hs3.pd, hs3.allow, hs3.unit, by decide, hs3.paidBreak, hs3.autoAfter, hs3.autoBreak, hs3.dayReg, hs3.dayOver, hs3.weekReg, hs3.nightFrom, hs3.nightTo, hs3.diff, hs3.least, hs3.fault, hs3.ways, hs3.elements, hs3.classes, hs3.gears, hs3.rates, hs3.tiers⟩
  have HB5 := Lib.hid hb5
  clear hb3 hb4 hb5 k5 hs3
  go_upto_region 6 with fail
  refine gen_code (S := fun V => V.heap[w4.heap.size]? = some (.cells #[.int .i64 s7w.places, .slice q3.wa q3.wl q3.wc, .int .i64 s7w.pn, .int .i64 s7w.pd, .slice q3.ea q3.el q3.ec, .slice q3.ca q3.cl q3.cc, .slice q3.ga q3.gl q3.gc, .int .i64 s7w.allow, .int .i64 s7w.unit, .int .i64 s7w.cap, .int .i64 s7w.paidBreak, .int .i64 s7w.autoAfter, .int .i64 s7w.autoBreak, .int .i64 s7w.dayReg, .int .i64 s7w.dayOver, .int .i64 s7w.weekReg, .int .i64 s7w.nightFrom, .int .i64 s7w.nightTo, .slice q3.ra q3.rl q3.rc, .int .i64 s7w.diff, .int .i64 s7w.least, .int .i64 s7w.fault, .slice q3.ta q3.tl q3.tc] 30) ∧ V.heap[S1]? = some (.cells #[.int .i64 s7.places, .slice q1.wa q1.wl q1.wc, .int .i64 s7.pn, .int .i64 s7.pd, .slice q1.ea q1.el q1.ec, .slice q1.ca q1.cl q1.cc, .slice q1.ga q1.gl q1.gc, .int .i64 s7.allow, .int .i64 s7.unit, .int .i64 s7.cap, .int .i64 s7.paidBreak, .int .i64 s7.autoAfter, .int .i64 s7.autoBreak, .int .i64 s7.dayReg, .int .i64 s7.dayOver, .int .i64 s7.weekReg, .int .i64 s7.nightFrom, .int .i64 s7.nightTo, .slice q1.ra q1.rl q1.rc, .int .i64 s7.diff, .int .i64 s7.least, .int .i64 s7.fault, .slice q1.ta q1.tl q1.tc] 30) ∧ V.heap[S2]? = some (.cells #[.int .i64 s7.places, .slice q2.wa q2.wl q2.wc, .int .i64 s7.pn, .int .i64 s7.pd, .slice q2.ea q2.el q2.ec, .slice q2.ca q2.cl q2.cc, .slice q2.ga q2.gl q2.gc, .int .i64 s7.allow, .int .i64 s7.unit, .int .i64 s7.cap, .int .i64 s7.paidBreak, .int .i64 s7.autoAfter, .int .i64 s7.autoBreak, .int .i64 s7.dayReg, .int .i64 s7.dayOver, .int .i64 s7.weekReg, .int .i64 s7.nightFrom, .int .i64 s7.nightTo, .slice q2.ra q2.rl q2.rc, .int .i64 s7.diff, .int .i64 s7.least, .int .i64 s7.fault, .slice q2.ta q2.tl q2.tc] 30) ∧ SetupIs V s7 q1 ∧ SetupIs V s7 q2 ∧ SetupIs V s7w q3 ∧ Row8 V a n mb ∧ Below w.heap.size w V) ⟨HB5.out, box_keep k6 HB1.out (block_lt HB1.out), box_keep k6 HB2.out (block_lt HB2.out), HI1.out.below k6, HI2.out.below k6, hs3w.below k6, HROW.out.below k6, BB.trans (k6.mono BB.size)⟩ (fun V5 hV => ?_)
  clear HB1 HB2 HI1 HI2 hs3w HROW BB k6 HB5 f3 g3 V4
  generalize w4.heap.size = S3 at *
  clear w4
  obtain ⟨hb3, hb1, hb2, HS1, HS2, HS3, hrow, BB⟩ := hV
  have HI1 := Lib.hid HS1
  have HI2 := Lib.hid HS2
  have HI3 := Lib.hid HS3
  have HROW := Lib.hid hrow
  have HB1 := Lib.hid hb1
  have HB2 := Lib.hid hb2
  clear HS1 HS2 HS3 hrow hb1 hb2
  go_wp2_with (refine wpList_load_box 30 (.tmp 6) rfl rfl S3 rfl 30 #[.int .i64 s7w.places, .slice q3.wa q3.wl q3.wc, .int .i64 s7w.pn, .int .i64 s7w.pd, .slice q3.ea q3.el q3.ec, .slice q3.ca q3.cl q3.cc, .slice q3.ga q3.gl q3.gc, .int .i64 s7w.allow, .int .i64 s7w.unit, .int .i64 s7w.cap, .int .i64 s7w.paidBreak, .int .i64 s7w.autoAfter, .int .i64 s7w.autoBreak, .int .i64 s7w.dayReg, .int .i64 s7w.dayOver, .int .i64 s7w.weekReg, .int .i64 s7w.nightFrom, .int .i64 s7w.nightTo, .slice q3.ra q3.rl q3.rc, .int .i64 s7w.diff, .int .i64 s7w.least, .int .i64 s7w.fault, .slice q3.ta q3.tl q3.tc] hb3 setup_big ?_)
  refine (setup_Write s7w q3 V5 HI3.out).mono ?_
  rintro e5 w5 ⟨a5, n5, c5, bs5, er5, rfl, hwr, -, -, k7⟩
  rw [writeP_no s7w_no] at hwr
  simp only [Prod.mk.injEq] at hwr
  obtain ⟨rfl, rfl⟩ := hwr
  replace HB1 := Lib.hid (box_keep k7 HB1.out (block_lt HB1.out))
  replace HB2 := Lib.hid (box_keep k7 HB2.out (block_lt HB2.out))
  have HB3 := Lib.hid (box_keep k7 hb3 (block_lt hb3))
  replace HI1 := Lib.hid (HI1.out.below k7)
  replace HI2 := Lib.hid (HI2.out.below k7)
  replace HI3 := Lib.hid (HI3.out.below k7)
  replace HROW := Lib.hid (HROW.out.below k7)
  replace BB := BB.trans (k7.mono BB.size)
  clear k7 V5 hb3
  go_wp2_with fail
  refine (setup_Read none 0 0 [] w5 (Row8_nil _) (by omega) (by omega) (fun b o h => by cases h)).mono ?_
  rintro e6 w6 ⟨t6, q6, er6, rfl, hrd, -, k8⟩
  rw [read_nil] at hrd
  simp only [Prod.mk.injEq] at hrd
  obtain ⟨rfl, rfl⟩ := hrd
  replace HB1 := Lib.hid (box_keep k8 HB1.out (block_lt HB1.out))
  replace HB2 := Lib.hid (box_keep k8 HB2.out (block_lt HB2.out))
  replace HB3 := Lib.hid (box_keep k8 HB3.out (block_lt HB3.out))
  replace HI1 := Lib.hid (HI1.out.below k8)
  replace HI2 := Lib.hid (HI2.out.below k8)
  replace HI3 := Lib.hid (HI3.out.below k8)
  replace HROW := Lib.hid (HROW.out.below k8)
  replace BB := BB.trans (k8.mono BB.size)
  clear k8 w5
  go_upto_region 8 with (refine wpList_store_new _ _ _ rfl 30 (.tmp 9) (.tmp 31) rfl #[.int .i64 noSetup.places, .slice q6.wa q6.wl q6.wc, .int .i64 noSetup.pn, .int .i64 noSetup.pd, .slice q6.ea q6.el q6.ec, .slice q6.ca q6.cl q6.cc, .slice q6.ga q6.gl q6.gc, .int .i64 noSetup.allow, .int .i64 noSetup.unit, .int .i64 noSetup.cap, .int .i64 noSetup.paidBreak, .int .i64 noSetup.autoAfter, .int .i64 noSetup.autoBreak, .int .i64 noSetup.dayReg, .int .i64 noSetup.dayOver, .int .i64 noSetup.weekReg, .int .i64 noSetup.nightFrom, .int .i64 noSetup.nightTo, .slice q6.ra q6.rl q6.rc, .int .i64 noSetup.diff, .int .i64 noSetup.least, .int .i64 noSetup.fault, .slice q6.ta q6.tl q6.tc] w6.heap.size rfl rfl rfl rfl setup_size (by kernel_rfl) ?_)
  refine gen_code (S := fun V => V.heap[S1]? = some (.cells #[.int .i64 s7.places, .slice q1.wa q1.wl q1.wc, .int .i64 s7.pn, .int .i64 s7.pd, .slice q1.ea q1.el q1.ec, .slice q1.ca q1.cl q1.cc, .slice q1.ga q1.gl q1.gc, .int .i64 s7.allow, .int .i64 s7.unit, .int .i64 s7.cap, .int .i64 s7.paidBreak, .int .i64 s7.autoAfter, .int .i64 s7.autoBreak, .int .i64 s7.dayReg, .int .i64 s7.dayOver, .int .i64 s7.weekReg, .int .i64 s7.nightFrom, .int .i64 s7.nightTo, .slice q1.ra q1.rl q1.rc, .int .i64 s7.diff, .int .i64 s7.least, .int .i64 s7.fault, .slice q1.ta q1.tl q1.tc] 30) ∧ V.heap[S2]? = some (.cells #[.int .i64 s7.places, .slice q2.wa q2.wl q2.wc, .int .i64 s7.pn, .int .i64 s7.pd, .slice q2.ea q2.el q2.ec, .slice q2.ca q2.cl q2.cc, .slice q2.ga q2.gl q2.gc, .int .i64 s7.allow, .int .i64 s7.unit, .int .i64 s7.cap, .int .i64 s7.paidBreak, .int .i64 s7.autoAfter, .int .i64 s7.autoBreak, .int .i64 s7.dayReg, .int .i64 s7.dayOver, .int .i64 s7.weekReg, .int .i64 s7.nightFrom, .int .i64 s7.nightTo, .slice q2.ra q2.rl q2.rc, .int .i64 s7.diff, .int .i64 s7.least, .int .i64 s7.fault, .slice q2.ta q2.tl q2.tc] 30) ∧ V.heap[S3]? = some (.cells #[.int .i64 s7w.places, .slice q3.wa q3.wl q3.wc, .int .i64 s7w.pn, .int .i64 s7w.pd, .slice q3.ea q3.el q3.ec, .slice q3.ca q3.cl q3.cc, .slice q3.ga q3.gl q3.gc, .int .i64 s7w.allow, .int .i64 s7w.unit, .int .i64 s7w.cap, .int .i64 s7w.paidBreak, .int .i64 s7w.autoAfter, .int .i64 s7w.autoBreak, .int .i64 s7w.dayReg, .int .i64 s7w.dayOver, .int .i64 s7w.weekReg, .int .i64 s7w.nightFrom, .int .i64 s7w.nightTo, .slice q3.ra q3.rl q3.rc, .int .i64 s7w.diff, .int .i64 s7w.least, .int .i64 s7w.fault, .slice q3.ta q3.tl q3.tc] 30) ∧ SetupIs V s7 q1 ∧ SetupIs V s7 q2 ∧ SetupIs V s7w q3 ∧ Row8 V a n mb ∧ Below w.heap.size w V) ⟨box_keep (B := w6.heap.size) (by go_grown) HB1.out (block_lt HB1.out), box_keep (B := w6.heap.size) (by go_grown) HB2.out (block_lt HB2.out), box_keep (B := w6.heap.size) (by go_grown) HB3.out (block_lt HB3.out), HI1.out.below (by go_grown), HI2.out.below (by go_grown), HI3.out.below (by go_grown), HROW.out.below (by go_grown), BB.alloc BB.size _⟩ (fun V hV => ?_)
  clear HB1 HB2 HB3 HI1 HI2 HI3 HROW BB
  obtain ⟨hb1, hb2, hb3, HS1, HS2, HS3, hrow, BB⟩ := hV
  have hw1 : q2.wl = 1 := HS2.ways.1.symm
  obtain ⟨wb, wo, hwa, _, hwc⟩ := HS2.ways.2.2.2.resolve_left (by omega)
  have hc2 := (hwc 0 (by omega)).2.2
  have g2 : V.cell? ⟨S2, 1, none⟩ = some (.slice q2.wa q2.wl q2.wc) := by simp [World.cell?, hb2]
  rw [hwa, hw1] at g2
  have g4 : V.cell? ⟨wb, wo + 2, none⟩ = some (.int .i64 300) := by
    rw [Nat.zero_mul, Nat.add_zero] at hc2
    exact hc2
  have hcv := conv_row (row_take hrow 9 (by omega)) c
  rw [HT9.out] at hcv
  have e9 : strOfNums [1, 3, 1, 1, 0, 1, 2, 2, 1] = ⟨#[1, 3, 1, 1, 0, 1, 2, 2, 1]⟩ := rfl
  rw [e9] at hcv
  have y10 : decide ((n : Int) < 10) = false := by rw [decide_eq_false_iff_not]; omega
  have y9 : (9 : Int) ≤ (c : Int) := by omega
  have y9' : 9 ≤ c := by omega
  have HI1 := Lib.hid HS1
  have HI3 := Lib.hid HS3
  have HB3 := Lib.hid hb3
  clear hw1 hwa hwc hc2 hb2 HS1 HS2 HS3 hb3 hrow HT9 e9
  go_wp2_with (refine wpList_load_box 30 (.tmp 1) rfl rfl S1 rfl 30 #[.int .i64 s7.places, .slice q1.wa q1.wl q1.wc, .int .i64 s7.pn, .int .i64 s7.pd, .slice q1.ea q1.el q1.ec, .slice q1.ca q1.cl q1.cc, .slice q1.ga q1.gl q1.gc, .int .i64 s7.allow, .int .i64 s7.unit, .int .i64 s7.cap, .int .i64 s7.paidBreak, .int .i64 s7.autoAfter, .int .i64 s7.autoBreak, .int .i64 s7.dayReg, .int .i64 s7.dayOver, .int .i64 s7.weekReg, .int .i64 s7.nightFrom, .int .i64 s7.nightTo, .slice q1.ra q1.rl q1.rc, .int .i64 s7.diff, .int .i64 s7.least, .int .i64 s7.fault, .slice q1.ta q1.tl q1.tc] hb1 setup_big ?_)
  refine (setup_Check s7 q1 true V HI1.out s7_may).mono ?_
  rintro e7 w7 ⟨rfl, k9⟩
  replace hb3 := box_keep k9 HB3.out (block_lt HB3.out)
  have BB2 := BB.trans (k9.mono BB.size)
  have HI4 := Lib.hid (HI3.out.below k9)
  clear k9 BB hb1 g2 g4 hcv
  go_wp2_with (refine wpList_load_box 30 (.tmp 6) rfl rfl S3 rfl 30 #[.int .i64 s7w.places, .slice q3.wa q3.wl q3.wc, .int .i64 s7w.pn, .int .i64 s7w.pd, .slice q3.ea q3.el q3.ec, .slice q3.ca q3.cl q3.cc, .slice q3.ga q3.gl q3.gc, .int .i64 s7w.allow, .int .i64 s7w.unit, .int .i64 s7w.cap, .int .i64 s7w.paidBreak, .int .i64 s7w.autoAfter, .int .i64 s7w.autoBreak, .int .i64 s7w.dayReg, .int .i64 s7w.dayOver, .int .i64 s7w.weekReg, .int .i64 s7w.nightFrom, .int .i64 s7w.nightTo, .slice q3.ra q3.rl q3.rc, .int .i64 s7w.diff, .int .i64 s7w.least, .int .i64 s7w.fault, .slice q3.ta q3.tl q3.tc] hb3 setup_big ?_)
  refine (setup_Check s7w q3 false w7 HI4.out s7w_no).mono ?_
  rintro e8 w8 ⟨rfl, k10⟩
  go_wp2_with fail
  go_ret
  exact ⟨rfl, BB2.trans (k10.mono BB2.size)⟩
end Go.Proofs.Ytnjckaifgmliaaa
