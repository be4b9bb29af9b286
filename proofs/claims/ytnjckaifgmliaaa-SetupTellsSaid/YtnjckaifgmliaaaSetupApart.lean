/- THE WALK of SetupApart: unlike setups have unlike bytes, none of which is a beginning of the other's. -/
import Derived.Test.YtnjckaifgmliaaaSetupCheck
import Derived.Test.YtnjckaifgmliaaaBlocks
import Derived.Test.YtnjckaifgmliaaaRead
import Derived.Laws.BytesArg
import Derived.Test.YtnjckaifgmliaaaRef07N
import Derived.Deep.QuietTactic
import Derived.BigQuiet
import Derived.Deep.LoopGhost
set_option linter.unusedSimpArgs false
set_option linter.unusedVariables false
-- (MERGED of several texts)

/- THE EMPTY SETUP, and lists that are none. -/

namespace Go.Proofs.Ytnjckaifgmliaaa
open Go.RowKit Lu

def sE : Setup := ⟨0, [], 0, 0, [], [], [], 0, 0, 0, 0, 0, 0, 0, 0, 0, 0, 0, [], 0, 0, 0, []⟩
def qE : Slices := ⟨none, 0, 0, none, 0, 0, none, 0, 0, none, 0, 0, none, 0, 0, none, 0, 0⟩
theorem Recs3_none (w : World) : Recs3 w none 0 [] := ⟨rfl, by decide, by simp, .inl rfl⟩
theorem Recs4_none (w : World) : Recs4 w none 0 [] := ⟨rfl, by decide, by simp, .inl rfl⟩
theorem Ratios_none (w : World) : Ratios w none 0 [] := ⟨rfl, by decide, by simp, .inl rfl⟩
theorem Ints_none (w : World) : Ints w none 0 [] := ⟨rfl, by decide, by simp, .inl rfl⟩
theorem setupIs_E (w : World) : SetupIs w sE qE :=
  ⟨by decide, by decide, by decide, by decide, by decide, by decide, by decide, by decide, by decide, by decide, by decide, by decide, by decide, by decide, by decide, by decide, by decide, Recs3_none w, Recs4_none w, Ratios_none w, Ratios_none w, Ints_none w, Ratios_none w⟩
end Go.Proofs.Ytnjckaifgmliaaa

/- THE HEAD OF THE STATEMENTS of layer 7: 'awake' returns true. -/

namespace Go.Proofs.Ytnjckaifgmliaaa
open Go.RowKit Lu

theorem results_cell1 {fn : Func} {a : Tmp} {t : TypeId} (h : fn.results = #[.cell a t]) (tmps : Array Value) (P : Program) (w : World) (p : Addr) (v : Value) (hp : tmps.getD a undef = .pointer (some p)) (hl : (loadVar t p).run P w = .ok v w) :
    (results fn tmps).run P w = .ok v w := by
  have hp' : tmps[a]?.getD undef = .pointer (some p) := by simpa using hp
  simp [results, h, hp', asAddr, hl]
def s7 : Setup := ⟨3, [(0, 2, 300)], 1, 2, [], [], [], 0, 900, 36000, 0, 0, 0, 0, 0, 0, 0, 0, [1500], 0, 0, 0, []⟩
def s7w : Setup := ⟨3, [(0, 2, 300)], 1, 2, [], [], [], 0, 900, 59, 0, 0, 0, 0, 0, 0, 0, 0, [1500], 0, 0, 0, []⟩
theorem s7_may : setupP s7 = true := by decide +kernel
theorem s7w_no : setupP s7w = false := by decide +kernel
theorem one_small {n : Nat} (h0 : n ≠ 0) (h : n < 256) : oneP (n : Int) = [1, (n : Int)] := by
  unfold oneP
  rw [Int.toNat_natCast, digN_step h0, show n / 256 = 0 by omega, digN_zero, show n % 256 = n by omega]
  rfl
theorem one_300 : oneP 300 = [2, 1, 44] := by
  unfold oneP
  rw [show (300 : Int).toNat = 300 from rfl, digN_step (by decide), digN_step (by decide), show 300 / 256 / 256 = 0 from rfl, digN_zero]
  rfl
theorem s7_bytes : ∃ r, manyP (numbersP s7) = 1 :: 3 :: 1 :: 1 :: 0 :: 1 :: 2 :: 2 :: 1 :: 44 :: r := by
  have e : numbersP s7 = 3 :: 1 :: 0 :: 2 :: 300 :: [1, 2, 0, 0, 0, 0, 900, 36000, 0, 0, 0, 0, 0, 0, 0, 0, 1, 1500, 0, 0, 0, 0] := by decide +kernel
  have o3 : oneP 3 = [1, 3] := one_small (n := 3) (by decide) (by decide)
  have o1 : oneP 1 = [1, 1] := one_small (n := 1) (by decide) (by decide)
  have o2 : oneP 2 = [1, 2] := one_small (n := 2) (by decide) (by decide)
  have o0 : oneP 0 = [0] := by unfold oneP; rw [show (0 : Int).toNat = 0 from rfl, digN_zero]; rfl
  rw [e, manyP_cons, manyP_cons, manyP_cons, manyP_cons, manyP_cons, o3, o1, o0, o2, one_300]
  exact ⟨_, rfl⟩
theorem read_nil : readP [] = (noSetup, 70) := by
  refine readP_no (fun c h => by simp at h) fun s h => ?_
  have := manyP_zero h.2.symm
  unfold numbersP at this
  simp at this
theorem row_take {w : World} {a : Option Addr} {n : Nat} {bs : List Int} (h : Row8 w a n bs) (k : Nat) (hk : k ≤ n) : Row8 w a k (bs.take k) := by
  refine ⟨by rw [List.length_take, h.1]; omega, by have := h.2.1; omega, fun c hc => h.2.2.1 c (List.mem_of_mem_take hc), ?_, fun ha => by have := h.2.2.2.2 ha; omega⟩
  rcases h.2.2.2.1 with h0 | ⟨b, off, ha, hc⟩
  · left
    have : bs = [] := by simpa using h0
    rw [this]; simp
  · refine .inr ⟨b, off, ha, fun i u hu => hc i u ?_⟩
    rw [List.getElem?_map, List.getElem?_take] at hu
    rw [List.getElem?_map]
    split at hu
    · exact hu
    · simp at hu
/-- A text of bytes. -/
theorem conv_row {w : World} {a : Option Addr} {n : Nat} {bs : List Int} (h : Row8 w a n bs) (c : Nat) : (convert 31 9 (.slice a n c)).run Try.prog w = .ok (.string (strOfNums bs)) w := by
  cases a with
  | none =>
    have h0 := h.2.2.2.2 rfl
    have hb : bs = [] := List.eq_nil_of_length_eq_zero (h.1.trans h0)
    rw [hb]
    exact run_convert_bytes_nil w 31 5 Try.underlying31 Try.underlying5 n c 9 Try.underlying9
  | some ad =>
    by_cases h0 : n = 0
    · have hb : bs = [] := List.eq_nil_of_length_eq_zero (h.1.trans h0)
      subst h0 hb
      rw [run_convert_bytes_string w 31 9 5 _ 0 c Try.underlying31 Try.underlying5 Try.underlying9, run_bytesToString w ad 0 c [] (by simp [loadCells, loadCellsFrom])]
      rfl
    · obtain ⟨b, off, ha, hc⟩ : ∃ b off, some ad = some ⟨b, off, none⟩ ∧ ∀ i u, (bs.map (Value.int .u8))[i]? = some u → w.cell? ⟨b, off + i, none⟩ = some u := by
        rcases h.2.2.2.1 with h1 | h1
        · exfalso
          have : bs = [] := by simpa using h1
          rw [this] at h
          exact h0 h.1.symm
        · exact h1
      simp only [Option.some.injEq] at ha
      subst ha
      refine run_convert_bytes_arg w 31 5 Try.underlying31 Try.underlying5 b off n c bs h.1 (fun i hi => hc i _ ?_) 9 Try.underlying9
      have hl : i < bs.length := by rw [h.1]; exact hi
      rw [List.getElem?_map, List.getElem?_eq_getElem hl, List.getD_eq_getElem?_getD, List.getElem?_eq_getElem hl]
      rfl
def LeastSays (w : World) (e : Ending) (w' : World) : Prop :=
  ∃ q : Slices, e = .returned (.agg #[.int .i64 s7.places, .slice q.wa q.wl q.wc, .int .i64 s7.pn, .int .i64 s7.pd, .slice q.ea q.el q.ec, .slice q.ca q.cl q.cc, .slice q.ga q.gl q.gc, .int .i64 s7.allow, .int .i64 s7.unit, .int .i64 s7.cap, .int .i64 s7.paidBreak, .int .i64 s7.autoAfter, .int .i64 s7.autoBreak, .int .i64 s7.dayReg, .int .i64 s7.dayOver, .int .i64 s7.weekReg, .int .i64 s7.nightFrom, .int .i64 s7.nightTo, .slice q.ra q.rl q.rc, .int .i64 s7.diff, .int .i64 s7.least, .int .i64 s7.fault, .slice q.ta q.tl q.tc]) ∧ SetupIs w' s7 q ∧ Below w.heap.size w w'
theorem recs3_none (w : World) : Recs3 w none 0 [] := ⟨rfl, by decide, by simp, .inl rfl⟩
theorem recs4_none (w : World) : Recs4 w none 0 [] := ⟨rfl, by decide, by simp, .inl rfl⟩
theorem ratios_none (w : World) : Ratios w none 0 [] := ⟨rfl, by decide, by simp, .inl rfl⟩
theorem setupIs_7 (w : World) (A B : Nat) (hA : A < w.heap.size) (h0 : w.cell? ⟨A, 0, none⟩ = some (.int .i64 0)) (h1 : w.cell? ⟨A, 1, none⟩ = some (.int .i64 2)) (h2 : w.cell? ⟨A, 2, none⟩ = some (.int .i64 300)) (h3 : w.cell? ⟨B, 0, none⟩ = some (.int .i64 1500)) :
    SetupIs w s7 ⟨some ⟨A, 0, none⟩, 1, 1, none, 0, 0, none, 0, 0, none, 0, 0, some ⟨B, 0, none⟩, 1, 1, none, 0, 0⟩ := by
  refine ⟨by decide, by decide, by decide, by decide, by decide, by decide, by decide, by decide, by decide, by decide, by decide, by decide, by decide, by decide, by decide, by decide, by decide, ?_, recs4_none w, ratios_none w, ratios_none w, ?_, ratios_none w⟩
  · show Recs3 w (some ⟨A, 0, none⟩) 1 [(0, 2, 300)]
    refine ⟨rfl, by decide, by simp [In], .inr ⟨A, 0, rfl, hA, fun i hi => ?_⟩⟩
    obtain rfl : i = 0 := by omega
    exact ⟨h0, h1, h2⟩
  · show Ints w (some ⟨B, 0, none⟩) 1 [1500]
    refine ⟨rfl, by decide, by simp [In], .inr ⟨B, 0, rfl, fun i hi => ?_⟩⟩
    obtain rfl : i = 0 := by omega
    exact h3
set_option maxRecDepth 100000 in
set_option maxHeartbeats 1000000 in
theorem law_least (w : World) : Calls Try.prog 33 #[] w (LeastSays w) := by
  have hb : (((w.alloc (.cells #[.int .i64 0, .slice none 0 0, .int .i64 0, .int .i64 0, .slice none 0 0, .slice none 0 0, .slice none 0 0, .int .i64 0, .int .i64 0, .int .i64 0, .int .i64 0, .int .i64 0, .int .i64 0, .int .i64 0, .int .i64 0, .int .i64 0, .int .i64 0, .int .i64 0, .slice none 0 0, .int .i64 0, .int .i64 0, .int .i64 0, .slice none 0 0] 30)).alloc (.cells #[.int .i64 0, .int .i64 2, .int .i64 300] 58)).alloc (.cells #[.int .i64 1500] 3)).heap[w.heap.size]? = some (.cells #[.int .i64 0, .slice none 0 0, .int .i64 0, .int .i64 0, .slice none 0 0, .slice none 0 0, .slice none 0 0, .int .i64 0, .int .i64 0, .int .i64 0, .int .i64 0, .int .i64 0, .int .i64 0, .int .i64 0, .int .i64 0, .int .i64 0, .int .i64 0, .int .i64 0, .slice none 0 0, .int .i64 0, .int .i64 0, .int .i64 0, .slice none 0 0] 30) := box_keep (w := w.alloc (.cells #[.int .i64 0, .slice none 0 0, .int .i64 0, .int .i64 0, .slice none 0 0, .slice none 0 0, .slice none 0 0, .int .i64 0, .int .i64 0, .int .i64 0, .int .i64 0, .int .i64 0, .int .i64 0, .int .i64 0, .int .i64 0, .int .i64 0, .int .i64 0, .int .i64 0, .slice none 0 0, .int .i64 0, .int .i64 0, .int .i64 0, .slice none 0 0] 30)) (B := w.heap.size + 1) (((Below.refl _ _).alloc (by simp) _).alloc (by simp) _) (box_new w _ rfl _ _) (by omega)
  have c0 : (((w.alloc (.cells #[.int .i64 0, .slice none 0 0, .int .i64 0, .int .i64 0, .slice none 0 0, .slice none 0 0, .slice none 0 0, .int .i64 0, .int .i64 0, .int .i64 0, .int .i64 0, .int .i64 0, .int .i64 0, .int .i64 0, .int .i64 0, .int .i64 0, .int .i64 0, .int .i64 0, .slice none 0 0, .int .i64 0, .int .i64 0, .int .i64 0, .slice none 0 0] 30)).alloc (.cells #[.int .i64 0, .int .i64 2, .int .i64 300] 58)).alloc (.cells #[.int .i64 1500] 3)).cell? ⟨w.heap.size + 1, 0, none⟩ = some (.int .i64 0) := by simp [go_sem]
  have c1 : (((w.alloc (.cells #[.int .i64 0, .slice none 0 0, .int .i64 0, .int .i64 0, .slice none 0 0, .slice none 0 0, .slice none 0 0, .int .i64 0, .int .i64 0, .int .i64 0, .int .i64 0, .int .i64 0, .int .i64 0, .int .i64 0, .int .i64 0, .int .i64 0, .int .i64 0, .int .i64 0, .slice none 0 0, .int .i64 0, .int .i64 0, .int .i64 0, .slice none 0 0] 30)).alloc (.cells #[.int .i64 0, .int .i64 2, .int .i64 300] 58)).alloc (.cells #[.int .i64 1500] 3)).cell? ⟨w.heap.size + 1, 1, none⟩ = some (.int .i64 2) := by simp [go_sem]
  have c2 : (((w.alloc (.cells #[.int .i64 0, .slice none 0 0, .int .i64 0, .int .i64 0, .slice none 0 0, .slice none 0 0, .slice none 0 0, .int .i64 0, .int .i64 0, .int .i64 0, .int .i64 0, .int .i64 0, .int .i64 0, .int .i64 0, .int .i64 0, .int .i64 0, .int .i64 0, .int .i64 0, .slice none 0 0, .int .i64 0, .int .i64 0, .int .i64 0, .slice none 0 0] 30)).alloc (.cells #[.int .i64 0, .int .i64 2, .int .i64 300] 58)).alloc (.cells #[.int .i64 1500] 3)).cell? ⟨w.heap.size + 1, 2, none⟩ = some (.int .i64 300) := by simp [go_sem]
  have c3 : (((w.alloc (.cells #[.int .i64 0, .slice none 0 0, .int .i64 0, .int .i64 0, .slice none 0 0, .slice none 0 0, .slice none 0 0, .int .i64 0, .int .i64 0, .int .i64 0, .int .i64 0, .int .i64 0, .int .i64 0, .int .i64 0, .int .i64 0, .int .i64 0, .int .i64 0, .int .i64 0, .slice none 0 0, .int .i64 0, .int .i64 0, .int .i64 0, .slice none 0 0] 30)).alloc (.cells #[.int .i64 0, .int .i64 2, .int .i64 300] 58)).alloc (.cells #[.int .i64 1500] 3)).cell? ⟨w.heap.size + 1 + 1, 0, none⟩ = some (.int .i64 1500) := by simp [go_sem]
  have B0 : Below w.heap.size w (((w.alloc (.cells #[.int .i64 0, .slice none 0 0, .int .i64 0, .int .i64 0, .slice none 0 0, .slice none 0 0, .slice none 0 0, .int .i64 0, .int .i64 0, .int .i64 0, .int .i64 0, .int .i64 0, .int .i64 0, .int .i64 0, .int .i64 0, .int .i64 0, .int .i64 0, .int .i64 0, .slice none 0 0, .int .i64 0, .int .i64 0, .int .i64 0, .slice none 0 0] 30)).alloc (.cells #[.int .i64 0, .int .i64 2, .int .i64 300] 58)).alloc (.cells #[.int .i64 1500] 3)) := by go_grown
  have C := Lib.hid (And.intro c0 (And.intro c1 (And.intro c2 c3)))
  have HB := Lib.hid hb
  clear c0 c1 c2 c3 hb
  go_enter Try.func33, Try.ntmps33
  go_wp2_with ((refine wpList_store_block rfl 30 (.tmp 0) (.tmp 5) rfl w.heap.size _ #[.int .i64 3, .slice (some ⟨w.heap.size + 1, 0, none⟩) 1 1, .int .i64 1, .int .i64 2, .slice none 0 0, .slice none 0 0, .slice none 0 0, .int .i64 0, .int .i64 900, .int .i64 36000, .int .i64 0, .int .i64 0, .int .i64 0, .int .i64 0, .int .i64 0, .int .i64 0, .int .i64 0, .int .i64 0, .slice (some ⟨w.heap.size + 1 + 1, 0, none⟩) 1 1, .int .i64 0, .int .i64 0, .int .i64 0, .slice none 0 0] _ HB.out rfl rfl rfl setup_size (by kernel_rfl) ?_; intro W oW sW))
  refine bodyPost_ret (v := .agg #[.int .i64 3, .slice (some ⟨w.heap.size + 1, 0, none⟩) 1 1, .int .i64 1, .int .i64 2, .slice none 0 0, .slice none 0 0, .slice none 0 0, .int .i64 0, .int .i64 900, .int .i64 36000, .int .i64 0, .int .i64 0, .int .i64 0, .int .i64 0, .int .i64 0, .int .i64 0, .int .i64 0, .int .i64 0, .slice (some ⟨w.heap.size + 1 + 1, 0, none⟩) 1 1, .int .i64 0, .int .i64 0, .int .i64 0, .slice none 0 0]) (results_cell1 Try.results33 _ _ _ _ _ rfl (load_setup sW rfl)) rfl ?_
  obtain ⟨c0, c1, c2, c3⟩ := C.out
  refine ⟨⟨some ⟨w.heap.size + 1, 0, none⟩, 1, 1, none, 0, 0, none, 0, 0, none, 0, 0, some ⟨w.heap.size + 1 + 1, 0, none⟩, 1, 1, none, 0, 0⟩, rfl, ?_, B0.trans (oW.below (Nat.le_refl _) B0.size)⟩
  have hsz := oW.size
  simp only [World.size_alloc] at hsz
  exact setupIs_7 W _ _ (by omega) (oW.cell c0 (by simp)) (oW.cell c1 (by simp)) (oW.cell c2 (by simp)) (oW.cell c3 (by simp only; omega))
theorem row_lt {w : World} {a : Option Addr} {n : Nat} {bs : List Int} (h : Row8 w a n bs) (hn : 0 < n) : ∀ b o, a = some ⟨b, o, none⟩ → b < w.heap.size := by
  intro b o ha
  rcases h.2.2.2.1 with h0 | ⟨b', off, hb, hc⟩
  · exfalso
    have : bs = [] := by simpa using h0
    rw [this] at h
    have := h.1
    simp at this
    omega
  · rw [ha] at hb
    simp only [Option.some.injEq, Addr.mk.injEq, and_true] at hb
    obtain ⟨rfl, rfl⟩ := hb
    have hl : 0 < bs.length := by rw [h.1]; exact hn
    exact World.block_lt_of_cell? w _ (hc 0 _ (by rw [List.getElem?_map, List.getElem?_eq_getElem hl]; rfl))
theorem setup_bytes_le {s : Setup} (h : setupP s = true) : (manyP (numbersP s)).length ≤ 3600 := by
  have h1 := manyP_len (setup_pk h)
  have h2 := numbersP_len h
  omega
set_option maxRecDepth 100000 in
set_option maxHeartbeats 4000000 in
theorem awake7 (w : World) : Calls Try.prog 13 #[] w fun e w' => e = .returned (.bool true) ∧ Below w.heap.size w w' := by
  obtain ⟨rest, hbytes⟩ := s7_bytes
  have hlen := setup_bytes_le s7_may
  have hl10 : 10 ≤ (manyP (numbersP s7)).length := by rw [hbytes]; simp only [List.length_cons]; omega
  have ht9 : (manyP (numbersP s7)).take 9 = [1, 3, 1, 1, 0, 1, 2, 2, 1] := by rw [hbytes]; rfl
  have HT9 := Lib.hid ht9
  have hW := writeP_yes s7_may
  have hWW := write_read s7_may
  generalize manyP (numbersP s7) = mb at *
  clear hbytes ht9
  go_enter Try.func13, Try.ntmps13
  go_wp2_with fail
  refine (law_least w).mono ?_
  rintro e1 w1 ⟨q1, rfl, hs1, B1⟩
  go_upto_region 2 with (refine wpList_store_new _ _ _ rfl 30 (.tmp 1) (.tmp 11) rfl #[.int .i64 s7.places, .slice q1.wa q1.wl q1.wc, .int .i64 s7.pn, .int .i64 s7.pd, .slice q1.ea q1.el q1.ec, .slice q1.ca q1.cl q1.cc, .slice q1.ga q1.gl q1.gc, .int .i64 s7.allow, .int .i64 s7.unit, .int .i64 s7.cap, .int .i64 s7.paidBreak, .int .i64 s7.autoAfter, .int .i64 s7.autoBreak, .int .i64 s7.dayReg, .int .i64 s7.dayOver, .int .i64 s7.weekReg, .int .i64 s7.nightFrom, .int .i64 s7.nightTo, .slice q1.ra q1.rl q1.rc, .int .i64 s7.diff, .int .i64 s7.least, .int .i64 s7.fault, .slice q1.ta q1.tl q1.tc] w1.heap.size rfl rfl rfl rfl setup_size (by kernel_rfl) ?_)
  refine gen_code (S := fun V => V.heap[w1.heap.size]? = some (.cells #[.int .i64 s7.places, .slice q1.wa q1.wl q1.wc, .int .i64 s7.pn, .int .i64 s7.pd, .slice q1.ea q1.el q1.ec, .slice q1.ca q1.cl q1.cc, .slice q1.ga q1.gl q1.gc, .int .i64 s7.allow, .int .i64 s7.unit, .int .i64 s7.cap, .int .i64 s7.paidBreak, .int .i64 s7.autoAfter, .int .i64 s7.autoBreak, .int .i64 s7.dayReg, .int .i64 s7.dayOver, .int .i64 s7.weekReg, .int .i64 s7.nightFrom, .int .i64 s7.nightTo, .slice q1.ra q1.rl q1.rc, .int .i64 s7.diff, .int .i64 s7.least, .int .i64 s7.fault, .slice q1.ta q1.tl q1.tc] 30) ∧ SetupIs V s7 q1 ∧ Below w.heap.size w V) ⟨box_new _ _ rfl _ _, hs1.below (by go_grown), B1.alloc B1.size _⟩ (fun V1 hV => ?_)
  clear hs1 B1
  generalize w1.heap.size = S1 at *
  clear w1
  obtain ⟨hb1, HS1, BB⟩ := hV
  have HI1 := Lib.hid HS1
  clear HS1
  go_wp2_with (refine wpList_load_box 30 (.tmp 1) rfl rfl S1 rfl 30 #[.int .i64 s7.places, .slice q1.wa q1.wl q1.wc, .int .i64 s7.pn, .int .i64 s7.pd, .slice q1.ea q1.el q1.ec, .slice q1.ca q1.cl q1.cc, .slice q1.ga q1.gl q1.gc, .int .i64 s7.allow, .int .i64 s7.unit, .int .i64 s7.cap, .int .i64 s7.paidBreak, .int .i64 s7.autoAfter, .int .i64 s7.autoBreak, .int .i64 s7.dayReg, .int .i64 s7.dayOver, .int .i64 s7.weekReg, .int .i64 s7.nightFrom, .int .i64 s7.nightTo, .slice q1.ra q1.rl q1.rc, .int .i64 s7.diff, .int .i64 s7.least, .int .i64 s7.fault, .slice q1.ta q1.tl q1.tc] hb1 setup_big ?_)
  refine (setup_Write s7 q1 V1 HI1.out).mono ?_
  rintro e2 w2 ⟨a, n, c, bs, er, rfl, hwr, hrow, hnc, k2⟩
  rw [hW] at hwr
  simp only [Prod.mk.injEq] at hwr
  obtain ⟨rfl, rfl⟩ := hwr
  have hn := hrow.1
  replace hb1 := box_keep k2 hb1 (block_lt hb1)
  replace HI1 := Lib.hid (HI1.out.below k2)
  replace BB := BB.trans (k2.mono BB.size)
  have HROW := Lib.hid hrow
  have HLT := Lib.hid (row_lt hrow (by omega))
  clear k2 V1 hrow hW
  go_wp2_with fail
  refine (setup_Read a n c mb w2 HROW.out (by omega) hnc HLT.out).mono ?_
  rintro e3 w3 ⟨t, q2, er2, rfl, hrd, hs2, k3⟩
  rw [hWW] at hrd
  simp only [Prod.mk.injEq] at hrd
  obtain ⟨rfl, rfl⟩ := hrd
  replace hb1 := box_keep k3 hb1 (block_lt hb1)
  replace HI1 := Lib.hid (HI1.out.below k3)
  replace HROW := Lib.hid (HROW.out.below k3)
  replace BB := BB.trans (k3.mono BB.size)
  clear k3 HLT hWW w2
  go_upto_region 4 with (refine wpList_store_new _ _ _ rfl 30 (.tmp 4) (.tmp 20) rfl #[.int .i64 s7.places, .slice q2.wa q2.wl q2.wc, .int .i64 s7.pn, .int .i64 s7.pd, .slice q2.ea q2.el q2.ec, .slice q2.ca q2.cl q2.cc, .slice q2.ga q2.gl q2.gc, .int .i64 s7.allow, .int .i64 s7.unit, .int .i64 s7.cap, .int .i64 s7.paidBreak, .int .i64 s7.autoAfter, .int .i64 s7.autoBreak, .int .i64 s7.dayReg, .int .i64 s7.dayOver, .int .i64 s7.weekReg, .int .i64 s7.nightFrom, .int .i64 s7.nightTo, .slice q2.ra q2.rl q2.rc, .int .i64 s7.diff, .int .i64 s7.least, .int .i64 s7.fault, .slice q2.ta q2.tl q2.tc] w3.heap.size rfl rfl rfl rfl setup_size (by kernel_rfl) ?_)
  refine gen_code (S := fun V => V.heap[w3.heap.size]? = some (.cells #[.int .i64 s7.places, .slice q2.wa q2.wl q2.wc, .int .i64 s7.pn, .int .i64 s7.pd, .slice q2.ea q2.el q2.ec, .slice q2.ca q2.cl q2.cc, .slice q2.ga q2.gl q2.gc, .int .i64 s7.allow, .int .i64 s7.unit, .int .i64 s7.cap, .int .i64 s7.paidBreak, .int .i64 s7.autoAfter, .int .i64 s7.autoBreak, .int .i64 s7.dayReg, .int .i64 s7.dayOver, .int .i64 s7.weekReg, .int .i64 s7.nightFrom, .int .i64 s7.nightTo, .slice q2.ra q2.rl q2.rc, .int .i64 s7.diff, .int .i64 s7.least, .int .i64 s7.fault, .slice q2.ta q2.tl q2.tc] 30) ∧ V.heap[S1]? = some (.cells #[.int .i64 s7.places, .slice q1.wa q1.wl q1.wc, .int .i64 s7.pn, .int .i64 s7.pd, .slice q1.ea q1.el q1.ec, .slice q1.ca q1.cl q1.cc, .slice q1.ga q1.gl q1.gc, .int .i64 s7.allow, .int .i64 s7.unit, .int .i64 s7.cap, .int .i64 s7.paidBreak, .int .i64 s7.autoAfter, .int .i64 s7.autoBreak, .int .i64 s7.dayReg, .int .i64 s7.dayOver, .int .i64 s7.weekReg, .int .i64 s7.nightFrom, .int .i64 s7.nightTo, .slice q1.ra q1.rl q1.rc, .int .i64 s7.diff, .int .i64 s7.least, .int .i64 s7.fault, .slice q1.ta q1.tl q1.tc] 30) ∧ SetupIs V s7 q1 ∧ SetupIs V s7 q2 ∧ Row8 V a n mb ∧ Below w.heap.size w V) ⟨box_new _ _ rfl _ _, box_keep (B := w3.heap.size) (by go_grown) hb1 (block_lt hb1), HI1.out.below (by go_grown), hs2.below (by go_grown), HROW.out.below (by go_grown), BB.alloc BB.size _⟩ (fun V3 hV => ?_)
  clear hb1 HI1 hs2 HROW BB
  generalize w3.heap.size = S2 at *
  clear w3
  obtain ⟨hb2, hb1, HS1, HS2, hrow, BB⟩ := hV
  have HI1 := Lib.hid HS1
  have HI2 := Lib.hid HS2
  have HROW := Lib.hid hrow
  have HB1 := Lib.hid hb1
  have HB2 := Lib.hid hb2
  clear HS1 HS2 hrow hb1 hb2
  go_wp2_with fail
  refine (law_least V3).mono ?_
  rintro e4 w4 ⟨q3, rfl, hs3, k4⟩
  replace HB1 := Lib.hid (box_keep k4 HB1.out (block_lt HB1.out))
  replace HB2 := Lib.hid (box_keep k4 HB2.out (block_lt HB2.out))
  replace HI1 := Lib.hid (HI1.out.below k4)
  replace HI2 := Lib.hid (HI2.out.below k4)
  replace HROW := Lib.hid (HROW.out.below k4)
  replace BB := BB.trans (k4.mono BB.size)
  clear k4 V3
  go_upto_region 5 with (refine wpList_store_new _ _ _ rfl 30 (.tmp 6) (.tmp 22) rfl #[.int .i64 s7.places, .slice q3.wa q3.wl q3.wc, .int .i64 s7.pn, .int .i64 s7.pd, .slice q3.ea q3.el q3.ec, .slice q3.ca q3.cl q3.cc, .slice q3.ga q3.gl q3.gc, .int .i64 s7.allow, .int .i64 s7.unit, .int .i64 s7.cap, .int .i64 s7.paidBreak, .int .i64 s7.autoAfter, .int .i64 s7.autoBreak, .int .i64 s7.dayReg, .int .i64 s7.dayOver, .int .i64 s7.weekReg, .int .i64 s7.nightFrom, .int .i64 s7.nightTo, .slice q3.ra q3.rl q3.rc, .int .i64 s7.diff, .int .i64 s7.least, .int .i64 s7.fault, .slice q3.ta q3.tl q3.tc] w4.heap.size rfl rfl rfl rfl setup_size (by kernel_rfl) ?_)
  refine gen_code (S := fun V => V.heap[w4.heap.size]? = some (.cells #[.int .i64 s7.places, .slice q3.wa q3.wl q3.wc, .int .i64 s7.pn, .int .i64 s7.pd, .slice q3.ea q3.el q3.ec, .slice q3.ca q3.cl q3.cc, .slice q3.ga q3.gl q3.gc, .int .i64 s7.allow, .int .i64 s7.unit, .int .i64 s7.cap, .int .i64 s7.paidBreak, .int .i64 s7.autoAfter, .int .i64 s7.autoBreak, .int .i64 s7.dayReg, .int .i64 s7.dayOver, .int .i64 s7.weekReg, .int .i64 s7.nightFrom, .int .i64 s7.nightTo, .slice q3.ra q3.rl q3.rc, .int .i64 s7.diff, .int .i64 s7.least, .int .i64 s7.fault, .slice q3.ta q3.tl q3.tc] 30) ∧ Below w4.heap.size w4 V) ⟨box_new _ _ rfl _ _, by go_grown⟩ (fun V4 hV => ?_)
  obtain ⟨hb3, k5⟩ := hV
  have f3 : V4.frozen? ⟨w4.heap.size, 9, none⟩ = false := by simp [World.frozen?, hb3]
  have g3 : V4.cell? ⟨w4.heap.size, 9, none⟩ = some (.int .i64 s7.cap) := by simp [World.cell?, hb3]
  have hb4 := heap_setCell (i := 9) hb3 (.int .i64 59)
  have hb5 : (V4.setCell ⟨w4.heap.size, 9, none⟩ (.int .i64 59)).heap[w4.heap.size]? = some (.cells #[.int .i64 s7w.places, .slice q3.wa q3.wl q3.wc, .int .i64 s7w.pn, .int .i64 s7w.pd, .slice q3.ea q3.el q3.ec, .slice q3.ca q3.cl q3.cc, .slice q3.ga q3.gl q3.gc, .int .i64 s7w.allow, .int .i64 s7w.unit, .int .i64 s7w.cap, .int .i64 s7w.paidBreak, .int .i64 s7w.autoAfter, .int .i64 s7w.autoBreak, .int .i64 s7w.dayReg, .int .i64 s7w.dayOver, .int .i64 s7w.weekReg, .int .i64 s7w.nightFrom, .int .i64 s7w.nightTo, .slice q3.ra q3.rl q3.rc, .int .i64 s7w.diff, .int .i64 s7w.least, .int .i64 s7w.fault, .slice q3.ta q3.tl q3.tc] 30) := hb4
  have k6 : Below w4.heap.size w4 (V4.setCell ⟨w4.heap.size, 9, none⟩ (.int .i64 59)) := Below.setCell (p := ⟨w4.heap.size, 9, none⟩) k5 (Nat.le_refl _) _
  have hs3w : SetupIs w4 s7w q3 := ⟨hs3.places, hs3.pn, hs3.pd, hs3.allow, hs3.unit, by decide, hs3.paidBreak, hs3.autoAfter, hs3.autoBreak, hs3.dayReg, hs3.dayOver, hs3.weekReg, hs3.nightFrom, hs3.nightTo, hs3.diff, hs3.least, hs3.fault, hs3.ways, hs3.elements, hs3.classes, hs3.gears, hs3.rates, hs3.tiers⟩
  have HB5 := Lib.hid hb5
  clear hb3 hb4 hb5 k5 hs3
  go_upto_region 6 with fail
  refine gen_code (S := fun V => V.heap[w4.heap.size]? = some (.cells #[.int .i64 s7w.places, .slice q3.wa q3.wl q3.wc, .int .i64 s7w.pn, .int .i64 s7w.pd, .slice q3.ea q3.el q3.ec, .slice q3.ca q3.cl q3.cc, .slice q3.ga q3.gl q3.gc, .int .i64 s7w.allow, .int .i64 s7w.unit, .int .i64 s7w.cap, .int .i64 s7w.paidBreak, .int .i64 s7w.autoAfter, .int .i64 s7w.autoBreak, .int .i64 s7w.dayReg, .int .i64 s7w.dayOver, .int .i64 s7w.weekReg, .int .i64 s7w.nightFrom, .int .i64 s7w.nightTo, .slice q3.ra q3.rl q3.rc, .int .i64 s7w.diff, .int .i64 s7w.least, .int .i64 s7w.fault, .slice q3.ta q3.tl q3.tc] 30) ∧ V.heap[S1]? = some (.cells #[.int .i64 s7.places, .slice q1.wa q1.wl q1.wc, .int .i64 s7.pn, .int .i64 s7.pd, .slice q1.ea q1.el q1.ec, .slice q1.ca q1.cl q1.cc, .slice q1.ga q1.gl q1.gc, .int .i64 s7.allow, .int .i64 s7.unit, .int .i64 s7.cap, .int .i64 s7.paidBreak, .int .i64 s7.autoAfter, .int .i64 s7.autoBreak, .int .i64 s7.dayReg, .int .i64 s7.dayOver, .int .i64 s7.weekReg, .int .i64 s7.nightFrom, .int .i64 s7.nightTo, .slice q1.ra q1.rl q1.rc, .int .i64 s7.diff, .int .i64 s7.least, .int .i64 s7.fault, .slice q1.ta q1.tl q1.tc] 30) ∧ V.heap[S2]? = some (.cells #[.int .i64 s7.places, .slice q2.wa q2.wl q2.wc, .int .i64 s7.pn, .int .i64 s7.pd, .slice q2.ea q2.el q2.ec, .slice q2.ca q2.cl q2.cc, .slice q2.ga q2.gl q2.gc, .int .i64 s7.allow, .int .i64 s7.unit, .int .i64 s7.cap, .int .i64 s7.paidBreak, .int .i64 s7.autoAfter, .int .i64 s7.autoBreak, .int .i64 s7.dayReg, .int .i64 s7.dayOver, .int .i64 s7.weekReg, .int .i64 s7.nightFrom, .int .i64 s7.nightTo, .slice q2.ra q2.rl q2.rc, .int .i64 s7.diff, .int .i64 s7.least, .int .i64 s7.fault, .slice q2.ta q2.tl q2.tc] 30) ∧ SetupIs V s7 q1 ∧ SetupIs V s7 q2 ∧ SetupIs V s7w q3 ∧ Row8 V a n mb ∧ Below w.heap.size w V) ⟨HB5.out, box_keep k6 HB1.out (block_lt HB1.out), box_keep k6 HB2.out (block_lt HB2.out), HI1.out.below k6, HI2.out.below k6, hs3w.below k6, HROW.out.below k6, BB.trans (k6.mono BB.size)⟩ (fun V5 hV => ?_)
  clear HB1 HB2 HI1 HI2 hs3w HROW BB k6 HB5 f3 g3 V4
  generalize w4.heap.size = S3 at *
  clear w4
  obtain ⟨hb3, hb1, hb2, HS1, HS2, HS3, hrow, BB⟩ := hV
  have HI1 := Lib.hid HS1
  have HI2 := Lib.hid HS2
  have HI3 := Lib.hid HS3
  have HROW := Lib.hid hrow
  have HB1 := Lib.hid hb1
  have HB2 := Lib.hid hb2
  clear HS1 HS2 HS3 hrow hb1 hb2
  go_wp2_with (refine wpList_load_box 30 (.tmp 6) rfl rfl S3 rfl 30 #[.int .i64 s7w.places, .slice q3.wa q3.wl q3.wc, .int .i64 s7w.pn, .int .i64 s7w.pd, .slice q3.ea q3.el q3.ec, .slice q3.ca q3.cl q3.cc, .slice q3.ga q3.gl q3.gc, .int .i64 s7w.allow, .int .i64 s7w.unit, .int .i64 s7w.cap, .int .i64 s7w.paidBreak, .int .i64 s7w.autoAfter, .int .i64 s7w.autoBreak, .int .i64 s7w.dayReg, .int .i64 s7w.dayOver, .int .i64 s7w.weekReg, .int .i64 s7w.nightFrom, .int .i64 s7w.nightTo, .slice q3.ra q3.rl q3.rc, .int .i64 s7w.diff, .int .i64 s7w.least, .int .i64 s7w.fault, .slice q3.ta q3.tl q3.tc] hb3 setup_big ?_)
  refine (setup_Write s7w q3 V5 HI3.out).mono ?_
  rintro e5 w5 ⟨a5, n5, c5, bs5, er5, rfl, hwr, -, -, k7⟩
  rw [writeP_no s7w_no] at hwr
  simp only [Prod.mk.injEq] at hwr
  obtain ⟨rfl, rfl⟩ := hwr
  replace HB1 := Lib.hid (box_keep k7 HB1.out (block_lt HB1.out))
  replace HB2 := Lib.hid (box_keep k7 HB2.out (block_lt HB2.out))
  have HB3 := Lib.hid (box_keep k7 hb3 (block_lt hb3))
  replace HI1 := Lib.hid (HI1.out.below k7)
  replace HI2 := Lib.hid (HI2.out.below k7)
  replace HI3 := Lib.hid (HI3.out.below k7)
  replace HROW := Lib.hid (HROW.out.below k7)
  replace BB := BB.trans (k7.mono BB.size)
  clear k7 V5 hb3
  go_wp2_with fail
  refine (setup_Read none 0 0 [] w5 (Row8_nil _) (by omega) (by omega) (fun b o h => by cases h)).mono ?_
  rintro e6 w6 ⟨t6, q6, er6, rfl, hrd, -, k8⟩
  rw [read_nil] at hrd
  simp only [Prod.mk.injEq] at hrd
  obtain ⟨rfl, rfl⟩ := hrd
  replace HB1 := Lib.hid (box_keep k8 HB1.out (block_lt HB1.out))
  replace HB2 := Lib.hid (box_keep k8 HB2.out (block_lt HB2.out))
  replace HB3 := Lib.hid (box_keep k8 HB3.out (block_lt HB3.out))
  replace HI1 := Lib.hid (HI1.out.below k8)
  replace HI2 := Lib.hid (HI2.out.below k8)
  replace HI3 := Lib.hid (HI3.out.below k8)
  replace HROW := Lib.hid (HROW.out.below k8)
  replace BB := BB.trans (k8.mono BB.size)
  clear k8 w5
  go_upto_region 8 with (refine wpList_store_new _ _ _ rfl 30 (.tmp 9) (.tmp 31) rfl #[.int .i64 noSetup.places, .slice q6.wa q6.wl q6.wc, .int .i64 noSetup.pn, .int .i64 noSetup.pd, .slice q6.ea q6.el q6.ec, .slice q6.ca q6.cl q6.cc, .slice q6.ga q6.gl q6.gc, .int .i64 noSetup.allow, .int .i64 noSetup.unit, .int .i64 noSetup.cap, .int .i64 noSetup.paidBreak, .int .i64 noSetup.autoAfter, .int .i64 noSetup.autoBreak, .int .i64 noSetup.dayReg, .int .i64 noSetup.dayOver, .int .i64 noSetup.weekReg, .int .i64 noSetup.nightFrom, .int .i64 noSetup.nightTo, .slice q6.ra q6.rl q6.rc, .int .i64 noSetup.diff, .int .i64 noSetup.least, .int .i64 noSetup.fault, .slice q6.ta q6.tl q6.tc] w6.heap.size rfl rfl rfl rfl setup_size (by kernel_rfl) ?_)
  refine gen_code (S := fun V => V.heap[S1]? = some (.cells #[.int .i64 s7.places, .slice q1.wa q1.wl q1.wc, .int .i64 s7.pn, .int .i64 s7.pd, .slice q1.ea q1.el q1.ec, .slice q1.ca q1.cl q1.cc, .slice q1.ga q1.gl q1.gc, .int .i64 s7.allow, .int .i64 s7.unit, .int .i64 s7.cap, .int .i64 s7.paidBreak, .int .i64 s7.autoAfter, .int .i64 s7.autoBreak, .int .i64 s7.dayReg, .int .i64 s7.dayOver, .int .i64 s7.weekReg, .int .i64 s7.nightFrom, .int .i64 s7.nightTo, .slice q1.ra q1.rl q1.rc, .int .i64 s7.diff, .int .i64 s7.least, .int .i64 s7.fault, .slice q1.ta q1.tl q1.tc] 30) ∧ V.heap[S2]? = some (.cells #[.int .i64 s7.places, .slice q2.wa q2.wl q2.wc, .int .i64 s7.pn, .int .i64 s7.pd, .slice q2.ea q2.el q2.ec, .slice q2.ca q2.cl q2.cc, .slice q2.ga q2.gl q2.gc, .int .i64 s7.allow, .int .i64 s7.unit, .int .i64 s7.cap, .int .i64 s7.paidBreak, .int .i64 s7.autoAfter, .int .i64 s7.autoBreak, .int .i64 s7.dayReg, .int .i64 s7.dayOver, .int .i64 s7.weekReg, .int .i64 s7.nightFrom, .int .i64 s7.nightTo, .slice q2.ra q2.rl q2.rc, .int .i64 s7.diff, .int .i64 s7.least, .int .i64 s7.fault, .slice q2.ta q2.tl q2.tc] 30) ∧ V.heap[S3]? = some (.cells #[.int .i64 s7w.places, .slice q3.wa q3.wl q3.wc, .int .i64 s7w.pn, .int .i64 s7w.pd, .slice q3.ea q3.el q3.ec, .slice q3.ca q3.cl q3.cc, .slice q3.ga q3.gl q3.gc, .int .i64 s7w.allow, .int .i64 s7w.unit, .int .i64 s7w.cap, .int .i64 s7w.paidBreak, .int .i64 s7w.autoAfter, .int .i64 s7w.autoBreak, .int .i64 s7w.dayReg, .int .i64 s7w.dayOver, .int .i64 s7w.weekReg, .int .i64 s7w.nightFrom, .int .i64 s7w.nightTo, .slice q3.ra q3.rl q3.rc, .int .i64 s7w.diff, .int .i64 s7w.least, .int .i64 s7w.fault, .slice q3.ta q3.tl q3.tc] 30) ∧ SetupIs V s7 q1 ∧ SetupIs V s7 q2 ∧ SetupIs V s7w q3 ∧ Row8 V a n mb ∧ Below w.heap.size w V) ⟨box_keep (B := w6.heap.size) (by go_grown) HB1.out (block_lt HB1.out), box_keep (B := w6.heap.size) (by go_grown) HB2.out (block_lt HB2.out), box_keep (B := w6.heap.size) (by go_grown) HB3.out (block_lt HB3.out), HI1.out.below (by go_grown), HI2.out.below (by go_grown), HI3.out.below (by go_grown), HROW.out.below (by go_grown), BB.alloc BB.size _⟩ (fun V hV => ?_)
  clear HB1 HB2 HB3 HI1 HI2 HI3 HROW BB
  obtain ⟨hb1, hb2, hb3, HS1, HS2, HS3, hrow, BB⟩ := hV
  have hw1 : q2.wl = 1 := HS2.ways.1.symm
  obtain ⟨wb, wo, hwa, _, hwc⟩ := HS2.ways.2.2.2.resolve_left (by omega)
  have hc2 := (hwc 0 (by omega)).2.2
  have g2 : V.cell? ⟨S2, 1, none⟩ = some (.slice q2.wa q2.wl q2.wc) := by simp [World.cell?, hb2]
  rw [hwa, hw1] at g2
  have g4 : V.cell? ⟨wb, wo + 2, none⟩ = some (.int .i64 300) := by
    rw [Nat.zero_mul, Nat.add_zero] at hc2
    exact hc2
  have hcv := conv_row (row_take hrow 9 (by omega)) c
  rw [HT9.out] at hcv
  have e9 : strOfNums [1, 3, 1, 1, 0, 1, 2, 2, 1] = ⟨#[1, 3, 1, 1, 0, 1, 2, 2, 1]⟩ := rfl
  rw [e9] at hcv
  have y10 : decide ((n : Int) < 10) = false := by rw [decide_eq_false_iff_not]; omega
  have y9 : (9 : Int) ≤ (c : Int) := by omega
  have y9' : 9 ≤ c := by omega
  have HI1 := Lib.hid HS1
  have HI3 := Lib.hid HS3
  have HB3 := Lib.hid hb3
  clear hw1 hwa hwc hc2 hb2 HS1 HS2 HS3 hb3 hrow HT9 e9
  go_wp2_with (refine wpList_load_box 30 (.tmp 1) rfl rfl S1 rfl 30 #[.int .i64 s7.places, .slice q1.wa q1.wl q1.wc, .int .i64 s7.pn, .int .i64 s7.pd, .slice q1.ea q1.el q1.ec, .slice q1.ca q1.cl q1.cc, .slice q1.ga q1.gl q1.gc, .int .i64 s7.allow, .int .i64 s7.unit, .int .i64 s7.cap, .int .i64 s7.paidBreak, .int .i64 s7.autoAfter, .int .i64 s7.autoBreak, .int .i64 s7.dayReg, .int .i64 s7.dayOver, .int .i64 s7.weekReg, .int .i64 s7.nightFrom, .int .i64 s7.nightTo, .slice q1.ra q1.rl q1.rc, .int .i64 s7.diff, .int .i64 s7.least, .int .i64 s7.fault, .slice q1.ta q1.tl q1.tc] hb1 setup_big ?_)
  refine (setup_Check s7 q1 true V HI1.out s7_may).mono ?_
  rintro e7 w7 ⟨rfl, k9⟩
  replace hb3 := box_keep k9 HB3.out (block_lt HB3.out)
  have BB2 := BB.trans (k9.mono BB.size)
  have HI4 := Lib.hid (HI3.out.below k9)
  clear k9 BB hb1 g2 g4 hcv
  go_wp2_with (refine wpList_load_box 30 (.tmp 6) rfl rfl S3 rfl 30 #[.int .i64 s7w.places, .slice q3.wa q3.wl q3.wc, .int .i64 s7w.pn, .int .i64 s7w.pd, .slice q3.ea q3.el q3.ec, .slice q3.ca q3.cl q3.cc, .slice q3.ga q3.gl q3.gc, .int .i64 s7w.allow, .int .i64 s7w.unit, .int .i64 s7w.cap, .int .i64 s7w.paidBreak, .int .i64 s7w.autoAfter, .int .i64 s7w.autoBreak, .int .i64 s7w.dayReg, .int .i64 s7w.dayOver, .int .i64 s7w.weekReg, .int .i64 s7w.nightFrom, .int .i64 s7w.nightTo, .slice q3.ra q3.rl q3.rc, .int .i64 s7w.diff, .int .i64 s7w.least, .int .i64 s7w.fault, .slice q3.ta q3.tl q3.tc] hb3 setup_big ?_)
  refine (setup_Check s7w q3 false w7 HI4.out s7w_no).mono ?_
  rintro e8 w8 ⟨rfl, k10⟩
  go_wp2_with fail
  go_ret
  exact ⟨rfl, BB2.trans (k10.mono BB2.size)⟩
end Go.Proofs.Ytnjckaifgmliaaa

/- THE WALK of lumperref07.Same: are two setups of the same numbers? -/

namespace Go.Proofs.Ytnjckaifgmliaaa
open Go.RowKit Lu

theorem ne_of_take {A B : List Int} {k : Nat} {x y : Int} (hx : A[k]? = some x) (hy : B[k]? = some y) (h : x ≠ y) : A ≠ B := by
  rintro rfl
  rw [hx] at hy
  exact h (Option.some.inj hy)
theorem take_more {A B : List Int} {k : Nat} {x : Int} (h : A.take k = B.take k) (hx : A[k]? = some x) (hy : B[k]? = some x) : A.take (k + 1) = B.take (k + 1) := by
  have h1 := (List.getElem?_eq_some_iff.1 hx).1
  have h2 := (List.getElem?_eq_some_iff.1 hy).1
  rw [List.take_succ_eq_append_getElem h1, List.take_succ_eq_append_getElem h2, h]
  rw [List.getElem?_eq_getElem h1] at hx
  rw [List.getElem?_eq_getElem h2] at hy
  rw [Option.some.inj hx, Option.some.inj hy]
set_option maxHeartbeats 1000000 in
theorem numbers_le {s : Setup} (h : fewP s = true) : (numbersP s).length ≤ 100000 := by
  unfold fewP at h
  simp only [Bool.and_eq_true, decide_eq_true_eq] at h
  unfold numbersP timesL
  simp only [List.length_append, List.length_cons, List.length_nil, flat3i_length, flat2_length, flat4_length]
  omega
set_option maxRecDepth 100000 in
set_option maxHeartbeats 4000000 in
theorem ref7_Same (s t : Setup) (q r : Slices) (x : Bool) (w : World) (hs : SetupIs w s q) (ht : SetupIs w t r) (fs : fewP s = true) (ft : fewP t = true) (hx : decide (numbersP s = numbersP t) = x) :
    Calls Try.prog 19 #[.agg #[.int .i64 s.places, .slice q.wa q.wl q.wc, .int .i64 s.pn, .int .i64 s.pd, .slice q.ea q.el q.ec, .slice q.ca q.cl q.cc, .slice q.ga q.gl q.gc, .int .i64 s.allow, .int .i64 s.unit, .int .i64 s.cap, .int .i64 s.paidBreak, .int .i64 s.autoAfter, .int .i64 s.autoBreak, .int .i64 s.dayReg, .int .i64 s.dayOver, .int .i64 s.weekReg, .int .i64 s.nightFrom, .int .i64 s.nightTo, .slice q.ra q.rl q.rc, .int .i64 s.diff, .int .i64 s.least, .int .i64 s.fault, .slice q.ta q.tl q.tc], .agg #[.int .i64 t.places, .slice r.wa r.wl r.wc, .int .i64 t.pn, .int .i64 t.pd, .slice r.ea r.el r.ec, .slice r.ca r.cl r.cc, .slice r.ga r.gl r.gc, .int .i64 t.allow, .int .i64 t.unit, .int .i64 t.cap, .int .i64 t.paidBreak, .int .i64 t.autoAfter, .int .i64 t.autoBreak, .int .i64 t.dayReg, .int .i64 t.dayOver, .int .i64 t.weekReg, .int .i64 t.nightFrom, .int .i64 t.nightTo, .slice r.ra r.rl r.rc, .int .i64 t.diff, .int .i64 t.least, .int .i64 t.fault, .slice r.ta r.tl r.tc]] w fun e w' => e = .returned (.bool x) ∧ Below w.heap.size w w' := by
  have k0 : Below w.heap.size w ((w.alloc (.cells #[.int .i64 s.places, .slice q.wa q.wl q.wc, .int .i64 s.pn, .int .i64 s.pd, .slice q.ea q.el q.ec, .slice q.ca q.cl q.cc, .slice q.ga q.gl q.gc, .int .i64 s.allow, .int .i64 s.unit, .int .i64 s.cap, .int .i64 s.paidBreak, .int .i64 s.autoAfter, .int .i64 s.autoBreak, .int .i64 s.dayReg, .int .i64 s.dayOver, .int .i64 s.weekReg, .int .i64 s.nightFrom, .int .i64 s.nightTo, .slice q.ra q.rl q.rc, .int .i64 s.diff, .int .i64 s.least, .int .i64 s.fault, .slice q.ta q.tl q.tc] 30)).alloc (.cells #[.int .i64 t.places, .slice r.wa r.wl r.wc, .int .i64 t.pn, .int .i64 t.pd, .slice r.ea r.el r.ec, .slice r.ca r.cl r.cc, .slice r.ga r.gl r.gc, .int .i64 t.allow, .int .i64 t.unit, .int .i64 t.cap, .int .i64 t.paidBreak, .int .i64 t.autoAfter, .int .i64 t.autoBreak, .int .i64 t.dayReg, .int .i64 t.dayOver, .int .i64 t.weekReg, .int .i64 t.nightFrom, .int .i64 t.nightTo, .slice r.ra r.rl r.rc, .int .i64 t.diff, .int .i64 t.least, .int .i64 t.fault, .slice r.ta r.tl r.tc] 30)) := by go_grown
  have hA : ((w.alloc (.cells #[.int .i64 s.places, .slice q.wa q.wl q.wc, .int .i64 s.pn, .int .i64 s.pd, .slice q.ea q.el q.ec, .slice q.ca q.cl q.cc, .slice q.ga q.gl q.gc, .int .i64 s.allow, .int .i64 s.unit, .int .i64 s.cap, .int .i64 s.paidBreak, .int .i64 s.autoAfter, .int .i64 s.autoBreak, .int .i64 s.dayReg, .int .i64 s.dayOver, .int .i64 s.weekReg, .int .i64 s.nightFrom, .int .i64 s.nightTo, .slice q.ra q.rl q.rc, .int .i64 s.diff, .int .i64 s.least, .int .i64 s.fault, .slice q.ta q.tl q.tc] 30)).alloc (.cells #[.int .i64 t.places, .slice r.wa r.wl r.wc, .int .i64 t.pn, .int .i64 t.pd, .slice r.ea r.el r.ec, .slice r.ca r.cl r.cc, .slice r.ga r.gl r.gc, .int .i64 t.allow, .int .i64 t.unit, .int .i64 t.cap, .int .i64 t.paidBreak, .int .i64 t.autoAfter, .int .i64 t.autoBreak, .int .i64 t.dayReg, .int .i64 t.dayOver, .int .i64 t.weekReg, .int .i64 t.nightFrom, .int .i64 t.nightTo, .slice r.ra r.rl r.rc, .int .i64 t.diff, .int .i64 t.least, .int .i64 t.fault, .slice r.ta r.tl r.tc] 30)).heap[w.heap.size]? = some (.cells #[.int .i64 s.places, .slice q.wa q.wl q.wc, .int .i64 s.pn, .int .i64 s.pd, .slice q.ea q.el q.ec, .slice q.ca q.cl q.cc, .slice q.ga q.gl q.gc, .int .i64 s.allow, .int .i64 s.unit, .int .i64 s.cap, .int .i64 s.paidBreak, .int .i64 s.autoAfter, .int .i64 s.autoBreak, .int .i64 s.dayReg, .int .i64 s.dayOver, .int .i64 s.weekReg, .int .i64 s.nightFrom, .int .i64 s.nightTo, .slice q.ra q.rl q.rc, .int .i64 s.diff, .int .i64 s.least, .int .i64 s.fault, .slice q.ta q.tl q.tc] 30) := box_keep (w := w.alloc (.cells #[.int .i64 s.places, .slice q.wa q.wl q.wc, .int .i64 s.pn, .int .i64 s.pd, .slice q.ea q.el q.ec, .slice q.ca q.cl q.cc, .slice q.ga q.gl q.gc, .int .i64 s.allow, .int .i64 s.unit, .int .i64 s.cap, .int .i64 s.paidBreak, .int .i64 s.autoAfter, .int .i64 s.autoBreak, .int .i64 s.dayReg, .int .i64 s.dayOver, .int .i64 s.weekReg, .int .i64 s.nightFrom, .int .i64 s.nightTo, .slice q.ra q.rl q.rc, .int .i64 s.diff, .int .i64 s.least, .int .i64 s.fault, .slice q.ta q.tl q.tc] 30)) (B := w.heap.size + 1) ((Below.refl _ _).alloc (by simp) _) (box_new w _ rfl _ _) (by omega)
  have hB : ((w.alloc (.cells #[.int .i64 s.places, .slice q.wa q.wl q.wc, .int .i64 s.pn, .int .i64 s.pd, .slice q.ea q.el q.ec, .slice q.ca q.cl q.cc, .slice q.ga q.gl q.gc, .int .i64 s.allow, .int .i64 s.unit, .int .i64 s.cap, .int .i64 s.paidBreak, .int .i64 s.autoAfter, .int .i64 s.autoBreak, .int .i64 s.dayReg, .int .i64 s.dayOver, .int .i64 s.weekReg, .int .i64 s.nightFrom, .int .i64 s.nightTo, .slice q.ra q.rl q.rc, .int .i64 s.diff, .int .i64 s.least, .int .i64 s.fault, .slice q.ta q.tl q.tc] 30)).alloc (.cells #[.int .i64 t.places, .slice r.wa r.wl r.wc, .int .i64 t.pn, .int .i64 t.pd, .slice r.ea r.el r.ec, .slice r.ca r.cl r.cc, .slice r.ga r.gl r.gc, .int .i64 t.allow, .int .i64 t.unit, .int .i64 t.cap, .int .i64 t.paidBreak, .int .i64 t.autoAfter, .int .i64 t.autoBreak, .int .i64 t.dayReg, .int .i64 t.dayOver, .int .i64 t.weekReg, .int .i64 t.nightFrom, .int .i64 t.nightTo, .slice r.ra r.rl r.rc, .int .i64 t.diff, .int .i64 t.least, .int .i64 t.fault, .slice r.ta r.tl r.tc] 30)).heap[w.heap.size + 1]? = some (.cells #[.int .i64 t.places, .slice r.wa r.wl r.wc, .int .i64 t.pn, .int .i64 t.pd, .slice r.ea r.el r.ec, .slice r.ca r.cl r.cc, .slice r.ga r.gl r.gc, .int .i64 t.allow, .int .i64 t.unit, .int .i64 t.cap, .int .i64 t.paidBreak, .int .i64 t.autoAfter, .int .i64 t.autoBreak, .int .i64 t.dayReg, .int .i64 t.dayOver, .int .i64 t.weekReg, .int .i64 t.nightFrom, .int .i64 t.nightTo, .slice r.ra r.rl r.rc, .int .i64 t.diff, .int .i64 t.least, .int .i64 t.fault, .slice r.ta r.tl r.tc] 30) := box_new _ _ (by simp) _ _
  have hs0 := hs.below k0
  have ht0 := ht.below k0
  have HX := Lib.hid hx
  clear hs ht hx
  go_enter Try.func19, Try.ntmps19
  go_wp2_with (refine wpList_load_box 30 (.tmp 2) rfl rfl w.heap.size rfl 30 #[.int .i64 s.places, .slice q.wa q.wl q.wc, .int .i64 s.pn, .int .i64 s.pd, .slice q.ea q.el q.ec, .slice q.ca q.cl q.cc, .slice q.ga q.gl q.gc, .int .i64 s.allow, .int .i64 s.unit, .int .i64 s.cap, .int .i64 s.paidBreak, .int .i64 s.autoAfter, .int .i64 s.autoBreak, .int .i64 s.dayReg, .int .i64 s.dayOver, .int .i64 s.weekReg, .int .i64 s.nightFrom, .int .i64 s.nightTo, .slice q.ra q.rl q.rc, .int .i64 s.diff, .int .i64 s.least, .int .i64 s.fault, .slice q.ta q.tl q.tc] hA setup_big ?_)
  refine (ref7_numbers s q _ hs0 fs).mono ?_
  rintro e1 w1 ⟨v1, rfl, own1, k1⟩
  replace hB := box_keep k1 hB (block_lt hB)
  have ht1 := ht0.below k1
  have BB := k0.trans (k1.mono k0.size)
  have HO1 := Lib.hid own1
  clear hA hs0 ht0 k0 k1 own1
  go_wp2_with (refine wpList_load_box 30 (.tmp 3) rfl rfl (w.heap.size + 1) rfl 30 #[.int .i64 t.places, .slice r.wa r.wl r.wc, .int .i64 t.pn, .int .i64 t.pd, .slice r.ea r.el r.ec, .slice r.ca r.cl r.cc, .slice r.ga r.gl r.gc, .int .i64 t.allow, .int .i64 t.unit, .int .i64 t.cap, .int .i64 t.paidBreak, .int .i64 t.autoAfter, .int .i64 t.autoBreak, .int .i64 t.dayReg, .int .i64 t.dayOver, .int .i64 t.weekReg, .int .i64 t.nightFrom, .int .i64 t.nightTo, .slice r.ra r.rl r.rc, .int .i64 t.diff, .int .i64 t.least, .int .i64 t.fault, .slice r.ta r.tl r.tc] hB setup_big ?_)
  refine (ref7_numbers t r _ ht1 ft).mono ?_
  rintro e2 w2 ⟨v2, rfl, own2, k2⟩
  obtain ⟨a1, c1, rfl, hc1⟩ := Cells.of_own (own_below' HO1.out k2)
  obtain ⟨a2, c2, rfl, hc2⟩ := Cells.of_own own2
  replace BB := BB.trans (k2.mono BB.size)
  have hlenA := numbers_le fs
  have hlenB := numbers_le ft
  generalize numbersP s = A at *
  generalize numbersP t = B at *
  have HC1 := Lib.hid hc1
  have HC2 := Lib.hid hc2
  clear HO1 own2 hc1 hc2 k2 ht1 hB w1
  have hAl : A.length ≤ 100000 := hlenA
  have hBl : B.length ≤ 100000 := hlenB
  by_cases hl : A.length = B.length
  · have HL := Lib.hid hl
    have hn : ((A.length : Int) != (B.length : Int)) = false := by rw [hl]; simp
    have hlb : B.length ≤ A.length := by omega
    have hla : A.length ≤ B.length := by omega
    clear hl
    go_wp2_with fail
    go_loopg [7] A.length (fun g i wr => ∃ k : Nat, k ≤ A.length ∧ g = A.length - k ∧ i = .int .i64 k ∧ A.take k = B.take k ∧ ∃ n, wr = w2.drewN n)
    case atStart => exact ⟨0, by omega, by omega, rfl, rfl, 0, rfl⟩
    case round =>
      obtain ⟨k, hk, rfl, rfl, htk, n, rfl⟩ := hrel
      by_cases hlt : k < A.length
      · have hk0 : (0 : Int) ≤ (k : Int) := by omega
        have hk1 : (k : Int) < (A.length : Int) := by omega
        have hk2 : (k : Int) < (B.length : Int) := by omega
        obtain ⟨b1, o1, rfl, hd1⟩ := HC1.out.resolve_left (by intro z; rw [List.map_eq_nil_iff] at z; rw [z] at hlt; simp at hlt)
        obtain ⟨b2, o2, rfl, hd2⟩ := HC2.out.resolve_left (by intro z; rw [List.map_eq_nil_iff] at z; rw [z] at hla; simp at hla; rw [hla] at hlt; simp at hlt)
        obtain ⟨x1, hx1⟩ : ∃ z, A[k]? = some z := ⟨_, List.getElem?_eq_getElem hlt⟩
        obtain ⟨x2, hx2⟩ : ∃ z, B[k]? = some z := ⟨_, List.getElem?_eq_getElem (by omega)⟩
        have g1 := hd1 k _ (by rw [List.getElem?_map, hx1]; rfl)
        have g2 := hd2 k _ (by rw [List.getElem?_map, hx2]; rfl)
        have HT := Lib.hid htk
        have HX1 := Lib.hid hx1
        have HX2 := Lib.hid hx2
        clear hd1 hd2 htk hx1 hx2
        by_cases he : x1 = x2
        · subst he
          have y1 : (x1 != x1) = false := by simp
          go_wp2_with fail
          go_quiet (fail)
          go_wp2_with fail
          go_roundg (A.length - (k + 1))
          case measure => omega
          case rel => exact ⟨k + 1, by omega, rfl, by go_num, take_more HT.out HX1.out HX2.out, _, by first | rfl | exact World.drewN_drewN _ _ _⟩
        · have y1 : (x1 != x2) = true := by rw [bne_iff_ne]; exact he
          have hr : decide (A = B) = false := by rw [decide_eq_false_iff_not]; exact ne_of_take HX1.out HX2.out he
          rw [HX.out] at hr
          subst hr
          clear he HX
          go_wp2_with fail
          go_quiet (fail)
          go_wp2_with fail
          go_ret
          exact ⟨rfl, below_drewN (below_drewN BB _) _⟩
      · obtain rfl : k = A.length := by omega
        have hr : decide (A = B) = true := by
          rw [decide_eq_true_iff]
          rw [List.take_length, List.take_of_length_le hlb] at htk
          exact htk
        rw [HX.out] at hr
        subst hr
        clear HX
        go_wp2_with fail
        go_ret
        exact ⟨rfl, below_drewN BB _⟩
  · have hn : ((A.length : Int) != (B.length : Int)) = true := by rw [bne_iff_ne]; omega
    have hr : decide (A = B) = false := by rw [decide_eq_false_iff_not]; rintro rfl; exact hl rfl
    rw [HX.out] at hr
    subst hr
    clear HX
    go_wp2_with fail
    go_ret
    exact ⟨rfl, BB⟩
end Go.Proofs.Ytnjckaifgmliaaa

namespace Go.Proofs.Ytnjckaifgmliaaa
open Go.RowKit Lu

theorem byte_inj {x y : Int} (hx : 0 ≤ x ∧ x ≤ 255) (hy : 0 ≤ y ∧ y ≤ 255) (h : UInt8.ofNat x.toNat = UInt8.ofNat y.toNat) : x = y := by
  have h1 := congrArg UInt8.toNat h
  simp only [UInt8.toNat_ofNat'] at h1
  omega
theorem strOf_inj : ∀ {xs ys : List Int}, Bytes xs → Bytes ys → (xs.map fun n => UInt8.ofNat n.toNat) = (ys.map fun n => UInt8.ofNat n.toNat) → xs = ys
  | [], [], _, _, _ => rfl
  | [], _ :: _, _, _, h => by simp at h
  | _ :: _, [], _, _, h => by simp at h
  | x :: xs, y :: ys, hx, hy, h => by
    simp only [List.map_cons, List.cons.injEq] at h
    rw [byte_inj (hx x (by simp)) (hy y (by simp)) h.1, strOf_inj (fun c hc => hx c (by simp [hc])) (fun c hc => hy c (by simp [hc])) h.2]
theorem str_eq {xs ys : List Int} (hx : Bytes xs) (hy : Bytes ys) {b : Bool} (hb : decide (xs = ys) = b) : ((strOfNums xs).toList == (strOfNums ys).toList) = b := by
  rw [ByteArray.toList_eq, ByteArray.toList_eq, strOfNums_data, strOfNums_data]
  subst hb
  by_cases h : xs = ys
  · subst h; simp
  · rw [decide_eq_false h, beq_eq_false_iff_ne]
    exact fun e => h (strOf_inj hx hy e)
set_option maxRecDepth 100000 in
set_option maxHeartbeats 4000000 in
theorem setupApart_walk (s : Setup) (q : Slices) (t : Setup) (r : Slices) (w : World) (hs : SetupIs w s q) (ht : SetupIs w t r) :
    Calls Try.prog 5 #[.agg #[.int .i64 s.places, .slice q.wa q.wl q.wc, .int .i64 s.pn, .int .i64 s.pd, .slice q.ea q.el q.ec, .slice q.ca q.cl q.cc, .slice q.ga q.gl q.gc, .int .i64 s.allow, .int .i64 s.unit, .int .i64 s.cap, .int .i64 s.paidBreak, .int .i64 s.autoAfter, .int .i64 s.autoBreak, .int .i64 s.dayReg, .int .i64 s.dayOver, .int .i64 s.weekReg, .int .i64 s.nightFrom, .int .i64 s.nightTo, .slice q.ra q.rl q.rc, .int .i64 s.diff, .int .i64 s.least, .int .i64 s.fault, .slice q.ta q.tl q.tc], .agg #[.int .i64 t.places, .slice r.wa r.wl r.wc, .int .i64 t.pn, .int .i64 t.pd, .slice r.ea r.el r.ec, .slice r.ca r.cl r.cc, .slice r.ga r.gl r.gc, .int .i64 t.allow, .int .i64 t.unit, .int .i64 t.cap, .int .i64 t.paidBreak, .int .i64 t.autoAfter, .int .i64 t.autoBreak, .int .i64 t.dayReg, .int .i64 t.dayOver, .int .i64 t.weekReg, .int .i64 t.nightFrom, .int .i64 t.nightTo, .slice r.ra r.rl r.rc, .int .i64 t.diff, .int .i64 t.least, .int .i64 t.fault, .slice r.ta r.tl r.tc]] w fun e w' => e = .returned (.bool true) ∧ Below w.heap.size w w' := by
  have BB : Below w.heap.size w ((w.alloc (.cells #[.int .i64 s.places, .slice q.wa q.wl q.wc, .int .i64 s.pn, .int .i64 s.pd, .slice q.ea q.el q.ec, .slice q.ca q.cl q.cc, .slice q.ga q.gl q.gc, .int .i64 s.allow, .int .i64 s.unit, .int .i64 s.cap, .int .i64 s.paidBreak, .int .i64 s.autoAfter, .int .i64 s.autoBreak, .int .i64 s.dayReg, .int .i64 s.dayOver, .int .i64 s.weekReg, .int .i64 s.nightFrom, .int .i64 s.nightTo, .slice q.ra q.rl q.rc, .int .i64 s.diff, .int .i64 s.least, .int .i64 s.fault, .slice q.ta q.tl q.tc] 30)).alloc (.cells #[.int .i64 t.places, .slice r.wa r.wl r.wc, .int .i64 t.pn, .int .i64 t.pd, .slice r.ea r.el r.ec, .slice r.ca r.cl r.cc, .slice r.ga r.gl r.gc, .int .i64 t.allow, .int .i64 t.unit, .int .i64 t.cap, .int .i64 t.paidBreak, .int .i64 t.autoAfter, .int .i64 t.autoBreak, .int .i64 t.dayReg, .int .i64 t.dayOver, .int .i64 t.weekReg, .int .i64 t.nightFrom, .int .i64 t.nightTo, .slice r.ra r.rl r.rc, .int .i64 t.diff, .int .i64 t.least, .int .i64 t.fault, .slice r.ta r.tl r.tc] 30)) := by go_grown
  have hA : ((w.alloc (.cells #[.int .i64 s.places, .slice q.wa q.wl q.wc, .int .i64 s.pn, .int .i64 s.pd, .slice q.ea q.el q.ec, .slice q.ca q.cl q.cc, .slice q.ga q.gl q.gc, .int .i64 s.allow, .int .i64 s.unit, .int .i64 s.cap, .int .i64 s.paidBreak, .int .i64 s.autoAfter, .int .i64 s.autoBreak, .int .i64 s.dayReg, .int .i64 s.dayOver, .int .i64 s.weekReg, .int .i64 s.nightFrom, .int .i64 s.nightTo, .slice q.ra q.rl q.rc, .int .i64 s.diff, .int .i64 s.least, .int .i64 s.fault, .slice q.ta q.tl q.tc] 30)).alloc (.cells #[.int .i64 t.places, .slice r.wa r.wl r.wc, .int .i64 t.pn, .int .i64 t.pd, .slice r.ea r.el r.ec, .slice r.ca r.cl r.cc, .slice r.ga r.gl r.gc, .int .i64 t.allow, .int .i64 t.unit, .int .i64 t.cap, .int .i64 t.paidBreak, .int .i64 t.autoAfter, .int .i64 t.autoBreak, .int .i64 t.dayReg, .int .i64 t.dayOver, .int .i64 t.weekReg, .int .i64 t.nightFrom, .int .i64 t.nightTo, .slice r.ra r.rl r.rc, .int .i64 t.diff, .int .i64 t.least, .int .i64 t.fault, .slice r.ta r.tl r.tc] 30)).heap[w.heap.size]? = some (.cells #[.int .i64 s.places, .slice q.wa q.wl q.wc, .int .i64 s.pn, .int .i64 s.pd, .slice q.ea q.el q.ec, .slice q.ca q.cl q.cc, .slice q.ga q.gl q.gc, .int .i64 s.allow, .int .i64 s.unit, .int .i64 s.cap, .int .i64 s.paidBreak, .int .i64 s.autoAfter, .int .i64 s.autoBreak, .int .i64 s.dayReg, .int .i64 s.dayOver, .int .i64 s.weekReg, .int .i64 s.nightFrom, .int .i64 s.nightTo, .slice q.ra q.rl q.rc, .int .i64 s.diff, .int .i64 s.least, .int .i64 s.fault, .slice q.ta q.tl q.tc] 30) := box_keep (w := w.alloc (.cells #[.int .i64 s.places, .slice q.wa q.wl q.wc, .int .i64 s.pn, .int .i64 s.pd, .slice q.ea q.el q.ec, .slice q.ca q.cl q.cc, .slice q.ga q.gl q.gc, .int .i64 s.allow, .int .i64 s.unit, .int .i64 s.cap, .int .i64 s.paidBreak, .int .i64 s.autoAfter, .int .i64 s.autoBreak, .int .i64 s.dayReg, .int .i64 s.dayOver, .int .i64 s.weekReg, .int .i64 s.nightFrom, .int .i64 s.nightTo, .slice q.ra q.rl q.rc, .int .i64 s.diff, .int .i64 s.least, .int .i64 s.fault, .slice q.ta q.tl q.tc] 30)) (B := w.heap.size + 1) ((Below.refl _ _).alloc (by simp) _) (box_new w _ rfl _ _) (by omega)
  have hB : ((w.alloc (.cells #[.int .i64 s.places, .slice q.wa q.wl q.wc, .int .i64 s.pn, .int .i64 s.pd, .slice q.ea q.el q.ec, .slice q.ca q.cl q.cc, .slice q.ga q.gl q.gc, .int .i64 s.allow, .int .i64 s.unit, .int .i64 s.cap, .int .i64 s.paidBreak, .int .i64 s.autoAfter, .int .i64 s.autoBreak, .int .i64 s.dayReg, .int .i64 s.dayOver, .int .i64 s.weekReg, .int .i64 s.nightFrom, .int .i64 s.nightTo, .slice q.ra q.rl q.rc, .int .i64 s.diff, .int .i64 s.least, .int .i64 s.fault, .slice q.ta q.tl q.tc] 30)).alloc (.cells #[.int .i64 t.places, .slice r.wa r.wl r.wc, .int .i64 t.pn, .int .i64 t.pd, .slice r.ea r.el r.ec, .slice r.ca r.cl r.cc, .slice r.ga r.gl r.gc, .int .i64 t.allow, .int .i64 t.unit, .int .i64 t.cap, .int .i64 t.paidBreak, .int .i64 t.autoAfter, .int .i64 t.autoBreak, .int .i64 t.dayReg, .int .i64 t.dayOver, .int .i64 t.weekReg, .int .i64 t.nightFrom, .int .i64 t.nightTo, .slice r.ra r.rl r.rc, .int .i64 t.diff, .int .i64 t.least, .int .i64 t.fault, .slice r.ta r.tl r.tc] 30)).heap[w.heap.size + 1]? = some (.cells #[.int .i64 t.places, .slice r.wa r.wl r.wc, .int .i64 t.pn, .int .i64 t.pd, .slice r.ea r.el r.ec, .slice r.ca r.cl r.cc, .slice r.ga r.gl r.gc, .int .i64 t.allow, .int .i64 t.unit, .int .i64 t.cap, .int .i64 t.paidBreak, .int .i64 t.autoAfter, .int .i64 t.autoBreak, .int .i64 t.dayReg, .int .i64 t.dayOver, .int .i64 t.weekReg, .int .i64 t.nightFrom, .int .i64 t.nightTo, .slice r.ra r.rl r.rc, .int .i64 t.diff, .int .i64 t.least, .int .i64 t.fault, .slice r.ta r.tl r.tc] 30) := box_new _ _ (by simp) _ _
  have HS := Lib.hid (hs.below BB)
  have HT := Lib.hid (ht.below BB)
  obtain ⟨f, hf⟩ : ∃ f, fewP s = f := ⟨_, rfl⟩
  obtain ⟨g, hg⟩ : ∃ g, fewP t = g := ⟨_, rfl⟩
  obtain ⟨cs, hcs⟩ : ∃ c, setupP s = c := ⟨_, rfl⟩
  obtain ⟨ct, hct⟩ : ∃ c, setupP t = c := ⟨_, rfl⟩
  have HFS := Lib.hid hf
  have HFT := Lib.hid hg
  have HCS := Lib.hid hcs
  have HCT := Lib.hid hct
  clear hf hg hcs hct hs ht
  go_enter Try.func5, Try.ntmps5
  go_wp2_with fail
  refine (awake7 _).mono ?_
  rintro e1 w1 ⟨rfl, k1⟩
  replace BB := BB.trans (k1.mono BB.size)
  replace hA := box_keep k1 hA (block_lt hA)
  replace hB := box_keep k1 hB (block_lt hB)
  replace HS := Lib.hid (HS.out.below k1)
  replace HT := Lib.hid (HT.out.below k1)
  clear k1
  obtain ⟨S0, hS0⟩ : ∃ S, w.heap.size = S := ⟨_, rfl⟩
  have HS0 := Lib.hid hS0
  rw [hS0] at hA hB ⊢
  clear hS0
  go_wp2_with (refine wpList_load_box 30 (.tmp 2) rfl rfl S0 rfl 30 #[.int .i64 s.places, .slice q.wa q.wl q.wc, .int .i64 s.pn, .int .i64 s.pd, .slice q.ea q.el q.ec, .slice q.ca q.cl q.cc, .slice q.ga q.gl q.gc, .int .i64 s.allow, .int .i64 s.unit, .int .i64 s.cap, .int .i64 s.paidBreak, .int .i64 s.autoAfter, .int .i64 s.autoBreak, .int .i64 s.dayReg, .int .i64 s.dayOver, .int .i64 s.weekReg, .int .i64 s.nightFrom, .int .i64 s.nightTo, .slice q.ra q.rl q.rc, .int .i64 s.diff, .int .i64 s.least, .int .i64 s.fault, .slice q.ta q.tl q.tc] hA setup_big ?_)
  refine (ref7_Few s q f w1 HS.out HFS.out).mono ?_
  rintro e2 w2 ⟨rfl, k2⟩
  replace BB := BB.trans (k2.mono BB.size)
  replace hA := box_keep k2 hA (block_lt hA)
  replace hB := box_keep k2 hB (block_lt hB)
  replace HS := Lib.hid (HS.out.below k2)
  replace HT := Lib.hid (HT.out.below k2)
  clear k2
  cases f
  · go_wp2_with fail
    go_ret
    exact ⟨rfl, BB⟩
  · go_wp2_with (refine wpList_load_box 30 (.tmp 3) rfl rfl (S0 + 1) rfl 30 #[.int .i64 t.places, .slice r.wa r.wl r.wc, .int .i64 t.pn, .int .i64 t.pd, .slice r.ea r.el r.ec, .slice r.ca r.cl r.cc, .slice r.ga r.gl r.gc, .int .i64 t.allow, .int .i64 t.unit, .int .i64 t.cap, .int .i64 t.paidBreak, .int .i64 t.autoAfter, .int .i64 t.autoBreak, .int .i64 t.dayReg, .int .i64 t.dayOver, .int .i64 t.weekReg, .int .i64 t.nightFrom, .int .i64 t.nightTo, .slice r.ra r.rl r.rc, .int .i64 t.diff, .int .i64 t.least, .int .i64 t.fault, .slice r.ta r.tl r.tc] hB setup_big ?_)
    refine (ref7_Few t r g w2 HT.out HFT.out).mono ?_
    rintro e3 w3 ⟨rfl, k3⟩
    replace BB := BB.trans (k3.mono BB.size)
    replace hA := box_keep k3 hA (block_lt hA)
    replace hB := box_keep k3 hB (block_lt hB)
    replace HS := Lib.hid (HS.out.below k3)
    replace HT := Lib.hid (HT.out.below k3)
    clear k3
    cases g
    · go_wp2_with fail
      go_ret
      exact ⟨rfl, BB⟩
    · go_wp2_with (refine wpList_load_box 30 (.tmp 2) rfl rfl S0 rfl 30 #[.int .i64 s.places, .slice q.wa q.wl q.wc, .int .i64 s.pn, .int .i64 s.pd, .slice q.ea q.el q.ec, .slice q.ca q.cl q.cc, .slice q.ga q.gl q.gc, .int .i64 s.allow, .int .i64 s.unit, .int .i64 s.cap, .int .i64 s.paidBreak, .int .i64 s.autoAfter, .int .i64 s.autoBreak, .int .i64 s.dayReg, .int .i64 s.dayOver, .int .i64 s.weekReg, .int .i64 s.nightFrom, .int .i64 s.nightTo, .slice q.ra q.rl q.rc, .int .i64 s.diff, .int .i64 s.least, .int .i64 s.fault, .slice q.ta q.tl q.tc] hA setup_big ?_)
      refine (setup_Write s q w3 HS.out).mono ?_
      rintro e4 w4 ⟨a, n, c, A, er, rfl, hw1, hr1, hnc, k4⟩
      have HW1 := Lib.hid hw1
      have HRA0 := Lib.hid hr1
      clear hw1 hr1
      replace BB := BB.trans (k4.mono BB.size)
      replace hA := box_keep k4 hA (block_lt hA)
      replace hB := box_keep k4 hB (block_lt hB)
      replace HS := Lib.hid (HS.out.below k4)
      replace HT := Lib.hid (HT.out.below k4)
      clear k4
      go_wp2_with (refine wpList_load_box 30 (.tmp 3) rfl rfl (S0 + 1) rfl 30 #[.int .i64 t.places, .slice r.wa r.wl r.wc, .int .i64 t.pn, .int .i64 t.pd, .slice r.ea r.el r.ec, .slice r.ca r.cl r.cc, .slice r.ga r.gl r.gc, .int .i64 t.allow, .int .i64 t.unit, .int .i64 t.cap, .int .i64 t.paidBreak, .int .i64 t.autoAfter, .int .i64 t.autoBreak, .int .i64 t.dayReg, .int .i64 t.dayOver, .int .i64 t.weekReg, .int .i64 t.nightFrom, .int .i64 t.nightTo, .slice r.ra r.rl r.rc, .int .i64 t.diff, .int .i64 t.least, .int .i64 t.fault, .slice r.ta r.tl r.tc] hB setup_big ?_)
      refine (setup_Write t r w4 HT.out).mono ?_
      rintro e6 w6 ⟨a2, n2, c2, B, er2, rfl, hw2, hr2, hnc2, k6⟩
      have HW2 := Lib.hid hw2
      have HRB0 := Lib.hid hr2
      clear hw2 hr2
      replace BB := BB.trans (k6.mono BB.size)
      replace hA := box_keep k6 hA (block_lt hA)
      replace hB := box_keep k6 hB (block_lt hB)
      replace HS := Lib.hid (HS.out.below k6)
      replace HT := Lib.hid (HT.out.below k6)
      replace HRA0 := Lib.hid (HRA0.out.below k6)
      clear k6
      cases cs
      · have h1 := HW1.out
        rw [writeP_no HCS.out] at h1
        simp only [Prod.mk.injEq] at h1
        obtain ⟨rfl, rfl⟩ := h1
        clear HW1 HW2 HRA0 HRB0
        go_wp2_with (refine wpList_load_box 30 (.tmp 2) rfl rfl S0 rfl 30 #[.int .i64 s.places, .slice q.wa q.wl q.wc, .int .i64 s.pn, .int .i64 s.pd, .slice q.ea q.el q.ec, .slice q.ca q.cl q.cc, .slice q.ga q.gl q.gc, .int .i64 s.allow, .int .i64 s.unit, .int .i64 s.cap, .int .i64 s.paidBreak, .int .i64 s.autoAfter, .int .i64 s.autoBreak, .int .i64 s.dayReg, .int .i64 s.dayOver, .int .i64 s.weekReg, .int .i64 s.nightFrom, .int .i64 s.nightTo, .slice q.ra q.rl q.rc, .int .i64 s.diff, .int .i64 s.least, .int .i64 s.fault, .slice q.ta q.tl q.tc] hA setup_big ?_)
        refine (setup_Check s q false w6 HS.out HCS.out).mono ?_
        rintro e7 w7 ⟨rfl, k7⟩
        go_wp2_with fail
        go_ret
        exact ⟨rfl, BB.trans (k7.mono BB.size)⟩
      · have h1 := HW1.out
        rw [writeP_yes HCS.out] at h1
        simp only [Prod.mk.injEq] at h1
        obtain ⟨hA1, rfl⟩ := h1
        cases ct
        · have h2 := HW2.out
          rw [writeP_no HCT.out] at h2
          simp only [Prod.mk.injEq] at h2
          obtain ⟨rfl, rfl⟩ := h2
          clear HW1 HW2 HRA0 HRB0 hA1
          go_wp2_with (refine wpList_load_box 30 (.tmp 2) rfl rfl S0 rfl 30 #[.int .i64 s.places, .slice q.wa q.wl q.wc, .int .i64 s.pn, .int .i64 s.pd, .slice q.ea q.el q.ec, .slice q.ca q.cl q.cc, .slice q.ga q.gl q.gc, .int .i64 s.allow, .int .i64 s.unit, .int .i64 s.cap, .int .i64 s.paidBreak, .int .i64 s.autoAfter, .int .i64 s.autoBreak, .int .i64 s.dayReg, .int .i64 s.dayOver, .int .i64 s.weekReg, .int .i64 s.nightFrom, .int .i64 s.nightTo, .slice q.ra q.rl q.rc, .int .i64 s.diff, .int .i64 s.least, .int .i64 s.fault, .slice q.ta q.tl q.tc] hA setup_big ?_)
          refine (setup_Check s q true w6 HS.out HCS.out).mono ?_
          rintro e7 w7 ⟨rfl, k7⟩
          replace BB := BB.trans (k7.mono BB.size)
          replace hA := box_keep k7 hA (block_lt hA)
          replace hB := box_keep k7 hB (block_lt hB)
          replace HS := Lib.hid (HS.out.below k7)
          replace HT := Lib.hid (HT.out.below k7)
          clear k7
          go_wp2_with (refine wpList_load_box 30 (.tmp 3) rfl rfl (S0 + 1) rfl 30 #[.int .i64 t.places, .slice r.wa r.wl r.wc, .int .i64 t.pn, .int .i64 t.pd, .slice r.ea r.el r.ec, .slice r.ca r.cl r.cc, .slice r.ga r.gl r.gc, .int .i64 t.allow, .int .i64 t.unit, .int .i64 t.cap, .int .i64 t.paidBreak, .int .i64 t.autoAfter, .int .i64 t.autoBreak, .int .i64 t.dayReg, .int .i64 t.dayOver, .int .i64 t.weekReg, .int .i64 t.nightFrom, .int .i64 t.nightTo, .slice r.ra r.rl r.rc, .int .i64 t.diff, .int .i64 t.least, .int .i64 t.fault, .slice r.ta r.tl r.tc] hB setup_big ?_)
          refine (setup_Check t r false w7 HT.out HCT.out).mono ?_
          rintro e8 w8 ⟨rfl, k8⟩
          go_wp2_with fail
          go_ret
          exact ⟨rfl, BB.trans (k8.mono BB.size)⟩
        · have h2 := HW2.out
          rw [writeP_yes HCT.out] at h2
          simp only [Prod.mk.injEq] at h2
          obtain ⟨hB1, rfl⟩ := h2
          have hap := apart HCS.out HCT.out
          rw [hA1, hB1] at hap
          have hln := HRA0.out.1
          have hln2 := HRB0.out.1
          rw [hln, hln2] at hap
          obtain ⟨m, hm⟩ : ∃ m, min n n2 = m := ⟨_, rfl⟩
          rw [hm] at hap
          obtain ⟨x, hx⟩ : ∃ x, decide (numbersP s = numbersP t) = x := ⟨_, rfl⟩
          have heq : decide (A.take m = B.take m) = x := by rw [← hx]; exact decide_eq_decide.2 hap
          have HEQ := Lib.hid heq
          have HX := Lib.hid hx
          have hle1 := setup_bytes_le HCS.out
          have hle2 := setup_bytes_le HCT.out
          rw [hA1] at hle1
          rw [hB1] at hle2
          clear HW1 HW2 hap hx heq hA1 hB1
          rcases Nat.le_total n n2 with hle | hle
          · skip
            obtain rfl : n = m := by omega
            have hmin : min (n : Int) (n2 : Int) = (n : Int) := by omega
            have HRA := Lib.hid (row_take HRA0.out n (by omega))
            have HRB := Lib.hid (row_take HRB0.out n (by omega))
            have hm0 : (0 : Int) ≤ (n : Int) := by omega
            have hmc : (n : Int) ≤ (c : Int) := by omega
            have hmc2 : (n : Int) ≤ (c2 : Int) := by omega
            have hse := str_eq HRA.out.2.2.1 HRB.out.2.2.1 HEQ.out
            go_wp2_with fail
            trace "at9"
            have hc1 := conv_row (HRA.out.below ((Below.refl _ _).drew)) c
            have hc2 := conv_row (HRB.out.below ((Below.refl _ _).drew)) c2
            replace hA : w6.drew.heap[S0]? = _ := hA
            replace hB : w6.drew.heap[S0 + 1]? = _ := hB
            refine wp_region_held_drew (S := (fun w' => w'.heap[S0]? = some (.cells #[.int .i64 s.places, .slice q.wa q.wl q.wc, .int .i64 s.pn, .int .i64 s.pd, .slice q.ea q.el q.ec, .slice q.ca q.cl q.cc, .slice q.ga q.gl q.gc, .int .i64 s.allow, .int .i64 s.unit, .int .i64 s.cap, .int .i64 s.paidBreak, .int .i64 s.autoAfter, .int .i64 s.autoBreak, .int .i64 s.dayReg, .int .i64 s.dayOver, .int .i64 s.weekReg, .int .i64 s.nightFrom, .int .i64 s.nightTo, .slice q.ra q.rl q.rc, .int .i64 s.diff, .int .i64 s.least, .int .i64 s.fault, .slice q.ta q.tl q.tc] 30) ∧ w'.heap[S0 + 1]? = some (.cells #[.int .i64 t.places, .slice r.wa r.wl r.wc, .int .i64 t.pn, .int .i64 t.pd, .slice r.ea r.el r.ec, .slice r.ca r.cl r.cc, .slice r.ga r.gl r.gc, .int .i64 t.allow, .int .i64 t.unit, .int .i64 t.cap, .int .i64 t.paidBreak, .int .i64 t.autoAfter, .int .i64 t.autoBreak, .int .i64 t.dayReg, .int .i64 t.dayOver, .int .i64 t.weekReg, .int .i64 t.nightFrom, .int .i64 t.nightTo, .slice r.ra r.rl r.rc, .int .i64 t.diff, .int .i64 t.least, .int .i64 t.fault, .slice r.ta r.tl r.tc] 30) ∧ (convert 31 9 (.slice a n c)).run Try.prog w' = .ok (.string (strOfNums (A.take n))) w' ∧ (convert 31 9 (.slice a2 n c2)).run Try.prog w' = .ok (.string (strOfNums (B.take n))) w')) (by kernel_rfl) ?_ (fun hHeld => ?_)
            · exact ⟨hA, hB, hc1, hc2⟩
            refine wpAnyH_take (i := 0) (oi := ⟨some 53, _, _, _, _, none⟩) (v := ?_) rfl (by kernel_rfl) (by kernel_rfl) (by kernel_rfl) (fun _ _ _ h => h) (Or.inl ⟨by rfl, ?_⟩) (by assumption) ?_
            rotate_left
            · intro wz hSw; (try dsimp only at hSw); go_simp; (try with_reducible rfl)
            try simp only [Act.put, List.setIfInBounds_toArray, List.set_cons_zero, List.set_cons_succ]
            refine wpAnyH_take (i := 1) (oi := ⟨some 54, _, _, _, _, none⟩) (v := ?_) rfl (by kernel_rfl) (by kernel_rfl) (by kernel_rfl) (fun _ _ _ h => h) (Or.inl ⟨by rfl, ?_⟩) (by assumption) ?_
            rotate_left
            · intro wz hSw; (try dsimp only at hSw); go_simp; (try with_reducible rfl)
            try simp only [Act.put, List.setIfInBounds_toArray, List.set_cons_zero, List.set_cons_succ]
            refine wpAnyH_take (i := 2) (oi := ⟨some 55, _, _, _, _, some (1, true)⟩) (v := ?_) rfl (by kernel_rfl) (by kernel_rfl) (by kernel_rfl) (fun _ _ _ h => h) (Or.inl ⟨by rfl, ?_⟩) (by assumption) ?_
            rotate_left
            · intro wz hSw; (try dsimp only at hSw); go_simp; (try with_reducible rfl)
            try simp only [Act.put, List.setIfInBounds_toArray, List.set_cons_zero, List.set_cons_succ]
            refine wpAnyH_take (i := 3) (oi := ⟨some 56, _, _, _, _, some (1, true)⟩) (v := ?_) rfl (by kernel_rfl) (by kernel_rfl) (by kernel_rfl) (fun _ _ _ h => h) (Or.inl ⟨by rfl, ?_⟩) (by assumption) ?_
            rotate_left
            · intro wz hSw; (try dsimp only at hSw); go_simp; (try with_reducible rfl)
            try simp only [Act.put, List.setIfInBounds_toArray, List.set_cons_zero, List.set_cons_succ]
            refine wpAnyH_take (i := 4) (oi := ⟨some 57, _, _, _, _, some (1, true)⟩) (v := ?_) rfl (by kernel_rfl) (by kernel_rfl) (by kernel_rfl) (fun _ _ _ h => h) (Or.inl ⟨by rfl, ?_⟩) (by assumption) ?_
            rotate_left
            · intro wz hSw; (try dsimp only at hSw); go_simp; (try with_reducible rfl)
            try simp only [Act.put, List.setIfInBounds_toArray, List.set_cons_zero, List.set_cons_succ]
            refine wpAnyH_take (i := 5) (oi := ⟨some 58, _, _, _, _, some (1, true)⟩) (v := ?_) rfl (by kernel_rfl) (by kernel_rfl) (by kernel_rfl) (fun _ _ _ h => h) (Or.inl ⟨by rfl, ?_⟩) (by assumption) ?_
            rotate_left
            · intro wz hSw; (try dsimp only at hSw); go_simp; (try with_reducible rfl)
            try simp only [Act.put, List.setIfInBounds_toArray, List.set_cons_zero, List.set_cons_succ]
            refine wpAnyH_take (i := 6) (oi := ⟨some 59, _, _, _, _, some (1, true)⟩) (v := ?_) rfl (by kernel_rfl) (by kernel_rfl) (by kernel_rfl) (fun _ _ _ h => h) (Or.inl ⟨by rfl, ?_⟩) (by assumption) ?_
            rotate_left
            · intro wz hSw; (try dsimp only at hSw); go_simp; (try with_reducible rfl)
            try simp only [Act.put, List.setIfInBounds_toArray, List.set_cons_zero, List.set_cons_succ]
            refine wpAnyH_take (i := 7) (oi := ⟨some 60, _, _, _, _, some (1, true)⟩) (v := ?_) rfl (by kernel_rfl) (by kernel_rfl) (by kernel_rfl) (fun _ _ _ h => h) (Or.inl ⟨by rfl, ?_⟩) (by assumption) ?_
            rotate_left
            · intro wz hSw; (try dsimp only at hSw); go_simp; (try with_reducible rfl)
            try simp only [Act.put, List.setIfInBounds_toArray, List.set_cons_zero, List.set_cons_succ]
            refine wpAnyH_take (i := 8) (oi := ⟨some 61, _, _, _, _, some (1, true)⟩) (v := ?_) rfl (by kernel_rfl) (by kernel_rfl) (by kernel_rfl) (fun _ _ _ h => h) (Or.inl ⟨by rfl, ?_⟩) (by assumption) ?_
            rotate_left
            · intro wz hSw; (try dsimp only at hSw); go_simp; (try with_reducible rfl)
            try simp only [Act.put, List.setIfInBounds_toArray, List.set_cons_zero, List.set_cons_succ]
            refine wpAnyH_take (i := 9) (oi := ⟨some 62, _, _, _, _, some (1, true)⟩) (v := ?_) rfl (by kernel_rfl) (by kernel_rfl) (by kernel_rfl) (fun _ _ _ h => h) (Or.inl ⟨by rfl, ?_⟩) (by assumption) ?_
            rotate_left
            · intro wz hSw; (try dsimp only at hSw); go_simp; (try with_reducible rfl)
            try simp only [Act.put, List.setIfInBounds_toArray, List.set_cons_zero, List.set_cons_succ]
            refine wpAnyH_take (i := 10) (oi := ⟨some 63, _, _, _, _, some (1, true)⟩) (v := ?_) rfl (by kernel_rfl) (by kernel_rfl) (by kernel_rfl) (fun _ _ _ h => h) (Or.inl ⟨by rfl, ?_⟩) (by assumption) ?_
            rotate_left
            · intro wz hSw; (try dsimp only at hSw); go_simp; (try with_reducible rfl)
            try simp only [Act.put, List.setIfInBounds_toArray, List.set_cons_zero, List.set_cons_succ]
            refine wpAnyH_take (i := 11) (oi := ⟨some 64, _, _, _, _, some (1, true)⟩) (v := _) rfl (by kernel_rfl) (by kernel_rfl) (by kernel_rfl) (fun _ _ _ h => h) (Or.inl ⟨by rfl, runs_load_box 30 (.tmp 2) rfl S0 rfl 30 _ (fun _ h => h.1) setup_big⟩) (by assumption) ?_
            try simp only [Act.put, List.setIfInBounds_toArray, List.set_cons_zero, List.set_cons_succ]
            refine wpAnyH_take (i := 12) (oi := ⟨some 65, _, _, _, _, some (1, true)⟩) (v := _) rfl (by kernel_rfl) (by kernel_rfl) (by kernel_rfl) (fun _ _ _ h => h) (Or.inl ⟨by rfl, runs_load_box 30 (.tmp 3) rfl (S0 + 1) rfl 30 _ (fun _ h => h.2.1) setup_big⟩) (by assumption) ?_
            try simp only [Act.put, List.setIfInBounds_toArray, List.set_cons_zero, List.set_cons_succ]
            refine wpAnyH_ready (rs := [13]) (by kernel_rfl) (by simp) ?_
            refine AllReadyH.cons (o := ⟨some 66, _, _, _, _, some (1, true)⟩) rfl (fun K hK => ?_) AllReadyH.nil
            go_simp
            refine (ref7_Same s t q r x _ (HS.out.below ((Below.refl _ _).drew)) (HT.out.below ((Below.refl _ _).drew)) HFS.out HFT.out HX.out).mono ?_
            rintro e7 w7 ⟨rfl, k7⟩
            replace hA := box_keep k7 hA (block_lt hA)
            replace hB := box_keep k7 hB (block_lt hB)
            replace hc1 := conv_row (HRA.out.below ((Below.refl _ _).drew) |>.below k7) c
            replace hc2 := conv_row (HRB.out.below ((Below.refl _ _).drew) |>.below k7) c2
            refine hK.out _ _ ?_ (fun hHeld => ?_)
            · exact ⟨hA, hB, hc1, hc2⟩
            clear hK K
            try simp only [Act.put, List.setIfInBounds_toArray, List.set_cons_zero, List.set_cons_succ]
            refine wpAnyH_take (i := 14) (oi := ⟨some 67, _, _, _, _, some (1, true)⟩) (v := ?_) rfl (by kernel_rfl) (by kernel_rfl) (by kernel_rfl) (fun _ _ _ h => h) (Or.inl ⟨by rfl, ?_⟩) (by assumption) ?_
            rotate_left
            · intro wz hSw; (try dsimp only at hSw); go_simp; (try with_reducible rfl)
            try simp only [Act.put, List.setIfInBounds_toArray, List.set_cons_zero, List.set_cons_succ]
            refine wpAnyH_take (i := 15) (oi := ⟨some 68, _, _, _, _, none⟩) (v := ?_) rfl (by kernel_rfl) (by kernel_rfl) (by kernel_rfl) (fun _ _ _ h => h) (Or.inl ⟨by rfl, ?_⟩) (by assumption) ?_
            rotate_left
            · intro wz hSw; (try dsimp only at hSw); go_simp; (try with_reducible rfl)
            try simp only [Act.put, List.setIfInBounds_toArray, List.set_cons_zero, List.set_cons_succ]
            refine wpAnyH_take (i := 16) (oi := ⟨some 4, _, _, _, _, none⟩) (v := ?_) rfl (by kernel_rfl) (by kernel_rfl) (by kernel_rfl) (fun _ _ _ h => h) (Or.inl ⟨by rfl, ?_⟩) (by assumption) ?_
            rotate_left
            · intro wz hSw; (try dsimp only at hSw); go_simp; (try with_reducible rfl)
            try simp only [Act.put, List.setIfInBounds_toArray, List.set_cons_zero, List.set_cons_succ]
            refine wpAnyH_done (by kernel_rfl) ?_ _
            go_wp2_with fail
            go_ret
            exact ⟨by cases x <;> rfl, BB.drew.trans (k7.mono BB.size)⟩
          · skip
            obtain rfl : n2 = m := by omega
            have hmin : min (n : Int) (n2 : Int) = (n2 : Int) := by omega
            have HRA := Lib.hid (row_take HRA0.out n2 (by omega))
            have HRB := Lib.hid (row_take HRB0.out n2 (by omega))
            have hm0 : (0 : Int) ≤ (n2 : Int) := by omega
            have hmc : (n2 : Int) ≤ (c : Int) := by omega
            have hmc2 : (n2 : Int) ≤ (c2 : Int) := by omega
            have hse := str_eq HRA.out.2.2.1 HRB.out.2.2.1 HEQ.out
            go_wp2_with fail
            trace "at9"
            have hc1 := conv_row (HRA.out.below ((Below.refl _ _).drew)) c
            have hc2 := conv_row (HRB.out.below ((Below.refl _ _).drew)) c2
            replace hA : w6.drew.heap[S0]? = _ := hA
            replace hB : w6.drew.heap[S0 + 1]? = _ := hB
            refine wp_region_held_drew (S := (fun w' => w'.heap[S0]? = some (.cells #[.int .i64 s.places, .slice q.wa q.wl q.wc, .int .i64 s.pn, .int .i64 s.pd, .slice q.ea q.el q.ec, .slice q.ca q.cl q.cc, .slice q.ga q.gl q.gc, .int .i64 s.allow, .int .i64 s.unit, .int .i64 s.cap, .int .i64 s.paidBreak, .int .i64 s.autoAfter, .int .i64 s.autoBreak, .int .i64 s.dayReg, .int .i64 s.dayOver, .int .i64 s.weekReg, .int .i64 s.nightFrom, .int .i64 s.nightTo, .slice q.ra q.rl q.rc, .int .i64 s.diff, .int .i64 s.least, .int .i64 s.fault, .slice q.ta q.tl q.tc] 30) ∧ w'.heap[S0 + 1]? = some (.cells #[.int .i64 t.places, .slice r.wa r.wl r.wc, .int .i64 t.pn, .int .i64 t.pd, .slice r.ea r.el r.ec, .slice r.ca r.cl r.cc, .slice r.ga r.gl r.gc, .int .i64 t.allow, .int .i64 t.unit, .int .i64 t.cap, .int .i64 t.paidBreak, .int .i64 t.autoAfter, .int .i64 t.autoBreak, .int .i64 t.dayReg, .int .i64 t.dayOver, .int .i64 t.weekReg, .int .i64 t.nightFrom, .int .i64 t.nightTo, .slice r.ra r.rl r.rc, .int .i64 t.diff, .int .i64 t.least, .int .i64 t.fault, .slice r.ta r.tl r.tc] 30) ∧ (convert 31 9 (.slice a n2 c)).run Try.prog w' = .ok (.string (strOfNums (A.take n2))) w' ∧ (convert 31 9 (.slice a2 n2 c2)).run Try.prog w' = .ok (.string (strOfNums (B.take n2))) w')) (by kernel_rfl) ?_ (fun hHeld => ?_)
            · exact ⟨hA, hB, hc1, hc2⟩
            refine wpAnyH_take (i := 0) (oi := ⟨some 53, _, _, _, _, none⟩) (v := ?_) rfl (by kernel_rfl) (by kernel_rfl) (by kernel_rfl) (fun _ _ _ h => h) (Or.inl ⟨by rfl, ?_⟩) (by assumption) ?_
            rotate_left
            · intro wz hSw; (try dsimp only at hSw); go_simp; (try with_reducible rfl)
            try simp only [Act.put, List.setIfInBounds_toArray, List.set_cons_zero, List.set_cons_succ]
            refine wpAnyH_take (i := 1) (oi := ⟨some 54, _, _, _, _, none⟩) (v := ?_) rfl (by kernel_rfl) (by kernel_rfl) (by kernel_rfl) (fun _ _ _ h => h) (Or.inl ⟨by rfl, ?_⟩) (by assumption) ?_
            rotate_left
            · intro wz hSw; (try dsimp only at hSw); go_simp; (try with_reducible rfl)
            try simp only [Act.put, List.setIfInBounds_toArray, List.set_cons_zero, List.set_cons_succ]
            refine wpAnyH_take (i := 2) (oi := ⟨some 55, _, _, _, _, some (1, true)⟩) (v := ?_) rfl (by kernel_rfl) (by kernel_rfl) (by kernel_rfl) (fun _ _ _ h => h) (Or.inl ⟨by rfl, ?_⟩) (by assumption) ?_
            rotate_left
            · intro wz hSw; (try dsimp only at hSw); go_simp; (try with_reducible rfl)
            try simp only [Act.put, List.setIfInBounds_toArray, List.set_cons_zero, List.set_cons_succ]
            refine wpAnyH_take (i := 3) (oi := ⟨some 56, _, _, _, _, some (1, true)⟩) (v := ?_) rfl (by kernel_rfl) (by kernel_rfl) (by kernel_rfl) (fun _ _ _ h => h) (Or.inl ⟨by rfl, ?_⟩) (by assumption) ?_
            rotate_left
            · intro wz hSw; (try dsimp only at hSw); go_simp; (try with_reducible rfl)
            try simp only [Act.put, List.setIfInBounds_toArray, List.set_cons_zero, List.set_cons_succ]
            refine wpAnyH_take (i := 4) (oi := ⟨some 57, _, _, _, _, some (1, true)⟩) (v := ?_) rfl (by kernel_rfl) (by kernel_rfl) (by kernel_rfl) (fun _ _ _ h => h) (Or.inl ⟨by rfl, ?_⟩) (by assumption) ?_
            rotate_left
            · intro wz hSw; (try dsimp only at hSw); go_simp; (try with_reducible rfl)
            try simp only [Act.put, List.setIfInBounds_toArray, List.set_cons_zero, List.set_cons_succ]
            refine wpAnyH_take (i := 5) (oi := ⟨some 58, _, _, _, _, some (1, true)⟩) (v := ?_) rfl (by kernel_rfl) (by kernel_rfl) (by kernel_rfl) (fun _ _ _ h => h) (Or.inl ⟨by rfl, ?_⟩) (by assumption) ?_
            rotate_left
            · intro wz hSw; (try dsimp only at hSw); go_simp; (try with_reducible rfl)
            try simp only [Act.put, List.setIfInBounds_toArray, List.set_cons_zero, List.set_cons_succ]
            refine wpAnyH_take (i := 6) (oi := ⟨some 59, _, _, _, _, some (1, true)⟩) (v := ?_) rfl (by kernel_rfl) (by kernel_rfl) (by kernel_rfl) (fun _ _ _ h => h) (Or.inl ⟨by rfl, ?_⟩) (by assumption) ?_
            rotate_left
            · intro wz hSw; (try dsimp only at hSw); go_simp; (try with_reducible rfl)
            try simp only [Act.put, List.setIfInBounds_toArray, List.set_cons_zero, List.set_cons_succ]
            refine wpAnyH_take (i := 7) (oi := ⟨some 60, _, _, _, _, some (1, true)⟩) (v := ?_) rfl (by kernel_rfl) (by kernel_rfl) (by kernel_rfl) (fun _ _ _ h => h) (Or.inl ⟨by rfl, ?_⟩) (by assumption) ?_
            rotate_left
            · intro wz hSw; (try dsimp only at hSw); go_simp; (try with_reducible rfl)
            try simp only [Act.put, List.setIfInBounds_toArray, List.set_cons_zero, List.set_cons_succ]
            refine wpAnyH_take (i := 8) (oi := ⟨some 61, _, _, _, _, some (1, true)⟩) (v := ?_) rfl (by kernel_rfl) (by kernel_rfl) (by kernel_rfl) (fun _ _ _ h => h) (Or.inl ⟨by rfl, ?_⟩) (by assumption) ?_
            rotate_left
            · intro wz hSw; (try dsimp only at hSw); go_simp; (try with_reducible rfl)
            try simp only [Act.put, List.setIfInBounds_toArray, List.set_cons_zero, List.set_cons_succ]
            refine wpAnyH_take (i := 9) (oi := ⟨some 62, _, _, _, _, some (1, true)⟩) (v := ?_) rfl (by kernel_rfl) (by kernel_rfl) (by kernel_rfl) (fun _ _ _ h => h) (Or.inl ⟨by rfl, ?_⟩) (by assumption) ?_
            rotate_left
            · intro wz hSw; (try dsimp only at hSw); go_simp; (try with_reducible rfl)
            try simp only [Act.put, List.setIfInBounds_toArray, List.set_cons_zero, List.set_cons_succ]
            refine wpAnyH_take (i := 10) (oi := ⟨some 63, _, _, _, _, some (1, true)⟩) (v := ?_) rfl (by kernel_rfl) (by kernel_rfl) (by kernel_rfl) (fun _ _ _ h => h) (Or.inl ⟨by rfl, ?_⟩) (by assumption) ?_
            rotate_left
            · intro wz hSw; (try dsimp only at hSw); go_simp; (try with_reducible rfl)
            try simp only [Act.put, List.setIfInBounds_toArray, List.set_cons_zero, List.set_cons_succ]
            refine wpAnyH_take (i := 11) (oi := ⟨some 64, _, _, _, _, some (1, true)⟩) (v := _) rfl (by kernel_rfl) (by kernel_rfl) (by kernel_rfl) (fun _ _ _ h => h) (Or.inl ⟨by rfl, runs_load_box 30 (.tmp 2) rfl S0 rfl 30 _ (fun _ h => h.1) setup_big⟩) (by assumption) ?_
            try simp only [Act.put, List.setIfInBounds_toArray, List.set_cons_zero, List.set_cons_succ]
            refine wpAnyH_take (i := 12) (oi := ⟨some 65, _, _, _, _, some (1, true)⟩) (v := _) rfl (by kernel_rfl) (by kernel_rfl) (by kernel_rfl) (fun _ _ _ h => h) (Or.inl ⟨by rfl, runs_load_box 30 (.tmp 3) rfl (S0 + 1) rfl 30 _ (fun _ h => h.2.1) setup_big⟩) (by assumption) ?_
            try simp only [Act.put, List.setIfInBounds_toArray, List.set_cons_zero, List.set_cons_succ]
            refine wpAnyH_ready (rs := [13]) (by kernel_rfl) (by simp) ?_
            refine AllReadyH.cons (o := ⟨some 66, _, _, _, _, some (1, true)⟩) rfl (fun K hK => ?_) AllReadyH.nil
            go_simp
            refine (ref7_Same s t q r x _ (HS.out.below ((Below.refl _ _).drew)) (HT.out.below ((Below.refl _ _).drew)) HFS.out HFT.out HX.out).mono ?_
            rintro e7 w7 ⟨rfl, k7⟩
            replace hA := box_keep k7 hA (block_lt hA)
            replace hB := box_keep k7 hB (block_lt hB)
            replace hc1 := conv_row (HRA.out.below ((Below.refl _ _).drew) |>.below k7) c
            replace hc2 := conv_row (HRB.out.below ((Below.refl _ _).drew) |>.below k7) c2
            refine hK.out _ _ ?_ (fun hHeld => ?_)
            · exact ⟨hA, hB, hc1, hc2⟩
            clear hK K
            try simp only [Act.put, List.setIfInBounds_toArray, List.set_cons_zero, List.set_cons_succ]
            refine wpAnyH_take (i := 14) (oi := ⟨some 67, _, _, _, _, some (1, true)⟩) (v := ?_) rfl (by kernel_rfl) (by kernel_rfl) (by kernel_rfl) (fun _ _ _ h => h) (Or.inl ⟨by rfl, ?_⟩) (by assumption) ?_
            rotate_left
            · intro wz hSw; (try dsimp only at hSw); go_simp; (try with_reducible rfl)
            try simp only [Act.put, List.setIfInBounds_toArray, List.set_cons_zero, List.set_cons_succ]
            refine wpAnyH_take (i := 15) (oi := ⟨some 68, _, _, _, _, none⟩) (v := ?_) rfl (by kernel_rfl) (by kernel_rfl) (by kernel_rfl) (fun _ _ _ h => h) (Or.inl ⟨by rfl, ?_⟩) (by assumption) ?_
            rotate_left
            · intro wz hSw; (try dsimp only at hSw); go_simp; (try with_reducible rfl)
            try simp only [Act.put, List.setIfInBounds_toArray, List.set_cons_zero, List.set_cons_succ]
            refine wpAnyH_take (i := 16) (oi := ⟨some 4, _, _, _, _, none⟩) (v := ?_) rfl (by kernel_rfl) (by kernel_rfl) (by kernel_rfl) (fun _ _ _ h => h) (Or.inl ⟨by rfl, ?_⟩) (by assumption) ?_
            rotate_left
            · intro wz hSw; (try dsimp only at hSw); go_simp; (try with_reducible rfl)
            try simp only [Act.put, List.setIfInBounds_toArray, List.set_cons_zero, List.set_cons_succ]
            refine wpAnyH_done (by kernel_rfl) ?_ _
            go_wp2_with fail
            go_ret
            exact ⟨by cases x <;> rfl, BB.drew.trans (k7.mono BB.size)⟩
end Go.Proofs.Ytnjckaifgmliaaa
