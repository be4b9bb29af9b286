/- THE WALKS of layer 9's reference, second part: from. -/
import Derived.Test.YtnjckaifgmliaaaRef09A
set_option linter.unusedSimpArgs false
set_option linter.unusedVariables false
namespace Go.Proofs.Ytnjckaifgmliaaa
open Go.RowKit Lu

/-- A row of numbers in block g. -/
structure RowAt (W : World) (g P : Nat) (r : Nat → Int) : Prop where
  lt : g < W.heap.size
  cell : ∀ j, j < P → W.cell? ⟨g, j, none⟩ = some (.int .i64 (r j))
  fz : ∀ j, j < P → W.frozen? ⟨g, j, none⟩ = false
  ty : ∃ c z, W.heap[g]? = some (.cells c 3 z)
theorem RowAt.below {W W' : World} {g P : Nat} {r : Nat → Int} (h : RowAt W g P r) (k : Below W.heap.size W W') : RowAt W' g P r :=
  ⟨Nat.lt_of_lt_of_le h.lt k.size, fun j hj => keepC k (h.cell j hj) h.lt, fun j hj => keepF k (h.fz j hj) h.lt, by obtain ⟨c, z, hc⟩ := h.ty; exact ⟨c, z, (k.block g h.lt).trans hc⟩⟩
theorem RowAt.drew {W : World} {g P : Nat} {r : Nat → Int} (h : RowAt W g P r) : RowAt W.drew g P r := ⟨h.lt, h.cell, h.fz, h.ty⟩
theorem RowAt.set {W : World} {g P : Nat} {r : Nat → Int} (h : RowAt W g P r) (a : Nat) (ha : a < P) (v : Int) : RowAt (W.setCell ⟨g, a, none⟩ (.int .i64 v)) g P (put r a v) := by
  have k : Below g W (W.setCell ⟨g, a, none⟩ (.int .i64 v)) := by go_grown
  refine ⟨Nat.lt_of_lt_of_le h.lt k.size, fun j hj => ?_, fun j hj => by simp [go_sem, h.fz j hj], by obtain ⟨c, z, hc⟩ := h.ty; exact ⟨c.setIfInBounds a (.int .i64 v), z, by simp [World.setCell, Array.getElem?_modify, hc]⟩⟩
  have hc := h.cell a ha
  unfold put
  by_cases e : j = a
  · subst e
    simp [go_sem, hc]
  · have hcj := h.cell j hj
    have e' : ¬ a = j := fun x => e x.symm
    simp [go_sem, hcj, e, e']
theorem RowAt.same {W : World} {g P : Nat} {r r' : Nat → Int} (h : RowAt W g P r) (e : ∀ j, j < P → r j = r' j) : RowAt W g P r' := ⟨h.lt, fun j hj => by rw [← e j hj]; exact h.cell j hj, h.fz, h.ty⟩
/-- A row's numbers lie between -1 and N. -/
def Bd (P : Nat) (N : Int) (r : Nat → Int) : Prop := ∀ v, v < P → -1 ≤ r v ∧ r v ≤ N
theorem Bd.half {P : Nat} {N : Int} {r : Nat → Int} (h : Bd P N r) {u v : Nat} (hu : u < P) (hv : v < P) {m : Int} (hm : 0 ≤ m ∧ m ≤ 10000) (hN : 0 ≤ N) : Bd P (N + 10000) (put r v (shorterP (r v) (longerP (r u) m))) := by
  intro j hj
  have h1 := h u hu
  have h2 := h v hv
  have h3 := h j hj
  unfold put
  split
  · unfold shorterP longerP
    split <;> split <;> omega
  · omega
theorem ownRowAt {w : World} {base : Nat} {g cap n : Nat} {xs : List Int} (h : w.ownsRow base 3 1 (.slice (some ⟨g, 0, none⟩) n cap) n (xs.map (Value.int .i64))) : RowAt w g n (fun j => xs.getD j 0) ∧ base ≤ g := by
  have hl : xs.length = n := by simpa using h.1
  have hlt := h.lt g rfl
  refine ⟨⟨hlt.2, fun j hj => ?_, fun j _ => h.frozenAt j, ?_⟩, hlt.1⟩
  rotate_left
  · rcases h.2 with ⟨h', _⟩ | ⟨g', cap', cur, h', hb, hg, _⟩
    · cases h'
    · simp only [Value.slice.injEq, Option.some.injEq, Addr.mk.injEq, and_true, true_and] at h'
      obtain ⟨rfl, rfl⟩ := h'
      exact ⟨cur, _, hg⟩
  rw [h.cellAt j (by omega), List.getElem?_map, List.getElem?_eq_getElem (show j < xs.length by omega), List.getD_eq_getElem?_getD, List.getElem?_eq_getElem (show j < xs.length by omega)]
  rfl
/-- The row that the reference comes to. -/
def rowP (ws : WayL) (P a : Nat) : Nat → Int := rounds (fun v => if v = a then 0 else -1) ws P
theorem rowP_table {P : Nat} {ws : WayL} (hw : WaysOk P ws) {a : Nat} (ha : a < P) : ∀ v, v < P → rowP ws P a v = tableP P ws a v := fun v hv => rounds_dist hw (tableP_dists hw) ha (fun _ _ => rfl) hv
theorem mp_late {A B : Prop} (h : A → B) (a : A) : B := h a
def FromDone (s : Setup) (a : Nat) (w : World) (e : Ending) (w' : World) : Prop :=
  ∃ g cap, e = .returned (.slice (some ⟨g, 0, none⟩) s.places.toNat cap) ∧ RowAt w' g s.places.toNat (tableP s.places.toNat s.ways a) ∧ w.heap.size ≤ g ∧ Below w.heap.size w w'


set_option maxRecDepth 100000 in
set_option maxHeartbeats 8000000 in
theorem ref9_from (s : Setup) (q : Slices) (P a : Nat) (w : World) (h : SetupIs w s q) (hPl : s.places = P) (hP : 1 ≤ P ∧ P ≤ 16) (hw : WaysOk P s.ways) (hwl : s.ways.length ≤ 64) (ha : a < P) :
    Calls Try.prog 98 #[.agg #[.int .i64 s.places, .slice q.wa q.wl q.wc, .int .i64 s.pn, .int .i64 s.pd, .slice q.ea q.el q.ec, .slice q.ca q.cl q.cc, .slice q.ga q.gl q.gc, .int .i64 s.allow, .int .i64 s.unit, .int .i64 s.cap, .int .i64 s.paidBreak, .int .i64 s.autoAfter, .int .i64 s.autoBreak, .int .i64 s.dayReg, .int .i64 s.dayOver, .int .i64 s.weekReg, .int .i64 s.nightFrom, .int .i64 s.nightTo, .slice q.ra q.rl q.rc, .int .i64 s.diff, .int .i64 s.least, .int .i64 s.fault, .slice q.ta q.tl q.tc], .int .i64 (a : Int)] w (FromDone s a w) := by
  obtain ⟨i0, hi, hz0, hz1, hz2⟩ := info_parts infoInt
  have cN : (w.alloc (.cells #[.int .i64 s.places, .slice q.wa q.wl q.wc, .int .i64 s.pn, .int .i64 s.pd, .slice q.ea q.el q.ec, .slice q.ca q.cl q.cc, .slice q.ga q.gl q.gc, .int .i64 s.allow, .int .i64 s.unit, .int .i64 s.cap, .int .i64 s.paidBreak, .int .i64 s.autoAfter, .int .i64 s.autoBreak, .int .i64 s.dayReg, .int .i64 s.dayOver, .int .i64 s.weekReg, .int .i64 s.nightFrom, .int .i64 s.nightTo, .slice q.ra q.rl q.rc, .int .i64 s.diff, .int .i64 s.least, .int .i64 s.fault, .slice q.ta q.tl q.tc] 30)).cell? ⟨w.heap.size, 0, none⟩ = some (.int .i64 (P : Int)) := by rw [← hPl]; simp [go_sem]
  have cW : (w.alloc (.cells #[.int .i64 s.places, .slice q.wa q.wl q.wc, .int .i64 s.pn, .int .i64 s.pd, .slice q.ea q.el q.ec, .slice q.ca q.cl q.cc, .slice q.ga q.gl q.gc, .int .i64 s.allow, .int .i64 s.unit, .int .i64 s.cap, .int .i64 s.paidBreak, .int .i64 s.autoAfter, .int .i64 s.autoBreak, .int .i64 s.dayReg, .int .i64 s.dayOver, .int .i64 s.weekReg, .int .i64 s.nightFrom, .int .i64 s.nightTo, .slice q.ra q.rl q.rc, .int .i64 s.diff, .int .i64 s.least, .int .i64 s.fault, .slice q.ta q.tl q.tc] 30)).cell? ⟨w.heap.size, 1, none⟩ = some (.slice q.wa q.wl q.wc) := by simp [go_sem]
  have z0 : (w.alloc (.cells #[.int .i64 s.places, .slice q.wa q.wl q.wc, .int .i64 s.pn, .int .i64 s.pd, .slice q.ea q.el q.ec, .slice q.ca q.cl q.cc, .slice q.ga q.gl q.gc, .int .i64 s.allow, .int .i64 s.unit, .int .i64 s.cap, .int .i64 s.paidBreak, .int .i64 s.autoAfter, .int .i64 s.autoBreak, .int .i64 s.dayReg, .int .i64 s.dayOver, .int .i64 s.weekReg, .int .i64 s.nightFrom, .int .i64 s.nightTo, .slice q.ra q.rl q.rc, .int .i64 s.diff, .int .i64 s.least, .int .i64 s.fault, .slice q.ta q.tl q.tc] 30)).heap.size = w.heap.size + 1 := by simp
  have B0 : Below w.heap.size w (w.alloc (.cells #[.int .i64 s.places, .slice q.wa q.wl q.wc, .int .i64 s.pn, .int .i64 s.pd, .slice q.ea q.el q.ec, .slice q.ca q.cl q.cc, .slice q.ga q.gl q.gc, .int .i64 s.allow, .int .i64 s.unit, .int .i64 s.cap, .int .i64 s.paidBreak, .int .i64 s.autoAfter, .int .i64 s.autoBreak, .int .i64 s.dayReg, .int .i64 s.dayOver, .int .i64 s.weekReg, .int .i64 s.nightFrom, .int .i64 s.nightTo, .slice q.ra q.rl q.rc, .int .i64 s.diff, .int .i64 s.least, .int .i64 s.fault, .slice q.ta q.tl q.tc] 30)) := by go_grown
  have HPL := Lib.hid hPl
  clear hPl
  go_enter Try.func98, Try.ntmps98
  go_wp2_with fail
  refine gen_code (S := fun V => V.cell? ⟨w.heap.size, 0, none⟩ = some (.int .i64 (P : Int)) ∧ V.cell? ⟨w.heap.size, 1, none⟩ = some (.slice q.wa q.wl q.wc) ∧ V.heap.size = w.heap.size + 1 ∧ Below w.heap.size w V) ⟨cN, cW, z0, B0⟩ (fun V0 hV0 => ?_)
  clear cN cW z0 B0
  obtain ⟨cN, cW, z0, B0⟩ := hV0
  go_loopw [5, 6] (fun v i wr => ∃ k : Nat, k ≤ P ∧ i = .int .i64 k ∧ wr.ownsRow (w.heap.size + 1) 3 1 v k ((List.replicate k (-1)).map (Value.int .i64)) ∧ Below (w.heap.size + 1) V0 wr) (fun _ i _ => P - (intOf i).toNat)
  case atStart => exact ⟨0, by omega, rfl, ⟨rfl, .inl ⟨rfl, rfl⟩⟩, Below.refl _ _⟩
  case round =>
    obtain ⟨k, hk, rfl, hown, Br⟩ := hrel
    have cNr := keepC Br cN (by simp)
    have zr : w.heap.size + 1 ≤ wr.heap.size := by have := Br.size; omega
    have HOWN := Lib.hid hown
    clear hown
    by_cases hlt : k < P
    · have hk0 : (0 : Int) ≤ (k : Int) := by omega
      have hk1 : (k : Int) < (P : Int) := by omega
      have hn : Cells (wr.alloc (.cells #[.int .i64 (-1)] 3)) (some ⟨wr.heap.size, 0, none⟩) [.int .i64 (-1)] := .inr ⟨wr.heap.size, 0, rfl, fun i u hu => by
        obtain rfl : i = 0 := by have := (List.getElem?_eq_some_iff.1 hu).1; simpa using this
        simp at hu
        subst hu
        simp [go_sem]⟩
      have HN := Lib.hid hn
      clear hn
      go_wp2_with (at_builtin; (refine wpList_append_cells _ rfl (.tmp 16) (.tmp 17) 27 rfl (w.heap.size + 1) 3 i0 (.int .i64 0) 1 8 Try.underlying27 hi hz0 hz1 hz2 rfl (by decide) _ k _ rfl (HOWN.out.alloc _) (some ⟨wr.heap.size, 0, none⟩) 1 1 [.int .i64 (-1)] rfl rfl HN.out (by simp) (by intro u hu; simp at hu; subst hu; rfl) (by unfold maxLen; omega) (by omega) (by simp; omega) ?_; intro v' W' own' grow'))
      have Bg := below_own (Br.alloc (by omega) (.cells #[.int .i64 (-1)] 3)) (HOWN.out.alloc _) grow' (Nat.le_refl _) (by simp; omega)
      have e1 : List.map (Value.int .i64) (List.replicate k (-1)) ++ [Value.int .i64 (-1)] = List.map (Value.int .i64) (List.replicate (k + 1) (-1)) := by rw [List.replicate_succ']; simp
      rw [e1] at own'
      go_roundw
      case rel => exact ⟨k + 1, by omega, by go_num, own', Bg⟩
      case measure => simp [intOf]; omega
    · obtain rfl : P = k := by omega
      obtain ⟨gb, cap, hv⟩ : ∃ g cap, u5 = .slice (some ⟨g, 0, none⟩) P cap := by
        rcases HOWN.out.2 with ⟨_, h0⟩ | ⟨g, cap, _, hv, _⟩
        · omega
        · exact ⟨g, cap, hv⟩
      subst hv
      have hrow := ownRowAt HOWN.out
      obtain ⟨hrow, hgb⟩ := hrow
      have cNr := keepC Br cN (by simp)
      have cWr := keepC Br cW (by simp)
      have ha0 : (0 : Int) ≤ (a : Int) := by omega
      have ha1 : (a : Int) < (P : Int) := by omega
      have hfa := hrow.fz a ha
      have hca := hrow.cell a ha
      have hset := hrow.set a ha 0
      have hrow1 := hset.same (r' := fun v => if v = a then 0 else -1) (fun j hj => by
        unfold put
        split
        · rfl
        · show (List.replicate P (-1)).getD j 0 = -1
          rw [List.getD_eq_getElem?_getD, List.getElem?_replicate, if_pos hj]; rfl)
      have HROW := Lib.hid hrow1
      clear hset hrow1 hrow
      go_wp2_with fail
      refine gen_code (S := fun V => RowAt V gb P (fun v => if v = a then 0 else -1) ∧ V.cell? ⟨w.heap.size, 0, none⟩ = some (.int .i64 (P : Int)) ∧ V.cell? ⟨w.heap.size, 1, none⟩ = some (.slice q.wa q.wl q.wc) ∧ w.heap.size + 1 ≤ V.heap.size ∧ Below w.heap.size w V) ⟨HROW.out, keepC (B := w.heap.size + 1) (Below.setCell (p := ⟨gb, a, none⟩) (Below.refl _ _) hgb _) cNr (by simp), keepC (B := w.heap.size + 1) (Below.setCell (p := ⟨gb, a, none⟩) (Below.refl _ _) hgb _) cWr (by simp), by simpa using zr, Below.setCell (p := ⟨gb, a, none⟩) (B0.trans (Br.mono (by omega))) (show w.heap.size ≤ gb by omega) _⟩ (fun V hV => ?_)
      clear cN cW z0 B0 Br HOWN HROW cNr cWr hfa hca zr ha0 ha1 hi hz0 hz1 hz2
      obtain ⟨hrow, cN, cW, zV, BV⟩ := hV
      have HROW := Lib.hid hrow
      clear hrow
      obtain ⟨ini, hini⟩ : ∃ ini : Nat → Int, (fun v => if v = a then 0 else -1) = ini := ⟨_, rfl⟩
      rw [hini] at HROW
      have hbd0 : Bd P 0 ini := by
        intro v hv
        rw [← hini]
        simp only
        split <;> omega
      have HINI := Lib.hid hini
      clear hini
      have HWL2 := Lib.hid (show q.wl = s.ways.length from h.ways.1.symm)
      have HWC := Lib.hid h.ways.2.2.2
      go_loopg [7] P (fun gh i wx => ∃ k : Nat, k ≤ P ∧ gh = P - k ∧ i = .int .i64 k ∧ RowAt wx gb P (rounds ini s.ways k) ∧ Bd P (1280000 * k) (rounds ini s.ways k) ∧ Below (w.heap.size + 1) V wx)
      case atStart => exact ⟨0, by omega, by omega, rfl, HROW.out, by simpa [rounds] using hbd0, Below.refl _ _⟩
      case round =>
        obtain ⟨k, hk, rfl, rfl, hrk, hbk, Bk⟩ := hrel
        have cNk := keepC Bk cN (by simp)
        have HRK := Lib.hid hrk
        have HBK := Lib.hid hbk
        clear hrk hbk HROW
        by_cases hlt : k < P
        · have hk0 : (0 : Int) ≤ (k : Int) := by omega
          have hk1 : (k : Int) < (P : Int) := by omega
          obtain ⟨rk, hrk⟩ : ∃ rk, rounds ini s.ways k = rk := ⟨_, rfl⟩
          have hnext : rounds ini s.ways (k + 1) = s.ways.foldl relax rk := by rw [← hrk]; rfl
          rw [hrk] at HRK HBK
          have HNEXT := Lib.hid hnext
          clear hnext hrk
          go_wp2_with fail
          go_loopg [8] q.wl (fun gh i wy => ∃ j : Nat, j ≤ q.wl ∧ gh = q.wl - j ∧ i = .int .i64 j ∧ RowAt wy gb P ((s.ways.take j).foldl relax rk) ∧ Bd P (1280000 * k + 20000 * j) ((s.ways.take j).foldl relax rk) ∧ Below (w.heap.size + 1) V wy)
          case atStart => exact ⟨0, by omega, by omega, rfl, by rw [List.take_zero]; exact HRK.out, by rw [List.take_zero]; simpa using HBK.out, Bk⟩
          case round =>
            obtain ⟨j, hj, rfl, rfl, hrj, hbj, Bj⟩ := hrel
            have cWj := keepC Bj cW (by simp)
            have zj : w.heap.size + 1 ≤ wr.heap.size := Nat.le_trans zV Bj.size
            have HRJ := Lib.hid hrj
            have HBJ := Lib.hid hbj
            clear hrj hbj HRK HBK
            by_cases hltj : j < q.wl
            · have hj1 : (j : Int) < (q.wl : Int) := by omega
              obtain ⟨b, off, hqa, hbl, hcell⟩ := HWC.out.resolve_left (by omega)
              rw [hqa] at cWj
              have Bw : Below w.heap.size w wr := BV.trans (Bj.mono (by omega))
              have hcl := hcell j hltj
              have d0 := keepC Bw hcl.1 hbl
              have d1 := keepC Bw hcl.2.1 hbl
              have d2 := keepC Bw hcl.2.2 hbl
              have hlw : j < s.ways.length := by have := HWL2.out; omega
              have hj64 : j < 64 := by omega
              have hmem := getD_mem_3 (l := s.ways) (k := j) (by omega)
              have htake : s.ways.take (j + 1) = s.ways.take j ++ [s.ways.getD j (0, 0, 0)] := by
                rw [List.take_succ_eq_append_getElem (by omega), List.getD_eq_getElem?_getD, List.getElem?_eq_getElem (by omega)]; rfl
              obtain ⟨x0, x1, x2, hxy⟩ : ∃ x0 x1 x2, s.ways.getD j (0, 0, 0) = (x0, x1, x2) := ⟨_, _, _, rfl⟩
              rw [hxy] at d0 d1 d2 hmem htake
              have hlo := hw.lo _ hmem
              have hpo := hw.pos _ hmem
              simp only at d0 d1 d2 hlo hpo
              obtain ⟨A, rfl⟩ := Int.eq_ofNat_of_zero_le hlo.1
              obtain ⟨B, rfl⟩ := Int.eq_ofNat_of_zero_le hlo.2.2.1
              have hA : A < P := by omega
              have hB : B < P := by omega
              have hx2 : 0 ≤ x2 ∧ x2 ≤ 10000 := by omega
              have hA0 : (0 : Int) ≤ (A : Int) := by omega
              have hA1 : (A : Int) < (P : Int) := by omega
              have hB0 : (0 : Int) ≤ (B : Int) := by omega
              have hB1 : (B : Int) < (P : Int) := by omega
              obtain ⟨r, hr⟩ : ∃ r, (s.ways.take j).foldl relax rk = r := ⟨_, rfl⟩
              have hfold : (s.ways.take (j + 1)).foldl relax rk = relax r ((A : Int), (B : Int), x2) := by rw [htake, List.foldl_append, hr]; rfl
              rw [hr] at HRJ HBJ
              have HFOLD := Lib.hid hfold
              have hbj0 := HBJ.out
              have hn0 : (0 : Int) ≤ 1280000 * (k : Int) + 20000 * (j : Int) := by omega
              have hnk : 1280000 * (k : Int) + 20000 * (j : Int) ≤ 999980000 := by omega
              have hBa : -1 ≤ r A ∧ r A ≤ 1000000000 := by have := hbj0 A hA; omega
              have hb1 := hbj0.half hA hB hx2 hn0
              clear htake hxy hcell hcl hmem hfold hr hqa hbj0 HBJ hlw
              go_wp2_with fail
              refine gen_code (S := fun V1 => V1.cell? ⟨wr.heap.size, 0, none⟩ = some (.int .i64 (A : Int)) ∧ V1.cell? ⟨wr.heap.size, 1, none⟩ = some (.int .i64 (B : Int)) ∧ V1.cell? ⟨wr.heap.size, 2, none⟩ = some (.int .i64 x2) ∧ RowAt V1 gb P r ∧ Below (w.heap.size + 1) V V1) ⟨by simp [go_sem], by simp [go_sem], by simp [go_sem], HRJ.out.below (by go_grown), Bj.alloc zj _⟩ (fun V1 hV1 => ?_)
              obtain ⟨g0, g1, g2, hr1, B1⟩ := hV1
              have ngb : ¬ gb = wr.heap.size := by have := HRJ.out.lt; omega
              have nbg : ¬ wr.heap.size = gb := by omega
              have cA := hr1.cell A hA
              have cB := hr1.cell B hB
              have fB := hr1.fz B hB
              have HR1 := Lib.hid hr1
              clear hr1 d0 d1 d2 HRJ cWj
              apply mp_late
              · intro fin
                refine wp_region_held_drew (S := (fun w' => w'.cell? ⟨wr.heap.size, 0, none⟩ = some (.int .i64 (A : Int)) ∧ w'.cell? ⟨wr.heap.size, 1, none⟩ = some (.int .i64 (B : Int)) ∧ w'.cell? ⟨wr.heap.size, 2, none⟩ = some (.int .i64 x2))) (by kernel_rfl) ?_ (fun hHeld => ?_)
                · exact ⟨g0, g1, g2⟩
                refine wpAnyH_take (i := 0) (oi := ⟨some 40, _, _, _, _, none⟩) (v := ?_) rfl (by kernel_rfl) (by kernel_rfl) (by kernel_rfl) (fun _ _ _ h => h) (Or.inl ⟨by rfl, ?_⟩) (by assumption) ?_
                rotate_left
                · intro wz hSw; (try dsimp only at hSw); go_simp; (try with_reducible rfl)
                try simp only [Act.put, List.setIfInBounds_toArray, List.set_cons_zero, List.set_cons_succ]
                refine wpAnyH_take (i := 1) (oi := ⟨some 41, _, _, _, _, none⟩) (v := ?_) rfl (by kernel_rfl) (by kernel_rfl) (by kernel_rfl) (fun _ _ _ h => h) (Or.inl ⟨by rfl, ?_⟩) (by assumption) ?_
                rotate_left
                · intro wz hSw; (try dsimp only at hSw); go_simp; (try with_reducible rfl)
                try simp only [Act.put, List.setIfInBounds_toArray, List.set_cons_zero, List.set_cons_succ]
                refine wpAnyH_take (i := 2) (oi := ⟨some 42, _, _, _, _, none⟩) (v := ?_) rfl (by kernel_rfl) (by kernel_rfl) (by kernel_rfl) (fun _ _ _ h => h) (Or.inl ⟨by rfl, ?_⟩) (by assumption) ?_
                rotate_left
                · intro wz hSw; (try dsimp only at hSw); go_simp; (try with_reducible rfl)
                try simp only [Act.put, List.setIfInBounds_toArray, List.set_cons_zero, List.set_cons_succ]
                refine wpAnyH_take (i := 3) (oi := ⟨some 43, _, _, _, _, none⟩) (v := ?_) rfl (by kernel_rfl) (by kernel_rfl) (by kernel_rfl) (fun _ _ _ h => h) (Or.inl ⟨by rfl, ?_⟩) (by assumption) ?_
                rotate_left
                · intro wz hSw; (try dsimp only at hSw); go_simp; (try with_reducible rfl)
                try simp only [Act.put, List.setIfInBounds_toArray, List.set_cons_zero, List.set_cons_succ]
                refine wpAnyH_take (i := 4) (oi := ⟨some 44, _, _, _, _, none⟩) (v := ?_) rfl (by kernel_rfl) (by kernel_rfl) (by kernel_rfl) (fun _ _ _ h => h) (Or.inl ⟨by rfl, ?_⟩) (by assumption) ?_
                rotate_left
                · intro wz hSw; (try dsimp only at hSw); go_simp; (try with_reducible rfl)
                try simp only [Act.put, List.setIfInBounds_toArray, List.set_cons_zero, List.set_cons_succ]
                refine wpAnyH_take (i := 5) (oi := ⟨some 45, _, _, _, _, none⟩) (v := ?_) rfl (by kernel_rfl) (by kernel_rfl) (by kernel_rfl) (fun _ _ _ h => h) (Or.inl ⟨by rfl, ?_⟩) (by assumption) ?_
                rotate_left
                · intro wz hSw; (try dsimp only at hSw); go_simp; (try with_reducible rfl)
                try simp only [Act.put, List.setIfInBounds_toArray, List.set_cons_zero, List.set_cons_succ]
                refine wpAnyH_take (i := 6) (oi := ⟨some 46, _, _, _, _, none⟩) (v := ?_) rfl (by kernel_rfl) (by kernel_rfl) (by kernel_rfl) (fun _ _ _ h => h) (Or.inl ⟨by rfl, ?_⟩) (by assumption) ?_
                rotate_left
                · intro wz hSw; (try dsimp only at hSw); go_simp; (try with_reducible rfl)
                try simp only [Act.put, List.setIfInBounds_toArray, List.set_cons_zero, List.set_cons_succ]
                refine wpAnyH_take (i := 8) (oi := ⟨some 48, _, _, _, _, none⟩) (v := ?_) rfl (by kernel_rfl) (by kernel_rfl) (by kernel_rfl) (fun _ _ _ h => h) (Or.inl ⟨by rfl, ?_⟩) (by assumption) ?_
                rotate_left
                · intro wz hSw; (try dsimp only at hSw); go_simp; (try with_reducible rfl)
                try simp only [Act.put, List.setIfInBounds_toArray, List.set_cons_zero, List.set_cons_succ]
                refine wpAnyH_take (i := 9) (oi := ⟨some 49, _, _, _, _, none⟩) (v := ?_) rfl (by kernel_rfl) (by kernel_rfl) (by kernel_rfl) (fun _ _ _ h => h) (Or.inl ⟨by rfl, ?_⟩) (by assumption) ?_
                rotate_left
                · intro wz hSw; (try dsimp only at hSw); go_simp; (try with_reducible rfl)
                try simp only [Act.put, List.setIfInBounds_toArray, List.set_cons_zero, List.set_cons_succ]
                refine wpAnyH_take (i := 10) (oi := ⟨some 50, _, _, _, _, none⟩) (v := ?_) rfl (by kernel_rfl) (by kernel_rfl) (by kernel_rfl) (fun _ _ _ h => h) (Or.inl ⟨by rfl, ?_⟩) (by assumption) ?_
                rotate_left
                · intro wz hSw; (try dsimp only at hSw); go_simp; (try with_reducible rfl)
                try simp only [Act.put, List.setIfInBounds_toArray, List.set_cons_zero, List.set_cons_succ]
                refine wpAnyH_take (i := 11) (oi := ⟨some 51, _, _, _, _, none⟩) (v := ?_) rfl (by kernel_rfl) (by kernel_rfl) (by kernel_rfl) (fun _ _ _ h => h) (Or.inl ⟨by rfl, ?_⟩) (by assumption) ?_
                rotate_left
                · intro wz hSw; (try dsimp only at hSw); go_simp; (try with_reducible rfl)
                try simp only [Act.put, List.setIfInBounds_toArray, List.set_cons_zero, List.set_cons_succ]
                refine wpAnyH_take (i := 13) (oi := ⟨some 53, _, _, _, _, none⟩) (v := ?_) rfl (by kernel_rfl) (by kernel_rfl) (by kernel_rfl) (fun _ _ _ h => h) (Or.inl ⟨by rfl, ?_⟩) (by assumption) ?_
                rotate_left
                · intro wz hSw; (try dsimp only at hSw); go_simp; (try with_reducible rfl)
                try simp only [Act.put, List.setIfInBounds_toArray, List.set_cons_zero, List.set_cons_succ]
                refine wpAnyH_take (i := 14) (oi := ⟨some 54, _, _, _, _, none⟩) (v := ?_) rfl (by kernel_rfl) (by kernel_rfl) (by kernel_rfl) (fun _ _ _ h => h) (Or.inl ⟨by rfl, ?_⟩) (by assumption) ?_
                rotate_left
                · intro wz hSw; (try dsimp only at hSw); go_simp; (try with_reducible rfl)
                try simp only [Act.put, List.setIfInBounds_toArray, List.set_cons_zero, List.set_cons_succ]
                refine wpAnyH_ready (rs := [7, 12]) (by kernel_rfl) (by simp) ?_
                refine (AllReadyH.cons (o := ⟨some 47, _, _, _, _, none⟩) rfl (fun K hK => ?_) (AllReadyH.cons (o := ⟨some 52, _, _, _, _, none⟩) rfl (fun K hK => ?_) AllReadyH.nil))
                · skip
                  go_simp
                  refine hK.out _ _ ?_ (fun hHeld => ?_)
                  · exact ⟨g0, g1, g2⟩
                  clear hK K
                  try simp only [Act.put, List.setIfInBounds_toArray, List.set_cons_zero, List.set_cons_succ]
                  refine wpAnyH_ready (rs := [12]) (by kernel_rfl) (by simp) ?_
                  refine AllReadyH.cons (o := ⟨some 52, _, _, _, _, none⟩) rfl (fun K hK => ?_) AllReadyH.nil
                  go_simp
                  refine hK.out _ _ ?_ (fun hHeld => ?_)
                  · exact ⟨g0, g1, g2⟩
                  clear hK K
                  try simp only [Act.put, List.setIfInBounds_toArray, List.set_cons_zero, List.set_cons_succ]
                  refine wpAnyH_ready (rs := [15]) (by kernel_rfl) (by simp) ?_
                  refine AllReadyH.cons (o := ⟨some 55, _, _, _, _, none⟩) rfl (fun K hK => ?_) AllReadyH.nil
                  go_simp
                  refine (ref9_longer _ x2 _ _ rfl hBa hx2).mono ?_
                  rintro e w3 ⟨rfl, rfl⟩
                  try simp only [IntKind.i64]
                  refine hK.out _ _ ?_ (fun hHeld => ?_)
                  · exact ⟨g0, g1, g2⟩
                  clear hK K
                  try simp only [Act.put, List.setIfInBounds_toArray, List.set_cons_zero, List.set_cons_succ]
                  refine wpAnyH_ready (rs := [16]) (by kernel_rfl) (by simp) ?_
                  refine AllReadyH.cons (o := ⟨some 56, _, _, _, _, none⟩) rfl (fun K hK => ?_) AllReadyH.nil
                  go_simp
                  refine (ref9_shorter _ _ _ _ rfl).mono ?_
                  rintro e w3 ⟨rfl, rfl⟩
                  refine hK.out _ _ ?_ (fun hHeld => ?_)
                  · exact ⟨g0, g1, g2⟩
                  clear hK K
                  try simp only [Act.put, List.setIfInBounds_toArray, List.set_cons_zero, List.set_cons_succ]
                  refine wpAnyH_take (i := 17) (oi := ⟨some 57, _, _, _, _, none⟩) (v := ?_) rfl (by kernel_rfl) (by kernel_rfl) (by kernel_rfl) (fun _ _ _ h => h) (Or.inl ⟨by rfl, ?_⟩) (by assumption) ?_
                  rotate_left
                  · intro wz hSw; (try dsimp only at hSw); go_simp; (try with_reducible rfl)
                  try simp only [Act.put, List.setIfInBounds_toArray, List.set_cons_zero, List.set_cons_succ]
                  refine wpAnyH_ready (rs := [18]) (by kernel_rfl) (by simp) ?_
                  refine AllReadyH.cons (o := ⟨none, _, _, _, _, none⟩) rfl (fun K hK => ?_) AllReadyH.nil
                  go_simp
                  refine hK.out _ _ ?_ (fun hHeld => ?_)
                  · exact ⟨by simp [go_sem, g0, nbg, ngb], by simp [go_sem, g1, nbg, ngb], by simp [go_sem, g2, nbg, ngb]⟩
                  clear hK K
                  try simp only [Act.put, List.setIfInBounds_toArray, List.set_cons_zero, List.set_cons_succ]
                  refine wpAnyH_done (by kernel_rfl) ?_ _
                  exact fin
                · skip
                  go_simp
                  refine hK.out _ _ ?_ (fun hHeld => ?_)
                  · exact ⟨g0, g1, g2⟩
                  clear hK K
                  try simp only [Act.put, List.setIfInBounds_toArray, List.set_cons_zero, List.set_cons_succ]
                  refine wpAnyH_ready (rs := [7, 15]) (by kernel_rfl) (by simp) ?_
                  refine (AllReadyH.cons (o := ⟨some 47, _, _, _, _, none⟩) rfl (fun K hK => ?_) (AllReadyH.cons (o := ⟨some 55, _, _, _, _, none⟩) rfl (fun K hK => ?_) AllReadyH.nil))
                  · skip
                    go_simp
                    refine hK.out _ _ ?_ (fun hHeld => ?_)
                    · exact ⟨g0, g1, g2⟩
                    clear hK K
                    try simp only [Act.put, List.setIfInBounds_toArray, List.set_cons_zero, List.set_cons_succ]
                    refine wpAnyH_ready (rs := [15]) (by kernel_rfl) (by simp) ?_
                    refine AllReadyH.cons (o := ⟨some 55, _, _, _, _, none⟩) rfl (fun K hK => ?_) AllReadyH.nil
                    go_simp
                    refine (ref9_longer _ x2 _ _ rfl hBa hx2).mono ?_
                    rintro e w3 ⟨rfl, rfl⟩
                    try simp only [IntKind.i64]
                    refine hK.out _ _ ?_ (fun hHeld => ?_)
                    · exact ⟨g0, g1, g2⟩
                    clear hK K
                    try simp only [Act.put, List.setIfInBounds_toArray, List.set_cons_zero, List.set_cons_succ]
                    refine wpAnyH_ready (rs := [16]) (by kernel_rfl) (by simp) ?_
                    refine AllReadyH.cons (o := ⟨some 56, _, _, _, _, none⟩) rfl (fun K hK => ?_) AllReadyH.nil
                    go_simp
                    refine (ref9_shorter _ _ _ _ rfl).mono ?_
                    rintro e w3 ⟨rfl, rfl⟩
                    refine hK.out _ _ ?_ (fun hHeld => ?_)
                    · exact ⟨g0, g1, g2⟩
                    clear hK K
                    try simp only [Act.put, List.setIfInBounds_toArray, List.set_cons_zero, List.set_cons_succ]
                    refine wpAnyH_take (i := 17) (oi := ⟨some 57, _, _, _, _, none⟩) (v := ?_) rfl (by kernel_rfl) (by kernel_rfl) (by kernel_rfl) (fun _ _ _ h => h) (Or.inl ⟨by rfl, ?_⟩) (by assumption) ?_
                    rotate_left
                    · intro wz hSw; (try dsimp only at hSw); go_simp; (try with_reducible rfl)
                    try simp only [Act.put, List.setIfInBounds_toArray, List.set_cons_zero, List.set_cons_succ]
                    refine wpAnyH_ready (rs := [18]) (by kernel_rfl) (by simp) ?_
                    refine AllReadyH.cons (o := ⟨none, _, _, _, _, none⟩) rfl (fun K hK => ?_) AllReadyH.nil
                    go_simp
                    refine hK.out _ _ ?_ (fun hHeld => ?_)
                    · exact ⟨by simp [go_sem, g0, nbg, ngb], by simp [go_sem, g1, nbg, ngb], by simp [go_sem, g2, nbg, ngb]⟩
                    clear hK K
                    try simp only [Act.put, List.setIfInBounds_toArray, List.set_cons_zero, List.set_cons_succ]
                    refine wpAnyH_done (by kernel_rfl) ?_ _
                    exact fin
                  · skip
                    go_simp
                    refine (ref9_longer _ x2 _ _ rfl hBa hx2).mono ?_
                    rintro e w3 ⟨rfl, rfl⟩
                    try simp only [IntKind.i64]
                    refine hK.out _ _ ?_ (fun hHeld => ?_)
                    · exact ⟨g0, g1, g2⟩
                    clear hK K
                    try simp only [Act.put, List.setIfInBounds_toArray, List.set_cons_zero, List.set_cons_succ]
                    refine wpAnyH_ready (rs := [7]) (by kernel_rfl) (by simp) ?_
                    refine AllReadyH.cons (o := ⟨some 47, _, _, _, _, none⟩) rfl (fun K hK => ?_) AllReadyH.nil
                    go_simp
                    refine hK.out _ _ ?_ (fun hHeld => ?_)
                    · exact ⟨g0, g1, g2⟩
                    clear hK K
                    try simp only [Act.put, List.setIfInBounds_toArray, List.set_cons_zero, List.set_cons_succ]
                    refine wpAnyH_ready (rs := [16]) (by kernel_rfl) (by simp) ?_
                    refine AllReadyH.cons (o := ⟨some 56, _, _, _, _, none⟩) rfl (fun K hK => ?_) AllReadyH.nil
                    go_simp
                    refine (ref9_shorter _ _ _ _ rfl).mono ?_
                    rintro e w3 ⟨rfl, rfl⟩
                    refine hK.out _ _ ?_ (fun hHeld => ?_)
                    · exact ⟨g0, g1, g2⟩
                    clear hK K
                    try simp only [Act.put, List.setIfInBounds_toArray, List.set_cons_zero, List.set_cons_succ]
                    refine wpAnyH_take (i := 17) (oi := ⟨some 57, _, _, _, _, none⟩) (v := ?_) rfl (by kernel_rfl) (by kernel_rfl) (by kernel_rfl) (fun _ _ _ h => h) (Or.inl ⟨by rfl, ?_⟩) (by assumption) ?_
                    rotate_left
                    · intro wz hSw; (try dsimp only at hSw); go_simp; (try with_reducible rfl)
                    try simp only [Act.put, List.setIfInBounds_toArray, List.set_cons_zero, List.set_cons_succ]
                    refine wpAnyH_ready (rs := [18]) (by kernel_rfl) (by simp) ?_
                    refine AllReadyH.cons (o := ⟨none, _, _, _, _, none⟩) rfl (fun K hK => ?_) AllReadyH.nil
                    go_simp
                    refine hK.out _ _ ?_ (fun hHeld => ?_)
                    · exact ⟨by simp [go_sem, g0, nbg, ngb], by simp [go_sem, g1, nbg, ngb], by simp [go_sem, g2, nbg, ngb]⟩
                    clear hK K
                    try simp only [Act.put, List.setIfInBounds_toArray, List.set_cons_zero, List.set_cons_succ]
                    refine wpAnyH_done (by kernel_rfl) ?_ _
                    exact fin
              go_wp2_with fail
              have hset := HR1.out.set B hB (shorterP (r B) (longerP (r A) x2))
              obtain ⟨r1, hr1⟩ : ∃ r1, put r B (shorterP (r B) (longerP (r A) x2)) = r1 := ⟨_, rfl⟩
              rw [hr1] at hset hb1
              have Bs : Below (w.heap.size + 1) V (V1.setCell ⟨gb, B, none⟩ (.int .i64 (shorterP (r B) (longerP (r A) x2)))) := B1.setCell (p := ⟨gb, B, none⟩) hgb _
              refine gen_code (S := fun V2 => V2.cell? ⟨wr.heap.size, 0, none⟩ = some (.int .i64 (A : Int)) ∧ V2.cell? ⟨wr.heap.size, 1, none⟩ = some (.int .i64 (B : Int)) ∧ V2.cell? ⟨wr.heap.size, 2, none⟩ = some (.int .i64 x2) ∧ RowAt V2 gb P r1 ∧ Below (w.heap.size + 1) V V2) ⟨by simp [go_sem, g0, ngb, nbg], by simp [go_sem, g1, ngb, nbg], by simp [go_sem, g2, ngb, nbg], hset.drew, Bs.drew⟩ (fun V2 hV2 => ?_)
              have HEQ1 := Lib.hid hr1
              clear g0 g1 g2 HR1 B1 cA cB fB hset hr1 Bs hBa
              obtain ⟨g0, g1, g2, hr2, B2⟩ := hV2
              have hBa : -1 ≤ r1 B ∧ r1 B ≤ 1000000000 := by have := hb1 B hB; omega
              have hb2 := hb1.half hB hA hx2 (by omega)
              have cA := hr2.cell A hA
              have cB := hr2.cell B hB
              have fA := hr2.fz A hA
              have HR2 := Lib.hid hr2
              have HB2 := Lib.hid hb2
              clear hr2 hb1 hb2
              apply mp_late
              · intro fin
                refine wp_region_held_drew (S := (fun w' => w'.cell? ⟨wr.heap.size, 0, none⟩ = some (.int .i64 (A : Int)) ∧ w'.cell? ⟨wr.heap.size, 1, none⟩ = some (.int .i64 (B : Int)) ∧ w'.cell? ⟨wr.heap.size, 2, none⟩ = some (.int .i64 x2))) (by kernel_rfl) ?_ (fun hHeld => ?_)
                · exact ⟨g0, g1, g2⟩
                refine wpAnyH_take (i := 0) (oi := ⟨some 58, _, _, _, _, none⟩) (v := ?_) rfl (by kernel_rfl) (by kernel_rfl) (by kernel_rfl) (fun _ _ _ h => h) (Or.inl ⟨by rfl, ?_⟩) (by assumption) ?_
                rotate_left
                · intro wz hSw; (try dsimp only at hSw); go_simp; (try with_reducible rfl)
                try simp only [Act.put, List.setIfInBounds_toArray, List.set_cons_zero, List.set_cons_succ]
                refine wpAnyH_take (i := 1) (oi := ⟨some 59, _, _, _, _, none⟩) (v := ?_) rfl (by kernel_rfl) (by kernel_rfl) (by kernel_rfl) (fun _ _ _ h => h) (Or.inl ⟨by rfl, ?_⟩) (by assumption) ?_
                rotate_left
                · intro wz hSw; (try dsimp only at hSw); go_simp; (try with_reducible rfl)
                try simp only [Act.put, List.setIfInBounds_toArray, List.set_cons_zero, List.set_cons_succ]
                refine wpAnyH_take (i := 2) (oi := ⟨some 60, _, _, _, _, none⟩) (v := ?_) rfl (by kernel_rfl) (by kernel_rfl) (by kernel_rfl) (fun _ _ _ h => h) (Or.inl ⟨by rfl, ?_⟩) (by assumption) ?_
                rotate_left
                · intro wz hSw; (try dsimp only at hSw); go_simp; (try with_reducible rfl)
                try simp only [Act.put, List.setIfInBounds_toArray, List.set_cons_zero, List.set_cons_succ]
                refine wpAnyH_take (i := 3) (oi := ⟨some 61, _, _, _, _, none⟩) (v := ?_) rfl (by kernel_rfl) (by kernel_rfl) (by kernel_rfl) (fun _ _ _ h => h) (Or.inl ⟨by rfl, ?_⟩) (by assumption) ?_
                rotate_left
                · intro wz hSw; (try dsimp only at hSw); go_simp; (try with_reducible rfl)
                try simp only [Act.put, List.setIfInBounds_toArray, List.set_cons_zero, List.set_cons_succ]
                refine wpAnyH_take (i := 4) (oi := ⟨some 62, _, _, _, _, none⟩) (v := ?_) rfl (by kernel_rfl) (by kernel_rfl) (by kernel_rfl) (fun _ _ _ h => h) (Or.inl ⟨by rfl, ?_⟩) (by assumption) ?_
                rotate_left
                · intro wz hSw; (try dsimp only at hSw); go_simp; (try with_reducible rfl)
                try simp only [Act.put, List.setIfInBounds_toArray, List.set_cons_zero, List.set_cons_succ]
                refine wpAnyH_take (i := 5) (oi := ⟨some 63, _, _, _, _, none⟩) (v := ?_) rfl (by kernel_rfl) (by kernel_rfl) (by kernel_rfl) (fun _ _ _ h => h) (Or.inl ⟨by rfl, ?_⟩) (by assumption) ?_
                rotate_left
                · intro wz hSw; (try dsimp only at hSw); go_simp; (try with_reducible rfl)
                try simp only [Act.put, List.setIfInBounds_toArray, List.set_cons_zero, List.set_cons_succ]
                refine wpAnyH_take (i := 6) (oi := ⟨some 64, _, _, _, _, none⟩) (v := ?_) rfl (by kernel_rfl) (by kernel_rfl) (by kernel_rfl) (fun _ _ _ h => h) (Or.inl ⟨by rfl, ?_⟩) (by assumption) ?_
                rotate_left
                · intro wz hSw; (try dsimp only at hSw); go_simp; (try with_reducible rfl)
                try simp only [Act.put, List.setIfInBounds_toArray, List.set_cons_zero, List.set_cons_succ]
                refine wpAnyH_take (i := 8) (oi := ⟨some 66, _, _, _, _, none⟩) (v := ?_) rfl (by kernel_rfl) (by kernel_rfl) (by kernel_rfl) (fun _ _ _ h => h) (Or.inl ⟨by rfl, ?_⟩) (by assumption) ?_
                rotate_left
                · intro wz hSw; (try dsimp only at hSw); go_simp; (try with_reducible rfl)
                try simp only [Act.put, List.setIfInBounds_toArray, List.set_cons_zero, List.set_cons_succ]
                refine wpAnyH_take (i := 9) (oi := ⟨some 67, _, _, _, _, none⟩) (v := ?_) rfl (by kernel_rfl) (by kernel_rfl) (by kernel_rfl) (fun _ _ _ h => h) (Or.inl ⟨by rfl, ?_⟩) (by assumption) ?_
                rotate_left
                · intro wz hSw; (try dsimp only at hSw); go_simp; (try with_reducible rfl)
                try simp only [Act.put, List.setIfInBounds_toArray, List.set_cons_zero, List.set_cons_succ]
                refine wpAnyH_take (i := 10) (oi := ⟨some 68, _, _, _, _, none⟩) (v := ?_) rfl (by kernel_rfl) (by kernel_rfl) (by kernel_rfl) (fun _ _ _ h => h) (Or.inl ⟨by rfl, ?_⟩) (by assumption) ?_
                rotate_left
                · intro wz hSw; (try dsimp only at hSw); go_simp; (try with_reducible rfl)
                try simp only [Act.put, List.setIfInBounds_toArray, List.set_cons_zero, List.set_cons_succ]
                refine wpAnyH_take (i := 11) (oi := ⟨some 69, _, _, _, _, none⟩) (v := ?_) rfl (by kernel_rfl) (by kernel_rfl) (by kernel_rfl) (fun _ _ _ h => h) (Or.inl ⟨by rfl, ?_⟩) (by assumption) ?_
                rotate_left
                · intro wz hSw; (try dsimp only at hSw); go_simp; (try with_reducible rfl)
                try simp only [Act.put, List.setIfInBounds_toArray, List.set_cons_zero, List.set_cons_succ]
                refine wpAnyH_take (i := 13) (oi := ⟨some 71, _, _, _, _, none⟩) (v := ?_) rfl (by kernel_rfl) (by kernel_rfl) (by kernel_rfl) (fun _ _ _ h => h) (Or.inl ⟨by rfl, ?_⟩) (by assumption) ?_
                rotate_left
                · intro wz hSw; (try dsimp only at hSw); go_simp; (try with_reducible rfl)
                try simp only [Act.put, List.setIfInBounds_toArray, List.set_cons_zero, List.set_cons_succ]
                refine wpAnyH_take (i := 14) (oi := ⟨some 72, _, _, _, _, none⟩) (v := ?_) rfl (by kernel_rfl) (by kernel_rfl) (by kernel_rfl) (fun _ _ _ h => h) (Or.inl ⟨by rfl, ?_⟩) (by assumption) ?_
                rotate_left
                · intro wz hSw; (try dsimp only at hSw); go_simp; (try with_reducible rfl)
                try simp only [Act.put, List.setIfInBounds_toArray, List.set_cons_zero, List.set_cons_succ]
                refine wpAnyH_ready (rs := [7, 12]) (by kernel_rfl) (by simp) ?_
                refine (AllReadyH.cons (o := ⟨some 65, _, _, _, _, none⟩) rfl (fun K hK => ?_) (AllReadyH.cons (o := ⟨some 70, _, _, _, _, none⟩) rfl (fun K hK => ?_) AllReadyH.nil))
                · skip
                  go_simp
                  refine hK.out _ _ ?_ (fun hHeld => ?_)
                  · exact ⟨g0, g1, g2⟩
                  clear hK K
                  try simp only [Act.put, List.setIfInBounds_toArray, List.set_cons_zero, List.set_cons_succ]
                  refine wpAnyH_ready (rs := [12]) (by kernel_rfl) (by simp) ?_
                  refine AllReadyH.cons (o := ⟨some 70, _, _, _, _, none⟩) rfl (fun K hK => ?_) AllReadyH.nil
                  go_simp
                  refine hK.out _ _ ?_ (fun hHeld => ?_)
                  · exact ⟨g0, g1, g2⟩
                  clear hK K
                  try simp only [Act.put, List.setIfInBounds_toArray, List.set_cons_zero, List.set_cons_succ]
                  refine wpAnyH_ready (rs := [15]) (by kernel_rfl) (by simp) ?_
                  refine AllReadyH.cons (o := ⟨some 73, _, _, _, _, none⟩) rfl (fun K hK => ?_) AllReadyH.nil
                  go_simp
                  refine (ref9_longer _ x2 _ _ rfl hBa hx2).mono ?_
                  rintro e w3 ⟨rfl, rfl⟩
                  try simp only [IntKind.i64]
                  refine hK.out _ _ ?_ (fun hHeld => ?_)
                  · exact ⟨g0, g1, g2⟩
                  clear hK K
                  try simp only [Act.put, List.setIfInBounds_toArray, List.set_cons_zero, List.set_cons_succ]
                  refine wpAnyH_ready (rs := [16]) (by kernel_rfl) (by simp) ?_
                  refine AllReadyH.cons (o := ⟨some 74, _, _, _, _, none⟩) rfl (fun K hK => ?_) AllReadyH.nil
                  go_simp
                  refine (ref9_shorter _ _ _ _ rfl).mono ?_
                  rintro e w3 ⟨rfl, rfl⟩
                  refine hK.out _ _ ?_ (fun hHeld => ?_)
                  · exact ⟨g0, g1, g2⟩
                  clear hK K
                  try simp only [Act.put, List.setIfInBounds_toArray, List.set_cons_zero, List.set_cons_succ]
                  refine wpAnyH_take (i := 17) (oi := ⟨some 75, _, _, _, _, none⟩) (v := ?_) rfl (by kernel_rfl) (by kernel_rfl) (by kernel_rfl) (fun _ _ _ h => h) (Or.inl ⟨by rfl, ?_⟩) (by assumption) ?_
                  rotate_left
                  · intro wz hSw; (try dsimp only at hSw); go_simp; (try with_reducible rfl)
                  try simp only [Act.put, List.setIfInBounds_toArray, List.set_cons_zero, List.set_cons_succ]
                  refine wpAnyH_ready (rs := [18]) (by kernel_rfl) (by simp) ?_
                  refine AllReadyH.cons (o := ⟨none, _, _, _, _, none⟩) rfl (fun K hK => ?_) AllReadyH.nil
                  go_simp
                  refine hK.out _ _ ?_ (fun hHeld => ?_)
                  · exact ⟨by simp [go_sem, g0, nbg, ngb], by simp [go_sem, g1, nbg, ngb], by simp [go_sem, g2, nbg, ngb]⟩
                  clear hK K
                  try simp only [Act.put, List.setIfInBounds_toArray, List.set_cons_zero, List.set_cons_succ]
                  refine wpAnyH_done (by kernel_rfl) ?_ _
                  exact fin
                · skip
                  go_simp
                  refine hK.out _ _ ?_ (fun hHeld => ?_)
                  · exact ⟨g0, g1, g2⟩
                  clear hK K
                  try simp only [Act.put, List.setIfInBounds_toArray, List.set_cons_zero, List.set_cons_succ]
                  refine wpAnyH_ready (rs := [7, 15]) (by kernel_rfl) (by simp) ?_
                  refine (AllReadyH.cons (o := ⟨some 65, _, _, _, _, none⟩) rfl (fun K hK => ?_) (AllReadyH.cons (o := ⟨some 73, _, _, _, _, none⟩) rfl (fun K hK => ?_) AllReadyH.nil))
                  · skip
                    go_simp
                    refine hK.out _ _ ?_ (fun hHeld => ?_)
                    · exact ⟨g0, g1, g2⟩
                    clear hK K
                    try simp only [Act.put, List.setIfInBounds_toArray, List.set_cons_zero, List.set_cons_succ]
                    refine wpAnyH_ready (rs := [15]) (by kernel_rfl) (by simp) ?_
                    refine AllReadyH.cons (o := ⟨some 73, _, _, _, _, none⟩) rfl (fun K hK => ?_) AllReadyH.nil
                    go_simp
                    refine (ref9_longer _ x2 _ _ rfl hBa hx2).mono ?_
                    rintro e w3 ⟨rfl, rfl⟩
                    try simp only [IntKind.i64]
                    refine hK.out _ _ ?_ (fun hHeld => ?_)
                    · exact ⟨g0, g1, g2⟩
                    clear hK K
                    try simp only [Act.put, List.setIfInBounds_toArray, List.set_cons_zero, List.set_cons_succ]
                    refine wpAnyH_ready (rs := [16]) (by kernel_rfl) (by simp) ?_
                    refine AllReadyH.cons (o := ⟨some 74, _, _, _, _, none⟩) rfl (fun K hK => ?_) AllReadyH.nil
                    go_simp
                    refine (ref9_shorter _ _ _ _ rfl).mono ?_
                    rintro e w3 ⟨rfl, rfl⟩
                    refine hK.out _ _ ?_ (fun hHeld => ?_)
                    · exact ⟨g0, g1, g2⟩
                    clear hK K
                    try simp only [Act.put, List.setIfInBounds_toArray, List.set_cons_zero, List.set_cons_succ]
                    refine wpAnyH_take (i := 17) (oi := ⟨some 75, _, _, _, _, none⟩) (v := ?_) rfl (by kernel_rfl) (by kernel_rfl) (by kernel_rfl) (fun _ _ _ h => h) (Or.inl ⟨by rfl, ?_⟩) (by assumption) ?_
                    rotate_left
                    · intro wz hSw; (try dsimp only at hSw); go_simp; (try with_reducible rfl)
                    try simp only [Act.put, List.setIfInBounds_toArray, List.set_cons_zero, List.set_cons_succ]
                    refine wpAnyH_ready (rs := [18]) (by kernel_rfl) (by simp) ?_
                    refine AllReadyH.cons (o := ⟨none, _, _, _, _, none⟩) rfl (fun K hK => ?_) AllReadyH.nil
                    go_simp
                    refine hK.out _ _ ?_ (fun hHeld => ?_)
                    · exact ⟨by simp [go_sem, g0, nbg, ngb], by simp [go_sem, g1, nbg, ngb], by simp [go_sem, g2, nbg, ngb]⟩
                    clear hK K
                    try simp only [Act.put, List.setIfInBounds_toArray, List.set_cons_zero, List.set_cons_succ]
                    refine wpAnyH_done (by kernel_rfl) ?_ _
                    exact fin
                  · skip
                    go_simp
                    refine (ref9_longer _ x2 _ _ rfl hBa hx2).mono ?_
                    rintro e w3 ⟨rfl, rfl⟩
                    try simp only [IntKind.i64]
                    refine hK.out _ _ ?_ (fun hHeld => ?_)
                    · exact ⟨g0, g1, g2⟩
                    clear hK K
                    try simp only [Act.put, List.setIfInBounds_toArray, List.set_cons_zero, List.set_cons_succ]
                    refine wpAnyH_ready (rs := [7]) (by kernel_rfl) (by simp) ?_
                    refine AllReadyH.cons (o := ⟨some 65, _, _, _, _, none⟩) rfl (fun K hK => ?_) AllReadyH.nil
                    go_simp
                    refine hK.out _ _ ?_ (fun hHeld => ?_)
                    · exact ⟨g0, g1, g2⟩
                    clear hK K
                    try simp only [Act.put, List.setIfInBounds_toArray, List.set_cons_zero, List.set_cons_succ]
                    refine wpAnyH_ready (rs := [16]) (by kernel_rfl) (by simp) ?_
                    refine AllReadyH.cons (o := ⟨some 74, _, _, _, _, none⟩) rfl (fun K hK => ?_) AllReadyH.nil
                    go_simp
                    refine (ref9_shorter _ _ _ _ rfl).mono ?_
                    rintro e w3 ⟨rfl, rfl⟩
                    refine hK.out _ _ ?_ (fun hHeld => ?_)
                    · exact ⟨g0, g1, g2⟩
                    clear hK K
                    try simp only [Act.put, List.setIfInBounds_toArray, List.set_cons_zero, List.set_cons_succ]
                    refine wpAnyH_take (i := 17) (oi := ⟨some 75, _, _, _, _, none⟩) (v := ?_) rfl (by kernel_rfl) (by kernel_rfl) (by kernel_rfl) (fun _ _ _ h => h) (Or.inl ⟨by rfl, ?_⟩) (by assumption) ?_
                    rotate_left
                    · intro wz hSw; (try dsimp only at hSw); go_simp; (try with_reducible rfl)
                    try simp only [Act.put, List.setIfInBounds_toArray, List.set_cons_zero, List.set_cons_succ]
                    refine wpAnyH_ready (rs := [18]) (by kernel_rfl) (by simp) ?_
                    refine AllReadyH.cons (o := ⟨none, _, _, _, _, none⟩) rfl (fun K hK => ?_) AllReadyH.nil
                    go_simp
                    refine hK.out _ _ ?_ (fun hHeld => ?_)
                    · exact ⟨by simp [go_sem, g0, nbg, ngb], by simp [go_sem, g1, nbg, ngb], by simp [go_sem, g2, nbg, ngb]⟩
                    clear hK K
                    try simp only [Act.put, List.setIfInBounds_toArray, List.set_cons_zero, List.set_cons_succ]
                    refine wpAnyH_done (by kernel_rfl) ?_ _
                    exact fin
              go_wp2_with fail
              have hset := HR2.out.set A hA (shorterP (r1 A) (longerP (r1 B) x2))
              have Bs : Below (w.heap.size + 1) V (V2.setCell ⟨gb, A, none⟩ (.int .i64 (shorterP (r1 A) (longerP (r1 B) x2)))) := B2.setCell (p := ⟨gb, A, none⟩) hgb _
              have hrel : (s.ways.take (j + 1)).foldl relax rk = put r1 A (shorterP (r1 A) (longerP (r1 B) x2)) := by
                rw [HFOLD.out, ← HEQ1.out]
                rfl
              go_roundg (q.wl - (j + 1))
              case measure => omega
              case rel =>
                refine ⟨j + 1, by omega, rfl, by go_num, ?_, ?_, Bs.drew⟩
                · rw [hrel]; exact hset.drew
                · rw [hrel]
                  intro v hv
                  have := HB2.out v hv
                  omega
            · obtain rfl : q.wl = j := by omega
              have htk : s.ways.take q.wl = s.ways := List.take_of_length_le (by have := HWL2.out; omega)
              have HTK := Lib.hid htk
              clear htk
              go_wp2_with fail
              go_roundg (P - (k + 1))
              case measure => omega
              case rel =>
                refine ⟨k + 1, by omega, rfl, by go_num, ?_, ?_, Bj⟩
                · rw [HNEXT.out]; have := HRJ.out; rw [HTK.out] at this; exact this
                · rw [HNEXT.out]
                  have hb := HBJ.out
                  rw [HTK.out] at hb
                  have := HWL2.out
                  intro v hv
                  have := hb v hv
                  omega
        · obtain rfl : P = k := by omega
          go_wp2_with fail
          go_ret
          refine ⟨gb, cap, by rw [HPL.out]; simp, ?_, by omega, BV.trans (Bk.mono (by omega))⟩
          rw [HPL.out]
          simp only [Int.toNat_natCast]
          have e := rowP_table hw ha
          have := HRK.out
          rw [← HINI.out] at this
          exact this.same fun v hv => e v hv

end Go.Proofs.Ytnjckaifgmliaaa
