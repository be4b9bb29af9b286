/- WHAT THE STATEMENTS' FRAMES SHARE: the reach of a setup's ways. -/
import Derived.Test.YtjcfflpiajefmaaFrame7
import Derived.SizedLaws
set_option linter.unusedSimpArgs false
set_option linter.unusedVariables false
namespace Go.Proofs.Ytjcfflpiajefmaa
open Go.ChangeShapes Go.WideShapes Go.ChangeAt Go.RowKit Go.Joins Go.Deep Lu

theorem bytes_Way : Try.prog.bytesOf 55 = 24 := by kernel_rfl
theorem setup_fields : ∃ fs, Try.prog.underlying 30 = some (.struct fs) ∧ (fs.toList.map (·.type))[1]? = some 22 := ⟨_, Try.underlying30, by kernel_rfl⟩
set_option maxRecDepth 100000 in
set_option maxHeartbeats 4000000 in
theorem reach_Setup {H : Type} {enc : TypeId × Value → H} {W : World} {base : Nat} {sp : Nat → Bool} {held : Bool} {s : Setup} {q : Slices} {d : DataW H} {p : List MemPlace} {ts : List TypeId} {ds : List (DataW H)} {j : Nat}
    (hsz : (DataW.weightsEach Try.prog ts ds).all (· ≤ reachBytes) = true) (ht : ts[j]? = some 30) (hd : ds[j]? = some d)
    (h : DataW.Trod enc Try.prog W base sp held 30 (.agg #[.int .i64 s.places, .slice q.wa q.wl q.wc, .int .i64 s.pn, .int .i64 s.pd, .slice q.ea q.el q.ec, .slice q.ca q.cl q.cc, .slice q.ga q.gl q.gc, .int .i64 s.allow, .int .i64 s.unit, .int .i64 s.cap, .int .i64 s.paidBreak, .int .i64 s.autoAfter, .int .i64 s.autoBreak, .int .i64 s.dayReg, .int .i64 s.dayOver, .int .i64 s.weekReg, .int .i64 s.nightFrom, .int .i64 s.nightTo, .slice q.ra q.rl q.rc, .int .i64 s.diff, .int .i64 s.least, .int .i64 s.fault, .slice q.ta q.tl q.tc]) d p) : q.wl * 24 ≤ 140737488351232 := by
  obtain ⟨fuel, hf⟩ := h
  obtain ⟨ys, n, _, hx, hlen, hyl, hg⟩ := DataW.trod_struct Try.underlying30 hf
  have f1 : DataW.trod enc Try.prog W base sp held n 22 [.slice q.wa q.wl q.wc] = ys[1]? := by have := hg 1 _ rfl; simpa [cellsInt, cellsRatio, cells_sl0, cells_sl1, cells_sl2, cells_sl3, cells_sl4, Value.cells] using this
  have g1 : ys[1]? = some (ys[1]'(by rw [hyl]; decide)) := List.getElem?_eq_getElem _
  rw [g1] at f1
  rcases open_slice Try.underlying22 f1 with ⟨hcs, _⟩ | ⟨x, l, c, m, n, D, Pl, hcs, hb, hl, hm, hmm, hxx, hi⟩
  · simp at hcs
    omega
  · simp at hcs
    obtain ⟨_, rfl, rfl⟩ := hcs
    have hd' : d = .agg (ys.map (·.1)) := congrArg Prod.fst hx
    have hd1 : (ys.map (·.1))[1]? = some (.slice ((List.range q.wl).map D) ((List.range (m - q.wl)).map fun j => D (q.wl + j))) := by
      rw [List.getElem?_map, g1, hxx]; rfl
    have hw := List.all_eq_true.1 hsz ((((List.range q.wl).map D).length + ((List.range (m - q.wl)).map fun j => D (q.wl + j)).length) * Try.prog.bytesOf 55) (DataW.weights_mem_each ht hd _ (by
      rw [hd']
      simp only [DataW.weights, Try.underlying30]
      exact DataW.weights_mem_each (j := 1) (t := 22) (by kernel_rfl) hd1 _ (by simp only [DataW.weights, Try.underlying22]; exact List.mem_cons_self ..)))
    rw [bytes_Way] at hw
    simp only [List.length_map, List.length_range, reachBytes, decide_eq_true_eq] at hw
    omega
end Go.Proofs.Ytjcfflpiajefmaa
