/- THE WALK of ratio.Sum. -/
import Derived.Test.YtjcfflpiajefmaaRatio3
set_option linter.unusedSimpArgs false
set_option linter.unusedVariables false
namespace Go.Proofs.Ytjcfflpiajefmaa
open Go.RowKit Lu

/-- A slice of ratios reads as a list of pairs. -/
def Ratios (w : World) (a : Option Addr) (len : Nat) (rs : List (Int × Int)) : Prop :=
  rs.length = len ∧ (len : Int) ≤ 9223372036854775807 ∧ (∀ r ∈ rs, In r.1 ∧ In r.2) ∧
  (len = 0 ∨ ∃ b off, a = some ⟨b, off, none⟩ ∧ b < w.heap.size ∧ ∀ i, i < len → w.cell? ⟨b, off + i * 2, none⟩ = some (.int .i64 (rs.getD i (0, 0)).1) ∧ w.cell? ⟨b, off + i * 2 + 1, none⟩ = some (.int .i64 (rs.getD i (0, 0)).2))

theorem Ratios.below {w w' : World} {a : Option Addr} {len : Nat} {rs : List (Int × Int)} (h : Ratios w a len rs) (hb : Below w.heap.size w w') : Ratios w' a len rs := by
  obtain ⟨h1, h2, h3, h4⟩ := h
  refine ⟨h1, h2, h3, ?_⟩
  rcases h4 with h4 | ⟨b, off, ha, hlt, hc⟩
  · exact Or.inl h4
  · exact Or.inr ⟨b, off, ha, Nat.lt_of_lt_of_le hlt hb.size, fun i hi => ⟨(hb.cell (p := ⟨b, off + i * 2, none⟩) hlt).trans (hc i hi).1, (hb.cell (p := ⟨b, off + i * 2 + 1, none⟩) hlt).trans (hc i hi).2⟩⟩

/-- What the rounds hold: the sum so far lies in the call's own first block. -/
structure SumInv (w wr : World) (x y : Int) : Prop where
  below : Below w.heap.size w wr
  size : w.heap.size < wr.heap.size
  c0 : wr.cell? ⟨w.heap.size, 0, none⟩ = some (.int .i64 x)
  c1 : wr.cell? ⟨w.heap.size, 1, none⟩ = some (.int .i64 y)
  f0 : wr.frozen? ⟨w.heap.size, 0, none⟩ = false
  f1 : wr.frozen? ⟨w.heap.size, 1, none⟩ = false
theorem SumInv.later {w wr w' : World} {x y : Int} (h : SumInv w wr x y) (hb : Below (w.heap.size + 1) wr w') : SumInv w w' x y :=
  ⟨h.below.trans (hb.mono (by omega)), Nat.lt_of_lt_of_le h.size hb.size, keepC hb h.c0 (by simp), keepC hb h.c1 (by simp), keepF hb h.f0 (by simp), keepF hb h.f1 (by simp)⟩

theorem SumInv.put {w w2 : World} {x y : Int} (h : SumInv w w2 x y) (u v : Int) : SumInv w ((w2.setCell ⟨w.heap.size, 0, none⟩ (.int .i64 u)).setCell ⟨w.heap.size, 1, none⟩ (.int .i64 v)) u v := by
  have c0 := h.c0
  have c1 := h.c1
  have f0 := h.f0
  have f1 := h.f1
  have hb := h.below
  refine ⟨by go_grown, by simpa [World.setCell] using h.size, ?_, ?_, ?_, ?_⟩ <;> simp [go_sem, c0, c1, f0, f1]

theorem allOk_step {rs : List (Int × Int)} {k : Nat} (hk : k < rs.length) (h : AllOk rs ↔ AllOk (rs.drop k)) (ho : Ok (rs.getD k (0, 0)).1 (rs.getD k (0, 0)).2) : AllOk rs ↔ AllOk (rs.drop (k + 1)) := by
  rw [h, drop_getD2 hk]
  unfold AllOk
  simp only [List.mem_cons, forall_eq_or_imp]
  exact ⟨fun h => h.2, fun h => ⟨ho, h⟩⟩
theorem allOk_no {rs : List (Int × Int)} {k : Nat} (hk : k < rs.length) (ho : ¬ Ok (rs.getD k (0, 0)).1 (rs.getD k (0, 0)).2) : ¬ AllOk rs := fun h => ho (h _ (getD_mem2 hk))

end Go.Proofs.Ytjcfflpiajefmaa
