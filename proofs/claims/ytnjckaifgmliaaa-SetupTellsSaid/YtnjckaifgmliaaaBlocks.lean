/- WHOLE STRUCTS INTO NEW BLOCKS: a struct literal that is laid into a variable just made. -/
import Derived.Test.YtnjckaifgmliaaaBox
import Derived.Deep.MidRow
import Derived.Deep.DeepCutAuto
set_option linter.unusedSimpArgs false
set_option linter.unusedVariables false
namespace Go.Proofs.Ytnjckaifgmliaaa
open Go.RowKit Lu

theorem setCells_new (w : World) (T : TypeId) : ∀ (vs : List Value) (o : Nat) (Z : Array Value), o + vs.length = Z.size →
    (w.alloc (.cells Z T)).setCells w.heap.size o vs = w.alloc (.cells (Z.toList.take o ++ vs).toArray T)
  | [], o, Z, h => by
    have : Z.toList.take o = Z.toList := List.take_of_length_le (by simp at h ⊢; omega)
    show w.alloc (.cells Z T) = _
    rw [this]
    simp
  | v :: r, o, Z, h => by
    have ho : o < Z.toList.length := by simp at h ⊢; omega
    show ((w.alloc (.cells Z T)).setCell ⟨w.heap.size, o, none⟩ v).setCells w.heap.size (o + 1) r = _
    rw [World.setCell_alloc_new, setCells_new w T r (o + 1) (Z.setIfInBounds o v) (by simp at h ⊢; omega)]
    have e : (Z.setIfInBounds o v).toList.take (o + 1) = Z.toList.take o ++ [v] := by
      rw [Array.toList_setIfInBounds, List.take_set, List.take_succ_eq_append_getElem ho, List.set_append_right _ _ (by simp; omega)]
      simp
      rw [show o - min o Z.size = 0 by simp at ho; omega]
      rfl
    rw [e]
    simp
/-- A whole struct is stored into the block just made. -/
theorem wpList_store_new {P : Program} {ops : Array Oper} {rest : List Oper} {op : Oper} {a : Act} {Q : Exit → Act → World → Prop} (w : World) (Z : Array Value) (T : TypeId) (hgd : op.guard = none) (ty : TypeId) (x y : Operand) (ho : op.op = .store ty x y)
    (cs : Array Value) (b : Nat) (hb : b = w.heap.size) (hx : a.eval x = .pointer (some ⟨b, 0, none⟩)) (hy : a.eval y = .agg cs) (hZ : Z.size = cs.size)
    (hi : (P.info? ty).map (·.size) = some cs.size) (h1 : cs.all (·.oneCell') = true)
    (h : wpList P ops Q rest (a.put op.dst undef) (w.alloc (.cells cs T))) : wpList P ops Q (op :: rest) a (w.alloc (.cells Z T)) := by
  subst hb
  refine wpList_store_mid hgd ty x y ho w.heap.size 0 cs hx hy ?_ hi h1 ?_
  · intro j hj
    rw [Nat.zero_add]
    exact ⟨by rw [World.cell?_alloc_new, Array.getElem?_eq_getElem (by omega)]; rfl, World.frozen?_alloc_new w Z T j⟩
  · rw [setCells_new w T cs.toList 0 Z (by simp; omega)]
    simpa using h
/-- The world behind a name, at a region's list. -/
theorem gen_list {P : Program} {ops : Array Oper} {rest : List Oper} {Q : Exit → Act → World → Prop} {a : Act} {w : World} (S : World → Prop) (h : S w) (k : ∀ W, S W → wpList P ops Q rest a W) : wpList P ops Q rest a w := k w h
theorem setup_size : (Try.prog.info? 30).map (·.size) = some 23 := by kernel_rfl
end Go.Proofs.Ytnjckaifgmliaaa
