/- A load of a whole struct of many cells at one stroke: the block is known as it stands. -/
import Derived.Test.YtnjckaifgmliaaaMem
import Derived.Laws.Rows
import Derived.BigFrame
set_option linter.unusedSimpArgs false
set_option linter.unusedVariables false
namespace Go.Proofs.Ytnjckaifgmliaaa
open Go.RowKit Lu

/-- Is a type a struct, or an array, of so many cells? -/
def bigB (P : Program) (ty : TypeId) (n : Nat) : Bool :=
  (match P.underlying ty with | some (.struct _) => true | some (.array _ _) => true | _ => false) && ((P.info? ty).map (·.size) == some n)
theorem wpList_load_box {P : Program} {ops : Array Oper} {rest : List Oper} {o : Oper} {a : Act} {w : World} {Q : Exit → Act → World → Prop} (ty : TypeId) (x : Operand) (ho : o.op = .load ty x)
    (hw : Region.wanted o (yielded ops a.tmps) = true)
    (g : Nat) (hx : a.eval x = .pointer (some ⟨g, 0, none⟩)) (t : TypeId) (cs : Array Value) (hg : w.heap[g]? = some (.cells cs t)) (hb : bigB P ty cs.size = true)
    (h : wpList P ops Q rest (a.put o.dst (.agg cs)) w) : wpList P ops Q (o :: rest) a w := by
  unfold bigB at hb
  rw [Bool.and_eq_true] at hb
  obtain ⟨h1, h2⟩ := hb
  cases hu : P.underlying ty with
  | none => simp [hu] at h1
  | some d =>
    refine Go.BigFrame.wpList_want hw fun K hK => Go.wp_load_row ty x ho g hx t cs _ d hg hu ?_ (by simpa using h2) (hK _ _ h)
    simp only [hu] at h1
    cases d <;> simp_all
theorem box_new (w : World) (b : Nat) (hb : b = w.heap.size) (cs : Array Value) (t : TypeId) : (w.alloc (.cells cs t)).heap[b]? = some (.cells cs t) := by
  subst hb
  exact heap_alloc_new w _
theorem box_keep {w w1 : World} {B b : Nat} {o : Obj} (k : Below B w w1) (h : w.heap[b]? = some o) (hb : b < B) : w1.heap[b]? = some o := (k.block b hb).trans h
theorem setup_big : bigB Try.prog 30 23 = true := by kernel_rfl
/-- What such a load yields, for a drawn region. -/
theorem runs_load_box {P : Program} {o : Oper} {a : Act} {S : World → Prop} (ty : TypeId) (x : Operand) (ho : o.op = .load ty x)
    (g : Nat) (hx : a.eval x = .pointer (some ⟨g, 0, none⟩)) (t : TypeId) (cs : Array Value) (hg : ∀ w, S w → w.heap[g]? = some (.cells cs t)) (hb : bigB P ty cs.size = true) :
    ∀ w, S w → (execOp a.eval o).run P w = .ok (.value (.agg cs)) w := by
  intro w hS
  unfold bigB at hb
  rw [Bool.and_eq_true] at hb
  obtain ⟨h1, h2⟩ := hb
  cases hu : P.underlying ty with
  | none => simp [hu] at h1
  | some d =>
    have hd : (match d with | .struct _ | .array _ _ => true | _ => false) = true := by
      simp only [hu] at h1
      cases d <;> simp_all
    unfold execOp
    simp only [ho, hx, Instr.loadAt, Instr.sureAddr, Sem.run_bind, Sem.run_pure, Result.andThen_ok, run_loadVar_row w g t ty cs _ d (hg w hS) hu hd (by simpa using h2)]
end Go.Proofs.Ytnjckaifgmliaaa
