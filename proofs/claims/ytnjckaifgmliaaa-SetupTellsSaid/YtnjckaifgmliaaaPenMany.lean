/- THE WALK of layer 7's pen: how many. -/
import Derived.Test.YtnjckaifgmliaaaPen
set_option linter.unusedSimpArgs false
set_option linter.unusedVariables false
namespace Go.Proofs.Ytnjckaifgmliaaa
open Go.RowKit Lu

theorem manyP_nil : manyP [] = [] := rfl
set_option maxRecDepth 100000 in
theorem pen_many (H : Nat) (n : Nat) (out : List Int) (W : World) (hp : PenIs W H out) (hn : n ≤ 1000) (hb : out.length ≤ 900000) :
    Calls Try.prog 137 #[.pointer (some ⟨H, 0, none⟩), .int .i64 (n : Int)] W fun e W' => e = .returned (.int .i64 (n : Int)) ∧ PenIs W' H (out ++ oneP (n : Int)) ∧ Off H W W' := by
  have hH := hp.lt
  have k0 : Below W.heap.size W ((W.alloc (.cells #[.int .i64 (n : Int)] 3)).alloc (.cells #[.pointer (some ⟨W.heap.size, 0, none⟩)] 97)) := by go_grown
  have hp' := hp.below k0
  have hpk : Pk (n : Int) := ⟨by omega, by omega⟩
  have hc := cells_one (W.alloc (.cells #[.int .i64 (n : Int)] 3)) (.pointer (some ⟨W.heap.size, 0, none⟩)) 97
  have hz : ((W.alloc (.cells #[.int .i64 (n : Int)] 3)).alloc (.cells #[.pointer (some ⟨W.heap.size, 0, none⟩)] 97)).cell? ⟨W.heap.size, 0, none⟩ = some (.int .i64 (n : Int)) := by simp [go_sem]
  have key := pen_put H (W.heap.size + 1) 0 1 [(W.heap.size, 0)] [(n : Int)] out _ hp' (by simpa using hc) (by omega) rfl (by
    intro j r z hr hzj
    have hj : j = 0 := by have := (List.getElem?_eq_some_iff.1 hr).1; simpa using this
    subst hj
    simp only [List.getElem?_cons_zero, Option.some.injEq] at hr hzj
    subst hr hzj
    exact ⟨hz, by simp only; omega⟩) (by intro z hz; simp only [List.mem_singleton] at hz; subst hz; exact hpk) (by simp; omega)
  have KEY := Lib.hid key
  have HZ := Lib.hid hz
  clear key hc hz hp hp'
  go_enter Try.func137, Try.ntmps137
  go_wp2_with fail
  refine (KEY.out).mono ?_
  rintro e1 w1 ⟨rfl, hp1, o1⟩
  have hc1 := o1.cell HZ.out (by simp only; omega)
  have o0 : Off H W w1 := (Below.off k0).trans o1
  go_wp2_with fail
  go_ret
  refine ⟨rfl, ?_, o0⟩
  have : manyP [(n : Int)] = oneP (n : Int) := manyP_one _
  rw [this] at hp1
  exact hp1
end Go.Proofs.Ytnjckaifgmliaaa
