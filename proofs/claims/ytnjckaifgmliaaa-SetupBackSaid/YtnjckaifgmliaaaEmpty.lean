/- THE EMPTY SETUP, and lists that are none. -/
import Derived.Test.YtnjckaifgmliaaaSetupCheck
import Derived.Test.YtnjckaifgmliaaaBlocks
set_option linter.unusedSimpArgs false
set_option linter.unusedVariables false
namespace Go.Proofs.Ytnjckaifgmliaaa
open Go.RowKit Lu

def sE : Setup := ⟨0, [], 0, 0, [], [], [], 0, 0, 0, 0, 0, 0, 0, 0, 0, 0, 0, [], 0, 0, 0, []⟩
def qE : Slices := ⟨none, 0, 0, none, 0, 0, none, 0, 0, none, 0, 0, none, 0, 0, none, 0, 0⟩
theorem Recs3_none (w : World) : Recs3 w none 0 [] := ⟨rfl, by decide, by simp, .inl rfl⟩
theorem Recs4_none (w : World) : Recs4 w none 0 [] := ⟨rfl, by decide, by simp, .inl rfl⟩
theorem Ratios_none (w : World) : Ratios w none 0 [] := ⟨rfl, by decide, by simp, .inl rfl⟩
theorem Ints_none (w : World) : Ints w none 0 [] := ⟨rfl, by decide, by simp, .inl rfl⟩
theorem setupIs_E (w : World) : SetupIs w sE qE :=
  ⟨by decide, by decide, by decide, by decide, by decide, by decide, by decide, by decide, by decide, by decide, by decide, by decide, by decide, by decide, by decide, by decide, by decide, Recs3_none w, Recs4_none w, Ratios_none w, Ratios_none w, Ints_none w, Ratios_none w⟩
end Go.Proofs.Ytnjckaifgmliaaa
