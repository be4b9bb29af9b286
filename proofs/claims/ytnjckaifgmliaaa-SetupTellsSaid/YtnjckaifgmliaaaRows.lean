/-
  No cell of these rows narrows 'for every input' (looked for: loops, veiled, ifaces, maps, wideKeys, modest, calm, conditions, laid).
  DERIVED. THE GIVEN ROWS OF THIS SEAT. 10 by the template 'for every input the law returns true; each argument reads behind the call as it read before'; 0 by the template 'total and deterministic' (their statements: YtnjckaifgmliaaaTotals.lean).
  GIVEN WITH THE SEED: the statements are not yours to turn. If you find one false, say at which input.
  Laid BY PROGRAM, IN A SANDBOX (cutbox-rows.mjs): the forced cells as the released guide's own fill.sh prints them over the translation 7f3dd4423a181af4… (all of the seat's roots in one cut). By AI agents, Wed Nov 11 2026. No macro, syntax, notation, axiom, sorry.
-/
import Derived.Test.YtnjckaifgmliaaaChecked
import GoSem.Claim
import GoSem.ClaimJoined
import GoSem.ClaimMapViews
import Derived.JoinedTies
import Derived.KernelRfl
namespace Go.Proofs.Ytnjckaifgmliaaa
/- THE CELL 'sum', in the pinned program and in every row, IS THE sha256 OF THE DUMP (.gsa) THAT YtnjckaifgmliaaaProg.lean LOADS. Nothing in Lean hashes anything: it is a label: what it is worth is what the hold of that sum in a sandbox is worth. -/
noncomputable def Try.pinned : Pinned := { name := "ytnjckaifgmliaaa", sum := "7f3dd4423a181af4059d95a1371ca0a5f5f46abd8cdcfb3ac53d04dd389c84ac", checked := Try.checked }
namespace Rows
def none {H : Type} : Left H := { results := [], args := [] }

/-- 'lumperlaw07.SetupTells': WHATEVER THE INPUT: true; the input reads as it did. -/
def setupTellsSpec : ChangeSpec := { name := "setupTells", fn := fun _ => fun
  | [d1, d2] => { results := [.lit (.bool true)], args := [d1, d2] }
  | _ => none }
def setupTellsRow : OpenClaim := { program := "ytnjckaifgmliaaa", sum := "7f3dd4423a181af4059d95a1371ca0a5f5f46abd8cdcfb3ac53d04dd389c84ac", func := "lumper/lumperlaw07.SetupTells", spec := "setupTells", unfollowed := true, recurses := true, apart := false }
def SetupTellsSaid : Prop := setupTellsRow.holds Try.pinned (OpenSpec.ofChange setupTellsSpec)

/-- ITS FALSE NEIGHBOUR: 'it returns false'. Refute it at one input. -/
def setupTellsWrong : ChangeSpec := { name := "setupTells", fn := fun _ => fun
  | [d1, d2] => { results := [.lit (.bool false)], args := [d1, d2] }
  | _ => none }
def SetupTellsWrongFalsely : Prop := setupTellsRow.holds Try.pinned (OpenSpec.ofChange setupTellsWrong)

/-- 'lumperlaw07.SetupBack': WHATEVER THE INPUT: true; the input reads as it did. -/
def setupBackSpec : ChangeSpec := { name := "setupBack", fn := fun _ => fun
  | [d1, d2] => { results := [.lit (.bool true)], args := [d1, d2] }
  | _ => none }
def setupBackRow : OpenClaim := { program := "ytnjckaifgmliaaa", sum := "7f3dd4423a181af4059d95a1371ca0a5f5f46abd8cdcfb3ac53d04dd389c84ac", func := "lumper/lumperlaw07.SetupBack", spec := "setupBack", unfollowed := true, recurses := true, apart := false }
def SetupBackSaid : Prop := setupBackRow.holds Try.pinned (OpenSpec.ofChange setupBackSpec)

/-- ITS FALSE NEIGHBOUR: 'it returns false'. Refute it at one input. -/
def setupBackWrong : ChangeSpec := { name := "setupBack", fn := fun _ => fun
  | [d1, d2] => { results := [.lit (.bool false)], args := [d1, d2] }
  | _ => none }
def SetupBackWrongFalsely : Prop := setupBackRow.holds Try.pinned (OpenSpec.ofChange setupBackWrong)

/-- 'lumperlaw07.SetupApart': WHATEVER THE INPUT: true; the input reads as it did. -/
def setupApartSpec : ChangeSpec := { name := "setupApart", fn := fun _ => fun
  | [d1, d2] => { results := [.lit (.bool true)], args := [d1, d2] }
  | _ => none }
def setupApartRow : OpenClaim := { program := "ytnjckaifgmliaaa", sum := "7f3dd4423a181af4059d95a1371ca0a5f5f46abd8cdcfb3ac53d04dd389c84ac", func := "lumper/lumperlaw07.SetupApart", spec := "setupApart", unfollowed := true, recurses := true, apart := false }
def SetupApartSaid : Prop := setupApartRow.holds Try.pinned (OpenSpec.ofChange setupApartSpec)

/-- ITS FALSE NEIGHBOUR: 'it returns false'. Refute it at one input. -/
def setupApartWrong : ChangeSpec := { name := "setupApart", fn := fun _ => fun
  | [d1, d2] => { results := [.lit (.bool false)], args := [d1, d2] }
  | _ => none }
def SetupApartWrongFalsely : Prop := setupApartRow.holds Try.pinned (OpenSpec.ofChange setupApartWrong)

/-- 'lumperlaw07.SetupCuts': WHATEVER THE INPUT: true; the input reads as it did. -/
def setupCutsSpec : ChangeSpec := { name := "setupCuts", fn := fun _ => fun
  | [d1, d2, d3] => { results := [.lit (.bool true)], args := [d1, d2, d3] }
  | _ => none }
def setupCutsRow : OpenClaim := { program := "ytnjckaifgmliaaa", sum := "7f3dd4423a181af4059d95a1371ca0a5f5f46abd8cdcfb3ac53d04dd389c84ac", func := "lumper/lumperlaw07.SetupCuts", spec := "setupCuts", unfollowed := true, recurses := true, apart := false }
def SetupCutsSaid : Prop := setupCutsRow.holds Try.pinned (OpenSpec.ofChange setupCutsSpec)

/-- ITS FALSE NEIGHBOUR: 'it returns false'. Refute it at one input. -/
def setupCutsWrong : ChangeSpec := { name := "setupCuts", fn := fun _ => fun
  | [d1, d2, d3] => { results := [.lit (.bool false)], args := [d1, d2, d3] }
  | _ => none }
def SetupCutsWrongFalsely : Prop := setupCutsRow.holds Try.pinned (OpenSpec.ofChange setupCutsWrong)

/-- 'lumperlaw07.SetupBounds': WHATEVER THE INPUT: true; the input reads as it did. -/
def setupBoundsSpec : ChangeSpec := { name := "setupBounds", fn := fun _ => fun
  | [d1, d2] => { results := [.lit (.bool true)], args := [d1, d2] }
  | _ => none }
def setupBoundsRow : OpenClaim := { program := "ytnjckaifgmliaaa", sum := "7f3dd4423a181af4059d95a1371ca0a5f5f46abd8cdcfb3ac53d04dd389c84ac", func := "lumper/lumperlaw07.SetupBounds", spec := "setupBounds", unfollowed := true, recurses := true, apart := false }
def SetupBoundsSaid : Prop := setupBoundsRow.holds Try.pinned (OpenSpec.ofChange setupBoundsSpec)

/-- ITS FALSE NEIGHBOUR: 'it returns false'. Refute it at one input. -/
def setupBoundsWrong : ChangeSpec := { name := "setupBounds", fn := fun _ => fun
  | [d1, d2] => { results := [.lit (.bool false)], args := [d1, d2] }
  | _ => none }
def SetupBoundsWrongFalsely : Prop := setupBoundsRow.holds Try.pinned (OpenSpec.ofChange setupBoundsWrong)

/-- 'lumperlaw10.GoalTells': WHATEVER THE INPUT: true; the input reads as it did. -/
def goalTellsSpec : ChangeSpec := { name := "goalTells", fn := fun _ => fun
  | [d1, d2] => { results := [.lit (.bool true)], args := [d1, d2] }
  | _ => none }
def goalTellsRow : OpenClaim := { program := "ytnjckaifgmliaaa", sum := "7f3dd4423a181af4059d95a1371ca0a5f5f46abd8cdcfb3ac53d04dd389c84ac", func := "lumper/lumperlaw10.GoalTells", spec := "goalTells", unfollowed := true, recurses := true, apart := false }
def GoalTellsSaid : Prop := goalTellsRow.holds Try.pinned (OpenSpec.ofChange goalTellsSpec)

/-- ITS FALSE NEIGHBOUR: 'it returns false'. Refute it at one input. -/
def goalTellsWrong : ChangeSpec := { name := "goalTells", fn := fun _ => fun
  | [d1, d2] => { results := [.lit (.bool false)], args := [d1, d2] }
  | _ => none }
def GoalTellsWrongFalsely : Prop := goalTellsRow.holds Try.pinned (OpenSpec.ofChange goalTellsWrong)

/-- 'lumperlaw10.GoalMay': WHATEVER THE INPUT: true; the input reads as it did. -/
def goalMaySpec : ChangeSpec := { name := "goalMay", fn := fun _ => fun
  | [d1, d2] => { results := [.lit (.bool true)], args := [d1, d2] }
  | _ => none }
def goalMayRow : OpenClaim := { program := "ytnjckaifgmliaaa", sum := "7f3dd4423a181af4059d95a1371ca0a5f5f46abd8cdcfb3ac53d04dd389c84ac", func := "lumper/lumperlaw10.GoalMay", spec := "goalMay", unfollowed := true, recurses := true, apart := false }
def GoalMaySaid : Prop := goalMayRow.holds Try.pinned (OpenSpec.ofChange goalMaySpec)

/-- ITS FALSE NEIGHBOUR: 'it returns false'. Refute it at one input. -/
def goalMayWrong : ChangeSpec := { name := "goalMay", fn := fun _ => fun
  | [d1, d2] => { results := [.lit (.bool false)], args := [d1, d2] }
  | _ => none }
def GoalMayWrongFalsely : Prop := goalMayRow.holds Try.pinned (OpenSpec.ofChange goalMayWrong)

/-- 'lumperlaw10.GoalTurns': WHATEVER THE INPUT: true; the input reads as it did. -/
def goalTurnsSpec : ChangeSpec := { name := "goalTurns", fn := fun _ => fun
  | [d1, d2, d3] => { results := [.lit (.bool true)], args := [d1, d2, d3] }
  | _ => none }
def goalTurnsRow : OpenClaim := { program := "ytnjckaifgmliaaa", sum := "7f3dd4423a181af4059d95a1371ca0a5f5f46abd8cdcfb3ac53d04dd389c84ac", func := "lumper/lumperlaw10.GoalTurns", spec := "goalTurns", unfollowed := true, recurses := true, apart := false }
def GoalTurnsSaid : Prop := goalTurnsRow.holds Try.pinned (OpenSpec.ofChange goalTurnsSpec)

/-- ITS FALSE NEIGHBOUR: 'it returns false'. Refute it at one input. -/
def goalTurnsWrong : ChangeSpec := { name := "goalTurns", fn := fun _ => fun
  | [d1, d2, d3] => { results := [.lit (.bool false)], args := [d1, d2, d3] }
  | _ => none }
def GoalTurnsWrongFalsely : Prop := goalTurnsRow.holds Try.pinned (OpenSpec.ofChange goalTurnsWrong)

/-- 'lumperlaw10.GoalAllow': WHATEVER THE INPUT: true; the input reads as it did. -/
def goalAllowSpec : ChangeSpec := { name := "goalAllow", fn := fun _ => fun
  | [d1, d2] => { results := [.lit (.bool true)], args := [d1, d2] }
  | _ => none }
def goalAllowRow : OpenClaim := { program := "ytnjckaifgmliaaa", sum := "7f3dd4423a181af4059d95a1371ca0a5f5f46abd8cdcfb3ac53d04dd389c84ac", func := "lumper/lumperlaw10.GoalAllow", spec := "goalAllow", unfollowed := true, recurses := true, apart := false }
def GoalAllowSaid : Prop := goalAllowRow.holds Try.pinned (OpenSpec.ofChange goalAllowSpec)

/-- ITS FALSE NEIGHBOUR: 'it returns false'. Refute it at one input. -/
def goalAllowWrong : ChangeSpec := { name := "goalAllow", fn := fun _ => fun
  | [d1, d2] => { results := [.lit (.bool false)], args := [d1, d2] }
  | _ => none }
def GoalAllowWrongFalsely : Prop := goalAllowRow.holds Try.pinned (OpenSpec.ofChange goalAllowWrong)

/-- 'lumperlaw10.GoalUnits': WHATEVER THE INPUT: true; the input reads as it did. -/
def goalUnitsSpec : ChangeSpec := { name := "goalUnits", fn := fun _ => fun
  | [d1, d2, d3] => { results := [.lit (.bool true)], args := [d1, d2, d3] }
  | _ => none }
def goalUnitsRow : OpenClaim := { program := "ytnjckaifgmliaaa", sum := "7f3dd4423a181af4059d95a1371ca0a5f5f46abd8cdcfb3ac53d04dd389c84ac", func := "lumper/lumperlaw10.GoalUnits", spec := "goalUnits", unfollowed := true, recurses := true, apart := false }
def GoalUnitsSaid : Prop := goalUnitsRow.holds Try.pinned (OpenSpec.ofChange goalUnitsSpec)

/-- ITS FALSE NEIGHBOUR: 'it returns false'. Refute it at one input. -/
def goalUnitsWrong : ChangeSpec := { name := "goalUnits", fn := fun _ => fun
  | [d1, d2, d3] => { results := [.lit (.bool false)], args := [d1, d2, d3] }
  | _ => none }
def GoalUnitsWrongFalsely : Prop := goalUnitsRow.holds Try.pinned (OpenSpec.ofChange goalUnitsWrong)

/- THE SECOND FORM. 'bulk': how many values and letters a reading holds, each counted each time it is reached (what is shared counts as often as it is met; a slice's spare places count too). A statement '..UptoSaid' is the law's where the arguments, and the package variables that the reading takes, are together of bulk at most 1048576: NARROWER than '..Said'. Prove '..Said' where nothing that the law and all that it calls make is longer than what came in: it says more and counts as full. Else prove '..UptoSaid'. A law counts once. -/
mutual
def uptoBulk {H : Type} : DataW H → Nat
  | .lit (.string bytes) => bytes.length + 1
  | .lit _ => 1
  | .nil => 1
  | .ptr d => uptoBulk d + 1
  | .slice elems spare => uptoBulkAll elems + uptoBulkAll spare + 1
  | .agg parts => uptoBulkAll parts + 1
  | .iface _ d => uptoBulk d + 1
  | .map entries => uptoBulkEntries entries + 1
  | .held _ => 1
def uptoBulkAll {H : Type} : List (DataW H) → Nat
  | [] => 0
  | d :: r => uptoBulk d + uptoBulkAll r
def uptoBulkEntries {H : Type} : List (Lit × DataW H) → Nat
  | [] => 0
  | x :: r => uptoBulkEntry x + uptoBulkEntries r
def uptoBulkEntry {H : Type} : Lit × DataW H → Nat
  | (.string bytes, d) => bytes.length + uptoBulk d + 1
  | (_, d) => uptoBulk d + 1
 end
def uptoSmall : (H : Type) → List (DataW H) → Bool := fun _ ds => decide (uptoBulkAll ds ≤ 1048576)
def OpenSpec.upto (s : _root_.Go.ChangeSpec) : _root_.Go.OpenSpec := { _root_.Go.OpenSpec.ofChange s with cond := some uptoSmall }

/-- 'lumperlaw07.SetupTells', WHERE WHAT IT READS IS OF BULK AT MOST 1048576: true; the input reads as it did. -/
def setupTellsUptoRow : OpenClaim := { program := "ytnjckaifgmliaaa", sum := "7f3dd4423a181af4059d95a1371ca0a5f5f46abd8cdcfb3ac53d04dd389c84ac", func := "lumper/lumperlaw07.SetupTells", spec := "setupTells", unfollowed := true, recurses := true, apart := false, narrowed := true }
def SetupTellsUptoSaid : Prop := setupTellsUptoRow.holds Try.pinned (OpenSpec.upto setupTellsSpec)

/-- 'lumperlaw07.SetupBack', WHERE WHAT IT READS IS OF BULK AT MOST 1048576: true; the input reads as it did. -/
def setupBackUptoRow : OpenClaim := { program := "ytnjckaifgmliaaa", sum := "7f3dd4423a181af4059d95a1371ca0a5f5f46abd8cdcfb3ac53d04dd389c84ac", func := "lumper/lumperlaw07.SetupBack", spec := "setupBack", unfollowed := true, recurses := true, apart := false, narrowed := true }
def SetupBackUptoSaid : Prop := setupBackUptoRow.holds Try.pinned (OpenSpec.upto setupBackSpec)

/-- 'lumperlaw07.SetupApart', WHERE WHAT IT READS IS OF BULK AT MOST 1048576: true; the input reads as it did. -/
def setupApartUptoRow : OpenClaim := { program := "ytnjckaifgmliaaa", sum := "7f3dd4423a181af4059d95a1371ca0a5f5f46abd8cdcfb3ac53d04dd389c84ac", func := "lumper/lumperlaw07.SetupApart", spec := "setupApart", unfollowed := true, recurses := true, apart := false, narrowed := true }
def SetupApartUptoSaid : Prop := setupApartUptoRow.holds Try.pinned (OpenSpec.upto setupApartSpec)

/-- 'lumperlaw07.SetupCuts', WHERE WHAT IT READS IS OF BULK AT MOST 1048576: true; the input reads as it did. -/
def setupCutsUptoRow : OpenClaim := { program := "ytnjckaifgmliaaa", sum := "7f3dd4423a181af4059d95a1371ca0a5f5f46abd8cdcfb3ac53d04dd389c84ac", func := "lumper/lumperlaw07.SetupCuts", spec := "setupCuts", unfollowed := true, recurses := true, apart := false, narrowed := true }
def SetupCutsUptoSaid : Prop := setupCutsUptoRow.holds Try.pinned (OpenSpec.upto setupCutsSpec)

/-- 'lumperlaw07.SetupBounds', WHERE WHAT IT READS IS OF BULK AT MOST 1048576: true; the input reads as it did. -/
def setupBoundsUptoRow : OpenClaim := { program := "ytnjckaifgmliaaa", sum := "7f3dd4423a181af4059d95a1371ca0a5f5f46abd8cdcfb3ac53d04dd389c84ac", func := "lumper/lumperlaw07.SetupBounds", spec := "setupBounds", unfollowed := true, recurses := true, apart := false, narrowed := true }
def SetupBoundsUptoSaid : Prop := setupBoundsUptoRow.holds Try.pinned (OpenSpec.upto setupBoundsSpec)

/-- 'lumperlaw10.GoalTells', WHERE WHAT IT READS IS OF BULK AT MOST 1048576: true; the input reads as it did. -/
def goalTellsUptoRow : OpenClaim := { program := "ytnjckaifgmliaaa", sum := "7f3dd4423a181af4059d95a1371ca0a5f5f46abd8cdcfb3ac53d04dd389c84ac", func := "lumper/lumperlaw10.GoalTells", spec := "goalTells", unfollowed := true, recurses := true, apart := false, narrowed := true }
def GoalTellsUptoSaid : Prop := goalTellsUptoRow.holds Try.pinned (OpenSpec.upto goalTellsSpec)

/-- 'lumperlaw10.GoalMay', WHERE WHAT IT READS IS OF BULK AT MOST 1048576: true; the input reads as it did. -/
def goalMayUptoRow : OpenClaim := { program := "ytnjckaifgmliaaa", sum := "7f3dd4423a181af4059d95a1371ca0a5f5f46abd8cdcfb3ac53d04dd389c84ac", func := "lumper/lumperlaw10.GoalMay", spec := "goalMay", unfollowed := true, recurses := true, apart := false, narrowed := true }
def GoalMayUptoSaid : Prop := goalMayUptoRow.holds Try.pinned (OpenSpec.upto goalMaySpec)

/-- 'lumperlaw10.GoalTurns', WHERE WHAT IT READS IS OF BULK AT MOST 1048576: true; the input reads as it did. -/
def goalTurnsUptoRow : OpenClaim := { program := "ytnjckaifgmliaaa", sum := "7f3dd4423a181af4059d95a1371ca0a5f5f46abd8cdcfb3ac53d04dd389c84ac", func := "lumper/lumperlaw10.GoalTurns", spec := "goalTurns", unfollowed := true, recurses := true, apart := false, narrowed := true }
def GoalTurnsUptoSaid : Prop := goalTurnsUptoRow.holds Try.pinned (OpenSpec.upto goalTurnsSpec)

/-- 'lumperlaw10.GoalAllow', WHERE WHAT IT READS IS OF BULK AT MOST 1048576: true; the input reads as it did. -/
def goalAllowUptoRow : OpenClaim := { program := "ytnjckaifgmliaaa", sum := "7f3dd4423a181af4059d95a1371ca0a5f5f46abd8cdcfb3ac53d04dd389c84ac", func := "lumper/lumperlaw10.GoalAllow", spec := "goalAllow", unfollowed := true, recurses := true, apart := false, narrowed := true }
def GoalAllowUptoSaid : Prop := goalAllowUptoRow.holds Try.pinned (OpenSpec.upto goalAllowSpec)

/-- 'lumperlaw10.GoalUnits', WHERE WHAT IT READS IS OF BULK AT MOST 1048576: true; the input reads as it did. -/
def goalUnitsUptoRow : OpenClaim := { program := "ytnjckaifgmliaaa", sum := "7f3dd4423a181af4059d95a1371ca0a5f5f46abd8cdcfb3ac53d04dd389c84ac", func := "lumper/lumperlaw10.GoalUnits", spec := "goalUnits", unfollowed := true, recurses := true, apart := false, narrowed := true }
def GoalUnitsUptoSaid : Prop := goalUnitsUptoRow.holds Try.pinned (OpenSpec.upto goalUnitsSpec)

end Rows
end Go.Proofs.Ytnjckaifgmliaaa
