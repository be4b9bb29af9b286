/-
  No cell of these rows narrows 'for every input' (looked for: loops, veiled, ifaces, maps, wideKeys, modest, calm, conditions, laid).
  DERIVED. THE GIVEN ROWS OF THIS SEAT. 11 by the template 'for every input the law returns true; each argument reads behind the call as it read before'; 0 by the template 'total and deterministic' (their statements: YtjcfflpiajefmaaTotals.lean).
  GIVEN WITH THE SEED: the statements are not yours to turn. If you find one false, say at which input.
  Laid BY PROGRAM, IN A SANDBOX (cutbox-rows.mjs): the forced cells as the released guide's own fill.sh prints them over the translation c4a0abce2e430136… (all of the seat's roots in one cut). By AI agents, Wed Nov 11 2026. No macro, syntax, notation, axiom, sorry.
-/
import Derived.Test.YtjcfflpiajefmaaChecked
import GoSem.Claim
import GoSem.ClaimJoined
import GoSem.ClaimMapViews
import Derived.JoinedTies
import Derived.KernelRfl
namespace Go.Proofs.Ytjcfflpiajefmaa
/- THE CELL 'sum', in the pinned program and in every row, IS THE sha256 OF THE DUMP (.gsa) THAT YtjcfflpiajefmaaProg.lean LOADS. Nothing in Lean hashes anything: it is a label: what it is worth is what the hold of that sum in a sandbox is worth. -/
noncomputable def Try.pinned : Pinned := { name := "ytjcfflpiajefmaa", sum := "c4a0abce2e430136a99beb71fa5ab88b4846ea9d15daf8cb74aa532b3ed85e2d", checked := Try.checked }
namespace Rows
def none {H : Type} : Left H := { results := [], args := [] }

/-- 'lumperlaw19.PayTells': WHATEVER THE INPUT: true; the input reads as it did. -/
def payTellsSpec : ChangeSpec := { name := "payTells", fn := fun _ => fun
  | [d1, d2, d3, d4, d5] => { results := [.lit (.bool true)], args := [d1, d2, d3, d4, d5] }
  | _ => none }
def payTellsRow : OpenClaim := { program := "ytjcfflpiajefmaa", sum := "c4a0abce2e430136a99beb71fa5ab88b4846ea9d15daf8cb74aa532b3ed85e2d", func := "lumper/lumperlaw19.PayTells", spec := "payTells", unfollowed := true, recurses := true, apart := false }
def PayTellsSaid : Prop := payTellsRow.holds Try.pinned (OpenSpec.ofChange payTellsSpec)

/-- ITS FALSE NEIGHBOUR: 'it returns false'. Refute it at one input. -/
def payTellsWrong : ChangeSpec := { name := "payTells", fn := fun _ => fun
  | [d1, d2, d3, d4, d5] => { results := [.lit (.bool false)], args := [d1, d2, d3, d4, d5] }
  | _ => none }
def PayTellsWrongFalsely : Prop := payTellsRow.holds Try.pinned (OpenSpec.ofChange payTellsWrong)

/-- 'lumperlaw19.PayLeast': WHATEVER THE INPUT: true; the input reads as it did. -/
def payLeastSpec : ChangeSpec := { name := "payLeast", fn := fun _ => fun
  | [d1, d2, d3, d4, d5] => { results := [.lit (.bool true)], args := [d1, d2, d3, d4, d5] }
  | _ => none }
def payLeastRow : OpenClaim := { program := "ytjcfflpiajefmaa", sum := "c4a0abce2e430136a99beb71fa5ab88b4846ea9d15daf8cb74aa532b3ed85e2d", func := "lumper/lumperlaw19.PayLeast", spec := "payLeast", unfollowed := true, recurses := true, apart := false }
def PayLeastSaid : Prop := payLeastRow.holds Try.pinned (OpenSpec.ofChange payLeastSpec)

/-- ITS FALSE NEIGHBOUR: 'it returns false'. Refute it at one input. -/
def payLeastWrong : ChangeSpec := { name := "payLeast", fn := fun _ => fun
  | [d1, d2, d3, d4, d5] => { results := [.lit (.bool false)], args := [d1, d2, d3, d4, d5] }
  | _ => none }
def PayLeastWrongFalsely : Prop := payLeastRow.holds Try.pinned (OpenSpec.ofChange payLeastWrong)

/-- 'lumperlaw19.PayNear': WHATEVER THE INPUT: true; the input reads as it did. -/
def payNearSpec : ChangeSpec := { name := "payNear", fn := fun _ => fun
  | [d1, d2, d3] => { results := [.lit (.bool true)], args := [d1, d2, d3] }
  | _ => none }
def payNearRow : OpenClaim := { program := "ytjcfflpiajefmaa", sum := "c4a0abce2e430136a99beb71fa5ab88b4846ea9d15daf8cb74aa532b3ed85e2d", func := "lumper/lumperlaw19.PayNear", spec := "payNear", unfollowed := true, recurses := true, apart := false }
def PayNearSaid : Prop := payNearRow.holds Try.pinned (OpenSpec.ofChange payNearSpec)

/-- ITS FALSE NEIGHBOUR: 'it returns false'. Refute it at one input. -/
def payNearWrong : ChangeSpec := { name := "payNear", fn := fun _ => fun
  | [d1, d2, d3] => { results := [.lit (.bool false)], args := [d1, d2, d3] }
  | _ => none }
def PayNearWrongFalsely : Prop := payNearRow.holds Try.pinned (OpenSpec.ofChange payNearWrong)

/-- 'lumperlaw19.PayMore': WHATEVER THE INPUT: true; the input reads as it did. -/
def payMoreSpec : ChangeSpec := { name := "payMore", fn := fun _ => fun
  | [d1, d2, d3, d4, d5] => { results := [.lit (.bool true)], args := [d1, d2, d3, d4, d5] }
  | _ => none }
def payMoreRow : OpenClaim := { program := "ytjcfflpiajefmaa", sum := "c4a0abce2e430136a99beb71fa5ab88b4846ea9d15daf8cb74aa532b3ed85e2d", func := "lumper/lumperlaw19.PayMore", spec := "payMore", unfollowed := true, recurses := true, apart := false }
def PayMoreSaid : Prop := payMoreRow.holds Try.pinned (OpenSpec.ofChange payMoreSpec)

/-- ITS FALSE NEIGHBOUR: 'it returns false'. Refute it at one input. -/
def payMoreWrong : ChangeSpec := { name := "payMore", fn := fun _ => fun
  | [d1, d2, d3, d4, d5] => { results := [.lit (.bool false)], args := [d1, d2, d3, d4, d5] }
  | _ => none }
def PayMoreWrongFalsely : Prop := payMoreRow.holds Try.pinned (OpenSpec.ofChange payMoreWrong)

/-- 'lumperlaw19.PayHours': WHATEVER THE INPUT: true; the input reads as it did. -/
def payHoursSpec : ChangeSpec := { name := "payHours", fn := fun _ => fun
  | [d1, d2, d3, d4] => { results := [.lit (.bool true)], args := [d1, d2, d3, d4] }
  | _ => none }
def payHoursRow : OpenClaim := { program := "ytjcfflpiajefmaa", sum := "c4a0abce2e430136a99beb71fa5ab88b4846ea9d15daf8cb74aa532b3ed85e2d", func := "lumper/lumperlaw19.PayHours", spec := "payHours", unfollowed := true, recurses := true, apart := false }
def PayHoursSaid : Prop := payHoursRow.holds Try.pinned (OpenSpec.ofChange payHoursSpec)

/-- ITS FALSE NEIGHBOUR: 'it returns false'. Refute it at one input. -/
def payHoursWrong : ChangeSpec := { name := "payHours", fn := fun _ => fun
  | [d1, d2, d3, d4] => { results := [.lit (.bool false)], args := [d1, d2, d3, d4] }
  | _ => none }
def PayHoursWrongFalsely : Prop := payHoursRow.holds Try.pinned (OpenSpec.ofChange payHoursWrong)

/-- 'lumperlaw19.PayTiers': WHATEVER THE INPUT: true; the input reads as it did. -/
def payTiersSpec : ChangeSpec := { name := "payTiers", fn := fun _ => fun
  | [d1, d2, d3, d4, d5] => { results := [.lit (.bool true)], args := [d1, d2, d3, d4, d5] }
  | _ => none }
def payTiersRow : OpenClaim := { program := "ytjcfflpiajefmaa", sum := "c4a0abce2e430136a99beb71fa5ab88b4846ea9d15daf8cb74aa532b3ed85e2d", func := "lumper/lumperlaw19.PayTiers", spec := "payTiers", unfollowed := true, recurses := true, apart := false }
def PayTiersSaid : Prop := payTiersRow.holds Try.pinned (OpenSpec.ofChange payTiersSpec)

/-- ITS FALSE NEIGHBOUR: 'it returns false'. Refute it at one input. -/
def payTiersWrong : ChangeSpec := { name := "payTiers", fn := fun _ => fun
  | [d1, d2, d3, d4, d5] => { results := [.lit (.bool false)], args := [d1, d2, d3, d4, d5] }
  | _ => none }
def PayTiersWrongFalsely : Prop := payTiersRow.holds Try.pinned (OpenSpec.ofChange payTiersWrong)

/-- 'lumperlaw09.WayTells': WHATEVER THE INPUT: true; the input reads as it did. -/
def wayTellsSpec : ChangeSpec := { name := "wayTells", fn := fun _ => fun
  | [d1, d2, d3] => { results := [.lit (.bool true)], args := [d1, d2, d3] }
  | _ => none }
def wayTellsRow : OpenClaim := { program := "ytjcfflpiajefmaa", sum := "c4a0abce2e430136a99beb71fa5ab88b4846ea9d15daf8cb74aa532b3ed85e2d", func := "lumper/lumperlaw09.WayTells", spec := "wayTells", unfollowed := true, recurses := true, apart := false }
def WayTellsSaid : Prop := wayTellsRow.holds Try.pinned (OpenSpec.ofChange wayTellsSpec)

/-- ITS FALSE NEIGHBOUR: 'it returns false'. Refute it at one input. -/
def wayTellsWrong : ChangeSpec := { name := "wayTells", fn := fun _ => fun
  | [d1, d2, d3] => { results := [.lit (.bool false)], args := [d1, d2, d3] }
  | _ => none }
def WayTellsWrongFalsely : Prop := wayTellsRow.holds Try.pinned (OpenSpec.ofChange wayTellsWrong)

/-- 'lumperlaw09.WayTurns': WHATEVER THE INPUT: true; the input reads as it did. -/
def wayTurnsSpec : ChangeSpec := { name := "wayTurns", fn := fun _ => fun
  | [d] => { results := [.lit (.bool true)], args := [d] }
  | _ => none }
def wayTurnsRow : OpenClaim := { program := "ytjcfflpiajefmaa", sum := "c4a0abce2e430136a99beb71fa5ab88b4846ea9d15daf8cb74aa532b3ed85e2d", func := "lumper/lumperlaw09.WayTurns", spec := "wayTurns", unfollowed := true, recurses := true, apart := false }
def WayTurnsSaid : Prop := wayTurnsRow.holds Try.pinned (OpenSpec.ofChange wayTurnsSpec)

/-- ITS FALSE NEIGHBOUR: 'it returns false'. Refute it at one input. -/
def wayTurnsWrong : ChangeSpec := { name := "wayTurns", fn := fun _ => fun
  | [d] => { results := [.lit (.bool false)], args := [d] }
  | _ => none }
def WayTurnsWrongFalsely : Prop := wayTurnsRow.holds Try.pinned (OpenSpec.ofChange wayTurnsWrong)

/-- 'lumperlaw09.WayThree': WHATEVER THE INPUT: true; the input reads as it did. -/
def wayThreeSpec : ChangeSpec := { name := "wayThree", fn := fun _ => fun
  | [d] => { results := [.lit (.bool true)], args := [d] }
  | _ => none }
def wayThreeRow : OpenClaim := { program := "ytjcfflpiajefmaa", sum := "c4a0abce2e430136a99beb71fa5ab88b4846ea9d15daf8cb74aa532b3ed85e2d", func := "lumper/lumperlaw09.WayThree", spec := "wayThree", unfollowed := true, recurses := true, apart := false }
def WayThreeSaid : Prop := wayThreeRow.holds Try.pinned (OpenSpec.ofChange wayThreeSpec)

/-- ITS FALSE NEIGHBOUR: 'it returns false'. Refute it at one input. -/
def wayThreeWrong : ChangeSpec := { name := "wayThree", fn := fun _ => fun
  | [d] => { results := [.lit (.bool false)], args := [d] }
  | _ => none }
def WayThreeWrongFalsely : Prop := wayThreeRow.holds Try.pinned (OpenSpec.ofChange wayThreeWrong)

/-- 'lumperlaw09.WayLast': WHATEVER THE INPUT: true; the input reads as it did. -/
def wayLastSpec : ChangeSpec := { name := "wayLast", fn := fun _ => fun
  | [d1, d2] => { results := [.lit (.bool true)], args := [d1, d2] }
  | _ => none }
def wayLastRow : OpenClaim := { program := "ytjcfflpiajefmaa", sum := "c4a0abce2e430136a99beb71fa5ab88b4846ea9d15daf8cb74aa532b3ed85e2d", func := "lumper/lumperlaw09.WayLast", spec := "wayLast", unfollowed := true, recurses := true, apart := false }
def WayLastSaid : Prop := wayLastRow.holds Try.pinned (OpenSpec.ofChange wayLastSpec)

/-- ITS FALSE NEIGHBOUR: 'it returns false'. Refute it at one input. -/
def wayLastWrong : ChangeSpec := { name := "wayLast", fn := fun _ => fun
  | [d1, d2] => { results := [.lit (.bool false)], args := [d1, d2] }
  | _ => none }
def WayLastWrongFalsely : Prop := wayLastRow.holds Try.pinned (OpenSpec.ofChange wayLastWrong)

/-- 'lumperlaw09.WayMore': WHATEVER THE INPUT: true; the input reads as it did. -/
def wayMoreSpec : ChangeSpec := { name := "wayMore", fn := fun _ => fun
  | [d1, d2] => { results := [.lit (.bool true)], args := [d1, d2] }
  | _ => none }
def wayMoreRow : OpenClaim := { program := "ytjcfflpiajefmaa", sum := "c4a0abce2e430136a99beb71fa5ab88b4846ea9d15daf8cb74aa532b3ed85e2d", func := "lumper/lumperlaw09.WayMore", spec := "wayMore", unfollowed := true, recurses := true, apart := false }
def WayMoreSaid : Prop := wayMoreRow.holds Try.pinned (OpenSpec.ofChange wayMoreSpec)

/-- ITS FALSE NEIGHBOUR: 'it returns false'. Refute it at one input. -/
def wayMoreWrong : ChangeSpec := { name := "wayMore", fn := fun _ => fun
  | [d1, d2] => { results := [.lit (.bool false)], args := [d1, d2] }
  | _ => none }
def WayMoreWrongFalsely : Prop := wayMoreRow.holds Try.pinned (OpenSpec.ofChange wayMoreWrong)

/- THE SECOND FORM. 'bulk': how many values and letters a reading holds, each counted each time it is reached (what is shared counts as often as it is met; a slice's spare places count too). A statement '..UptoSaid' is the law's where the arguments, and the package variables that the reading takes, are together of bulk at most 1048576: NARROWER than '..Said'. Prove '..Said' where nothing that the law and all that it calls make is longer than what came in: it says more and counts as full. Else prove '..UptoSaid'. A law counts once. -/
mutual
def uptoBulk {H : Type} : DataW H → Nat
  | .lit (.string bytes) => bytes.length + 1
  | .lit _ => 1
  | .nil => 1
  | .ptr d => uptoBulk d + 1
  | .slice elems spare => uptoBulkAll elems + uptoBulkAll spare + 1
  | .agg parts => uptoBulkAll parts + 1
  | .iface _ d => uptoBulk d + 1
  | .map entries => uptoBulkEntries entries + 1
  | .held _ => 1
def uptoBulkAll {H : Type} : List (DataW H) → Nat
  | [] => 0
  | d :: r => uptoBulk d + uptoBulkAll r
def uptoBulkEntries {H : Type} : List (Lit × DataW H) → Nat
  | [] => 0
  | x :: r => uptoBulkEntry x + uptoBulkEntries r
def uptoBulkEntry {H : Type} : Lit × DataW H → Nat
  | (.string bytes, d) => bytes.length + uptoBulk d + 1
  | (_, d) => uptoBulk d + 1
 end
def uptoSmall : (H : Type) → List (DataW H) → Bool := fun _ ds => decide (uptoBulkAll ds ≤ 1048576)
def OpenSpec.upto (s : _root_.Go.ChangeSpec) : _root_.Go.OpenSpec := { _root_.Go.OpenSpec.ofChange s with cond := some uptoSmall }

/-- 'lumperlaw19.PayTells', WHERE WHAT IT READS IS OF BULK AT MOST 1048576: true; the input reads as it did. -/
def payTellsUptoRow : OpenClaim := { program := "ytjcfflpiajefmaa", sum := "c4a0abce2e430136a99beb71fa5ab88b4846ea9d15daf8cb74aa532b3ed85e2d", func := "lumper/lumperlaw19.PayTells", spec := "payTells", unfollowed := true, recurses := true, apart := false, narrowed := true }
def PayTellsUptoSaid : Prop := payTellsUptoRow.holds Try.pinned (OpenSpec.upto payTellsSpec)

/-- 'lumperlaw19.PayLeast', WHERE WHAT IT READS IS OF BULK AT MOST 1048576: true; the input reads as it did. -/
def payLeastUptoRow : OpenClaim := { program := "ytjcfflpiajefmaa", sum := "c4a0abce2e430136a99beb71fa5ab88b4846ea9d15daf8cb74aa532b3ed85e2d", func := "lumper/lumperlaw19.PayLeast", spec := "payLeast", unfollowed := true, recurses := true, apart := false, narrowed := true }
def PayLeastUptoSaid : Prop := payLeastUptoRow.holds Try.pinned (OpenSpec.upto payLeastSpec)

/-- 'lumperlaw19.PayNear', WHERE WHAT IT READS IS OF BULK AT MOST 1048576: true; the input reads as it did. -/
def payNearUptoRow : OpenClaim := { program := "ytjcfflpiajefmaa", sum := "c4a0abce2e430136a99beb71fa5ab88b4846ea9d15daf8cb74aa532b3ed85e2d", func := "lumper/lumperlaw19.PayNear", spec := "payNear", unfollowed := true, recurses := true, apart := false, narrowed := true }
def PayNearUptoSaid : Prop := payNearUptoRow.holds Try.pinned (OpenSpec.upto payNearSpec)

/-- 'lumperlaw19.PayMore', WHERE WHAT IT READS IS OF BULK AT MOST 1048576: true; the input reads as it did. -/
def payMoreUptoRow : OpenClaim := { program := "ytjcfflpiajefmaa", sum := "c4a0abce2e430136a99beb71fa5ab88b4846ea9d15daf8cb74aa532b3ed85e2d", func := "lumper/lumperlaw19.PayMore", spec := "payMore", unfollowed := true, recurses := true, apart := false, narrowed := true }
def PayMoreUptoSaid : Prop := payMoreUptoRow.holds Try.pinned (OpenSpec.upto payMoreSpec)

/-- 'lumperlaw19.PayHours', WHERE WHAT IT READS IS OF BULK AT MOST 1048576: true; the input reads as it did. -/
def payHoursUptoRow : OpenClaim := { program := "ytjcfflpiajefmaa", sum := "c4a0abce2e430136a99beb71fa5ab88b4846ea9d15daf8cb74aa532b3ed85e2d", func := "lumper/lumperlaw19.PayHours", spec := "payHours", unfollowed := true, recurses := true, apart := false, narrowed := true }
def PayHoursUptoSaid : Prop := payHoursUptoRow.holds Try.pinned (OpenSpec.upto payHoursSpec)

/-- 'lumperlaw19.PayTiers', WHERE WHAT IT READS IS OF BULK AT MOST 1048576: true; the input reads as it did. -/
def payTiersUptoRow : OpenClaim := { program := "ytjcfflpiajefmaa", sum := "c4a0abce2e430136a99beb71fa5ab88b4846ea9d15daf8cb74aa532b3ed85e2d", func := "lumper/lumperlaw19.PayTiers", spec := "payTiers", unfollowed := true, recurses := true, apart := false, narrowed := true }
def PayTiersUptoSaid : Prop := payTiersUptoRow.holds Try.pinned (OpenSpec.upto payTiersSpec)

/-- 'lumperlaw09.WayTells', WHERE WHAT IT READS IS OF BULK AT MOST 1048576: true; the input reads as it did. -/
def wayTellsUptoRow : OpenClaim := { program := "ytjcfflpiajefmaa", sum := "c4a0abce2e430136a99beb71fa5ab88b4846ea9d15daf8cb74aa532b3ed85e2d", func := "lumper/lumperlaw09.WayTells", spec := "wayTells", unfollowed := true, recurses := true, apart := false, narrowed := true }
def WayTellsUptoSaid : Prop := wayTellsUptoRow.holds Try.pinned (OpenSpec.upto wayTellsSpec)

/-- 'lumperlaw09.WayTurns', WHERE WHAT IT READS IS OF BULK AT MOST 1048576: true; the input reads as it did. -/
def wayTurnsUptoRow : OpenClaim := { program := "ytjcfflpiajefmaa", sum := "c4a0abce2e430136a99beb71fa5ab88b4846ea9d15daf8cb74aa532b3ed85e2d", func := "lumper/lumperlaw09.WayTurns", spec := "wayTurns", unfollowed := true, recurses := true, apart := false, narrowed := true }
def WayTurnsUptoSaid : Prop := wayTurnsUptoRow.holds Try.pinned (OpenSpec.upto wayTurnsSpec)

/-- 'lumperlaw09.WayThree', WHERE WHAT IT READS IS OF BULK AT MOST 1048576: true; the input reads as it did. -/
def wayThreeUptoRow : OpenClaim := { program := "ytjcfflpiajefmaa", sum := "c4a0abce2e430136a99beb71fa5ab88b4846ea9d15daf8cb74aa532b3ed85e2d", func := "lumper/lumperlaw09.WayThree", spec := "wayThree", unfollowed := true, recurses := true, apart := false, narrowed := true }
def WayThreeUptoSaid : Prop := wayThreeUptoRow.holds Try.pinned (OpenSpec.upto wayThreeSpec)

/-- 'lumperlaw09.WayLast', WHERE WHAT IT READS IS OF BULK AT MOST 1048576: true; the input reads as it did. -/
def wayLastUptoRow : OpenClaim := { program := "ytjcfflpiajefmaa", sum := "c4a0abce2e430136a99beb71fa5ab88b4846ea9d15daf8cb74aa532b3ed85e2d", func := "lumper/lumperlaw09.WayLast", spec := "wayLast", unfollowed := true, recurses := true, apart := false, narrowed := true }
def WayLastUptoSaid : Prop := wayLastUptoRow.holds Try.pinned (OpenSpec.upto wayLastSpec)

/-- 'lumperlaw09.WayMore', WHERE WHAT IT READS IS OF BULK AT MOST 1048576: true; the input reads as it did. -/
def wayMoreUptoRow : OpenClaim := { program := "ytjcfflpiajefmaa", sum := "c4a0abce2e430136a99beb71fa5ab88b4846ea9d15daf8cb74aa532b3ed85e2d", func := "lumper/lumperlaw09.WayMore", spec := "wayMore", unfollowed := true, recurses := true, apart := false, narrowed := true }
def WayMoreUptoSaid : Prop := wayMoreUptoRow.holds Try.pinned (OpenSpec.upto wayMoreSpec)

end Rows
end Go.Proofs.Ytjcfflpiajefmaa
