/-
  No cell of these rows narrows 'for every input' (looked for: loops, veiled, ifaces, maps, wideKeys, modest, calm, conditions, laid).
  DERIVED. THE GIVEN ROWS OF THIS SEAT. 12 by the template 'for every input the law returns true; each argument reads behind the call as it read before'; 0 by the template 'total and deterministic' (their statements: YtangogkmilpfiaaTotals.lean).
  GIVEN WITH THE SEED: the statements are not yours to turn. If you find one false, say at which input.
  Laid BY PROGRAM, IN A SANDBOX (cutbox-rows.mjs): the forced cells as the released guide's own fill.sh prints them over the translation 322cfd00795b86c7… (all of the seat's roots in one cut). By AI agents, Wed Nov 11 2026. No macro, syntax, notation, axiom, sorry.
-/
import Derived.Test.YtangogkmilpfiaaChecked
import GoSem.Claim
import GoSem.ClaimJoined
import GoSem.ClaimMapViews
import Derived.JoinedTies
import Derived.KernelRfl
namespace Go.Proofs.Ytangogkmilpfiaa
/- THE CELL 'sum', in the pinned program and in every row, IS THE sha256 OF THE DUMP (.gsa) THAT YtangogkmilpfiaaProg.lean LOADS. Nothing in Lean hashes anything: it is a label: what it is worth is what the hold of that sum in a sandbox is worth. -/
noncomputable def Try.pinned : Pinned := { name := "ytangogkmilpfiaa", sum := "322cfd00795b86c7ecc3b5f8f9d9c05fa25ded466bc5f876b05cb1d166fbd93d", checked := Try.checked }
namespace Rows
def none {H : Type} : Left H := { results := [], args := [] }

/-- 'lumperlaw01.NumTells': WHATEVER THE INPUT: true; the input reads as it did. -/
def numTellsSpec : ChangeSpec := { name := "numTells", fn := fun _ => fun
  | [d1, d2, d3] => { results := [.lit (.bool true)], args := [d1, d2, d3] }
  | _ => none }
def numTellsRow : OpenClaim := { program := "ytangogkmilpfiaa", sum := "322cfd00795b86c7ecc3b5f8f9d9c05fa25ded466bc5f876b05cb1d166fbd93d", func := "lumper/lumperlaw01.NumTells", spec := "numTells", recurses := true, apart := false }
def NumTellsSaid : Prop := numTellsRow.holds Try.pinned (OpenSpec.ofChange numTellsSpec)

/-- ITS FALSE NEIGHBOUR: 'it returns false'. Refute it at one input. -/
def numTellsWrong : ChangeSpec := { name := "numTells", fn := fun _ => fun
  | [d1, d2, d3] => { results := [.lit (.bool false)], args := [d1, d2, d3] }
  | _ => none }
def NumTellsWrongFalsely : Prop := numTellsRow.holds Try.pinned (OpenSpec.ofChange numTellsWrong)

/-- 'lumperlaw01.NumTurns': WHATEVER THE INPUT: true; the input reads as it did. -/
def numTurnsSpec : ChangeSpec := { name := "numTurns", fn := fun _ => fun
  | [d1, d2] => { results := [.lit (.bool true)], args := [d1, d2] }
  | _ => none }
def numTurnsRow : OpenClaim := { program := "ytangogkmilpfiaa", sum := "322cfd00795b86c7ecc3b5f8f9d9c05fa25ded466bc5f876b05cb1d166fbd93d", func := "lumper/lumperlaw01.NumTurns", spec := "numTurns", apart := false }
def NumTurnsSaid : Prop := numTurnsRow.holds Try.pinned (OpenSpec.ofChange numTurnsSpec)

/-- ITS FALSE NEIGHBOUR: 'it returns false'. Refute it at one input. -/
def numTurnsWrong : ChangeSpec := { name := "numTurns", fn := fun _ => fun
  | [d1, d2] => { results := [.lit (.bool false)], args := [d1, d2] }
  | _ => none }
def NumTurnsWrongFalsely : Prop := numTurnsRow.holds Try.pinned (OpenSpec.ofChange numTurnsWrong)

/-- 'lumperlaw01.NumRests': WHATEVER THE INPUT: true; the input reads as it did. -/
def numRestsSpec : ChangeSpec := { name := "numRests", fn := fun _ => fun
  | [d1, d2] => { results := [.lit (.bool true)], args := [d1, d2] }
  | _ => none }
def numRestsRow : OpenClaim := { program := "ytangogkmilpfiaa", sum := "322cfd00795b86c7ecc3b5f8f9d9c05fa25ded466bc5f876b05cb1d166fbd93d", func := "lumper/lumperlaw01.NumRests", spec := "numRests", apart := false }
def NumRestsSaid : Prop := numRestsRow.holds Try.pinned (OpenSpec.ofChange numRestsSpec)

/-- ITS FALSE NEIGHBOUR: 'it returns false'. Refute it at one input. -/
def numRestsWrong : ChangeSpec := { name := "numRests", fn := fun _ => fun
  | [d1, d2] => { results := [.lit (.bool false)], args := [d1, d2] }
  | _ => none }
def NumRestsWrongFalsely : Prop := numRestsRow.holds Try.pinned (OpenSpec.ofChange numRestsWrong)

/-- 'lumperlaw01.NumParts': WHATEVER THE INPUT: true; the input reads as it did. -/
def numPartsSpec : ChangeSpec := { name := "numParts", fn := fun _ => fun
  | [d1, d2] => { results := [.lit (.bool true)], args := [d1, d2] }
  | _ => none }
def numPartsRow : OpenClaim := { program := "ytangogkmilpfiaa", sum := "322cfd00795b86c7ecc3b5f8f9d9c05fa25ded466bc5f876b05cb1d166fbd93d", func := "lumper/lumperlaw01.NumParts", spec := "numParts", apart := false }
def NumPartsSaid : Prop := numPartsRow.holds Try.pinned (OpenSpec.ofChange numPartsSpec)

/-- ITS FALSE NEIGHBOUR: 'it returns false'. Refute it at one input. -/
def numPartsWrong : ChangeSpec := { name := "numParts", fn := fun _ => fun
  | [d1, d2] => { results := [.lit (.bool false)], args := [d1, d2] }
  | _ => none }
def NumPartsWrongFalsely : Prop := numPartsRow.holds Try.pinned (OpenSpec.ofChange numPartsWrong)

/-- 'lumperlaw01.NumGcds': WHATEVER THE INPUT: true; the input reads as it did. -/
def numGcdsSpec : ChangeSpec := { name := "numGcds", fn := fun _ => fun
  | [d1, d2] => { results := [.lit (.bool true)], args := [d1, d2] }
  | _ => none }
def numGcdsRow : OpenClaim := { program := "ytangogkmilpfiaa", sum := "322cfd00795b86c7ecc3b5f8f9d9c05fa25ded466bc5f876b05cb1d166fbd93d", func := "lumper/lumperlaw01.NumGcds", spec := "numGcds", apart := false }
def NumGcdsSaid : Prop := numGcdsRow.holds Try.pinned (OpenSpec.ofChange numGcdsSpec)

/-- ITS FALSE NEIGHBOUR: 'it returns false'. Refute it at one input. -/
def numGcdsWrong : ChangeSpec := { name := "numGcds", fn := fun _ => fun
  | [d1, d2] => { results := [.lit (.bool false)], args := [d1, d2] }
  | _ => none }
def NumGcdsWrongFalsely : Prop := numGcdsRow.holds Try.pinned (OpenSpec.ofChange numGcdsWrong)

/-- 'lumperlaw01.NumSpread': WHATEVER THE INPUT: true; the input reads as it did. -/
def numSpreadSpec : ChangeSpec := { name := "numSpread", fn := fun _ => fun
  | [d1, d2, d3] => { results := [.lit (.bool true)], args := [d1, d2, d3] }
  | _ => none }
def numSpreadRow : OpenClaim := { program := "ytangogkmilpfiaa", sum := "322cfd00795b86c7ecc3b5f8f9d9c05fa25ded466bc5f876b05cb1d166fbd93d", func := "lumper/lumperlaw01.NumSpread", spec := "numSpread", apart := false }
def NumSpreadSaid : Prop := numSpreadRow.holds Try.pinned (OpenSpec.ofChange numSpreadSpec)

/-- ITS FALSE NEIGHBOUR: 'it returns false'. Refute it at one input. -/
def numSpreadWrong : ChangeSpec := { name := "numSpread", fn := fun _ => fun
  | [d1, d2, d3] => { results := [.lit (.bool false)], args := [d1, d2, d3] }
  | _ => none }
def NumSpreadWrongFalsely : Prop := numSpreadRow.holds Try.pinned (OpenSpec.ofChange numSpreadWrong)

/-- 'lumperlaw02.RatioTells': WHATEVER THE INPUT: true; the input reads as it did. -/
def ratioTellsSpec : ChangeSpec := { name := "ratioTells", fn := fun _ => fun
  | [d1, d2, d3, d4, d5] => { results := [.lit (.bool true)], args := [d1, d2, d3, d4, d5] }
  | _ => none }
def ratioTellsRow : OpenClaim := { program := "ytangogkmilpfiaa", sum := "322cfd00795b86c7ecc3b5f8f9d9c05fa25ded466bc5f876b05cb1d166fbd93d", func := "lumper/lumperlaw02.RatioTells", spec := "ratioTells", unfollowed := true, recurses := true, apart := false }
def RatioTellsSaid : Prop := ratioTellsRow.holds Try.pinned (OpenSpec.ofChange ratioTellsSpec)

/-- ITS FALSE NEIGHBOUR: 'it returns false'. Refute it at one input. -/
def ratioTellsWrong : ChangeSpec := { name := "ratioTells", fn := fun _ => fun
  | [d1, d2, d3, d4, d5] => { results := [.lit (.bool false)], args := [d1, d2, d3, d4, d5] }
  | _ => none }
def RatioTellsWrongFalsely : Prop := ratioTellsRow.holds Try.pinned (OpenSpec.ofChange ratioTellsWrong)

/-- 'lumperlaw02.RatioMay': WHATEVER THE INPUT: true; the input reads as it did. -/
def ratioMaySpec : ChangeSpec := { name := "ratioMay", fn := fun _ => fun
  | [d1, d2, d3, d4] => { results := [.lit (.bool true)], args := [d1, d2, d3, d4] }
  | _ => none }
def ratioMayRow : OpenClaim := { program := "ytangogkmilpfiaa", sum := "322cfd00795b86c7ecc3b5f8f9d9c05fa25ded466bc5f876b05cb1d166fbd93d", func := "lumper/lumperlaw02.RatioMay", spec := "ratioMay", unfollowed := true, recurses := true, apart := false }
def RatioMaySaid : Prop := ratioMayRow.holds Try.pinned (OpenSpec.ofChange ratioMaySpec)

/-- ITS FALSE NEIGHBOUR: 'it returns false'. Refute it at one input. -/
def ratioMayWrong : ChangeSpec := { name := "ratioMay", fn := fun _ => fun
  | [d1, d2, d3, d4] => { results := [.lit (.bool false)], args := [d1, d2, d3, d4] }
  | _ => none }
def RatioMayWrongFalsely : Prop := ratioMayRow.holds Try.pinned (OpenSpec.ofChange ratioMayWrong)

/-- 'lumperlaw02.RatioTurns': WHATEVER THE INPUT: true; the input reads as it did. -/
def ratioTurnsSpec : ChangeSpec := { name := "ratioTurns", fn := fun _ => fun
  | [d1, d2] => { results := [.lit (.bool true)], args := [d1, d2] }
  | _ => none }
def ratioTurnsRow : OpenClaim := { program := "ytangogkmilpfiaa", sum := "322cfd00795b86c7ecc3b5f8f9d9c05fa25ded466bc5f876b05cb1d166fbd93d", func := "lumper/lumperlaw02.RatioTurns", spec := "ratioTurns", unfollowed := true, recurses := true, apart := false }
def RatioTurnsSaid : Prop := ratioTurnsRow.holds Try.pinned (OpenSpec.ofChange ratioTurnsSpec)

/-- ITS FALSE NEIGHBOUR: 'it returns false'. Refute it at one input. -/
def ratioTurnsWrong : ChangeSpec := { name := "ratioTurns", fn := fun _ => fun
  | [d1, d2] => { results := [.lit (.bool false)], args := [d1, d2] }
  | _ => none }
def RatioTurnsWrongFalsely : Prop := ratioTurnsRow.holds Try.pinned (OpenSpec.ofChange ratioTurnsWrong)

/-- 'lumperlaw02.RatioOrder': WHATEVER THE INPUT: true; the input reads as it did. -/
def ratioOrderSpec : ChangeSpec := { name := "ratioOrder", fn := fun _ => fun
  | [d1, d2, d3] => { results := [.lit (.bool true)], args := [d1, d2, d3] }
  | _ => none }
def ratioOrderRow : OpenClaim := { program := "ytangogkmilpfiaa", sum := "322cfd00795b86c7ecc3b5f8f9d9c05fa25ded466bc5f876b05cb1d166fbd93d", func := "lumper/lumperlaw02.RatioOrder", spec := "ratioOrder", unfollowed := true, recurses := true, apart := false }
def RatioOrderSaid : Prop := ratioOrderRow.holds Try.pinned (OpenSpec.ofChange ratioOrderSpec)

/-- ITS FALSE NEIGHBOUR: 'it returns false'. Refute it at one input. -/
def ratioOrderWrong : ChangeSpec := { name := "ratioOrder", fn := fun _ => fun
  | [d1, d2, d3] => { results := [.lit (.bool false)], args := [d1, d2, d3] }
  | _ => none }
def RatioOrderWrongFalsely : Prop := ratioOrderRow.holds Try.pinned (OpenSpec.ofChange ratioOrderWrong)

/-- 'lumperlaw02.RatioScale': WHATEVER THE INPUT: true; the input reads as it did. -/
def ratioScaleSpec : ChangeSpec := { name := "ratioScale", fn := fun _ => fun
  | [d1, d2, d3] => { results := [.lit (.bool true)], args := [d1, d2, d3] }
  | _ => none }
def ratioScaleRow : OpenClaim := { program := "ytangogkmilpfiaa", sum := "322cfd00795b86c7ecc3b5f8f9d9c05fa25ded466bc5f876b05cb1d166fbd93d", func := "lumper/lumperlaw02.RatioScale", spec := "ratioScale", unfollowed := true, recurses := true, apart := false }
def RatioScaleSaid : Prop := ratioScaleRow.holds Try.pinned (OpenSpec.ofChange ratioScaleSpec)

/-- ITS FALSE NEIGHBOUR: 'it returns false'. Refute it at one input. -/
def ratioScaleWrong : ChangeSpec := { name := "ratioScale", fn := fun _ => fun
  | [d1, d2, d3] => { results := [.lit (.bool false)], args := [d1, d2, d3] }
  | _ => none }
def RatioScaleWrongFalsely : Prop := ratioScaleRow.holds Try.pinned (OpenSpec.ofChange ratioScaleWrong)

/-- 'lumperlaw02.RatioHalf': WHATEVER THE INPUT: true; the input reads as it did. -/
def ratioHalfSpec : ChangeSpec := { name := "ratioHalf", fn := fun _ => fun
  | [d] => { results := [.lit (.bool true)], args := [d] }
  | _ => none }
def ratioHalfRow : OpenClaim := { program := "ytangogkmilpfiaa", sum := "322cfd00795b86c7ecc3b5f8f9d9c05fa25ded466bc5f876b05cb1d166fbd93d", func := "lumper/lumperlaw02.RatioHalf", spec := "ratioHalf", unfollowed := true, recurses := true, apart := false }
def RatioHalfSaid : Prop := ratioHalfRow.holds Try.pinned (OpenSpec.ofChange ratioHalfSpec)

/-- ITS FALSE NEIGHBOUR: 'it returns false'. Refute it at one input. -/
def ratioHalfWrong : ChangeSpec := { name := "ratioHalf", fn := fun _ => fun
  | [d] => { results := [.lit (.bool false)], args := [d] }
  | _ => none }
def RatioHalfWrongFalsely : Prop := ratioHalfRow.holds Try.pinned (OpenSpec.ofChange ratioHalfWrong)

/- THE SECOND FORM. 'bulk': how many values and letters a reading holds, each counted each time it is reached (what is shared counts as often as it is met; a slice's spare places count too). A statement '..UptoSaid' is the law's where the arguments, and the package variables that the reading takes, are together of bulk at most 1048576: NARROWER than '..Said'. Prove '..Said' where nothing that the law and all that it calls make is longer than what came in: it says more and counts as full. Else prove '..UptoSaid'. A law counts once. -/
mutual
def uptoBulk {H : Type} : DataW H → Nat
  | .lit (.string bytes) => bytes.length + 1
  | .lit _ => 1
  | .nil => 1
  | .ptr d => uptoBulk d + 1
  | .slice elems spare => uptoBulkAll elems + uptoBulkAll spare + 1
  | .agg parts => uptoBulkAll parts + 1
  | .iface _ d => uptoBulk d + 1
  | .map entries => uptoBulkEntries entries + 1
  | .held _ => 1
def uptoBulkAll {H : Type} : List (DataW H) → Nat
  | [] => 0
  | d :: r => uptoBulk d + uptoBulkAll r
def uptoBulkEntries {H : Type} : List (Lit × DataW H) → Nat
  | [] => 0
  | x :: r => uptoBulkEntry x + uptoBulkEntries r
def uptoBulkEntry {H : Type} : Lit × DataW H → Nat
  | (.string bytes, d) => bytes.length + uptoBulk d + 1
  | (_, d) => uptoBulk d + 1
 end
def uptoSmall : (H : Type) → List (DataW H) → Bool := fun _ ds => decide (uptoBulkAll ds ≤ 1048576)
def OpenSpec.upto (s : _root_.Go.ChangeSpec) : _root_.Go.OpenSpec := { _root_.Go.OpenSpec.ofChange s with cond := some uptoSmall }

/-- 'lumperlaw01.NumTells', WHERE WHAT IT READS IS OF BULK AT MOST 1048576: true; the input reads as it did. -/
def numTellsUptoRow : OpenClaim := { program := "ytangogkmilpfiaa", sum := "322cfd00795b86c7ecc3b5f8f9d9c05fa25ded466bc5f876b05cb1d166fbd93d", func := "lumper/lumperlaw01.NumTells", spec := "numTells", recurses := true, apart := false, narrowed := true }
def NumTellsUptoSaid : Prop := numTellsUptoRow.holds Try.pinned (OpenSpec.upto numTellsSpec)

/-- 'lumperlaw01.NumTurns', WHERE WHAT IT READS IS OF BULK AT MOST 1048576: true; the input reads as it did. -/
def numTurnsUptoRow : OpenClaim := { program := "ytangogkmilpfiaa", sum := "322cfd00795b86c7ecc3b5f8f9d9c05fa25ded466bc5f876b05cb1d166fbd93d", func := "lumper/lumperlaw01.NumTurns", spec := "numTurns", apart := false, narrowed := true }
def NumTurnsUptoSaid : Prop := numTurnsUptoRow.holds Try.pinned (OpenSpec.upto numTurnsSpec)

/-- 'lumperlaw01.NumRests', WHERE WHAT IT READS IS OF BULK AT MOST 1048576: true; the input reads as it did. -/
def numRestsUptoRow : OpenClaim := { program := "ytangogkmilpfiaa", sum := "322cfd00795b86c7ecc3b5f8f9d9c05fa25ded466bc5f876b05cb1d166fbd93d", func := "lumper/lumperlaw01.NumRests", spec := "numRests", apart := false, narrowed := true }
def NumRestsUptoSaid : Prop := numRestsUptoRow.holds Try.pinned (OpenSpec.upto numRestsSpec)

/-- 'lumperlaw01.NumParts', WHERE WHAT IT READS IS OF BULK AT MOST 1048576: true; the input reads as it did. -/
def numPartsUptoRow : OpenClaim := { program := "ytangogkmilpfiaa", sum := "322cfd00795b86c7ecc3b5f8f9d9c05fa25ded466bc5f876b05cb1d166fbd93d", func := "lumper/lumperlaw01.NumParts", spec := "numParts", apart := false, narrowed := true }
def NumPartsUptoSaid : Prop := numPartsUptoRow.holds Try.pinned (OpenSpec.upto numPartsSpec)

/-- 'lumperlaw01.NumGcds', WHERE WHAT IT READS IS OF BULK AT MOST 1048576: true; the input reads as it did. -/
def numGcdsUptoRow : OpenClaim := { program := "ytangogkmilpfiaa", sum := "322cfd00795b86c7ecc3b5f8f9d9c05fa25ded466bc5f876b05cb1d166fbd93d", func := "lumper/lumperlaw01.NumGcds", spec := "numGcds", apart := false, narrowed := true }
def NumGcdsUptoSaid : Prop := numGcdsUptoRow.holds Try.pinned (OpenSpec.upto numGcdsSpec)

/-- 'lumperlaw01.NumSpread', WHERE WHAT IT READS IS OF BULK AT MOST 1048576: true; the input reads as it did. -/
def numSpreadUptoRow : OpenClaim := { program := "ytangogkmilpfiaa", sum := "322cfd00795b86c7ecc3b5f8f9d9c05fa25ded466bc5f876b05cb1d166fbd93d", func := "lumper/lumperlaw01.NumSpread", spec := "numSpread", apart := false, narrowed := true }
def NumSpreadUptoSaid : Prop := numSpreadUptoRow.holds Try.pinned (OpenSpec.upto numSpreadSpec)

/-- 'lumperlaw02.RatioTells', WHERE WHAT IT READS IS OF BULK AT MOST 1048576: true; the input reads as it did. -/
def ratioTellsUptoRow : OpenClaim := { program := "ytangogkmilpfiaa", sum := "322cfd00795b86c7ecc3b5f8f9d9c05fa25ded466bc5f876b05cb1d166fbd93d", func := "lumper/lumperlaw02.RatioTells", spec := "ratioTells", unfollowed := true, recurses := true, apart := false, narrowed := true }
def RatioTellsUptoSaid : Prop := ratioTellsUptoRow.holds Try.pinned (OpenSpec.upto ratioTellsSpec)

/-- 'lumperlaw02.RatioMay', WHERE WHAT IT READS IS OF BULK AT MOST 1048576: true; the input reads as it did. -/
def ratioMayUptoRow : OpenClaim := { program := "ytangogkmilpfiaa", sum := "322cfd00795b86c7ecc3b5f8f9d9c05fa25ded466bc5f876b05cb1d166fbd93d", func := "lumper/lumperlaw02.RatioMay", spec := "ratioMay", unfollowed := true, recurses := true, apart := false, narrowed := true }
def RatioMayUptoSaid : Prop := ratioMayUptoRow.holds Try.pinned (OpenSpec.upto ratioMaySpec)

/-- 'lumperlaw02.RatioTurns', WHERE WHAT IT READS IS OF BULK AT MOST 1048576: true; the input reads as it did. -/
def ratioTurnsUptoRow : OpenClaim := { program := "ytangogkmilpfiaa", sum := "322cfd00795b86c7ecc3b5f8f9d9c05fa25ded466bc5f876b05cb1d166fbd93d", func := "lumper/lumperlaw02.RatioTurns", spec := "ratioTurns", unfollowed := true, recurses := true, apart := false, narrowed := true }
def RatioTurnsUptoSaid : Prop := ratioTurnsUptoRow.holds Try.pinned (OpenSpec.upto ratioTurnsSpec)

/-- 'lumperlaw02.RatioOrder', WHERE WHAT IT READS IS OF BULK AT MOST 1048576: true; the input reads as it did. -/
def ratioOrderUptoRow : OpenClaim := { program := "ytangogkmilpfiaa", sum := "322cfd00795b86c7ecc3b5f8f9d9c05fa25ded466bc5f876b05cb1d166fbd93d", func := "lumper/lumperlaw02.RatioOrder", spec := "ratioOrder", unfollowed := true, recurses := true, apart := false, narrowed := true }
def RatioOrderUptoSaid : Prop := ratioOrderUptoRow.holds Try.pinned (OpenSpec.upto ratioOrderSpec)

/-- 'lumperlaw02.RatioScale', WHERE WHAT IT READS IS OF BULK AT MOST 1048576: true; the input reads as it did. -/
def ratioScaleUptoRow : OpenClaim := { program := "ytangogkmilpfiaa", sum := "322cfd00795b86c7ecc3b5f8f9d9c05fa25ded466bc5f876b05cb1d166fbd93d", func := "lumper/lumperlaw02.RatioScale", spec := "ratioScale", unfollowed := true, recurses := true, apart := false, narrowed := true }
def RatioScaleUptoSaid : Prop := ratioScaleUptoRow.holds Try.pinned (OpenSpec.upto ratioScaleSpec)

/-- 'lumperlaw02.RatioHalf', WHERE WHAT IT READS IS OF BULK AT MOST 1048576: true; the input reads as it did. -/
def ratioHalfUptoRow : OpenClaim := { program := "ytangogkmilpfiaa", sum := "322cfd00795b86c7ecc3b5f8f9d9c05fa25ded466bc5f876b05cb1d166fbd93d", func := "lumper/lumperlaw02.RatioHalf", spec := "ratioHalf", unfollowed := true, recurses := true, apart := false, narrowed := true }
def RatioHalfUptoSaid : Prop := ratioHalfUptoRow.holds Try.pinned (OpenSpec.upto ratioHalfSpec)

end Rows
end Go.Proofs.Ytangogkmilpfiaa
