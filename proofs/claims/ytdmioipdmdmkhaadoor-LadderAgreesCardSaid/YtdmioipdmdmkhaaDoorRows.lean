/-
  NARROWER THAN 'FOR EVERY INPUT', by the rows' own cells (each row's printed sentence says how): FieldPowers: laid · FieldWhole: laid · FieldSums: laid · FieldReads: laid · FieldOrder: laid · FieldSquares: laid · FieldBack: laid · FieldReckons: laid · LadderRaw: laid · LadderOrder: laid · LadderClamped: laid · LadderSmall: laid · LadderAgrees: laid · LadderPairs: laid.
  DERIVED. THE GIVEN ROWS OF THIS SEAT. 14 by the template 'for every input the law returns true; each argument reads behind the call as it read before'; 0 by the template 'total and deterministic' (their statements: YtdmioipdmdmkhaaDoorTotals.lean).
  GIVEN WITH THE SEED: the statements are not yours to turn. If you find one false, say at which input.
  Laid BY PROGRAM, IN A SANDBOX (cutbox-rows.mjs): the forced cells as the released guide's own fill.sh prints them over the translation c7c9ee3cde07fc0b… (all of the seat's roots in one cut). By AI agents, Wed Nov 11 2026. No macro, syntax, notation, axiom, sorry.
-/
import Derived.Test.YtdmioipdmdmkhaaDoorChecked
import GoSem.Claim
import GoSem.ClaimJoined
import GoSem.ClaimMapViews
import Derived.JoinedTies
import Derived.KernelRfl
namespace Go.Proofs.YtdmioipdmdmkhaaDoor
/- THE CELL 'sum', in the pinned program and in every row, IS THE sha256 OF THE DUMP (.gsa) THAT YtdmioipdmdmkhaaDoorProg.lean LOADS. Nothing in Lean hashes anything: it is a label: what it is worth is what the hold of that sum in a sandbox is worth. -/
noncomputable def Tryd.pinned : Pinned := { name := "ytdmioipdmdmkhaadoor", sum := "c7c9ee3cde07fc0b72ef3c02d5af195da87cc6b9491202b04ab480c732e1ead3", checked := Tryd.checked }
namespace Rows
def none {H : Type} : Left H := { results := [], args := [] }

/- WHAT THE LISTED PACKAGE-LEVEL VARIABLES READ AS WHEN THE CALL BEGINS. Each datum BY PROGRAM (the guide's laid-datum.mjs) off the statement by which the dump's own 'gosem.cut.vars' lays the variable. In a bare row this is a premise. The card (YtdmioipdmdmkhaaDoorCards.lean) ties it to the program's text. -/
def laid_cablegram_field_four {H : Type} : DataW H := .agg [.lit (.int .u64 9007199254740916), .lit (.int .u64 9007199254740988), .lit (.int .u64 9007199254740988), .lit (.int .u64 9007199254740988), .lit (.int .u64 9007199254740988)]

/-- 'cablegramlaw06.FieldPowers': WHATEVER THE INPUT: true; the input reads as it did. -/
def fieldPowersSpec : ChangeSpec := { name := "fieldPowers", fn := fun _ => fun
  | [d1, d2] => { results := [.lit (.bool true)], args := [d1, d2] }
  | _ => none }
def fieldPowersRow : OpenClaim := { program := "ytdmioipdmdmkhaadoor", sum := "c7c9ee3cde07fc0b72ef3c02d5af195da87cc6b9491202b04ab480c732e1ead3", func := "cablegram/cablegramlaw06.FieldPowers", spec := "fieldPowers", inPlace := ["math/bits.Add64"], named := ["cablegram/field.four"], apart := false, laid := [("cablegram/field.four", laid_cablegram_field_four)] }
def FieldPowersSaid : Prop := fieldPowersRow.holds Tryd.pinned (OpenSpec.ofChange fieldPowersSpec)

/-- ITS FALSE NEIGHBOUR: 'it returns false'. Refute it at one input. -/
def fieldPowersWrong : ChangeSpec := { name := "fieldPowers", fn := fun _ => fun
  | [d1, d2] => { results := [.lit (.bool false)], args := [d1, d2] }
  | _ => none }
def FieldPowersWrongFalsely : Prop := fieldPowersRow.holds Tryd.pinned (OpenSpec.ofChange fieldPowersWrong)

/-- 'cablegramlaw06.FieldWhole': WHATEVER THE INPUT: true; the input reads as it did. -/
def fieldWholeSpec : ChangeSpec := { name := "fieldWhole", fn := fun _ => fun
  | [d1, d2] => { results := [.lit (.bool true)], args := [d1, d2] }
  | _ => none }
def fieldWholeRow : OpenClaim := { program := "ytdmioipdmdmkhaadoor", sum := "c7c9ee3cde07fc0b72ef3c02d5af195da87cc6b9491202b04ab480c732e1ead3", func := "cablegram/cablegramlaw06.FieldWhole", spec := "fieldWhole", inPlace := ["math/bits.Add64"], named := ["cablegram/field.four"], apart := false, laid := [("cablegram/field.four", laid_cablegram_field_four)] }
def FieldWholeSaid : Prop := fieldWholeRow.holds Tryd.pinned (OpenSpec.ofChange fieldWholeSpec)

/-- ITS FALSE NEIGHBOUR: 'it returns false'. Refute it at one input. -/
def fieldWholeWrong : ChangeSpec := { name := "fieldWhole", fn := fun _ => fun
  | [d1, d2] => { results := [.lit (.bool false)], args := [d1, d2] }
  | _ => none }
def FieldWholeWrongFalsely : Prop := fieldWholeRow.holds Tryd.pinned (OpenSpec.ofChange fieldWholeWrong)

/-- 'cablegramlaw06.FieldSums': WHATEVER THE INPUT: true; the input reads as it did. -/
def fieldSumsSpec : ChangeSpec := { name := "fieldSums", fn := fun _ => fun
  | [d1, d2, d3, d4] => { results := [.lit (.bool true)], args := [d1, d2, d3, d4] }
  | _ => none }
def fieldSumsRow : OpenClaim := { program := "ytdmioipdmdmkhaadoor", sum := "c7c9ee3cde07fc0b72ef3c02d5af195da87cc6b9491202b04ab480c732e1ead3", func := "cablegram/cablegramlaw06.FieldSums", spec := "fieldSums", inPlace := ["math/bits.Add64"], named := ["cablegram/field.four"], apart := false, laid := [("cablegram/field.four", laid_cablegram_field_four)] }
def FieldSumsSaid : Prop := fieldSumsRow.holds Tryd.pinned (OpenSpec.ofChange fieldSumsSpec)

/-- ITS FALSE NEIGHBOUR: 'it returns false'. Refute it at one input. -/
def fieldSumsWrong : ChangeSpec := { name := "fieldSums", fn := fun _ => fun
  | [d1, d2, d3, d4] => { results := [.lit (.bool false)], args := [d1, d2, d3, d4] }
  | _ => none }
def FieldSumsWrongFalsely : Prop := fieldSumsRow.holds Tryd.pinned (OpenSpec.ofChange fieldSumsWrong)

/-- 'cablegramlaw06.FieldReads': WHATEVER THE INPUT: true; the input reads as it did. -/
def fieldReadsSpec : ChangeSpec := { name := "fieldReads", fn := fun _ => fun
  | [d1, d2] => { results := [.lit (.bool true)], args := [d1, d2] }
  | _ => none }
def fieldReadsRow : OpenClaim := { program := "ytdmioipdmdmkhaadoor", sum := "c7c9ee3cde07fc0b72ef3c02d5af195da87cc6b9491202b04ab480c732e1ead3", func := "cablegram/cablegramlaw06.FieldReads", spec := "fieldReads", inPlace := ["math/bits.Add64"], named := ["cablegram/field.four"], apart := false, laid := [("cablegram/field.four", laid_cablegram_field_four)] }
def FieldReadsSaid : Prop := fieldReadsRow.holds Tryd.pinned (OpenSpec.ofChange fieldReadsSpec)

/-- ITS FALSE NEIGHBOUR: 'it returns false'. Refute it at one input. -/
def fieldReadsWrong : ChangeSpec := { name := "fieldReads", fn := fun _ => fun
  | [d1, d2] => { results := [.lit (.bool false)], args := [d1, d2] }
  | _ => none }
def FieldReadsWrongFalsely : Prop := fieldReadsRow.holds Tryd.pinned (OpenSpec.ofChange fieldReadsWrong)

/-- 'cablegramlaw06.FieldOrder': WHATEVER THE INPUT: true; the input reads as it did. -/
def fieldOrderSpec : ChangeSpec := { name := "fieldOrder", fn := fun _ => fun
  | [d1, d2, d3] => { results := [.lit (.bool true)], args := [d1, d2, d3] }
  | _ => none }
def fieldOrderRow : OpenClaim := { program := "ytdmioipdmdmkhaadoor", sum := "c7c9ee3cde07fc0b72ef3c02d5af195da87cc6b9491202b04ab480c732e1ead3", func := "cablegram/cablegramlaw06.FieldOrder", spec := "fieldOrder", inPlace := ["math/bits.Add64"], named := ["cablegram/field.four"], apart := false, laid := [("cablegram/field.four", laid_cablegram_field_four)] }
def FieldOrderSaid : Prop := fieldOrderRow.holds Tryd.pinned (OpenSpec.ofChange fieldOrderSpec)

/-- ITS FALSE NEIGHBOUR: 'it returns false'. Refute it at one input. -/
def fieldOrderWrong : ChangeSpec := { name := "fieldOrder", fn := fun _ => fun
  | [d1, d2, d3] => { results := [.lit (.bool false)], args := [d1, d2, d3] }
  | _ => none }
def FieldOrderWrongFalsely : Prop := fieldOrderRow.holds Tryd.pinned (OpenSpec.ofChange fieldOrderWrong)

/-- 'cablegramlaw06.FieldSquares': WHATEVER THE INPUT: true; the input reads as it did. -/
def fieldSquaresSpec : ChangeSpec := { name := "fieldSquares", fn := fun _ => fun
  | [d1, d2] => { results := [.lit (.bool true)], args := [d1, d2] }
  | _ => none }
def fieldSquaresRow : OpenClaim := { program := "ytdmioipdmdmkhaadoor", sum := "c7c9ee3cde07fc0b72ef3c02d5af195da87cc6b9491202b04ab480c732e1ead3", func := "cablegram/cablegramlaw06.FieldSquares", spec := "fieldSquares", inPlace := ["math/bits.Add64"], named := ["cablegram/field.four"], apart := false, laid := [("cablegram/field.four", laid_cablegram_field_four)] }
def FieldSquaresSaid : Prop := fieldSquaresRow.holds Tryd.pinned (OpenSpec.ofChange fieldSquaresSpec)

/-- ITS FALSE NEIGHBOUR: 'it returns false'. Refute it at one input. -/
def fieldSquaresWrong : ChangeSpec := { name := "fieldSquares", fn := fun _ => fun
  | [d1, d2] => { results := [.lit (.bool false)], args := [d1, d2] }
  | _ => none }
def FieldSquaresWrongFalsely : Prop := fieldSquaresRow.holds Tryd.pinned (OpenSpec.ofChange fieldSquaresWrong)

/-- 'cablegramlaw06.FieldBack': WHATEVER THE INPUT: true; the input reads as it did. -/
def fieldBackSpec : ChangeSpec := { name := "fieldBack", fn := fun _ => fun
  | [d1, d2] => { results := [.lit (.bool true)], args := [d1, d2] }
  | _ => none }
def fieldBackRow : OpenClaim := { program := "ytdmioipdmdmkhaadoor", sum := "c7c9ee3cde07fc0b72ef3c02d5af195da87cc6b9491202b04ab480c732e1ead3", func := "cablegram/cablegramlaw06.FieldBack", spec := "fieldBack", inPlace := ["math/bits.Add64"], named := ["cablegram/field.four"], apart := false, laid := [("cablegram/field.four", laid_cablegram_field_four)] }
def FieldBackSaid : Prop := fieldBackRow.holds Tryd.pinned (OpenSpec.ofChange fieldBackSpec)

/-- ITS FALSE NEIGHBOUR: 'it returns false'. Refute it at one input. -/
def fieldBackWrong : ChangeSpec := { name := "fieldBack", fn := fun _ => fun
  | [d1, d2] => { results := [.lit (.bool false)], args := [d1, d2] }
  | _ => none }
def FieldBackWrongFalsely : Prop := fieldBackRow.holds Tryd.pinned (OpenSpec.ofChange fieldBackWrong)

/-- 'cablegramlaw06.FieldReckons': WHATEVER THE INPUT: true; the input reads as it did. -/
def fieldReckonsSpec : ChangeSpec := { name := "fieldReckons", fn := fun _ => fun
  | [d1, d2, d3, d4] => { results := [.lit (.bool true)], args := [d1, d2, d3, d4] }
  | _ => none }
def fieldReckonsRow : OpenClaim := { program := "ytdmioipdmdmkhaadoor", sum := "c7c9ee3cde07fc0b72ef3c02d5af195da87cc6b9491202b04ab480c732e1ead3", func := "cablegram/cablegramlaw06.FieldReckons", spec := "fieldReckons", inPlace := ["math/bits.Add64"], named := ["cablegram/field.four"], apart := false, laid := [("cablegram/field.four", laid_cablegram_field_four)] }
def FieldReckonsSaid : Prop := fieldReckonsRow.holds Tryd.pinned (OpenSpec.ofChange fieldReckonsSpec)

/-- ITS FALSE NEIGHBOUR: 'it returns false'. Refute it at one input. -/
def fieldReckonsWrong : ChangeSpec := { name := "fieldReckons", fn := fun _ => fun
  | [d1, d2, d3, d4] => { results := [.lit (.bool false)], args := [d1, d2, d3, d4] }
  | _ => none }
def FieldReckonsWrongFalsely : Prop := fieldReckonsRow.holds Tryd.pinned (OpenSpec.ofChange fieldReckonsWrong)

/-- 'cablegramlaw07.LadderRaw': WHATEVER THE INPUT: true; the input reads as it did. -/
def ladderRawSpec : ChangeSpec := { name := "ladderRaw", fn := fun _ => fun
  | [d1, d2] => { results := [.lit (.bool true)], args := [d1, d2] }
  | _ => none }
def ladderRawRow : OpenClaim := { program := "ytdmioipdmdmkhaadoor", sum := "c7c9ee3cde07fc0b72ef3c02d5af195da87cc6b9491202b04ab480c732e1ead3", func := "cablegram/cablegramlaw07.LadderRaw", spec := "ladderRaw", inPlace := ["math/bits.Add64"], named := ["cablegram/field.four"], apart := false, laid := [("cablegram/field.four", laid_cablegram_field_four)] }
def LadderRawSaid : Prop := ladderRawRow.holds Tryd.pinned (OpenSpec.ofChange ladderRawSpec)

/-- ITS FALSE NEIGHBOUR: 'it returns false'. Refute it at one input. -/
def ladderRawWrong : ChangeSpec := { name := "ladderRaw", fn := fun _ => fun
  | [d1, d2] => { results := [.lit (.bool false)], args := [d1, d2] }
  | _ => none }
def LadderRawWrongFalsely : Prop := ladderRawRow.holds Tryd.pinned (OpenSpec.ofChange ladderRawWrong)

/-- 'cablegramlaw07.LadderOrder': WHATEVER THE INPUT: true; the input reads as it did. -/
def ladderOrderSpec : ChangeSpec := { name := "ladderOrder", fn := fun _ => fun
  | [d1, d2, d3] => { results := [.lit (.bool true)], args := [d1, d2, d3] }
  | _ => none }
def ladderOrderRow : OpenClaim := { program := "ytdmioipdmdmkhaadoor", sum := "c7c9ee3cde07fc0b72ef3c02d5af195da87cc6b9491202b04ab480c732e1ead3", func := "cablegram/cablegramlaw07.LadderOrder", spec := "ladderOrder", inPlace := ["math/bits.Add64"], named := ["cablegram/field.four"], apart := false, laid := [("cablegram/field.four", laid_cablegram_field_four)] }
def LadderOrderSaid : Prop := ladderOrderRow.holds Tryd.pinned (OpenSpec.ofChange ladderOrderSpec)

/-- ITS FALSE NEIGHBOUR: 'it returns false'. Refute it at one input. -/
def ladderOrderWrong : ChangeSpec := { name := "ladderOrder", fn := fun _ => fun
  | [d1, d2, d3] => { results := [.lit (.bool false)], args := [d1, d2, d3] }
  | _ => none }
def LadderOrderWrongFalsely : Prop := ladderOrderRow.holds Tryd.pinned (OpenSpec.ofChange ladderOrderWrong)

/-- 'cablegramlaw07.LadderClamped': WHATEVER THE INPUT: true; the input reads as it did. -/
def ladderClampedSpec : ChangeSpec := { name := "ladderClamped", fn := fun _ => fun
  | [d1, d2, d3] => { results := [.lit (.bool true)], args := [d1, d2, d3] }
  | _ => none }
def ladderClampedRow : OpenClaim := { program := "ytdmioipdmdmkhaadoor", sum := "c7c9ee3cde07fc0b72ef3c02d5af195da87cc6b9491202b04ab480c732e1ead3", func := "cablegram/cablegramlaw07.LadderClamped", spec := "ladderClamped", inPlace := ["math/bits.Add64"], named := ["cablegram/field.four"], apart := false, laid := [("cablegram/field.four", laid_cablegram_field_four)] }
def LadderClampedSaid : Prop := ladderClampedRow.holds Tryd.pinned (OpenSpec.ofChange ladderClampedSpec)

/-- ITS FALSE NEIGHBOUR: 'it returns false'. Refute it at one input. -/
def ladderClampedWrong : ChangeSpec := { name := "ladderClamped", fn := fun _ => fun
  | [d1, d2, d3] => { results := [.lit (.bool false)], args := [d1, d2, d3] }
  | _ => none }
def LadderClampedWrongFalsely : Prop := ladderClampedRow.holds Tryd.pinned (OpenSpec.ofChange ladderClampedWrong)

/-- 'cablegramlaw07.LadderSmall': WHATEVER THE INPUT: true; the input reads as it did. -/
def ladderSmallSpec : ChangeSpec := { name := "ladderSmall", fn := fun _ => fun
  | [d] => { results := [.lit (.bool true)], args := [d] }
  | _ => none }
def ladderSmallRow : OpenClaim := { program := "ytdmioipdmdmkhaadoor", sum := "c7c9ee3cde07fc0b72ef3c02d5af195da87cc6b9491202b04ab480c732e1ead3", func := "cablegram/cablegramlaw07.LadderSmall", spec := "ladderSmall", inPlace := ["math/bits.Add64"], named := ["cablegram/field.four"], apart := false, laid := [("cablegram/field.four", laid_cablegram_field_four)] }
def LadderSmallSaid : Prop := ladderSmallRow.holds Tryd.pinned (OpenSpec.ofChange ladderSmallSpec)

/-- ITS FALSE NEIGHBOUR: 'it returns false'. Refute it at one input. -/
def ladderSmallWrong : ChangeSpec := { name := "ladderSmall", fn := fun _ => fun
  | [d] => { results := [.lit (.bool false)], args := [d] }
  | _ => none }
def LadderSmallWrongFalsely : Prop := ladderSmallRow.holds Tryd.pinned (OpenSpec.ofChange ladderSmallWrong)

/-- 'cablegramlaw07.LadderAgrees': WHATEVER THE INPUT: true; the input reads as it did. -/
def ladderAgreesSpec : ChangeSpec := { name := "ladderAgrees", fn := fun _ => fun
  | [d1, d2] => { results := [.lit (.bool true)], args := [d1, d2] }
  | _ => none }
def ladderAgreesRow : OpenClaim := { program := "ytdmioipdmdmkhaadoor", sum := "c7c9ee3cde07fc0b72ef3c02d5af195da87cc6b9491202b04ab480c732e1ead3", func := "cablegram/cablegramlaw07.LadderAgrees", spec := "ladderAgrees", inPlace := ["math/bits.Add64", "sync/atomic.LoadUint32", "(*internal/sync.Mutex).Lock", "internal/race.Disable", "sync/atomic.CompareAndSwapInt32", "internal/race.Enable", "internal/race.Acquire", "(*internal/sync.Mutex).lockSlow", "internal/sync.runtime_canSpin", "internal/sync.runtime_doSpin", "internal/sync.throw", "internal/sync.runtime_nanotime", "internal/sync.runtime_SemacquireMutex", "sync/atomic.AddInt32", "(*internal/sync.Mutex).Unlock", "internal/race.ReleaseMerge", "(*internal/sync.Mutex).unlockSlow", "internal/sync.fatal", "internal/sync.runtime_Semrelease", "sync/atomic.StoreUint32"], unfollowed := true, recurses := true, named := ["cablegram/field.four"], apart := false, laid := [("cablegram/field.four", laid_cablegram_field_four)] }
def LadderAgreesSaid : Prop := ladderAgreesRow.holds Tryd.pinned (OpenSpec.ofChange ladderAgreesSpec)

/-- ITS FALSE NEIGHBOUR: 'it returns false'. Refute it at one input. -/
def ladderAgreesWrong : ChangeSpec := { name := "ladderAgrees", fn := fun _ => fun
  | [d1, d2] => { results := [.lit (.bool false)], args := [d1, d2] }
  | _ => none }
def LadderAgreesWrongFalsely : Prop := ladderAgreesRow.holds Tryd.pinned (OpenSpec.ofChange ladderAgreesWrong)

/-- 'cablegramlaw07.LadderPairs': WHATEVER THE INPUT: true; the input reads as it did. -/
def ladderPairsSpec : ChangeSpec := { name := "ladderPairs", fn := fun _ => fun
  | [d1, d2] => { results := [.lit (.bool true)], args := [d1, d2] }
  | _ => none }
def ladderPairsRow : OpenClaim := { program := "ytdmioipdmdmkhaadoor", sum := "c7c9ee3cde07fc0b72ef3c02d5af195da87cc6b9491202b04ab480c732e1ead3", func := "cablegram/cablegramlaw07.LadderPairs", spec := "ladderPairs", inPlace := ["math/bits.Add64", "sync/atomic.LoadUint32", "(*internal/sync.Mutex).Lock", "internal/race.Disable", "sync/atomic.CompareAndSwapInt32", "internal/race.Enable", "internal/race.Acquire", "(*internal/sync.Mutex).lockSlow", "internal/sync.runtime_canSpin", "internal/sync.runtime_doSpin", "internal/sync.throw", "internal/sync.runtime_nanotime", "internal/sync.runtime_SemacquireMutex", "sync/atomic.AddInt32", "(*internal/sync.Mutex).Unlock", "internal/race.ReleaseMerge", "(*internal/sync.Mutex).unlockSlow", "internal/sync.fatal", "internal/sync.runtime_Semrelease", "sync/atomic.StoreUint32"], unfollowed := true, recurses := true, named := ["cablegram/field.four"], apart := false, laid := [("cablegram/field.four", laid_cablegram_field_four)] }
def LadderPairsSaid : Prop := ladderPairsRow.holds Tryd.pinned (OpenSpec.ofChange ladderPairsSpec)

/-- ITS FALSE NEIGHBOUR: 'it returns false'. Refute it at one input. -/
def ladderPairsWrong : ChangeSpec := { name := "ladderPairs", fn := fun _ => fun
  | [d1, d2] => { results := [.lit (.bool false)], args := [d1, d2] }
  | _ => none }
def LadderPairsWrongFalsely : Prop := ladderPairsRow.holds Tryd.pinned (OpenSpec.ofChange ladderPairsWrong)

/- THE SECOND FORM. 'bulk': how many values and letters a reading holds, each counted each time it is reached (what is shared counts as often as it is met; a slice's spare places count too). A statement '..UptoSaid' is the law's where the arguments, and the package variables that the reading takes, are together of bulk at most 1048576: NARROWER than '..Said'. Prove '..Said' where nothing that the law and all that it calls make is longer than what came in: it says more and counts as full. Else prove '..UptoSaid'. A law counts once. -/
mutual
def uptoBulk {H : Type} : DataW H → Nat
  | .lit (.string bytes) => bytes.length + 1
  | .lit _ => 1
  | .nil => 1
  | .ptr d => uptoBulk d + 1
  | .slice elems spare => uptoBulkAll elems + uptoBulkAll spare + 1
  | .agg parts => uptoBulkAll parts + 1
  | .iface _ d => uptoBulk d + 1
  | .map entries => uptoBulkEntries entries + 1
  | .held _ => 1
def uptoBulkAll {H : Type} : List (DataW H) → Nat
  | [] => 0
  | d :: r => uptoBulk d + uptoBulkAll r
def uptoBulkEntries {H : Type} : List (Lit × DataW H) → Nat
  | [] => 0
  | x :: r => uptoBulkEntry x + uptoBulkEntries r
def uptoBulkEntry {H : Type} : Lit × DataW H → Nat
  | (.string bytes, d) => bytes.length + uptoBulk d + 1
  | (_, d) => uptoBulk d + 1
 end
def uptoSmall : (H : Type) → List (DataW H) → Bool := fun _ ds => decide (uptoBulkAll ds ≤ 1048576)
def OpenSpec.upto (s : _root_.Go.ChangeSpec) : _root_.Go.OpenSpec := { _root_.Go.OpenSpec.ofChange s with cond := some uptoSmall }

/-- 'cablegramlaw06.FieldPowers', WHERE WHAT IT READS IS OF BULK AT MOST 1048576: true; the input reads as it did. -/
def fieldPowersUptoRow : OpenClaim := { program := "ytdmioipdmdmkhaadoor", sum := "c7c9ee3cde07fc0b72ef3c02d5af195da87cc6b9491202b04ab480c732e1ead3", func := "cablegram/cablegramlaw06.FieldPowers", spec := "fieldPowers", inPlace := ["math/bits.Add64"], named := ["cablegram/field.four"], apart := false, laid := [("cablegram/field.four", laid_cablegram_field_four)], narrowed := true }
def FieldPowersUptoSaid : Prop := fieldPowersUptoRow.holds Tryd.pinned (OpenSpec.upto fieldPowersSpec)

/-- 'cablegramlaw06.FieldWhole', WHERE WHAT IT READS IS OF BULK AT MOST 1048576: true; the input reads as it did. -/
def fieldWholeUptoRow : OpenClaim := { program := "ytdmioipdmdmkhaadoor", sum := "c7c9ee3cde07fc0b72ef3c02d5af195da87cc6b9491202b04ab480c732e1ead3", func := "cablegram/cablegramlaw06.FieldWhole", spec := "fieldWhole", inPlace := ["math/bits.Add64"], named := ["cablegram/field.four"], apart := false, laid := [("cablegram/field.four", laid_cablegram_field_four)], narrowed := true }
def FieldWholeUptoSaid : Prop := fieldWholeUptoRow.holds Tryd.pinned (OpenSpec.upto fieldWholeSpec)

/-- 'cablegramlaw06.FieldSums', WHERE WHAT IT READS IS OF BULK AT MOST 1048576: true; the input reads as it did. -/
def fieldSumsUptoRow : OpenClaim := { program := "ytdmioipdmdmkhaadoor", sum := "c7c9ee3cde07fc0b72ef3c02d5af195da87cc6b9491202b04ab480c732e1ead3", func := "cablegram/cablegramlaw06.FieldSums", spec := "fieldSums", inPlace := ["math/bits.Add64"], named := ["cablegram/field.four"], apart := false, laid := [("cablegram/field.four", laid_cablegram_field_four)], narrowed := true }
def FieldSumsUptoSaid : Prop := fieldSumsUptoRow.holds Tryd.pinned (OpenSpec.upto fieldSumsSpec)

/-- 'cablegramlaw06.FieldReads', WHERE WHAT IT READS IS OF BULK AT MOST 1048576: true; the input reads as it did. -/
def fieldReadsUptoRow : OpenClaim := { program := "ytdmioipdmdmkhaadoor", sum := "c7c9ee3cde07fc0b72ef3c02d5af195da87cc6b9491202b04ab480c732e1ead3", func := "cablegram/cablegramlaw06.FieldReads", spec := "fieldReads", inPlace := ["math/bits.Add64"], named := ["cablegram/field.four"], apart := false, laid := [("cablegram/field.four", laid_cablegram_field_four)], narrowed := true }
def FieldReadsUptoSaid : Prop := fieldReadsUptoRow.holds Tryd.pinned (OpenSpec.upto fieldReadsSpec)

/-- 'cablegramlaw06.FieldOrder', WHERE WHAT IT READS IS OF BULK AT MOST 1048576: true; the input reads as it did. -/
def fieldOrderUptoRow : OpenClaim := { program := "ytdmioipdmdmkhaadoor", sum := "c7c9ee3cde07fc0b72ef3c02d5af195da87cc6b9491202b04ab480c732e1ead3", func := "cablegram/cablegramlaw06.FieldOrder", spec := "fieldOrder", inPlace := ["math/bits.Add64"], named := ["cablegram/field.four"], apart := false, laid := [("cablegram/field.four", laid_cablegram_field_four)], narrowed := true }
def FieldOrderUptoSaid : Prop := fieldOrderUptoRow.holds Tryd.pinned (OpenSpec.upto fieldOrderSpec)

/-- 'cablegramlaw06.FieldSquares', WHERE WHAT IT READS IS OF BULK AT MOST 1048576: true; the input reads as it did. -/
def fieldSquaresUptoRow : OpenClaim := { program := "ytdmioipdmdmkhaadoor", sum := "c7c9ee3cde07fc0b72ef3c02d5af195da87cc6b9491202b04ab480c732e1ead3", func := "cablegram/cablegramlaw06.FieldSquares", spec := "fieldSquares", inPlace := ["math/bits.Add64"], named := ["cablegram/field.four"], apart := false, laid := [("cablegram/field.four", laid_cablegram_field_four)], narrowed := true }
def FieldSquaresUptoSaid : Prop := fieldSquaresUptoRow.holds Tryd.pinned (OpenSpec.upto fieldSquaresSpec)

/-- 'cablegramlaw06.FieldBack', WHERE WHAT IT READS IS OF BULK AT MOST 1048576: true; the input reads as it did. -/
def fieldBackUptoRow : OpenClaim := { program := "ytdmioipdmdmkhaadoor", sum := "c7c9ee3cde07fc0b72ef3c02d5af195da87cc6b9491202b04ab480c732e1ead3", func := "cablegram/cablegramlaw06.FieldBack", spec := "fieldBack", inPlace := ["math/bits.Add64"], named := ["cablegram/field.four"], apart := false, laid := [("cablegram/field.four", laid_cablegram_field_four)], narrowed := true }
def FieldBackUptoSaid : Prop := fieldBackUptoRow.holds Tryd.pinned (OpenSpec.upto fieldBackSpec)

/-- 'cablegramlaw06.FieldReckons', WHERE WHAT IT READS IS OF BULK AT MOST 1048576: true; the input reads as it did. -/
def fieldReckonsUptoRow : OpenClaim := { program := "ytdmioipdmdmkhaadoor", sum := "c7c9ee3cde07fc0b72ef3c02d5af195da87cc6b9491202b04ab480c732e1ead3", func := "cablegram/cablegramlaw06.FieldReckons", spec := "fieldReckons", inPlace := ["math/bits.Add64"], named := ["cablegram/field.four"], apart := false, laid := [("cablegram/field.four", laid_cablegram_field_four)], narrowed := true }
def FieldReckonsUptoSaid : Prop := fieldReckonsUptoRow.holds Tryd.pinned (OpenSpec.upto fieldReckonsSpec)

/-- 'cablegramlaw07.LadderRaw', WHERE WHAT IT READS IS OF BULK AT MOST 1048576: true; the input reads as it did. -/
def ladderRawUptoRow : OpenClaim := { program := "ytdmioipdmdmkhaadoor", sum := "c7c9ee3cde07fc0b72ef3c02d5af195da87cc6b9491202b04ab480c732e1ead3", func := "cablegram/cablegramlaw07.LadderRaw", spec := "ladderRaw", inPlace := ["math/bits.Add64"], named := ["cablegram/field.four"], apart := false, laid := [("cablegram/field.four", laid_cablegram_field_four)], narrowed := true }
def LadderRawUptoSaid : Prop := ladderRawUptoRow.holds Tryd.pinned (OpenSpec.upto ladderRawSpec)

/-- 'cablegramlaw07.LadderOrder', WHERE WHAT IT READS IS OF BULK AT MOST 1048576: true; the input reads as it did. -/
def ladderOrderUptoRow : OpenClaim := { program := "ytdmioipdmdmkhaadoor", sum := "c7c9ee3cde07fc0b72ef3c02d5af195da87cc6b9491202b04ab480c732e1ead3", func := "cablegram/cablegramlaw07.LadderOrder", spec := "ladderOrder", inPlace := ["math/bits.Add64"], named := ["cablegram/field.four"], apart := false, laid := [("cablegram/field.four", laid_cablegram_field_four)], narrowed := true }
def LadderOrderUptoSaid : Prop := ladderOrderUptoRow.holds Tryd.pinned (OpenSpec.upto ladderOrderSpec)

/-- 'cablegramlaw07.LadderClamped', WHERE WHAT IT READS IS OF BULK AT MOST 1048576: true; the input reads as it did. -/
def ladderClampedUptoRow : OpenClaim := { program := "ytdmioipdmdmkhaadoor", sum := "c7c9ee3cde07fc0b72ef3c02d5af195da87cc6b9491202b04ab480c732e1ead3", func := "cablegram/cablegramlaw07.LadderClamped", spec := "ladderClamped", inPlace := ["math/bits.Add64"], named := ["cablegram/field.four"], apart := false, laid := [("cablegram/field.four", laid_cablegram_field_four)], narrowed := true }
def LadderClampedUptoSaid : Prop := ladderClampedUptoRow.holds Tryd.pinned (OpenSpec.upto ladderClampedSpec)

/-- 'cablegramlaw07.LadderSmall', WHERE WHAT IT READS IS OF BULK AT MOST 1048576: true; the input reads as it did. -/
def ladderSmallUptoRow : OpenClaim := { program := "ytdmioipdmdmkhaadoor", sum := "c7c9ee3cde07fc0b72ef3c02d5af195da87cc6b9491202b04ab480c732e1ead3", func := "cablegram/cablegramlaw07.LadderSmall", spec := "ladderSmall", inPlace := ["math/bits.Add64"], named := ["cablegram/field.four"], apart := false, laid := [("cablegram/field.four", laid_cablegram_field_four)], narrowed := true }
def LadderSmallUptoSaid : Prop := ladderSmallUptoRow.holds Tryd.pinned (OpenSpec.upto ladderSmallSpec)

/-- 'cablegramlaw07.LadderAgrees', WHERE WHAT IT READS IS OF BULK AT MOST 1048576: true; the input reads as it did. -/
def ladderAgreesUptoRow : OpenClaim := { program := "ytdmioipdmdmkhaadoor", sum := "c7c9ee3cde07fc0b72ef3c02d5af195da87cc6b9491202b04ab480c732e1ead3", func := "cablegram/cablegramlaw07.LadderAgrees", spec := "ladderAgrees", inPlace := ["math/bits.Add64", "sync/atomic.LoadUint32", "(*internal/sync.Mutex).Lock", "internal/race.Disable", "sync/atomic.CompareAndSwapInt32", "internal/race.Enable", "internal/race.Acquire", "(*internal/sync.Mutex).lockSlow", "internal/sync.runtime_canSpin", "internal/sync.runtime_doSpin", "internal/sync.throw", "internal/sync.runtime_nanotime", "internal/sync.runtime_SemacquireMutex", "sync/atomic.AddInt32", "(*internal/sync.Mutex).Unlock", "internal/race.ReleaseMerge", "(*internal/sync.Mutex).unlockSlow", "internal/sync.fatal", "internal/sync.runtime_Semrelease", "sync/atomic.StoreUint32"], unfollowed := true, recurses := true, named := ["cablegram/field.four"], apart := false, laid := [("cablegram/field.four", laid_cablegram_field_four)], narrowed := true }
def LadderAgreesUptoSaid : Prop := ladderAgreesUptoRow.holds Tryd.pinned (OpenSpec.upto ladderAgreesSpec)

/-- 'cablegramlaw07.LadderPairs', WHERE WHAT IT READS IS OF BULK AT MOST 1048576: true; the input reads as it did. -/
def ladderPairsUptoRow : OpenClaim := { program := "ytdmioipdmdmkhaadoor", sum := "c7c9ee3cde07fc0b72ef3c02d5af195da87cc6b9491202b04ab480c732e1ead3", func := "cablegram/cablegramlaw07.LadderPairs", spec := "ladderPairs", inPlace := ["math/bits.Add64", "sync/atomic.LoadUint32", "(*internal/sync.Mutex).Lock", "internal/race.Disable", "sync/atomic.CompareAndSwapInt32", "internal/race.Enable", "internal/race.Acquire", "(*internal/sync.Mutex).lockSlow", "internal/sync.runtime_canSpin", "internal/sync.runtime_doSpin", "internal/sync.throw", "internal/sync.runtime_nanotime", "internal/sync.runtime_SemacquireMutex", "sync/atomic.AddInt32", "(*internal/sync.Mutex).Unlock", "internal/race.ReleaseMerge", "(*internal/sync.Mutex).unlockSlow", "internal/sync.fatal", "internal/sync.runtime_Semrelease", "sync/atomic.StoreUint32"], unfollowed := true, recurses := true, named := ["cablegram/field.four"], apart := false, laid := [("cablegram/field.four", laid_cablegram_field_four)], narrowed := true }
def LadderPairsUptoSaid : Prop := ladderPairsUptoRow.holds Tryd.pinned (OpenSpec.upto ladderPairsSpec)

end Rows
end Go.Proofs.YtdmioipdmdmkhaaDoor
