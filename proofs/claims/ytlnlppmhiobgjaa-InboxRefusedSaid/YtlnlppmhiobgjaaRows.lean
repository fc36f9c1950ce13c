/-
  No cell of these rows narrows 'for every input' (looked for: loops, veiled, ifaces, maps, wideKeys, modest, calm, conditions, laid).
  DERIVED. THE GIVEN ROWS OF THIS SEAT. 5 by the template 'for every input the law returns true; each argument reads behind the call as it read before'; 0 by the template 'total and deterministic' (their statements: YtlnlppmhiobgjaaTotals.lean).
  GIVEN WITH THE SEED: the statements are not yours to turn. If you find one false, say at which input.
  Laid BY PROGRAM, IN A SANDBOX (cutbox-rows.mjs): the forced cells as the released guide's own fill.sh prints them over the translation ebf71d5e05656352… (all of the seat's roots in one cut). By AI agents, Wed Nov 11 2026. No macro, syntax, notation, axiom, sorry.
-/
import Derived.Test.YtlnlppmhiobgjaaChecked
import GoSem.Claim
import GoSem.ClaimJoined
import GoSem.ClaimMapViews
import Derived.JoinedTies
import Derived.KernelRfl
namespace Go.Proofs.Ytlnlppmhiobgjaa
/- THE CELL 'sum', in the pinned program and in every row, IS THE sha256 OF THE DUMP (.gsa) THAT YtlnlppmhiobgjaaProg.lean LOADS. Nothing in Lean hashes anything: it is a label: what it is worth is what the hold of that sum in a sandbox is worth. -/
noncomputable def Try.pinned : Pinned := { name := "ytlnlppmhiobgjaa", sum := "ebf71d5e05656352e9627cb649344cab6b885061adeccab8f8da86b0ebace69d", checked := Try.checked }
namespace Rows
def none {H : Type} : Left H := { results := [], args := [] }

/-- 'cablegramlaw22.InboxFifo': WHATEVER THE INPUT: true; the input reads as it did. -/
def inboxFifoSpec : ChangeSpec := { name := "inboxFifo", fn := fun _ => fun
  | [d] => { results := [.lit (.bool true)], args := [d] }
  | _ => none }
def inboxFifoRow : OpenClaim := { program := "ytlnlppmhiobgjaa", sum := "ebf71d5e05656352e9627cb649344cab6b885061adeccab8f8da86b0ebace69d", func := "cablegram/cablegramlaw22.InboxFifo", spec := "inboxFifo", apart := false }
def InboxFifoSaid : Prop := inboxFifoRow.holds Try.pinned (OpenSpec.ofChange inboxFifoSpec)

/-- ITS FALSE NEIGHBOUR: 'it returns false'. Refute it at one input. -/
def inboxFifoWrong : ChangeSpec := { name := "inboxFifo", fn := fun _ => fun
  | [d] => { results := [.lit (.bool false)], args := [d] }
  | _ => none }
def InboxFifoWrongFalsely : Prop := inboxFifoRow.holds Try.pinned (OpenSpec.ofChange inboxFifoWrong)

/-- 'cablegramlaw21.OutboxAgain': WHATEVER THE INPUT: true; the input reads as it did. -/
def outboxAgainSpec : ChangeSpec := { name := "outboxAgain", fn := fun _ => fun
  | [d] => { results := [.lit (.bool true)], args := [d] }
  | _ => none }
def outboxAgainRow : OpenClaim := { program := "ytlnlppmhiobgjaa", sum := "ebf71d5e05656352e9627cb649344cab6b885061adeccab8f8da86b0ebace69d", func := "cablegram/cablegramlaw21.OutboxAgain", spec := "outboxAgain", unfollowed := true, recurses := true, apart := false }
def OutboxAgainSaid : Prop := outboxAgainRow.holds Try.pinned (OpenSpec.ofChange outboxAgainSpec)

/-- ITS FALSE NEIGHBOUR: 'it returns false'. Refute it at one input. -/
def outboxAgainWrong : ChangeSpec := { name := "outboxAgain", fn := fun _ => fun
  | [d] => { results := [.lit (.bool false)], args := [d] }
  | _ => none }
def OutboxAgainWrongFalsely : Prop := outboxAgainRow.holds Try.pinned (OpenSpec.ofChange outboxAgainWrong)

/-- 'cablegramlaw22.InboxTurns': WHATEVER THE INPUT: true; the input reads as it did. -/
def inboxTurnsSpec : ChangeSpec := { name := "inboxTurns", fn := fun _ => fun
  | [d1, d2] => { results := [.lit (.bool true)], args := [d1, d2] }
  | _ => none }
def inboxTurnsRow : OpenClaim := { program := "ytlnlppmhiobgjaa", sum := "ebf71d5e05656352e9627cb649344cab6b885061adeccab8f8da86b0ebace69d", func := "cablegram/cablegramlaw22.InboxTurns", spec := "inboxTurns", unfollowed := true, recurses := true, apart := false }
def InboxTurnsSaid : Prop := inboxTurnsRow.holds Try.pinned (OpenSpec.ofChange inboxTurnsSpec)

/-- ITS FALSE NEIGHBOUR: 'it returns false'. Refute it at one input. -/
def inboxTurnsWrong : ChangeSpec := { name := "inboxTurns", fn := fun _ => fun
  | [d1, d2] => { results := [.lit (.bool false)], args := [d1, d2] }
  | _ => none }
def InboxTurnsWrongFalsely : Prop := inboxTurnsRow.holds Try.pinned (OpenSpec.ofChange inboxTurnsWrong)

/-- 'cablegramlaw22.InboxPlays': WHATEVER THE INPUT: true; the input reads as it did. -/
def inboxPlaysSpec : ChangeSpec := { name := "inboxPlays", fn := fun _ => fun
  | [d] => { results := [.lit (.bool true)], args := [d] }
  | _ => none }
def inboxPlaysRow : OpenClaim := { program := "ytlnlppmhiobgjaa", sum := "ebf71d5e05656352e9627cb649344cab6b885061adeccab8f8da86b0ebace69d", func := "cablegram/cablegramlaw22.InboxPlays", spec := "inboxPlays", unfollowed := true, recurses := true, apart := false }
def InboxPlaysSaid : Prop := inboxPlaysRow.holds Try.pinned (OpenSpec.ofChange inboxPlaysSpec)

/-- ITS FALSE NEIGHBOUR: 'it returns false'. Refute it at one input. -/
def inboxPlaysWrong : ChangeSpec := { name := "inboxPlays", fn := fun _ => fun
  | [d] => { results := [.lit (.bool false)], args := [d] }
  | _ => none }
def InboxPlaysWrongFalsely : Prop := inboxPlaysRow.holds Try.pinned (OpenSpec.ofChange inboxPlaysWrong)

/-- 'cablegramlaw22.InboxRefused': WHATEVER THE INPUT: true; the input reads as it did. -/
def inboxRefusedSpec : ChangeSpec := { name := "inboxRefused", fn := fun _ => fun
  | [d] => { results := [.lit (.bool true)], args := [d] }
  | _ => none }
def inboxRefusedRow : OpenClaim := { program := "ytlnlppmhiobgjaa", sum := "ebf71d5e05656352e9627cb649344cab6b885061adeccab8f8da86b0ebace69d", func := "cablegram/cablegramlaw22.InboxRefused", spec := "inboxRefused", unfollowed := true, recurses := true, apart := false }
def InboxRefusedSaid : Prop := inboxRefusedRow.holds Try.pinned (OpenSpec.ofChange inboxRefusedSpec)

/-- ITS FALSE NEIGHBOUR: 'it returns false'. Refute it at one input. -/
def inboxRefusedWrong : ChangeSpec := { name := "inboxRefused", fn := fun _ => fun
  | [d] => { results := [.lit (.bool false)], args := [d] }
  | _ => none }
def InboxRefusedWrongFalsely : Prop := inboxRefusedRow.holds Try.pinned (OpenSpec.ofChange inboxRefusedWrong)

/- THE SECOND FORM. 'bulk': how many values and letters a reading holds, each counted each time it is reached (what is shared counts as often as it is met; a slice's spare places count too). A statement '..UptoSaid' is the law's where the arguments, and the package variables that the reading takes, are together of bulk at most 1048576: NARROWER than '..Said'. Prove '..Said' where nothing that the law and all that it calls make is longer than what came in: it says more and counts as full. Else prove '..UptoSaid'. A law counts once. -/
mutual
def uptoBulk {H : Type} : DataW H → Nat
  | .lit (.string bytes) => bytes.length + 1
  | .lit _ => 1
  | .nil => 1
  | .ptr d => uptoBulk d + 1
  | .slice elems spare => uptoBulkAll elems + uptoBulkAll spare + 1
  | .agg parts => uptoBulkAll parts + 1
  | .iface _ d => uptoBulk d + 1
  | .map entries => uptoBulkEntries entries + 1
  | .held _ => 1
def uptoBulkAll {H : Type} : List (DataW H) → Nat
  | [] => 0
  | d :: r => uptoBulk d + uptoBulkAll r
def uptoBulkEntries {H : Type} : List (Lit × DataW H) → Nat
  | [] => 0
  | x :: r => uptoBulkEntry x + uptoBulkEntries r
def uptoBulkEntry {H : Type} : Lit × DataW H → Nat
  | (.string bytes, d) => bytes.length + uptoBulk d + 1
  | (_, d) => uptoBulk d + 1
 end
def uptoSmall : (H : Type) → List (DataW H) → Bool := fun _ ds => decide (uptoBulkAll ds ≤ 1048576)
def OpenSpec.upto (s : _root_.Go.ChangeSpec) : _root_.Go.OpenSpec := { _root_.Go.OpenSpec.ofChange s with cond := some uptoSmall }

/-- 'cablegramlaw22.InboxFifo', WHERE WHAT IT READS IS OF BULK AT MOST 1048576: true; the input reads as it did. -/
def inboxFifoUptoRow : OpenClaim := { program := "ytlnlppmhiobgjaa", sum := "ebf71d5e05656352e9627cb649344cab6b885061adeccab8f8da86b0ebace69d", func := "cablegram/cablegramlaw22.InboxFifo", spec := "inboxFifo", apart := false, narrowed := true }
def InboxFifoUptoSaid : Prop := inboxFifoUptoRow.holds Try.pinned (OpenSpec.upto inboxFifoSpec)

/-- 'cablegramlaw21.OutboxAgain', WHERE WHAT IT READS IS OF BULK AT MOST 1048576: true; the input reads as it did. -/
def outboxAgainUptoRow : OpenClaim := { program := "ytlnlppmhiobgjaa", sum := "ebf71d5e05656352e9627cb649344cab6b885061adeccab8f8da86b0ebace69d", func := "cablegram/cablegramlaw21.OutboxAgain", spec := "outboxAgain", unfollowed := true, recurses := true, apart := false, narrowed := true }
def OutboxAgainUptoSaid : Prop := outboxAgainUptoRow.holds Try.pinned (OpenSpec.upto outboxAgainSpec)

/-- 'cablegramlaw22.InboxTurns', WHERE WHAT IT READS IS OF BULK AT MOST 1048576: true; the input reads as it did. -/
def inboxTurnsUptoRow : OpenClaim := { program := "ytlnlppmhiobgjaa", sum := "ebf71d5e05656352e9627cb649344cab6b885061adeccab8f8da86b0ebace69d", func := "cablegram/cablegramlaw22.InboxTurns", spec := "inboxTurns", unfollowed := true, recurses := true, apart := false, narrowed := true }
def InboxTurnsUptoSaid : Prop := inboxTurnsUptoRow.holds Try.pinned (OpenSpec.upto inboxTurnsSpec)

/-- 'cablegramlaw22.InboxPlays', WHERE WHAT IT READS IS OF BULK AT MOST 1048576: true; the input reads as it did. -/
def inboxPlaysUptoRow : OpenClaim := { program := "ytlnlppmhiobgjaa", sum := "ebf71d5e05656352e9627cb649344cab6b885061adeccab8f8da86b0ebace69d", func := "cablegram/cablegramlaw22.InboxPlays", spec := "inboxPlays", unfollowed := true, recurses := true, apart := false, narrowed := true }
def InboxPlaysUptoSaid : Prop := inboxPlaysUptoRow.holds Try.pinned (OpenSpec.upto inboxPlaysSpec)

/-- 'cablegramlaw22.InboxRefused', WHERE WHAT IT READS IS OF BULK AT MOST 1048576: true; the input reads as it did. -/
def inboxRefusedUptoRow : OpenClaim := { program := "ytlnlppmhiobgjaa", sum := "ebf71d5e05656352e9627cb649344cab6b885061adeccab8f8da86b0ebace69d", func := "cablegram/cablegramlaw22.InboxRefused", spec := "inboxRefused", unfollowed := true, recurses := true, apart := false, narrowed := true }
def InboxRefusedUptoSaid : Prop := inboxRefusedUptoRow.holds Try.pinned (OpenSpec.upto inboxRefusedSpec)

end Rows
end Go.Proofs.Ytlnlppmhiobgjaa
