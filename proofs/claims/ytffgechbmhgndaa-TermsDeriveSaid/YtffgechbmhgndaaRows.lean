/-
  No cell of these rows narrows 'for every input' (looked for: loops, veiled, ifaces, maps, wideKeys, modest, calm, conditions, laid).
  DERIVED. THE GIVEN ROWS OF THIS SEAT. 9 by the template 'for every input the law returns true; each argument reads behind the call as it read before'; 0 by the template 'total and deterministic' (their statements: YtffgechbmhgndaaTotals.lean).
  GIVEN WITH THE SEED: the statements are not yours to turn. If you find one false, say at which input.
  Laid BY PROGRAM, IN A SANDBOX (cutbox-rows.mjs): the forced cells as the released guide's own fill.sh prints them over the translation cf4f26a803c0b4d0… (all of the seat's roots in one cut). By AI agents, Wed Nov 11 2026. No macro, syntax, notation, axiom, sorry.
-/
import Derived.Test.YtffgechbmhgndaaChecked
import GoSem.Claim
import GoSem.ClaimJoined
import GoSem.ClaimMapViews
import Derived.JoinedTies
import Derived.KernelRfl
namespace Go.Proofs.Ytffgechbmhgndaa
/- THE CELL 'sum', in the pinned program and in every row, IS THE sha256 OF THE DUMP (.gsa) THAT YtffgechbmhgndaaProg.lean LOADS. Nothing in Lean hashes anything: it is a label: what it is worth is what the hold of that sum in a sandbox is worth. -/
noncomputable def Try.pinned : Pinned := { name := "ytffgechbmhgndaa", sum := "cf4f26a803c0b4d01b2ae4aa095d95eea5027fa0a980294d004f94f0215f068a", checked := Try.checked }
namespace Rows
def none {H : Type} : Left H := { results := [], args := [] }

/-- 'cablegramlaw28.LedgerSeen': WHATEVER THE INPUT: true; the input reads as it did. -/
def ledgerSeenSpec : ChangeSpec := { name := "ledgerSeen", fn := fun _ => fun
  | [d1, d2, d3] => { results := [.lit (.bool true)], args := [d1, d2, d3] }
  | _ => none }
def ledgerSeenRow : OpenClaim := { program := "ytffgechbmhgndaa", sum := "cf4f26a803c0b4d01b2ae4aa095d95eea5027fa0a980294d004f94f0215f068a", func := "cablegram/cablegramlaw28.LedgerSeen", spec := "ledgerSeen", unfollowed := true, recurses := true, apart := false }
def LedgerSeenSaid : Prop := ledgerSeenRow.holds Try.pinned (OpenSpec.ofChange ledgerSeenSpec)

/-- ITS FALSE NEIGHBOUR: 'it returns false'. Refute it at one input. -/
def ledgerSeenWrong : ChangeSpec := { name := "ledgerSeen", fn := fun _ => fun
  | [d1, d2, d3] => { results := [.lit (.bool false)], args := [d1, d2, d3] }
  | _ => none }
def LedgerSeenWrongFalsely : Prop := ledgerSeenRow.holds Try.pinned (OpenSpec.ofChange ledgerSeenWrong)

/-- 'cablegramlaw28.LedgerHeals': WHATEVER THE INPUT: true; the input reads as it did. -/
def ledgerHealsSpec : ChangeSpec := { name := "ledgerHeals", fn := fun _ => fun
  | [d1, d2] => { results := [.lit (.bool true)], args := [d1, d2] }
  | _ => none }
def ledgerHealsRow : OpenClaim := { program := "ytffgechbmhgndaa", sum := "cf4f26a803c0b4d01b2ae4aa095d95eea5027fa0a980294d004f94f0215f068a", func := "cablegram/cablegramlaw28.LedgerHeals", spec := "ledgerHeals", unfollowed := true, recurses := true, apart := false }
def LedgerHealsSaid : Prop := ledgerHealsRow.holds Try.pinned (OpenSpec.ofChange ledgerHealsSpec)

/-- ITS FALSE NEIGHBOUR: 'it returns false'. Refute it at one input. -/
def ledgerHealsWrong : ChangeSpec := { name := "ledgerHeals", fn := fun _ => fun
  | [d1, d2] => { results := [.lit (.bool false)], args := [d1, d2] }
  | _ => none }
def LedgerHealsWrongFalsely : Prop := ledgerHealsRow.holds Try.pinned (OpenSpec.ofChange ledgerHealsWrong)

/-- 'cablegramlaw28.LedgerStays': WHATEVER THE INPUT: true; the input reads as it did. -/
def ledgerStaysSpec : ChangeSpec := { name := "ledgerStays", fn := fun _ => fun
  | [d] => { results := [.lit (.bool true)], args := [d] }
  | _ => none }
def ledgerStaysRow : OpenClaim := { program := "ytffgechbmhgndaa", sum := "cf4f26a803c0b4d01b2ae4aa095d95eea5027fa0a980294d004f94f0215f068a", func := "cablegram/cablegramlaw28.LedgerStays", spec := "ledgerStays", unfollowed := true, recurses := true, apart := false }
def LedgerStaysSaid : Prop := ledgerStaysRow.holds Try.pinned (OpenSpec.ofChange ledgerStaysSpec)

/-- ITS FALSE NEIGHBOUR: 'it returns false'. Refute it at one input. -/
def ledgerStaysWrong : ChangeSpec := { name := "ledgerStays", fn := fun _ => fun
  | [d] => { results := [.lit (.bool false)], args := [d] }
  | _ => none }
def LedgerStaysWrongFalsely : Prop := ledgerStaysRow.holds Try.pinned (OpenSpec.ofChange ledgerStaysWrong)

/-- 'cablegramlaw27.TermsClose': WHATEVER THE INPUT: true; the input reads as it did. -/
def termsCloseSpec : ChangeSpec := { name := "termsClose", fn := fun _ => fun
  | [d1, d2] => { results := [.lit (.bool true)], args := [d1, d2] }
  | _ => none }
def termsCloseRow : OpenClaim := { program := "ytffgechbmhgndaa", sum := "cf4f26a803c0b4d01b2ae4aa095d95eea5027fa0a980294d004f94f0215f068a", func := "cablegram/cablegramlaw27.TermsClose", spec := "termsClose", unfollowed := true, recurses := true, apart := false }
def TermsCloseSaid : Prop := termsCloseRow.holds Try.pinned (OpenSpec.ofChange termsCloseSpec)

/-- ITS FALSE NEIGHBOUR: 'it returns false'. Refute it at one input. -/
def termsCloseWrong : ChangeSpec := { name := "termsClose", fn := fun _ => fun
  | [d1, d2] => { results := [.lit (.bool false)], args := [d1, d2] }
  | _ => none }
def TermsCloseWrongFalsely : Prop := termsCloseRow.holds Try.pinned (OpenSpec.ofChange termsCloseWrong)

/-- 'cablegramlaw27.TermsMore': WHATEVER THE INPUT: true; the input reads as it did. -/
def termsMoreSpec : ChangeSpec := { name := "termsMore", fn := fun _ => fun
  | [d1, d2, d3] => { results := [.lit (.bool true)], args := [d1, d2, d3] }
  | _ => none }
def termsMoreRow : OpenClaim := { program := "ytffgechbmhgndaa", sum := "cf4f26a803c0b4d01b2ae4aa095d95eea5027fa0a980294d004f94f0215f068a", func := "cablegram/cablegramlaw27.TermsMore", spec := "termsMore", unfollowed := true, recurses := true, apart := false }
def TermsMoreSaid : Prop := termsMoreRow.holds Try.pinned (OpenSpec.ofChange termsMoreSpec)

/-- ITS FALSE NEIGHBOUR: 'it returns false'. Refute it at one input. -/
def termsMoreWrong : ChangeSpec := { name := "termsMore", fn := fun _ => fun
  | [d1, d2, d3] => { results := [.lit (.bool false)], args := [d1, d2, d3] }
  | _ => none }
def TermsMoreWrongFalsely : Prop := termsMoreRow.holds Try.pinned (OpenSpec.ofChange termsMoreWrong)

/-- 'cablegramlaw27.TermsOrder': WHATEVER THE INPUT: true; the input reads as it did. -/
def termsOrderSpec : ChangeSpec := { name := "termsOrder", fn := fun _ => fun
  | [d1, d2] => { results := [.lit (.bool true)], args := [d1, d2] }
  | _ => none }
def termsOrderRow : OpenClaim := { program := "ytffgechbmhgndaa", sum := "cf4f26a803c0b4d01b2ae4aa095d95eea5027fa0a980294d004f94f0215f068a", func := "cablegram/cablegramlaw27.TermsOrder", spec := "termsOrder", unfollowed := true, recurses := true, apart := false }
def TermsOrderSaid : Prop := termsOrderRow.holds Try.pinned (OpenSpec.ofChange termsOrderSpec)

/-- ITS FALSE NEIGHBOUR: 'it returns false'. Refute it at one input. -/
def termsOrderWrong : ChangeSpec := { name := "termsOrder", fn := fun _ => fun
  | [d1, d2] => { results := [.lit (.bool false)], args := [d1, d2] }
  | _ => none }
def TermsOrderWrongFalsely : Prop := termsOrderRow.holds Try.pinned (OpenSpec.ofChange termsOrderWrong)

/-- 'cablegramlaw27.TermsDerive': WHATEVER THE INPUT: true; the input reads as it did. -/
def termsDeriveSpec : ChangeSpec := { name := "termsDerive", fn := fun _ => fun
  | [d1, d2, d3] => { results := [.lit (.bool true)], args := [d1, d2, d3] }
  | _ => none }
def termsDeriveRow : OpenClaim := { program := "ytffgechbmhgndaa", sum := "cf4f26a803c0b4d01b2ae4aa095d95eea5027fa0a980294d004f94f0215f068a", func := "cablegram/cablegramlaw27.TermsDerive", spec := "termsDerive", unfollowed := true, recurses := true, apart := false }
def TermsDeriveSaid : Prop := termsDeriveRow.holds Try.pinned (OpenSpec.ofChange termsDeriveSpec)

/-- ITS FALSE NEIGHBOUR: 'it returns false'. Refute it at one input. -/
def termsDeriveWrong : ChangeSpec := { name := "termsDerive", fn := fun _ => fun
  | [d1, d2, d3] => { results := [.lit (.bool false)], args := [d1, d2, d3] }
  | _ => none }
def TermsDeriveWrongFalsely : Prop := termsDeriveRow.holds Try.pinned (OpenSpec.ofChange termsDeriveWrong)

/-- 'cablegramlaw28.LedgerPlays': WHATEVER THE INPUT: true; the input reads as it did. -/
def ledgerPlaysSpec : ChangeSpec := { name := "ledgerPlays", fn := fun _ => fun
  | [d] => { results := [.lit (.bool true)], args := [d] }
  | _ => none }
def ledgerPlaysRow : OpenClaim := { program := "ytffgechbmhgndaa", sum := "cf4f26a803c0b4d01b2ae4aa095d95eea5027fa0a980294d004f94f0215f068a", func := "cablegram/cablegramlaw28.LedgerPlays", spec := "ledgerPlays", unfollowed := true, recurses := true, apart := false }
def LedgerPlaysSaid : Prop := ledgerPlaysRow.holds Try.pinned (OpenSpec.ofChange ledgerPlaysSpec)

/-- ITS FALSE NEIGHBOUR: 'it returns false'. Refute it at one input. -/
def ledgerPlaysWrong : ChangeSpec := { name := "ledgerPlays", fn := fun _ => fun
  | [d] => { results := [.lit (.bool false)], args := [d] }
  | _ => none }
def LedgerPlaysWrongFalsely : Prop := ledgerPlaysRow.holds Try.pinned (OpenSpec.ofChange ledgerPlaysWrong)

/-- 'cablegramlaw28.LedgerAgrees': WHATEVER THE INPUT: true; the input reads as it did. -/
def ledgerAgreesSpec : ChangeSpec := { name := "ledgerAgrees", fn := fun _ => fun
  | [d] => { results := [.lit (.bool true)], args := [d] }
  | _ => none }
def ledgerAgreesRow : OpenClaim := { program := "ytffgechbmhgndaa", sum := "cf4f26a803c0b4d01b2ae4aa095d95eea5027fa0a980294d004f94f0215f068a", func := "cablegram/cablegramlaw28.LedgerAgrees", spec := "ledgerAgrees", unfollowed := true, recurses := true, apart := false }
def LedgerAgreesSaid : Prop := ledgerAgreesRow.holds Try.pinned (OpenSpec.ofChange ledgerAgreesSpec)

/-- ITS FALSE NEIGHBOUR: 'it returns false'. Refute it at one input. -/
def ledgerAgreesWrong : ChangeSpec := { name := "ledgerAgrees", fn := fun _ => fun
  | [d] => { results := [.lit (.bool false)], args := [d] }
  | _ => none }
def LedgerAgreesWrongFalsely : Prop := ledgerAgreesRow.holds Try.pinned (OpenSpec.ofChange ledgerAgreesWrong)

/- THE SECOND FORM. 'bulk': how many values and letters a reading holds, each counted each time it is reached (what is shared counts as often as it is met; a slice's spare places count too). A statement '..UptoSaid' is the law's where the arguments, and the package variables that the reading takes, are together of bulk at most 1048576: NARROWER than '..Said'. Prove '..Said' where nothing that the law and all that it calls make is longer than what came in: it says more and counts as full. Else prove '..UptoSaid'. A law counts once. -/
mutual
def uptoBulk {H : Type} : DataW H → Nat
  | .lit (.string bytes) => bytes.length + 1
  | .lit _ => 1
  | .nil => 1
  | .ptr d => uptoBulk d + 1
  | .slice elems spare => uptoBulkAll elems + uptoBulkAll spare + 1
  | .agg parts => uptoBulkAll parts + 1
  | .iface _ d => uptoBulk d + 1
  | .map entries => uptoBulkEntries entries + 1
  | .held _ => 1
def uptoBulkAll {H : Type} : List (DataW H) → Nat
  | [] => 0
  | d :: r => uptoBulk d + uptoBulkAll r
def uptoBulkEntries {H : Type} : List (Lit × DataW H) → Nat
  | [] => 0
  | x :: r => uptoBulkEntry x + uptoBulkEntries r
def uptoBulkEntry {H : Type} : Lit × DataW H → Nat
  | (.string bytes, d) => bytes.length + uptoBulk d + 1
  | (_, d) => uptoBulk d + 1
 end
def uptoSmall : (H : Type) → List (DataW H) → Bool := fun _ ds => decide (uptoBulkAll ds ≤ 1048576)
def OpenSpec.upto (s : _root_.Go.ChangeSpec) : _root_.Go.OpenSpec := { _root_.Go.OpenSpec.ofChange s with cond := some uptoSmall }

/-- 'cablegramlaw28.LedgerSeen', WHERE WHAT IT READS IS OF BULK AT MOST 1048576: true; the input reads as it did. -/
def ledgerSeenUptoRow : OpenClaim := { program := "ytffgechbmhgndaa", sum := "cf4f26a803c0b4d01b2ae4aa095d95eea5027fa0a980294d004f94f0215f068a", func := "cablegram/cablegramlaw28.LedgerSeen", spec := "ledgerSeen", unfollowed := true, recurses := true, apart := false, narrowed := true }
def LedgerSeenUptoSaid : Prop := ledgerSeenUptoRow.holds Try.pinned (OpenSpec.upto ledgerSeenSpec)

/-- 'cablegramlaw28.LedgerHeals', WHERE WHAT IT READS IS OF BULK AT MOST 1048576: true; the input reads as it did. -/
def ledgerHealsUptoRow : OpenClaim := { program := "ytffgechbmhgndaa", sum := "cf4f26a803c0b4d01b2ae4aa095d95eea5027fa0a980294d004f94f0215f068a", func := "cablegram/cablegramlaw28.LedgerHeals", spec := "ledgerHeals", unfollowed := true, recurses := true, apart := false, narrowed := true }
def LedgerHealsUptoSaid : Prop := ledgerHealsUptoRow.holds Try.pinned (OpenSpec.upto ledgerHealsSpec)

/-- 'cablegramlaw28.LedgerStays', WHERE WHAT IT READS IS OF BULK AT MOST 1048576: true; the input reads as it did. -/
def ledgerStaysUptoRow : OpenClaim := { program := "ytffgechbmhgndaa", sum := "cf4f26a803c0b4d01b2ae4aa095d95eea5027fa0a980294d004f94f0215f068a", func := "cablegram/cablegramlaw28.LedgerStays", spec := "ledgerStays", unfollowed := true, recurses := true, apart := false, narrowed := true }
def LedgerStaysUptoSaid : Prop := ledgerStaysUptoRow.holds Try.pinned (OpenSpec.upto ledgerStaysSpec)

/-- 'cablegramlaw27.TermsClose', WHERE WHAT IT READS IS OF BULK AT MOST 1048576: true; the input reads as it did. -/
def termsCloseUptoRow : OpenClaim := { program := "ytffgechbmhgndaa", sum := "cf4f26a803c0b4d01b2ae4aa095d95eea5027fa0a980294d004f94f0215f068a", func := "cablegram/cablegramlaw27.TermsClose", spec := "termsClose", unfollowed := true, recurses := true, apart := false, narrowed := true }
def TermsCloseUptoSaid : Prop := termsCloseUptoRow.holds Try.pinned (OpenSpec.upto termsCloseSpec)

/-- 'cablegramlaw27.TermsMore', WHERE WHAT IT READS IS OF BULK AT MOST 1048576: true; the input reads as it did. -/
def termsMoreUptoRow : OpenClaim := { program := "ytffgechbmhgndaa", sum := "cf4f26a803c0b4d01b2ae4aa095d95eea5027fa0a980294d004f94f0215f068a", func := "cablegram/cablegramlaw27.TermsMore", spec := "termsMore", unfollowed := true, recurses := true, apart := false, narrowed := true }
def TermsMoreUptoSaid : Prop := termsMoreUptoRow.holds Try.pinned (OpenSpec.upto termsMoreSpec)

/-- 'cablegramlaw27.TermsOrder', WHERE WHAT IT READS IS OF BULK AT MOST 1048576: true; the input reads as it did. -/
def termsOrderUptoRow : OpenClaim := { program := "ytffgechbmhgndaa", sum := "cf4f26a803c0b4d01b2ae4aa095d95eea5027fa0a980294d004f94f0215f068a", func := "cablegram/cablegramlaw27.TermsOrder", spec := "termsOrder", unfollowed := true, recurses := true, apart := false, narrowed := true }
def TermsOrderUptoSaid : Prop := termsOrderUptoRow.holds Try.pinned (OpenSpec.upto termsOrderSpec)

/-- 'cablegramlaw27.TermsDerive', WHERE WHAT IT READS IS OF BULK AT MOST 1048576: true; the input reads as it did. -/
def termsDeriveUptoRow : OpenClaim := { program := "ytffgechbmhgndaa", sum := "cf4f26a803c0b4d01b2ae4aa095d95eea5027fa0a980294d004f94f0215f068a", func := "cablegram/cablegramlaw27.TermsDerive", spec := "termsDerive", unfollowed := true, recurses := true, apart := false, narrowed := true }
def TermsDeriveUptoSaid : Prop := termsDeriveUptoRow.holds Try.pinned (OpenSpec.upto termsDeriveSpec)

/-- 'cablegramlaw28.LedgerPlays', WHERE WHAT IT READS IS OF BULK AT MOST 1048576: true; the input reads as it did. -/
def ledgerPlaysUptoRow : OpenClaim := { program := "ytffgechbmhgndaa", sum := "cf4f26a803c0b4d01b2ae4aa095d95eea5027fa0a980294d004f94f0215f068a", func := "cablegram/cablegramlaw28.LedgerPlays", spec := "ledgerPlays", unfollowed := true, recurses := true, apart := false, narrowed := true }
def LedgerPlaysUptoSaid : Prop := ledgerPlaysUptoRow.holds Try.pinned (OpenSpec.upto ledgerPlaysSpec)

/-- 'cablegramlaw28.LedgerAgrees', WHERE WHAT IT READS IS OF BULK AT MOST 1048576: true; the input reads as it did. -/
def ledgerAgreesUptoRow : OpenClaim := { program := "ytffgechbmhgndaa", sum := "cf4f26a803c0b4d01b2ae4aa095d95eea5027fa0a980294d004f94f0215f068a", func := "cablegram/cablegramlaw28.LedgerAgrees", spec := "ledgerAgrees", unfollowed := true, recurses := true, apart := false, narrowed := true }
def LedgerAgreesUptoSaid : Prop := ledgerAgreesUptoRow.holds Try.pinned (OpenSpec.upto ledgerAgreesSpec)

end Rows
end Go.Proofs.Ytffgechbmhgndaa
