/-
  No cell of these rows narrows 'for every input' (looked for: loops, veiled, ifaces, maps, wideKeys, modest, calm, conditions, laid).
  DERIVED. THE GIVEN ROWS OF THIS SEAT. 6 by the template 'for every input the law returns true; each argument reads behind the call as it read before'; 0 by the template 'total and deterministic' (their statements: YtpbgelhjbfckcaaTotals.lean).
  GIVEN WITH THE SEED: the statements are not yours to turn. If you find one false, say at which input.
  Laid BY PROGRAM, IN A SANDBOX (cutbox-rows.mjs): the forced cells as the released guide's own fill.sh prints them over the translation 6d41f7eae33267b9… (all of the seat's roots in one cut). By AI agents, Wed Nov 11 2026. No macro, syntax, notation, axiom, sorry.
-/
import Derived.Test.YtpbgelhjbfckcaaChecked
import GoSem.Claim
import GoSem.ClaimJoined
import GoSem.ClaimMapViews
import Derived.JoinedTies
import Derived.KernelRfl
namespace Go.Proofs.Ytpbgelhjbfckcaa
/- THE CELL 'sum', in the pinned program and in every row, IS THE sha256 OF THE DUMP (.gsa) THAT YtpbgelhjbfckcaaProg.lean LOADS. Nothing in Lean hashes anything: it is a label: what it is worth is what the hold of that sum in a sandbox is worth. -/
noncomputable def Try.pinned : Pinned := { name := "ytpbgelhjbfckcaa", sum := "6d41f7eae33267b98ef5e8b88dfed189335dd6ce2f8ca1a064bb2288c6ab0e6c", checked := Try.checked }
namespace Rows
def none {H : Type} : Left H := { results := [], args := [] }

/-- 'exoduslaw47.ClientRefuses': WHATEVER THE INPUT: true; the input reads as it did. -/
def clientRefusesSpec : ChangeSpec := { name := "clientRefuses", fn := fun _ => fun
  | [d1, d2] => { results := [.lit (.bool true)], args := [d1, d2] }
  | _ => none }
def clientRefusesRow : OpenClaim := { program := "ytpbgelhjbfckcaa", sum := "6d41f7eae33267b98ef5e8b88dfed189335dd6ce2f8ca1a064bb2288c6ab0e6c", func := "exodus/exoduslaw47.ClientRefuses", spec := "clientRefuses", apart := false }
def ClientRefusesSaid : Prop := clientRefusesRow.holds Try.pinned (OpenSpec.ofChange clientRefusesSpec)

/-- ITS FALSE NEIGHBOUR: 'it returns false'. Refute it at one input. -/
def clientRefusesWrong : ChangeSpec := { name := "clientRefuses", fn := fun _ => fun
  | [d1, d2] => { results := [.lit (.bool false)], args := [d1, d2] }
  | _ => none }
def ClientRefusesWrongFalsely : Prop := clientRefusesRow.holds Try.pinned (OpenSpec.ofChange clientRefusesWrong)

/-- 'exoduslaw47.ClientEnds': WHATEVER THE INPUT: true; the input reads as it did. -/
def clientEndsSpec : ChangeSpec := { name := "clientEnds", fn := fun _ => fun
  | [d1, d2, d3, d4, d5] => { results := [.lit (.bool true)], args := [d1, d2, d3, d4, d5] }
  | _ => none }
def clientEndsRow : OpenClaim := { program := "ytpbgelhjbfckcaa", sum := "6d41f7eae33267b98ef5e8b88dfed189335dd6ce2f8ca1a064bb2288c6ab0e6c", func := "exodus/exoduslaw47.ClientEnds", spec := "clientEnds", apart := false }
def ClientEndsSaid : Prop := clientEndsRow.holds Try.pinned (OpenSpec.ofChange clientEndsSpec)

/-- ITS FALSE NEIGHBOUR: 'it returns false'. Refute it at one input. -/
def clientEndsWrong : ChangeSpec := { name := "clientEnds", fn := fun _ => fun
  | [d1, d2, d3, d4, d5] => { results := [.lit (.bool false)], args := [d1, d2, d3, d4, d5] }
  | _ => none }
def ClientEndsWrongFalsely : Prop := clientEndsRow.holds Try.pinned (OpenSpec.ofChange clientEndsWrong)

/-- 'exoduslaw47.ClientRetries': WHATEVER THE INPUT: true; the input reads as it did. -/
def clientRetriesSpec : ChangeSpec := { name := "clientRetries", fn := fun _ => fun
  | [d1, d2, d3] => { results := [.lit (.bool true)], args := [d1, d2, d3] }
  | _ => none }
def clientRetriesRow : OpenClaim := { program := "ytpbgelhjbfckcaa", sum := "6d41f7eae33267b98ef5e8b88dfed189335dd6ce2f8ca1a064bb2288c6ab0e6c", func := "exodus/exoduslaw47.ClientRetries", spec := "clientRetries", apart := false }
def ClientRetriesSaid : Prop := clientRetriesRow.holds Try.pinned (OpenSpec.ofChange clientRetriesSpec)

/-- ITS FALSE NEIGHBOUR: 'it returns false'. Refute it at one input. -/
def clientRetriesWrong : ChangeSpec := { name := "clientRetries", fn := fun _ => fun
  | [d1, d2, d3] => { results := [.lit (.bool false)], args := [d1, d2, d3] }
  | _ => none }
def ClientRetriesWrongFalsely : Prop := clientRetriesRow.holds Try.pinned (OpenSpec.ofChange clientRetriesWrong)

/-- 'exoduslaw47.ClientSends': WHATEVER THE INPUT: true; the input reads as it did. -/
def clientSendsSpec : ChangeSpec := { name := "clientSends", fn := fun _ => fun
  | [d1, d2, d3] => { results := [.lit (.bool true)], args := [d1, d2, d3] }
  | _ => none }
def clientSendsRow : OpenClaim := { program := "ytpbgelhjbfckcaa", sum := "6d41f7eae33267b98ef5e8b88dfed189335dd6ce2f8ca1a064bb2288c6ab0e6c", func := "exodus/exoduslaw47.ClientSends", spec := "clientSends", unfollowed := true, recurses := true, apart := false }
def ClientSendsSaid : Prop := clientSendsRow.holds Try.pinned (OpenSpec.ofChange clientSendsSpec)

/-- ITS FALSE NEIGHBOUR: 'it returns false'. Refute it at one input. -/
def clientSendsWrong : ChangeSpec := { name := "clientSends", fn := fun _ => fun
  | [d1, d2, d3] => { results := [.lit (.bool false)], args := [d1, d2, d3] }
  | _ => none }
def ClientSendsWrongFalsely : Prop := clientSendsRow.holds Try.pinned (OpenSpec.ofChange clientSendsWrong)

/-- 'exoduslaw47.ClientCodes': WHATEVER THE INPUT: true; the input reads as it did. -/
def clientCodesSpec : ChangeSpec := { name := "clientCodes", fn := fun _ => fun
  | [d] => { results := [.lit (.bool true)], args := [d] }
  | _ => none }
def clientCodesRow : OpenClaim := { program := "ytpbgelhjbfckcaa", sum := "6d41f7eae33267b98ef5e8b88dfed189335dd6ce2f8ca1a064bb2288c6ab0e6c", func := "exodus/exoduslaw47.ClientCodes", spec := "clientCodes", unfollowed := true, recurses := true, apart := false }
def ClientCodesSaid : Prop := clientCodesRow.holds Try.pinned (OpenSpec.ofChange clientCodesSpec)

/-- ITS FALSE NEIGHBOUR: 'it returns false'. Refute it at one input. -/
def clientCodesWrong : ChangeSpec := { name := "clientCodes", fn := fun _ => fun
  | [d] => { results := [.lit (.bool false)], args := [d] }
  | _ => none }
def ClientCodesWrongFalsely : Prop := clientCodesRow.holds Try.pinned (OpenSpec.ofChange clientCodesWrong)

/-- 'exoduslaw47.ClientDecodes': WHATEVER THE INPUT: true; the input reads as it did. -/
def clientDecodesSpec : ChangeSpec := { name := "clientDecodes", fn := fun _ => fun
  | [d] => { results := [.lit (.bool true)], args := [d] }
  | _ => none }
def clientDecodesRow : OpenClaim := { program := "ytpbgelhjbfckcaa", sum := "6d41f7eae33267b98ef5e8b88dfed189335dd6ce2f8ca1a064bb2288c6ab0e6c", func := "exodus/exoduslaw47.ClientDecodes", spec := "clientDecodes", unfollowed := true, recurses := true, apart := false }
def ClientDecodesSaid : Prop := clientDecodesRow.holds Try.pinned (OpenSpec.ofChange clientDecodesSpec)

/-- ITS FALSE NEIGHBOUR: 'it returns false'. Refute it at one input. -/
def clientDecodesWrong : ChangeSpec := { name := "clientDecodes", fn := fun _ => fun
  | [d] => { results := [.lit (.bool false)], args := [d] }
  | _ => none }
def ClientDecodesWrongFalsely : Prop := clientDecodesRow.holds Try.pinned (OpenSpec.ofChange clientDecodesWrong)

/- THE SECOND FORM. 'bulk': how many values and letters a reading holds, each counted each time it is reached (what is shared counts as often as it is met; a slice's spare places count too). A statement '..UptoSaid' is the law's where the arguments, and the package variables that the reading takes, are together of bulk at most 1048576: NARROWER than '..Said'. Prove '..Said' where nothing that the law and all that it calls make is longer than what came in: it says more and counts as full. Else prove '..UptoSaid'. A law counts once. -/
mutual
def uptoBulk {H : Type} : DataW H → Nat
  | .lit (.string bytes) => bytes.length + 1
  | .lit _ => 1
  | .nil => 1
  | .ptr d => uptoBulk d + 1
  | .slice elems spare => uptoBulkAll elems + uptoBulkAll spare + 1
  | .agg parts => uptoBulkAll parts + 1
  | .iface _ d => uptoBulk d + 1
  | .map entries => uptoBulkEntries entries + 1
  | .held _ => 1
def uptoBulkAll {H : Type} : List (DataW H) → Nat
  | [] => 0
  | d :: r => uptoBulk d + uptoBulkAll r
def uptoBulkEntries {H : Type} : List (Lit × DataW H) → Nat
  | [] => 0
  | x :: r => uptoBulkEntry x + uptoBulkEntries r
def uptoBulkEntry {H : Type} : Lit × DataW H → Nat
  | (.string bytes, d) => bytes.length + uptoBulk d + 1
  | (_, d) => uptoBulk d + 1
 end
def uptoSmall : (H : Type) → List (DataW H) → Bool := fun _ ds => decide (uptoBulkAll ds ≤ 1048576)
def OpenSpec.upto (s : _root_.Go.ChangeSpec) : _root_.Go.OpenSpec := { _root_.Go.OpenSpec.ofChange s with cond := some uptoSmall }

/-- 'exoduslaw47.ClientRefuses', WHERE WHAT IT READS IS OF BULK AT MOST 1048576: true; the input reads as it did. -/
def clientRefusesUptoRow : OpenClaim := { program := "ytpbgelhjbfckcaa", sum := "6d41f7eae33267b98ef5e8b88dfed189335dd6ce2f8ca1a064bb2288c6ab0e6c", func := "exodus/exoduslaw47.ClientRefuses", spec := "clientRefuses", apart := false, narrowed := true }
def ClientRefusesUptoSaid : Prop := clientRefusesUptoRow.holds Try.pinned (OpenSpec.upto clientRefusesSpec)

/-- 'exoduslaw47.ClientEnds', WHERE WHAT IT READS IS OF BULK AT MOST 1048576: true; the input reads as it did. -/
def clientEndsUptoRow : OpenClaim := { program := "ytpbgelhjbfckcaa", sum := "6d41f7eae33267b98ef5e8b88dfed189335dd6ce2f8ca1a064bb2288c6ab0e6c", func := "exodus/exoduslaw47.ClientEnds", spec := "clientEnds", apart := false, narrowed := true }
def ClientEndsUptoSaid : Prop := clientEndsUptoRow.holds Try.pinned (OpenSpec.upto clientEndsSpec)

/-- 'exoduslaw47.ClientRetries', WHERE WHAT IT READS IS OF BULK AT MOST 1048576: true; the input reads as it did. -/
def clientRetriesUptoRow : OpenClaim := { program := "ytpbgelhjbfckcaa", sum := "6d41f7eae33267b98ef5e8b88dfed189335dd6ce2f8ca1a064bb2288c6ab0e6c", func := "exodus/exoduslaw47.ClientRetries", spec := "clientRetries", apart := false, narrowed := true }
def ClientRetriesUptoSaid : Prop := clientRetriesUptoRow.holds Try.pinned (OpenSpec.upto clientRetriesSpec)

/-- 'exoduslaw47.ClientSends', WHERE WHAT IT READS IS OF BULK AT MOST 1048576: true; the input reads as it did. -/
def clientSendsUptoRow : OpenClaim := { program := "ytpbgelhjbfckcaa", sum := "6d41f7eae33267b98ef5e8b88dfed189335dd6ce2f8ca1a064bb2288c6ab0e6c", func := "exodus/exoduslaw47.ClientSends", spec := "clientSends", unfollowed := true, recurses := true, apart := false, narrowed := true }
def ClientSendsUptoSaid : Prop := clientSendsUptoRow.holds Try.pinned (OpenSpec.upto clientSendsSpec)

/-- 'exoduslaw47.ClientCodes', WHERE WHAT IT READS IS OF BULK AT MOST 1048576: true; the input reads as it did. -/
def clientCodesUptoRow : OpenClaim := { program := "ytpbgelhjbfckcaa", sum := "6d41f7eae33267b98ef5e8b88dfed189335dd6ce2f8ca1a064bb2288c6ab0e6c", func := "exodus/exoduslaw47.ClientCodes", spec := "clientCodes", unfollowed := true, recurses := true, apart := false, narrowed := true }
def ClientCodesUptoSaid : Prop := clientCodesUptoRow.holds Try.pinned (OpenSpec.upto clientCodesSpec)

/-- 'exoduslaw47.ClientDecodes', WHERE WHAT IT READS IS OF BULK AT MOST 1048576: true; the input reads as it did. -/
def clientDecodesUptoRow : OpenClaim := { program := "ytpbgelhjbfckcaa", sum := "6d41f7eae33267b98ef5e8b88dfed189335dd6ce2f8ca1a064bb2288c6ab0e6c", func := "exodus/exoduslaw47.ClientDecodes", spec := "clientDecodes", unfollowed := true, recurses := true, apart := false, narrowed := true }
def ClientDecodesUptoSaid : Prop := clientDecodesUptoRow.holds Try.pinned (OpenSpec.upto clientDecodesSpec)

end Rows
end Go.Proofs.Ytpbgelhjbfckcaa
