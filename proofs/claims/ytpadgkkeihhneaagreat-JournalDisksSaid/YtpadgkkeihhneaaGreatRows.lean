/-
  No cell of these rows narrows 'for every input' (looked for: loops, veiled, ifaces, maps, wideKeys, modest, calm, conditions, laid).
  DERIVED. THE GIVEN ROWS OF THIS SEAT. 4 by the template 'for every input the law returns true; each argument reads behind the call as it read before'; 0 by the template 'total and deterministic' (their statements: YtpadgkkeihhneaaGreatTotals.lean).
  GIVEN WITH THE SEED: the statements are not yours to turn. If you find one false, say at which input.
  Laid BY PROGRAM, IN A SANDBOX (cutbox-rows.mjs): the forced cells as the released guide's own fill.sh prints them over the translation 1edb3848b1c75fd5… (all of the seat's roots in one cut). By AI agents, Wed Nov 11 2026. No macro, syntax, notation, axiom, sorry.
-/
import Derived.Test.YtpadgkkeihhneaaGreatChecked
import GoSem.Claim
import GoSem.ClaimJoined
import GoSem.ClaimMapViews
import Derived.JoinedTies
import Derived.KernelRfl
namespace Go.Proofs.YtpadgkkeihhneaaGreat
/- THE CELL 'sum', in the pinned program and in every row, IS THE sha256 OF THE DUMP (.gsa) THAT YtpadgkkeihhneaaGreatProg.lean LOADS. Nothing in Lean hashes anything: it is a label: what it is worth is what the hold of that sum in a sandbox is worth. -/
noncomputable def Tryz.pinned : Pinned := { name := "ytpadgkkeihhneaagreat", sum := "1edb3848b1c75fd5c0e2168cd9d7f2b1817a72d4658cde3bea4b3dce76d0ad13", checked := Tryz.checked }
namespace Rows
def none {H : Type} : Left H := { results := [], args := [] }

/-- 'exoduslaw33.JournalDisks': WHATEVER THE INPUT: true; the input reads as it did. -/
def journalDisksSpec : ChangeSpec := { name := "journalDisks", fn := fun _ => fun
  | [d1, d2] => { results := [.lit (.bool true)], args := [d1, d2] }
  | _ => none }
def journalDisksRow : OpenClaim := { program := "ytpadgkkeihhneaagreat", sum := "1edb3848b1c75fd5c0e2168cd9d7f2b1817a72d4658cde3bea4b3dce76d0ad13", func := "exodus/exoduslaw33.JournalDisks", spec := "journalDisks", inPlace := ["internal/bytealg.Count", "internal/bytealg.IndexByte", "internal/bytealg.Index"], unfollowed := true, recurses := true, named := ["internal/bytealg.MaxLen"], apart := false }
def JournalDisksSaid : Prop := journalDisksRow.holds Tryz.pinned (OpenSpec.ofChange journalDisksSpec)

/-- ITS FALSE NEIGHBOUR: 'it returns false'. Refute it at one input. -/
def journalDisksWrong : ChangeSpec := { name := "journalDisks", fn := fun _ => fun
  | [d1, d2] => { results := [.lit (.bool false)], args := [d1, d2] }
  | _ => none }
def JournalDisksWrongFalsely : Prop := journalDisksRow.holds Tryz.pinned (OpenSpec.ofChange journalDisksWrong)

/-- 'exoduslaw33.JournalCalls': WHATEVER THE INPUT: true; the input reads as it did. -/
def journalCallsSpec : ChangeSpec := { name := "journalCalls", fn := fun _ => fun
  | [d1, d2] => { results := [.lit (.bool true)], args := [d1, d2] }
  | _ => none }
def journalCallsRow : OpenClaim := { program := "ytpadgkkeihhneaagreat", sum := "1edb3848b1c75fd5c0e2168cd9d7f2b1817a72d4658cde3bea4b3dce76d0ad13", func := "exodus/exoduslaw33.JournalCalls", spec := "journalCalls", inPlace := ["internal/bytealg.Count", "internal/bytealg.IndexByte", "internal/bytealg.Index"], unfollowed := true, recurses := true, named := ["internal/bytealg.MaxLen"], apart := false }
def JournalCallsSaid : Prop := journalCallsRow.holds Tryz.pinned (OpenSpec.ofChange journalCallsSpec)

/-- ITS FALSE NEIGHBOUR: 'it returns false'. Refute it at one input. -/
def journalCallsWrong : ChangeSpec := { name := "journalCalls", fn := fun _ => fun
  | [d1, d2] => { results := [.lit (.bool false)], args := [d1, d2] }
  | _ => none }
def JournalCallsWrongFalsely : Prop := journalCallsRow.holds Tryz.pinned (OpenSpec.ofChange journalCallsWrong)

/-- 'exoduslaw33.JournalCrashes': WHATEVER THE INPUT: true; the input reads as it did. -/
def journalCrashesSpec : ChangeSpec := { name := "journalCrashes", fn := fun _ => fun
  | [d1, d2, d3, d4] => { results := [.lit (.bool true)], args := [d1, d2, d3, d4] }
  | _ => none }
def journalCrashesRow : OpenClaim := { program := "ytpadgkkeihhneaagreat", sum := "1edb3848b1c75fd5c0e2168cd9d7f2b1817a72d4658cde3bea4b3dce76d0ad13", func := "exodus/exoduslaw33.JournalCrashes", spec := "journalCrashes", inPlace := ["internal/bytealg.Count", "internal/bytealg.IndexByte", "internal/bytealg.Index"], unfollowed := true, recurses := true, named := ["internal/bytealg.MaxLen"], apart := false }
def JournalCrashesSaid : Prop := journalCrashesRow.holds Tryz.pinned (OpenSpec.ofChange journalCrashesSpec)

/-- ITS FALSE NEIGHBOUR: 'it returns false'. Refute it at one input. -/
def journalCrashesWrong : ChangeSpec := { name := "journalCrashes", fn := fun _ => fun
  | [d1, d2, d3, d4] => { results := [.lit (.bool false)], args := [d1, d2, d3, d4] }
  | _ => none }
def JournalCrashesWrongFalsely : Prop := journalCrashesRow.holds Tryz.pinned (OpenSpec.ofChange journalCrashesWrong)

/-- 'exoduslaw33.JournalAgain': WHATEVER THE INPUT: true; the input reads as it did. -/
def journalAgainSpec : ChangeSpec := { name := "journalAgain", fn := fun _ => fun
  | [d1, d2] => { results := [.lit (.bool true)], args := [d1, d2] }
  | _ => none }
def journalAgainRow : OpenClaim := { program := "ytpadgkkeihhneaagreat", sum := "1edb3848b1c75fd5c0e2168cd9d7f2b1817a72d4658cde3bea4b3dce76d0ad13", func := "exodus/exoduslaw33.JournalAgain", spec := "journalAgain", inPlace := ["internal/bytealg.Count", "internal/bytealg.IndexByte", "internal/bytealg.Index"], unfollowed := true, recurses := true, named := ["internal/bytealg.MaxLen"], apart := false }
def JournalAgainSaid : Prop := journalAgainRow.holds Tryz.pinned (OpenSpec.ofChange journalAgainSpec)

/-- ITS FALSE NEIGHBOUR: 'it returns false'. Refute it at one input. -/
def journalAgainWrong : ChangeSpec := { name := "journalAgain", fn := fun _ => fun
  | [d1, d2] => { results := [.lit (.bool false)], args := [d1, d2] }
  | _ => none }
def JournalAgainWrongFalsely : Prop := journalAgainRow.holds Tryz.pinned (OpenSpec.ofChange journalAgainWrong)

/- THE SECOND FORM. 'bulk': how many values and letters a reading holds, each counted each time it is reached (what is shared counts as often as it is met; a slice's spare places count too). A statement '..UptoSaid' is the law's where the arguments, and the package variables that the reading takes, are together of bulk at most 1048576: NARROWER than '..Said'. Prove '..Said' where nothing that the law and all that it calls make is longer than what came in: it says more and counts as full. Else prove '..UptoSaid'. A law counts once. -/
mutual
def uptoBulk {H : Type} : DataW H → Nat
  | .lit (.string bytes) => bytes.length + 1
  | .lit _ => 1
  | .nil => 1
  | .ptr d => uptoBulk d + 1
  | .slice elems spare => uptoBulkAll elems + uptoBulkAll spare + 1
  | .agg parts => uptoBulkAll parts + 1
  | .iface _ d => uptoBulk d + 1
  | .map entries => uptoBulkEntries entries + 1
  | .held _ => 1
def uptoBulkAll {H : Type} : List (DataW H) → Nat
  | [] => 0
  | d :: r => uptoBulk d + uptoBulkAll r
def uptoBulkEntries {H : Type} : List (Lit × DataW H) → Nat
  | [] => 0
  | x :: r => uptoBulkEntry x + uptoBulkEntries r
def uptoBulkEntry {H : Type} : Lit × DataW H → Nat
  | (.string bytes, d) => bytes.length + uptoBulk d + 1
  | (_, d) => uptoBulk d + 1
 end
def uptoSmall : (H : Type) → List (DataW H) → Bool := fun _ ds => decide (uptoBulkAll ds ≤ 1048576)
def OpenSpec.upto (s : _root_.Go.ChangeSpec) : _root_.Go.OpenSpec := { _root_.Go.OpenSpec.ofChange s with cond := some uptoSmall }

/-- 'exoduslaw33.JournalDisks', WHERE WHAT IT READS IS OF BULK AT MOST 1048576: true; the input reads as it did. -/
def journalDisksUptoRow : OpenClaim := { program := "ytpadgkkeihhneaagreat", sum := "1edb3848b1c75fd5c0e2168cd9d7f2b1817a72d4658cde3bea4b3dce76d0ad13", func := "exodus/exoduslaw33.JournalDisks", spec := "journalDisks", inPlace := ["internal/bytealg.Count", "internal/bytealg.IndexByte", "internal/bytealg.Index"], unfollowed := true, recurses := true, named := ["internal/bytealg.MaxLen"], apart := false, narrowed := true }
def JournalDisksUptoSaid : Prop := journalDisksUptoRow.holds Tryz.pinned (OpenSpec.upto journalDisksSpec)

/-- 'exoduslaw33.JournalCalls', WHERE WHAT IT READS IS OF BULK AT MOST 1048576: true; the input reads as it did. -/
def journalCallsUptoRow : OpenClaim := { program := "ytpadgkkeihhneaagreat", sum := "1edb3848b1c75fd5c0e2168cd9d7f2b1817a72d4658cde3bea4b3dce76d0ad13", func := "exodus/exoduslaw33.JournalCalls", spec := "journalCalls", inPlace := ["internal/bytealg.Count", "internal/bytealg.IndexByte", "internal/bytealg.Index"], unfollowed := true, recurses := true, named := ["internal/bytealg.MaxLen"], apart := false, narrowed := true }
def JournalCallsUptoSaid : Prop := journalCallsUptoRow.holds Tryz.pinned (OpenSpec.upto journalCallsSpec)

/-- 'exoduslaw33.JournalCrashes', WHERE WHAT IT READS IS OF BULK AT MOST 1048576: true; the input reads as it did. -/
def journalCrashesUptoRow : OpenClaim := { program := "ytpadgkkeihhneaagreat", sum := "1edb3848b1c75fd5c0e2168cd9d7f2b1817a72d4658cde3bea4b3dce76d0ad13", func := "exodus/exoduslaw33.JournalCrashes", spec := "journalCrashes", inPlace := ["internal/bytealg.Count", "internal/bytealg.IndexByte", "internal/bytealg.Index"], unfollowed := true, recurses := true, named := ["internal/bytealg.MaxLen"], apart := false, narrowed := true }
def JournalCrashesUptoSaid : Prop := journalCrashesUptoRow.holds Tryz.pinned (OpenSpec.upto journalCrashesSpec)

/-- 'exoduslaw33.JournalAgain', WHERE WHAT IT READS IS OF BULK AT MOST 1048576: true; the input reads as it did. -/
def journalAgainUptoRow : OpenClaim := { program := "ytpadgkkeihhneaagreat", sum := "1edb3848b1c75fd5c0e2168cd9d7f2b1817a72d4658cde3bea4b3dce76d0ad13", func := "exodus/exoduslaw33.JournalAgain", spec := "journalAgain", inPlace := ["internal/bytealg.Count", "internal/bytealg.IndexByte", "internal/bytealg.Index"], unfollowed := true, recurses := true, named := ["internal/bytealg.MaxLen"], apart := false, narrowed := true }
def JournalAgainUptoSaid : Prop := journalAgainUptoRow.holds Tryz.pinned (OpenSpec.upto journalAgainSpec)

end Rows
end Go.Proofs.YtpadgkkeihhneaaGreat
