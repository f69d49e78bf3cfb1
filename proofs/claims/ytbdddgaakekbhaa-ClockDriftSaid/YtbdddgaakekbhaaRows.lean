/-
  No cell of these rows narrows 'for every input' (looked for: loops, veiled, ifaces, maps, wideKeys, modest, calm, conditions, laid).
  DERIVED. THE GIVEN ROWS OF THIS SEAT. 7 by the template 'for every input the law returns true; each argument reads behind the call as it read before'; 0 by the template 'total and deterministic' (their statements: YtbdddgaakekbhaaTotals.lean).
  GIVEN WITH THE SEED: the statements are not yours to turn. If you find one false, say at which input.
  Laid BY PROGRAM, IN A SANDBOX (cutbox-rows.mjs): the forced cells as the released guide's own fill.sh prints them over the translation 081b7cfb89b23463… (all of the seat's roots in one cut). By AI agents, Wed Nov 11 2026. No macro, syntax, notation, axiom, sorry.
-/
import Derived.Test.YtbdddgaakekbhaaChecked
import GoSem.Claim
import GoSem.ClaimJoined
import GoSem.ClaimMapViews
import Derived.JoinedTies
import Derived.KernelRfl
namespace Go.Proofs.Ytbdddgaakekbhaa
/- THE CELL 'sum', in the pinned program and in every row, IS THE sha256 OF THE DUMP (.gsa) THAT YtbdddgaakekbhaaProg.lean LOADS. Nothing in Lean hashes anything: it is a label: what it is worth is what the hold of that sum in a sandbox is worth. -/
noncomputable def Try.pinned : Pinned := { name := "ytbdddgaakekbhaa", sum := "081b7cfb89b23463e732bb7598bc8235e6dac0f39479e6f307ccede0f2877f14", checked := Try.checked }
namespace Rows
def none {H : Type} : Left H := { results := [], args := [] }

/-- 'exoduslaw43.ClockReads': WHATEVER THE INPUT: true; the input reads as it did. -/
def clockReadsSpec : ChangeSpec := { name := "clockReads", fn := fun _ => fun
  | [d1, d2] => { results := [.lit (.bool true)], args := [d1, d2] }
  | _ => none }
def clockReadsRow : OpenClaim := { program := "ytbdddgaakekbhaa", sum := "081b7cfb89b23463e732bb7598bc8235e6dac0f39479e6f307ccede0f2877f14", func := "exodus/exoduslaw43.ClockReads", spec := "clockReads", unfollowed := true, recurses := true, apart := false }
def ClockReadsSaid : Prop := clockReadsRow.holds Try.pinned (OpenSpec.ofChange clockReadsSpec)

/-- ITS FALSE NEIGHBOUR: 'it returns false'. Refute it at one input. -/
def clockReadsWrong : ChangeSpec := { name := "clockReads", fn := fun _ => fun
  | [d1, d2] => { results := [.lit (.bool false)], args := [d1, d2] }
  | _ => none }
def ClockReadsWrongFalsely : Prop := clockReadsRow.holds Try.pinned (OpenSpec.ofChange clockReadsWrong)

/-- 'exoduslaw43.ClockBounds': WHATEVER THE INPUT: true; the input reads as it did. -/
def clockBoundsSpec : ChangeSpec := { name := "clockBounds", fn := fun _ => fun
  | [d] => { results := [.lit (.bool true)], args := [d] }
  | _ => none }
def clockBoundsRow : OpenClaim := { program := "ytbdddgaakekbhaa", sum := "081b7cfb89b23463e732bb7598bc8235e6dac0f39479e6f307ccede0f2877f14", func := "exodus/exoduslaw43.ClockBounds", spec := "clockBounds", unfollowed := true, recurses := true, apart := false }
def ClockBoundsSaid : Prop := clockBoundsRow.holds Try.pinned (OpenSpec.ofChange clockBoundsSpec)

/-- ITS FALSE NEIGHBOUR: 'it returns false'. Refute it at one input. -/
def clockBoundsWrong : ChangeSpec := { name := "clockBounds", fn := fun _ => fun
  | [d] => { results := [.lit (.bool false)], args := [d] }
  | _ => none }
def ClockBoundsWrongFalsely : Prop := clockBoundsRow.holds Try.pinned (OpenSpec.ofChange clockBoundsWrong)

/-- 'exoduslaw43.ClockTrue': WHATEVER THE INPUT: true; the input reads as it did. -/
def clockTrueSpec : ChangeSpec := { name := "clockTrue", fn := fun _ => fun
  | [d1, d2] => { results := [.lit (.bool true)], args := [d1, d2] }
  | _ => none }
def clockTrueRow : OpenClaim := { program := "ytbdddgaakekbhaa", sum := "081b7cfb89b23463e732bb7598bc8235e6dac0f39479e6f307ccede0f2877f14", func := "exodus/exoduslaw43.ClockTrue", spec := "clockTrue", unfollowed := true, recurses := true, apart := false }
def ClockTrueSaid : Prop := clockTrueRow.holds Try.pinned (OpenSpec.ofChange clockTrueSpec)

/-- ITS FALSE NEIGHBOUR: 'it returns false'. Refute it at one input. -/
def clockTrueWrong : ChangeSpec := { name := "clockTrue", fn := fun _ => fun
  | [d1, d2] => { results := [.lit (.bool false)], args := [d1, d2] }
  | _ => none }
def ClockTrueWrongFalsely : Prop := clockTrueRow.holds Try.pinned (OpenSpec.ofChange clockTrueWrong)

/-- 'exoduslaw43.ClockDrift': WHATEVER THE INPUT: true; the input reads as it did. -/
def clockDriftSpec : ChangeSpec := { name := "clockDrift", fn := fun _ => fun
  | [d1, d2, d3, d4] => { results := [.lit (.bool true)], args := [d1, d2, d3, d4] }
  | _ => none }
def clockDriftRow : OpenClaim := { program := "ytbdddgaakekbhaa", sum := "081b7cfb89b23463e732bb7598bc8235e6dac0f39479e6f307ccede0f2877f14", func := "exodus/exoduslaw43.ClockDrift", spec := "clockDrift", unfollowed := true, recurses := true, apart := false }
def ClockDriftSaid : Prop := clockDriftRow.holds Try.pinned (OpenSpec.ofChange clockDriftSpec)

/-- ITS FALSE NEIGHBOUR: 'it returns false'. Refute it at one input. -/
def clockDriftWrong : ChangeSpec := { name := "clockDrift", fn := fun _ => fun
  | [d1, d2, d3, d4] => { results := [.lit (.bool false)], args := [d1, d2, d3, d4] }
  | _ => none }
def ClockDriftWrongFalsely : Prop := clockDriftRow.holds Try.pinned (OpenSpec.ofChange clockDriftWrong)

/-- 'exoduslaw43.ClockParts': WHATEVER THE INPUT: true; the input reads as it did. -/
def clockPartsSpec : ChangeSpec := { name := "clockParts", fn := fun _ => fun
  | [d1, d2, d3, d4] => { results := [.lit (.bool true)], args := [d1, d2, d3, d4] }
  | _ => none }
def clockPartsRow : OpenClaim := { program := "ytbdddgaakekbhaa", sum := "081b7cfb89b23463e732bb7598bc8235e6dac0f39479e6f307ccede0f2877f14", func := "exodus/exoduslaw43.ClockParts", spec := "clockParts", unfollowed := true, recurses := true, apart := false }
def ClockPartsSaid : Prop := clockPartsRow.holds Try.pinned (OpenSpec.ofChange clockPartsSpec)

/-- ITS FALSE NEIGHBOUR: 'it returns false'. Refute it at one input. -/
def clockPartsWrong : ChangeSpec := { name := "clockParts", fn := fun _ => fun
  | [d1, d2, d3, d4] => { results := [.lit (.bool false)], args := [d1, d2, d3, d4] }
  | _ => none }
def ClockPartsWrongFalsely : Prop := clockPartsRow.holds Try.pinned (OpenSpec.ofChange clockPartsWrong)

/-- 'exoduslaw43.ClockOrder': WHATEVER THE INPUT: true; the input reads as it did. -/
def clockOrderSpec : ChangeSpec := { name := "clockOrder", fn := fun _ => fun
  | [d1, d2] => { results := [.lit (.bool true)], args := [d1, d2] }
  | _ => none }
def clockOrderRow : OpenClaim := { program := "ytbdddgaakekbhaa", sum := "081b7cfb89b23463e732bb7598bc8235e6dac0f39479e6f307ccede0f2877f14", func := "exodus/exoduslaw43.ClockOrder", spec := "clockOrder", unfollowed := true, recurses := true, apart := false }
def ClockOrderSaid : Prop := clockOrderRow.holds Try.pinned (OpenSpec.ofChange clockOrderSpec)

/-- ITS FALSE NEIGHBOUR: 'it returns false'. Refute it at one input. -/
def clockOrderWrong : ChangeSpec := { name := "clockOrder", fn := fun _ => fun
  | [d1, d2] => { results := [.lit (.bool false)], args := [d1, d2] }
  | _ => none }
def ClockOrderWrongFalsely : Prop := clockOrderRow.holds Try.pinned (OpenSpec.ofChange clockOrderWrong)

/-- 'exoduslaw43.ClockTight': WHATEVER THE INPUT: true; the input reads as it did. -/
def clockTightSpec : ChangeSpec := { name := "clockTight", fn := fun _ => fun
  | [d] => { results := [.lit (.bool true)], args := [d] }
  | _ => none }
def clockTightRow : OpenClaim := { program := "ytbdddgaakekbhaa", sum := "081b7cfb89b23463e732bb7598bc8235e6dac0f39479e6f307ccede0f2877f14", func := "exodus/exoduslaw43.ClockTight", spec := "clockTight", unfollowed := true, recurses := true, apart := false }
def ClockTightSaid : Prop := clockTightRow.holds Try.pinned (OpenSpec.ofChange clockTightSpec)

/-- ITS FALSE NEIGHBOUR: 'it returns false'. Refute it at one input. -/
def clockTightWrong : ChangeSpec := { name := "clockTight", fn := fun _ => fun
  | [d] => { results := [.lit (.bool false)], args := [d] }
  | _ => none }
def ClockTightWrongFalsely : Prop := clockTightRow.holds Try.pinned (OpenSpec.ofChange clockTightWrong)

/- THE SECOND FORM. 'bulk': how many values and letters a reading holds, each counted each time it is reached (what is shared counts as often as it is met; a slice's spare places count too). A statement '..UptoSaid' is the law's where the arguments, and the package variables that the reading takes, are together of bulk at most 1048576: NARROWER than '..Said'. Prove '..Said' where nothing that the law and all that it calls make is longer than what came in: it says more and counts as full. Else prove '..UptoSaid'. A law counts once. -/
mutual
def uptoBulk {H : Type} : DataW H → Nat
  | .lit (.string bytes) => bytes.length + 1
  | .lit _ => 1
  | .nil => 1
  | .ptr d => uptoBulk d + 1
  | .slice elems spare => uptoBulkAll elems + uptoBulkAll spare + 1
  | .agg parts => uptoBulkAll parts + 1
  | .iface _ d => uptoBulk d + 1
  | .map entries => uptoBulkEntries entries + 1
  | .held _ => 1
def uptoBulkAll {H : Type} : List (DataW H) → Nat
  | [] => 0
  | d :: r => uptoBulk d + uptoBulkAll r
def uptoBulkEntries {H : Type} : List (Lit × DataW H) → Nat
  | [] => 0
  | x :: r => uptoBulkEntry x + uptoBulkEntries r
def uptoBulkEntry {H : Type} : Lit × DataW H → Nat
  | (.string bytes, d) => bytes.length + uptoBulk d + 1
  | (_, d) => uptoBulk d + 1
 end
def uptoSmall : (H : Type) → List (DataW H) → Bool := fun _ ds => decide (uptoBulkAll ds ≤ 1048576)
def OpenSpec.upto (s : _root_.Go.ChangeSpec) : _root_.Go.OpenSpec := { _root_.Go.OpenSpec.ofChange s with cond := some uptoSmall }

/-- 'exoduslaw43.ClockReads', WHERE WHAT IT READS IS OF BULK AT MOST 1048576: true; the input reads as it did. -/
def clockReadsUptoRow : OpenClaim := { program := "ytbdddgaakekbhaa", sum := "081b7cfb89b23463e732bb7598bc8235e6dac0f39479e6f307ccede0f2877f14", func := "exodus/exoduslaw43.ClockReads", spec := "clockReads", unfollowed := true, recurses := true, apart := false, narrowed := true }
def ClockReadsUptoSaid : Prop := clockReadsUptoRow.holds Try.pinned (OpenSpec.upto clockReadsSpec)

/-- 'exoduslaw43.ClockBounds', WHERE WHAT IT READS IS OF BULK AT MOST 1048576: true; the input reads as it did. -/
def clockBoundsUptoRow : OpenClaim := { program := "ytbdddgaakekbhaa", sum := "081b7cfb89b23463e732bb7598bc8235e6dac0f39479e6f307ccede0f2877f14", func := "exodus/exoduslaw43.ClockBounds", spec := "clockBounds", unfollowed := true, recurses := true, apart := false, narrowed := true }
def ClockBoundsUptoSaid : Prop := clockBoundsUptoRow.holds Try.pinned (OpenSpec.upto clockBoundsSpec)

/-- 'exoduslaw43.ClockTrue', WHERE WHAT IT READS IS OF BULK AT MOST 1048576: true; the input reads as it did. -/
def clockTrueUptoRow : OpenClaim := { program := "ytbdddgaakekbhaa", sum := "081b7cfb89b23463e732bb7598bc8235e6dac0f39479e6f307ccede0f2877f14", func := "exodus/exoduslaw43.ClockTrue", spec := "clockTrue", unfollowed := true, recurses := true, apart := false, narrowed := true }
def ClockTrueUptoSaid : Prop := clockTrueUptoRow.holds Try.pinned (OpenSpec.upto clockTrueSpec)

/-- 'exoduslaw43.ClockDrift', WHERE WHAT IT READS IS OF BULK AT MOST 1048576: true; the input reads as it did. -/
def clockDriftUptoRow : OpenClaim := { program := "ytbdddgaakekbhaa", sum := "081b7cfb89b23463e732bb7598bc8235e6dac0f39479e6f307ccede0f2877f14", func := "exodus/exoduslaw43.ClockDrift", spec := "clockDrift", unfollowed := true, recurses := true, apart := false, narrowed := true }
def ClockDriftUptoSaid : Prop := clockDriftUptoRow.holds Try.pinned (OpenSpec.upto clockDriftSpec)

/-- 'exoduslaw43.ClockParts', WHERE WHAT IT READS IS OF BULK AT MOST 1048576: true; the input reads as it did. -/
def clockPartsUptoRow : OpenClaim := { program := "ytbdddgaakekbhaa", sum := "081b7cfb89b23463e732bb7598bc8235e6dac0f39479e6f307ccede0f2877f14", func := "exodus/exoduslaw43.ClockParts", spec := "clockParts", unfollowed := true, recurses := true, apart := false, narrowed := true }
def ClockPartsUptoSaid : Prop := clockPartsUptoRow.holds Try.pinned (OpenSpec.upto clockPartsSpec)

/-- 'exoduslaw43.ClockOrder', WHERE WHAT IT READS IS OF BULK AT MOST 1048576: true; the input reads as it did. -/
def clockOrderUptoRow : OpenClaim := { program := "ytbdddgaakekbhaa", sum := "081b7cfb89b23463e732bb7598bc8235e6dac0f39479e6f307ccede0f2877f14", func := "exodus/exoduslaw43.ClockOrder", spec := "clockOrder", unfollowed := true, recurses := true, apart := false, narrowed := true }
def ClockOrderUptoSaid : Prop := clockOrderUptoRow.holds Try.pinned (OpenSpec.upto clockOrderSpec)

/-- 'exoduslaw43.ClockTight', WHERE WHAT IT READS IS OF BULK AT MOST 1048576: true; the input reads as it did. -/
def clockTightUptoRow : OpenClaim := { program := "ytbdddgaakekbhaa", sum := "081b7cfb89b23463e732bb7598bc8235e6dac0f39479e6f307ccede0f2877f14", func := "exodus/exoduslaw43.ClockTight", spec := "clockTight", unfollowed := true, recurses := true, apart := false, narrowed := true }
def ClockTightUptoSaid : Prop := clockTightUptoRow.holds Try.pinned (OpenSpec.upto clockTightSpec)

end Rows
end Go.Proofs.Ytbdddgaakekbhaa
