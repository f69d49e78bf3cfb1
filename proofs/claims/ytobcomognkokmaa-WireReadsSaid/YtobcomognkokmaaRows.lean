/-
  No cell of these rows narrows 'for every input' (looked for: loops, veiled, ifaces, maps, wideKeys, modest, calm, conditions, laid).
  DERIVED. THE GIVEN ROWS OF THIS SEAT. 7 by the template 'for every input the law returns true; each argument reads behind the call as it read before'; 0 by the template 'total and deterministic' (their statements: YtobcomognkokmaaTotals.lean).
  GIVEN WITH THE SEED: the statements are not yours to turn. If you find one false, say at which input.
  Laid BY PROGRAM, IN A SANDBOX (cutbox-rows.mjs): the forced cells as the released guide's own fill.sh prints them over the translation 158aaf7c97936a57… (all of the seat's roots in one cut). By AI agents, Wed Nov 11 2026. No macro, syntax, notation, axiom, sorry.
-/
import Derived.Test.YtobcomognkokmaaChecked
import GoSem.Claim
import GoSem.ClaimJoined
import GoSem.ClaimMapViews
import Derived.JoinedTies
import Derived.KernelRfl
namespace Go.Proofs.Ytobcomognkokmaa
/- THE CELL 'sum', in the pinned program and in every row, IS THE sha256 OF THE DUMP (.gsa) THAT YtobcomognkokmaaProg.lean LOADS. Nothing in Lean hashes anything: it is a label: what it is worth is what the hold of that sum in a sandbox is worth. -/
noncomputable def Try.pinned : Pinned := { name := "ytobcomognkokmaa", sum := "158aaf7c97936a5767c3fcba2a21ab833cdd28b5c6989219a448db16d1ff4616", checked := Try.checked }
namespace Rows
def none {H : Type} : Left H := { results := [], args := [] }

/-- 'exoduslaw30.WireAppends': WHATEVER THE INPUT: true; the input reads as it did. -/
def wireAppendsSpec : ChangeSpec := { name := "wireAppends", fn := fun _ => fun
  | [d1, d2, d3, d4, d5] => { results := [.lit (.bool true)], args := [d1, d2, d3, d4, d5] }
  | _ => none }
def wireAppendsRow : OpenClaim := { program := "ytobcomognkokmaa", sum := "158aaf7c97936a5767c3fcba2a21ab833cdd28b5c6989219a448db16d1ff4616", func := "exodus/exoduslaw30.WireAppends", spec := "wireAppends", unfollowed := true, recurses := true, apart := false }
def WireAppendsSaid : Prop := wireAppendsRow.holds Try.pinned (OpenSpec.ofChange wireAppendsSpec)

/-- ITS FALSE NEIGHBOUR: 'it returns false'. Refute it at one input. -/
def wireAppendsWrong : ChangeSpec := { name := "wireAppends", fn := fun _ => fun
  | [d1, d2, d3, d4, d5] => { results := [.lit (.bool false)], args := [d1, d2, d3, d4, d5] }
  | _ => none }
def WireAppendsWrongFalsely : Prop := wireAppendsRow.holds Try.pinned (OpenSpec.ofChange wireAppendsWrong)

/-- 'exoduslaw30.WireDiffers': WHATEVER THE INPUT: true; the input reads as it did. -/
def wireDiffersSpec : ChangeSpec := { name := "wireDiffers", fn := fun _ => fun
  | [d1, d2, d3, d4, d5, d6] => { results := [.lit (.bool true)], args := [d1, d2, d3, d4, d5, d6] }
  | _ => none }
def wireDiffersRow : OpenClaim := { program := "ytobcomognkokmaa", sum := "158aaf7c97936a5767c3fcba2a21ab833cdd28b5c6989219a448db16d1ff4616", func := "exodus/exoduslaw30.WireDiffers", spec := "wireDiffers", unfollowed := true, recurses := true, apart := false }
def WireDiffersSaid : Prop := wireDiffersRow.holds Try.pinned (OpenSpec.ofChange wireDiffersSpec)

/-- ITS FALSE NEIGHBOUR: 'it returns false'. Refute it at one input. -/
def wireDiffersWrong : ChangeSpec := { name := "wireDiffers", fn := fun _ => fun
  | [d1, d2, d3, d4, d5, d6] => { results := [.lit (.bool false)], args := [d1, d2, d3, d4, d5, d6] }
  | _ => none }
def WireDiffersWrongFalsely : Prop := wireDiffersRow.holds Try.pinned (OpenSpec.ofChange wireDiffersWrong)

/-- 'exoduslaw30.WireCounts': WHATEVER THE INPUT: true; the input reads as it did. -/
def wireCountsSpec : ChangeSpec := { name := "wireCounts", fn := fun _ => fun
  | [d1, d2] => { results := [.lit (.bool true)], args := [d1, d2] }
  | _ => none }
def wireCountsRow : OpenClaim := { program := "ytobcomognkokmaa", sum := "158aaf7c97936a5767c3fcba2a21ab833cdd28b5c6989219a448db16d1ff4616", func := "exodus/exoduslaw30.WireCounts", spec := "wireCounts", unfollowed := true, recurses := true, apart := false }
def WireCountsSaid : Prop := wireCountsRow.holds Try.pinned (OpenSpec.ofChange wireCountsSpec)

/-- ITS FALSE NEIGHBOUR: 'it returns false'. Refute it at one input. -/
def wireCountsWrong : ChangeSpec := { name := "wireCounts", fn := fun _ => fun
  | [d1, d2] => { results := [.lit (.bool false)], args := [d1, d2] }
  | _ => none }
def WireCountsWrongFalsely : Prop := wireCountsRow.holds Try.pinned (OpenSpec.ofChange wireCountsWrong)

/-- 'exoduslaw30.WireOnly': WHATEVER THE INPUT: true; the input reads as it did. -/
def wireOnlySpec : ChangeSpec := { name := "wireOnly", fn := fun _ => fun
  | [d] => { results := [.lit (.bool true)], args := [d] }
  | _ => none }
def wireOnlyRow : OpenClaim := { program := "ytobcomognkokmaa", sum := "158aaf7c97936a5767c3fcba2a21ab833cdd28b5c6989219a448db16d1ff4616", func := "exodus/exoduslaw30.WireOnly", spec := "wireOnly", unfollowed := true, recurses := true, apart := false }
def WireOnlySaid : Prop := wireOnlyRow.holds Try.pinned (OpenSpec.ofChange wireOnlySpec)

/-- ITS FALSE NEIGHBOUR: 'it returns false'. Refute it at one input. -/
def wireOnlyWrong : ChangeSpec := { name := "wireOnly", fn := fun _ => fun
  | [d] => { results := [.lit (.bool false)], args := [d] }
  | _ => none }
def WireOnlyWrongFalsely : Prop := wireOnlyRow.holds Try.pinned (OpenSpec.ofChange wireOnlyWrong)

/-- 'exoduslaw30.WireReads': WHATEVER THE INPUT: true; the input reads as it did. -/
def wireReadsSpec : ChangeSpec := { name := "wireReads", fn := fun _ => fun
  | [d1, d2, d3] => { results := [.lit (.bool true)], args := [d1, d2, d3] }
  | _ => none }
def wireReadsRow : OpenClaim := { program := "ytobcomognkokmaa", sum := "158aaf7c97936a5767c3fcba2a21ab833cdd28b5c6989219a448db16d1ff4616", func := "exodus/exoduslaw30.WireReads", spec := "wireReads", unfollowed := true, recurses := true, apart := false }
def WireReadsSaid : Prop := wireReadsRow.holds Try.pinned (OpenSpec.ofChange wireReadsSpec)

/-- ITS FALSE NEIGHBOUR: 'it returns false'. Refute it at one input. -/
def wireReadsWrong : ChangeSpec := { name := "wireReads", fn := fun _ => fun
  | [d1, d2, d3] => { results := [.lit (.bool false)], args := [d1, d2, d3] }
  | _ => none }
def WireReadsWrongFalsely : Prop := wireReadsRow.holds Try.pinned (OpenSpec.ofChange wireReadsWrong)

/-- 'exoduslaw30.WireInverts': WHATEVER THE INPUT: true; the input reads as it did. -/
def wireInvertsSpec : ChangeSpec := { name := "wireInverts", fn := fun _ => fun
  | [d1, d2, d3, d4] => { results := [.lit (.bool true)], args := [d1, d2, d3, d4] }
  | _ => none }
def wireInvertsRow : OpenClaim := { program := "ytobcomognkokmaa", sum := "158aaf7c97936a5767c3fcba2a21ab833cdd28b5c6989219a448db16d1ff4616", func := "exodus/exoduslaw30.WireInverts", spec := "wireInverts", unfollowed := true, recurses := true, apart := false }
def WireInvertsSaid : Prop := wireInvertsRow.holds Try.pinned (OpenSpec.ofChange wireInvertsSpec)

/-- ITS FALSE NEIGHBOUR: 'it returns false'. Refute it at one input. -/
def wireInvertsWrong : ChangeSpec := { name := "wireInverts", fn := fun _ => fun
  | [d1, d2, d3, d4] => { results := [.lit (.bool false)], args := [d1, d2, d3, d4] }
  | _ => none }
def WireInvertsWrongFalsely : Prop := wireInvertsRow.holds Try.pinned (OpenSpec.ofChange wireInvertsWrong)

/-- 'exoduslaw30.WireStops': WHATEVER THE INPUT: true; the input reads as it did. -/
def wireStopsSpec : ChangeSpec := { name := "wireStops", fn := fun _ => fun
  | [d1, d2] => { results := [.lit (.bool true)], args := [d1, d2] }
  | _ => none }
def wireStopsRow : OpenClaim := { program := "ytobcomognkokmaa", sum := "158aaf7c97936a5767c3fcba2a21ab833cdd28b5c6989219a448db16d1ff4616", func := "exodus/exoduslaw30.WireStops", spec := "wireStops", unfollowed := true, recurses := true, apart := false }
def WireStopsSaid : Prop := wireStopsRow.holds Try.pinned (OpenSpec.ofChange wireStopsSpec)

/-- ITS FALSE NEIGHBOUR: 'it returns false'. Refute it at one input. -/
def wireStopsWrong : ChangeSpec := { name := "wireStops", fn := fun _ => fun
  | [d1, d2] => { results := [.lit (.bool false)], args := [d1, d2] }
  | _ => none }
def WireStopsWrongFalsely : Prop := wireStopsRow.holds Try.pinned (OpenSpec.ofChange wireStopsWrong)

/- THE SECOND FORM. 'bulk': how many values and letters a reading holds, each counted each time it is reached (what is shared counts as often as it is met; a slice's spare places count too). A statement '..UptoSaid' is the law's where the arguments, and the package variables that the reading takes, are together of bulk at most 1048576: NARROWER than '..Said'. Prove '..Said' where nothing that the law and all that it calls make is longer than what came in: it says more and counts as full. Else prove '..UptoSaid'. A law counts once. -/
mutual
def uptoBulk {H : Type} : DataW H → Nat
  | .lit (.string bytes) => bytes.length + 1
  | .lit _ => 1
  | .nil => 1
  | .ptr d => uptoBulk d + 1
  | .slice elems spare => uptoBulkAll elems + uptoBulkAll spare + 1
  | .agg parts => uptoBulkAll parts + 1
  | .iface _ d => uptoBulk d + 1
  | .map entries => uptoBulkEntries entries + 1
  | .held _ => 1
def uptoBulkAll {H : Type} : List (DataW H) → Nat
  | [] => 0
  | d :: r => uptoBulk d + uptoBulkAll r
def uptoBulkEntries {H : Type} : List (Lit × DataW H) → Nat
  | [] => 0
  | x :: r => uptoBulkEntry x + uptoBulkEntries r
def uptoBulkEntry {H : Type} : Lit × DataW H → Nat
  | (.string bytes, d) => bytes.length + uptoBulk d + 1
  | (_, d) => uptoBulk d + 1
 end
def uptoSmall : (H : Type) → List (DataW H) → Bool := fun _ ds => decide (uptoBulkAll ds ≤ 1048576)
def OpenSpec.upto (s : _root_.Go.ChangeSpec) : _root_.Go.OpenSpec := { _root_.Go.OpenSpec.ofChange s with cond := some uptoSmall }

/-- 'exoduslaw30.WireAppends', WHERE WHAT IT READS IS OF BULK AT MOST 1048576: true; the input reads as it did. -/
def wireAppendsUptoRow : OpenClaim := { program := "ytobcomognkokmaa", sum := "158aaf7c97936a5767c3fcba2a21ab833cdd28b5c6989219a448db16d1ff4616", func := "exodus/exoduslaw30.WireAppends", spec := "wireAppends", unfollowed := true, recurses := true, apart := false, narrowed := true }
def WireAppendsUptoSaid : Prop := wireAppendsUptoRow.holds Try.pinned (OpenSpec.upto wireAppendsSpec)

/-- 'exoduslaw30.WireDiffers', WHERE WHAT IT READS IS OF BULK AT MOST 1048576: true; the input reads as it did. -/
def wireDiffersUptoRow : OpenClaim := { program := "ytobcomognkokmaa", sum := "158aaf7c97936a5767c3fcba2a21ab833cdd28b5c6989219a448db16d1ff4616", func := "exodus/exoduslaw30.WireDiffers", spec := "wireDiffers", unfollowed := true, recurses := true, apart := false, narrowed := true }
def WireDiffersUptoSaid : Prop := wireDiffersUptoRow.holds Try.pinned (OpenSpec.upto wireDiffersSpec)

/-- 'exoduslaw30.WireCounts', WHERE WHAT IT READS IS OF BULK AT MOST 1048576: true; the input reads as it did. -/
def wireCountsUptoRow : OpenClaim := { program := "ytobcomognkokmaa", sum := "158aaf7c97936a5767c3fcba2a21ab833cdd28b5c6989219a448db16d1ff4616", func := "exodus/exoduslaw30.WireCounts", spec := "wireCounts", unfollowed := true, recurses := true, apart := false, narrowed := true }
def WireCountsUptoSaid : Prop := wireCountsUptoRow.holds Try.pinned (OpenSpec.upto wireCountsSpec)

/-- 'exoduslaw30.WireOnly', WHERE WHAT IT READS IS OF BULK AT MOST 1048576: true; the input reads as it did. -/
def wireOnlyUptoRow : OpenClaim := { program := "ytobcomognkokmaa", sum := "158aaf7c97936a5767c3fcba2a21ab833cdd28b5c6989219a448db16d1ff4616", func := "exodus/exoduslaw30.WireOnly", spec := "wireOnly", unfollowed := true, recurses := true, apart := false, narrowed := true }
def WireOnlyUptoSaid : Prop := wireOnlyUptoRow.holds Try.pinned (OpenSpec.upto wireOnlySpec)

/-- 'exoduslaw30.WireReads', WHERE WHAT IT READS IS OF BULK AT MOST 1048576: true; the input reads as it did. -/
def wireReadsUptoRow : OpenClaim := { program := "ytobcomognkokmaa", sum := "158aaf7c97936a5767c3fcba2a21ab833cdd28b5c6989219a448db16d1ff4616", func := "exodus/exoduslaw30.WireReads", spec := "wireReads", unfollowed := true, recurses := true, apart := false, narrowed := true }
def WireReadsUptoSaid : Prop := wireReadsUptoRow.holds Try.pinned (OpenSpec.upto wireReadsSpec)

/-- 'exoduslaw30.WireInverts', WHERE WHAT IT READS IS OF BULK AT MOST 1048576: true; the input reads as it did. -/
def wireInvertsUptoRow : OpenClaim := { program := "ytobcomognkokmaa", sum := "158aaf7c97936a5767c3fcba2a21ab833cdd28b5c6989219a448db16d1ff4616", func := "exodus/exoduslaw30.WireInverts", spec := "wireInverts", unfollowed := true, recurses := true, apart := false, narrowed := true }
def WireInvertsUptoSaid : Prop := wireInvertsUptoRow.holds Try.pinned (OpenSpec.upto wireInvertsSpec)

/-- 'exoduslaw30.WireStops', WHERE WHAT IT READS IS OF BULK AT MOST 1048576: true; the input reads as it did. -/
def wireStopsUptoRow : OpenClaim := { program := "ytobcomognkokmaa", sum := "158aaf7c97936a5767c3fcba2a21ab833cdd28b5c6989219a448db16d1ff4616", func := "exodus/exoduslaw30.WireStops", spec := "wireStops", unfollowed := true, recurses := true, apart := false, narrowed := true }
def WireStopsUptoSaid : Prop := wireStopsUptoRow.holds Try.pinned (OpenSpec.upto wireStopsSpec)

end Rows
end Go.Proofs.Ytobcomognkokmaa
