/-
  No cell of these rows narrows 'for every input' (looked for: loops, veiled, ifaces, maps, wideKeys, modest, calm, conditions, laid).
  DERIVED. THE GIVEN ROWS OF THIS SEAT. 6 by the template 'for every input the law returns true; each argument reads behind the call as it read before'; 0 by the template 'total and deterministic' (their statements: YtmnebingmedloaaTotals.lean).
  GIVEN WITH THE SEED: the statements are not yours to turn. If you find one false, say at which input.
  Laid BY PROGRAM, IN A SANDBOX (cutbox-rows.mjs): the forced cells as the released guide's own fill.sh prints them over the translation c6422ccd5516a2f9… (all of the seat's roots in one cut). By AI agents, Wed Nov 11 2026. No macro, syntax, notation, axiom, sorry.
-/
import Derived.Test.YtmnebingmedloaaChecked
import GoSem.Claim
import GoSem.ClaimJoined
import GoSem.ClaimMapViews
import Derived.JoinedTies
import Derived.KernelRfl
namespace Go.Proofs.Ytmnebingmedloaa
/- THE CELL 'sum', in the pinned program and in every row, IS THE sha256 OF THE DUMP (.gsa) THAT YtmnebingmedloaaProg.lean LOADS. Nothing in Lean hashes anything: it is a label: what it is worth is what the hold of that sum in a sandbox is worth. -/
noncomputable def Try.pinned : Pinned := { name := "ytmnebingmedloaa", sum := "c6422ccd5516a2f962ab069dadcac5d7a31aedfce838b42e6b02ba57a08531ec", checked := Try.checked }
namespace Rows
def none {H : Type} : Left H := { results := [], args := [] }

/-- 'exoduslaw32.ChecksumSums': WHATEVER THE INPUT: true; the input reads as it did. -/
def checksumSumsSpec : ChangeSpec := { name := "checksumSums", fn := fun _ => fun
  | [d1, d2] => { results := [.lit (.bool true)], args := [d1, d2] }
  | _ => none }
def checksumSumsRow : OpenClaim := { program := "ytmnebingmedloaa", sum := "c6422ccd5516a2f962ab069dadcac5d7a31aedfce838b42e6b02ba57a08531ec", func := "exodus/exoduslaw32.ChecksumSums", spec := "checksumSums", apart := false }
def ChecksumSumsSaid : Prop := checksumSumsRow.holds Try.pinned (OpenSpec.ofChange checksumSumsSpec)

/-- ITS FALSE NEIGHBOUR: 'it returns false'. Refute it at one input. -/
def checksumSumsWrong : ChangeSpec := { name := "checksumSums", fn := fun _ => fun
  | [d1, d2] => { results := [.lit (.bool false)], args := [d1, d2] }
  | _ => none }
def ChecksumSumsWrongFalsely : Prop := checksumSumsRow.holds Try.pinned (OpenSpec.ofChange checksumSumsWrong)

/-- 'exoduslaw32.ChecksumLinear': WHATEVER THE INPUT: true; the input reads as it did. -/
def checksumLinearSpec : ChangeSpec := { name := "checksumLinear", fn := fun _ => fun
  | [d1, d2] => { results := [.lit (.bool true)], args := [d1, d2] }
  | _ => none }
def checksumLinearRow : OpenClaim := { program := "ytmnebingmedloaa", sum := "c6422ccd5516a2f962ab069dadcac5d7a31aedfce838b42e6b02ba57a08531ec", func := "exodus/exoduslaw32.ChecksumLinear", spec := "checksumLinear", apart := false }
def ChecksumLinearSaid : Prop := checksumLinearRow.holds Try.pinned (OpenSpec.ofChange checksumLinearSpec)

/-- ITS FALSE NEIGHBOUR: 'it returns false'. Refute it at one input. -/
def checksumLinearWrong : ChangeSpec := { name := "checksumLinear", fn := fun _ => fun
  | [d1, d2] => { results := [.lit (.bool false)], args := [d1, d2] }
  | _ => none }
def ChecksumLinearWrongFalsely : Prop := checksumLinearRow.holds Try.pinned (OpenSpec.ofChange checksumLinearWrong)

/-- 'exoduslaw32.ChecksumBursts': WHATEVER THE INPUT: true; the input reads as it did. -/
def checksumBurstsSpec : ChangeSpec := { name := "checksumBursts", fn := fun _ => fun
  | [d1, d2, d3] => { results := [.lit (.bool true)], args := [d1, d2, d3] }
  | _ => none }
def checksumBurstsRow : OpenClaim := { program := "ytmnebingmedloaa", sum := "c6422ccd5516a2f962ab069dadcac5d7a31aedfce838b42e6b02ba57a08531ec", func := "exodus/exoduslaw32.ChecksumBursts", spec := "checksumBursts", apart := false }
def ChecksumBurstsSaid : Prop := checksumBurstsRow.holds Try.pinned (OpenSpec.ofChange checksumBurstsSpec)

/-- ITS FALSE NEIGHBOUR: 'it returns false'. Refute it at one input. -/
def checksumBurstsWrong : ChangeSpec := { name := "checksumBursts", fn := fun _ => fun
  | [d1, d2, d3] => { results := [.lit (.bool false)], args := [d1, d2, d3] }
  | _ => none }
def ChecksumBurstsWrongFalsely : Prop := checksumBurstsRow.holds Try.pinned (OpenSpec.ofChange checksumBurstsWrong)

/-- 'exoduslaw32.ChecksumSeals': WHATEVER THE INPUT: true; the input reads as it did. -/
def checksumSealsSpec : ChangeSpec := { name := "checksumSeals", fn := fun _ => fun
  | [d1, d2] => { results := [.lit (.bool true)], args := [d1, d2] }
  | _ => none }
def checksumSealsRow : OpenClaim := { program := "ytmnebingmedloaa", sum := "c6422ccd5516a2f962ab069dadcac5d7a31aedfce838b42e6b02ba57a08531ec", func := "exodus/exoduslaw32.ChecksumSeals", spec := "checksumSeals", apart := false }
def ChecksumSealsSaid : Prop := checksumSealsRow.holds Try.pinned (OpenSpec.ofChange checksumSealsSpec)

/-- ITS FALSE NEIGHBOUR: 'it returns false'. Refute it at one input. -/
def checksumSealsWrong : ChangeSpec := { name := "checksumSeals", fn := fun _ => fun
  | [d1, d2] => { results := [.lit (.bool false)], args := [d1, d2] }
  | _ => none }
def ChecksumSealsWrongFalsely : Prop := checksumSealsRow.holds Try.pinned (OpenSpec.ofChange checksumSealsWrong)

/-- 'exoduslaw32.ChecksumMemory': WHATEVER THE INPUT: true; the input reads as it did. -/
def checksumMemorySpec : ChangeSpec := { name := "checksumMemory", fn := fun _ => fun
  | [d] => { results := [.lit (.bool true)], args := [d] }
  | _ => none }
def checksumMemoryRow : OpenClaim := { program := "ytmnebingmedloaa", sum := "c6422ccd5516a2f962ab069dadcac5d7a31aedfce838b42e6b02ba57a08531ec", func := "exodus/exoduslaw32.ChecksumMemory", spec := "checksumMemory", apart := false }
def ChecksumMemorySaid : Prop := checksumMemoryRow.holds Try.pinned (OpenSpec.ofChange checksumMemorySpec)

/-- ITS FALSE NEIGHBOUR: 'it returns false'. Refute it at one input. -/
def checksumMemoryWrong : ChangeSpec := { name := "checksumMemory", fn := fun _ => fun
  | [d] => { results := [.lit (.bool false)], args := [d] }
  | _ => none }
def ChecksumMemoryWrongFalsely : Prop := checksumMemoryRow.holds Try.pinned (OpenSpec.ofChange checksumMemoryWrong)

/-- 'exoduslaw32.ChecksumCombines': WHATEVER THE INPUT: true; the input reads as it did. -/
def checksumCombinesSpec : ChangeSpec := { name := "checksumCombines", fn := fun _ => fun
  | [d1, d2] => { results := [.lit (.bool true)], args := [d1, d2] }
  | _ => none }
def checksumCombinesRow : OpenClaim := { program := "ytmnebingmedloaa", sum := "c6422ccd5516a2f962ab069dadcac5d7a31aedfce838b42e6b02ba57a08531ec", func := "exodus/exoduslaw32.ChecksumCombines", spec := "checksumCombines", apart := false }
def ChecksumCombinesSaid : Prop := checksumCombinesRow.holds Try.pinned (OpenSpec.ofChange checksumCombinesSpec)

/-- ITS FALSE NEIGHBOUR: 'it returns false'. Refute it at one input. -/
def checksumCombinesWrong : ChangeSpec := { name := "checksumCombines", fn := fun _ => fun
  | [d1, d2] => { results := [.lit (.bool false)], args := [d1, d2] }
  | _ => none }
def ChecksumCombinesWrongFalsely : Prop := checksumCombinesRow.holds Try.pinned (OpenSpec.ofChange checksumCombinesWrong)

/- THE SECOND FORM. 'bulk': how many values and letters a reading holds, each counted each time it is reached (what is shared counts as often as it is met; a slice's spare places count too). A statement '..UptoSaid' is the law's where the arguments, and the package variables that the reading takes, are together of bulk at most 1048576: NARROWER than '..Said'. Prove '..Said' where nothing that the law and all that it calls make is longer than what came in: it says more and counts as full. Else prove '..UptoSaid'. A law counts once. -/
mutual
def uptoBulk {H : Type} : DataW H → Nat
  | .lit (.string bytes) => bytes.length + 1
  | .lit _ => 1
  | .nil => 1
  | .ptr d => uptoBulk d + 1
  | .slice elems spare => uptoBulkAll elems + uptoBulkAll spare + 1
  | .agg parts => uptoBulkAll parts + 1
  | .iface _ d => uptoBulk d + 1
  | .map entries => uptoBulkEntries entries + 1
  | .held _ => 1
def uptoBulkAll {H : Type} : List (DataW H) → Nat
  | [] => 0
  | d :: r => uptoBulk d + uptoBulkAll r
def uptoBulkEntries {H : Type} : List (Lit × DataW H) → Nat
  | [] => 0
  | x :: r => uptoBulkEntry x + uptoBulkEntries r
def uptoBulkEntry {H : Type} : Lit × DataW H → Nat
  | (.string bytes, d) => bytes.length + uptoBulk d + 1
  | (_, d) => uptoBulk d + 1
 end
def uptoSmall : (H : Type) → List (DataW H) → Bool := fun _ ds => decide (uptoBulkAll ds ≤ 1048576)
def OpenSpec.upto (s : _root_.Go.ChangeSpec) : _root_.Go.OpenSpec := { _root_.Go.OpenSpec.ofChange s with cond := some uptoSmall }

/-- 'exoduslaw32.ChecksumSums', WHERE WHAT IT READS IS OF BULK AT MOST 1048576: true; the input reads as it did. -/
def checksumSumsUptoRow : OpenClaim := { program := "ytmnebingmedloaa", sum := "c6422ccd5516a2f962ab069dadcac5d7a31aedfce838b42e6b02ba57a08531ec", func := "exodus/exoduslaw32.ChecksumSums", spec := "checksumSums", apart := false, narrowed := true }
def ChecksumSumsUptoSaid : Prop := checksumSumsUptoRow.holds Try.pinned (OpenSpec.upto checksumSumsSpec)

/-- 'exoduslaw32.ChecksumLinear', WHERE WHAT IT READS IS OF BULK AT MOST 1048576: true; the input reads as it did. -/
def checksumLinearUptoRow : OpenClaim := { program := "ytmnebingmedloaa", sum := "c6422ccd5516a2f962ab069dadcac5d7a31aedfce838b42e6b02ba57a08531ec", func := "exodus/exoduslaw32.ChecksumLinear", spec := "checksumLinear", apart := false, narrowed := true }
def ChecksumLinearUptoSaid : Prop := checksumLinearUptoRow.holds Try.pinned (OpenSpec.upto checksumLinearSpec)

/-- 'exoduslaw32.ChecksumBursts', WHERE WHAT IT READS IS OF BULK AT MOST 1048576: true; the input reads as it did. -/
def checksumBurstsUptoRow : OpenClaim := { program := "ytmnebingmedloaa", sum := "c6422ccd5516a2f962ab069dadcac5d7a31aedfce838b42e6b02ba57a08531ec", func := "exodus/exoduslaw32.ChecksumBursts", spec := "checksumBursts", apart := false, narrowed := true }
def ChecksumBurstsUptoSaid : Prop := checksumBurstsUptoRow.holds Try.pinned (OpenSpec.upto checksumBurstsSpec)

/-- 'exoduslaw32.ChecksumSeals', WHERE WHAT IT READS IS OF BULK AT MOST 1048576: true; the input reads as it did. -/
def checksumSealsUptoRow : OpenClaim := { program := "ytmnebingmedloaa", sum := "c6422ccd5516a2f962ab069dadcac5d7a31aedfce838b42e6b02ba57a08531ec", func := "exodus/exoduslaw32.ChecksumSeals", spec := "checksumSeals", apart := false, narrowed := true }
def ChecksumSealsUptoSaid : Prop := checksumSealsUptoRow.holds Try.pinned (OpenSpec.upto checksumSealsSpec)

/-- 'exoduslaw32.ChecksumMemory', WHERE WHAT IT READS IS OF BULK AT MOST 1048576: true; the input reads as it did. -/
def checksumMemoryUptoRow : OpenClaim := { program := "ytmnebingmedloaa", sum := "c6422ccd5516a2f962ab069dadcac5d7a31aedfce838b42e6b02ba57a08531ec", func := "exodus/exoduslaw32.ChecksumMemory", spec := "checksumMemory", apart := false, narrowed := true }
def ChecksumMemoryUptoSaid : Prop := checksumMemoryUptoRow.holds Try.pinned (OpenSpec.upto checksumMemorySpec)

/-- 'exoduslaw32.ChecksumCombines', WHERE WHAT IT READS IS OF BULK AT MOST 1048576: true; the input reads as it did. -/
def checksumCombinesUptoRow : OpenClaim := { program := "ytmnebingmedloaa", sum := "c6422ccd5516a2f962ab069dadcac5d7a31aedfce838b42e6b02ba57a08531ec", func := "exodus/exoduslaw32.ChecksumCombines", spec := "checksumCombines", apart := false, narrowed := true }
def ChecksumCombinesUptoSaid : Prop := checksumCombinesUptoRow.holds Try.pinned (OpenSpec.upto checksumCombinesSpec)

end Rows
end Go.Proofs.Ytmnebingmedloaa
