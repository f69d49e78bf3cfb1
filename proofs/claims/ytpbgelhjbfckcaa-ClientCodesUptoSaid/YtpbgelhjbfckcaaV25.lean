/- The reference's Valid. -/
import Derived.Test.YtpbgelhjbfckcaaV24
namespace Go.Proofs.Ytpbgelhjbfckcaa
set_option maxRecDepth 100000
set_option linter.unusedVariables false
set_option linter.unusedSimpArgs false
open Go.ChangeShapes Go.WideShapes Go.ChangeAt Go.RowKit
theorem Own.one {w0 W : World} {S : List Nat} {L : List (Nat × TypeId × List Value)} (h : Own w0 S L W) (i : Nat) {e : Nat × TypeId × List Value} (hi : L[i]? = some e) : Own w0 S [e] W :=
 ⟨fun x hx => by rw [List.mem_singleton.1 hx]; exact h.has e (List.mem_of_getElem? hi), by simp, h.touch, h.old⟩
end Go.Proofs.Ytpbgelhjbfckcaa
