/- A region that draws its order: the condition on worlds may grow on the way. -/
import Derived.Test.YtpbgelhjbfckcaaBase
import Derived.Deep.RegionHeld3
namespace Go.Proofs.Ytpbgelhjbfckcaa
open Go.RowKit

theorem heldMono {P : Program} {md : Region.Mode} {ops : Array Oper} {Q : Exit → Act → World → Prop} {S S' : World → Prop} (h : ∀ w, S' w → S w) :
    ∀ (fuel : Nat) (listed : Array Bool) (a : Act) (w : World), wpAnyH P md ops Q S' fuel listed a w → wpAnyH P md ops Q S fuel listed a w
  | 0, _, _, _, hw => hw
  | fuel + 1, _, _, _, hw => ⟨hw.1, fun i hi => wpOp_mono (fun a' w' h' => ⟨h w' h'.1, heldMono h fuel _ a' w' h'.2⟩) (hw.2 i hi)⟩
end Go.Proofs.Ytpbgelhjbfckcaa
