/- Number; send of a client. -/
import Derived.Test.YtpbgelhjbfckcaaSend
namespace Go.Proofs.Ytpbgelhjbfckcaa
open Go.ChangeShapes Go.WideShapes Go.ChangeAt Go.RowKit
set_option linter.unusedVariables false

theorem send_c (g : Nat) (S : CS) (p : Value) (cs : List Value) (w : World) (h : Cl w g S p) (hc : S.opened = some cs) : Calls Try.prog 28 #[.pointer (some ⟨g, 0, none⟩)] w (Sent w S.target cs) := by
  obtain ⟨b, hne, rfl, hb⟩ := h.opened cs hc
  exact send_raw g b S.target cs w h.lt h.cells.2.2.1 h.cells.2.2.2.2.1 hb (h.ok.opened cs hc).1 (h.ok.opened cs hc).2
theorem number_c (g : Nat) (S : CS) (p : Value) (w : World) (h : Cl w g S p) : Calls Try.prog 15 #[.pointer (some ⟨g, 0, none⟩)] w fun e w' => e = .returned (.int .i64 S.number) ∧ w = w' := by
  obtain ⟨c0, c1, c2, c3, c4, f0, f1, f2, f3, f4⟩ := h.cells
  obtain ⟨i, m, T, n, o⟩ := S
  dsimp only at c0 c1 c2 c3 c4 ⊢
  clear h
  go_enter Try.func15, Try.ntmps15
  go_wp2_with fail
  go_ret
  exact ⟨rfl, rfl⟩
end Go.Proofs.Ytpbgelhjbfckcaa
