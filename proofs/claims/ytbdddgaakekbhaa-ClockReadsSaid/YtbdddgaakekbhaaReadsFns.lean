/- The reference's step of a clock. -/
import Derived.Test.YtbdddgaakekbhaaAwake
import Derived.Test.YtbdddgaakekbhaaSteps
import Derived.Deep.RegionHeld3
import Derived.Deep.AppendLies
import Derived.Deep.DeepCutAuto
namespace Go.Proofs.Ytbdddgaakekbhaa
open Go.ChangeShapes Go.WideShapes Go.ChangeAt Go.RowKit
set_option linter.unusedVariables false

set_option maxHeartbeats 1000000 in
theorem refAdvance_c (w : World) (u t k r : Int) (hf : Fits u t) (hk0 : -9223372036854775808 ≤ k) (hk1 : k ≤ 9223372036854775807) :
    Calls Try.prog 13 #[.agg #[.int .i64 u, .int .i64 t], .agg #[.int .i64 k, .int .i64 r]] w fun e w' =>
      e = .returned (.tuple #[.agg #[.int .i64 (advU u t k r), .int .i64 (advT t k r)], .int .i64 (advE t k r)]) ∧ Below w.heap.size w w' := by
  obtain ⟨b1, b2, b3, b4⟩ := hf
  by_cases h1 : r < 63 ∨ 65 < r
  · have e : advE t k r = 1 := by unfold advE; rw [if_pos h1]
    have e1 : advU u t k r = u := by unfold advU; rw [e]; rfl
    have e2 : advT t k r = t := by unfold advT; rw [e]; rfl
    rw [e, e1, e2]
    clear e e1 e2
    rcases h1 with h1 | h1
    · go_enter Try.func13, Try.ntmps13
      go_wp2
      go_returns
      exact ⟨rfl, by go_grown⟩
    · go_enter Try.func13, Try.ntmps13
      go_wp2
      go_returns
      exact ⟨rfl, by go_grown⟩
  have h2 : 63 ≤ r := by omega
  have h3 : r ≤ 65 := by omega
  by_cases h4 : k < 0 ∨ 1099511627776 - t < k
  · have e : advE t k r = 2 := by unfold advE; rw [if_neg h1, if_pos h4]
    have e1 : advU u t k r = u := by unfold advU; rw [e]; rfl
    have e2 : advT t k r = t := by unfold advT; rw [e]; rfl
    rw [e, e1, e2]
    clear e e1 e2 h1
    by_cases h5 : k < 0
    · clear h4
      go_enter Try.func13, Try.ntmps13
      go_wp2
      go_returns
      exact ⟨rfl, by go_grown⟩
    · have h6 : 1099511627776 - t < k := by omega
      have h7 : 0 ≤ k := by omega
      clear h4 h5
      by_cases h8 : 1099511627776 < k
      · go_enter Try.func13, Try.ntmps13
        go_wp2
        go_returns
        exact ⟨rfl, by go_grown⟩
      · go_enter Try.func13, Try.ntmps13
        go_wp2
        go_returns
        exact ⟨rfl, by go_grown⟩
  have e : advE t k r = 0 := by unfold advE; rw [if_neg h1, if_neg h4]
  have e1 : advU u t k r = u + k * r := by unfold advU; rw [e]; rfl
  have e2 : advT t k r = t + k := by unfold advT; rw [e]; rfl
  rw [e, e1, e2]
  have h5 : 0 ≤ k := by omega
  have h6 : t + k ≤ 1099511627776 := by omega
  clear e e1 e2 h1 h4
  obtain ⟨m1, m2⟩ := mul_rate (k := k) (r := r) h5 h2 h3
  go_enter Try.func13, Try.ntmps13
  go_wp2
  go_returns
  exact ⟨rfl, by go_grown⟩

end Go.Proofs.Ytbdddgaakekbhaa
