/- ClientRefuses: the walk. -/
import Derived.Test.YtpbgelhjbfckcaaAwake
namespace Go.Proofs.Ytpbgelhjbfckcaa
open Go.ChangeShapes Go.WideShapes Go.ChangeAt Go.RowKit
set_option linter.unusedVariables false
set_option linter.unusedSimpArgs false

set_option maxRecDepth 100000 in
set_option maxHeartbeats 1000000 in
theorem walkClientRefuses (W : World) (a : Int) (wfa : (Lit.int .i64 a).wf = true) (b : Int) (wfb : (Lit.int .i64 b).wf = true) :
    Calls Try.prog 3 #[.int .i64 a, .int .i64 b] W fun e w' => e = .returned (.bool true) ∧ Below W.heap.size W w' := by
  clear wfa wfb
  by_cases h1 : 1 ≤ a
  · by_cases h2 : a ≤ 8
    · by_cases h3 : 1 ≤ b
      · by_cases h4 : b ≤ 16
        · go_enter Try.func3, Try.ntmps3
          go_wp2_with fail
          refine (new_c a b ⟨h1, h2⟩ ⟨h3, h4⟩ W).mono ?_
          rintro e w1 ⟨rfl, _, hb⟩
          have HB := hide hb
          clear hb
          go_wp2_with fail
          refine (awake_c _).mono ?_
          rintro e w2 ⟨rfl, hb2⟩
          have HB2 := hide (HB.out.trans (hb2.mono HB.out.size))
          clear hb2
          go_wp2_with fail
          go_ret
          exact ⟨rfl, HB2.out⟩
        · have hd : decide (b ≤ 16) = false := by simp; omega
          go_enter Try.func3, Try.ntmps3
          go_wp2_with fail
          refine (new_bad a b (by omega) W).mono ?_
          rintro e w1 ⟨rfl, rfl⟩
          go_wp2_with fail
          refine (awake_c _).mono ?_
          rintro e w2 ⟨rfl, hb2⟩
          have HB2 := hide hb2
          clear hb2
          go_wp2_with fail
          go_ret
          exact ⟨rfl, HB2.out⟩
      · have hd : decide (1 ≤ b) = false := by simp; omega
        go_enter Try.func3, Try.ntmps3
        go_wp2_with fail
        refine (new_bad a b (by omega) W).mono ?_
        rintro e w1 ⟨rfl, rfl⟩
        go_wp2_with fail
        refine (awake_c _).mono ?_
        rintro e w2 ⟨rfl, hb2⟩
        have HB2 := hide hb2
        clear hb2
        go_wp2_with fail
        go_ret
        exact ⟨rfl, HB2.out⟩
    · have hd : decide (a ≤ 8) = false := by simp; omega
      go_enter Try.func3, Try.ntmps3
      go_wp2_with fail
      refine (new_bad a b (by omega) W).mono ?_
      rintro e w1 ⟨rfl, rfl⟩
      go_wp2_with fail
      refine (awake_c _).mono ?_
      rintro e w2 ⟨rfl, hb2⟩
      have HB2 := hide hb2
      clear hb2
      go_wp2_with fail
      go_ret
      exact ⟨rfl, HB2.out⟩
  · have hd : decide (1 ≤ a) = false := by simp; omega
    go_enter Try.func3, Try.ntmps3
    go_wp2_with fail
    refine (new_bad a b (by omega) W).mono ?_
    rintro e w1 ⟨rfl, rfl⟩
    go_wp2_with fail
    refine (awake_c _).mono ?_
    rintro e w2 ⟨rfl, hb2⟩
    have HB2 := hide hb2
    clear hb2
    go_wp2_with fail
    go_ret
    exact ⟨rfl, HB2.out⟩
end Go.Proofs.Ytpbgelhjbfckcaa
