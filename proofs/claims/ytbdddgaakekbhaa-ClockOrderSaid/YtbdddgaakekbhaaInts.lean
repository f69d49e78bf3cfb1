/- The laws of package clock whose arguments are numbers: their walks. -/
import Derived.Test.YtbdddgaakekbhaaAwake
import Derived.Test.YtbdddgaakekbhaaFns
namespace Go.Proofs.Ytbdddgaakekbhaa
open Go.ChangeShapes Go.WideShapes Go.ChangeAt Go.RowKit

set_option maxHeartbeats 1000000 in
theorem walkClockBounds (W : World) (d : Int) (_ : (Lit.int .i64 d).wf = true) : Calls Try.prog 4 #[.int .i64 d] W fun e w' => e = .returned (.bool true) ∧ Below W.heap.size W w' := by
  by_cases h : 1125899906842624 < d
  · go_enter Try.func4, Try.ntmps4
    go_wp2_with fail
    refine (awake_any _).mono ?_
    rintro e w1 ⟨rfl, hb⟩
    go_wp2_with fail
    go_ret
    exact ⟨rfl, hb⟩
  · go_enter Try.func4, Try.ntmps4
    go_wp2_with fail
    refine (awake_any _).mono ?_
    rintro e w1 ⟨rfl, hb⟩
    go_wp2_with fail
    refine (margin_c _ _ (by omega)).mono ?_
    rintro e w1 ⟨rfl, rfl⟩
    go_wp2_with fail
    refine (refMargin_c _ _ (by omega)).mono ?_
    rintro e w1 ⟨rfl, rfl⟩
    go_wp2_with fail
    refine (least_c _ _ (by omega)).mono ?_
    rintro e w1 ⟨rfl, rfl⟩
    go_wp2_with fail
    refine (refLeast_c _ _ (by omega)).mono ?_
    rintro e w1 ⟨rfl, rfl⟩
    go_wp2_with fail
    refine (most_c _ _ (by omega)).mono ?_
    rintro e w1 ⟨rfl, rfl⟩
    go_wp2_with fail
    refine (refMost_c _ _ (by omega)).mono ?_
    rintro e w1 ⟨rfl, rfl⟩
    go_wp2_with fail
    go_ret
    exact ⟨rfl, hb⟩

theorem mg_mono {a b : Int} (h : a ≤ b) : mg a ≤ mg b := by unfold mg; split <;> split <;> omega
theorem ls_mono {a b : Int} (h : a ≤ b) : ls a ≤ ls b := by unfold ls; split <;> split <;> omega
theorem ms_mono {a b : Int} (h : a ≤ b) : ms a ≤ ms b := by unfold ms; split <;> split <;> omega
theorem mg_gt (b : Int) : b < mg b := by unfold mg; split <;> omega
theorem ls_le_ms (b : Int) : ls b ≤ ms b := by unfold ls ms; split <;> omega
theorem mg_two (a : Int) : 2 ≤ mg a := by unfold mg; split <;> omega
theorem ls_zero (a : Int) : 0 ≤ ls a := by unfold ls; split <;> omega

set_option maxHeartbeats 1000000 in
theorem walkClockOrder (W : World) (a : Int) (_ : (Lit.int .i64 a).wf = true) (b : Int) (_ : (Lit.int .i64 b).wf = true) : Calls Try.prog 8 #[.int .i64 a, .int .i64 b] W fun e w' => e = .returned (.bool true) ∧ Below W.heap.size W w' := by
  by_cases h1 : b < a
  · go_enter Try.func8, Try.ntmps8
    go_wp2_with fail
    refine (awake_any _).mono ?_
    rintro e w1 ⟨rfl, hb⟩
    go_wp2_with fail
    go_ret
    exact ⟨rfl, hb⟩
  by_cases h2 : 1125899906842624 < b
  · go_enter Try.func8, Try.ntmps8
    go_wp2_with fail
    refine (awake_any _).mono ?_
    rintro e w1 ⟨rfl, hb⟩
    go_wp2_with fail
    go_ret
    exact ⟨rfl, hb⟩
  have hab : a ≤ b := by omega
  have e1 := mg_mono hab
  have e2 := ls_mono hab
  have e3 := ms_mono hab
  have e4 := mg_gt b
  have e5 := ls_le_ms b
  have e6 := mg_two a
  have e7 := ls_zero a
  go_enter Try.func8, Try.ntmps8
  go_wp2_with fail
  refine (awake_any _).mono ?_
  rintro e w1 ⟨rfl, hb⟩
  go_wp2_with (first
    | (go_at_call 17; refine (margin_c _ _ (by omega)).mono ?_; rintro e w1 ⟨rfl, rfl⟩)
    | (go_at_call 19; refine (least_c _ _ (by omega)).mono ?_; rintro e w1 ⟨rfl, rfl⟩)
    | (go_at_call 21; refine (most_c _ _ (by omega)).mono ?_; rintro e w1 ⟨rfl, rfl⟩))
  go_ret
  exact ⟨rfl, hb⟩

set_option maxHeartbeats 1000000 in
theorem walkClockTight (W : World) (d : Int) (wf : (Lit.int .u32 d).wf = true) : Calls Try.prog 9 #[.int .u32 d] W fun e w' => e = .returned (.bool true) ∧ Below W.heap.size W w' := by
  have hd : 0 ≤ d ∧ d ≤ 4294967295 := by simpa [Lit.wf, IntKind.min, IntKind.max, IntKind.signed, IntKind.bits] using wf
  obtain ⟨hd0, hd1⟩ := hd
  obtain ⟨n, hn⟩ : ∃ n, n = 1 + d % 1048576 := ⟨_, rfl⟩
  have e1 : ls n = (64 * (n - 1) + 1 + 64) / 65 := ls_pos (by omega)
  have e2 : ms n = (64 * n + 63) / 63 := ms_pos (by omega)
  have b1 : 1 ≤ ls n := by omega
  have b2 : 1 ≤ ms n := by omega
  have b3 : ls n ≤ 1073741824 := by omega
  have b4 : ms n ≤ 1073741824 := by omega
  have b5 : 65 * (ls n - 1) < 64 * (n - 1) + 1 := by omega
  have b6 : 64 * (n - 1) + 1 ≤ 65 * ls n := by omega
  have b7 : 63 * ms n ≤ 64 * n + 63 := by omega
  have b8 : 64 * n + 63 < 63 * (ms n + 1) := by omega
  have b9 : n ≤ 1048576 := by omega
  have b10 : 1 ≤ n := by omega
  clear e1 e2
  have H := hide hn.symm
  clear hn
  go_enter Try.func9, Try.ntmps9
  go_wp2_with fail
  refine (awake_any _).mono ?_
  rintro e w1 ⟨rfl, hb⟩
  go_wp2_with fail
  rw [H.out]
  refine (least_c _ _ (by omega)).mono ?_
  rintro e w1 ⟨rfl, rfl⟩
  go_wp2_with fail
  refine (most_c _ _ (by omega)).mono ?_
  rintro e w1 ⟨rfl, rfl⟩
  go_wp2_with fail
  go_ret
  exact ⟨rfl, hb⟩
end Go.Proofs.Ytbdddgaakekbhaa
