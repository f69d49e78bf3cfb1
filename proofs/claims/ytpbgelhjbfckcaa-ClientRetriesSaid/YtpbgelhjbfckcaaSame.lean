/- Same of a request with itself. -/
import Derived.Test.YtpbgelhjbfckcaaRefA
import Derived.Test.YtpbgelhjbfckcaaAt2
namespace Go.Proofs.Ytpbgelhjbfckcaa
open Go.ChangeShapes Go.WideShapes Go.ChangeAt Go.RowKit
set_option linter.unusedVariables false
set_option linter.unusedSimpArgs false

theorem at_calls (f : FuncId) {P : Program} {args : Array Value} {w : World} {Q : Ending → World → Prop} (h : Calls P f args w Q) : Calls P f args w Q := h
def Yes (w : World) (e : Ending) (w' : World) : Prop := e = .returned (.bool true) ∧ Below w.heap.size w w'
set_option maxRecDepth 100000 in
theorem sameInts_nil (w : World) : Calls Try.prog 31 #[.slice none 0 0, .slice none 0 0] w (Yes w) := by
  go_enter Try.func31, Try.ntmps31
  go_wp2_with fail
  go_loop [5] (fun v5 => v5 = .int .i64 0) (fun _ => 0)
  case atStart => rfl
  case round =>
    subst hrel
    go_wp2_with fail
    go_ret
    exact ⟨rfl, Below.refl _ _⟩
set_option maxRecDepth 100000 in
theorem sameChange_zero (w : World) : Calls Try.prog 29 #[.agg #[zi, zi, zl, zl], .agg #[zi, zi, zl, zl]] w (Yes w) := by
  have HO := hide (Own.nil w [] (by simp))
  go_enter Try.func29, Try.ntmps29
  go_wp2_with (first
    | ((with_reducible refine at_box 30 (.tmp 0) ?_); refine wpList_box_own HO.out rfl 30 (.tmp 0) rfl ([zi, zi, zl, zl]) rfl ?_; intro WA b0 hO; replace HO := hide hO; clear hO)
    | ((with_reducible refine at_box 30 (.tmp 1) ?_); refine wpList_box_own HO.out rfl 30 (.tmp 1) rfl ([zi, zi, zl, zl]) rfl ?_; intro WA b1 hO; replace HO := hide hO; have k0 := hO.cells 0 rfl; have k1 := hO.cells 1 rfl; clear hO)
    | ((with_reducible refine at_calls 31 ?_); refine (sameInts_nil _).mono ?_; rintro e wN ⟨rfl, hb⟩; replace HO := hide (HO.out.step hb); replace k0 := HO.out.cells 0 rfl; replace k1 := HO.out.cells 1 rfl; clear hb))
  go_ret
  exact ⟨rfl, HO.out.below⟩
set_option maxRecDepth 100000 in
theorem sameConfig_zero (w : World) : Calls Try.prog 48 #[.agg #[zl, zl, zl], .agg #[zl, zl, zl]] w (Yes w) := by
  have HO := hide (Own.nil w [] (by simp))
  go_enter Try.func48, Try.ntmps48
  go_wp2_with (first
    | ((with_reducible refine at_box 34 (.tmp 0) ?_); refine wpList_box_own HO.out rfl 34 (.tmp 0) rfl ([zl, zl, zl]) rfl ?_; intro WA b0 hO; replace HO := hide hO; clear hO)
    | ((with_reducible refine at_box 34 (.tmp 1) ?_); refine wpList_box_own HO.out rfl 34 (.tmp 1) rfl ([zl, zl, zl]) rfl ?_; intro WA b1 hO; replace HO := hide hO; have k0 := hO.cells 0 rfl; have k1 := hO.cells 1 rfl; clear hO)
    | ((with_reducible refine at_calls 31 ?_); refine (sameInts_nil _).mono ?_; rintro e wN ⟨rfl, hb⟩; replace HO := hide (HO.out.step hb); replace k0 := HO.out.cells 0 rfl; replace k1 := HO.out.cells 1 rfl; clear hb))
  go_ret
  exact ⟨rfl, HO.out.below⟩
set_option maxRecDepth 100000 in
set_option maxHeartbeats 1000000 in
theorem sameStatus_zero (w : World) : Calls Try.prog 30 #[.agg #[zi, zi, zi, zi, zi, zi, zi, zi, zl, zl, zl, zl, zl, zl, zl], .agg #[zi, zi, zi, zi, zi, zi, zi, zi, zl, zl, zl, zl, zl, zl, zl]] w (Yes w) := by
  have HO := hide (Own.nil w [] (by simp))
  go_enter Try.func30, Try.ntmps30
  go_wp2_with (first
    | ((with_reducible refine at_box 36 (.tmp 0) ?_); refine wpList_box_own HO.out rfl 36 (.tmp 0) rfl ([zi, zi, zi, zi, zi, zi, zi, zi, zl, zl, zl, zl, zl, zl, zl]) rfl ?_; intro WA b0 hO; replace HO := hide hO; clear hO)
    | ((with_reducible refine at_box 36 (.tmp 1) ?_); refine wpList_box_own HO.out rfl 36 (.tmp 1) rfl ([zi, zi, zi, zi, zi, zi, zi, zi, zl, zl, zl, zl, zl, zl, zl]) rfl ?_; intro WA b1 hO; replace HO := hide hO; have k0 := hO.cells 0 rfl; have k1 := hO.cells 1 rfl; clear hO)
    | ((with_reducible refine at_calls 48 ?_); refine (sameConfig_zero _).mono ?_; rintro e wN ⟨rfl, hb⟩; replace HO := hide (HO.out.step hb); replace k0 := HO.out.cells 0 rfl; replace k1 := HO.out.cells 1 rfl; clear hb)
    | ((with_reducible refine at_calls 31 ?_); refine (sameInts_nil _).mono ?_; rintro e wN ⟨rfl, hb⟩; replace HO := hide (HO.out.step hb); replace k0 := HO.out.cells 0 rfl; replace k1 := HO.out.cells 1 rfl; clear hb))
  go_ret
  exact ⟨rfl, HO.out.below⟩
set_option maxRecDepth 100000 in
set_option maxHeartbeats 1000000 in
theorem sameMessage_zero (w : World) : Calls Try.prog 32 #[.agg #[zi, zi, zi, zi, zi, zi, zi, zi, zb0, zl, zi, zs, zb0], .agg #[zi, zi, zi, zi, zi, zi, zi, zi, zb0, zl, zi, zs, zb0]] w (Yes w) := by
  have HO := hide (Own.nil w [] (by simp))
  go_enter Try.func32, Try.ntmps32
  go_wp2_with (first
    | ((with_reducible refine at_box 39 (.tmp 0) ?_); refine wpList_box_own HO.out rfl 39 (.tmp 0) rfl ([zi, zi, zi, zi, zi, zi, zi, zi, zb0, zl, zi, zs, zb0]) rfl ?_; intro WA b0 hO; replace HO := hide hO; clear hO)
    | ((with_reducible refine at_box 39 (.tmp 1) ?_); refine wpList_box_own HO.out rfl 39 (.tmp 1) rfl ([zi, zi, zi, zi, zi, zi, zi, zi, zb0, zl, zi, zs, zb0]) rfl ?_; intro WA b1 hO; replace HO := hide hO; have k0 := hO.cells 0 rfl; have k1 := hO.cells 1 rfl; clear hO))
  go_loop [5] (fun v5 => v5 = .int .i64 0) (fun _ => 0)
  case atStart => rfl
  case round =>
    subst hrel
    go_wp2_with fail
    go_ret
    exact ⟨rfl, HO.out.below⟩
set_option maxRecDepth 100000 in
set_option maxHeartbeats 4000000 in
theorem same_req (k g c n : Int) (b : ByteArray) (v : Int) (w : World) : Calls Try.prog 17 #[.agg (req k g c n b v).toArray, .agg (req k g c n b v).toArray] w (Yes w) := by
  have HO := hide (Own.nil w [] (by simp))
  unfold req zmsg
  simp only [List.drop_succ_cons, List.drop_zero, List.cons_append, List.nil_append]
  go_enter Try.func17, Try.ntmps17
  go_wp2_with (first
    | ((with_reducible refine at_box 41 (.tmp 0) ?_); refine wpList_box_own HO.out rfl 41 (.tmp 0) rfl (_) rfl ?_; intro WA b0 hO; replace HO := hide hO; clear hO)
    | ((with_reducible refine at_box 41 (.tmp 1) ?_); refine wpList_box_own HO.out rfl 41 (.tmp 1) rfl (_) rfl ?_; intro WA b1 hO; replace HO := hide hO; have k0 := hO.cells 0 rfl; have k1 := hO.cells 1 rfl; clear hO)
    | ((with_reducible refine at_calls 29 ?_); refine (sameChange_zero _).mono ?_; rintro e wN ⟨rfl, hb⟩; replace HO := hide (HO.out.step hb); replace k0 := HO.out.cells 0 rfl; replace k1 := HO.out.cells 1 rfl; clear hb)
    | ((with_reducible refine at_calls 30 ?_); refine (sameStatus_zero _).mono ?_; rintro e wN ⟨rfl, hb⟩; replace HO := hide (HO.out.step hb); replace k0 := HO.out.cells 0 rfl; replace k1 := HO.out.cells 1 rfl; clear hb)
    | ((with_reducible refine at_calls 31 ?_); refine (sameInts_nil _).mono ?_; rintro e wN ⟨rfl, hb⟩; replace HO := hide (HO.out.step hb); replace k0 := HO.out.cells 0 rfl; replace k1 := HO.out.cells 1 rfl; clear hb)
    | ((with_reducible refine at_calls 32 ?_); refine (sameMessage_zero _).mono ?_; rintro e wN ⟨rfl, hb⟩; replace HO := hide (HO.out.step hb); replace k0 := HO.out.cells 0 rfl; replace k1 := HO.out.cells 1 rfl; clear hb))
  go_ret
  exact ⟨rfl, HO.out.below⟩
end Go.Proofs.Ytpbgelhjbfckcaa
