/- Sync. -/
import Derived.Test.YtlpnichgfhgdmaaSettle2
import Derived.Test.YtlpnichgfhgdmaaWrite2
import Derived.WalkLawsBesides
namespace Go.Proofs.Ytlpnichgfhgdmaa
open Go.ChangeShapes Go.WideShapes Go.ChangeAt Go.RowKit
set_option linter.unusedVariables false

theorem Does.then {w w1 w2 : World} {d : Nat} {F F1 : List Nat} {D : DS} {v : Value} {e : Ending} (ht : Touch F w w1) (hF : ∀ j ∈ F1, j ∈ F ∨ w.heap.size ≤ j) (h : Does w1 d F1 D v e w2) : Does w d F D v e w2 := by
  obtain ⟨he, F2, hd, ht2, hF2⟩ := h
  exact ⟨he, F2, hd, ht.next ht2 hF, fun j hj => by
    rcases hF2 j hj with h | h
    · exact hF j h
    · exact .inr (Nat.le_trans ht.size h)⟩
theorem Does.as {w w1 : World} {d : Nat} {F : List Nat} {D : DS} {u v : Value} {e : Ending} (h : Does w d F D u e w1) : ∃ F', Disk w1 d F' D ∧ Touch F w w1 ∧ ∀ j ∈ F', j ∈ F ∨ w.heap.size ≤ j := h.2

theorem sync1_c (i : Nat) (w : World) : Calls Try.prog 33 #[.int .i64 i] w fun e w' => e = .returned (.int .i64 128) ∧ w = w' := by
  go_enter Try.func33, Try.ntmps33
  go_wp2_with fail
  go_ret
  exact ⟨rfl, rfl⟩
set_option maxHeartbeats 1000000 in
theorem sync_c (d : Nat) (F : List Nat) (D : DS) (w : World) (h : Disk w d F D) :
    Calls Try.prog 18 #[.pointer (some ⟨d, 0, none⟩)] w (Does w d F (dSync D).1 (.int .i64 (dSync D).2)) := by
  obtain ⟨gv, pv, h⟩ := h
  obtain ⟨c0, c1, c2, c3, f0, f1, f2, f3⟩ := h.cells
  have H := hide h
  clear h
  by_cases hf : D.failed = true
  · have hr : dSync D = (D, 10) := by unfold dSync; rw [if_pos hf]
    rw [hr]
    rw [hf] at c3
    clear hr hf
    go_enter Try.func18, Try.ntmps18
    go_wp2_with fail
    go_ret
    exact ⟨rfl, F, ⟨gv, pv, H.out⟩, Touch.refl _ _, fun j hj => .inl hj⟩
  · rw [Bool.not_eq_true] at hf
    rw [hf] at c3
    have hburn := burn_c d F D w ⟨gv, pv, H.out⟩
    by_cases hb : (dBurn D).2 = 0
    · have hr : dSync D = (dSettle (dBurn D).1 (fun _ => 128), 0) := by unfold dSync; rw [if_neg (by simp [hf]), if_pos hb]
      rw [hr]
      rw [hb] at hburn
      clear hr hf
      go_enter Try.func18, Try.ntmps18
      go_wp2_with fail
      refine hburn.mono ?_
      rintro e w1 ⟨rfl, F1, hd1, ht1, hF1⟩
      have hset := settle_sync d F1 (dBurn D).1 (fun _ => 128) w1 hd1 (fun i wr _ => sync1_c i wr)
      clear hburn hd1 hb c0 c1 c2 c3 f0 f1 f2 f3
      go_wp2_with fail
      refine hset.mono ?_
      rintro e w2 ⟨rfl, hs⟩
      clear hset
      go_wp2_with fail
      go_ret
      exact Does.then ht1 hF1 ⟨rfl, hs⟩
    · have hr : dSync D = dBurn D := by unfold dSync; rw [if_neg (by simp [hf]), if_neg hb]
      rw [hr]
      clear hr hf
      have hb0 : ((dBurn D).2 == 0) = false := by simpa using hb
      generalize hB : dBurn D = B at *
      obtain ⟨D1, z⟩ := B
      dsimp only at *
      clear hB
      go_enter Try.func18, Try.ntmps18
      go_wp2_with fail
      refine hburn.mono ?_
      rintro e w1 ⟨rfl, hs⟩
      clear hburn c0 c1 c2 c3 f0 f1 f2 f3
      go_wp2_with fail
      go_ret
      exact ⟨rfl, hs⟩
end Go.Proofs.Ytlpnichgfhgdmaa
