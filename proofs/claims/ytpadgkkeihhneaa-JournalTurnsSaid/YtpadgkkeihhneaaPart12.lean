/- Sync. -/
import Derived.Test.YtpadgkkeihhneaaSettle2
import Derived.Test.YtpadgkkeihhneaaPart10
import Derived.WalkLawsBesides
import Derived.Defers
namespace Go.Proofs.Ytpadgkkeihhneaa
set_option maxRecDepth 100000
set_option linter.unusedSimpArgs false
set_option linter.unusedVariables false
open Go.ChangeShapes Go.WideShapes Go.ChangeAt Go.RowKit
set_option linter.unusedVariables false

theorem Does.then {w w1 w2 : World} {d : Nat} {F F1 : List Nat} {D : DS} {v : Value} {e : Ending} (ht : Touch F w w1) (hF : ∀ j ∈ F1, j ∈ F ∨ w.heap.size ≤ j) (h : Does w1 d F1 D v e w2) : Does w d F D v e w2 := by
  obtain ⟨he, F2, hd, ht2, hF2⟩ := h
  exact ⟨he, F2, hd, ht.next ht2 hF, fun j hj => by
    rcases hF2 j hj with h | h
    · exact hF j h
    · exact .inr (Nat.le_trans ht.size h)⟩
theorem Does.as {w w1 : World} {d : Nat} {F : List Nat} {D : DS} {u v : Value} {e : Ending} (h : Does w d F D u e w1) : ∃ F', Disk w1 d F' D ∧ Touch F w w1 ∧ ∀ j ∈ F', j ∈ F ∨ w.heap.size ≤ j := h.2

theorem sync1_c (i : Nat) (w : World) : Calls Try.prog 44 #[.int .i64 i] w fun e w' => e = .returned (.int .i64 128) ∧ w = w' := by
  go_enter Try.func44, Try.ntmps44
  go_wp2_with fail
  go_ret
  exact ⟨rfl, rfl⟩
set_option maxHeartbeats 1000000 in
theorem sync_c (d : Nat) (F : List Nat) (D : DS) (w : World) (h : Disk w d F D) :
    Calls Try.prog 26 #[.pointer (some ⟨d, 0, none⟩)] w (Does w d F (dSync D).1 (.int .i64 (dSync D).2)) := by
  obtain ⟨gv, pv, h⟩ := h
  obtain ⟨c0, c1, c2, c3, f0, f1, f2, f3⟩ := h.cells
  have H := hide h
  clear h
  by_cases hf : D.failed = true
  · have hr : dSync D = (D, 10) := by unfold dSync; rw [if_pos hf]
    rw [hr]
    rw [hf] at c3
    clear hr hf
    go_enter Try.func26, Try.ntmps26
    go_wp2_with fail
    go_ret
    exact ⟨rfl, F, ⟨gv, pv, H.out⟩, Touch.refl _ _, fun j hj => .inl hj⟩
  · rw [Bool.not_eq_true] at hf
    rw [hf] at c3
    have hburn := burn_c d F D w ⟨gv, pv, H.out⟩
    by_cases hb : (dBurn D).2 = 0
    · have hr : dSync D = (dSettle (dBurn D).1 (fun _ => 128), 0) := by unfold dSync; rw [if_neg (by simp [hf]), if_pos hb]
      rw [hr]
      rw [hb] at hburn
      clear hr hf
      go_enter Try.func26, Try.ntmps26
      go_wp2_with fail
      refine hburn.mono ?_
      rintro e w1 ⟨rfl, F1, hd1, ht1, hF1⟩
      have hset := settle_sync d F1 (dBurn D).1 (fun _ => 128) w1 hd1 (fun i wr _ => sync1_c i wr)
      clear hburn hd1 hb c0 c1 c2 c3 f0 f1 f2 f3
      go_wp2_with fail
      refine hset.mono ?_
      rintro e w2 ⟨rfl, hs⟩
      clear hset
      go_wp2_with fail
      go_ret
      exact Does.then ht1 hF1 ⟨rfl, hs⟩
    · have hr : dSync D = dBurn D := by unfold dSync; rw [if_neg (by simp [hf]), if_neg hb]
      rw [hr]
      clear hr hf
      have hb0 : ((dBurn D).2 == 0) = false := by simpa using hb
      generalize hB : dBurn D = B at *
      obtain ⟨D1, z⟩ := B
      dsimp only at *
      clear hB
      go_enter Try.func26, Try.ntmps26
      go_wp2_with fail
      refine hburn.mono ?_
      rintro e w1 ⟨rfl, hs⟩
      clear hburn c0 c1 c2 c3 f0 f1 f2 f3
      go_wp2_with fail
      go_ret
      exact ⟨rfl, hs⟩
end Go.Proofs.Ytpadgkkeihhneaa
/- Crash. -/
namespace Go.Proofs.Ytpadgkkeihhneaa
set_option maxRecDepth 100000
set_option linter.unusedSimpArgs false
set_option linter.unusedVariables false
open Go.ChangeShapes Go.WideShapes Go.ChangeAt Go.RowKit
set_option linter.unusedVariables false

theorem crash1_c (b d : Nat) (F : List Nat) (D : DS) (u : FrameMode) (w : World) (hb : w.cell? ⟨b, 0, none⟩ = some (.pointer (some ⟨d, 0, none⟩))) (hbF : b ≠ d) (h : Disk w d F D) :
    CallsD Try.prog 28 #[.pointer (some ⟨b, 0, none⟩)] u w fun e u' w' => u' = u ∧ Does w d F { D with fuse := -1, failed := false } (.tuple #[]) e w' := by
  obtain ⟨gv, pv, h⟩ := h
  obtain ⟨c0, c1, c2, c3, f0, f1, f2, f3⟩ := h.cells
  have H := hide h
  clear h
  go_enter_d Try.func28, Try.ntmps28
  go_wp2_with fail
  go_end0
  have H2 := (H.out.fuse (-1) ⟨by omega, by omega⟩).failed false
  exact ⟨rfl, F, ⟨gv, pv, H2⟩, (touch_set H.out.inF 2 _).set (.inl H.out.inF) 3 _, fun j hj => .inl hj⟩

/-- A slice of ints. -/
def Is (w : World) (v : Value) (l : List Int) : Prop :=
  ∃ A c, v = .slice A l.length c ∧ l.length ≤ c ∧ c ≤ maxLen ∧ (∀ x ∈ l, -9223372036854775808 ≤ x ∧ x ≤ 9223372036854775807) ∧ (0 < l.length → ∃ g o, A = some ⟨g, o, none⟩ ∧ g < w.heap.size ∧ w.rangeAt g o (l.map (.int .i64 ·)))
theorem Is.nil (w : World) : Is w (.slice none 0 0) [] := ⟨none, 0, rfl, Nat.le_refl _, by unfold maxLen; omega, (fun x hx => by cases hx), fun h => by simp at h⟩
theorem Is.touch {S : List Nat} {w w' : World} {v : Value} {l : List Int} (h : Is w v l) (k : Touch S w w') (hv : ∀ j, v.ownBlock = some j → j ∉ S) : Is w' v l := by
  obtain ⟨A, c, rfl, h1, h2, h3, h4⟩ := h
  refine ⟨A, c, rfl, h1, h2, h3, fun hl => ?_⟩
  obtain ⟨g, o, rfl, hg, hr⟩ := h4 hl
  have hb := k.block g hg (hv g rfl)
  exact ⟨g, o, rfl, Nat.lt_of_lt_of_le hg k.size, fun j u hj => (World.cell?_of_block hb).trans (hr j u hj)⟩
theorem Is.step {w w' : World} {v : Value} {l : List Int} (h : Is w v l) (hb : Below w.heap.size w w') : Is w' v l := h.touch (Touch.below hb []) (by simp)

theorem crash2_c (b : Nat) (s : Value) (l : List Int) (i : Nat) (w : World) (hb : w.cell? ⟨b, 0, none⟩ = some s) (h : Is w s l) :
    Calls Try.prog 30 #[.int .i64 i, .pointer (some ⟨b, 0, none⟩)] w fun e w' => e = .returned (.int .i64 (l.getD i 0)) ∧ w = w' := by
  obtain ⟨A, c, rfl, h1, h2, h3, h4⟩ := h
  by_cases hi : i < l.length
  · obtain ⟨g, o, rfl, hg, hr⟩ := h4 (by omega)
    have hc := hr i (.int .i64 l[i]) (by simp [hi])
    have e : l.getD i 0 = l[i] := by simp [List.getD, hi]
    rw [e]
    generalize l[i] = x at *
    generalize hn : l.length = n at *
    clear hr h4 h3 e
    go_enter Try.func30, Try.ntmps30
    go_wp2_with fail
    go_ret
    exact ⟨rfl, rfl⟩
  · have e : l.getD i 0 = 0 := by simp [List.getD, List.getElem?_eq_none (Nat.le_of_not_lt hi)]
    rw [e]
    generalize hn : l.length = n at *
    clear h4 h3 e
    go_enter Try.func30, Try.ntmps30
    go_wp2_with fail
    go_ret
    exact ⟨rfl, rfl⟩
set_option maxHeartbeats 1000000 in
theorem crash_c (d : Nat) (F : List Nat) (D : DS) (s : Value) (l : List Int) (w : World) (h : Disk w d F D) (hs : Is w s l) (hF : ∀ j, s.ownBlock = some j → j ∉ F) :
    Calls Try.prog 10 #[.pointer (some ⟨d, 0, none⟩), s] w (Does w d F (dCrash D l) (.tuple #[])) := by
  have hmf : ∀ (fn : Fn) (first cap : Array Value) (w : World), (Instr.makeFunc fn first cap).run Try.prog w = .ok (.func fn first cap) w := fun _ _ _ _ => rfl
  have H := hide h
  have HS := hide hs
  clear h hs
  obtain ⟨A, c, hsv⟩ : ∃ A c, s = .slice A l.length c := by obtain ⟨A, c, e, _⟩ := HS.out; exact ⟨A, c, e⟩
  generalize hn : l.length = n at hsv
  clear hn
  subst hsv
  go_enter_defers Try.func10, Try.ntmps10
  go_wp2_with fail
  generalize hw1 : (w.alloc (Obj.cells #[.pointer (some ⟨d, 0, none⟩)] _)).alloc (Obj.cells #[Value.slice A n c] _) = w1
  have kw : Below w.heap.size w w1 := by rw [← hw1]; exact ((Below.refl _ _).alloc (Nat.le_refl _) _).alloc (by simp) _
  have hb0 : w1.cell? ⟨w.heap.size, 0, none⟩ = some (.pointer (some ⟨d, 0, none⟩)) := by rw [← hw1]; simp [go_sem]
  have hb1 : w1.cell? ⟨w.heap.size + 1, 0, none⟩ = some (Value.slice A n c) := by rw [← hw1]; simp [go_sem]
  have hsz : w1.heap.size = w.heap.size + 2 := by rw [← hw1]; simp
  have hdisk := H.out.step kw
  have hsv := HS.out.step kw
  clear hw1
  have hset := settle_crash (w.heap.size + 1) d F D (fun i => l.getD i 0) w1 hdisk (fun i wr ht => by
    have hlt : ∀ j ∈ F, j < w.heap.size := by obtain ⟨gv, pv, h⟩ := H.out; exact h.lt
    exact crash2_c (w.heap.size + 1) _ l i wr ((World.cell?_of_block (ht.block (w.heap.size + 1) (by omega) (fun hh => by have := hlt _ hh; omega))).trans hb1) (hsv.touch ht hF))
  refine hset.mono ?_
  rintro e w2 ⟨rfl, F2, hd2, ht2, hF2⟩
  clear hset
  go_wp2_with fail
  have hlt : ∀ j ∈ F, j < w.heap.size := by obtain ⟨gv, pv, h⟩ := H.out; exact h.lt
  have hinF : d < w.heap.size := by obtain ⟨gv, pv, h⟩ := H.out; exact hlt _ h.inF
  refine leaves_cons (f := 28) (args := #[.pointer (some ⟨w.heap.size, 0, none⟩)]) (by simp) (by simp [go_sem]) ?_
  refine (crash1_c w.heap.size d F2 _ .returning w2 ((World.cell?_of_block (ht2.block w.heap.size (by omega) (fun hh => by have := hlt _ hh; omega))).trans hb0) (by omega) hd2).mono ?_
  rintro e u' w3 ⟨rfl, hdoes⟩
  have hall := Does.then ((Touch.below kw F).trans ht2) (fun j hj => by
    rcases hF2 j hj with h | h
    · exact .inl h
    · exact .inr (by omega)) hdoes
  obtain ⟨rfl, hall⟩ := hall
  exact ⟨_, results_none rfl _ _ _, rfl, hall⟩
end Go.Proofs.Ytpadgkkeihhneaa
