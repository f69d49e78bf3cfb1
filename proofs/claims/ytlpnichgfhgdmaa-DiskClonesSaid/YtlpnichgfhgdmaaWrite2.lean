/- Write, every case. -/
import Derived.Test.YtlpnichgfhgdmaaWrite
namespace Go.Proofs.Ytlpnichgfhgdmaa
open Go.ChangeShapes Go.WideShapes Go.ChangeAt Go.RowKit
set_option linter.unusedVariables false

theorem Does.same {w : World} {d : Nat} {F : List Nat} {D : DS} (h : Disk w d F D) (v : Value) : Does w d F D v (.returned v) w := ⟨rfl, F, h, Touch.refl _ _, fun j hj => .inl hj⟩
set_option maxHeartbeats 4000000 in
theorem write_c (d : Nat) (F : List Nat) (D : DS) (p : Int) (v : Value) (data : List UInt8) (w : World) (h : Disk w d F D) (hv : Bs w v data) (hvF : data ≠ [] → ∀ j, v.ownBlock = some j → j ∉ F ∧ j < w.heap.size) (hpl : D.pend.length ≤ 1000000) :
    Calls Try.prog 19 #[.pointer (some ⟨d, 0, none⟩), .int .i64 p, v] w (Does w d F (dWrite D p data).1 (.int .i64 (dWrite D p data).2)) := by
  obtain ⟨A, n, c, rfl, hn, hnc, hcm⟩ := hv.formN
  have H := hide h
  obtain ⟨gv, pv, hd⟩ := h
  obtain ⟨c0, c1, c2, c3, f0, f1, f2, f3⟩ := hd.cells
  by_cases h1 : D.failed = true
  · have hr : dWrite D p data = (D, 10) := by unfold dWrite; rw [if_pos h1]
    rw [hr]
    rw [h1] at c3
    clear hd hr hv hvF
    go_enter Try.func19, Try.ntmps19
    go_wp2_with fail
    go_ret
    exact Does.same H.out _
  have h1f : D.failed = false := by simpa using h1
  rw [h1f] at c3
  by_cases h2 : data.length = 128
  · have hn128 : n = 128 := by rw [hn.out, h2]
    subst hn128
    cases hth : thereB D p with
    | false =>
      have hr : dWrite D p data = (D, 2) := by unfold dWrite; simp [h1f, h2, hth]
      rw [hr]
      have HTC := hide (there_c d F D p w H.out)
      rw [hth] at HTC
      clear hd hr hv hvF hth h2 h1 h1f
      go_enter Try.func19, Try.ntmps19
      go_wp2_with fail
      refine HTC.out.mono ?_
      rintro e w' ⟨rfl, rfl⟩
      clear HTC
      go_wp2_with fail
      go_ret
      exact Does.same H.out _
    | true =>
      obtain ⟨hp0, hp1⟩ := (thereB_iff D p).1 hth
      obtain ⟨q, rfl⟩ : ∃ q : Nat, p = q := ⟨p.toNat, by omega⟩
      by_cases h4 : (dBurn D).2 = 0
      · have hr : (dWrite D (q : Int) data).2 = 0 := by unfold dWrite; simp [h1f, h2, hth, h4]
        rw [hr]
        exact write_ok d F D q _ data w H.out hv (hvF (by intro e; rw [e] at h2; simp at h2)) h1f h2 (by omega) h4 hpl
      · have hr : dWrite D (q : Int) data = ((dBurn D).1, (dBurn D).2) := by unfold dWrite; simp [h1f, h2, hth, h4]
        rw [hr]
        have hb10 : ((dBurn D).2 == 0) = false := by simpa using h4
        have HTC := hide (there_c d F D (q : Int) w H.out)
        rw [hth] at HTC
        have HB := hide (burn_c d F D w H.out)
        clear hd hr hv hvF hth h2 h1 h1f h4
        generalize (dBurn D).1 = D1 at *
        generalize (dBurn D).2 = code at *
        go_enter Try.func19, Try.ntmps19
        go_wp2_with fail
        refine HTC.out.mono ?_
        rintro e w' ⟨rfl, rfl⟩
        clear HTC
        go_wp2_with fail
        refine HB.out.mono ?_
        rintro e w1 ⟨rfl, h1⟩
        have H1 := hide h1
        clear h1 HB
        go_wp2_with fail
        go_ret
        exact ⟨rfl, H1.out⟩
  · have hr : dWrite D p data = (D, 1) := by unfold dWrite; simp [h1f, h2]
    rw [hr]
    have hne : ((n : Int) == 128) = false := by have := hn.out; simp; omega
    clear hd hr hv hvF h2 h1 h1f
    go_enter Try.func19, Try.ntmps19
    go_wp2_with fail
    go_ret
    exact Does.same H.out _
end Go.Proofs.Ytlpnichgfhgdmaa
