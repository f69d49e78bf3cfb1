/- The walk of ChecksumCombines. -/
import Derived.Test.YtmnebingmedloaaAwake
import Derived.Test.YtmnebingmedloaaCombine
namespace Go.Proofs.Ytmnebingmedloaa
open Go.ChangeShapes Go.WideShapes Go.ChangeAt Go.RowKit
set_option linter.unusedVariables false

set_option maxHeartbeats 2000000 in
theorem walkChecksumCombines (W : World) (v0 : Value) (l0 : List UInt8) (h0 : Bs W v0 l0) (v1 : Value) (l1 : List UInt8) (h1 : Bs W v1 l1) :
    Calls Try.prog 8 #[v0, v1] W fun e w' => e = .returned (.bool true) ∧ Below W.heap.size W w' := by
  obtain ⟨A, ca, rfl, hca, hma⟩ := h0.form
  obtain ⟨B, cb, rfl, hcb, hmb⟩ := h1.form
  have H0 := hide h0
  have H1 := hide h1
  have HL0 : Hid (¬ 200 < l0.length → l0.length ≤ 200) := by unfold Hid; omega
  have HL1 : Hid (¬ 200 < l1.length → l1.length ≤ 200) := by unfold Hid; omega
  have HQ : Hid (stN (8 * l1.length) (upd 0#32 l0) ^^^ upd 0#32 l1 = upd 0#32 (l0 ++ l1)) := hide (combine_law l0 l1)
  have HU := hide (update_law l0 l1)
  clear h0 h1
  generalize hna : l0.length = na at *
  generalize hnb : l1.length = nb at *
  have HNA := hide hna
  have HNB := hide hnb
  clear hna hnb
  by_cases c0 : 200 < na
  · clear HL0 HL1 HQ HU HNA HNB
    go_enter Try.func8, Try.ntmps8
    go_wp2_with fail
    refine (awake_c _).mono ?_
    rintro e w1 ⟨rfl, hb⟩
    go_wp2_with fail
    go_ret
    exact ⟨rfl, hb⟩
  by_cases c1 : 200 < nb
  · clear HL0 HL1 HQ HU HNA HNB
    go_enter Try.func8, Try.ntmps8
    go_wp2_with fail
    refine (awake_c _).mono ?_
    rintro e w1 ⟨rfl, hb⟩
    go_wp2_with fail
    go_ret
    exact ⟨rfl, hb⟩
  replace HL0 := hide (HL0.out c0)
  replace HL1 := hide (HL1.out c1)
  have HC1 : Hid ((([] : List UInt8)).length + l0.length ≤ 140737488355328) := by have := HL0.out; have := HNA.out; unfold Hid; simp; omega
  have HC2 : Hid (([] ++ l0 : List UInt8).length + l1.length ≤ 140737488355328) := by have := HL0.out; have := HNA.out; have := HL1.out; have := HNB.out; unfold Hid; simp; omega
  go_enter Try.func8, Try.ntmps8
  go_wp2_with fail
  refine (awake_c _).mono ?_
  rintro e wa ⟨rfl, hb⟩
  replace H0 := hide (H0.out.step hb)
  replace H1 := hide (H1.out.step hb)
  have HB := hide hb
  clear hb
  have tok0 : True := trivial
  go_wp2_with (first
    | (at_builtin; have _t := tok0; clear _t; refine wpList_append_bs rfl _ _ rfl wa.heap.size (l := []) (m := l0) rfl (Ow.made [] #[] rfl (Nat.le_refl _) (by simp)) rfl (H0.out.alloc _) HC1.out (by simp) ?_; intro v1 w1 how hg hw; clear hw tok0; have HB1 := hide (below_grown ((Below.refl wa.heap.size wa).alloc (Nat.le_refl _) _) hg (by simp) (Nat.le_refl _)); have HO := hide how; clear how hg)
    | (at_builtin; refine wpList_append_bs rfl _ _ rfl wa.heap.size rfl HO.out rfl (H1.out.step HB1.out) HC2.out HB1.out.size ?_; intro v2 w2 how hg hw; have HB2 := hide (below_append HB1.out HO.out hg HB1.out.size (Nat.le_refl _)); have HO2 := hide how; clear how hg hw))
  have HO3 : Hid (Bs w2 v2 (l0 ++ l1)) := HO2.out.bs
  refine (sum_c _ (l0 ++ l1) _ HO3.out).mono ?_
  rintro e w3 ⟨rfl, hb3⟩
  have hs := HB2.out.trans (hb3.mono HB2.out.size)
  replace H0 := hide (H0.out.step hs)
  replace H1 := hide (H1.out.step hs)
  replace HB := hide (HB.out.trans (hs.mono HB.out.size))
  clear hs hb3 HO HO2 HO3 HB1 HB2
  have q1 : (u32 (stN (8 * nb) (upd 0#32 l0) ^^^ upd 0#32 l1) == u32 (upd 0#32 (l0 ++ l1))) = true := by rw [HQ.out]; simp
  have q2 : (u32 (upd (upd 0#32 l0) l1) == u32 (upd 0#32 (l0 ++ l1))) = true := by rw [HU.out]; simp
  go_wp2_with fail
  refine (sum_c _ l0 _ H0.out).mono ?_
  rintro e w4 ⟨rfl, hb4⟩
  replace H0 := hide (H0.out.step hb4)
  replace H1 := hide (H1.out.step hb4)
  replace HB := hide (HB.out.trans (hb4.mono HB.out.size))
  clear hb4
  go_wp2_with fail
  refine (sum_c _ l1 _ H1.out).mono ?_
  rintro e w5 ⟨rfl, hb5⟩
  replace H0 := hide (H0.out.step hb5)
  replace H1 := hide (H1.out.step hb5)
  replace HB := hide (HB.out.trans (hb5.mono HB.out.size))
  clear hb5
  go_wp2_with fail
  refine (combine_c (upd 0#32 l0) (upd 0#32 l1) nb (by have := HL1.out; omega) _).mono ?_
  rintro e w6 ⟨rfl, hb6⟩
  replace H0 := hide (H0.out.step hb6)
  replace H1 := hide (H1.out.step hb6)
  replace HB := hide (HB.out.trans (hb6.mono HB.out.size))
  clear hb6
  go_wp2_with fail
  refine (sum_c _ l0 _ H0.out).mono ?_
  rintro e w7 ⟨rfl, hb7⟩
  replace H1 := hide (H1.out.step hb7)
  replace HB := hide (HB.out.trans (hb7.mono HB.out.size))
  clear hb7
  go_wp2_with fail
  refine (update_c (upd 0#32 l0) _ l1 _ H1.out).mono ?_
  rintro e w8 ⟨rfl, hb8⟩
  replace HB := hide (HB.out.trans (hb8.mono HB.out.size))
  clear hb8
  go_wp2_with fail
  go_ret
  exact ⟨rfl, HB.out⟩
end Go.Proofs.Ytmnebingmedloaa
