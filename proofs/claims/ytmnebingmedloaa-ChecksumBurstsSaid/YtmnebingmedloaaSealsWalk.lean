/- The walk of ChecksumSeals. -/
import Derived.Test.YtmnebingmedloaaAwake
namespace Go.Proofs.Ytmnebingmedloaa
open Go.ChangeShapes Go.WideShapes Go.ChangeAt Go.RowKit
set_option linter.unusedVariables false

theorem seal_len (l : List UInt8) : (seal_ l).length = l.length + 4 := by simp [seal_, le4]
theorem open_seal (l : List UInt8) : open_ (seal_ l) = some l := by
  unfold open_
  have h : (seal_ l).take ((seal_ l).length - 4) = l := by rw [seal_len]; simp [seal_]
  rw [h, if_pos ⟨by rw [seal_len]; omega, rfl⟩]
theorem open_some {l m : List UInt8} (h : open_ l = some m) : seal_ m = l := by
  unfold open_ at h
  split at h
  · rename_i h1
    injection h with h
    rw [← h]; exact h1.2
  · cases h
theorem open_len {l m : List UInt8} (h : open_ l = some m) : m.length ≤ l.length := by
  have := congrArg List.length (open_some h)
  rw [seal_len] at this
  omega

set_option maxHeartbeats 2000000 in
theorem walkChecksumSeals (W : World) (v0 : Value) (l0 : List UInt8) (h0 : Bs W v0 l0) (v1 : Value) (l1 : List UInt8) (h1 : Bs W v1 l1) :
    Calls Try.prog 6 #[v0, v1] W fun e w' => e = .returned (.bool true) ∧ Below W.heap.size W w' := by
  obtain ⟨A, ca, rfl, hca, hma⟩ := h0.form
  obtain ⟨B, cb, rfl, hcb, hmb⟩ := h1.form
  have H0 := hide h0
  have H1 := hide h1
  have HL0 : Hid (¬ 200 < l0.length → l0.length ≤ 200) := by unfold Hid; omega
  have HL1 : Hid (¬ 200 < l1.length → l1.length ≤ 200) := by unfold Hid; omega
  clear h0 h1
  by_cases c0 : 200 < l0.length
  · clear HL0 HL1
    generalize l0.length = n at *
    generalize l1.length = m at *
    go_enter Try.func6, Try.ntmps6
    go_wp2_with fail
    refine (awake_c _).mono ?_
    rintro e w1 ⟨rfl, hb⟩
    go_wp2_with fail
    go_ret
    exact ⟨rfl, hb⟩
  by_cases c1 : 200 < l1.length
  · clear HL0 HL1
    generalize l0.length = n at *
    generalize l1.length = m at *
    go_enter Try.func6, Try.ntmps6
    go_wp2_with fail
    refine (awake_c _).mono ?_
    rintro e w1 ⟨rfl, hb⟩
    go_wp2_with fail
    go_ret
    exact ⟨rfl, hb⟩
  replace HL0 := hide (HL0.out c0)
  replace HL1 := hide (HL1.out c1)
  generalize hn0 : l0.length = n0 at c0 hca H0
  generalize hn1 : l1.length = n1 at c1 hcb H1
  clear hn0 hn1
  go_enter Try.func6, Try.ntmps6
  go_wp2_with fail
  refine (awake_c _).mono ?_
  rintro e w1 ⟨rfl, hb⟩
  replace H0 := hide (H0.out.step hb)
  replace H1 := hide (H1.out.step hb)
  have HB := hide hb
  clear hb
  go_wp2_with fail
  refine (seal_c _ l0 _ H0.out (by have := HL0.out; omega)).mono ?_
  rintro e w2 ⟨vs, rfl, hos, hbs⟩
  replace H0 := hide (H0.out.step hbs)
  replace H1 := hide (H1.out.step hbs)
  replace HB := hide (HB.out.trans (hbs.mono HB.out.size))
  have HS := hide hos.bs
  clear hos hbs
  go_wp2_with fail
  refine (open_c _ _ _ HS.out (by rw [seal_len]; have := HL0.out; omega)).mono ?_
  rintro e w2 ⟨vc, c, rfl, hoc, hbc, hc⟩
  rw [open_seal] at hc hoc
  obtain rfl : c = 0 := hc
  replace H0 := hide (H0.out.step hbc)
  replace H1 := hide (H1.out.step hbc)
  replace HS := hide (HS.out.step hbc)
  replace HB := hide (HB.out.trans (hbc.mono HB.out.size))
  have HC : Hid (Bs w2 vc l0) := hide hoc.bs
  clear hoc hbc
  generalize hv0 : Value.slice A n0 ca = v0 at *
  have HV0 := hide hv0
  clear hv0
  go_wp2_with fail
  refine wp_region_held_drew (S := (fun w' => (convert 23 9 vs).run Try.prog w' = .ok (.string ⟨(seal_ l0).toArray⟩) w' ∧ (convert 23 9 vc).run Try.prog w' = .ok (.string ⟨(l0).toArray⟩) w' ∧ (convert 23 9 v0).run Try.prog w' = .ok (.string ⟨(l0).toArray⟩) w')) (by kernel_rfl) (⟨run_string_bs HS.out.drew, run_string_bs HC.out.drew, run_string_bs H0.out.drew⟩) (fun hS0 => ?_)
  refine wpAnyH_take (i := 0) (v := ?vr0) rfl (by kernel_rfl) (by kernel_rfl) (by kernel_rfl) (fun _ _ _ h => h) (Or.inl ⟨by rfl, ?hyr0⟩) (by assumption) ?restr0
  case hyr0 => (intro w hSw; (try dsimp only at hSw); go_simp; first | done | (with_reducible rfl))
  try simp only [Act.put, List.getElem_toArray, List.getElem_cons_zero, List.getElem_cons_succ, List.setIfInBounds_toArray, List.set_cons_zero, List.set_cons_succ]
  refine wpAnyH_take (i := 1) (v := ?vr1) rfl (by kernel_rfl) (by kernel_rfl) (by kernel_rfl) (fun _ _ _ h => h) (Or.inl ⟨by rfl, ?hyr1⟩) (by assumption) ?restr1
  case hyr1 => (intro w hSw; (try dsimp only at hSw); go_simp; first | done | (with_reducible rfl))
  try simp only [Act.put, List.getElem_toArray, List.getElem_cons_zero, List.getElem_cons_succ, List.setIfInBounds_toArray, List.set_cons_zero, List.set_cons_succ]
  refine wpAnyH_take (i := 2) (v := ?vr2) rfl (by kernel_rfl) (by kernel_rfl) (by kernel_rfl) (fun _ _ _ h => h) (Or.inl ⟨by rfl, ?hyr2⟩) (by assumption) ?restr2
  case hyr2 => (intro w hSw; (try dsimp only at hSw); go_simp; first | done | (with_reducible rfl))
  try simp only [Act.put, List.getElem_toArray, List.getElem_cons_zero, List.getElem_cons_succ, List.setIfInBounds_toArray, List.set_cons_zero, List.set_cons_succ]
  refine wpAnyH_ready (rs := [3]) (by kernel_rfl) (by simp) ?_
  refine AllReadyH.cons rfl (fun K hK => ?_) AllReadyH.nil
  go_simp
  refine (refSeal_c _ l0 _ H0.out.drew (by have := HL0.out; omega)).mono ?_
  rintro e w3 ⟨vr, rfl, hor, hbr⟩
  refine hK.out _ _ (⟨run_string_bs (HS.out.drew.step hbr), run_string_bs (HC.out.drew.step hbr), run_string_bs (H0.out.drew.step hbr)⟩) (fun hS3 => ?_)
  clear hK K
  refine heldMono (S' := (fun w' => ((convert 23 9 vs).run Try.prog w' = .ok (.string ⟨(seal_ l0).toArray⟩) w' ∧ (convert 23 9 vc).run Try.prog w' = .ok (.string ⟨(l0).toArray⟩) w' ∧ (convert 23 9 v0).run Try.prog w' = .ok (.string ⟨(l0).toArray⟩) w') ∧ (convert 23 9 vr).run Try.prog w' = .ok (.string ⟨(seal_ l0).toArray⟩) w')) (fun _ h => h.1) _ _ _ _ ?_
  have hT3 : (fun w' => ((convert 23 9 vs).run Try.prog w' = .ok (.string ⟨(seal_ l0).toArray⟩) w' ∧ (convert 23 9 vc).run Try.prog w' = .ok (.string ⟨(l0).toArray⟩) w' ∧ (convert 23 9 v0).run Try.prog w' = .ok (.string ⟨(l0).toArray⟩) w') ∧ (convert 23 9 vr).run Try.prog w' = .ok (.string ⟨(seal_ l0).toArray⟩) w') _ := ⟨⟨run_string_bs (HS.out.drew.step hbr), run_string_bs (HC.out.drew.step hbr), run_string_bs (H0.out.drew.step hbr)⟩, run_string_bs hor.bs⟩
  try simp only [Act.put, List.getElem_toArray, List.getElem_cons_zero, List.getElem_cons_succ, List.setIfInBounds_toArray, List.set_cons_zero, List.set_cons_succ]
  refine wpAnyH_take (i := 4) (v := ?vr4) rfl (by kernel_rfl) (by kernel_rfl) (by kernel_rfl) (fun _ _ _ h => h) (Or.inl ⟨by rfl, ?hyr4⟩) (by assumption) ?restr4
  case hyr4 => (intro w hSw; (try dsimp only at hSw); go_simp; first | done | (with_reducible rfl))
  try simp only [Act.put, List.getElem_toArray, List.getElem_cons_zero, List.getElem_cons_succ, List.setIfInBounds_toArray, List.set_cons_zero, List.set_cons_succ]
  refine wpAnyH_take (i := 5) (v := ?vr5) rfl (by kernel_rfl) (by kernel_rfl) (by kernel_rfl) (fun _ _ _ h => h) (Or.inl ⟨by rfl, ?hyr5⟩) (by assumption) ?restr5
  case hyr5 => (intro w hSw; (try dsimp only at hSw); go_simp; first | done | (with_reducible rfl))
  try simp only [Act.put, List.getElem_toArray, List.getElem_cons_zero, List.getElem_cons_succ, List.setIfInBounds_toArray, List.set_cons_zero, List.set_cons_succ]
  refine wpAnyH_take (i := 6) (v := ?vr6) rfl (by kernel_rfl) (by kernel_rfl) (by kernel_rfl) (fun _ _ _ h => h) (Or.inl ⟨by rfl, ?hyr6⟩) (by assumption) ?restr6
  case hyr6 => (intro w hSw; (try dsimp only at hSw); go_simp; first | done | (with_reducible rfl))
  try simp only [Act.put, List.getElem_toArray, List.getElem_cons_zero, List.getElem_cons_succ, List.setIfInBounds_toArray, List.set_cons_zero, List.set_cons_succ]
  refine wpAnyH_take (i := 7) (v := ?vr7) rfl (by kernel_rfl) (by kernel_rfl) (by kernel_rfl) (fun _ _ _ h => h) (Or.inl ⟨by rfl, ?hyr7⟩) (by assumption) ?restr7
  case hyr7 => (intro w hSw; (try dsimp only at hSw); go_simp; first | done | (with_reducible rfl))
  try simp only [Act.put, List.getElem_toArray, List.getElem_cons_zero, List.getElem_cons_succ, List.setIfInBounds_toArray, List.set_cons_zero, List.set_cons_succ]
  refine wpAnyH_take (i := 8) (v := ?vr8) rfl (by kernel_rfl) (by kernel_rfl) (by kernel_rfl) (fun _ _ _ h => h) (Or.inl ⟨by rfl, ?hyr8⟩) (by assumption) ?restr8
  case hyr8 => (intro w hSw; (try dsimp only at hSw); go_simp; first | done | (with_reducible rfl))
  try simp only [Act.put, List.getElem_toArray, List.getElem_cons_zero, List.getElem_cons_succ, List.setIfInBounds_toArray, List.set_cons_zero, List.set_cons_succ]
  refine wpAnyH_take (i := 9) (v := ?vr9) rfl (by kernel_rfl) (by kernel_rfl) (by kernel_rfl) (fun _ _ _ h => h) (Or.inl ⟨by rfl, ?hyr9⟩) (by assumption) ?restr9
  case hyr9 => (intro w hSw; (try dsimp only at hSw); go_simp; first | done | (with_reducible rfl))
  try simp only [Act.put, List.getElem_toArray, List.getElem_cons_zero, List.getElem_cons_succ, List.setIfInBounds_toArray, List.set_cons_zero, List.set_cons_succ]
  refine wpAnyH_take (i := 10) (v := ?vr10) rfl (by kernel_rfl) (by kernel_rfl) (by kernel_rfl) (fun _ _ _ h => h) (Or.inl ⟨by rfl, ?hyr10⟩) (by assumption) ?restr10
  case hyr10 => (intro w hSw; (try dsimp only at hSw); go_simp; first | done | (with_reducible rfl))
  try simp only [Act.put, List.getElem_toArray, List.getElem_cons_zero, List.getElem_cons_succ, List.setIfInBounds_toArray, List.set_cons_zero, List.set_cons_succ]
  refine wpAnyH_take (i := 11) (v := ?vr11) rfl (by kernel_rfl) (by kernel_rfl) (by kernel_rfl) (fun _ _ _ h => h) (Or.inl ⟨by rfl, ?hyr11⟩) (by assumption) ?restr11
  case hyr11 => (intro w hSw; (try dsimp only at hSw); go_simp; first | done | (with_reducible rfl))
  try simp only [Act.put, List.getElem_toArray, List.getElem_cons_zero, List.getElem_cons_succ, List.setIfInBounds_toArray, List.set_cons_zero, List.set_cons_succ]
  refine wpAnyH_take (i := 12) (v := ?vr12) rfl (by kernel_rfl) (by kernel_rfl) (by kernel_rfl) (fun _ _ _ h => h) (Or.inl ⟨by rfl, ?hyr12⟩) (by assumption) ?restr12
  case hyr12 => (intro w hSw; (try dsimp only at hSw); go_simp; first | done | (with_reducible rfl))
  try simp only [Act.put, List.getElem_toArray, List.getElem_cons_zero, List.getElem_cons_succ, List.setIfInBounds_toArray, List.set_cons_zero, List.set_cons_succ]
  refine wpAnyH_take (i := 13) (v := ?vr13) rfl (by kernel_rfl) (by kernel_rfl) (by kernel_rfl) (fun _ _ _ h => h) (Or.inl ⟨by rfl, ?hyr13⟩) (by assumption) ?restr13
  case hyr13 => (intro w hSw; (try dsimp only at hSw); go_simp; first | done | (with_reducible rfl))
  try simp only [Act.put, List.getElem_toArray, List.getElem_cons_zero, List.getElem_cons_succ, List.setIfInBounds_toArray, List.set_cons_zero, List.set_cons_succ]
  refine wpAnyH_take (i := 14) (v := ?vr14) rfl (by kernel_rfl) (by kernel_rfl) (by kernel_rfl) (fun _ _ _ h => h) (Or.inl ⟨by rfl, ?hyr14⟩) (by assumption) ?restr14
  case hyr14 => (intro w hSw; (try dsimp only at hSw); go_simp; first | done | (with_reducible rfl))
  try simp only [Act.put, List.getElem_toArray, List.getElem_cons_zero, List.getElem_cons_succ, List.setIfInBounds_toArray, List.set_cons_zero, List.set_cons_succ]
  refine wpAnyH_take (i := 15) (v := ?vr15) rfl (by kernel_rfl) (by kernel_rfl) (by kernel_rfl) (fun _ _ _ h => h) (Or.inl ⟨by rfl, ?hyr15⟩) (by assumption) ?restr15
  case hyr15 => (intro w hSw; (try dsimp only at hSw); go_simp; first | done | (with_reducible rfl))
  try simp only [Act.put, List.getElem_toArray, List.getElem_cons_zero, List.getElem_cons_succ, List.setIfInBounds_toArray, List.set_cons_zero, List.set_cons_succ]
  refine wpAnyH_take (i := 16) (v := ?vr16) rfl (by kernel_rfl) (by kernel_rfl) (by kernel_rfl) (fun _ _ _ h => h) (Or.inl ⟨by rfl, ?hyr16⟩) (by assumption) ?restr16
  case hyr16 => (intro w hSw; (try dsimp only at hSw); go_simp; first | done | (with_reducible rfl))
  try simp only [Act.put, List.getElem_toArray, List.getElem_cons_zero, List.getElem_cons_succ, List.setIfInBounds_toArray, List.set_cons_zero, List.set_cons_succ]
  refine wpAnyH_done (by kernel_rfl) ?_ _
  replace H1 := hide (H1.out.drew.step hbr)
  replace HB := hide (HB.out.drew.trans (hbr.mono HB.out.size))
  clear hbr hor hS0 hS3 hT3 H0 HS HC
  go_wp2_with fail
  refine (open_c _ l1 _ H1.out (by have := HL1.out; omega)).mono ?_
  rintro e w4 ⟨vd, c, rfl, hod, hbd, hcd⟩
  replace H1 := hide (H1.out.step hbd)
  replace HB := hide (HB.out.trans (hbd.mono HB.out.size))
  have HD := hide hod.bs
  have HCD := hide hcd
  clear hod hbd hcd
  go_wp2_with fail
  refine (refOpen_c _ l1 _ H1.out (by have := HL1.out; omega)).mono ?_
  rintro e w5 ⟨vf, f, rfl, hof, hbf, hcf⟩
  replace H1 := hide (H1.out.step hbf)
  replace HD := hide (HD.out.step hbf)
  replace HB := hide (HB.out.trans (hbf.mono HB.out.size))
  have HCF := hide hcf
  clear hof hbf hcf
  cases ho : open_ l1 with
  | none =>
    rw [ho] at HCD HCF HD
    obtain rfl : c = 11 := HCD.out
    obtain rfl : f = 11 := HCF.out
    clear HCD HCF
    obtain ⟨D, cd, rfl, _, _⟩ := HD.out.form
    clear ho
    go_wp2_with fail
    go_ret
    exact ⟨rfl, HB.out⟩
  | some m =>
    have HM : Hid (Bs w5 vd m) := by rw [ho] at HD; exact HD
    rw [ho] at HCD HCF
    obtain rfl : c = 0 := HCD.out
    obtain rfl : f = 0 := HCF.out
    clear HCD HCF
    have hsm := open_some ho
    have HML : Hid (m.length ≤ 200) := by unfold Hid; have := open_len ho; have := HL1.out; omega
    clear ho HD
    generalize hv1 : Value.slice B n1 cb = v1 at *
    have HV1 := hide hv1
    clear hv1
    have hq : (seal_ m == l1) = true := by simpa using hsm
    clear hsm
    go_wp2_with fail
    refine wp_region_held_drew (S := (fun w' => (convert 23 9 v1).run Try.prog w' = .ok (.string ⟨(l1).toArray⟩) w')) (by kernel_rfl) (run_string_bs H1.out.drew) (fun hS0 => ?_)
    refine wpAnyH_take (i := 0) (v := ?vq0) rfl (by kernel_rfl) (by kernel_rfl) (by kernel_rfl) (fun _ _ _ h => h) (Or.inl ⟨by rfl, ?hyq0⟩) (by assumption) ?restq0
    case hyq0 => (intro w hSw; (try dsimp only at hSw); go_simp; first | done | (with_reducible rfl))
    try simp only [Act.put, List.getElem_toArray, List.getElem_cons_zero, List.getElem_cons_succ, List.setIfInBounds_toArray, List.set_cons_zero, List.set_cons_succ]
    refine wpAnyH_take (i := 1) (v := ?vq1) rfl (by kernel_rfl) (by kernel_rfl) (by kernel_rfl) (fun _ _ _ h => h) (Or.inl ⟨by rfl, ?hyq1⟩) (by assumption) ?restq1
    case hyq1 => (intro w hSw; (try dsimp only at hSw); go_simp; first | done | (with_reducible rfl))
    try simp only [Act.put, List.getElem_toArray, List.getElem_cons_zero, List.getElem_cons_succ, List.setIfInBounds_toArray, List.set_cons_zero, List.set_cons_succ]
    refine wpAnyH_take (i := 2) (v := ?vq2) rfl (by kernel_rfl) (by kernel_rfl) (by kernel_rfl) (fun _ _ _ h => h) (Or.inl ⟨by rfl, ?hyq2⟩) (by assumption) ?restq2
    case hyq2 => (intro w hSw; (try dsimp only at hSw); go_simp; first | done | (with_reducible rfl))
    try simp only [Act.put, List.getElem_toArray, List.getElem_cons_zero, List.getElem_cons_succ, List.setIfInBounds_toArray, List.set_cons_zero, List.set_cons_succ]
    refine wpAnyH_take (i := 3) (v := ?vq3) rfl (by kernel_rfl) (by kernel_rfl) (by kernel_rfl) (fun _ _ _ h => h) (Or.inl ⟨by rfl, ?hyq3⟩) (by assumption) ?restq3
    case hyq3 => (intro w hSw; (try dsimp only at hSw); go_simp; first | done | (with_reducible rfl))
    try simp only [Act.put, List.getElem_toArray, List.getElem_cons_zero, List.getElem_cons_succ, List.setIfInBounds_toArray, List.set_cons_zero, List.set_cons_succ]
    refine wpAnyH_take (i := 6) (v := ?vq4) rfl (by kernel_rfl) (by kernel_rfl) (by kernel_rfl) (fun _ _ _ h => h) (Or.inl ⟨by rfl, ?hyq4⟩) (by assumption) ?restq4
    case hyq4 => (intro w hSw; (try dsimp only at hSw); go_simp; first | done | (with_reducible rfl))
    try simp only [Act.put, List.getElem_toArray, List.getElem_cons_zero, List.getElem_cons_succ, List.setIfInBounds_toArray, List.set_cons_zero, List.set_cons_succ]
    refine wpAnyH_take (i := 7) (v := ?vq5) rfl (by kernel_rfl) (by kernel_rfl) (by kernel_rfl) (fun _ _ _ h => h) (Or.inl ⟨by rfl, ?hyq5⟩) (by assumption) ?restq5
    case hyq5 => (intro w hSw; (try dsimp only at hSw); go_simp; first | done | (with_reducible rfl))
    try simp only [Act.put, List.getElem_toArray, List.getElem_cons_zero, List.getElem_cons_succ, List.setIfInBounds_toArray, List.set_cons_zero, List.set_cons_succ]
    refine wpAnyH_ready (rs := [4]) (by kernel_rfl) (by simp) ?_
    refine AllReadyH.cons rfl (fun K hK => ?_) AllReadyH.nil
    go_simp
    refine (seal_c _ m _ HM.out.drew (by have := HML.out; omega)).mono ?_
    rintro e w6 ⟨vr, rfl, hor, hbr⟩
    refine hK.out _ _ (run_string_bs (H1.out.drew.step hbr)) (fun hS6 => ?_)
    clear hK K
    refine heldMono (S' := (fun w' => (convert 23 9 v1).run Try.prog w' = .ok (.string ⟨(l1).toArray⟩) w' ∧ (convert 23 9 vr).run Try.prog w' = .ok (.string ⟨(seal_ m).toArray⟩) w')) (fun _ h => h.1) _ _ _ _ ?_
    have hT6 : (fun w' => (convert 23 9 v1).run Try.prog w' = .ok (.string ⟨(l1).toArray⟩) w' ∧ (convert 23 9 vr).run Try.prog w' = .ok (.string ⟨(seal_ m).toArray⟩) w') _ := ⟨run_string_bs (H1.out.drew.step hbr), run_string_bs hor.bs⟩
    try simp only [Act.put, List.getElem_toArray, List.getElem_cons_zero, List.getElem_cons_succ, List.setIfInBounds_toArray, List.set_cons_zero, List.set_cons_succ]
    refine wpAnyH_take (i := 5) (v := ?vq7) rfl (by kernel_rfl) (by kernel_rfl) (by kernel_rfl) (fun _ _ _ h => h) (Or.inl ⟨by rfl, ?hyq7⟩) (by assumption) ?restq7
    case hyq7 => (intro w hSw; (try dsimp only at hSw); go_simp; first | done | (with_reducible rfl))
    try simp only [Act.put, List.getElem_toArray, List.getElem_cons_zero, List.getElem_cons_succ, List.setIfInBounds_toArray, List.set_cons_zero, List.set_cons_succ]
    refine wpAnyH_take (i := 8) (v := ?vq8) rfl (by kernel_rfl) (by kernel_rfl) (by kernel_rfl) (fun _ _ _ h => h) (Or.inl ⟨by rfl, ?hyq8⟩) (by assumption) ?restq8
    case hyq8 => (intro w hSw; (try dsimp only at hSw); go_simp; first | done | (with_reducible rfl))
    try simp only [Act.put, List.getElem_toArray, List.getElem_cons_zero, List.getElem_cons_succ, List.setIfInBounds_toArray, List.set_cons_zero, List.set_cons_succ]
    refine wpAnyH_take (i := 9) (v := ?vq9) rfl (by kernel_rfl) (by kernel_rfl) (by kernel_rfl) (fun _ _ _ h => h) (Or.inl ⟨by rfl, ?hyq9⟩) (by assumption) ?restq9
    case hyq9 => (intro w hSw; (try dsimp only at hSw); go_simp; first | done | (with_reducible rfl))
    try simp only [Act.put, List.getElem_toArray, List.getElem_cons_zero, List.getElem_cons_succ, List.setIfInBounds_toArray, List.set_cons_zero, List.set_cons_succ]
    refine wpAnyH_take (i := 10) (v := ?vq10) rfl (by kernel_rfl) (by kernel_rfl) (by kernel_rfl) (fun _ _ _ h => h) (Or.inl ⟨by rfl, ?hyq10⟩) (by assumption) ?restq10
    case hyq10 => (intro w hSw; (try dsimp only at hSw); go_simp; first | done | (with_reducible rfl))
    try simp only [Act.put, List.getElem_toArray, List.getElem_cons_zero, List.getElem_cons_succ, List.setIfInBounds_toArray, List.set_cons_zero, List.set_cons_succ]
    refine wpAnyH_done (by kernel_rfl) ?_ _
    go_wp2_with fail
    go_ret
    exact ⟨rfl, HB.out.drew.trans (hbr.mono HB.out.size)⟩
end Go.Proofs.Ytmnebingmedloaa
