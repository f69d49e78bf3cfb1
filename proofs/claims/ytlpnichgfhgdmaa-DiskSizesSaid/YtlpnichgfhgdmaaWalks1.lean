/- DiskSizes: New accepts 1 to 4096 pages. -/
import Derived.Test.YtlpnichgfhgdmaaAwake
namespace Go.Proofs.Ytlpnichgfhgdmaa
open Go.ChangeShapes Go.WideShapes Go.ChangeAt Go.RowKit
set_option linter.unusedVariables false
set_option linter.unusedSimpArgs false

theorem new_read_out (n : Nat) (p : Int) (h : p < 0 ∨ (n : Int) ≤ p) : dRead (dNew n) p = ([], 2) := by
  unfold dRead dNew thereB
  rw [if_neg (by simp), if_neg]
  simp; omega
theorem new_read_in (n : Nat) (p : Int) (h0 : 0 ≤ p) (h : p < n) : dRead (dNew n) p = (List.replicate 128 0, 0) := by
  unfold dRead thereB content hist
  rw [if_neg (by simp [dNew]), if_pos (by simp [dNew]; omega)]
  have : p.toNat < n := by omega
  simp [dNew, this]

set_option maxRecDepth 100000 in
set_option maxHeartbeats 4000000 in
theorem walkDiskSizes (W : World) (a : Int) (wf : (Lit.int .i64 a).wf = true) :
    Calls Try.prog 3 #[.int .i64 a] W fun e w' => e = .returned (.bool true) ∧ Below W.heap.size W w' := by
  have haw := awake_c W
  by_cases hr : 1 ≤ a ∧ a ≤ 4096
  · obtain ⟨n, rfl⟩ : ∃ n : Nat, a = n := ⟨a.toNat, by omega⟩
    have hn1 : 1 ≤ n := by omega
    have hn2 : n ≤ 4096 := by omega
    have hge : (1 : Int) ≤ n := by omega
    have hle : (n : Int) ≤ 4096 := by omega
    have HN1 := hide hn1
    have HN2 := hide hn2
    clear hr wf hn1 hn2
    go_enter Try.func3, Try.ntmps3
    go_wp2_with fail
    refine haw.mono ?_
    rintro e w1 ⟨rfl, hb⟩
    have HB := hide hb
    clear haw hb
    go_wp2_with fail
    refine (new_c n HN1.out HN2.out w1).mono ?_
    rintro e w2 ⟨d, F, rfl, hd, hb2, hF⟩
    have HB2 := hide hb2
    have HD := hide hd
    clear hb2 hd hF
    have hpg := pages_c d F _ w2 HD.out
    have hpe := pending_c d F _ w2 HD.out
    have hfa := failed_c d F _ w2 HD.out
    have e1 : (dNew n).pages.length = n := by simp [dNew]
    have e2 : (dNew n).pend.length = 0 := rfl
    have e3 : (dNew n).failed = false := rfl
    rw [e1] at hpg
    rw [e2] at hpe
    rw [e3] at hfa
    clear e1 e2 e3
    go_wp2_with fail
    refine hpg.mono ?_
    rintro e w3 ⟨rfl, rfl⟩
    clear hpg
    go_wp2_with fail
    refine hpe.mono ?_
    rintro e w3 ⟨rfl, rfl⟩
    clear hpe
    go_wp2_with fail
    refine hfa.mono ?_
    rintro e w3 ⟨rfl, rfl⟩
    clear hfa
    go_wp2_with fail
    have r1 := read_c d F _ n w2 HD.out
    unfold ReadR at r1
    rw [new_read_out n n (by omega)] at r1
    refine r1.mono ?_
    rintro e w3 ⟨v1, rfl, hv1, _, hb3⟩
    have HB3 := hide hb3
    have r2 := read_c d F _ (-1) w3 (HD.out.step hb3)
    unfold ReadR at r2
    rw [new_read_out n (-1) (by omega)] at r2
    clear r1 hv1 hb3
    go_wp2_with fail
    refine r2.mono ?_
    rintro e w4 ⟨v2, rfl, hv2, _, hb4⟩
    have HB4 := hide hb4
    have r3 := read_c d F _ ((n : Int) - 1) w4 ((HD.out.step HB3.out).step hb4)
    unfold ReadR at r3
    rw [new_read_in n ((n : Int) - 1) (by omega) (by omega)] at r3
    clear r2 hv2 hb4
    go_wp2_with fail
    refine r3.mono ?_
    rintro e w5 ⟨v3, rfl, hv3, _, hb5⟩
    have HB5 := hide hb5
    have HV3 := hide hv3
    have hm : ∀ W : World, (Instr.makeSlice 28 (.int .i64 128) (.int .i64 128)).run Try.prog W = .ok (.slice (some ⟨W.heap.size, 0, none⟩) 128 128) (W.alloc (.cells (zb 128) 5)) := run_make_bytes 128 (by decide)
    have s1 := run_string_bs (hv3.drew)
    have s2 := run_string_bs ((hv3.drew).alloc (.cells (zb 128) 5))
    have hz : Bs (w5.drew.alloc (.cells (zb 128) 5)) (.slice (some ⟨w5.drew.heap.size, 0, none⟩) 128 128) (List.replicate 128 0) := Bs.blk (Blk.new _ _ _) (by rw [← fillTo_zero 0 128]; simp [fillTo]) 128 (by simp) (by simp [maxLen])
    have s3 := run_string_bs hz
    clear r3 hv3 hb5 hz
    go_wp2_with fail
    refine wp_region_held_drew (S := (fun w' : World => (convert 28 9 v3).run Try.prog w' = .ok (.string ⟨(List.replicate 128 (0 : UInt8)).toArray⟩) w')) (by kernel_rfl) (s1) (fun hS0 => ?_)
    refine wpAnyH_take (i := 0) (v := ?vrz0) rfl (by kernel_rfl) (by kernel_rfl) (by kernel_rfl) (fun _ _ _ h => h) (Or.inl ⟨by rfl, ?hyrz0⟩) (by assumption) ?restrz0
    case hyrz0 => (intro w hSw; (try dsimp only at hSw); go_simp; first | done | (with_reducible rfl))
    try simp only [Act.put, List.getElem_toArray, List.getElem_cons_zero, List.getElem_cons_succ, List.setIfInBounds_toArray, List.set_cons_zero, List.set_cons_succ]
    refine wpAnyH_take (i := 1) (v := ?vrz1) rfl (by kernel_rfl) (by kernel_rfl) (by kernel_rfl) (fun _ _ _ h => h) (Or.inl ⟨by rfl, ?hyrz1⟩) (by assumption) ?restrz1
    case hyrz1 => (intro w hSw; (try dsimp only at hSw); go_simp; first | done | (with_reducible rfl))
    try simp only [Act.put, List.getElem_toArray, List.getElem_cons_zero, List.getElem_cons_succ, List.setIfInBounds_toArray, List.set_cons_zero, List.set_cons_succ]
    refine wpAnyH_take (i := 2) (v := ?vrz2) rfl (by kernel_rfl) (by kernel_rfl) (by kernel_rfl) (fun _ _ _ h => h) (Or.inl ⟨by rfl, ?hyrz2⟩) (by assumption) ?restrz2
    case hyrz2 => (intro w hSw; (try dsimp only at hSw); go_simp; first | done | (with_reducible rfl))
    try simp only [Act.put, List.getElem_toArray, List.getElem_cons_zero, List.getElem_cons_succ, List.setIfInBounds_toArray, List.set_cons_zero, List.set_cons_succ]
    refine wpAnyH_take (i := 3) (v := ?vrz3) rfl (by kernel_rfl) (by kernel_rfl) (by kernel_rfl) (fun _ _ _ h => h) (Or.inl ⟨by rfl, ?hyrz3⟩) (by assumption) ?restrz3
    case hyrz3 => (intro w hSw; (try dsimp only at hSw); go_simp; first | done | (with_reducible rfl))
    try simp only [Act.put, List.getElem_toArray, List.getElem_cons_zero, List.getElem_cons_succ, List.setIfInBounds_toArray, List.set_cons_zero, List.set_cons_succ]
    refine wpAnyH_take (i := 4) (v := ?vrz4) rfl (by kernel_rfl) (by kernel_rfl) (by kernel_rfl) (fun _ _ _ h => h) (Or.inl ⟨by rfl, ?hyrz4⟩) (by assumption) ?restrz4
    case hyrz4 => (intro w hSw; (try dsimp only at hSw); go_simp; first | done | (with_reducible rfl))
    try simp only [Act.put, List.getElem_toArray, List.getElem_cons_zero, List.getElem_cons_succ, List.setIfInBounds_toArray, List.set_cons_zero, List.set_cons_succ]
    refine wpAnyH_take (i := 5) (v := ?vrz5) rfl (by kernel_rfl) (by kernel_rfl) (by kernel_rfl) (fun _ _ _ h => h) (Or.inl ⟨by rfl, ?hyrz5⟩) (by assumption) ?restrz5
    case hyrz5 => (intro w hSw; (try dsimp only at hSw); go_simp; first | done | (with_reducible rfl))
    try simp only [Act.put, List.getElem_toArray, List.getElem_cons_zero, List.getElem_cons_succ, List.setIfInBounds_toArray, List.set_cons_zero, List.set_cons_succ]
    refine wpAnyH_take (i := 6) (v := ?vrz6) rfl (by kernel_rfl) (by kernel_rfl) (by kernel_rfl) (fun _ _ _ h => h) (Or.inl ⟨by rfl, ?hyrz6⟩) (by assumption) ?restrz6
    case hyrz6 => (intro w hSw; (try dsimp only at hSw); go_simp; first | done | (with_reducible rfl))
    try simp only [Act.put, List.getElem_toArray, List.getElem_cons_zero, List.getElem_cons_succ, List.setIfInBounds_toArray, List.set_cons_zero, List.set_cons_succ]
    refine wpAnyH_take (i := 7) (v := ?vrz7) rfl (by kernel_rfl) (by kernel_rfl) (by kernel_rfl) (fun _ _ _ h => h) (Or.inl ⟨by rfl, ?hyrz7⟩) (by assumption) ?restrz7
    case hyrz7 => (intro w hSw; (try dsimp only at hSw); go_simp; first | done | (with_reducible rfl))
    try simp only [Act.put, List.getElem_toArray, List.getElem_cons_zero, List.getElem_cons_succ, List.setIfInBounds_toArray, List.set_cons_zero, List.set_cons_succ]
    refine wpAnyH_take (i := 8) (v := ?vrz8) rfl (by kernel_rfl) (by kernel_rfl) (by kernel_rfl) (fun _ _ _ h => h) (Or.inl ⟨by rfl, ?hyrz8⟩) (by assumption) ?restrz8
    case hyrz8 => (intro w hSw; (try dsimp only at hSw); go_simp; first | done | (with_reducible rfl))
    try simp only [Act.put, List.getElem_toArray, List.getElem_cons_zero, List.getElem_cons_succ, List.setIfInBounds_toArray, List.set_cons_zero, List.set_cons_succ]
    refine wpAnyH_take (i := 9) (v := ?vrz9) rfl (by kernel_rfl) (by kernel_rfl) (by kernel_rfl) (fun _ _ _ h => h) (Or.inl ⟨by rfl, ?hyrz9⟩) (by assumption) ?restrz9
    case hyrz9 => (intro w hSw; (try dsimp only at hSw); go_simp; first | done | (with_reducible rfl))
    try simp only [Act.put, List.getElem_toArray, List.getElem_cons_zero, List.getElem_cons_succ, List.setIfInBounds_toArray, List.set_cons_zero, List.set_cons_succ]
    refine wpAnyH_take (i := 10) (v := ?vrz10) rfl (by kernel_rfl) (by kernel_rfl) (by kernel_rfl) (fun _ _ _ h => h) (Or.inl ⟨by rfl, ?hyrz10⟩) (by assumption) ?restrz10
    case hyrz10 => (intro w hSw; (try dsimp only at hSw); go_simp; first | done | (with_reducible rfl))
    try simp only [Act.put, List.getElem_toArray, List.getElem_cons_zero, List.getElem_cons_succ, List.setIfInBounds_toArray, List.set_cons_zero, List.set_cons_succ]
    refine wpAnyH_take (i := 11) (v := ?vrz11) rfl (by kernel_rfl) (by kernel_rfl) (by kernel_rfl) (fun _ _ _ h => h) (Or.inl ⟨by rfl, ?hyrz11⟩) (by assumption) ?restrz11
    case hyrz11 => (intro w hSw; (try dsimp only at hSw); go_simp; first | done | (with_reducible rfl))
    try simp only [Act.put, List.getElem_toArray, List.getElem_cons_zero, List.getElem_cons_succ, List.setIfInBounds_toArray, List.set_cons_zero, List.set_cons_succ]
    refine wpAnyH_take (i := 12) (v := ?vrz12) rfl (by kernel_rfl) (by kernel_rfl) (by kernel_rfl) (fun _ _ _ h => h) (Or.inl ⟨by rfl, ?hyrz12⟩) (by assumption) ?restrz12
    case hyrz12 => (intro w hSw; (try dsimp only at hSw); go_simp; first | done | (with_reducible rfl))
    try simp only [Act.put, List.getElem_toArray, List.getElem_cons_zero, List.getElem_cons_succ, List.setIfInBounds_toArray, List.set_cons_zero, List.set_cons_succ]
    refine wpAnyH_ready (rs := [13]) (by kernel_rfl) (by simp) ?_
    refine AllReadyH.cons rfl (fun K hK => ?_) AllReadyH.nil
    go_simp
    refine hK.out _ _ (s2) (fun hS13 => ?_)
    clear hK K
    refine heldMono (S' := (fun w' : World => (convert 28 9 v3).run Try.prog w' = .ok (.string ⟨(List.replicate 128 (0 : UInt8)).toArray⟩) w' ∧ (convert 28 9 (.slice (some ⟨w5.heap.size, 0, none⟩) 128 128)).run Try.prog w' = .ok (.string ⟨(List.replicate 128 (0 : UInt8)).toArray⟩) w')) (fun _ h => h.1) _ _ _ _ ?_
    have hT13 : (fun w' : World => (convert 28 9 v3).run Try.prog w' = .ok (.string ⟨(List.replicate 128 (0 : UInt8)).toArray⟩) w' ∧ (convert 28 9 (.slice (some ⟨w5.heap.size, 0, none⟩) 128 128)).run Try.prog w' = .ok (.string ⟨(List.replicate 128 (0 : UInt8)).toArray⟩) w') _ := ⟨s2, s3⟩
    try simp only [Act.put, List.getElem_toArray, List.getElem_cons_zero, List.getElem_cons_succ, List.setIfInBounds_toArray, List.set_cons_zero, List.set_cons_succ]
    refine wpAnyH_take (i := 14) (v := ?vrz14) rfl (by kernel_rfl) (by kernel_rfl) (by kernel_rfl) (fun _ _ _ h => h) (Or.inl ⟨by rfl, ?hyrz14⟩) (by assumption) ?restrz14
    case hyrz14 => (intro w hSw; (try dsimp only at hSw); go_simp; first | done | (with_reducible rfl))
    try simp only [Act.put, List.getElem_toArray, List.getElem_cons_zero, List.getElem_cons_succ, List.setIfInBounds_toArray, List.set_cons_zero, List.set_cons_succ]
    refine wpAnyH_take (i := 15) (v := ?vrz15) rfl (by kernel_rfl) (by kernel_rfl) (by kernel_rfl) (fun _ _ _ h => h) (Or.inl ⟨by rfl, ?hyrz15⟩) (by assumption) ?restrz15
    case hyrz15 => (intro w hSw; (try dsimp only at hSw); go_simp; first | done | (with_reducible rfl))
    try simp only [Act.put, List.getElem_toArray, List.getElem_cons_zero, List.getElem_cons_succ, List.setIfInBounds_toArray, List.set_cons_zero, List.set_cons_succ]
    refine wpAnyH_take (i := 16) (v := ?vrz16) rfl (by kernel_rfl) (by kernel_rfl) (by kernel_rfl) (fun _ _ _ h => h) (Or.inl ⟨by rfl, ?hyrz16⟩) (by assumption) ?restrz16
    case hyrz16 => (intro w hSw; (try dsimp only at hSw); go_simp; first | done | (with_reducible rfl))
    try simp only [Act.put, List.getElem_toArray, List.getElem_cons_zero, List.getElem_cons_succ, List.setIfInBounds_toArray, List.set_cons_zero, List.set_cons_succ]
    refine wpAnyH_take (i := 17) (v := ?vrz17) rfl (by kernel_rfl) (by kernel_rfl) (by kernel_rfl) (fun _ _ _ h => h) (Or.inl ⟨by rfl, ?hyrz17⟩) (by assumption) ?restrz17
    case hyrz17 => (intro w hSw; (try dsimp only at hSw); go_simp; first | done | (with_reducible rfl))
    try simp only [Act.put, List.getElem_toArray, List.getElem_cons_zero, List.getElem_cons_succ, List.setIfInBounds_toArray, List.set_cons_zero, List.set_cons_succ]
    refine wpAnyH_done (by kernel_rfl) ?_ _
    go_wp2_with fail
    go_ret
    have n2 := HB.out.size
    have n3 := HB2.out.size
    have n4 := HB3.out.size
    have n5 := HB4.out.size
    have n6 := HB5.out.size
    have q1 := HB.out.trans (HB2.out.mono n2)
    have q2 := q1.trans (HB3.out.mono (by omega : W.heap.size ≤ w2.heap.size))
    have q3 := q2.trans (HB4.out.mono (by omega : W.heap.size ≤ w3.heap.size))
    have q4 := q3.trans (HB5.out.mono (by omega : W.heap.size ≤ w4.heap.size))
    exact ⟨by first | rfl | simp, (q4.drew).alloc (by show W.heap.size ≤ w5.heap.size; omega) _⟩
  · by_cases h1 : a < 1
    · clear hr wf
      go_enter Try.func3, Try.ntmps3
      go_wp2_with fail
      refine haw.mono ?_
      rintro e w1 ⟨rfl, hb⟩
      have HB := hide hb
      clear haw hb
      go_wp2_with fail
      refine (new_bad a (.inl h1) w1).mono ?_
      rintro e w2 ⟨rfl, rfl⟩
      go_wp2_with fail
      go_ret
      exact ⟨rfl, HB.out⟩
    · have h2 : 4096 < a := by omega
      have h3 : 1 ≤ a := by omega
      clear hr wf h1
      go_enter Try.func3, Try.ntmps3
      go_wp2_with fail
      refine haw.mono ?_
      rintro e w1 ⟨rfl, hb⟩
      have HB := hide hb
      clear haw hb
      go_wp2_with fail
      refine (new_bad a (.inr h2) w1).mono ?_
      rintro e w2 ⟨rfl, rfl⟩
      go_wp2_with fail
      go_ret
      exact ⟨rfl, HB.out⟩
end Go.Proofs.Ytlpnichgfhgdmaa
