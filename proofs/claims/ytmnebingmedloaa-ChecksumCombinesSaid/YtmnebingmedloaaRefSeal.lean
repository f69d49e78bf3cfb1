/- The reference of package checksum, function by function: Seal, Open. -/
import Derived.Test.YtmnebingmedloaaSealFns
import Derived.BigQuiet
import Derived.Test.YtmnebingmedloaaRegion
import Derived.Deep.QuietTactic
namespace Go.Proofs.Ytmnebingmedloaa
open Go.ChangeShapes Go.WideShapes Go.ChangeAt Go.RowKit
set_option linter.unusedVariables false

set_option maxHeartbeats 1000000 in
theorem refSeal_c (v : Value) (l : List UInt8) (w : World) (h : Bs w v l) (hl : l.length ≤ 70368744177664) : Calls Try.prog 16 #[v] w (Fresh w (seal_ l)) := by
  have H := hide h
  have HL1 : Hid (0 + l.length ≤ 140737488355328) := by unfold Hid; omega
  have HL2 : Hid (l.length + (le4 (upd 0#32 l)).length ≤ 140737488355328) := by unfold Hid; simp [le4]; omega
  clear h hl
  go_enter Try.func16, Try.ntmps16
  go_wp2_with fail
  refine (refSum_c _ l _ H.out).mono ?_
  rintro e w1 ⟨rfl, rfl⟩
  have HC := hide (le4_cells (upd 0#32 l))
  have tok0 : True := trivial
  go_wp2_with (first
    | (at_builtin; have _t := tok0; clear _t; refine wpList_append_bs rfl _ _ rfl w.heap.size (l := []) (m := l) rfl (Ow.made [] #[] rfl (Nat.le_refl _) (by simp)) rfl (H.out.alloc _) HL1.out (by simp) ?_; intro v1 w1 how hg hw; clear hw tok0; have HB := hide (below_grown ((Below.refl w.heap.size w).alloc (Nat.le_refl _) _) hg (by simp) (Nat.le_refl _)); have HO := hide how; clear how hg)
    | (at_builtin; refine wpList_append_bs rfl _ _ rfl w.heap.size rfl (HO.out.alloc _) rfl (Ow.made _ _ HC.out (Nat.le_refl _) (by simp [le4, maxLen])).bs HL2.out (by have := HB.out.size; simp; omega) ?_; intro v1 w3 how hg hw))
  go_ret
  exact ⟨_, rfl, how, below_append (HB.out.alloc HB.out.size _) (HO.out.alloc _) hg (by have := HB.out.size; simp; omega) (Nat.le_refl _)⟩

set_option maxHeartbeats 400000 in
theorem refOpen_c (v : Value) (l : List UInt8) (w : World) (h : Bs w v l) (hl : l.length ≤ 70368744177664) : Calls Try.prog 17 #[v] w (FreshE w (open_ l)) := by
  obtain ⟨A, c, rfl, hc, hm⟩ := h.form
  have H := hide h
  have HL := hide hl
  by_cases h4 : l.length < 4
  · have HN := hide (show open_ l = none from if_neg (fun e => by omega))
    clear h hl
    generalize l.length = n at *
    have hd : decide ((n : Int) < 4) = true := by simp; omega
    go_enter Try.func17, Try.ntmps17
    go_wp2_with fail
    go_quiet (fail)
    go_wp2_with fail
    go_ret2
    exact ⟨_, 11, rfl, by rw [HN.out]; exact Ow.nil _ _, below_drewN (Below.refl _ _) _, by rw [HN.out]; rfl⟩
  · have HT := hide (Bs.take h (k := l.length - 4) (by omega))
    have hTl : Hid ((l.take (l.length - 4)).length ≤ 70368744177664) := by unfold Hid; rw [List.length_take]; omega
    have HL1 : Hid (0 + (l.take (l.length - 4)).length ≤ 140737488355328) := by unfold Hid; rw [List.length_take]; omega
    have HD : Hid (open_ l = if seal_ (l.take (l.length - 4)) = l then some (l.take (l.length - 4)) else none) := by
      unfold Hid open_
      by_cases he : seal_ (l.take (l.length - 4)) = l
      · rw [if_pos ⟨by omega, he⟩, if_pos he]
      · rw [if_neg (fun e => he e.2), if_neg he]
    clear h hl
    generalize l.take (l.length - 4) = m at *
    generalize l.length = n at *
    have hd : decide ((n : Int) < 4) = false := by simp; omega
    have n1 : (0 : Int) ≤ (n : Int) - 4 := by omega
    have n2 : ((n : Int) - 4).toNat = n - 4 := by omega
    have n4 : (n : Int) - 4 ≤ (c : Int) := by omega
    have n5 : (4 : Int) ≤ (n : Int) := by omega
    have n3 : IntKind.i64.wrap ((n : Int) - 4) = (n : Int) - 4 := IntWalk.i64_in _ (by omega)
    by_cases he : seal_ m = l
    · have hq : (seal_ m == l) = true := by simpa using he
      rw [if_pos he] at HD
      clear he
      go_enter Try.func17, Try.ntmps17
      go_wp2_with fail
      refine wp_region_held_drew (S := (fun w' => (convert 23 9 (.slice A n c)).run Try.prog w' = .ok (.string ⟨l.toArray⟩) w')) (by kernel_rfl) (run_string_bs H.out.drew) (fun hS0 => ?_)
      refine wpAnyH_take (i := 0) (v := ?va0) rfl (by kernel_rfl) (by kernel_rfl) (by kernel_rfl) (fun _ _ _ h => h) (Or.inl ⟨by rfl, ?hya0⟩) (by assumption) ?resta0
      case hya0 => (intro w hSw; (try dsimp only at hSw); go_simp; first | done | (with_reducible rfl))
      try simp only [Act.put, List.getElem_toArray, List.getElem_cons_zero, List.getElem_cons_succ, List.setIfInBounds_toArray, List.set_cons_zero, List.set_cons_succ]
      refine wpAnyH_take (i := 1) (v := ?va1) rfl (by kernel_rfl) (by kernel_rfl) (by kernel_rfl) (fun _ _ _ h => h) (Or.inl ⟨by rfl, ?hya1⟩) (by assumption) ?resta1
      case hya1 => (intro w hSw; (try dsimp only at hSw); go_simp; first | done | (with_reducible rfl))
      try simp only [Act.put, List.getElem_toArray, List.getElem_cons_zero, List.getElem_cons_succ, List.setIfInBounds_toArray, List.set_cons_zero, List.set_cons_succ]
      refine wpAnyH_take (i := 2) (v := ?va2) rfl (by kernel_rfl) (by kernel_rfl) (by kernel_rfl) (fun _ _ _ h => h) (Or.inl ⟨by rfl, ?hya2⟩) (by assumption) ?resta2
      case hya2 => (intro w hSw; (try dsimp only at hSw); go_simp; first | done | (with_reducible rfl))
      try simp only [Act.put, List.getElem_toArray, List.getElem_cons_zero, List.getElem_cons_succ, List.setIfInBounds_toArray, List.set_cons_zero, List.set_cons_succ]
      refine wpAnyH_take (i := 3) (v := ?va3) rfl (by kernel_rfl) (by kernel_rfl) (by kernel_rfl) (fun _ _ _ h => h) (Or.inl ⟨by rfl, ?hya3⟩) (by assumption) ?resta3
      case hya3 => (intro w hSw; (try dsimp only at hSw); go_simp; first | done | (with_reducible rfl))
      try simp only [Act.put, List.getElem_toArray, List.getElem_cons_zero, List.getElem_cons_succ, List.setIfInBounds_toArray, List.set_cons_zero, List.set_cons_succ]
      refine wpAnyH_take (i := 4) (v := ?va4) rfl (by kernel_rfl) (by kernel_rfl) (by kernel_rfl) (fun _ _ _ h => h) (Or.inl ⟨by rfl, ?hya4⟩) (by assumption) ?resta4
      case hya4 => (intro w hSw; (try dsimp only at hSw); go_simp; first | done | (with_reducible rfl))
      try simp only [Act.put, List.getElem_toArray, List.getElem_cons_zero, List.getElem_cons_succ, List.setIfInBounds_toArray, List.set_cons_zero, List.set_cons_succ]
      refine wpAnyH_take (i := 5) (v := ?va5) rfl (by kernel_rfl) (by kernel_rfl) (by kernel_rfl) (fun _ _ _ h => h) (Or.inl ⟨by rfl, ?hya5⟩) (by assumption) ?resta5
      case hya5 => (intro w hSw; (try dsimp only at hSw); go_simp; first | done | (with_reducible rfl))
      try simp only [Act.put, List.getElem_toArray, List.getElem_cons_zero, List.getElem_cons_succ, List.setIfInBounds_toArray, List.set_cons_zero, List.set_cons_succ]
      refine wpAnyH_take (i := 6) (v := ?va6) rfl (by kernel_rfl) (by kernel_rfl) (by kernel_rfl) (fun _ _ _ h => h) (Or.inl ⟨by rfl, ?hya6⟩) (by assumption) ?resta6
      case hya6 => (intro w hSw; (try dsimp only at hSw); go_simp; first | done | (with_reducible rfl))
      try simp only [Act.put, List.getElem_toArray, List.getElem_cons_zero, List.getElem_cons_succ, List.setIfInBounds_toArray, List.set_cons_zero, List.set_cons_succ]
      refine wpAnyH_take (i := 7) (v := ?va7) rfl (by kernel_rfl) (by kernel_rfl) (by kernel_rfl) (fun _ _ _ h => h) (Or.inl ⟨by rfl, ?hya7⟩) (by assumption) ?resta7
      case hya7 => (intro w hSw; (try dsimp only at hSw); go_simp; first | done | (with_reducible rfl))
      try simp only [Act.put, List.getElem_toArray, List.getElem_cons_zero, List.getElem_cons_succ, List.setIfInBounds_toArray, List.set_cons_zero, List.set_cons_succ]
      refine wpAnyH_take (i := 8) (v := ?va8) rfl (by kernel_rfl) (by kernel_rfl) (by kernel_rfl) (fun _ _ _ h => h) (Or.inl ⟨by rfl, ?hya8⟩) (by assumption) ?resta8
      case hya8 => (intro w hSw; (try dsimp only at hSw); go_simp; first | done | (with_reducible rfl))
      try simp only [Act.put, List.getElem_toArray, List.getElem_cons_zero, List.getElem_cons_succ, List.setIfInBounds_toArray, List.set_cons_zero, List.set_cons_succ]
      refine wpAnyH_take (i := 11) (v := ?va11) rfl (by kernel_rfl) (by kernel_rfl) (by kernel_rfl) (fun _ _ _ h => h) (Or.inl ⟨by rfl, ?hya11⟩) (by assumption) ?resta11
      case hya11 => (intro w hSw; (try dsimp only at hSw); go_simp; first | done | (with_reducible rfl))
      try simp only [Act.put, List.getElem_toArray, List.getElem_cons_zero, List.getElem_cons_succ, List.setIfInBounds_toArray, List.set_cons_zero, List.set_cons_succ]
      refine wpAnyH_take (i := 12) (v := ?va12) rfl (by kernel_rfl) (by kernel_rfl) (by kernel_rfl) (fun _ _ _ h => h) (Or.inl ⟨by rfl, ?hya12⟩) (by assumption) ?resta12
      case hya12 => (intro w hSw; (try dsimp only at hSw); go_simp; first | done | (with_reducible rfl))
      try simp only [Act.put, List.getElem_toArray, List.getElem_cons_zero, List.getElem_cons_succ, List.setIfInBounds_toArray, List.set_cons_zero, List.set_cons_succ]
      refine wpAnyH_ready (rs := [9]) (by kernel_rfl) (by simp) ?_
      refine AllReadyH.cons rfl (fun K hK => ?_) AllReadyH.nil
      go_simp
      refine (refSeal_c _ m _ HT.out.drew hTl.out).mono ?_
      rintro e w1 ⟨v1, rfl, ho, hb⟩
      refine hK.out _ _ (run_string_bs (H.out.drew.step hb)) (fun _ => ?_)
      clear hK K hS0
      refine heldMono (S' := (fun w' => (convert 23 9 (.slice A n c)).run Try.prog w' = .ok (.string ⟨l.toArray⟩) w' ∧ (convert 23 9 v1).run Try.prog w' = .ok (.string ⟨(seal_ m).toArray⟩) w')) (fun _ h => h.1) _ _ _ _ ?_
      have hS1 : (fun w' => (convert 23 9 (.slice A n c)).run Try.prog w' = .ok (.string ⟨l.toArray⟩) w' ∧ (convert 23 9 v1).run Try.prog w' = .ok (.string ⟨(seal_ m).toArray⟩) w') w1 := ⟨run_string_bs (H.out.drew.step hb), run_string_bs ho.bs⟩
      try simp only [Act.put, List.getElem_toArray, List.getElem_cons_zero, List.getElem_cons_succ, List.setIfInBounds_toArray, List.set_cons_zero, List.set_cons_succ]
      refine wpAnyH_take (i := 10) (v := ?vb10) rfl (by kernel_rfl) (by kernel_rfl) (by kernel_rfl) (fun _ _ _ h => h) (Or.inl ⟨by rfl, ?hyb10⟩) (by assumption) ?restb10
      case hyb10 => (intro w hSw; (try dsimp only at hSw); go_simp; first | done | (with_reducible rfl))
      try simp only [Act.put, List.getElem_toArray, List.getElem_cons_zero, List.getElem_cons_succ, List.setIfInBounds_toArray, List.set_cons_zero, List.set_cons_succ]
      refine wpAnyH_take (i := 13) (v := ?vb13) rfl (by kernel_rfl) (by kernel_rfl) (by kernel_rfl) (fun _ _ _ h => h) (Or.inl ⟨by rfl, ?hyb13⟩) (by assumption) ?restb13
      case hyb13 => (intro w hSw; (try dsimp only at hSw); go_simp; first | done | (with_reducible rfl))
      try simp only [Act.put, List.getElem_toArray, List.getElem_cons_zero, List.getElem_cons_succ, List.setIfInBounds_toArray, List.set_cons_zero, List.set_cons_succ]
      refine wpAnyH_take (i := 14) (v := ?vb14) rfl (by kernel_rfl) (by kernel_rfl) (by kernel_rfl) (fun _ _ _ h => h) (Or.inl ⟨by rfl, ?hyb14⟩) (by assumption) ?restb14
      case hyb14 => (intro w hSw; (try dsimp only at hSw); go_simp; first | done | (with_reducible rfl))
      try simp only [Act.put, List.getElem_toArray, List.getElem_cons_zero, List.getElem_cons_succ, List.setIfInBounds_toArray, List.set_cons_zero, List.set_cons_succ]
      refine wpAnyH_done (by kernel_rfl) ?_ _
      have HB := hide (show Below w.heap.size w w1 from ⟨hb.os, hb.tape, hb.output, hb.size, hb.block⟩)
      clear hb ho hS1
      go_wp2_with (at_builtin; refine wpList_append_bs rfl _ _ rfl w.heap.size (l := []) (m := m) rfl (Ow.made [] #[] rfl HB.out.size (by simp)) rfl ((HT.out.step HB.out).alloc _) HL1.out (by have := HB.out.size; simp; omega) ?_; intro v2 w2 how hg hw)
      go_ret2
      exact ⟨_, 0, rfl, by rw [HD.out]; exact how, below_append (HB.out.alloc HB.out.size _) (Ow.made [] #[] rfl HB.out.size (by simp)) hg (by have := HB.out.size; simp; omega) (Nat.le_refl _), by rw [HD.out]; rfl⟩
    · have hq : (seal_ m == l) = false := by simpa using he
      rw [if_neg he] at HD
      clear he
      go_enter Try.func17, Try.ntmps17
      go_wp2_with fail
      refine wp_region_held_drew (S := (fun w' => (convert 23 9 (.slice A n c)).run Try.prog w' = .ok (.string ⟨l.toArray⟩) w')) (by kernel_rfl) (run_string_bs H.out.drew) (fun hS0 => ?_)
      refine wpAnyH_take (i := 0) (v := ?vza0) rfl (by kernel_rfl) (by kernel_rfl) (by kernel_rfl) (fun _ _ _ h => h) (Or.inl ⟨by rfl, ?hyza0⟩) (by assumption) ?restza0
      case hyza0 => (intro w hSw; (try dsimp only at hSw); go_simp; first | done | (with_reducible rfl))
      try simp only [Act.put, List.getElem_toArray, List.getElem_cons_zero, List.getElem_cons_succ, List.setIfInBounds_toArray, List.set_cons_zero, List.set_cons_succ]
      refine wpAnyH_take (i := 1) (v := ?vza1) rfl (by kernel_rfl) (by kernel_rfl) (by kernel_rfl) (fun _ _ _ h => h) (Or.inl ⟨by rfl, ?hyza1⟩) (by assumption) ?restza1
      case hyza1 => (intro w hSw; (try dsimp only at hSw); go_simp; first | done | (with_reducible rfl))
      try simp only [Act.put, List.getElem_toArray, List.getElem_cons_zero, List.getElem_cons_succ, List.setIfInBounds_toArray, List.set_cons_zero, List.set_cons_succ]
      refine wpAnyH_take (i := 2) (v := ?vza2) rfl (by kernel_rfl) (by kernel_rfl) (by kernel_rfl) (fun _ _ _ h => h) (Or.inl ⟨by rfl, ?hyza2⟩) (by assumption) ?restza2
      case hyza2 => (intro w hSw; (try dsimp only at hSw); go_simp; first | done | (with_reducible rfl))
      try simp only [Act.put, List.getElem_toArray, List.getElem_cons_zero, List.getElem_cons_succ, List.setIfInBounds_toArray, List.set_cons_zero, List.set_cons_succ]
      refine wpAnyH_take (i := 3) (v := ?vza3) rfl (by kernel_rfl) (by kernel_rfl) (by kernel_rfl) (fun _ _ _ h => h) (Or.inl ⟨by rfl, ?hyza3⟩) (by assumption) ?restza3
      case hyza3 => (intro w hSw; (try dsimp only at hSw); go_simp; first | done | (with_reducible rfl))
      try simp only [Act.put, List.getElem_toArray, List.getElem_cons_zero, List.getElem_cons_succ, List.setIfInBounds_toArray, List.set_cons_zero, List.set_cons_succ]
      refine wpAnyH_take (i := 4) (v := ?vza4) rfl (by kernel_rfl) (by kernel_rfl) (by kernel_rfl) (fun _ _ _ h => h) (Or.inl ⟨by rfl, ?hyza4⟩) (by assumption) ?restza4
      case hyza4 => (intro w hSw; (try dsimp only at hSw); go_simp; first | done | (with_reducible rfl))
      try simp only [Act.put, List.getElem_toArray, List.getElem_cons_zero, List.getElem_cons_succ, List.setIfInBounds_toArray, List.set_cons_zero, List.set_cons_succ]
      refine wpAnyH_take (i := 5) (v := ?vza5) rfl (by kernel_rfl) (by kernel_rfl) (by kernel_rfl) (fun _ _ _ h => h) (Or.inl ⟨by rfl, ?hyza5⟩) (by assumption) ?restza5
      case hyza5 => (intro w hSw; (try dsimp only at hSw); go_simp; first | done | (with_reducible rfl))
      try simp only [Act.put, List.getElem_toArray, List.getElem_cons_zero, List.getElem_cons_succ, List.setIfInBounds_toArray, List.set_cons_zero, List.set_cons_succ]
      refine wpAnyH_take (i := 6) (v := ?vza6) rfl (by kernel_rfl) (by kernel_rfl) (by kernel_rfl) (fun _ _ _ h => h) (Or.inl ⟨by rfl, ?hyza6⟩) (by assumption) ?restza6
      case hyza6 => (intro w hSw; (try dsimp only at hSw); go_simp; first | done | (with_reducible rfl))
      try simp only [Act.put, List.getElem_toArray, List.getElem_cons_zero, List.getElem_cons_succ, List.setIfInBounds_toArray, List.set_cons_zero, List.set_cons_succ]
      refine wpAnyH_take (i := 7) (v := ?vza7) rfl (by kernel_rfl) (by kernel_rfl) (by kernel_rfl) (fun _ _ _ h => h) (Or.inl ⟨by rfl, ?hyza7⟩) (by assumption) ?restza7
      case hyza7 => (intro w hSw; (try dsimp only at hSw); go_simp; first | done | (with_reducible rfl))
      try simp only [Act.put, List.getElem_toArray, List.getElem_cons_zero, List.getElem_cons_succ, List.setIfInBounds_toArray, List.set_cons_zero, List.set_cons_succ]
      refine wpAnyH_take (i := 8) (v := ?vza8) rfl (by kernel_rfl) (by kernel_rfl) (by kernel_rfl) (fun _ _ _ h => h) (Or.inl ⟨by rfl, ?hyza8⟩) (by assumption) ?restza8
      case hyza8 => (intro w hSw; (try dsimp only at hSw); go_simp; first | done | (with_reducible rfl))
      try simp only [Act.put, List.getElem_toArray, List.getElem_cons_zero, List.getElem_cons_succ, List.setIfInBounds_toArray, List.set_cons_zero, List.set_cons_succ]
      refine wpAnyH_take (i := 11) (v := ?vza11) rfl (by kernel_rfl) (by kernel_rfl) (by kernel_rfl) (fun _ _ _ h => h) (Or.inl ⟨by rfl, ?hyza11⟩) (by assumption) ?restza11
      case hyza11 => (intro w hSw; (try dsimp only at hSw); go_simp; first | done | (with_reducible rfl))
      try simp only [Act.put, List.getElem_toArray, List.getElem_cons_zero, List.getElem_cons_succ, List.setIfInBounds_toArray, List.set_cons_zero, List.set_cons_succ]
      refine wpAnyH_take (i := 12) (v := ?vza12) rfl (by kernel_rfl) (by kernel_rfl) (by kernel_rfl) (fun _ _ _ h => h) (Or.inl ⟨by rfl, ?hyza12⟩) (by assumption) ?restza12
      case hyza12 => (intro w hSw; (try dsimp only at hSw); go_simp; first | done | (with_reducible rfl))
      try simp only [Act.put, List.getElem_toArray, List.getElem_cons_zero, List.getElem_cons_succ, List.setIfInBounds_toArray, List.set_cons_zero, List.set_cons_succ]
      refine wpAnyH_ready (rs := [9]) (by kernel_rfl) (by simp) ?_
      refine AllReadyH.cons rfl (fun K hK => ?_) AllReadyH.nil
      go_simp
      refine (refSeal_c _ m _ HT.out.drew hTl.out).mono ?_
      rintro e w1 ⟨v1, rfl, ho, hb⟩
      refine hK.out _ _ (run_string_bs (H.out.drew.step hb)) (fun _ => ?_)
      clear hK K hS0
      refine heldMono (S' := (fun w' => (convert 23 9 (.slice A n c)).run Try.prog w' = .ok (.string ⟨l.toArray⟩) w' ∧ (convert 23 9 v1).run Try.prog w' = .ok (.string ⟨(seal_ m).toArray⟩) w')) (fun _ h => h.1) _ _ _ _ ?_
      have hS1 : (fun w' => (convert 23 9 (.slice A n c)).run Try.prog w' = .ok (.string ⟨l.toArray⟩) w' ∧ (convert 23 9 v1).run Try.prog w' = .ok (.string ⟨(seal_ m).toArray⟩) w') w1 := ⟨run_string_bs (H.out.drew.step hb), run_string_bs ho.bs⟩
      try simp only [Act.put, List.getElem_toArray, List.getElem_cons_zero, List.getElem_cons_succ, List.setIfInBounds_toArray, List.set_cons_zero, List.set_cons_succ]
      refine wpAnyH_take (i := 10) (v := ?vzb10) rfl (by kernel_rfl) (by kernel_rfl) (by kernel_rfl) (fun _ _ _ h => h) (Or.inl ⟨by rfl, ?hyzb10⟩) (by assumption) ?restzb10
      case hyzb10 => (intro w hSw; (try dsimp only at hSw); go_simp; first | done | (with_reducible rfl))
      try simp only [Act.put, List.getElem_toArray, List.getElem_cons_zero, List.getElem_cons_succ, List.setIfInBounds_toArray, List.set_cons_zero, List.set_cons_succ]
      refine wpAnyH_take (i := 13) (v := ?vzb13) rfl (by kernel_rfl) (by kernel_rfl) (by kernel_rfl) (fun _ _ _ h => h) (Or.inl ⟨by rfl, ?hyzb13⟩) (by assumption) ?restzb13
      case hyzb13 => (intro w hSw; (try dsimp only at hSw); go_simp; first | done | (with_reducible rfl))
      try simp only [Act.put, List.getElem_toArray, List.getElem_cons_zero, List.getElem_cons_succ, List.setIfInBounds_toArray, List.set_cons_zero, List.set_cons_succ]
      refine wpAnyH_take (i := 14) (v := ?vzb14) rfl (by kernel_rfl) (by kernel_rfl) (by kernel_rfl) (fun _ _ _ h => h) (Or.inl ⟨by rfl, ?hyzb14⟩) (by assumption) ?restzb14
      case hyzb14 => (intro w hSw; (try dsimp only at hSw); go_simp; first | done | (with_reducible rfl))
      try simp only [Act.put, List.getElem_toArray, List.getElem_cons_zero, List.getElem_cons_succ, List.setIfInBounds_toArray, List.set_cons_zero, List.set_cons_succ]
      refine wpAnyH_done (by kernel_rfl) ?_ _
      have HB := hide (show Below w.heap.size w w1 from ⟨hb.os, hb.tape, hb.output, hb.size, hb.block⟩)
      clear hb ho hS1
      go_wp2_with fail
      go_ret2
      exact ⟨_, 11, rfl, by rw [HD.out]; exact Ow.nil _ _, HB.out, by rw [HD.out]; rfl⟩
end Go.Proofs.Ytmnebingmedloaa
