/- same: a client and the reference's are one. -/
import Derived.Test.YtpbgelhjbfckcaaStep3
namespace Go.Proofs.Ytpbgelhjbfckcaa
open Go.ChangeShapes Go.WideShapes Go.ChangeAt Go.RowKit
set_option linter.unusedVariables false
set_option linter.unusedSimpArgs false

theorem Cl.ne_new {w : World} {g : Nat} {S : CS} {p : Value} (h : Cl w g S p) : g ≠ w.heap.size ∧ ∀ b, p = .pointer (some ⟨b, 0, none⟩) → b ≠ w.heap.size :=
  ⟨Nat.ne_of_lt h.lt, fun b hb => Nat.ne_of_lt (h.ptr_lt hb)⟩
theorem openOf_is (S : CS) : (openOf S).2 = S.opened.isSome := by unfold openOf; cases S.opened <;> rfl
theorem Asks.same {S : CS} (h : Asks S) (X : World) : Calls Try.prog 17 #[.agg (openOf S).1.toArray, .agg (openOf S).1.toArray] X (Yes X) := by
  unfold openOf
  cases ho : S.opened with
  | none => exact same_req 0 0 0 0 ⟨#[]⟩ 0 X
  | some cs => obtain ⟨k, g, b, v, rfl, _⟩ := h cs ho; exact same_req _ _ _ _ _ _ X
set_option maxRecDepth 100000 in
set_option maxHeartbeats 4000000 in
theorem same_c (g : Nat) (S : CS) (p : Value) (w : World) (h : Cl w g S p) (hA : Asks S) : Calls Try.prog 26 #[.pointer (some ⟨g, 0, none⟩), .agg (rC S).toArray] w (Yes w) := by
  have HO := hide (Own.nil w [] (by simp))
  have HC := hide h
  have HSA := hide hA.same
  have HML := hide hA.open_len.1
  have HMO := hide hA.open_len.2
  have HOP := hide (fun (X : World) (hX : Cl X g S p) => open_c g S p X hX)
  unfold OpenR at HOP
  rw [openOf_is] at HOP
  have HRE : Hid (rC S = rcl S.id S.machines S.target S.number S.opened.isSome (openOf S).1) := hide rfl
  rw [HRE.out]
  clear h hA HRE
  generalize (openOf S).1 = ms at *
  generalize S.opened.isSome = oo at *
  go_enter Try.func26, Try.ntmps26
  go_wp2_with (first
    | ((with_reducible refine at_box 46 (.tmp 1) ?_); refine wpList_box_own_t HO.out rfl 46 (.tmp 1) rfl (rcl S.id S.machines S.target S.number oo ms) rfl ?_; intro WA b3 hO hbl; replace HC := hide (HC.out.step hbl); replace HO := hide hO; clear hO hbl))
  refine (HOP.out _ HC.out).mono ?_
  rintro e w1 ⟨rfl, hb⟩
  replace HC := hide (HC.out.step hb)
  replace HO := hide (HO.out.step hb)
  clear hb HOP
  go_wp2_with (first
    | ((with_reducible refine at_alloc 41 ?_); refine wpList_alloc_blk rfl 41 rfl zmsgI.toArray zmsgI_info ?_; intro WB hx1 hb1 hs1; have HNE := hide HC.out.ne_new; replace HC := hide (HC.out.step hb1); replace HO := hide (HO.out.push hx1 hb1); clear hx1 hb1 hs1)
    | ((with_reducible refine at_store 41 (.tmp 5) ?_); refine wpList_store_own_t HO.out rfl 41 (.tmp 5) _ rfl 1 _ 0 _ _ ms ms rfl (.agg ms.toArray) rfl rfl (fits_agg _) (by rw [HML.out, zmsgI_len]; exact Nat.le_refl _) (splice_all (by rw [HML.out, zmsgI_len])) (msg_size HML.out) HMO.out ?_; intro WA hO hbk htc; replace HC := hide (HC.out.far_of htc (by simpa using HNE.out.1) (fun b hb => by simpa using HNE.out.2 b hb)); replace HO := hide hO; clear hO hbk htc))
  refine wp_region_held_drew (S := fun W => (∀ j, W.cell? ⟨b3, j, none⟩ = (rcl S.id S.machines S.target S.number oo ms : List Value)[j]?) ∧ (∀ j, W.cell? ⟨w1.heap.size, j, none⟩ = (ms : List Value)[j]?)) (by kernel_rfl) (⟨HO.out.drew.cells 0 rfl, HO.out.drew.cells 1 rfl⟩) (fun hS0 => ?_)
  replace HO := hide HO.out.drew
  replace HC := hide HC.out.drew
  refine wpAnyH_take (i := 0) (v := ?vs0) rfl (by kernel_rfl) (by kernel_rfl) (by kernel_rfl) (fun _ _ _ h => h) (Or.inl ⟨by rfl, ?hys0⟩) (by assumption) ?rests0
  case hys0 => (intro w hSw; (try dsimp only at hSw); go_simp; first | done | (with_reducible rfl))
  try simp only [Act.put, List.getElem_toArray, List.getElem_cons_zero, List.getElem_cons_succ, List.setIfInBounds_toArray, List.set_cons_zero, List.set_cons_succ]
  refine wpAnyH_take (i := 1) (v := ?vs1) rfl (by kernel_rfl) (by kernel_rfl) (by kernel_rfl) (fun _ _ _ h => h) (Or.inl ⟨by rfl, ?hys1⟩) (by assumption) ?rests1
  case hys1 => (intro w hSw; (try dsimp only at hSw); go_simp; first | done | (with_reducible rfl))
  try simp only [Act.put, List.getElem_toArray, List.getElem_cons_zero, List.getElem_cons_succ, List.setIfInBounds_toArray, List.set_cons_zero, List.set_cons_succ]
  refine wpAnyH_take (i := 2) (v := ?vs2) rfl (by kernel_rfl) (by kernel_rfl) (by kernel_rfl) (fun _ _ _ h => h) (Or.inl ⟨by rfl, ?hys2⟩) (by assumption) ?rests2
  case hys2 => (intro w hSw; (try dsimp only at hSw); go_simp; first | done | (with_reducible rfl))
  try simp only [Act.put, List.getElem_toArray, List.getElem_cons_zero, List.getElem_cons_succ, List.setIfInBounds_toArray, List.set_cons_zero, List.set_cons_succ]
  refine wpAnyH_take (i := 3) (v := ?vs3) rfl (by kernel_rfl) (by kernel_rfl) (by kernel_rfl) (fun _ _ _ h => h) (Or.inl ⟨by rfl, ?hys3⟩) (by assumption) ?rests3
  case hys3 => (intro w hSw; (try dsimp only at hSw); go_simp; first | done | (with_reducible rfl))
  try simp only [Act.put, List.getElem_toArray, List.getElem_cons_zero, List.getElem_cons_succ, List.setIfInBounds_toArray, List.set_cons_zero, List.set_cons_succ]
  refine wpAnyH_take (i := 4) (v := ?vs4) rfl (by kernel_rfl) (by kernel_rfl) (by kernel_rfl) (fun _ _ _ h => h) (Or.inl ⟨by rfl, ?hys4⟩) (by assumption) ?rests4
  case hys4 => (intro w hSw; (try dsimp only at hSw); go_simp; first | done | (with_reducible rfl))
  try simp only [Act.put, List.getElem_toArray, List.getElem_cons_zero, List.getElem_cons_succ, List.setIfInBounds_toArray, List.set_cons_zero, List.set_cons_succ]
  refine wpAnyH_take (i := 5) (v := .agg ms.toArray) rfl (by kernel_rfl) (by kernel_rfl) (by kernel_rfl) (fun _ _ _ h => h) (yieldsIf_load rfl 41 (.tmp 5) rfl w1.heap.size 0 47 41 ms ms _ (fun w hw => hw.2) (take_all HML.out) rfl Try.underlying41 rfl (msg_size HML.out)) (by assumption) ?_
  try simp only [Act.put, List.getElem_toArray, List.getElem_cons_zero, List.getElem_cons_succ, List.setIfInBounds_toArray, List.set_cons_zero, List.set_cons_succ]
  refine wpAnyH_take (i := 6) (v := ?vs6) rfl (by kernel_rfl) (by kernel_rfl) (by kernel_rfl) (fun _ _ _ h => h) (Or.inl ⟨by rfl, ?hys6⟩) (by assumption) ?rests6
  case hys6 => (intro w hSw; (try dsimp only at hSw); go_simp; first | done | (with_reducible rfl))
  try simp only [Act.put, List.getElem_toArray, List.getElem_cons_zero, List.getElem_cons_succ, List.setIfInBounds_toArray, List.set_cons_zero, List.set_cons_succ]
  refine wpAnyH_take (i := 7) (v := .agg ms.toArray) rfl (by kernel_rfl) (by kernel_rfl) (by kernel_rfl) (fun _ _ _ h => h) (yieldsIf_load rfl 41 (.tmp 18) rfl b3 5 47 41 (rcl S.id S.machines S.target S.number oo ms) ms _ (fun w hw => hw.1) (take5 HML.out) rfl Try.underlying41 rfl (msg_size HML.out)) (by assumption) ?_
  try simp only [Act.put, List.getElem_toArray, List.getElem_cons_zero, List.getElem_cons_succ, List.setIfInBounds_toArray, List.set_cons_zero, List.set_cons_succ]
  refine wpAnyH_ready (rs := [8]) (by kernel_rfl) (by simp) ?_
  refine AllReadyH.cons rfl (fun K hK => ?_) AllReadyH.nil
  go_simp
  refine (HSA.out _).mono ?_
  rintro e wE ⟨rfl, hb⟩
  replace HC := hide (HC.out.step hb)
  replace HO := hide (HO.out.step hb)
  clear hb
  refine hK.out _ _ (⟨HO.out.cells 0 rfl, HO.out.cells 1 rfl⟩) (fun hS8 => ?_)
  clear hK K
  try simp only [Act.put, List.getElem_toArray, List.getElem_cons_zero, List.getElem_cons_succ, List.setIfInBounds_toArray, List.set_cons_zero, List.set_cons_succ]
  refine wpAnyH_take (i := 9) (v := ?vs9) rfl (by kernel_rfl) (by kernel_rfl) (by kernel_rfl) (fun _ _ _ h => h) (Or.inl ⟨by rfl, ?hys9⟩) (by assumption) ?rests9
  case hys9 => (intro w hSw; (try dsimp only at hSw); go_simp; first | done | (with_reducible rfl))
  try simp only [Act.put, List.getElem_toArray, List.getElem_cons_zero, List.getElem_cons_succ, List.setIfInBounds_toArray, List.set_cons_zero, List.set_cons_succ]
  refine wpAnyH_take (i := 10) (v := ?vs10) rfl (by kernel_rfl) (by kernel_rfl) (by kernel_rfl) (fun _ _ _ h => h) (Or.inl ⟨by rfl, ?hys10⟩) (by assumption) ?rests10
  case hys10 => (intro w hSw; (try dsimp only at hSw); go_simp; first | done | (with_reducible rfl))
  try simp only [Act.put, List.getElem_toArray, List.getElem_cons_zero, List.getElem_cons_succ, List.setIfInBounds_toArray, List.set_cons_zero, List.set_cons_succ]
  refine wpAnyH_take (i := 11) (v := ?vs11) rfl (by kernel_rfl) (by kernel_rfl) (by kernel_rfl) (fun _ _ _ h => h) (Or.inl ⟨by rfl, ?hys11⟩) (by assumption) ?rests11
  case hys11 => (intro w hSw; (try dsimp only at hSw); go_simp; first | done | (with_reducible rfl))
  try simp only [Act.put, List.getElem_toArray, List.getElem_cons_zero, List.getElem_cons_succ, List.setIfInBounds_toArray, List.set_cons_zero, List.set_cons_succ]
  refine wpAnyH_take (i := 13) (v := ?vs12) rfl (by kernel_rfl) (by kernel_rfl) (by kernel_rfl) (fun _ _ _ h => h) (Or.inl ⟨by rfl, ?hys12⟩) (by assumption) ?rests12
  case hys12 => (intro w hSw; (try dsimp only at hSw); go_simp; first | done | (with_reducible rfl))
  try simp only [Act.put, List.getElem_toArray, List.getElem_cons_zero, List.getElem_cons_succ, List.setIfInBounds_toArray, List.set_cons_zero, List.set_cons_succ]
  refine wpAnyH_take (i := 14) (v := ?vs13) rfl (by kernel_rfl) (by kernel_rfl) (by kernel_rfl) (fun _ _ _ h => h) (Or.inl ⟨by rfl, ?hys13⟩) (by assumption) ?rests13
  case hys13 => (intro w hSw; (try dsimp only at hSw); go_simp; first | done | (with_reducible rfl))
  try simp only [Act.put, List.getElem_toArray, List.getElem_cons_zero, List.getElem_cons_succ, List.setIfInBounds_toArray, List.set_cons_zero, List.set_cons_succ]
  refine wpAnyH_ready (rs := [12]) (by kernel_rfl) (by simp) ?_
  refine AllReadyH.cons rfl (fun K hK => ?_) AllReadyH.nil
  go_simp
  refine (number_c g S p _ HC.out).mono ?_
  rintro e _ ⟨rfl, rfl⟩
  refine hK.out _ _ (⟨HO.out.cells 0 rfl, HO.out.cells 1 rfl⟩) (fun hS14 => ?_)
  clear hK K
  try simp only [Act.put, List.getElem_toArray, List.getElem_cons_zero, List.getElem_cons_succ, List.setIfInBounds_toArray, List.set_cons_zero, List.set_cons_succ]
  refine wpAnyH_take (i := 15) (v := ?vs15) rfl (by kernel_rfl) (by kernel_rfl) (by kernel_rfl) (fun _ _ _ h => h) (Or.inl ⟨by rfl, ?hys15⟩) (by assumption) ?rests15
  case hys15 => (intro w hSw; (try dsimp only at hSw); go_simp; first | done | (with_reducible rfl))
  try simp only [Act.put, List.getElem_toArray, List.getElem_cons_zero, List.getElem_cons_succ, List.setIfInBounds_toArray, List.set_cons_zero, List.set_cons_succ]
  refine wpAnyH_take (i := 16) (v := ?vs16) rfl (by kernel_rfl) (by kernel_rfl) (by kernel_rfl) (fun _ _ _ h => h) (Or.inl ⟨by rfl, ?hys16⟩) (by assumption) ?rests16
  case hys16 => (intro w hSw; (try dsimp only at hSw); go_simp; first | done | (with_reducible rfl))
  try simp only [Act.put, List.getElem_toArray, List.getElem_cons_zero, List.getElem_cons_succ, List.setIfInBounds_toArray, List.set_cons_zero, List.set_cons_succ]
  refine wpAnyH_take (i := 17) (v := ?vs17) rfl (by kernel_rfl) (by kernel_rfl) (by kernel_rfl) (fun _ _ _ h => h) (Or.inl ⟨by rfl, ?hys17⟩) (by assumption) ?rests17
  case hys17 => (intro w hSw; (try dsimp only at hSw); go_simp; first | done | (with_reducible rfl))
  try simp only [Act.put, List.getElem_toArray, List.getElem_cons_zero, List.getElem_cons_succ, List.setIfInBounds_toArray, List.set_cons_zero, List.set_cons_succ]
  refine wpAnyH_done (by kernel_rfl) ?_ _
  clear hS0
  go_wp2_with fail
  go_ret
  exact ⟨rfl, HO.out.below⟩
end Go.Proofs.Ytpbgelhjbfckcaa
