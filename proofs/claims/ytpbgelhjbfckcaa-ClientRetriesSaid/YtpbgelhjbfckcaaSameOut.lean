/- SameOutgoing of a list with itself; btoi. -/
import Derived.Test.YtpbgelhjbfckcaaSame
import Derived.Test.YtpbgelhjbfckcaaRefG
namespace Go.Proofs.Ytpbgelhjbfckcaa
open Go.ChangeShapes Go.WideShapes Go.ChangeAt Go.RowKit
set_option linter.unusedVariables false
set_option linter.unusedSimpArgs false

theorem blk_cells {w : World} {g : Nat} {t : TypeId} {cs : List Value} (h : Blk w g t cs.toArray) : ∀ j, w.cell? ⟨g, j, none⟩ = cs[j]? := fun j => by rw [h.cell j, List.getElem?_toArray]
theorem btoi_c (x : Bool) (w : World) : Calls Try.prog 34 #[.bool x] w fun e w' => e = .returned (.int .i64 (if x = true then 1 else 0)) ∧ w = w' := by
  cases x
  · go_enter Try.func34, Try.ntmps34
    go_wp2_with fail
    go_ret
    exact ⟨rfl, rfl⟩
  · go_enter Try.func34, Try.ntmps34
    go_wp2_with fail
    go_ret
    exact ⟨rfl, rfl⟩
set_option maxRecDepth 100000 in
theorem sameOut_nil (w : World) : Calls Try.prog 35 #[.slice none 0 0, .slice none 0 0] w (Yes w) := by
  go_enter Try.func35, Try.ntmps35
  go_wp2_with fail
  go_loop [5] (fun v5 => v5 = .int .i64 0) (fun _ => 0)
  case atStart => rfl
  case round =>
    subst hrel
    go_wp2_with fail
    go_ret
    exact ⟨rfl, Below.refl _ _⟩
set_option maxRecDepth 100000 in
set_option maxHeartbeats 1000000 in
theorem sameOut_one (T : Int) (ms : List Value) (hs : ∀ X, Calls Try.prog 17 #[.agg ms.toArray, .agg ms.toArray] X (Yes X)) (hl : ms.length = 47) (b c : Nat) (w : World) (hb : Blk w b 59 (.int .i64 T :: ms).toArray) (hc : Blk w c 59 (.int .i64 T :: ms).toArray) :
    Calls Try.prog 35 #[.slice (some ⟨b, 0, none⟩) 1 1, .slice (some ⟨c, 0, none⟩) 1 1] w (Yes w) := by
  have HB := hide hb
  have HC := hide hc
  have HSA := hide hs
  clear hb hc hs
  go_enter Try.func35, Try.ntmps35
  go_wp2_with fail
  go_loopw [5] (fun v5 wr => (∃ k : Nat, v5 = .int .i64 k ∧ k ≤ 1) ∧ Below w.heap.size w wr) (fun v5 _ => 1 - (intOf v5).toNat)
  case atStart => exact ⟨⟨0, rfl, by omega⟩, Below.refl _ _⟩
  case round =>
    obtain ⟨⟨k, rfl, hk⟩, hbw⟩ := hrel
    have HW := hide hbw
    clear hbw
    rcases Nat.eq_zero_or_pos k with rfl | hk1
    · go_wp2_with fail
      refine wp_region_held_drew (S := fun W => (∀ j, W.cell? ⟨b, j, none⟩ = (.int .i64 T :: ms : List Value)[j]?) ∧ (∀ j, W.cell? ⟨c, j, none⟩ = (.int .i64 T :: ms : List Value)[j]?)) (by kernel_rfl) (⟨blk_cells (HB.out.step HW.out.drew), blk_cells (HC.out.step HW.out.drew)⟩) (fun hS0 => ?_)
      refine wpAnyH_take (i := 0) (v := ?vs0) rfl (by kernel_rfl) (by kernel_rfl) (by kernel_rfl) (fun _ _ _ h => h) (Or.inl ⟨by rfl, ?hys0⟩) (by assumption) ?rests0
      case hys0 => (intro w hSw; (try dsimp only at hSw); go_simp; first | done | (with_reducible rfl))
      try simp only [Act.put, List.getElem_toArray, List.getElem_cons_zero, List.getElem_cons_succ, List.setIfInBounds_toArray, List.set_cons_zero, List.set_cons_succ]
      refine wpAnyH_take (i := 1) (v := ?vs1) rfl (by kernel_rfl) (by kernel_rfl) (by kernel_rfl) (fun _ _ _ h => h) (Or.inl ⟨by rfl, ?hys1⟩) (by assumption) ?rests1
      case hys1 => (intro w hSw; (try dsimp only at hSw); go_simp; first | done | (with_reducible rfl))
      try simp only [Act.put, List.getElem_toArray, List.getElem_cons_zero, List.getElem_cons_succ, List.setIfInBounds_toArray, List.set_cons_zero, List.set_cons_succ]
      refine wpAnyH_take (i := 2) (v := ?vs2) rfl (by kernel_rfl) (by kernel_rfl) (by kernel_rfl) (fun _ _ _ h => h) (Or.inl ⟨by rfl, ?hys2⟩) (by assumption) ?rests2
      case hys2 => (intro w hSw; (try dsimp only at hSw); go_simp; first | done | (with_reducible rfl))
      try simp only [Act.put, List.getElem_toArray, List.getElem_cons_zero, List.getElem_cons_succ, List.setIfInBounds_toArray, List.set_cons_zero, List.set_cons_succ]
      refine wpAnyH_take (i := 3) (v := ?vs3) rfl (by kernel_rfl) (by kernel_rfl) (by kernel_rfl) (fun _ _ _ h => h) (Or.inl ⟨by rfl, ?hys3⟩) (by assumption) ?rests3
      case hys3 => (intro w hSw; (try dsimp only at hSw); go_simp; first | done | (with_reducible rfl))
      try simp only [Act.put, List.getElem_toArray, List.getElem_cons_zero, List.getElem_cons_succ, List.setIfInBounds_toArray, List.set_cons_zero, List.set_cons_succ]
      refine wpAnyH_take (i := 4) (v := ?vs4) rfl (by kernel_rfl) (by kernel_rfl) (by kernel_rfl) (fun _ _ _ h => h) (Or.inl ⟨by rfl, ?hys4⟩) (by assumption) ?rests4
      case hys4 => (intro w hSw; (try dsimp only at hSw); go_simp; first | done | (with_reducible rfl))
      try simp only [Act.put, List.getElem_toArray, List.getElem_cons_zero, List.getElem_cons_succ, List.setIfInBounds_toArray, List.set_cons_zero, List.set_cons_succ]
      refine wpAnyH_take (i := 5) (v := ?vs5) rfl (by kernel_rfl) (by kernel_rfl) (by kernel_rfl) (fun _ _ _ h => h) (Or.inl ⟨by rfl, ?hys5⟩) (by assumption) ?rests5
      case hys5 => (intro w hSw; (try dsimp only at hSw); go_simp; first | done | (with_reducible rfl))
      try simp only [Act.put, List.getElem_toArray, List.getElem_cons_zero, List.getElem_cons_succ, List.setIfInBounds_toArray, List.set_cons_zero, List.set_cons_succ]
      refine wpAnyH_take (i := 6) (v := ?vs6) rfl (by kernel_rfl) (by kernel_rfl) (by kernel_rfl) (fun _ _ _ h => h) (Or.inl ⟨by rfl, ?hys6⟩) (by assumption) ?rests6
      case hys6 => (intro w hSw; (try dsimp only at hSw); go_simp; first | done | (with_reducible rfl))
      try simp only [Act.put, List.getElem_toArray, List.getElem_cons_zero, List.getElem_cons_succ, List.setIfInBounds_toArray, List.set_cons_zero, List.set_cons_succ]
      refine wpAnyH_take (i := 7) (v := ?vs7) rfl (by kernel_rfl) (by kernel_rfl) (by kernel_rfl) (fun _ _ _ h => h) (Or.inl ⟨by rfl, ?hys7⟩) (by assumption) ?rests7
      case hys7 => (intro w hSw; (try dsimp only at hSw); go_simp; first | done | (with_reducible rfl))
      try simp only [Act.put, List.getElem_toArray, List.getElem_cons_zero, List.getElem_cons_succ, List.setIfInBounds_toArray, List.set_cons_zero, List.set_cons_succ]
      refine wpAnyH_take (i := 8) (v := ?vs8) rfl (by kernel_rfl) (by kernel_rfl) (by kernel_rfl) (fun _ _ _ h => h) (Or.inl ⟨by rfl, ?hys8⟩) (by assumption) ?rests8
      case hys8 => (intro w hSw; (try dsimp only at hSw); go_simp; first | done | (with_reducible rfl))
      try simp only [Act.put, List.getElem_toArray, List.getElem_cons_zero, List.getElem_cons_succ, List.setIfInBounds_toArray, List.set_cons_zero, List.set_cons_succ]
      refine wpAnyH_take (i := 9) (v := ?vs9) rfl (by kernel_rfl) (by kernel_rfl) (by kernel_rfl) (fun _ _ _ h => h) (Or.inl ⟨by rfl, ?hys9⟩) (by assumption) ?rests9
      case hys9 => (intro w hSw; (try dsimp only at hSw); go_simp; first | done | (with_reducible rfl))
      try simp only [Act.put, List.getElem_toArray, List.getElem_cons_zero, List.getElem_cons_succ, List.setIfInBounds_toArray, List.set_cons_zero, List.set_cons_succ]
      refine wpAnyH_take (i := 10) (v := ?vs10) rfl (by kernel_rfl) (by kernel_rfl) (by kernel_rfl) (fun _ _ _ h => h) (Or.inl ⟨by rfl, ?hys10⟩) (by assumption) ?rests10
      case hys10 => (intro w hSw; (try dsimp only at hSw); go_simp; first | done | (with_reducible rfl))
      try simp only [Act.put, List.getElem_toArray, List.getElem_cons_zero, List.getElem_cons_succ, List.setIfInBounds_toArray, List.set_cons_zero, List.set_cons_succ]
      refine wpAnyH_take (i := 11) (v := ?vs11) rfl (by kernel_rfl) (by kernel_rfl) (by kernel_rfl) (fun _ _ _ h => h) (Or.inl ⟨by rfl, ?hys11⟩) (by assumption) ?rests11
      case hys11 => (intro w hSw; (try dsimp only at hSw); go_simp; first | done | (with_reducible rfl))
      try simp only [Act.put, List.getElem_toArray, List.getElem_cons_zero, List.getElem_cons_succ, List.setIfInBounds_toArray, List.set_cons_zero, List.set_cons_succ]
      refine wpAnyH_take (i := 12) (v := ?vs12) rfl (by kernel_rfl) (by kernel_rfl) (by kernel_rfl) (fun _ _ _ h => h) (Or.inl ⟨by rfl, ?hys12⟩) (by assumption) ?rests12
      case hys12 => (intro w hSw; (try dsimp only at hSw); go_simp; first | done | (with_reducible rfl))
      try simp only [Act.put, List.getElem_toArray, List.getElem_cons_zero, List.getElem_cons_succ, List.setIfInBounds_toArray, List.set_cons_zero, List.set_cons_succ]
      refine wpAnyH_take (i := 13) (v := ?vs13) rfl (by kernel_rfl) (by kernel_rfl) (by kernel_rfl) (fun _ _ _ h => h) (Or.inl ⟨by rfl, ?hys13⟩) (by assumption) ?rests13
      case hys13 => (intro w hSw; (try dsimp only at hSw); go_simp; first | done | (with_reducible rfl))
      try simp only [Act.put, List.getElem_toArray, List.getElem_cons_zero, List.getElem_cons_succ, List.setIfInBounds_toArray, List.set_cons_zero, List.set_cons_succ]
      refine wpAnyH_take (i := 14) (v := ?vs14) rfl (by kernel_rfl) (by kernel_rfl) (by kernel_rfl) (fun _ _ _ h => h) (Or.inl ⟨by rfl, ?hys14⟩) (by assumption) ?rests14
      case hys14 => (intro w hSw; (try dsimp only at hSw); go_simp; first | done | (with_reducible rfl))
      try simp only [Act.put, List.getElem_toArray, List.getElem_cons_zero, List.getElem_cons_succ, List.setIfInBounds_toArray, List.set_cons_zero, List.set_cons_succ]
      refine wpAnyH_take (i := 15) (v := ?vs15) rfl (by kernel_rfl) (by kernel_rfl) (by kernel_rfl) (fun _ _ _ h => h) (Or.inl ⟨by rfl, ?hys15⟩) (by assumption) ?rests15
      case hys15 => (intro w hSw; (try dsimp only at hSw); go_simp; first | done | (with_reducible rfl))
      try simp only [Act.put, List.getElem_toArray, List.getElem_cons_zero, List.getElem_cons_succ, List.setIfInBounds_toArray, List.set_cons_zero, List.set_cons_succ]
      refine wpAnyH_take (i := 16) (v := .agg ms.toArray) rfl (by kernel_rfl) (by kernel_rfl) (by kernel_rfl) (fun _ _ _ h => h) (yieldsIf_load rfl 41 (.tmp 32) rfl b 1 47 59 (.int .i64 T :: ms) ms _ (fun w hw => hw.1) (by show ms.take 47 = ms; rw [List.take_of_length_le (by omega)]) rfl Try.underlying41 rfl (msg_size hl)) (by assumption) ?_
      try simp only [Act.put, List.getElem_toArray, List.getElem_cons_zero, List.getElem_cons_succ, List.setIfInBounds_toArray, List.set_cons_zero, List.set_cons_succ]
      refine wpAnyH_take (i := 17) (v := ?vs17) rfl (by kernel_rfl) (by kernel_rfl) (by kernel_rfl) (fun _ _ _ h => h) (Or.inl ⟨by rfl, ?hys17⟩) (by assumption) ?rests17
      case hys17 => (intro w hSw; (try dsimp only at hSw); go_simp; first | done | (with_reducible rfl))
      try simp only [Act.put, List.getElem_toArray, List.getElem_cons_zero, List.getElem_cons_succ, List.setIfInBounds_toArray, List.set_cons_zero, List.set_cons_succ]
      refine wpAnyH_take (i := 18) (v := ?vs18) rfl (by kernel_rfl) (by kernel_rfl) (by kernel_rfl) (fun _ _ _ h => h) (Or.inl ⟨by rfl, ?hys18⟩) (by assumption) ?rests18
      case hys18 => (intro w hSw; (try dsimp only at hSw); go_simp; first | done | (with_reducible rfl))
      try simp only [Act.put, List.getElem_toArray, List.getElem_cons_zero, List.getElem_cons_succ, List.setIfInBounds_toArray, List.set_cons_zero, List.set_cons_succ]
      refine wpAnyH_take (i := 19) (v := ?vs19) rfl (by kernel_rfl) (by kernel_rfl) (by kernel_rfl) (fun _ _ _ h => h) (Or.inl ⟨by rfl, ?hys19⟩) (by assumption) ?rests19
      case hys19 => (intro w hSw; (try dsimp only at hSw); go_simp; first | done | (with_reducible rfl))
      try simp only [Act.put, List.getElem_toArray, List.getElem_cons_zero, List.getElem_cons_succ, List.setIfInBounds_toArray, List.set_cons_zero, List.set_cons_succ]
      refine wpAnyH_take (i := 20) (v := ?vs20) rfl (by kernel_rfl) (by kernel_rfl) (by kernel_rfl) (fun _ _ _ h => h) (Or.inl ⟨by rfl, ?hys20⟩) (by assumption) ?rests20
      case hys20 => (intro w hSw; (try dsimp only at hSw); go_simp; first | done | (with_reducible rfl))
      try simp only [Act.put, List.getElem_toArray, List.getElem_cons_zero, List.getElem_cons_succ, List.setIfInBounds_toArray, List.set_cons_zero, List.set_cons_succ]
      refine wpAnyH_take (i := 21) (v := .agg ms.toArray) rfl (by kernel_rfl) (by kernel_rfl) (by kernel_rfl) (fun _ _ _ h => h) (yieldsIf_load rfl 41 (.tmp 37) rfl c 1 47 59 (.int .i64 T :: ms) ms _ (fun w hw => hw.2) (by show ms.take 47 = ms; rw [List.take_of_length_le (by omega)]) rfl Try.underlying41 rfl (msg_size hl)) (by assumption) ?_
      try simp only [Act.put, List.getElem_toArray, List.getElem_cons_zero, List.getElem_cons_succ, List.setIfInBounds_toArray, List.set_cons_zero, List.set_cons_succ]
      refine wpAnyH_ready (rs := [22]) (by kernel_rfl) (by simp) ?_
      refine AllReadyH.cons rfl (fun K hK => ?_) AllReadyH.nil
      go_simp
      refine (HSA.out _).mono ?_
      rintro e wS ⟨rfl, hbs⟩
      have HW2 := hide (HW.out.drew.trans (hbs.mono HW.out.drew.size))
      clear hbs
      refine hK.out _ _ (⟨blk_cells (HB.out.step HW2.out), blk_cells (HC.out.step HW2.out)⟩) (fun hS22 => ?_)
      clear hK K
      try simp only [Act.put, List.getElem_toArray, List.getElem_cons_zero, List.getElem_cons_succ, List.setIfInBounds_toArray, List.set_cons_zero, List.set_cons_succ]
      refine wpAnyH_take (i := 23) (v := ?vs23) rfl (by kernel_rfl) (by kernel_rfl) (by kernel_rfl) (fun _ _ _ h => h) (Or.inl ⟨by rfl, ?hys23⟩) (by assumption) ?rests23
      case hys23 => (intro w hSw; (try dsimp only at hSw); go_simp; first | done | (with_reducible rfl))
      try simp only [Act.put, List.getElem_toArray, List.getElem_cons_zero, List.getElem_cons_succ, List.setIfInBounds_toArray, List.set_cons_zero, List.set_cons_succ]
      refine wpAnyH_take (i := 24) (v := ?vs24) rfl (by kernel_rfl) (by kernel_rfl) (by kernel_rfl) (fun _ _ _ h => h) (Or.inl ⟨by rfl, ?hys24⟩) (by assumption) ?rests24
      case hys24 => (intro w hSw; (try dsimp only at hSw); go_simp; first | done | (with_reducible rfl))
      try simp only [Act.put, List.getElem_toArray, List.getElem_cons_zero, List.getElem_cons_succ, List.setIfInBounds_toArray, List.set_cons_zero, List.set_cons_succ]
      refine wpAnyH_done (by kernel_rfl) ?_ _
      clear hS0
      go_wp2_with fail
      go_roundw
      case rel => exact ⟨⟨1, by go_num, by omega⟩, HW2.out⟩
      case measure => simp [intOf]
    · obtain rfl : k = 1 := by omega
      go_wp2_with fail
      go_ret
      exact ⟨rfl, HW.out⟩
end Go.Proofs.Ytpbgelhjbfckcaa
