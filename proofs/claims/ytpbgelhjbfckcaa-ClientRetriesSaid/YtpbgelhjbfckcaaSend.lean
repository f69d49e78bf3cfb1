/- send: the open request goes to the target. -/
import Derived.Test.YtpbgelhjbfckcaaCl
import Derived.Test.YtpbgelhjbfckcaaRegion
namespace Go.Proofs.Ytpbgelhjbfckcaa
open Go.ChangeShapes Go.WideShapes Go.ChangeAt Go.RowKit
set_option linter.unusedVariables false
set_option linter.unusedSimpArgs false

theorem size_msg {cs : List Value} (h : cs.length = 47) : (Try.prog.info? 41).map (·.size) = some cs.toArray.size := by
  rw [List.size_toArray, h]; kernel_rfl
theorem size_out {cs : List Value} {v : Value} (h : cs.length = 47) : (Try.prog.info? 59).map (·.size) = some (v :: cs).toArray.size := by
  rw [List.size_toArray, List.length_cons, h]; kernel_rfl
theorem one_out {cs : List Value} {T : Int} (h : cs.toArray.all (·.oneCell') = true) : (Value.int .i64 T :: cs).toArray.all (·.oneCell') = true := by
  simpa [Value.oneCell'] using h
/-- What send hands back. -/
def Sent (w : World) (T : Int) (cs : List Value) (e : Ending) (w' : World) : Prop := e = .returned (.agg (.int .i64 T :: cs).toArray) ∧ Below w.heap.size w w'
set_option maxRecDepth 100000 in
set_option maxHeartbeats 1000000 in
theorem send_raw (g b : Nat) (T : Int) (cs : List Value) (w : World) (hg : g < w.heap.size) (h1 : w.cell? ⟨g, 2, none⟩ = some (.int .i64 T)) (h2 : w.cell? ⟨g, 4, none⟩ = some (.pointer (some ⟨b, 0, none⟩))) (hb : Blk w b 41 cs.toArray)
    (hl : cs.length = 47) (hone : cs.toArray.all (·.oneCell') = true) : Calls Try.prog 28 #[.pointer (some ⟨g, 0, none⟩)] w (Sent w T cs) := by
  go_enter Try.func28, Try.ntmps28
  go_wp2_with fail
  have hout := (Blk.new w 59 (zi :: zmsg).toArray).drew
  have key : (fun W => W.cell? ⟨g, 2, none⟩ = some (.int .i64 T) ∧ W.cell? ⟨g, 4, none⟩ = some (.pointer (some ⟨b, 0, none⟩)) ∧ Blk W b 41 cs.toArray ∧ Below w.heap.size w W) (w.alloc (.cells (zi :: zmsg).toArray 59)).drew := ⟨(World.cell?_alloc_lt w _ _ hg).trans h1, (World.cell?_alloc_lt w _ _ hg).trans h2, (hb.alloc _).drew, ((Below.refl _ _).alloc (Nat.le_refl _) _).drew⟩
  refine wp_region_held_drew (S := fun W => W.cell? ⟨g, 2, none⟩ = some (.int .i64 T) ∧ W.cell? ⟨g, 4, none⟩ = some (.pointer (some ⟨b, 0, none⟩)) ∧ Blk W b 41 cs.toArray ∧ Below w.heap.size w W) (by kernel_rfl) (key) (fun hS0 => ?_)
  refine wpAnyH_take (i := 0) (v := ?vs0) rfl (by kernel_rfl) (by kernel_rfl) (by kernel_rfl) (fun _ _ _ h => h) (Or.inl ⟨by rfl, ?hys0⟩) (by assumption) ?rests0
  case hys0 => (intro w hSw; (try dsimp only at hSw); go_simp; first | done | (with_reducible rfl))
  try simp only [Act.put, List.getElem_toArray, List.getElem_cons_zero, List.getElem_cons_succ, List.setIfInBounds_toArray, List.set_cons_zero, List.set_cons_succ]
  refine wpAnyH_take (i := 1) (v := ?vs1) rfl (by kernel_rfl) (by kernel_rfl) (by kernel_rfl) (fun _ _ _ h => h) (Or.inl ⟨by rfl, ?hys1⟩) (by assumption) ?rests1
  case hys1 => (intro w hSw; (try dsimp only at hSw); go_simp; first | done | (with_reducible rfl))
  try simp only [Act.put, List.getElem_toArray, List.getElem_cons_zero, List.getElem_cons_succ, List.setIfInBounds_toArray, List.set_cons_zero, List.set_cons_succ]
  refine wpAnyH_take (i := 2) (v := ?vs2) rfl (by kernel_rfl) (by kernel_rfl) (by kernel_rfl) (fun _ _ _ h => h) (Or.inl ⟨by rfl, ?hys2⟩) (by assumption) ?rests2
  case hys2 => (intro w hSw; (try dsimp only at hSw); go_simp; first | done | (with_reducible rfl))
  try simp only [Act.put, List.getElem_toArray, List.getElem_cons_zero, List.getElem_cons_succ, List.setIfInBounds_toArray, List.set_cons_zero, List.set_cons_succ]
  refine wpAnyH_take (i := 3) (v := ?vs3) rfl (by kernel_rfl) (by kernel_rfl) (by kernel_rfl) (fun _ _ _ h => h) (Or.inl ⟨by rfl, ?hys3⟩) (by assumption) ?rests3
  case hys3 => (intro w hSw; (try dsimp only at hSw); go_simp; first | done | (with_reducible rfl))
  try simp only [Act.put, List.getElem_toArray, List.getElem_cons_zero, List.getElem_cons_succ, List.setIfInBounds_toArray, List.set_cons_zero, List.set_cons_succ]
  refine wpAnyH_take (i := 4) (v := ?vs4) rfl (by kernel_rfl) (by kernel_rfl) (by kernel_rfl) (fun _ _ _ h => h) (Or.inl ⟨by rfl, ?hys4⟩) (by assumption) ?rests4
  case hys4 => (intro w hSw; (try dsimp only at hSw); go_simp; first | done | (with_reducible rfl))
  try simp only [Act.put, List.getElem_toArray, List.getElem_cons_zero, List.getElem_cons_succ, List.setIfInBounds_toArray, List.set_cons_zero, List.set_cons_succ]
  refine wpAnyH_take (i := 5) (v := ?vs5) rfl (by kernel_rfl) (by kernel_rfl) (by kernel_rfl) (fun _ _ _ h => h) (Or.inl ⟨by rfl, ?hys5⟩) (by assumption) ?rests5
  case hys5 => (intro w hSw; (try dsimp only at hSw); go_simp; first | done | (with_reducible rfl))
  try simp only [Act.put, List.getElem_toArray, List.getElem_cons_zero, List.getElem_cons_succ, List.setIfInBounds_toArray, List.set_cons_zero, List.set_cons_succ]
  refine wpAnyH_take (i := 6) (v := ?vs6) rfl (by kernel_rfl) (by kernel_rfl) (by kernel_rfl) (fun _ _ _ h => h) (Or.inl ⟨by rfl, ?hys6⟩) (by assumption) ?rests6
  case hys6 => (intro w hSw; (try dsimp only at hSw); go_simp; first | done | (with_reducible rfl))
  try simp only [Act.put, List.getElem_toArray, List.getElem_cons_zero, List.getElem_cons_succ, List.setIfInBounds_toArray, List.set_cons_zero, List.set_cons_succ]
  refine wpAnyH_take (i := 7) (v := ?vs7) rfl (by kernel_rfl) (by kernel_rfl) (by kernel_rfl) (fun _ _ _ h => h) (Or.inl ⟨by rfl, ?hys7⟩) (by assumption) ?rests7
  case hys7 => (intro w hSw; (try dsimp only at hSw); go_simp; first | done | (with_reducible rfl))
  try simp only [Act.put, List.getElem_toArray, List.getElem_cons_zero, List.getElem_cons_succ, List.setIfInBounds_toArray, List.set_cons_zero, List.set_cons_succ]
  refine wpAnyH_take (i := 8) (v := ?vs8) rfl (by kernel_rfl) (by kernel_rfl) (by kernel_rfl) (fun _ _ _ h => h) (Or.inl ⟨by rfl, ?hys8⟩) (by assumption) ?rests8
  case hys8 => (intro w hSw; (try dsimp only at hSw); go_simp; first | done | (with_reducible rfl))
  try simp only [Act.put, List.getElem_toArray, List.getElem_cons_zero, List.getElem_cons_succ, List.setIfInBounds_toArray, List.set_cons_zero, List.set_cons_succ]
  refine wpAnyH_ready (rs := [9]) (by kernel_rfl) (by simp) ?_
  refine AllReadyH.cons rfl (fun K hK => ?_) AllReadyH.nil
  refine step_load_blk rfl 41 (.tmp 11) rfl b 41 cs.toArray _ rfl key.2.2.1 Try.underlying41 rfl (size_msg hl) ?_
  refine hK.out _ _ (key) (fun hS9 => ?_)
  clear hK K
  try simp only [Act.put, List.getElem_toArray, List.getElem_cons_zero, List.getElem_cons_succ, List.setIfInBounds_toArray, List.set_cons_zero, List.set_cons_succ]
  refine wpAnyH_ready (rs := [10]) (by kernel_rfl) (by simp) ?_
  refine AllReadyH.cons rfl (fun K hK => ?_) AllReadyH.nil
  refine step_build rfl 59 #[(0, .tmp 6), (1, .tmp 12)] rfl [(0, .int .i64 T), (1, .agg cs.toArray)] (by first | (go_simp; done) | simp [Act.eval] | rfl) _ (built_out T cs hl) ?_
  refine hK.out _ _ (key) (fun hS10 => ?_)
  clear hK K
  try simp only [Act.put, List.getElem_toArray, List.getElem_cons_zero, List.getElem_cons_succ, List.setIfInBounds_toArray, List.set_cons_zero, List.set_cons_succ]
  refine wpAnyH_ready (rs := [11]) (by kernel_rfl) (by simp) ?_
  refine AllReadyH.cons rfl (fun K hK => ?_) AllReadyH.nil
  refine step_store_blk rfl 59 (.tmp 2) (.tmp 13) rfl w.heap.size 59 (zi :: zmsg).toArray (.int .i64 T :: cs).toArray rfl rfl hout (by simp [hl, zmsg]) (size_out hl) (one_out hone) ?_
  intro W hW kW sW
  have hbW := Below.touch key.2.2.2 kW (by simp) (by simp)
  have key2 : (fun W => W.cell? ⟨g, 2, none⟩ = some (.int .i64 T) ∧ W.cell? ⟨g, 4, none⟩ = some (.pointer (some ⟨b, 0, none⟩)) ∧ Blk W b 41 cs.toArray ∧ Below w.heap.size w W) W := ⟨(hbW.cell hg).trans h1, (hbW.cell hg).trans h2, hb.step hbW, hbW⟩
  refine hK.out _ _ (key2) (fun hS11 => ?_)
  clear hK K
  refine heldMono (S' := (fun W => (W.cell? ⟨g, 2, none⟩ = some (.int .i64 T) ∧ W.cell? ⟨g, 4, none⟩ = some (.pointer (some ⟨b, 0, none⟩)) ∧ Blk W b 41 cs.toArray ∧ Below w.heap.size w W) ∧ Blk W w.heap.size 59 (.int .i64 T :: cs).toArray)) (fun _ h => h.1) _ _ _ _ ?_
  have hT11 : (fun W => (W.cell? ⟨g, 2, none⟩ = some (.int .i64 T) ∧ W.cell? ⟨g, 4, none⟩ = some (.pointer (some ⟨b, 0, none⟩)) ∧ Blk W b 41 cs.toArray ∧ Below w.heap.size w W) ∧ Blk W w.heap.size 59 (.int .i64 T :: cs).toArray) _ := ⟨key2, hW⟩
  try simp only [Act.put, List.getElem_toArray, List.getElem_cons_zero, List.getElem_cons_succ, List.setIfInBounds_toArray, List.set_cons_zero, List.set_cons_succ]
  refine wpAnyH_done (by kernel_rfl) ?_ _
  have hf := hide hW
  have hbf := hide hbW
  clear hW hbW hout key key2 hT11 hS11 kW
  go_wp2_with fail
  refine bodyPost_ret (results_cell_row Try.results28 _ _ w.heap.size 59 _ (0, 0) _ rfl hf.out Try.underlying59 rfl (size_out hl)) rfl ?_
  exact ⟨rfl, hbf.out⟩
end Go.Proofs.Ytpbgelhjbfckcaa
