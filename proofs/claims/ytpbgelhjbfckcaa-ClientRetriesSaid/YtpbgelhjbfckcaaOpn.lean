/- Open; answers. -/
import Derived.Test.YtpbgelhjbfckcaaRet
namespace Go.Proofs.Ytpbgelhjbfckcaa
open Go.ChangeShapes Go.WideShapes Go.ChangeAt Go.RowKit
set_option linter.unusedVariables false
set_option linter.unusedSimpArgs false

@[irreducible] def zmsgI : List Value := zmsg
theorem zmsgI_def : zmsgI = zmsg := by unfold zmsgI; rfl
theorem zmsgI_len : zmsgI.length = 47 := by rw [zmsgI_def]; rfl
theorem zmsgI_info : (Try.prog.info? 41).map (·.zero) = some (some (.agg zmsgI.toArray)) := by
  have h := congrArg (Option.map Prod.fst) info_msg
  rw [Option.map_map] at h
  rw [zmsgI_def]
  exact h
theorem zmsgI_built : Try.prog.built 41 [] = some zmsgI.toArray := by rw [zmsgI_def]; exact built_zero
theorem zmsgI_one : zmsgI.toArray.all (·.oneCell') = true := by rw [zmsgI_def]; simp [zmsg, Value.oneCell']
def OpenR (w : World) (S : CS) (e : Ending) (w' : World) : Prop := e = .returned (.tuple #[.agg (openOf S).1.toArray, .bool (openOf S).2]) ∧ Below w.heap.size w w'

set_option maxRecDepth 100000 in
set_option maxHeartbeats 1000000 in
theorem open_c (g : Nat) (S : CS) (p : Value) (w : World) (h : Cl w g S p) :
    Calls Try.prog 13 #[.pointer (some ⟨g, 0, none⟩)] w (OpenR w S) := by
  have hlt := h.lt
  have hc4 := h.cells.2.2.2.2.1
  have HC := hide h
  unfold OpenR openOf
  cases ho : S.opened with
  | none =>
    have hp := h.shut ho
    subst hp
    clear h ho
    dsimp only
    rw [← zmsgI_def]
    go_enter Try.func13, Try.ntmps13
    go_wp2_with (first
      | (refine wpList_alloc_blk rfl 41 rfl zmsgI.toArray zmsgI_info ?_; intro W1 hx1 hb1 hs1; have hk4 := (hb1.cell hlt).trans hc4; have HX1 := hide hx1; have HB1 := hide hb1; have HS1 := hide hs1; clear hx1 hb1 hs1)
      | (refine wpList_build rfl 41 #[] rfl [] (by simp) zmsgI.toArray zmsgI_built ?_)
      | (refine wpList_store_blk rfl 41 (.tmp 2) _ rfl w.heap.size 41 zmsgI.toArray zmsgI.toArray rfl rfl HX1.out rfl (size_msg zmsgI_len) zmsgI_one ?_; intro W2 hx2 ht2 hs2; have HX2 := hide hx2; have HT2 := hide ht2; clear hx2 ht2 hs2))
    refine bodyPost_ret (results_row_tmp Try.results13 _ _ w.heap.size 41 _ (0, 0) _ _ rfl rfl HX2.out Try.underlying41 rfl (size_msg zmsgI_len)) rfl ?_
    exact ⟨rfl, Below.touch HB1.out HT2.out (by simp) HB1.out.size⟩
  | some cs =>
    obtain ⟨b, hbg, rfl, hbm⟩ := h.opened cs ho
    have hl := (h.ok.opened cs ho).1
    have hone := (h.ok.opened cs ho).2
    have HBM := hide hbm
    clear h ho hbm
    dsimp only
    go_enter Try.func13, Try.ntmps13
    go_wp2_with (first
      | (refine wpList_alloc_blk rfl 41 rfl zmsgI.toArray zmsgI_info ?_; intro W1 hx1 hb1 hs1; have hk4 := (hb1.cell hlt).trans hc4; have HX1 := hide hx1; have HB1 := hide hb1; have HS1 := hide hs1; have HB2 := hide (HBM.out.step hb1); clear hx1 hb1 hs1)
      | (refine wpList_load_blk rfl 41 (.tmp 14) rfl b 41 cs.toArray _ rfl HB2.out Try.underlying41 rfl (size_msg hl) ?_)
      | (refine wpList_store_blk rfl 41 (.tmp 2) _ rfl w.heap.size 41 zmsgI.toArray cs.toArray rfl rfl HX1.out (by simp [hl, zmsgI_len]) (size_msg hl) hone ?_; intro W2 hx2 ht2 hs2; have HX2 := hide hx2; have HT2 := hide ht2; clear hx2 ht2 hs2))
    refine bodyPost_ret (results_row_tmp Try.results13 _ _ w.heap.size 41 _ (0, 0) _ _ rfl rfl HX2.out Try.underlying41 rfl (size_msg hl)) rfl ?_
    exact ⟨rfl, Below.touch HB1.out HT2.out (by simp) HB1.out.size⟩
end Go.Proofs.Ytpbgelhjbfckcaa
