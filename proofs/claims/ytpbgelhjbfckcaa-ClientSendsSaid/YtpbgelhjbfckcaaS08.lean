/- The reference: Receive. -/
import Derived.Test.YtpbgelhjbfckcaaS05
import Derived.Test.YtpbgelhjbfckcaaS07
import Derived.Test.YtpbgelhjbfckcaaS03
namespace Go.Proofs.Ytpbgelhjbfckcaa
open Go.ChangeShapes Go.WideShapes Go.ChangeAt Go.RowKit
set_option linter.unusedVariables false
set_option linter.unusedSimpArgs false


set_option maxRecDepth 100000 in
set_option maxHeartbeats 2000000 in
theorem rrecv_shut (i m T n frm : Int) (mv : MV) (rs : List Value) (hcs : (.int .i64 0 :: rs).length = 47) (h1c : (.int .i64 0 :: rs).all (·.oneCell') = true)  (w : World) :
    Calls Try.prog 39 #[.agg (rcl i m T n false (.int .i64 0 :: rs)).toArray, .int .i64 frm, .agg mv.cells.toArray] w (Hands w (.tuple #[.agg (rcl i m T n false (.int .i64 0 :: rs)).toArray, .bool false, .slice none 0 0])) := by
  have HO := hide (Own.nil w [] (by simp))
  have hx := hcs
  go_enter Try.func39, Try.ntmps39
  go_wp2_with (first
    | (with_reducible refine at_box 46 (.tmp 0) ?_; refine wpList_box_own HO.out rfl 46 (.tmp 0) rfl (rcl i m T n false (.int .i64 0 :: rs)) rfl ?_; intro WA b0 hO; replace HO := hide hO; clear hO)
    | (with_reducible refine at_box 41 (.tmp 2) ?_; refine wpList_box_own HO.out rfl 41 (.tmp 2) rfl (.int .i64 mv.kind :: .int .i64 mv.group :: .int .i64 mv.client :: .int .i64 mv.number :: .int .i64 mv.code :: .string mv.body :: .int .i64 mv.leader :: mv.rest) rfl ?_; intro WA b1 hO; replace HO := hide hO; clear hO)
    | (with_reducible refine at_alloc 46 ?_; refine wpList_alloc_own HO.out rfl 46 rfl zrc zrc_info ?_; intro WA b2 hO; replace HO := hide hO; have k0 := hO.cells 0 rfl; have k1 := hO.cells 1 rfl; clear hO; refine Hid.out ?_))
  refine hide ?_
  go_wp2_with (first
    | (with_reducible refine at_load 46 (.tmp 3) ?_; refine wpList_load_own HO.out rfl 46 (.tmp 3) rfl 0 _ 0 52 _ _ (rcl i m T n false (.int .i64 0 :: rs)) _ rfl (take_all (rcl_len hcs)) rfl Try.underlying46 rfl (rc_size (rcl_len hcs)) ?_)
    | (with_reducible refine at_store 46 (.tmp 6) ?_; refine wpList_store_own HO.out rfl 46 (.tmp 6) _ rfl 2 _ 0 _ _ (rcl i m T n false (.int .i64 0 :: rs)) (rcl i m T n false (.int .i64 0 :: rs)) rfl (.agg (rcl i m T n false (.int .i64 0 :: rs)).toArray) rfl rfl (fits_agg _) (by rw [rcl_len hcs, zrc_len]; exact Nat.le_refl _) (splice_all (by rw [rcl_len hcs, zrc_len])) (rc_size (rcl_len hcs)) (rcl_ones h1c) ?_; intro WA hO; replace HO := hide hO; clear hO))
  refine bodyPost_ret (results_row_tmp_tmp rfl _ HO.out 2 _ _ _ _ _ _ rfl rfl rfl rfl Try.underlying46 rfl (rc_size (rcl_len hcs))) rfl ?_
  exact ⟨rfl, HO.out.below⟩

set_option maxRecDepth 100000 in
set_option maxHeartbeats 2000000 in
theorem rrecv_nofit1 (i m T n frm : Int) (mv : MV) (g0 : Int) (rs : List Value) (hcs : (.int .i64 1 :: .int .i64 g0 :: rs).length = 47) (h1c : (.int .i64 1 :: .int .i64 g0 :: rs).all (·.oneCell') = true) (q : ¬ mv.kind = 2) (w : World) :
    Calls Try.prog 39 #[.agg (rcl i m T n true (.int .i64 1 :: .int .i64 g0 :: rs)).toArray, .int .i64 frm, .agg mv.cells.toArray] w (Hands w (.tuple #[.agg (rcl i m T n true (.int .i64 1 :: .int .i64 g0 :: rs)).toArray, .bool false, .slice none 0 0])) := by
  have HO := hide (Own.nil w [] (by simp))
  have q1 : (mv.kind == 2) = false := by simpa using q
  go_enter Try.func39, Try.ntmps39
  go_wp2_with (first
    | (with_reducible refine at_box 46 (.tmp 0) ?_; refine wpList_box_own HO.out rfl 46 (.tmp 0) rfl (rcl i m T n true (.int .i64 1 :: .int .i64 g0 :: rs)) rfl ?_; intro WA b0 hO; replace HO := hide hO; clear hO)
    | (with_reducible refine at_box 41 (.tmp 2) ?_; refine wpList_box_own HO.out rfl 41 (.tmp 2) rfl (.int .i64 mv.kind :: .int .i64 mv.group :: .int .i64 mv.client :: .int .i64 mv.number :: .int .i64 mv.code :: .string mv.body :: .int .i64 mv.leader :: mv.rest) rfl ?_; intro WA b1 hO; replace HO := hide hO; clear hO)
    | (with_reducible refine at_alloc 46 ?_; refine wpList_alloc_own HO.out rfl 46 rfl zrc zrc_info ?_; intro WA b2 hO; replace HO := hide hO; have k0 := hO.cells 0 rfl; have k1 := hO.cells 1 rfl; clear hO; refine Hid.out ?_))
  refine hide ?_
  go_wp2_with (first
    | (with_reducible refine at_load 46 (.tmp 3) ?_; refine wpList_load_own HO.out rfl 46 (.tmp 3) rfl 0 _ 0 52 _ _ (rcl i m T n true (.int .i64 1 :: .int .i64 g0 :: rs)) _ rfl (take_all (rcl_len hcs)) rfl Try.underlying46 rfl (rc_size (rcl_len hcs)) ?_)
    | (with_reducible refine at_store 46 (.tmp 6) ?_; refine wpList_store_own HO.out rfl 46 (.tmp 6) _ rfl 2 _ 0 _ _ (rcl i m T n true (.int .i64 1 :: .int .i64 g0 :: rs)) (rcl i m T n true (.int .i64 1 :: .int .i64 g0 :: rs)) rfl (.agg (rcl i m T n true (.int .i64 1 :: .int .i64 g0 :: rs)).toArray) rfl rfl (fits_agg _) (by rw [rcl_len hcs, zrc_len]; exact Nat.le_refl _) (splice_all (by rw [rcl_len hcs, zrc_len])) (rc_size (rcl_len hcs)) (rcl_ones h1c) ?_; intro WA hO; replace HO := hide hO; clear hO))
  refine bodyPost_ret (results_row_tmp_tmp rfl _ HO.out 2 _ _ _ _ _ _ rfl rfl rfl rfl Try.underlying46 rfl (rc_size (rcl_len hcs))) rfl ?_
  exact ⟨rfl, HO.out.below⟩

set_option maxRecDepth 100000 in
set_option maxHeartbeats 2000000 in
theorem rrecv_nofit9 (i m T n frm : Int) (mv : MV) (g0 : Int) (rs : List Value) (hcs : (.int .i64 9 :: .int .i64 g0 :: rs).length = 47) (h1c : (.int .i64 9 :: .int .i64 g0 :: rs).all (·.oneCell') = true) (q : ¬ mv.kind = 10) (w : World) :
    Calls Try.prog 39 #[.agg (rcl i m T n true (.int .i64 9 :: .int .i64 g0 :: rs)).toArray, .int .i64 frm, .agg mv.cells.toArray] w (Hands w (.tuple #[.agg (rcl i m T n true (.int .i64 9 :: .int .i64 g0 :: rs)).toArray, .bool false, .slice none 0 0])) := by
  have HO := hide (Own.nil w [] (by simp))
  have q1 : (mv.kind == 10) = false := by simpa using q
  go_enter Try.func39, Try.ntmps39
  go_wp2_with (first
    | (with_reducible refine at_box 46 (.tmp 0) ?_; refine wpList_box_own HO.out rfl 46 (.tmp 0) rfl (rcl i m T n true (.int .i64 9 :: .int .i64 g0 :: rs)) rfl ?_; intro WA b0 hO; replace HO := hide hO; clear hO)
    | (with_reducible refine at_box 41 (.tmp 2) ?_; refine wpList_box_own HO.out rfl 41 (.tmp 2) rfl (.int .i64 mv.kind :: .int .i64 mv.group :: .int .i64 mv.client :: .int .i64 mv.number :: .int .i64 mv.code :: .string mv.body :: .int .i64 mv.leader :: mv.rest) rfl ?_; intro WA b1 hO; replace HO := hide hO; clear hO)
    | (with_reducible refine at_alloc 46 ?_; refine wpList_alloc_own HO.out rfl 46 rfl zrc zrc_info ?_; intro WA b2 hO; replace HO := hide hO; have k0 := hO.cells 0 rfl; have k1 := hO.cells 1 rfl; clear hO; refine Hid.out ?_))
  refine hide ?_
  go_wp2_with (first
    | (with_reducible refine at_load 46 (.tmp 3) ?_; refine wpList_load_own HO.out rfl 46 (.tmp 3) rfl 0 _ 0 52 _ _ (rcl i m T n true (.int .i64 9 :: .int .i64 g0 :: rs)) _ rfl (take_all (rcl_len hcs)) rfl Try.underlying46 rfl (rc_size (rcl_len hcs)) ?_)
    | (with_reducible refine at_store 46 (.tmp 6) ?_; refine wpList_store_own HO.out rfl 46 (.tmp 6) _ rfl 2 _ 0 _ _ (rcl i m T n true (.int .i64 9 :: .int .i64 g0 :: rs)) (rcl i m T n true (.int .i64 9 :: .int .i64 g0 :: rs)) rfl (.agg (rcl i m T n true (.int .i64 9 :: .int .i64 g0 :: rs)).toArray) rfl rfl (fits_agg _) (by rw [rcl_len hcs, zrc_len]; exact Nat.le_refl _) (splice_all (by rw [rcl_len hcs, zrc_len])) (rc_size (rcl_len hcs)) (rcl_ones h1c) ?_; intro WA hO; replace HO := hide hO; clear hO))
  refine bodyPost_ret (results_row_tmp_tmp rfl _ HO.out 2 _ _ _ _ _ _ rfl rfl rfl rfl Try.underlying46 rfl (rc_size (rcl_len hcs))) rfl ?_
  exact ⟨rfl, HO.out.below⟩
end Go.Proofs.Ytpbgelhjbfckcaa
