/- The reference: Receive. -/
import Derived.Test.YtpbgelhjbfckcaaS05
import Derived.Test.YtpbgelhjbfckcaaS07
import Derived.Test.YtpbgelhjbfckcaaS03
namespace Go.Proofs.Ytpbgelhjbfckcaa
open Go.ChangeShapes Go.WideShapes Go.ChangeAt Go.RowKit
set_option linter.unusedVariables false
set_option linter.unusedSimpArgs false



set_option maxRecDepth 100000 in
set_option maxHeartbeats 2000000 in
theorem rrecv_group1 (i m T n frm : Int) (mv : MV) (g0 : Int) (rs : List Value) (hcs : (.int .i64 1 :: .int .i64 g0 :: rs).length = 47) (h1c : (.int .i64 1 :: .int .i64 g0 :: rs).all (·.oneCell') = true) (q : mv.kind = 2) (qg : ¬ mv.group = g0) (w : World) :
    Calls Try.prog 39 #[.agg (rcl i m T n true (.int .i64 1 :: .int .i64 g0 :: rs)).toArray, .int .i64 frm, .agg mv.cells.toArray] w (Hands w (.tuple #[.agg (rcl i m T n true (.int .i64 1 :: .int .i64 g0 :: rs)).toArray, .bool false, .slice none 0 0])) := by
  have HO := hide (Own.nil w [] (by simp))
  have q1 : (mv.kind == 2) = true := by simpa using q
  have q2 : (mv.group != g0) = true := by simpa using qg
  clear q qg
  go_enter Try.func39, Try.ntmps39
  go_wp2_with (first
    | (with_reducible refine at_box 46 (.tmp 0) ?_; refine wpList_box_own HO.out rfl 46 (.tmp 0) rfl (rcl i m T n true (.int .i64 1 :: .int .i64 g0 :: rs)) rfl ?_; intro WA b0 hO; replace HO := hide hO; clear hO)
    | (with_reducible refine at_box 41 (.tmp 2) ?_; refine wpList_box_own HO.out rfl 41 (.tmp 2) rfl (.int .i64 mv.kind :: .int .i64 mv.group :: .int .i64 mv.client :: .int .i64 mv.number :: .int .i64 mv.code :: .string mv.body :: .int .i64 mv.leader :: mv.rest) rfl ?_; intro WA b1 hO; replace HO := hide hO; clear hO)
    | (with_reducible refine at_alloc 46 ?_; refine wpList_alloc_own HO.out rfl 46 rfl zrc zrc_info ?_; intro WA b2 hO; replace HO := hide hO; have k0 := hO.cells 0 rfl; have k1 := hO.cells 1 rfl; clear hO; refine Hid.out ?_))
  refine hide ?_
  go_wp2_with (first
    | (with_reducible refine at_load 46 (.tmp 3) ?_; refine wpList_load_own HO.out rfl 46 (.tmp 3) rfl 0 _ 0 52 _ _ (rcl i m T n true (.int .i64 1 :: .int .i64 g0 :: rs)) _ rfl (take_all (rcl_len hcs)) rfl Try.underlying46 rfl (rc_size (rcl_len hcs)) ?_)
    | (with_reducible refine at_store 46 (.tmp 6) ?_; refine wpList_store_own HO.out rfl 46 (.tmp 6) _ rfl 2 _ 0 _ _ (rcl i m T n true (.int .i64 1 :: .int .i64 g0 :: rs)) (rcl i m T n true (.int .i64 1 :: .int .i64 g0 :: rs)) rfl (.agg (rcl i m T n true (.int .i64 1 :: .int .i64 g0 :: rs)).toArray) rfl rfl (fits_agg _) (by rw [rcl_len hcs, zrc_len]; exact Nat.le_refl _) (splice_all (by rw [rcl_len hcs, zrc_len])) (rc_size (rcl_len hcs)) (rcl_ones h1c) ?_; intro WA hO; replace HO := hide hO; clear hO))
  refine bodyPost_ret (results_row_tmp_tmp rfl _ HO.out 2 _ _ _ _ _ _ rfl rfl rfl rfl Try.underlying46 rfl (rc_size (rcl_len hcs))) rfl ?_
  exact ⟨rfl, HO.out.below⟩

set_option maxRecDepth 100000 in
set_option maxHeartbeats 2000000 in
theorem rrecv_client1 (i m T n frm : Int) (mv : MV) (g0 : Int) (rs : List Value) (hcs : (.int .i64 1 :: .int .i64 g0 :: rs).length = 47) (h1c : (.int .i64 1 :: .int .i64 g0 :: rs).all (·.oneCell') = true) (q : mv.kind = 2) (qg : mv.group = g0) (qc : ¬ mv.client = i) (w : World) :
    Calls Try.prog 39 #[.agg (rcl i m T n true (.int .i64 1 :: .int .i64 g0 :: rs)).toArray, .int .i64 frm, .agg mv.cells.toArray] w (Hands w (.tuple #[.agg (rcl i m T n true (.int .i64 1 :: .int .i64 g0 :: rs)).toArray, .bool false, .slice none 0 0])) := by
  have HO := hide (Own.nil w [] (by simp))
  have q1 : (mv.kind == 2) = true := by simpa using q
  have q2 : (mv.group != g0) = false := by simpa using qg
  have q3 : (mv.client != i) = true := by simpa using qc
  clear q qg qc
  go_enter Try.func39, Try.ntmps39
  go_wp2_with (first
    | (with_reducible refine at_box 46 (.tmp 0) ?_; refine wpList_box_own HO.out rfl 46 (.tmp 0) rfl (rcl i m T n true (.int .i64 1 :: .int .i64 g0 :: rs)) rfl ?_; intro WA b0 hO; replace HO := hide hO; clear hO)
    | (with_reducible refine at_box 41 (.tmp 2) ?_; refine wpList_box_own HO.out rfl 41 (.tmp 2) rfl (.int .i64 mv.kind :: .int .i64 mv.group :: .int .i64 mv.client :: .int .i64 mv.number :: .int .i64 mv.code :: .string mv.body :: .int .i64 mv.leader :: mv.rest) rfl ?_; intro WA b1 hO; replace HO := hide hO; clear hO)
    | (with_reducible refine at_alloc 46 ?_; refine wpList_alloc_own HO.out rfl 46 rfl zrc zrc_info ?_; intro WA b2 hO; replace HO := hide hO; have k0 := hO.cells 0 rfl; have k1 := hO.cells 1 rfl; clear hO; refine Hid.out ?_))
  refine hide ?_
  go_wp2_with (first
    | (with_reducible refine at_load 46 (.tmp 3) ?_; refine wpList_load_own HO.out rfl 46 (.tmp 3) rfl 0 _ 0 52 _ _ (rcl i m T n true (.int .i64 1 :: .int .i64 g0 :: rs)) _ rfl (take_all (rcl_len hcs)) rfl Try.underlying46 rfl (rc_size (rcl_len hcs)) ?_)
    | (with_reducible refine at_store 46 (.tmp 6) ?_; refine wpList_store_own HO.out rfl 46 (.tmp 6) _ rfl 2 _ 0 _ _ (rcl i m T n true (.int .i64 1 :: .int .i64 g0 :: rs)) (rcl i m T n true (.int .i64 1 :: .int .i64 g0 :: rs)) rfl (.agg (rcl i m T n true (.int .i64 1 :: .int .i64 g0 :: rs)).toArray) rfl rfl (fits_agg _) (by rw [rcl_len hcs, zrc_len]; exact Nat.le_refl _) (splice_all (by rw [rcl_len hcs, zrc_len])) (rc_size (rcl_len hcs)) (rcl_ones h1c) ?_; intro WA hO; replace HO := hide hO; clear hO))
  refine bodyPost_ret (results_row_tmp_tmp rfl _ HO.out 2 _ _ _ _ _ _ rfl rfl rfl rfl Try.underlying46 rfl (rc_size (rcl_len hcs))) rfl ?_
  exact ⟨rfl, HO.out.below⟩

set_option maxRecDepth 100000 in
set_option maxHeartbeats 2000000 in
theorem rrecv_number1 (i m T n frm : Int) (mv : MV) (g0 : Int) (rs : List Value) (hcs : (.int .i64 1 :: .int .i64 g0 :: rs).length = 47) (h1c : (.int .i64 1 :: .int .i64 g0 :: rs).all (·.oneCell') = true) (q : mv.kind = 2) (qg : mv.group = g0) (qc : mv.client = i) (qn : ¬ mv.number = n) (w : World) :
    Calls Try.prog 39 #[.agg (rcl i m T n true (.int .i64 1 :: .int .i64 g0 :: rs)).toArray, .int .i64 frm, .agg mv.cells.toArray] w (Hands w (.tuple #[.agg (rcl i m T n true (.int .i64 1 :: .int .i64 g0 :: rs)).toArray, .bool false, .slice none 0 0])) := by
  have HO := hide (Own.nil w [] (by simp))
  have q1 : (mv.kind == 2) = true := by simpa using q
  have q2 : (mv.group != g0) = false := by simpa using qg
  have q3 : (mv.client != i) = false := by simpa using qc
  have q4 : (mv.number != n) = true := by simpa using qn
  clear q qg qc qn
  go_enter Try.func39, Try.ntmps39
  go_wp2_with (first
    | (with_reducible refine at_box 46 (.tmp 0) ?_; refine wpList_box_own HO.out rfl 46 (.tmp 0) rfl (rcl i m T n true (.int .i64 1 :: .int .i64 g0 :: rs)) rfl ?_; intro WA b0 hO; replace HO := hide hO; clear hO)
    | (with_reducible refine at_box 41 (.tmp 2) ?_; refine wpList_box_own HO.out rfl 41 (.tmp 2) rfl (.int .i64 mv.kind :: .int .i64 mv.group :: .int .i64 mv.client :: .int .i64 mv.number :: .int .i64 mv.code :: .string mv.body :: .int .i64 mv.leader :: mv.rest) rfl ?_; intro WA b1 hO; replace HO := hide hO; clear hO)
    | (with_reducible refine at_alloc 46 ?_; refine wpList_alloc_own HO.out rfl 46 rfl zrc zrc_info ?_; intro WA b2 hO; replace HO := hide hO; have k0 := hO.cells 0 rfl; have k1 := hO.cells 1 rfl; clear hO; refine Hid.out ?_))
  refine hide ?_
  go_wp2_with (first
    | (with_reducible refine at_load 46 (.tmp 3) ?_; refine wpList_load_own HO.out rfl 46 (.tmp 3) rfl 0 _ 0 52 _ _ (rcl i m T n true (.int .i64 1 :: .int .i64 g0 :: rs)) _ rfl (take_all (rcl_len hcs)) rfl Try.underlying46 rfl (rc_size (rcl_len hcs)) ?_)
    | (with_reducible refine at_store 46 (.tmp 6) ?_; refine wpList_store_own HO.out rfl 46 (.tmp 6) _ rfl 2 _ 0 _ _ (rcl i m T n true (.int .i64 1 :: .int .i64 g0 :: rs)) (rcl i m T n true (.int .i64 1 :: .int .i64 g0 :: rs)) rfl (.agg (rcl i m T n true (.int .i64 1 :: .int .i64 g0 :: rs)).toArray) rfl rfl (fits_agg _) (by rw [rcl_len hcs, zrc_len]; exact Nat.le_refl _) (splice_all (by rw [rcl_len hcs, zrc_len])) (rc_size (rcl_len hcs)) (rcl_ones h1c) ?_; intro WA hO; replace HO := hide hO; clear hO))
  refine bodyPost_ret (results_row_tmp_tmp rfl _ HO.out 2 _ _ _ _ _ _ rfl rfl rfl rfl Try.underlying46 rfl (rc_size (rcl_len hcs))) rfl ?_
  exact ⟨rfl, HO.out.below⟩

set_option maxRecDepth 100000 in
set_option maxHeartbeats 2000000 in
theorem rrecv_other1 (i m T n frm : Int) (mv : MV) (g0 : Int) (rs : List Value) (hcs : (.int .i64 1 :: .int .i64 g0 :: rs).length = 47) (h1c : (.int .i64 1 :: .int .i64 g0 :: rs).all (·.oneCell') = true) (q : mv.kind = 2) (qg : mv.group = g0) (qc : mv.client = i) (qn : mv.number = n) (e0 : ¬ mv.code = 0) (e1 : ¬ mv.code = 1) (e2 : ¬ mv.code = 17) (w : World) :
    Calls Try.prog 39 #[.agg (rcl i m T n true (.int .i64 1 :: .int .i64 g0 :: rs)).toArray, .int .i64 frm, .agg mv.cells.toArray] w (Hands w (.tuple #[.agg (rcl i m T n true (.int .i64 1 :: .int .i64 g0 :: rs)).toArray, .bool false, .slice none 0 0])) := by
  have HO := hide (Own.nil w [] (by simp))
  have q1 : (mv.kind == 2) = true := by simpa using q
  have q2 : (mv.group != g0) = false := by simpa using qg
  have q3 : (mv.client != i) = false := by simpa using qc
  have q4 : (mv.number != n) = false := by simpa using qn
  have f0 : (mv.code == 0) = false := by simpa using e0
  have f1 : (mv.code == 1) = false := by simpa using e1
  have q5 : (mv.kind != 2) = false := by simp [q]
  have q6 : (mv.code != 17) = true := by simpa using e2
  clear q qg qc qn
  go_enter Try.func39, Try.ntmps39
  go_wp2_with (first
    | (with_reducible refine at_box 46 (.tmp 0) ?_; refine wpList_box_own HO.out rfl 46 (.tmp 0) rfl (rcl i m T n true (.int .i64 1 :: .int .i64 g0 :: rs)) rfl ?_; intro WA b0 hO; replace HO := hide hO; clear hO)
    | (with_reducible refine at_box 41 (.tmp 2) ?_; refine wpList_box_own HO.out rfl 41 (.tmp 2) rfl (.int .i64 mv.kind :: .int .i64 mv.group :: .int .i64 mv.client :: .int .i64 mv.number :: .int .i64 mv.code :: .string mv.body :: .int .i64 mv.leader :: mv.rest) rfl ?_; intro WA b1 hO; replace HO := hide hO; clear hO)
    | (with_reducible refine at_alloc 46 ?_; refine wpList_alloc_own HO.out rfl 46 rfl zrc zrc_info ?_; intro WA b2 hO; replace HO := hide hO; have k0 := hO.cells 0 rfl; have k1 := hO.cells 1 rfl; clear hO; refine Hid.out ?_))
  refine hide ?_
  go_wp2_with (first
    | (with_reducible refine at_load 46 (.tmp 3) ?_; refine wpList_load_own HO.out rfl 46 (.tmp 3) rfl 0 _ 0 52 _ _ (rcl i m T n true (.int .i64 1 :: .int .i64 g0 :: rs)) _ rfl (take_all (rcl_len hcs)) rfl Try.underlying46 rfl (rc_size (rcl_len hcs)) ?_)
    | (with_reducible refine at_store 46 (.tmp 6) ?_; refine wpList_store_own HO.out rfl 46 (.tmp 6) _ rfl 2 _ 0 _ _ (rcl i m T n true (.int .i64 1 :: .int .i64 g0 :: rs)) (rcl i m T n true (.int .i64 1 :: .int .i64 g0 :: rs)) rfl (.agg (rcl i m T n true (.int .i64 1 :: .int .i64 g0 :: rs)).toArray) rfl rfl (fits_agg _) (by rw [rcl_len hcs, zrc_len]; exact Nat.le_refl _) (splice_all (by rw [rcl_len hcs, zrc_len])) (rc_size (rcl_len hcs)) (rcl_ones h1c) ?_; intro WA hO; replace HO := hide hO; clear hO))
  refine bodyPost_ret (results_row_tmp_tmp rfl _ HO.out 2 _ _ _ _ _ _ rfl rfl rfl rfl Try.underlying46 rfl (rc_size (rcl_len hcs))) rfl ?_
  exact ⟨rfl, HO.out.below⟩

set_option maxRecDepth 100000 in
set_option maxHeartbeats 2000000 in
theorem rrecv_least (i m T n frm : Int) (mv : MV) (g0 : Int) (rs : List Value) (hcs : (.int .i64 1 :: .int .i64 g0 :: rs).length = 47) (h1c : (.int .i64 1 :: .int .i64 g0 :: rs).all (·.oneCell') = true) (q : mv.kind = 2) (qg : mv.group = g0) (qc : mv.client = i) (qn : mv.number = n) (e0 : ¬ mv.code = 0) (e1 : ¬ mv.code = 1) (e2 : mv.code = 17) (q7 : mv.leader.tmod 100 < 1) (w : World) :
    Calls Try.prog 39 #[.agg (rcl i m T n true (.int .i64 1 :: .int .i64 g0 :: rs)).toArray, .int .i64 frm, .agg mv.cells.toArray] w (Hands w (.tuple #[.agg (rcl i m T n true (.int .i64 1 :: .int .i64 g0 :: rs)).toArray, .bool false, .slice none 0 0])) := by
  have HO := hide (Own.nil w [] (by simp))
  have q1 : (mv.kind == 2) = true := by simpa using q
  have q2 : (mv.group != g0) = false := by simpa using qg
  have q3 : (mv.client != i) = false := by simpa using qc
  have q4 : (mv.number != n) = false := by simpa using qn
  have f0 : (mv.code == 0) = false := by simpa using e0
  have f1 : (mv.code == 1) = false := by simpa using e1
  have q5 : (mv.kind != 2) = false := by simp [q]
  generalize ht : mv.leader.tmod 100 = t at *
  have q6 : (mv.code != 17) = false := by simpa using e2
  have q8 : decide (t < 1) = true := by simpa using q7
  clear q qg qc qn e2
  go_enter Try.func39, Try.ntmps39
  go_wp2_with (first
    | (with_reducible refine at_box 46 (.tmp 0) ?_; refine wpList_box_own HO.out rfl 46 (.tmp 0) rfl (rcl i m T n true (.int .i64 1 :: .int .i64 g0 :: rs)) rfl ?_; intro WA b0 hO; replace HO := hide hO; clear hO)
    | (with_reducible refine at_box 41 (.tmp 2) ?_; refine wpList_box_own HO.out rfl 41 (.tmp 2) rfl (.int .i64 mv.kind :: .int .i64 mv.group :: .int .i64 mv.client :: .int .i64 mv.number :: .int .i64 mv.code :: .string mv.body :: .int .i64 mv.leader :: mv.rest) rfl ?_; intro WA b1 hO; replace HO := hide hO; clear hO)
    | (with_reducible refine at_alloc 46 ?_; refine wpList_alloc_own HO.out rfl 46 rfl zrc zrc_info ?_; intro WA b2 hO; replace HO := hide hO; have k0 := hO.cells 0 rfl; have k1 := hO.cells 1 rfl; clear hO; refine Hid.out ?_))
  refine hide ?_
  go_wp2_with (first
    | (with_reducible refine at_load 46 (.tmp 3) ?_; refine wpList_load_own HO.out rfl 46 (.tmp 3) rfl 0 _ 0 52 _ _ (rcl i m T n true (.int .i64 1 :: .int .i64 g0 :: rs)) _ rfl (take_all (rcl_len hcs)) rfl Try.underlying46 rfl (rc_size (rcl_len hcs)) ?_)
    | (with_reducible refine at_store 46 (.tmp 6) ?_; refine wpList_store_own HO.out rfl 46 (.tmp 6) _ rfl 2 _ 0 _ _ (rcl i m T n true (.int .i64 1 :: .int .i64 g0 :: rs)) (rcl i m T n true (.int .i64 1 :: .int .i64 g0 :: rs)) rfl (.agg (rcl i m T n true (.int .i64 1 :: .int .i64 g0 :: rs)).toArray) rfl rfl (fits_agg _) (by rw [rcl_len hcs, zrc_len]; exact Nat.le_refl _) (splice_all (by rw [rcl_len hcs, zrc_len])) (rc_size (rcl_len hcs)) (rcl_ones h1c) ?_; intro WA hO; replace HO := hide hO; clear hO))
  refine bodyPost_ret (results_row_tmp_tmp rfl _ HO.out 2 _ _ _ _ _ _ rfl rfl rfl rfl Try.underlying46 rfl (rc_size (rcl_len hcs))) rfl ?_
  exact ⟨rfl, HO.out.below⟩

set_option maxRecDepth 100000 in
set_option maxHeartbeats 2000000 in
theorem rrecv_most (i m T n frm : Int) (mv : MV) (g0 : Int) (rs : List Value) (hcs : (.int .i64 1 :: .int .i64 g0 :: rs).length = 47) (h1c : (.int .i64 1 :: .int .i64 g0 :: rs).all (·.oneCell') = true) (q : mv.kind = 2) (qg : mv.group = g0) (qc : mv.client = i) (qn : mv.number = n) (e0 : ¬ mv.code = 0) (e1 : ¬ mv.code = 1) (e2 : mv.code = 17) (q9 : 1 ≤ mv.leader.tmod 100) (q7 : m < mv.leader.tmod 100) (w : World) :
    Calls Try.prog 39 #[.agg (rcl i m T n true (.int .i64 1 :: .int .i64 g0 :: rs)).toArray, .int .i64 frm, .agg mv.cells.toArray] w (Hands w (.tuple #[.agg (rcl i m T n true (.int .i64 1 :: .int .i64 g0 :: rs)).toArray, .bool false, .slice none 0 0])) := by
  have HO := hide (Own.nil w [] (by simp))
  have q1 : (mv.kind == 2) = true := by simpa using q
  have q2 : (mv.group != g0) = false := by simpa using qg
  have q3 : (mv.client != i) = false := by simpa using qc
  have q4 : (mv.number != n) = false := by simpa using qn
  have f0 : (mv.code == 0) = false := by simpa using e0
  have f1 : (mv.code == 1) = false := by simpa using e1
  have q5 : (mv.kind != 2) = false := by simp [q]
  generalize ht : mv.leader.tmod 100 = t at *
  have q6 : (mv.code != 17) = false := by simpa using e2
  have q8 : decide (t < 1) = false := by simpa using q9
  have qa : decide (m < t) = true := by simpa using q7
  clear q qg qc qn e2
  go_enter Try.func39, Try.ntmps39
  go_wp2_with (first
    | (with_reducible refine at_box 46 (.tmp 0) ?_; refine wpList_box_own HO.out rfl 46 (.tmp 0) rfl (rcl i m T n true (.int .i64 1 :: .int .i64 g0 :: rs)) rfl ?_; intro WA b0 hO; replace HO := hide hO; clear hO)
    | (with_reducible refine at_box 41 (.tmp 2) ?_; refine wpList_box_own HO.out rfl 41 (.tmp 2) rfl (.int .i64 mv.kind :: .int .i64 mv.group :: .int .i64 mv.client :: .int .i64 mv.number :: .int .i64 mv.code :: .string mv.body :: .int .i64 mv.leader :: mv.rest) rfl ?_; intro WA b1 hO; replace HO := hide hO; clear hO)
    | (with_reducible refine at_alloc 46 ?_; refine wpList_alloc_own HO.out rfl 46 rfl zrc zrc_info ?_; intro WA b2 hO; replace HO := hide hO; have k0 := hO.cells 0 rfl; have k1 := hO.cells 1 rfl; clear hO; refine Hid.out ?_))
  refine hide ?_
  go_wp2_with (first
    | (with_reducible refine at_load 46 (.tmp 3) ?_; refine wpList_load_own HO.out rfl 46 (.tmp 3) rfl 0 _ 0 52 _ _ (rcl i m T n true (.int .i64 1 :: .int .i64 g0 :: rs)) _ rfl (take_all (rcl_len hcs)) rfl Try.underlying46 rfl (rc_size (rcl_len hcs)) ?_)
    | (with_reducible refine at_store 46 (.tmp 6) ?_; refine wpList_store_own HO.out rfl 46 (.tmp 6) _ rfl 2 _ 0 _ _ (rcl i m T n true (.int .i64 1 :: .int .i64 g0 :: rs)) (rcl i m T n true (.int .i64 1 :: .int .i64 g0 :: rs)) rfl (.agg (rcl i m T n true (.int .i64 1 :: .int .i64 g0 :: rs)).toArray) rfl rfl (fits_agg _) (by rw [rcl_len hcs, zrc_len]; exact Nat.le_refl _) (splice_all (by rw [rcl_len hcs, zrc_len])) (rc_size (rcl_len hcs)) (rcl_ones h1c) ?_; intro WA hO; replace HO := hide hO; clear hO))
  refine bodyPost_ret (results_row_tmp_tmp rfl _ HO.out 2 _ _ _ _ _ _ rfl rfl rfl rfl Try.underlying46 rfl (rc_size (rcl_len hcs))) rfl ?_
  exact ⟨rfl, HO.out.below⟩

set_option maxRecDepth 100000 in
set_option maxHeartbeats 2000000 in
theorem rrecv_from (i m T n frm : Int) (mv : MV) (g0 : Int) (rs : List Value) (hcs : (.int .i64 1 :: .int .i64 g0 :: rs).length = 47) (h1c : (.int .i64 1 :: .int .i64 g0 :: rs).all (·.oneCell') = true) (q : mv.kind = 2) (qg : mv.group = g0) (qc : mv.client = i) (qn : mv.number = n) (e0 : ¬ mv.code = 0) (e1 : ¬ mv.code = 1) (e2 : mv.code = 17) (q9 : 1 ≤ mv.leader.tmod 100) (q7 : mv.leader.tmod 100 ≤ m) (qb : mv.leader.tmod 100 = frm) (w : World) :
    Calls Try.prog 39 #[.agg (rcl i m T n true (.int .i64 1 :: .int .i64 g0 :: rs)).toArray, .int .i64 frm, .agg mv.cells.toArray] w (Hands w (.tuple #[.agg (rcl i m T n true (.int .i64 1 :: .int .i64 g0 :: rs)).toArray, .bool false, .slice none 0 0])) := by
  have HO := hide (Own.nil w [] (by simp))
  have q1 : (mv.kind == 2) = true := by simpa using q
  have q2 : (mv.group != g0) = false := by simpa using qg
  have q3 : (mv.client != i) = false := by simpa using qc
  have q4 : (mv.number != n) = false := by simpa using qn
  have f0 : (mv.code == 0) = false := by simpa using e0
  have f1 : (mv.code == 1) = false := by simpa using e1
  have q5 : (mv.kind != 2) = false := by simp [q]
  generalize ht : mv.leader.tmod 100 = t at *
  have q6 : (mv.code != 17) = false := by simpa using e2
  have q8 : decide (t < 1) = false := by simpa using q9
  have qa : decide (m < t) = false := by simpa using q7
  have qc' : (t == frm) = true := by simpa using qb
  clear q qg qc qn e2
  go_enter Try.func39, Try.ntmps39
  go_wp2_with (first
    | (with_reducible refine at_box 46 (.tmp 0) ?_; refine wpList_box_own HO.out rfl 46 (.tmp 0) rfl (rcl i m T n true (.int .i64 1 :: .int .i64 g0 :: rs)) rfl ?_; intro WA b0 hO; replace HO := hide hO; clear hO)
    | (with_reducible refine at_box 41 (.tmp 2) ?_; refine wpList_box_own HO.out rfl 41 (.tmp 2) rfl (.int .i64 mv.kind :: .int .i64 mv.group :: .int .i64 mv.client :: .int .i64 mv.number :: .int .i64 mv.code :: .string mv.body :: .int .i64 mv.leader :: mv.rest) rfl ?_; intro WA b1 hO; replace HO := hide hO; clear hO)
    | (with_reducible refine at_alloc 46 ?_; refine wpList_alloc_own HO.out rfl 46 rfl zrc zrc_info ?_; intro WA b2 hO; replace HO := hide hO; have k0 := hO.cells 0 rfl; have k1 := hO.cells 1 rfl; clear hO; refine Hid.out ?_))
  refine hide ?_
  go_wp2_with (first
    | (with_reducible refine at_load 46 (.tmp 3) ?_; refine wpList_load_own HO.out rfl 46 (.tmp 3) rfl 0 _ 0 52 _ _ (rcl i m T n true (.int .i64 1 :: .int .i64 g0 :: rs)) _ rfl (take_all (rcl_len hcs)) rfl Try.underlying46 rfl (rc_size (rcl_len hcs)) ?_)
    | (with_reducible refine at_store 46 (.tmp 6) ?_; refine wpList_store_own HO.out rfl 46 (.tmp 6) _ rfl 2 _ 0 _ _ (rcl i m T n true (.int .i64 1 :: .int .i64 g0 :: rs)) (rcl i m T n true (.int .i64 1 :: .int .i64 g0 :: rs)) rfl (.agg (rcl i m T n true (.int .i64 1 :: .int .i64 g0 :: rs)).toArray) rfl rfl (fits_agg _) (by rw [rcl_len hcs, zrc_len]; exact Nat.le_refl _) (splice_all (by rw [rcl_len hcs, zrc_len])) (rc_size (rcl_len hcs)) (rcl_ones h1c) ?_; intro WA hO; replace HO := hide hO; clear hO))
  refine bodyPost_ret (results_row_tmp_tmp rfl _ HO.out 2 _ _ _ _ _ _ rfl rfl rfl rfl Try.underlying46 rfl (rc_size (rcl_len hcs))) rfl ?_
  exact ⟨rfl, HO.out.below⟩
end Go.Proofs.Ytpbgelhjbfckcaa
