/- The reference: Receive, whole. -/
import Derived.Test.YtpbgelhjbfckcaaS08
import Derived.Test.YtpbgelhjbfckcaaS09
import Derived.Test.YtpbgelhjbfckcaaS10
import Derived.Test.YtpbgelhjbfckcaaS03
namespace Go.Proofs.Ytpbgelhjbfckcaa
open Go.ChangeShapes Go.WideShapes Go.ChangeAt Go.RowKit
set_option linter.unusedVariables false
set_option linter.unusedSimpArgs false

theorem take5 {a0 a1 a2 a3 a4 : Value} {cs : List Value} {n : Nat} (h : cs.length = n) : ((a0 :: a1 :: a2 :: a3 :: a4 :: cs).drop 5).take n = cs := by
  show cs.take n = cs
  rw [List.take_of_length_le (by omega)]
theorem zmsgI_ones : zmsgI.all (·.oneCell') = true := by have := zmsgI_one; simpa using this

set_option maxRecDepth 100000 in
set_option maxHeartbeats 2000000 in
theorem rrecv_end10 (i m T n frm : Int) (mv : MV) (g0 : Int) (rs : List Value) (hcs : (.int .i64 1 :: .int .i64 g0 :: rs).length = 47) (h1c : (.int .i64 1 :: .int .i64 g0 :: rs).all (·.oneCell') = true) (q : mv.kind = 2) (qg : mv.group = g0) (qc : mv.client = i) (qn : mv.number = n) (e0 : mv.code = 0) (w : World) :
    Calls Try.prog 39 #[.agg (rcl i m T n true (.int .i64 1 :: .int .i64 g0 :: rs)).toArray, .int .i64 frm, .agg mv.cells.toArray] w (Hands w (.tuple #[.agg (rcl i m T n false (zmsgI)).toArray, .bool true, .slice none 0 0])) := by
  have HO := hide (Own.nil w [] (by simp))
  have q1 : (mv.kind == 2) = true := by simpa using q
  have q2 : (mv.group != g0) = false := by simpa using qg
  have q3 : (mv.client != i) = false := by simpa using qc
  have q4 : (mv.number != n) = false := by simpa using qn
  have f0 : (mv.code == 0) = true := by simpa using e0
  clear q qg qc qn
  go_enter Try.func39, Try.ntmps39
  go_wp2_with (first
    | (with_reducible refine at_box 46 (.tmp 0) ?_; refine wpList_box_own HO.out rfl 46 (.tmp 0) rfl (rcl i m T n true (.int .i64 1 :: .int .i64 g0 :: rs)) rfl ?_; intro WA b0 hO; replace HO := hide hO; clear hO)
    | (with_reducible refine at_box 41 (.tmp 2) ?_; refine wpList_box_own HO.out rfl 41 (.tmp 2) rfl (.int .i64 mv.kind :: .int .i64 mv.group :: .int .i64 mv.client :: .int .i64 mv.number :: .int .i64 mv.code :: .string mv.body :: .int .i64 mv.leader :: mv.rest) rfl ?_; intro WA b1 hO; replace HO := hide hO; clear hO)
    | (with_reducible refine at_alloc 46 ?_; refine wpList_alloc_own HO.out rfl 46 rfl zrc zrc_info ?_; intro WA b2 hO; replace HO := hide hO; have k0 := hO.cells 0 rfl; have k1 := hO.cells 1 rfl; clear hO; refine Hid.out ?_))
  refine hide ?_
  go_wp2_with (first
    | (with_reducible refine at_build 41 ?_; refine wpList_build rfl 41 #[] rfl [] (by simp) zmsgI.toArray zmsgI_built ?_)
    | (with_reducible refine at_store 4 (.tmp 70) ?_; refine wpList_store_own HO.out rfl 4 (.tmp 70) _ rfl 0 _ 4 _ _ ([.bool false]) (rcl i m T n false (.int .i64 1 :: .int .i64 g0 :: rs)) rfl (.bool false) rfl rfl (fits_one rfl) (by simp) rfl bool_size rfl ?_; intro WA hO; replace HO := hide hO; clear hO)
    | (with_reducible refine at_store 41 (.tmp 71) ?_; refine wpList_store_own HO.out rfl 41 (.tmp 71) _ rfl 0 _ 5 _ _ (zmsgI) (rcl i m T n false (zmsgI)) rfl (.agg (zmsgI).toArray) rfl rfl (fits_agg _) (by rw [zmsgI_len, rcl_len hcs]; exact Nat.le_refl _) (splice5 (by rw [zmsgI_len]; exact hcs)) (msg_size zmsgI_len) zmsgI_ones ?_; intro WA hO; replace HO := hide hO; clear hO)
    | (with_reducible refine at_load 46 (.tmp 3) ?_; refine wpList_load_own HO.out rfl 46 (.tmp 3) rfl 0 _ 0 52 _ _ (rcl i m T n false (zmsgI)) _ rfl (take_all (rcl_len zmsgI_len)) rfl Try.underlying46 rfl (rc_size (rcl_len zmsgI_len)) ?_)
    | (with_reducible refine at_store 46 (.tmp 6) ?_; refine wpList_store_own HO.out rfl 46 (.tmp 6) _ rfl 2 _ 0 _ _ (rcl i m T n false (zmsgI)) (rcl i m T n false (zmsgI)) rfl (.agg (rcl i m T n false (zmsgI)).toArray) rfl rfl (fits_agg _) (by rw [rcl_len zmsgI_len, zrc_len]; exact Nat.le_refl _) (splice_all (by rw [rcl_len zmsgI_len, zrc_len])) (rc_size (rcl_len zmsgI_len)) (rcl_ones zmsgI_ones) ?_; intro WA hO; replace HO := hide hO; clear hO))
  refine bodyPost_ret (results_row_tmp_tmp rfl _ HO.out 2 _ _ _ _ _ _ rfl rfl rfl rfl Try.underlying46 rfl (rc_size (rcl_len zmsgI_len))) rfl ?_
  exact ⟨rfl, HO.out.below⟩

set_option maxRecDepth 100000 in
set_option maxHeartbeats 2000000 in
theorem rrecv_end11 (i m T n frm : Int) (mv : MV) (g0 : Int) (rs : List Value) (hcs : (.int .i64 1 :: .int .i64 g0 :: rs).length = 47) (h1c : (.int .i64 1 :: .int .i64 g0 :: rs).all (·.oneCell') = true) (q : mv.kind = 2) (qg : mv.group = g0) (qc : mv.client = i) (qn : mv.number = n) (e0 : mv.code = 1) (w : World) :
    Calls Try.prog 39 #[.agg (rcl i m T n true (.int .i64 1 :: .int .i64 g0 :: rs)).toArray, .int .i64 frm, .agg mv.cells.toArray] w (Hands w (.tuple #[.agg (rcl i m T n false (zmsgI)).toArray, .bool true, .slice none 0 0])) := by
  have HO := hide (Own.nil w [] (by simp))
  have q1 : (mv.kind == 2) = true := by simpa using q
  have q2 : (mv.group != g0) = false := by simpa using qg
  have q3 : (mv.client != i) = false := by simpa using qc
  have q4 : (mv.number != n) = false := by simpa using qn
  have f0 : (mv.code == 0) = false := by simp [e0]
  have f1 : (mv.code == 1) = true := by simpa using e0
  clear q qg qc qn
  go_enter Try.func39, Try.ntmps39
  go_wp2_with (first
    | (with_reducible refine at_box 46 (.tmp 0) ?_; refine wpList_box_own HO.out rfl 46 (.tmp 0) rfl (rcl i m T n true (.int .i64 1 :: .int .i64 g0 :: rs)) rfl ?_; intro WA b0 hO; replace HO := hide hO; clear hO)
    | (with_reducible refine at_box 41 (.tmp 2) ?_; refine wpList_box_own HO.out rfl 41 (.tmp 2) rfl (.int .i64 mv.kind :: .int .i64 mv.group :: .int .i64 mv.client :: .int .i64 mv.number :: .int .i64 mv.code :: .string mv.body :: .int .i64 mv.leader :: mv.rest) rfl ?_; intro WA b1 hO; replace HO := hide hO; clear hO)
    | (with_reducible refine at_alloc 46 ?_; refine wpList_alloc_own HO.out rfl 46 rfl zrc zrc_info ?_; intro WA b2 hO; replace HO := hide hO; have k0 := hO.cells 0 rfl; have k1 := hO.cells 1 rfl; clear hO; refine Hid.out ?_))
  refine hide ?_
  go_wp2_with (first
    | (with_reducible refine at_build 41 ?_; refine wpList_build rfl 41 #[] rfl [] (by simp) zmsgI.toArray zmsgI_built ?_)
    | (with_reducible refine at_store 4 (.tmp 70) ?_; refine wpList_store_own HO.out rfl 4 (.tmp 70) _ rfl 0 _ 4 _ _ ([.bool false]) (rcl i m T n false (.int .i64 1 :: .int .i64 g0 :: rs)) rfl (.bool false) rfl rfl (fits_one rfl) (by simp) rfl bool_size rfl ?_; intro WA hO; replace HO := hide hO; clear hO)
    | (with_reducible refine at_store 41 (.tmp 71) ?_; refine wpList_store_own HO.out rfl 41 (.tmp 71) _ rfl 0 _ 5 _ _ (zmsgI) (rcl i m T n false (zmsgI)) rfl (.agg (zmsgI).toArray) rfl rfl (fits_agg _) (by rw [zmsgI_len, rcl_len hcs]; exact Nat.le_refl _) (splice5 (by rw [zmsgI_len]; exact hcs)) (msg_size zmsgI_len) zmsgI_ones ?_; intro WA hO; replace HO := hide hO; clear hO)
    | (with_reducible refine at_load 46 (.tmp 3) ?_; refine wpList_load_own HO.out rfl 46 (.tmp 3) rfl 0 _ 0 52 _ _ (rcl i m T n false (zmsgI)) _ rfl (take_all (rcl_len zmsgI_len)) rfl Try.underlying46 rfl (rc_size (rcl_len zmsgI_len)) ?_)
    | (with_reducible refine at_store 46 (.tmp 6) ?_; refine wpList_store_own HO.out rfl 46 (.tmp 6) _ rfl 2 _ 0 _ _ (rcl i m T n false (zmsgI)) (rcl i m T n false (zmsgI)) rfl (.agg (rcl i m T n false (zmsgI)).toArray) rfl rfl (fits_agg _) (by rw [rcl_len zmsgI_len, zrc_len]; exact Nat.le_refl _) (splice_all (by rw [rcl_len zmsgI_len, zrc_len])) (rc_size (rcl_len zmsgI_len)) (rcl_ones zmsgI_ones) ?_; intro WA hO; replace HO := hide hO; clear hO))
  refine bodyPost_ret (results_row_tmp_tmp rfl _ HO.out 2 _ _ _ _ _ _ rfl rfl rfl rfl Try.underlying46 rfl (rc_size (rcl_len zmsgI_len))) rfl ?_
  exact ⟨rfl, HO.out.below⟩

set_option maxRecDepth 100000 in
set_option maxHeartbeats 2000000 in
theorem rrecv_end90 (i m T n frm : Int) (mv : MV) (g0 : Int) (rs : List Value) (hcs : (.int .i64 9 :: .int .i64 g0 :: rs).length = 47) (h1c : (.int .i64 9 :: .int .i64 g0 :: rs).all (·.oneCell') = true) (q : mv.kind = 10) (qg : mv.group = g0) (qc : mv.client = i) (qn : mv.number = n) (e0 : mv.code = 0) (w : World) :
    Calls Try.prog 39 #[.agg (rcl i m T n true (.int .i64 9 :: .int .i64 g0 :: rs)).toArray, .int .i64 frm, .agg mv.cells.toArray] w (Hands w (.tuple #[.agg (rcl i m T n false (zmsgI)).toArray, .bool true, .slice none 0 0])) := by
  have HO := hide (Own.nil w [] (by simp))
  have q1 : (mv.kind == 10) = true := by simpa using q
  have q2 : (mv.group != g0) = false := by simpa using qg
  have q3 : (mv.client != i) = false := by simpa using qc
  have q4 : (mv.number != n) = false := by simpa using qn
  have f0 : (mv.code == 0) = true := by simpa using e0
  clear q qg qc qn
  go_enter Try.func39, Try.ntmps39
  go_wp2_with (first
    | (with_reducible refine at_box 46 (.tmp 0) ?_; refine wpList_box_own HO.out rfl 46 (.tmp 0) rfl (rcl i m T n true (.int .i64 9 :: .int .i64 g0 :: rs)) rfl ?_; intro WA b0 hO; replace HO := hide hO; clear hO)
    | (with_reducible refine at_box 41 (.tmp 2) ?_; refine wpList_box_own HO.out rfl 41 (.tmp 2) rfl (.int .i64 mv.kind :: .int .i64 mv.group :: .int .i64 mv.client :: .int .i64 mv.number :: .int .i64 mv.code :: .string mv.body :: .int .i64 mv.leader :: mv.rest) rfl ?_; intro WA b1 hO; replace HO := hide hO; clear hO)
    | (with_reducible refine at_alloc 46 ?_; refine wpList_alloc_own HO.out rfl 46 rfl zrc zrc_info ?_; intro WA b2 hO; replace HO := hide hO; have k0 := hO.cells 0 rfl; have k1 := hO.cells 1 rfl; clear hO; refine Hid.out ?_))
  refine hide ?_
  go_wp2_with (first
    | (with_reducible refine at_build 41 ?_; refine wpList_build rfl 41 #[] rfl [] (by simp) zmsgI.toArray zmsgI_built ?_)
    | (with_reducible refine at_store 4 (.tmp 70) ?_; refine wpList_store_own HO.out rfl 4 (.tmp 70) _ rfl 0 _ 4 _ _ ([.bool false]) (rcl i m T n false (.int .i64 9 :: .int .i64 g0 :: rs)) rfl (.bool false) rfl rfl (fits_one rfl) (by simp) rfl bool_size rfl ?_; intro WA hO; replace HO := hide hO; clear hO)
    | (with_reducible refine at_store 41 (.tmp 71) ?_; refine wpList_store_own HO.out rfl 41 (.tmp 71) _ rfl 0 _ 5 _ _ (zmsgI) (rcl i m T n false (zmsgI)) rfl (.agg (zmsgI).toArray) rfl rfl (fits_agg _) (by rw [zmsgI_len, rcl_len hcs]; exact Nat.le_refl _) (splice5 (by rw [zmsgI_len]; exact hcs)) (msg_size zmsgI_len) zmsgI_ones ?_; intro WA hO; replace HO := hide hO; clear hO)
    | (with_reducible refine at_load 46 (.tmp 3) ?_; refine wpList_load_own HO.out rfl 46 (.tmp 3) rfl 0 _ 0 52 _ _ (rcl i m T n false (zmsgI)) _ rfl (take_all (rcl_len zmsgI_len)) rfl Try.underlying46 rfl (rc_size (rcl_len zmsgI_len)) ?_)
    | (with_reducible refine at_store 46 (.tmp 6) ?_; refine wpList_store_own HO.out rfl 46 (.tmp 6) _ rfl 2 _ 0 _ _ (rcl i m T n false (zmsgI)) (rcl i m T n false (zmsgI)) rfl (.agg (rcl i m T n false (zmsgI)).toArray) rfl rfl (fits_agg _) (by rw [rcl_len zmsgI_len, zrc_len]; exact Nat.le_refl _) (splice_all (by rw [rcl_len zmsgI_len, zrc_len])) (rc_size (rcl_len zmsgI_len)) (rcl_ones zmsgI_ones) ?_; intro WA hO; replace HO := hide hO; clear hO))
  refine bodyPost_ret (results_row_tmp_tmp rfl _ HO.out 2 _ _ _ _ _ _ rfl rfl rfl rfl Try.underlying46 rfl (rc_size (rcl_len zmsgI_len))) rfl ?_
  exact ⟨rfl, HO.out.below⟩

set_option maxRecDepth 100000 in
set_option maxHeartbeats 2000000 in
theorem rrecv_end91 (i m T n frm : Int) (mv : MV) (g0 : Int) (rs : List Value) (hcs : (.int .i64 9 :: .int .i64 g0 :: rs).length = 47) (h1c : (.int .i64 9 :: .int .i64 g0 :: rs).all (·.oneCell') = true) (q : mv.kind = 10) (qg : mv.group = g0) (qc : mv.client = i) (qn : mv.number = n) (e0 : mv.code = 1) (w : World) :
    Calls Try.prog 39 #[.agg (rcl i m T n true (.int .i64 9 :: .int .i64 g0 :: rs)).toArray, .int .i64 frm, .agg mv.cells.toArray] w (Hands w (.tuple #[.agg (rcl i m T n false (zmsgI)).toArray, .bool true, .slice none 0 0])) := by
  have HO := hide (Own.nil w [] (by simp))
  have q1 : (mv.kind == 10) = true := by simpa using q
  have q2 : (mv.group != g0) = false := by simpa using qg
  have q3 : (mv.client != i) = false := by simpa using qc
  have q4 : (mv.number != n) = false := by simpa using qn
  have f0 : (mv.code == 0) = false := by simp [e0]
  have f1 : (mv.code == 1) = true := by simpa using e0
  clear q qg qc qn
  go_enter Try.func39, Try.ntmps39
  go_wp2_with (first
    | (with_reducible refine at_box 46 (.tmp 0) ?_; refine wpList_box_own HO.out rfl 46 (.tmp 0) rfl (rcl i m T n true (.int .i64 9 :: .int .i64 g0 :: rs)) rfl ?_; intro WA b0 hO; replace HO := hide hO; clear hO)
    | (with_reducible refine at_box 41 (.tmp 2) ?_; refine wpList_box_own HO.out rfl 41 (.tmp 2) rfl (.int .i64 mv.kind :: .int .i64 mv.group :: .int .i64 mv.client :: .int .i64 mv.number :: .int .i64 mv.code :: .string mv.body :: .int .i64 mv.leader :: mv.rest) rfl ?_; intro WA b1 hO; replace HO := hide hO; clear hO)
    | (with_reducible refine at_alloc 46 ?_; refine wpList_alloc_own HO.out rfl 46 rfl zrc zrc_info ?_; intro WA b2 hO; replace HO := hide hO; have k0 := hO.cells 0 rfl; have k1 := hO.cells 1 rfl; clear hO; refine Hid.out ?_))
  refine hide ?_
  go_wp2_with (first
    | (with_reducible refine at_build 41 ?_; refine wpList_build rfl 41 #[] rfl [] (by simp) zmsgI.toArray zmsgI_built ?_)
    | (with_reducible refine at_store 4 (.tmp 70) ?_; refine wpList_store_own HO.out rfl 4 (.tmp 70) _ rfl 0 _ 4 _ _ ([.bool false]) (rcl i m T n false (.int .i64 9 :: .int .i64 g0 :: rs)) rfl (.bool false) rfl rfl (fits_one rfl) (by simp) rfl bool_size rfl ?_; intro WA hO; replace HO := hide hO; clear hO)
    | (with_reducible refine at_store 41 (.tmp 71) ?_; refine wpList_store_own HO.out rfl 41 (.tmp 71) _ rfl 0 _ 5 _ _ (zmsgI) (rcl i m T n false (zmsgI)) rfl (.agg (zmsgI).toArray) rfl rfl (fits_agg _) (by rw [zmsgI_len, rcl_len hcs]; exact Nat.le_refl _) (splice5 (by rw [zmsgI_len]; exact hcs)) (msg_size zmsgI_len) zmsgI_ones ?_; intro WA hO; replace HO := hide hO; clear hO)
    | (with_reducible refine at_load 46 (.tmp 3) ?_; refine wpList_load_own HO.out rfl 46 (.tmp 3) rfl 0 _ 0 52 _ _ (rcl i m T n false (zmsgI)) _ rfl (take_all (rcl_len zmsgI_len)) rfl Try.underlying46 rfl (rc_size (rcl_len zmsgI_len)) ?_)
    | (with_reducible refine at_store 46 (.tmp 6) ?_; refine wpList_store_own HO.out rfl 46 (.tmp 6) _ rfl 2 _ 0 _ _ (rcl i m T n false (zmsgI)) (rcl i m T n false (zmsgI)) rfl (.agg (rcl i m T n false (zmsgI)).toArray) rfl rfl (fits_agg _) (by rw [rcl_len zmsgI_len, zrc_len]; exact Nat.le_refl _) (splice_all (by rw [rcl_len zmsgI_len, zrc_len])) (rc_size (rcl_len zmsgI_len)) (rcl_ones zmsgI_ones) ?_; intro WA hO; replace HO := hide hO; clear hO))
  refine bodyPost_ret (results_row_tmp_tmp rfl _ HO.out 2 _ _ _ _ _ _ rfl rfl rfl rfl Try.underlying46 rfl (rc_size (rcl_len zmsgI_len))) rfl ?_
  exact ⟨rfl, HO.out.below⟩

set_option maxRecDepth 100000 in
set_option maxHeartbeats 2000000 in
theorem rrecv_go (i m T n frm : Int) (mv : MV) (g0 : Int) (rs : List Value) (hcs : (.int .i64 1 :: .int .i64 g0 :: rs).length = 47) (h1c : (.int .i64 1 :: .int .i64 g0 :: rs).all (·.oneCell') = true) (q : mv.kind = 2) (qg : mv.group = g0) (qc : mv.client = i) (qn : mv.number = n) (e2 : mv.code = 17)
    (q9 : 1 ≤ mv.leader.tmod 100) (q7 : mv.leader.tmod 100 ≤ m) (qb : ¬ mv.leader.tmod 100 = frm) (w : World) :
    Calls Try.prog 39 #[.agg (rcl i m T n true (.int .i64 1 :: .int .i64 g0 :: rs)).toArray, .int .i64 frm, .agg mv.cells.toArray] w fun e w' => ∃ b, e = .returned (.tuple #[.agg (rcl i m (mv.leader.tmod 100) n true (.int .i64 1 :: .int .i64 g0 :: rs)).toArray, .bool false, .slice (some ⟨b, 0, none⟩) 1 1]) ∧ w.heap.size ≤ b ∧ Blk w' b 59 (.int .i64 (mv.leader.tmod 100) :: .int .i64 1 :: .int .i64 g0 :: rs).toArray ∧ Below w.heap.size w w' := by
  have HO := hide (Own.nil w [] (by simp))
  have q1 : (mv.kind == 2) = true := by simpa using q
  have q2 : (mv.group != g0) = false := by simpa using qg
  have q3 : (mv.client != i) = false := by simpa using qc
  have q4 : (mv.number != n) = false := by simpa using qn
  have f0 : (mv.code == 0) = false := by simp [e2]
  have f1 : (mv.code == 1) = false := by simp [e2]
  have q5 : (mv.kind != 2) = false := by simp [q]
  have q6 : (mv.code != 17) = false := by simp [e2]
  generalize ht : mv.leader.tmod 100 = t at *
  have q8 : decide (t < 1) = false := by simpa using q9
  have qa : decide (m < t) = false := by simpa using q7
  have qd : (t == frm) = false := by simpa using qb
  clear q qg qc qn e2
  go_enter Try.func39, Try.ntmps39
  go_wp2_with (first
    | (with_reducible refine at_box 46 (.tmp 0) ?_; refine wpList_box_own HO.out rfl 46 (.tmp 0) rfl (rcl i m T n true (.int .i64 1 :: .int .i64 g0 :: rs)) rfl ?_; intro WA b0 hO; replace HO := hide hO; clear hO)
    | (with_reducible refine at_box 41 (.tmp 2) ?_; refine wpList_box_own HO.out rfl 41 (.tmp 2) rfl (.int .i64 mv.kind :: .int .i64 mv.group :: .int .i64 mv.client :: .int .i64 mv.number :: .int .i64 mv.code :: .string mv.body :: .int .i64 mv.leader :: mv.rest) rfl ?_; intro WA b1 hO; replace HO := hide hO; clear hO)
    | (with_reducible refine at_alloc 46 ?_; refine wpList_alloc_own HO.out rfl 46 rfl zrc zrc_info ?_; intro WA b2 hO; replace HO := hide hO; have k0 := hO.cells 0 rfl; have k1 := hO.cells 1 rfl; clear hO; refine Hid.out ?_))
  refine hide ?_
  go_wp2_with (first
    | (with_reducible refine at_store 3 (.tmp 101) ?_; refine wpList_store_own HO.out rfl 3 (.tmp 101) _ rfl 0 _ 2 _ _ ([.int .i64 t]) (rcl i m t n true (.int .i64 1 :: .int .i64 g0 :: rs)) rfl (.int .i64 t) rfl rfl (fits_one rfl) (by simp) rfl int_size rfl ?_; intro WA hO; replace HO := hide hO; clear hO))
  clear k0 k1
  refine wp_region_held_drew (S := fun W => (∀ j, W.cell? ⟨b0, j, none⟩ = (rcl i m t n true (.int .i64 1 :: .int .i64 g0 :: rs) : List Value)[j]?)) (by kernel_rfl) (HO.out.drew.cells 0 rfl) (fun hS0 => ?_)
  replace HO := hide HO.out.drew
  refine wpAnyH_take (i := 0) (v := .agg (rcl i m t n true (.int .i64 1 :: .int .i64 g0 :: rs)).toArray) rfl (by kernel_rfl) (by kernel_rfl) (by kernel_rfl) (fun _ _ _ h => h) (yieldsIf_load rfl 46 (.tmp 3) rfl b0 0 52 46 (rcl i m t n true (.int .i64 1 :: .int .i64 g0 :: rs)) (rcl i m t n true (.int .i64 1 :: .int .i64 g0 :: rs)) _ (fun w hw => hw) (take_all (rcl_len hcs)) rfl Try.underlying46 rfl (rc_size (rcl_len hcs))) (by assumption) ?_
  try simp only [Act.put, List.getElem_toArray, List.getElem_cons_zero, List.getElem_cons_succ, List.setIfInBounds_toArray, List.set_cons_zero, List.set_cons_succ]
  refine wpAnyH_take (i := 1) (v := ?vv1) rfl (by kernel_rfl) (by kernel_rfl) (by kernel_rfl) (fun _ _ _ h => h) (Or.inl ⟨by rfl, ?hyv1⟩) (by assumption) ?restv1
  case hyv1 => (intro w hSw; (try dsimp only at hSw); go_simp; first | done | (with_reducible rfl))
  try simp only [Act.put, List.getElem_toArray, List.getElem_cons_zero, List.getElem_cons_succ, List.setIfInBounds_toArray, List.set_cons_zero, List.set_cons_succ]
  refine wpAnyH_take (i := 2) (v := ?vv2) rfl (by kernel_rfl) (by kernel_rfl) (by kernel_rfl) (fun _ _ _ h => h) (Or.inl ⟨by rfl, ?hyv2⟩) (by assumption) ?restv2
  case hyv2 => (intro w hSw; (try dsimp only at hSw); go_simp; first | done | (with_reducible rfl))
  try simp only [Act.put, List.getElem_toArray, List.getElem_cons_zero, List.getElem_cons_succ, List.setIfInBounds_toArray, List.set_cons_zero, List.set_cons_succ]
  refine wpAnyH_take (i := 3) (v := .agg (.int .i64 1 :: .int .i64 g0 :: rs).toArray) rfl (by kernel_rfl) (by kernel_rfl) (by kernel_rfl) (fun _ _ _ h => h) (yieldsIf_load rfl 41 (.tmp 104) rfl b0 5 47 41 (rcl i m t n true (.int .i64 1 :: .int .i64 g0 :: rs)) (.int .i64 1 :: .int .i64 g0 :: rs) _ (fun w hw => hw) (take5 hcs) rfl Try.underlying41 rfl (msg_size hcs)) (by assumption) ?_
  try simp only [Act.put, List.getElem_toArray, List.getElem_cons_zero, List.getElem_cons_succ, List.setIfInBounds_toArray, List.set_cons_zero, List.set_cons_succ]
  refine wpAnyH_take (i := 4) (v := .agg (.int .i64 t :: .int .i64 1 :: .int .i64 g0 :: rs).toArray) rfl (by kernel_rfl) (by kernel_rfl) (by kernel_rfl) (fun _ _ _ h => h) (yieldsIf_build rfl 59 _ rfl ([(0, .int .i64 t), (1, .agg (.int .i64 1 :: .int .i64 g0 :: rs).toArray)]) (by first | (simp [Act.eval]; done) | (simp [Act.eval]; rfl)) (.int .i64 t :: .int .i64 1 :: .int .i64 g0 :: rs).toArray (built_out t (.int .i64 1 :: .int .i64 g0 :: rs) hcs)) (by assumption) ?_
  try simp only [Act.put, List.getElem_toArray, List.getElem_cons_zero, List.getElem_cons_succ, List.setIfInBounds_toArray, List.set_cons_zero, List.set_cons_succ]
  refine' have_tail2 (I := fun b W => Own w [] [(b0, 46, rcl i m t n true (.int .i64 1 :: .int .i64 g0 :: rs)), (b1, 41, .int .i64 mv.kind :: .int .i64 mv.group :: .int .i64 mv.client :: .int .i64 mv.number :: .int .i64 mv.code :: .string mv.body :: .int .i64 mv.leader :: mv.rest), (b2, 46, rcl i m t n true (.int .i64 1 :: .int .i64 g0 :: rs)), (b, 59, .int .i64 t :: .int .i64 1 :: .int .i64 g0 :: rs)] W) (fun tail => ?_) ?_
  rotate_left
  · refine wpAnyH_ready (rs := [5, 6]) (by kernel_rfl) (by simp) ?_
    refine AllReadyH.cons rfl (fun K hK => ?_) (AllReadyH.cons rfl (fun K hK => ?_) AllReadyH.nil)
    · refine step_slice_own HO.out rfl 53 59 1 #[(0, .tmp 106)] rfl Try.underlying53 (.int .i64 t :: .int .i64 1 :: .int .i64 g0 :: rs) (by simpa [Act.eval] using slice_one (.int .i64 t :: .int .i64 1 :: .int .i64 g0 :: rs) (by simpa using hcs)) ?_
      intro WA b3 hO
      replace HO := hide hO
      clear hO
      refine hK.out _ _ (HO.out.cells 0 rfl) (fun _ => ?_)
      clear hK K
      try simp only [Act.put, List.getElem_toArray, List.getElem_cons_zero, List.getElem_cons_succ, List.setIfInBounds_toArray, List.set_cons_zero, List.set_cons_succ]
      refine wpAnyH_ready (rs := [6]) (by kernel_rfl) (by simp) ?_
      refine AllReadyH.cons rfl (fun K hK => ?_) AllReadyH.nil
      refine step_store_own HO.out rfl 46 (.tmp 6) (.tmp 102) rfl 2 _ 0 _ _ (rcl i m t n true (.int .i64 1 :: .int .i64 g0 :: rs)) (rcl i m t n true (.int .i64 1 :: .int .i64 g0 :: rs)) rfl (.agg (rcl i m t n true (.int .i64 1 :: .int .i64 g0 :: rs)).toArray) rfl rfl (fits_agg _) (by rw [rcl_len hcs, zrc_len]; exact Nat.le_refl _) (splice_all (by rw [rcl_len hcs, zrc_len])) (rc_size (rcl_len hcs)) (rcl_ones h1c) ?_
      intro WA hO
      replace HO := hide hO
      clear hO
      refine hK.out _ _ (HO.out.cells 0 rfl) (fun _ => ?_)
      clear hK K
      try simp only [Act.put, List.getElem_toArray, List.getElem_cons_zero, List.getElem_cons_succ, List.setIfInBounds_toArray, List.set_cons_zero, List.set_cons_succ]
      refine wpAnyH_take (i := 7) (v := ?vta7) rfl (by kernel_rfl) (by kernel_rfl) (by kernel_rfl) (fun _ _ _ h => h) (Or.inl ⟨by rfl, ?hyta7⟩) (by assumption) ?restta7
      case hyta7 => (intro w hSw; (try dsimp only at hSw); go_simp; first | done | (with_reducible rfl))
      try simp only [Act.put, List.getElem_toArray, List.getElem_cons_zero, List.getElem_cons_succ, List.setIfInBounds_toArray, List.set_cons_zero, List.set_cons_succ]
      exact tail b3 _ HO.out
    · refine step_store_own HO.out rfl 46 (.tmp 6) (.tmp 102) rfl 2 _ 0 _ _ (rcl i m t n true (.int .i64 1 :: .int .i64 g0 :: rs)) (rcl i m t n true (.int .i64 1 :: .int .i64 g0 :: rs)) rfl (.agg (rcl i m t n true (.int .i64 1 :: .int .i64 g0 :: rs)).toArray) rfl rfl (fits_agg _) (by rw [rcl_len hcs, zrc_len]; exact Nat.le_refl _) (splice_all (by rw [rcl_len hcs, zrc_len])) (rc_size (rcl_len hcs)) (rcl_ones h1c) ?_
      intro WA hO
      replace HO := hide hO
      clear hO
      refine hK.out _ _ (HO.out.cells 0 rfl) (fun _ => ?_)
      clear hK K
      try simp only [Act.put, List.getElem_toArray, List.getElem_cons_zero, List.getElem_cons_succ, List.setIfInBounds_toArray, List.set_cons_zero, List.set_cons_succ]
      refine wpAnyH_take (i := 7) (v := ?vtb7) rfl (by kernel_rfl) (by kernel_rfl) (by kernel_rfl) (fun _ _ _ h => h) (Or.inl ⟨by rfl, ?hytb7⟩) (by assumption) ?resttb7
      case hytb7 => (intro w hSw; (try dsimp only at hSw); go_simp; first | done | (with_reducible rfl))
      try simp only [Act.put, List.getElem_toArray, List.getElem_cons_zero, List.getElem_cons_succ, List.setIfInBounds_toArray, List.set_cons_zero, List.set_cons_succ]
      refine wpAnyH_ready (rs := [5]) (by kernel_rfl) (by simp) ?_
      refine AllReadyH.cons rfl (fun K hK => ?_) AllReadyH.nil
      refine step_slice_own HO.out rfl 53 59 1 #[(0, .tmp 106)] rfl Try.underlying53 (.int .i64 t :: .int .i64 1 :: .int .i64 g0 :: rs) (by simpa [Act.eval] using slice_one (.int .i64 t :: .int .i64 1 :: .int .i64 g0 :: rs) (by simpa using hcs)) ?_
      intro WA b3 hO
      replace HO := hide hO
      clear hO
      refine hK.out _ _ (HO.out.cells 0 rfl) (fun _ => ?_)
      clear hK K
      try simp only [Act.put, List.getElem_toArray, List.getElem_cons_zero, List.getElem_cons_succ, List.setIfInBounds_toArray, List.set_cons_zero, List.set_cons_succ]
      exact tail b3 _ HO.out
  intro b WT hO
  replace HO := hide hO
  have hS0 := hO.cells 0 rfl
  clear hO
  refine wpAnyH_take (i := 8) (v := ?vu0) rfl (by kernel_rfl) (by kernel_rfl) (by kernel_rfl) (fun _ _ _ h => h) (Or.inl ⟨by rfl, ?hyu0⟩) (by assumption) ?restu0
  case hyu0 => (intro w hSw; (try dsimp only at hSw); go_simp; first | done | (with_reducible rfl))
  try simp only [Act.put, List.getElem_toArray, List.getElem_cons_zero, List.getElem_cons_succ, List.setIfInBounds_toArray, List.set_cons_zero, List.set_cons_succ]
  refine wpAnyH_done (by kernel_rfl) ?_ _
  clear hS0
  go_wp2_with fail
  refine bodyPost_ret (results_row_tmp_tmp rfl _ HO.out 2 _ _ _ _ _ _ rfl rfl rfl rfl Try.underlying46 rfl (rc_size (rcl_len hcs))) rfl ?_
  exact ⟨b, rfl, HO.out.new 3 rfl, HO.out.blk 3 rfl, HO.out.below⟩

def RRecR (w : World) (r : RecV) (e : Ending) (w' : World) : Prop :=
  ∃ v, e = .returned (.tuple #[.agg (rC r.st).toArray, .bool r.ends, v]) ∧ OutIn w' w.heap.size v r.out ∧ Below w.heap.size w w'
theorem rrec_same {w : World} {S : CS} {e : Ending} {w' : World} (h : Hands w (.tuple #[.agg (rC S).toArray, .bool false, .slice none 0 0]) e w') : RRecR w ⟨S, false, none⟩ e w' := ⟨_, h.1, rfl, h.2⟩
theorem rreceive_c (i m T n frm : Int) (mv : MV) (hm : mv.Ok) (k0 g0 : Int) (rs : List Value) (hk : k0 = 1 ∨ k0 = 9) (hcs : (Value.int .i64 k0 :: .int .i64 g0 :: rs).length = 47) (h1c : (Value.int .i64 k0 :: .int .i64 g0 :: rs).all (·.oneCell') = true) (w : World) :
    Calls Try.prog 39 #[.agg (rC ⟨i, m, T, n, some (.int .i64 k0 :: .int .i64 g0 :: rs)⟩).toArray, .int .i64 frm, .agg mv.cells.toArray] w
      (RRecR w (if answersB ⟨i, m, T, n, some (.int .i64 k0 :: .int .i64 g0 :: rs)⟩ k0 g0 mv = true then cAnswered ⟨i, m, T, n, some (.int .i64 k0 :: .int .i64 g0 :: rs)⟩ (.int .i64 k0 :: .int .i64 g0 :: rs) mv frm else ⟨⟨i, m, T, n, some (.int .i64 k0 :: .int .i64 g0 :: rs)⟩, false, none⟩)) := by
  have same : ∀ (h : Calls Try.prog 39 #[.agg (rcl i m T n true (.int .i64 k0 :: .int .i64 g0 :: rs)).toArray, .int .i64 frm, .agg mv.cells.toArray] w (Hands w (.tuple #[.agg (rcl i m T n true (.int .i64 k0 :: .int .i64 g0 :: rs)).toArray, .bool false, .slice none 0 0]))),
      Calls Try.prog 39 #[.agg (rC ⟨i, m, T, n, some (.int .i64 k0 :: .int .i64 g0 :: rs)⟩).toArray, .int .i64 frm, .agg mv.cells.toArray] w (RRecR w ⟨⟨i, m, T, n, some (.int .i64 k0 :: .int .i64 g0 :: rs)⟩, false, none⟩) := fun h => h.mono fun e w' hh => rrec_same hh
  cases hB : answersB ⟨i, m, T, n, some (.int .i64 k0 :: .int .i64 g0 :: rs)⟩ k0 g0 mv with
  | false =>
    rw [if_neg (by simp)]
    apply same
    unfold answersB at hB
    simp only [decide_eq_false_iff_not] at hB
    by_cases q1 : mv.kind = replyTo k0
    · by_cases q2 : mv.group = g0
      · by_cases q3 : mv.client = i
        · have q4 : ¬ mv.number = n := fun e => hB ⟨q2, q3, e, q1⟩
          rcases hk with rfl | rfl
          · exact rrecv_number1 i m T n frm mv g0 rs hcs h1c q1 q2 q3 q4 w
          · exact rrecv_number9 i m T n frm mv g0 rs hcs h1c q1 q2 q3 q4 w
        · rcases hk with rfl | rfl
          · exact rrecv_client1 i m T n frm mv g0 rs hcs h1c q1 q2 q3 w
          · exact rrecv_client9 i m T n frm mv g0 rs hcs h1c q1 q2 q3 w
      · rcases hk with rfl | rfl
        · exact rrecv_group1 i m T n frm mv g0 rs hcs h1c q1 q2 w
        · exact rrecv_group9 i m T n frm mv g0 rs hcs h1c q1 q2 w
    · rcases hk with rfl | rfl
      · exact rrecv_nofit1 i m T n frm mv g0 rs hcs h1c q1 w
      · exact rrecv_nofit9 i m T n frm mv g0 rs hcs h1c q1 w
  | true =>
    rw [if_pos rfl]
    unfold answersB at hB
    simp only [decide_eq_true_eq] at hB
    obtain ⟨q2, q3, q4, q1⟩ := hB
    unfold cAnswered
    by_cases h1 : mv.code = 0 ∨ mv.code = 1
    · rw [if_pos h1]
      have fin : ∀ (h : Calls Try.prog 39 #[.agg (rcl i m T n true (.int .i64 k0 :: .int .i64 g0 :: rs)).toArray, .int .i64 frm, .agg mv.cells.toArray] w (Hands w (.tuple #[.agg (rcl i m T n false zmsgI).toArray, .bool true, .slice none 0 0]))),
          Calls Try.prog 39 #[.agg (rcl i m T n true (.int .i64 k0 :: .int .i64 g0 :: rs)).toArray, .int .i64 frm, .agg mv.cells.toArray] w (RRecR w ⟨⟨i, m, T, n, none⟩, true, none⟩) := fun h => h.mono fun e w' hh => by
        rw [zmsgI_def] at hh
        exact ⟨_, hh.1, rfl, hh.2⟩
      apply fin
      rcases hk with rfl | rfl
      · rcases h1 with h1 | h1
        · exact rrecv_end10 i m T n frm mv g0 rs hcs h1c q1 q2 q3 q4 h1 w
        · exact rrecv_end11 i m T n frm mv g0 rs hcs h1c q1 q2 q3 q4 h1 w
      · rcases h1 with h1 | h1
        · exact rrecv_end90 i m T n frm mv g0 rs hcs h1c q1 q2 q3 q4 h1 w
        · exact rrecv_end91 i m T n frm mv g0 rs hcs h1c q1 q2 q3 q4 h1 w
    rw [if_neg h1]
    have e0 : ¬ mv.code = 0 := fun e => h1 (.inl e)
    have e1 : ¬ mv.code = 1 := fun e => h1 (.inr e)
    by_cases h2 : mv.code = 17 ∧ mv.kind = 2 ∧ 0 < mv.leader ∧ 1 ≤ mv.leader.tmod 100 ∧ mv.leader.tmod 100 ≤ m ∧ mv.leader.tmod 100 ≠ frm
    · rw [if_pos h2]
      obtain ⟨a1, a2, a3, a4, a5, a6⟩ := h2
      have hk1 : k0 = 1 := by
        rcases hk with rfl | rfl
        · rfl
        · rw [show replyTo 9 = 10 from rfl] at q1; omega
      subst hk1
      refine (rrecv_go i m T n frm mv g0 rs hcs h1c a2 q2 q3 q4 a1 a4 a5 a6 w).mono ?_
      rintro e w' ⟨b, rfl, hb, hblk, hbw⟩
      exact ⟨_, rfl, ⟨b, hb, rfl, hblk, by simpa using hcs⟩, hbw⟩
    rw [if_neg h2]
    apply same
    rcases hk with rfl | rfl
    · by_cases a1 : mv.code = 17
      · by_cases a4 : 1 ≤ mv.leader.tmod 100
        · have a3 : 0 < mv.leader := by
            rcases Int.lt_or_le 0 mv.leader with h | h
            · exact h
            · have h9 := Int.tmod_nonneg 100 (show 0 ≤ -mv.leader by omega)
              rw [Int.neg_tmod] at h9
              omega
          by_cases a5 : mv.leader.tmod 100 ≤ m
          · by_cases a6 : mv.leader.tmod 100 = frm
            · exact rrecv_from i m T n frm mv g0 rs hcs h1c q1 q2 q3 q4 e0 e1 a1 a4 a5 a6 w
            · exact absurd ⟨a1, q1, a3, a4, a5, a6⟩ h2
          · exact rrecv_most i m T n frm mv g0 rs hcs h1c q1 q2 q3 q4 e0 e1 a1 a4 (by omega) w
        · exact rrecv_least i m T n frm mv g0 rs hcs h1c q1 q2 q3 q4 e0 e1 a1 (by omega) w
      · exact rrecv_other1 i m T n frm mv g0 rs hcs h1c q1 q2 q3 q4 e0 e1 a1 w
    · exact rrecv_other9 i m T n frm mv g0 rs hcs h1c q1 q2 q3 q4 e0 e1 w
end Go.Proofs.Ytpbgelhjbfckcaa
