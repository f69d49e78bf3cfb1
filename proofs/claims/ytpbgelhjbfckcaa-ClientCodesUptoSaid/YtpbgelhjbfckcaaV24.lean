/- The reference's used. -/
import Derived.Test.YtpbgelhjbfckcaaV23
namespace Go.Proofs.Ytpbgelhjbfckcaa
set_option maxRecDepth 100000
set_option linter.unusedVariables false
set_option linter.unusedSimpArgs false
open List renaming getElem_toArray → qa, getElem_cons_zero → qb, getElem_cons_succ → qc, setIfInBounds_toArray → qd, set_cons_zero → qe, set_cons_succ → qf
open Go.ChangeShapes Go.WideShapes Go.ChangeAt Go.RowKit
set_option maxHeartbeats 8000000 in
theorem used6_c (cs : List Value) (p : PM)  (w : World) (hlen : cs.length = 47) (hc0 : cs[0]? = some (.int .i64 6)) (hc4 : cs[4]? = some (.int .i64 (p.n 4))) (hc7 : cs[7]? = some (.int .i64 (p.n 7))) (hc8 : cs[8]? = some (.int .i64 (p.n 8))) (hc17 : cs[17]? = some (.int .i64 (p.n 17)))  :
 Calls Try.prog 43 #[.agg cs.toArray] w fun e w' => Below w.heap.size w w' ∧ e = .returned (.tuple #[.agg ([.int .i64 6, zi, zi, zi, .int .i64 (p.n 4), zs, zi, .int .i64 (p.n 7), .int .i64 (p.n 8), zi, zi, zl, zl, zi, zi, zi, zi, .int .i64 (p.n 17), zi, zi, zi, zi, zi, zi, zi, zi, zl, zl, zl, zl, zl, zl, zl, zl, zi, zi, zi, zi, zi, zi, zi, zi, zb0, zl, zi, zs, zb0] : List Value).toArray, .bool true]) := by
 have HC4 := hide hc4;have HC7 := hide hc7;have HC8 := hide hc8;have HC17 := hide hc17;have HC0 := hide hc0
 have HO := hide (Own.nil w [] (by simp))
 clear hc4 hc7 hc8 hc17 hc0
 go_enter Try.func43, Try.ntmps43
 try simp only [List.append_eq, List.cons_append, List.nil_append]
 go_wp2_with (((with_reducible refine at_box 41 (.tmp 0) ?_); refine wpList_box_own HO.out rfl 41 (.tmp 0) rfl cs rfl ?_; intro WA b1 hO; replace HO := hide hO; clear hO; refine Hid.out ?_))
 refine hide ?_
 go_wp2_with ((with_reducible refine at_alloc 41 ?_); refine wpList_alloc_own HO.out rfl 41 rfl zmsgI zmsgI_info ?_; intro WB bR hO; replace HO := hide hO; clear hO; have k0 := HO.out.k0 HC0.out; have k4 := HO.out.k0 HC4.out; have k7 := HO.out.k0 HC7.out; have k8 := HO.out.k0 HC8.out; have k17 := HO.out.k0 HC17.out; refine Hid.out ?_)
 refine hide ?_
 go_wp2_with (first
  | ((with_reducible refine at_build 41 ?_); refine wpList_build rfl 41 _ rfl ([(0, .int .i64 6)]) (by first | (simp [Act.eval]; done) | (simp [Act.eval]; rfl)) ([.int .i64 6, zi, zi, zi, zi, zs, zi, zi, zi, zi, zi, zl, zl, zi, zi, zi, zi, zi, zi, zi, zi, zi, zi, zi, zi, zi, zl, zl, zl, zl, zl, zl, zl, zl, zi, zi, zi, zi, zi, zi, zi, zi, zb0, zl, zi, zs, zb0] : List Value).toArray (by kernel_rfl) ?_)
  | ((with_reducible refine at_alloc 41 ?_); refine wpList_alloc_own HO.out rfl 41 rfl zmsgI zmsgI_info ?_; intro WC bx hO; replace HO := hide hO; clear hO)
  | ((with_reducible refine at_store 41 (.tmp 4) ?_); refine wpList_store_own HO.out rfl 41 (.tmp 4) (.tmp 7) rfl 2 _ 0 _ _ ([.int .i64 6, zi, zi, zi, zi, zs, zi, zi, zi, zi, zi, zl, zl, zi, zi, zi, zi, zi, zi, zi, zi, zi, zi, zi, zi, zi, zl, zl, zl, zl, zl, zl, zl, zl, zi, zi, zi, zi, zi, zi, zi, zi, zb0, zl, zi, zs, zb0]) ([.int .i64 6, zi, zi, zi, zi, zs, zi, zi, zi, zi, zi, zl, zl, zi, zi, zi, zi, zi, zi, zi, zi, zi, zi, zi, zi, zi, zl, zl, zl, zl, zl, zl, zl, zl, zi, zi, zi, zi, zi, zi, zi, zi, zb0, zl, zi, zs, zb0]) rfl (.agg ([.int .i64 6, zi, zi, zi, zi, zs, zi, zi, zi, zi, zi, zl, zl, zi, zi, zi, zi, zi, zi, zi, zi, zi, zi, zi, zi, zi, zl, zl, zl, zl, zl, zl, zl, zl, zi, zi, zi, zi, zi, zi, zi, zi, zb0, zl, zi, zs, zb0] : List Value).toArray) rfl rfl (fits_agg _) (by rw [zmsgI_len]; exact Nat.le_refl _) (splice_all (by rw [zmsgI_len]; rfl)) (by kernel_rfl) rfl ?_; intro WD hO; replace HO := hide hO; clear hO; clear k0 k4 k7 k8 k17; have k0 := HO.out.k0 HC0.out; have k4 := HO.out.k0 HC4.out; have k7 := HO.out.k0 HC7.out; have k8 := HO.out.k0 HC8.out; have k17 := HO.out.k0 HC17.out)
  | fail)
 refine wp_region_held_drew (S := fun W => W.cell? ⟨b1, 4, none⟩ = some (.int .i64 (p.n 4)) ∧ W.cell? ⟨b1, 7, none⟩ = some (.int .i64 (p.n 7)) ∧ W.cell? ⟨b1, 8, none⟩ = some (.int .i64 (p.n 8)) ∧ W.cell? ⟨b1, 17, none⟩ = some (.int .i64 (p.n 17))) (by kernel_rfl) (⟨k4, k7, k8, k17⟩) (fun hS0 => ?_)
 replace HO := hide HO.out.drew
 refine tk 0 ?_;refine tk 1 ?_;refine tk 2 ?_;refine tk 3 ?_;refine tk 4 ?_;refine tk 5 ?_;refine tk 6 ?_;refine tk 7 ?_;refine tk 8 ?_
 refine tr1 9 fun K hK => ?_
 refine step_store_own HO.out rfl 3 (.tmp 102) (.tmp 95) rfl 2 _ 7 _ _ ([.int .i64 (p.n 7)]) ([.int .i64 6, zi, zi, zi, zi, zs, zi, .int .i64 (p.n 7), zi, zi, zi, zl, zl, zi, zi, zi, zi, zi, zi, zi, zi, zi, zi, zi, zi, zi, zl, zl, zl, zl, zl, zl, zl, zl, zi, zi, zi, zi, zi, zi, zi, zi, zb0, zl, zi, zs, zb0]) rfl (.int .i64 (p.n 7)) rfl rfl (fits_one rfl) (Nat.le_of_ble_eq_true rfl) rfl (by kernel_rfl) rfl ?_
 intro WE hO
 replace HO := hide hO
 clear hO;clear k0 k4 k7 k8 k17;have k0 := HO.out.k0 HC0.out;have k4 := HO.out.k0 HC4.out;have k7 := HO.out.k0 HC7.out;have k8 := HO.out.k0 HC8.out;have k17 := HO.out.k0 HC17.out
 refine hK.out _ _ (⟨k4, k7, k8, k17⟩) (fun hS9 => ?_)
 clear hK K
 try simp only [Act.put, qa, qb, qc, qd, qe, qf]
 refine tk 10 ?_
 refine tr1 11 fun K hK => ?_
 refine step_store_own HO.out rfl 3 (.tmp 103) (.tmp 97) rfl 2 _ 8 _ _ ([.int .i64 (p.n 8)]) ([.int .i64 6, zi, zi, zi, zi, zs, zi, .int .i64 (p.n 7), .int .i64 (p.n 8), zi, zi, zl, zl, zi, zi, zi, zi, zi, zi, zi, zi, zi, zi, zi, zi, zi, zl, zl, zl, zl, zl, zl, zl, zl, zi, zi, zi, zi, zi, zi, zi, zi, zb0, zl, zi, zs, zb0]) rfl (.int .i64 (p.n 8)) rfl rfl (fits_one rfl) (Nat.le_of_ble_eq_true rfl) rfl (by kernel_rfl) rfl ?_
 intro WE hO
 replace HO := hide hO
 clear hO;clear k0 k4 k7 k8 k17;have k0 := HO.out.k0 HC0.out;have k4 := HO.out.k0 HC4.out;have k7 := HO.out.k0 HC7.out;have k8 := HO.out.k0 HC8.out;have k17 := HO.out.k0 HC17.out
 refine hK.out _ _ (⟨k4, k7, k8, k17⟩) (fun hS11 => ?_)
 clear hK K
 try simp only [Act.put, qa, qb, qc, qd, qe, qf]
 refine tk 12 ?_
 refine tr1 13 fun K hK => ?_
 refine step_store_own HO.out rfl 27 (.tmp 104) (.tmp 99) rfl 2 _ 4 _ _ ([.int .i64 (p.n 4)]) ([.int .i64 6, zi, zi, zi, .int .i64 (p.n 4), zs, zi, .int .i64 (p.n 7), .int .i64 (p.n 8), zi, zi, zl, zl, zi, zi, zi, zi, zi, zi, zi, zi, zi, zi, zi, zi, zi, zl, zl, zl, zl, zl, zl, zl, zl, zi, zi, zi, zi, zi, zi, zi, zi, zb0, zl, zi, zs, zb0]) rfl (.int .i64 (p.n 4)) rfl rfl (fits_one rfl) (Nat.le_of_ble_eq_true rfl) rfl (by kernel_rfl) rfl ?_
 intro WE hO
 replace HO := hide hO
 clear hO;clear k0 k4 k7 k8 k17;have k0 := HO.out.k0 HC0.out;have k4 := HO.out.k0 HC4.out;have k7 := HO.out.k0 HC7.out;have k8 := HO.out.k0 HC8.out;have k17 := HO.out.k0 HC17.out
 refine hK.out _ _ (⟨k4, k7, k8, k17⟩) (fun hS13 => ?_)
 clear hK K
 try simp only [Act.put, qa, qb, qc, qd, qe, qf]
 refine tk 14 ?_
 refine tr1 15 fun K hK => ?_
 refine step_store_own HO.out rfl 2 (.tmp 105) (.tmp 101) rfl 2 _ 17 _ _ ([.int .i64 (p.n 17)]) ([.int .i64 6, zi, zi, zi, .int .i64 (p.n 4), zs, zi, .int .i64 (p.n 7), .int .i64 (p.n 8), zi, zi, zl, zl, zi, zi, zi, zi, .int .i64 (p.n 17), zi, zi, zi, zi, zi, zi, zi, zi, zl, zl, zl, zl, zl, zl, zl, zl, zi, zi, zi, zi, zi, zi, zi, zi, zb0, zl, zi, zs, zb0]) rfl (.int .i64 (p.n 17)) rfl rfl (fits_one rfl) (Nat.le_of_ble_eq_true rfl) rfl (by kernel_rfl) rfl ?_
 intro WE hO
 replace HO := hide hO
 clear hO;clear k0 k4 k7 k8 k17;have k0 := HO.out.k0 HC0.out;have k4 := HO.out.k0 HC4.out;have k7 := HO.out.k0 HC7.out;have k8 := HO.out.k0 HC8.out;have k17 := HO.out.k0 HC17.out
 refine hK.out _ _ (⟨k4, k7, k8, k17⟩) (fun hS15 => ?_)
 clear hK K
 try simp only [Act.put, qa, qb, qc, qd, qe, qf]
 refine wpAnyH_done (by kernel_rfl) ?_ _
 clear hS0
 go_wp2_with (first
  | ((with_reducible refine at_load 41 (.tmp 4) ?_); refine wpList_load_own HO.out rfl 41 (.tmp 4) rfl 2 _ 0 47 _ _ ([.int .i64 6, zi, zi, zi, .int .i64 (p.n 4), zs, zi, .int .i64 (p.n 7), .int .i64 (p.n 8), zi, zi, zl, zl, zi, zi, zi, zi, .int .i64 (p.n 17), zi, zi, zi, zi, zi, zi, zi, zi, zl, zl, zl, zl, zl, zl, zl, zl, zi, zi, zi, zi, zi, zi, zi, zi, zb0, zl, zi, zs, zb0]) _ rfl rfl rfl Try.underlying41 rfl (by kernel_rfl) ?_)
  | ((with_reducible refine at_store 41 (.tmp 2) ?_); refine wpList_store_own HO.out rfl 41 (.tmp 2) (.tmp 158) rfl 1 _ 0 _ _ ([.int .i64 6, zi, zi, zi, .int .i64 (p.n 4), zs, zi, .int .i64 (p.n 7), .int .i64 (p.n 8), zi, zi, zl, zl, zi, zi, zi, zi, .int .i64 (p.n 17), zi, zi, zi, zi, zi, zi, zi, zi, zl, zl, zl, zl, zl, zl, zl, zl, zi, zi, zi, zi, zi, zi, zi, zi, zb0, zl, zi, zs, zb0]) ([.int .i64 6, zi, zi, zi, .int .i64 (p.n 4), zs, zi, .int .i64 (p.n 7), .int .i64 (p.n 8), zi, zi, zl, zl, zi, zi, zi, zi, .int .i64 (p.n 17), zi, zi, zi, zi, zi, zi, zi, zi, zl, zl, zl, zl, zl, zl, zl, zl, zi, zi, zi, zi, zi, zi, zi, zi, zb0, zl, zi, zs, zb0]) rfl (.agg ([.int .i64 6, zi, zi, zi, .int .i64 (p.n 4), zs, zi, .int .i64 (p.n 7), .int .i64 (p.n 8), zi, zi, zl, zl, zi, zi, zi, zi, .int .i64 (p.n 17), zi, zi, zi, zi, zi, zi, zi, zi, zl, zl, zl, zl, zl, zl, zl, zl, zi, zi, zi, zi, zi, zi, zi, zi, zb0, zl, zi, zs, zb0] : List Value).toArray) rfl rfl (fits_agg _) (by rw [zmsgI_len]; exact Nat.le_refl _) (splice_all (by rw [zmsgI_len]; rfl)) (by kernel_rfl) rfl ?_; intro WF hO; replace HO := hide hO; clear hO)
  | fail)
 refine bodyPost_ret (results_row_tmp Try.results43 _ _ bR 41 _ (0, 0) _ _ rfl rfl (HO.out.blk 1 rfl) Try.underlying41 rfl (by kernel_rfl)) rfl ?_
 exact ⟨HO.out.below, rfl⟩
set_option maxHeartbeats 8000000 in
theorem used7_c (cs : List Value) (p : PM)  (w : World) (hlen : cs.length = 47) (hc0 : cs[0]? = some (.int .i64 7)) (hc1 : cs[1]? = some (.int .i64 (p.n 1)))  :
 Calls Try.prog 43 #[.agg cs.toArray] w fun e w' => Below w.heap.size w w' ∧ e = .returned (.tuple #[.agg ([.int .i64 7, .int .i64 (p.n 1), zi, zi, zi, zs, zi, zi, zi, zi, zi, zl, zl, zi, zi, zi, zi, zi, zi, zi, zi, zi, zi, zi, zi, zi, zl, zl, zl, zl, zl, zl, zl, zl, zi, zi, zi, zi, zi, zi, zi, zi, zb0, zl, zi, zs, zb0] : List Value).toArray, .bool true]) := by
 have HC1 := hide hc1;have HC0 := hide hc0
 have HO := hide (Own.nil w [] (by simp))
 clear hc1 hc0
 go_enter Try.func43, Try.ntmps43
 try simp only [List.append_eq, List.cons_append, List.nil_append]
 go_wp2_with (((with_reducible refine at_box 41 (.tmp 0) ?_); refine wpList_box_own HO.out rfl 41 (.tmp 0) rfl cs rfl ?_; intro WA b1 hO; replace HO := hide hO; clear hO; refine Hid.out ?_))
 refine hide ?_
 go_wp2_with ((with_reducible refine at_alloc 41 ?_); refine wpList_alloc_own HO.out rfl 41 rfl zmsgI zmsgI_info ?_; intro WB bR hO; replace HO := hide hO; clear hO; have k0 := HO.out.k0 HC0.out; have k1 := HO.out.k0 HC1.out; refine Hid.out ?_)
 refine hide ?_
 go_wp2_with (first
  | ((with_reducible refine at_build 41 ?_); refine wpList_build rfl 41 _ rfl ([(0, .int .i64 7)]) (by first | (simp [Act.eval]; done) | (simp [Act.eval]; rfl)) ([.int .i64 7, zi, zi, zi, zi, zs, zi, zi, zi, zi, zi, zl, zl, zi, zi, zi, zi, zi, zi, zi, zi, zi, zi, zi, zi, zi, zl, zl, zl, zl, zl, zl, zl, zl, zi, zi, zi, zi, zi, zi, zi, zi, zb0, zl, zi, zs, zb0] : List Value).toArray (by kernel_rfl) ?_)
  | ((with_reducible refine at_alloc 41 ?_); refine wpList_alloc_own HO.out rfl 41 rfl zmsgI zmsgI_info ?_; intro WC bx hO; replace HO := hide hO; clear hO)
  | ((with_reducible refine at_store 41 (.tmp 4) ?_); refine wpList_store_own HO.out rfl 41 (.tmp 4) (.tmp 7) rfl 2 _ 0 _ _ ([.int .i64 7, zi, zi, zi, zi, zs, zi, zi, zi, zi, zi, zl, zl, zi, zi, zi, zi, zi, zi, zi, zi, zi, zi, zi, zi, zi, zl, zl, zl, zl, zl, zl, zl, zl, zi, zi, zi, zi, zi, zi, zi, zi, zb0, zl, zi, zs, zb0]) ([.int .i64 7, zi, zi, zi, zi, zs, zi, zi, zi, zi, zi, zl, zl, zi, zi, zi, zi, zi, zi, zi, zi, zi, zi, zi, zi, zi, zl, zl, zl, zl, zl, zl, zl, zl, zi, zi, zi, zi, zi, zi, zi, zi, zb0, zl, zi, zs, zb0]) rfl (.agg ([.int .i64 7, zi, zi, zi, zi, zs, zi, zi, zi, zi, zi, zl, zl, zi, zi, zi, zi, zi, zi, zi, zi, zi, zi, zi, zi, zi, zl, zl, zl, zl, zl, zl, zl, zl, zi, zi, zi, zi, zi, zi, zi, zi, zb0, zl, zi, zs, zb0] : List Value).toArray) rfl rfl (fits_agg _) (by rw [zmsgI_len]; exact Nat.le_refl _) (splice_all (by rw [zmsgI_len]; rfl)) (by kernel_rfl) rfl ?_; intro WD hO; replace HO := hide hO; clear hO; clear k0 k1; have k0 := HO.out.k0 HC0.out; have k1 := HO.out.k0 HC1.out)
  | ((with_reducible refine at_store 3 (.tmp 110) ?_); refine wpList_store_own HO.out rfl 3 (.tmp 110) (.tmp 109) rfl 2 _ 1 _ _ ([.int .i64 (p.n 1)]) ([.int .i64 7, .int .i64 (p.n 1), zi, zi, zi, zs, zi, zi, zi, zi, zi, zl, zl, zi, zi, zi, zi, zi, zi, zi, zi, zi, zi, zi, zi, zi, zl, zl, zl, zl, zl, zl, zl, zl, zi, zi, zi, zi, zi, zi, zi, zi, zb0, zl, zi, zs, zb0]) rfl (.int .i64 (p.n 1)) rfl rfl (fits_one rfl) (Nat.le_of_ble_eq_true rfl) rfl (by kernel_rfl) rfl ?_; intro WE hO; replace HO := hide hO; clear hO)
  | ((with_reducible refine at_load 41 (.tmp 4) ?_); refine wpList_load_own HO.out rfl 41 (.tmp 4) rfl 2 _ 0 47 _ _ ([.int .i64 7, .int .i64 (p.n 1), zi, zi, zi, zs, zi, zi, zi, zi, zi, zl, zl, zi, zi, zi, zi, zi, zi, zi, zi, zi, zi, zi, zi, zi, zl, zl, zl, zl, zl, zl, zl, zl, zi, zi, zi, zi, zi, zi, zi, zi, zb0, zl, zi, zs, zb0]) _ rfl rfl rfl Try.underlying41 rfl (by kernel_rfl) ?_)
  | ((with_reducible refine at_store 41 (.tmp 2) ?_); refine wpList_store_own HO.out rfl 41 (.tmp 2) (.tmp 158) rfl 1 _ 0 _ _ ([.int .i64 7, .int .i64 (p.n 1), zi, zi, zi, zs, zi, zi, zi, zi, zi, zl, zl, zi, zi, zi, zi, zi, zi, zi, zi, zi, zi, zi, zi, zi, zl, zl, zl, zl, zl, zl, zl, zl, zi, zi, zi, zi, zi, zi, zi, zi, zb0, zl, zi, zs, zb0]) ([.int .i64 7, .int .i64 (p.n 1), zi, zi, zi, zs, zi, zi, zi, zi, zi, zl, zl, zi, zi, zi, zi, zi, zi, zi, zi, zi, zi, zi, zi, zi, zl, zl, zl, zl, zl, zl, zl, zl, zi, zi, zi, zi, zi, zi, zi, zi, zb0, zl, zi, zs, zb0]) rfl (.agg ([.int .i64 7, .int .i64 (p.n 1), zi, zi, zi, zs, zi, zi, zi, zi, zi, zl, zl, zi, zi, zi, zi, zi, zi, zi, zi, zi, zi, zi, zi, zi, zl, zl, zl, zl, zl, zl, zl, zl, zi, zi, zi, zi, zi, zi, zi, zi, zb0, zl, zi, zs, zb0] : List Value).toArray) rfl rfl (fits_agg _) (by rw [zmsgI_len]; exact Nat.le_refl _) (splice_all (by rw [zmsgI_len]; rfl)) (by kernel_rfl) rfl ?_; intro WF hO; replace HO := hide hO; clear hO)
  | fail)
 refine bodyPost_ret (results_row_tmp Try.results43 _ _ bR 41 _ (0, 0) _ _ rfl rfl (HO.out.blk 1 rfl) Try.underlying41 rfl (by kernel_rfl)) rfl ?_
 exact ⟨HO.out.below, rfl⟩
set_option maxHeartbeats 8000000 in
theorem used8_c (cs : List Value) (p : PM) {A26p : Option Addr} {n26p c26p : Nat} {A27p : Option Addr} {n27p c27p : Nat} {A28p : Option Addr} {n28p c28p : Nat} {A29p : Option Addr} {n29p c29p : Nat} {A30p : Option Addr} {n30p c30p : Nat} {A31p : Option Addr} {n31p c31p : Nat} {A32p : Option Addr} {n32p c32p : Nat} (w : World) (hlen : cs.length = 47) (hc0 : cs[0]? = some (.int .i64 8)) (hc1 : cs[1]? = some (.int .i64 (p.n 1))) (hc4 : cs[4]? = some (.int .i64 (p.n 4))) (hd18 : (cs.drop 18).take 15 = [.int .i64 (p.n 18), .int .i64 (p.n 19), .int .i64 (p.n 20), .int .i64 (p.n 21), .int .i64 (p.n 22), .int .i64 (p.n 23), .int .i64 (p.n 24), .int .i64 (p.n 25), .slice A26p n26p c26p, .slice A27p n27p c27p, .slice A28p n28p c28p, .slice A29p n29p c29p, .slice A30p n30p c30p, .slice A31p n31p c31p, .slice A32p n32p c32p]) :
 Calls Try.prog 43 #[.agg cs.toArray] w fun e w' => Below w.heap.size w w' ∧ e = .returned (.tuple #[.agg ([.int .i64 8, .int .i64 (p.n 1), zi, zi, .int .i64 (p.n 4), zs, zi, zi, zi, zi, zi, zl, zl, zi, zi, zi, zi, zi, .int .i64 (p.n 18), .int .i64 (p.n 19), .int .i64 (p.n 20), .int .i64 (p.n 21), .int .i64 (p.n 22), .int .i64 (p.n 23), .int .i64 (p.n 24), .int .i64 (p.n 25), .slice A26p n26p c26p, .slice A27p n27p c27p, .slice A28p n28p c28p, .slice A29p n29p c29p, .slice A30p n30p c30p, .slice A31p n31p c31p, .slice A32p n32p c32p, zl, zi, zi, zi, zi, zi, zi, zi, zi, zb0, zl, zi, zs, zb0] : List Value).toArray, .bool true]) := by
 have HC1 := hide hc1;have HC4 := hide hc4;have HC0 := hide hc0;have HD18 := hide hd18
 have HO := hide (Own.nil w [] (by simp))
 clear hc1 hc4 hc0 hd18
 go_enter Try.func43, Try.ntmps43
 try simp only [List.append_eq, List.cons_append, List.nil_append]
 go_wp2_with (((with_reducible refine at_box 41 (.tmp 0) ?_); refine wpList_box_own HO.out rfl 41 (.tmp 0) rfl cs rfl ?_; intro WA b1 hO; replace HO := hide hO; clear hO; refine Hid.out ?_))
 refine hide ?_
 go_wp2_with ((with_reducible refine at_alloc 41 ?_); refine wpList_alloc_own HO.out rfl 41 rfl zmsgI zmsgI_info ?_; intro WB bR hO; replace HO := hide hO; clear hO; have k0 := HO.out.k0 HC0.out; have k1 := HO.out.k0 HC1.out; have k4 := HO.out.k0 HC4.out; have kA := HO.out.cells 0 rfl; refine Hid.out ?_)
 refine hide ?_
 go_wp2_with (first
  | ((with_reducible refine at_build 41 ?_); refine wpList_build rfl 41 _ rfl ([(0, .int .i64 8)]) (by first | (simp [Act.eval]; done) | (simp [Act.eval]; rfl)) ([.int .i64 8, zi, zi, zi, zi, zs, zi, zi, zi, zi, zi, zl, zl, zi, zi, zi, zi, zi, zi, zi, zi, zi, zi, zi, zi, zi, zl, zl, zl, zl, zl, zl, zl, zl, zi, zi, zi, zi, zi, zi, zi, zi, zb0, zl, zi, zs, zb0] : List Value).toArray (by kernel_rfl) ?_)
  | ((with_reducible refine at_alloc 41 ?_); refine wpList_alloc_own HO.out rfl 41 rfl zmsgI zmsgI_info ?_; intro WC bx hO; replace HO := hide hO; clear hO)
  | ((with_reducible refine at_store 41 (.tmp 4) ?_); refine wpList_store_own HO.out rfl 41 (.tmp 4) (.tmp 7) rfl 2 _ 0 _ _ ([.int .i64 8, zi, zi, zi, zi, zs, zi, zi, zi, zi, zi, zl, zl, zi, zi, zi, zi, zi, zi, zi, zi, zi, zi, zi, zi, zi, zl, zl, zl, zl, zl, zl, zl, zl, zi, zi, zi, zi, zi, zi, zi, zi, zb0, zl, zi, zs, zb0]) ([.int .i64 8, zi, zi, zi, zi, zs, zi, zi, zi, zi, zi, zl, zl, zi, zi, zi, zi, zi, zi, zi, zi, zi, zi, zi, zi, zi, zl, zl, zl, zl, zl, zl, zl, zl, zi, zi, zi, zi, zi, zi, zi, zi, zb0, zl, zi, zs, zb0]) rfl (.agg ([.int .i64 8, zi, zi, zi, zi, zs, zi, zi, zi, zi, zi, zl, zl, zi, zi, zi, zi, zi, zi, zi, zi, zi, zi, zi, zi, zi, zl, zl, zl, zl, zl, zl, zl, zl, zi, zi, zi, zi, zi, zi, zi, zi, zb0, zl, zi, zs, zb0] : List Value).toArray) rfl rfl (fits_agg _) (by rw [zmsgI_len]; exact Nat.le_refl _) (splice_all (by rw [zmsgI_len]; rfl)) (by kernel_rfl) rfl ?_; intro WD hO; replace HO := hide hO; clear hO; clear k0 k1 k4 kA; have k0 := HO.out.k0 HC0.out; have k1 := HO.out.k0 HC1.out; have k4 := HO.out.k0 HC4.out; have kA := HO.out.cells 0 rfl)
  | fail)
 refine wp_region_held_drew (S := fun W => W.cell? ⟨b1, 1, none⟩ = some (.int .i64 (p.n 1)) ∧ W.cell? ⟨b1, 4, none⟩ = some (.int .i64 (p.n 4)) ∧ (∀ j, W.cell? ⟨b1, j, none⟩ = cs[j]?)) (by kernel_rfl) (⟨k1, k4, kA⟩) (fun hS0 => ?_)
 replace HO := hide HO.out.drew
 refine tk 0 ?_;refine tk 1 ?_;refine tk 2 ?_;refine tk 3 ?_;refine tk 4 ?_
 refine ty 5 (.agg ([.int .i64 (p.n 18), .int .i64 (p.n 19), .int .i64 (p.n 20), .int .i64 (p.n 21), .int .i64 (p.n 22), .int .i64 (p.n 23), .int .i64 (p.n 24), .int .i64 (p.n 25), .slice A26p n26p c26p, .slice A27p n27p c27p, .slice A28p n28p c28p, .slice A29p n29p c29p, .slice A30p n30p c30p, .slice A31p n31p c31p, .slice A32p n32p c32p] : List Value).toArray) rfl (yieldsIf_load rfl 36 (.tmp 117) rfl b1 18 15 41 cs ([.int .i64 (p.n 18), .int .i64 (p.n 19), .int .i64 (p.n 20), .int .i64 (p.n 21), .int .i64 (p.n 22), .int .i64 (p.n 23), .int .i64 (p.n 24), .int .i64 (p.n 25), .slice A26p n26p c26p, .slice A27p n27p c27p, .slice A28p n28p c28p, .slice A29p n29p c29p, .slice A30p n30p c30p, .slice A31p n31p c31p, .slice A32p n32p c32p]) _ (fun w hw => hw.2.2) HD18.out rfl Try.underlying36 rfl size_sta) ?_
 refine tk 6 ?_
 refine tr1 7 fun K hK => ?_
 refine step_store_own HO.out rfl 3 (.tmp 119) (.tmp 114) rfl 2 _ 1 _ _ ([.int .i64 (p.n 1)]) ([.int .i64 8, .int .i64 (p.n 1), zi, zi, zi, zs, zi, zi, zi, zi, zi, zl, zl, zi, zi, zi, zi, zi, zi, zi, zi, zi, zi, zi, zi, zi, zl, zl, zl, zl, zl, zl, zl, zl, zi, zi, zi, zi, zi, zi, zi, zi, zb0, zl, zi, zs, zb0]) rfl (.int .i64 (p.n 1)) rfl rfl (fits_one rfl) (Nat.le_of_ble_eq_true rfl) rfl (by kernel_rfl) rfl ?_
 intro WE hO
 replace HO := hide hO
 clear hO;clear k0 k1 k4 kA;have k0 := HO.out.k0 HC0.out;have k1 := HO.out.k0 HC1.out;have k4 := HO.out.k0 HC4.out;have kA := HO.out.cells 0 rfl
 refine hK.out _ _ (⟨k1, k4, kA⟩) (fun hS7 => ?_)
 clear hK K
 try simp only [Act.put, qa, qb, qc, qd, qe, qf]
 refine tk 8 ?_
 refine tr1 9 fun K hK => ?_
 refine step_store_own HO.out rfl 27 (.tmp 120) (.tmp 116) rfl 2 _ 4 _ _ ([.int .i64 (p.n 4)]) ([.int .i64 8, .int .i64 (p.n 1), zi, zi, .int .i64 (p.n 4), zs, zi, zi, zi, zi, zi, zl, zl, zi, zi, zi, zi, zi, zi, zi, zi, zi, zi, zi, zi, zi, zl, zl, zl, zl, zl, zl, zl, zl, zi, zi, zi, zi, zi, zi, zi, zi, zb0, zl, zi, zs, zb0]) rfl (.int .i64 (p.n 4)) rfl rfl (fits_one rfl) (Nat.le_of_ble_eq_true rfl) rfl (by kernel_rfl) rfl ?_
 intro WE hO
 replace HO := hide hO
 clear hO;clear k0 k1 k4 kA;have k0 := HO.out.k0 HC0.out;have k1 := HO.out.k0 HC1.out;have k4 := HO.out.k0 HC4.out;have kA := HO.out.cells 0 rfl
 refine hK.out _ _ (⟨k1, k4, kA⟩) (fun hS9 => ?_)
 clear hK K
 try simp only [Act.put, qa, qb, qc, qd, qe, qf]
 refine tk 10 ?_
 refine tr1 11 fun K hK => ?_
 refine step_store_own HO.out rfl 36 (.tmp 121) (.tmp 118) rfl 2 _ 18 _ _ ([.int .i64 (p.n 18), .int .i64 (p.n 19), .int .i64 (p.n 20), .int .i64 (p.n 21), .int .i64 (p.n 22), .int .i64 (p.n 23), .int .i64 (p.n 24), .int .i64 (p.n 25), .slice A26p n26p c26p, .slice A27p n27p c27p, .slice A28p n28p c28p, .slice A29p n29p c29p, .slice A30p n30p c30p, .slice A31p n31p c31p, .slice A32p n32p c32p]) ([.int .i64 8, .int .i64 (p.n 1), zi, zi, .int .i64 (p.n 4), zs, zi, zi, zi, zi, zi, zl, zl, zi, zi, zi, zi, zi, .int .i64 (p.n 18), .int .i64 (p.n 19), .int .i64 (p.n 20), .int .i64 (p.n 21), .int .i64 (p.n 22), .int .i64 (p.n 23), .int .i64 (p.n 24), .int .i64 (p.n 25), .slice A26p n26p c26p, .slice A27p n27p c27p, .slice A28p n28p c28p, .slice A29p n29p c29p, .slice A30p n30p c30p, .slice A31p n31p c31p, .slice A32p n32p c32p, zl, zi, zi, zi, zi, zi, zi, zi, zi, zb0, zl, zi, zs, zb0]) rfl ((.agg ([.int .i64 (p.n 18), .int .i64 (p.n 19), .int .i64 (p.n 20), .int .i64 (p.n 21), .int .i64 (p.n 22), .int .i64 (p.n 23), .int .i64 (p.n 24), .int .i64 (p.n 25), .slice A26p n26p c26p, .slice A27p n27p c27p, .slice A28p n28p c28p, .slice A29p n29p c29p, .slice A30p n30p c30p, .slice A31p n31p c31p, .slice A32p n32p c32p] : List Value).toArray)) rfl rfl (fits_agg _) (Nat.le_of_ble_eq_true rfl) rfl size_sta rfl ?_
 intro WE hO
 replace HO := hide hO
 clear hO;clear k0 k1 k4 kA;have k0 := HO.out.k0 HC0.out;have k1 := HO.out.k0 HC1.out;have k4 := HO.out.k0 HC4.out;have kA := HO.out.cells 0 rfl
 refine hK.out _ _ (⟨k1, k4, kA⟩) (fun hS11 => ?_)
 clear hK K
 try simp only [Act.put, qa, qb, qc, qd, qe, qf]
 refine wpAnyH_done (by kernel_rfl) ?_ _
 clear hS0
 go_wp2_with (first
  | ((with_reducible refine at_load 41 (.tmp 4) ?_); refine wpList_load_own HO.out rfl 41 (.tmp 4) rfl 2 _ 0 47 _ _ ([.int .i64 8, .int .i64 (p.n 1), zi, zi, .int .i64 (p.n 4), zs, zi, zi, zi, zi, zi, zl, zl, zi, zi, zi, zi, zi, .int .i64 (p.n 18), .int .i64 (p.n 19), .int .i64 (p.n 20), .int .i64 (p.n 21), .int .i64 (p.n 22), .int .i64 (p.n 23), .int .i64 (p.n 24), .int .i64 (p.n 25), .slice A26p n26p c26p, .slice A27p n27p c27p, .slice A28p n28p c28p, .slice A29p n29p c29p, .slice A30p n30p c30p, .slice A31p n31p c31p, .slice A32p n32p c32p, zl, zi, zi, zi, zi, zi, zi, zi, zi, zb0, zl, zi, zs, zb0]) _ rfl rfl rfl Try.underlying41 rfl (by kernel_rfl) ?_)
  | ((with_reducible refine at_store 41 (.tmp 2) ?_); refine wpList_store_own HO.out rfl 41 (.tmp 2) (.tmp 158) rfl 1 _ 0 _ _ ([.int .i64 8, .int .i64 (p.n 1), zi, zi, .int .i64 (p.n 4), zs, zi, zi, zi, zi, zi, zl, zl, zi, zi, zi, zi, zi, .int .i64 (p.n 18), .int .i64 (p.n 19), .int .i64 (p.n 20), .int .i64 (p.n 21), .int .i64 (p.n 22), .int .i64 (p.n 23), .int .i64 (p.n 24), .int .i64 (p.n 25), .slice A26p n26p c26p, .slice A27p n27p c27p, .slice A28p n28p c28p, .slice A29p n29p c29p, .slice A30p n30p c30p, .slice A31p n31p c31p, .slice A32p n32p c32p, zl, zi, zi, zi, zi, zi, zi, zi, zi, zb0, zl, zi, zs, zb0]) ([.int .i64 8, .int .i64 (p.n 1), zi, zi, .int .i64 (p.n 4), zs, zi, zi, zi, zi, zi, zl, zl, zi, zi, zi, zi, zi, .int .i64 (p.n 18), .int .i64 (p.n 19), .int .i64 (p.n 20), .int .i64 (p.n 21), .int .i64 (p.n 22), .int .i64 (p.n 23), .int .i64 (p.n 24), .int .i64 (p.n 25), .slice A26p n26p c26p, .slice A27p n27p c27p, .slice A28p n28p c28p, .slice A29p n29p c29p, .slice A30p n30p c30p, .slice A31p n31p c31p, .slice A32p n32p c32p, zl, zi, zi, zi, zi, zi, zi, zi, zi, zb0, zl, zi, zs, zb0]) rfl (.agg ([.int .i64 8, .int .i64 (p.n 1), zi, zi, .int .i64 (p.n 4), zs, zi, zi, zi, zi, zi, zl, zl, zi, zi, zi, zi, zi, .int .i64 (p.n 18), .int .i64 (p.n 19), .int .i64 (p.n 20), .int .i64 (p.n 21), .int .i64 (p.n 22), .int .i64 (p.n 23), .int .i64 (p.n 24), .int .i64 (p.n 25), .slice A26p n26p c26p, .slice A27p n27p c27p, .slice A28p n28p c28p, .slice A29p n29p c29p, .slice A30p n30p c30p, .slice A31p n31p c31p, .slice A32p n32p c32p, zl, zi, zi, zi, zi, zi, zi, zi, zi, zb0, zl, zi, zs, zb0] : List Value).toArray) rfl rfl (fits_agg _) (by rw [zmsgI_len]; exact Nat.le_refl _) (splice_all (by rw [zmsgI_len]; rfl)) (by kernel_rfl) rfl ?_; intro WF hO; replace HO := hide hO; clear hO)
  | fail)
 refine bodyPost_ret (results_row_tmp Try.results43 _ _ bR 41 _ (0, 0) _ _ rfl rfl (HO.out.blk 1 rfl) Try.underlying41 rfl (by kernel_rfl)) rfl ?_
 exact ⟨HO.out.below, rfl⟩
set_option maxHeartbeats 8000000 in
theorem used9_c (cs : List Value) (p : PM)  (w : World) (hlen : cs.length = 47) (hc0 : cs[0]? = some (.int .i64 9)) (hc1 : cs[1]? = some (.int .i64 (p.n 1))) (hc2 : cs[2]? = some (.int .i64 (p.n 2))) (hc3 : cs[3]? = some (.int .i64 (p.n 3))) (hc17 : cs[17]? = some (.int .i64 (p.n 17)))  :
 Calls Try.prog 43 #[.agg cs.toArray] w fun e w' => Below w.heap.size w w' ∧ e = .returned (.tuple #[.agg ([.int .i64 9, .int .i64 (p.n 1), .int .i64 (p.n 2), .int .i64 (p.n 3), zi, zs, zi, zi, zi, zi, zi, zl, zl, zi, zi, zi, zi, .int .i64 (p.n 17), zi, zi, zi, zi, zi, zi, zi, zi, zl, zl, zl, zl, zl, zl, zl, zl, zi, zi, zi, zi, zi, zi, zi, zi, zb0, zl, zi, zs, zb0] : List Value).toArray, .bool true]) := by
 have HC1 := hide hc1;have HC2 := hide hc2;have HC3 := hide hc3;have HC17 := hide hc17;have HC0 := hide hc0
 have HO := hide (Own.nil w [] (by simp))
 clear hc1 hc2 hc3 hc17 hc0
 go_enter Try.func43, Try.ntmps43
 try simp only [List.append_eq, List.cons_append, List.nil_append]
 go_wp2_with (((with_reducible refine at_box 41 (.tmp 0) ?_); refine wpList_box_own HO.out rfl 41 (.tmp 0) rfl cs rfl ?_; intro WA b1 hO; replace HO := hide hO; clear hO; refine Hid.out ?_))
 refine hide ?_
 go_wp2_with ((with_reducible refine at_alloc 41 ?_); refine wpList_alloc_own HO.out rfl 41 rfl zmsgI zmsgI_info ?_; intro WB bR hO; replace HO := hide hO; clear hO; have k0 := HO.out.k0 HC0.out; have k1 := HO.out.k0 HC1.out; have k2 := HO.out.k0 HC2.out; have k3 := HO.out.k0 HC3.out; have k17 := HO.out.k0 HC17.out; refine Hid.out ?_)
 refine hide ?_
 go_wp2_with (first
  | ((with_reducible refine at_build 41 ?_); refine wpList_build rfl 41 _ rfl ([(0, .int .i64 9)]) (by first | (simp [Act.eval]; done) | (simp [Act.eval]; rfl)) ([.int .i64 9, zi, zi, zi, zi, zs, zi, zi, zi, zi, zi, zl, zl, zi, zi, zi, zi, zi, zi, zi, zi, zi, zi, zi, zi, zi, zl, zl, zl, zl, zl, zl, zl, zl, zi, zi, zi, zi, zi, zi, zi, zi, zb0, zl, zi, zs, zb0] : List Value).toArray (by kernel_rfl) ?_)
  | ((with_reducible refine at_alloc 41 ?_); refine wpList_alloc_own HO.out rfl 41 rfl zmsgI zmsgI_info ?_; intro WC bx hO; replace HO := hide hO; clear hO)
  | ((with_reducible refine at_store 41 (.tmp 4) ?_); refine wpList_store_own HO.out rfl 41 (.tmp 4) (.tmp 7) rfl 2 _ 0 _ _ ([.int .i64 9, zi, zi, zi, zi, zs, zi, zi, zi, zi, zi, zl, zl, zi, zi, zi, zi, zi, zi, zi, zi, zi, zi, zi, zi, zi, zl, zl, zl, zl, zl, zl, zl, zl, zi, zi, zi, zi, zi, zi, zi, zi, zb0, zl, zi, zs, zb0]) ([.int .i64 9, zi, zi, zi, zi, zs, zi, zi, zi, zi, zi, zl, zl, zi, zi, zi, zi, zi, zi, zi, zi, zi, zi, zi, zi, zi, zl, zl, zl, zl, zl, zl, zl, zl, zi, zi, zi, zi, zi, zi, zi, zi, zb0, zl, zi, zs, zb0]) rfl (.agg ([.int .i64 9, zi, zi, zi, zi, zs, zi, zi, zi, zi, zi, zl, zl, zi, zi, zi, zi, zi, zi, zi, zi, zi, zi, zi, zi, zi, zl, zl, zl, zl, zl, zl, zl, zl, zi, zi, zi, zi, zi, zi, zi, zi, zb0, zl, zi, zs, zb0] : List Value).toArray) rfl rfl (fits_agg _) (by rw [zmsgI_len]; exact Nat.le_refl _) (splice_all (by rw [zmsgI_len]; rfl)) (by kernel_rfl) rfl ?_; intro WD hO; replace HO := hide hO; clear hO; clear k0 k1 k2 k3 k17; have k0 := HO.out.k0 HC0.out; have k1 := HO.out.k0 HC1.out; have k2 := HO.out.k0 HC2.out; have k3 := HO.out.k0 HC3.out; have k17 := HO.out.k0 HC17.out)
  | fail)
 refine wp_region_held_drew (S := fun W => W.cell? ⟨b1, 1, none⟩ = some (.int .i64 (p.n 1)) ∧ W.cell? ⟨b1, 2, none⟩ = some (.int .i64 (p.n 2)) ∧ W.cell? ⟨b1, 3, none⟩ = some (.int .i64 (p.n 3)) ∧ W.cell? ⟨b1, 17, none⟩ = some (.int .i64 (p.n 17))) (by kernel_rfl) (⟨k1, k2, k3, k17⟩) (fun hS0 => ?_)
 replace HO := hide HO.out.drew
 refine tk 0 ?_;refine tk 1 ?_;refine tk 2 ?_;refine tk 3 ?_;refine tk 4 ?_;refine tk 5 ?_;refine tk 6 ?_;refine tk 7 ?_;refine tk 8 ?_
 refine tr1 9 fun K hK => ?_
 refine step_store_own HO.out rfl 3 (.tmp 132) (.tmp 125) rfl 2 _ 1 _ _ ([.int .i64 (p.n 1)]) ([.int .i64 9, .int .i64 (p.n 1), zi, zi, zi, zs, zi, zi, zi, zi, zi, zl, zl, zi, zi, zi, zi, zi, zi, zi, zi, zi, zi, zi, zi, zi, zl, zl, zl, zl, zl, zl, zl, zl, zi, zi, zi, zi, zi, zi, zi, zi, zb0, zl, zi, zs, zb0]) rfl (.int .i64 (p.n 1)) rfl rfl (fits_one rfl) (Nat.le_of_ble_eq_true rfl) rfl (by kernel_rfl) rfl ?_
 intro WE hO
 replace HO := hide hO
 clear hO;clear k0 k1 k2 k3 k17;have k0 := HO.out.k0 HC0.out;have k1 := HO.out.k0 HC1.out;have k2 := HO.out.k0 HC2.out;have k3 := HO.out.k0 HC3.out;have k17 := HO.out.k0 HC17.out
 refine hK.out _ _ (⟨k1, k2, k3, k17⟩) (fun hS9 => ?_)
 clear hK K
 try simp only [Act.put, qa, qb, qc, qd, qe, qf]
 refine tk 10 ?_
 refine tr1 11 fun K hK => ?_
 refine step_store_own HO.out rfl 3 (.tmp 133) (.tmp 127) rfl 2 _ 2 _ _ ([.int .i64 (p.n 2)]) ([.int .i64 9, .int .i64 (p.n 1), .int .i64 (p.n 2), zi, zi, zs, zi, zi, zi, zi, zi, zl, zl, zi, zi, zi, zi, zi, zi, zi, zi, zi, zi, zi, zi, zi, zl, zl, zl, zl, zl, zl, zl, zl, zi, zi, zi, zi, zi, zi, zi, zi, zb0, zl, zi, zs, zb0]) rfl (.int .i64 (p.n 2)) rfl rfl (fits_one rfl) (Nat.le_of_ble_eq_true rfl) rfl (by kernel_rfl) rfl ?_
 intro WE hO
 replace HO := hide hO
 clear hO;clear k0 k1 k2 k3 k17;have k0 := HO.out.k0 HC0.out;have k1 := HO.out.k0 HC1.out;have k2 := HO.out.k0 HC2.out;have k3 := HO.out.k0 HC3.out;have k17 := HO.out.k0 HC17.out
 refine hK.out _ _ (⟨k1, k2, k3, k17⟩) (fun hS11 => ?_)
 clear hK K
 try simp only [Act.put, qa, qb, qc, qd, qe, qf]
 refine tk 12 ?_
 refine tr1 13 fun K hK => ?_
 refine step_store_own HO.out rfl 3 (.tmp 134) (.tmp 129) rfl 2 _ 3 _ _ ([.int .i64 (p.n 3)]) ([.int .i64 9, .int .i64 (p.n 1), .int .i64 (p.n 2), .int .i64 (p.n 3), zi, zs, zi, zi, zi, zi, zi, zl, zl, zi, zi, zi, zi, zi, zi, zi, zi, zi, zi, zi, zi, zi, zl, zl, zl, zl, zl, zl, zl, zl, zi, zi, zi, zi, zi, zi, zi, zi, zb0, zl, zi, zs, zb0]) rfl (.int .i64 (p.n 3)) rfl rfl (fits_one rfl) (Nat.le_of_ble_eq_true rfl) rfl (by kernel_rfl) rfl ?_
 intro WE hO
 replace HO := hide hO
 clear hO;clear k0 k1 k2 k3 k17;have k0 := HO.out.k0 HC0.out;have k1 := HO.out.k0 HC1.out;have k2 := HO.out.k0 HC2.out;have k3 := HO.out.k0 HC3.out;have k17 := HO.out.k0 HC17.out
 refine hK.out _ _ (⟨k1, k2, k3, k17⟩) (fun hS13 => ?_)
 clear hK K
 try simp only [Act.put, qa, qb, qc, qd, qe, qf]
 refine tk 14 ?_
 refine tr1 15 fun K hK => ?_
 refine step_store_own HO.out rfl 2 (.tmp 135) (.tmp 131) rfl 2 _ 17 _ _ ([.int .i64 (p.n 17)]) ([.int .i64 9, .int .i64 (p.n 1), .int .i64 (p.n 2), .int .i64 (p.n 3), zi, zs, zi, zi, zi, zi, zi, zl, zl, zi, zi, zi, zi, .int .i64 (p.n 17), zi, zi, zi, zi, zi, zi, zi, zi, zl, zl, zl, zl, zl, zl, zl, zl, zi, zi, zi, zi, zi, zi, zi, zi, zb0, zl, zi, zs, zb0]) rfl (.int .i64 (p.n 17)) rfl rfl (fits_one rfl) (Nat.le_of_ble_eq_true rfl) rfl (by kernel_rfl) rfl ?_
 intro WE hO
 replace HO := hide hO
 clear hO;clear k0 k1 k2 k3 k17;have k0 := HO.out.k0 HC0.out;have k1 := HO.out.k0 HC1.out;have k2 := HO.out.k0 HC2.out;have k3 := HO.out.k0 HC3.out;have k17 := HO.out.k0 HC17.out
 refine hK.out _ _ (⟨k1, k2, k3, k17⟩) (fun hS15 => ?_)
 clear hK K
 try simp only [Act.put, qa, qb, qc, qd, qe, qf]
 refine wpAnyH_done (by kernel_rfl) ?_ _
 clear hS0
 go_wp2_with (first
  | ((with_reducible refine at_load 41 (.tmp 4) ?_); refine wpList_load_own HO.out rfl 41 (.tmp 4) rfl 2 _ 0 47 _ _ ([.int .i64 9, .int .i64 (p.n 1), .int .i64 (p.n 2), .int .i64 (p.n 3), zi, zs, zi, zi, zi, zi, zi, zl, zl, zi, zi, zi, zi, .int .i64 (p.n 17), zi, zi, zi, zi, zi, zi, zi, zi, zl, zl, zl, zl, zl, zl, zl, zl, zi, zi, zi, zi, zi, zi, zi, zi, zb0, zl, zi, zs, zb0]) _ rfl rfl rfl Try.underlying41 rfl (by kernel_rfl) ?_)
  | ((with_reducible refine at_store 41 (.tmp 2) ?_); refine wpList_store_own HO.out rfl 41 (.tmp 2) (.tmp 158) rfl 1 _ 0 _ _ ([.int .i64 9, .int .i64 (p.n 1), .int .i64 (p.n 2), .int .i64 (p.n 3), zi, zs, zi, zi, zi, zi, zi, zl, zl, zi, zi, zi, zi, .int .i64 (p.n 17), zi, zi, zi, zi, zi, zi, zi, zi, zl, zl, zl, zl, zl, zl, zl, zl, zi, zi, zi, zi, zi, zi, zi, zi, zb0, zl, zi, zs, zb0]) ([.int .i64 9, .int .i64 (p.n 1), .int .i64 (p.n 2), .int .i64 (p.n 3), zi, zs, zi, zi, zi, zi, zi, zl, zl, zi, zi, zi, zi, .int .i64 (p.n 17), zi, zi, zi, zi, zi, zi, zi, zi, zl, zl, zl, zl, zl, zl, zl, zl, zi, zi, zi, zi, zi, zi, zi, zi, zb0, zl, zi, zs, zb0]) rfl (.agg ([.int .i64 9, .int .i64 (p.n 1), .int .i64 (p.n 2), .int .i64 (p.n 3), zi, zs, zi, zi, zi, zi, zi, zl, zl, zi, zi, zi, zi, .int .i64 (p.n 17), zi, zi, zi, zi, zi, zi, zi, zi, zl, zl, zl, zl, zl, zl, zl, zl, zi, zi, zi, zi, zi, zi, zi, zi, zb0, zl, zi, zs, zb0] : List Value).toArray) rfl rfl (fits_agg _) (by rw [zmsgI_len]; exact Nat.le_refl _) (splice_all (by rw [zmsgI_len]; rfl)) (by kernel_rfl) rfl ?_; intro WF hO; replace HO := hide hO; clear hO)
  | fail)
 refine bodyPost_ret (results_row_tmp Try.results43 _ _ bR 41 _ (0, 0) _ _ rfl rfl (HO.out.blk 1 rfl) Try.underlying41 rfl (by kernel_rfl)) rfl ?_
 exact ⟨HO.out.below, rfl⟩
set_option maxHeartbeats 8000000 in
theorem used10_c (cs : List Value) (p : PM)  (w : World) (hlen : cs.length = 47) (hc0 : cs[0]? = some (.int .i64 10)) (hc1 : cs[1]? = some (.int .i64 (p.n 1))) (hc2 : cs[2]? = some (.int .i64 (p.n 2))) (hc3 : cs[3]? = some (.int .i64 (p.n 3))) (hc4 : cs[4]? = some (.int .i64 (p.n 4))) (hc17 : cs[17]? = some (.int .i64 (p.n 17)))  :
 Calls Try.prog 43 #[.agg cs.toArray] w fun e w' => Below w.heap.size w w' ∧ e = .returned (.tuple #[.agg ([.int .i64 10, .int .i64 (p.n 1), .int .i64 (p.n 2), .int .i64 (p.n 3), .int .i64 (p.n 4), zs, zi, zi, zi, zi, zi, zl, zl, zi, zi, zi, zi, .int .i64 (p.n 17), zi, zi, zi, zi, zi, zi, zi, zi, zl, zl, zl, zl, zl, zl, zl, zl, zi, zi, zi, zi, zi, zi, zi, zi, zb0, zl, zi, zs, zb0] : List Value).toArray, .bool true]) := by
 have HC1 := hide hc1;have HC2 := hide hc2;have HC3 := hide hc3;have HC4 := hide hc4;have HC17 := hide hc17;have HC0 := hide hc0
 have HO := hide (Own.nil w [] (by simp))
 clear hc1 hc2 hc3 hc4 hc17 hc0
 go_enter Try.func43, Try.ntmps43
 try simp only [List.append_eq, List.cons_append, List.nil_append]
 go_wp2_with (((with_reducible refine at_box 41 (.tmp 0) ?_); refine wpList_box_own HO.out rfl 41 (.tmp 0) rfl cs rfl ?_; intro WA b1 hO; replace HO := hide hO; clear hO; refine Hid.out ?_))
 refine hide ?_
 go_wp2_with ((with_reducible refine at_alloc 41 ?_); refine wpList_alloc_own HO.out rfl 41 rfl zmsgI zmsgI_info ?_; intro WB bR hO; replace HO := hide hO; clear hO; have k0 := HO.out.k0 HC0.out; have k1 := HO.out.k0 HC1.out; have k2 := HO.out.k0 HC2.out; have k3 := HO.out.k0 HC3.out; have k4 := HO.out.k0 HC4.out; have k17 := HO.out.k0 HC17.out; refine Hid.out ?_)
 refine hide ?_
 go_wp2_with (first
  | ((with_reducible refine at_build 41 ?_); refine wpList_build rfl 41 _ rfl ([(0, .int .i64 10)]) (by first | (simp [Act.eval]; done) | (simp [Act.eval]; rfl)) ([.int .i64 10, zi, zi, zi, zi, zs, zi, zi, zi, zi, zi, zl, zl, zi, zi, zi, zi, zi, zi, zi, zi, zi, zi, zi, zi, zi, zl, zl, zl, zl, zl, zl, zl, zl, zi, zi, zi, zi, zi, zi, zi, zi, zb0, zl, zi, zs, zb0] : List Value).toArray (by kernel_rfl) ?_)
  | ((with_reducible refine at_alloc 41 ?_); refine wpList_alloc_own HO.out rfl 41 rfl zmsgI zmsgI_info ?_; intro WC bx hO; replace HO := hide hO; clear hO)
  | ((with_reducible refine at_store 41 (.tmp 4) ?_); refine wpList_store_own HO.out rfl 41 (.tmp 4) (.tmp 7) rfl 2 _ 0 _ _ ([.int .i64 10, zi, zi, zi, zi, zs, zi, zi, zi, zi, zi, zl, zl, zi, zi, zi, zi, zi, zi, zi, zi, zi, zi, zi, zi, zi, zl, zl, zl, zl, zl, zl, zl, zl, zi, zi, zi, zi, zi, zi, zi, zi, zb0, zl, zi, zs, zb0]) ([.int .i64 10, zi, zi, zi, zi, zs, zi, zi, zi, zi, zi, zl, zl, zi, zi, zi, zi, zi, zi, zi, zi, zi, zi, zi, zi, zi, zl, zl, zl, zl, zl, zl, zl, zl, zi, zi, zi, zi, zi, zi, zi, zi, zb0, zl, zi, zs, zb0]) rfl (.agg ([.int .i64 10, zi, zi, zi, zi, zs, zi, zi, zi, zi, zi, zl, zl, zi, zi, zi, zi, zi, zi, zi, zi, zi, zi, zi, zi, zi, zl, zl, zl, zl, zl, zl, zl, zl, zi, zi, zi, zi, zi, zi, zi, zi, zb0, zl, zi, zs, zb0] : List Value).toArray) rfl rfl (fits_agg _) (by rw [zmsgI_len]; exact Nat.le_refl _) (splice_all (by rw [zmsgI_len]; rfl)) (by kernel_rfl) rfl ?_; intro WD hO; replace HO := hide hO; clear hO; clear k0 k1 k2 k3 k4 k17; have k0 := HO.out.k0 HC0.out; have k1 := HO.out.k0 HC1.out; have k2 := HO.out.k0 HC2.out; have k3 := HO.out.k0 HC3.out; have k4 := HO.out.k0 HC4.out; have k17 := HO.out.k0 HC17.out)
  | fail)
 refine wp_region_held_drew (S := fun W => W.cell? ⟨b1, 1, none⟩ = some (.int .i64 (p.n 1)) ∧ W.cell? ⟨b1, 2, none⟩ = some (.int .i64 (p.n 2)) ∧ W.cell? ⟨b1, 3, none⟩ = some (.int .i64 (p.n 3)) ∧ W.cell? ⟨b1, 4, none⟩ = some (.int .i64 (p.n 4)) ∧ W.cell? ⟨b1, 17, none⟩ = some (.int .i64 (p.n 17))) (by kernel_rfl) (⟨k1, k2, k3, k4, k17⟩) (fun hS0 => ?_)
 replace HO := hide HO.out.drew
 refine tk 0 ?_;refine tk 1 ?_;refine tk 2 ?_;refine tk 3 ?_;refine tk 4 ?_;refine tk 5 ?_;refine tk 6 ?_;refine tk 7 ?_;refine tk 8 ?_;refine tk 9 ?_;refine tk 10 ?_
 refine tr1 11 fun K hK => ?_
 refine step_store_own HO.out rfl 3 (.tmp 148) (.tmp 139) rfl 2 _ 1 _ _ ([.int .i64 (p.n 1)]) ([.int .i64 10, .int .i64 (p.n 1), zi, zi, zi, zs, zi, zi, zi, zi, zi, zl, zl, zi, zi, zi, zi, zi, zi, zi, zi, zi, zi, zi, zi, zi, zl, zl, zl, zl, zl, zl, zl, zl, zi, zi, zi, zi, zi, zi, zi, zi, zb0, zl, zi, zs, zb0]) rfl (.int .i64 (p.n 1)) rfl rfl (fits_one rfl) (Nat.le_of_ble_eq_true rfl) rfl (by kernel_rfl) rfl ?_
 intro WE hO
 replace HO := hide hO
 clear hO;clear k0 k1 k2 k3 k4 k17;have k0 := HO.out.k0 HC0.out;have k1 := HO.out.k0 HC1.out;have k2 := HO.out.k0 HC2.out;have k3 := HO.out.k0 HC3.out;have k4 := HO.out.k0 HC4.out;have k17 := HO.out.k0 HC17.out
 refine hK.out _ _ (⟨k1, k2, k3, k4, k17⟩) (fun hS11 => ?_)
 clear hK K
 try simp only [Act.put, qa, qb, qc, qd, qe, qf]
 refine tk 12 ?_
 refine tr1 13 fun K hK => ?_
 refine step_store_own HO.out rfl 3 (.tmp 149) (.tmp 141) rfl 2 _ 2 _ _ ([.int .i64 (p.n 2)]) ([.int .i64 10, .int .i64 (p.n 1), .int .i64 (p.n 2), zi, zi, zs, zi, zi, zi, zi, zi, zl, zl, zi, zi, zi, zi, zi, zi, zi, zi, zi, zi, zi, zi, zi, zl, zl, zl, zl, zl, zl, zl, zl, zi, zi, zi, zi, zi, zi, zi, zi, zb0, zl, zi, zs, zb0]) rfl (.int .i64 (p.n 2)) rfl rfl (fits_one rfl) (Nat.le_of_ble_eq_true rfl) rfl (by kernel_rfl) rfl ?_
 intro WE hO
 replace HO := hide hO
 clear hO;clear k0 k1 k2 k3 k4 k17;have k0 := HO.out.k0 HC0.out;have k1 := HO.out.k0 HC1.out;have k2 := HO.out.k0 HC2.out;have k3 := HO.out.k0 HC3.out;have k4 := HO.out.k0 HC4.out;have k17 := HO.out.k0 HC17.out
 refine hK.out _ _ (⟨k1, k2, k3, k4, k17⟩) (fun hS13 => ?_)
 clear hK K
 try simp only [Act.put, qa, qb, qc, qd, qe, qf]
 refine tk 14 ?_
 refine tr1 15 fun K hK => ?_
 refine step_store_own HO.out rfl 3 (.tmp 150) (.tmp 143) rfl 2 _ 3 _ _ ([.int .i64 (p.n 3)]) ([.int .i64 10, .int .i64 (p.n 1), .int .i64 (p.n 2), .int .i64 (p.n 3), zi, zs, zi, zi, zi, zi, zi, zl, zl, zi, zi, zi, zi, zi, zi, zi, zi, zi, zi, zi, zi, zi, zl, zl, zl, zl, zl, zl, zl, zl, zi, zi, zi, zi, zi, zi, zi, zi, zb0, zl, zi, zs, zb0]) rfl (.int .i64 (p.n 3)) rfl rfl (fits_one rfl) (Nat.le_of_ble_eq_true rfl) rfl (by kernel_rfl) rfl ?_
 intro WE hO
 replace HO := hide hO
 clear hO;clear k0 k1 k2 k3 k4 k17;have k0 := HO.out.k0 HC0.out;have k1 := HO.out.k0 HC1.out;have k2 := HO.out.k0 HC2.out;have k3 := HO.out.k0 HC3.out;have k4 := HO.out.k0 HC4.out;have k17 := HO.out.k0 HC17.out
 refine hK.out _ _ (⟨k1, k2, k3, k4, k17⟩) (fun hS15 => ?_)
 clear hK K
 try simp only [Act.put, qa, qb, qc, qd, qe, qf]
 refine tk 16 ?_
 refine tr1 17 fun K hK => ?_
 refine step_store_own HO.out rfl 27 (.tmp 151) (.tmp 145) rfl 2 _ 4 _ _ ([.int .i64 (p.n 4)]) ([.int .i64 10, .int .i64 (p.n 1), .int .i64 (p.n 2), .int .i64 (p.n 3), .int .i64 (p.n 4), zs, zi, zi, zi, zi, zi, zl, zl, zi, zi, zi, zi, zi, zi, zi, zi, zi, zi, zi, zi, zi, zl, zl, zl, zl, zl, zl, zl, zl, zi, zi, zi, zi, zi, zi, zi, zi, zb0, zl, zi, zs, zb0]) rfl (.int .i64 (p.n 4)) rfl rfl (fits_one rfl) (Nat.le_of_ble_eq_true rfl) rfl (by kernel_rfl) rfl ?_
 intro WE hO
 replace HO := hide hO
 clear hO;clear k0 k1 k2 k3 k4 k17;have k0 := HO.out.k0 HC0.out;have k1 := HO.out.k0 HC1.out;have k2 := HO.out.k0 HC2.out;have k3 := HO.out.k0 HC3.out;have k4 := HO.out.k0 HC4.out;have k17 := HO.out.k0 HC17.out
 refine hK.out _ _ (⟨k1, k2, k3, k4, k17⟩) (fun hS17 => ?_)
 clear hK K
 try simp only [Act.put, qa, qb, qc, qd, qe, qf]
 refine tk 18 ?_
 refine tr1 19 fun K hK => ?_
 refine step_store_own HO.out rfl 2 (.tmp 152) (.tmp 147) rfl 2 _ 17 _ _ ([.int .i64 (p.n 17)]) ([.int .i64 10, .int .i64 (p.n 1), .int .i64 (p.n 2), .int .i64 (p.n 3), .int .i64 (p.n 4), zs, zi, zi, zi, zi, zi, zl, zl, zi, zi, zi, zi, .int .i64 (p.n 17), zi, zi, zi, zi, zi, zi, zi, zi, zl, zl, zl, zl, zl, zl, zl, zl, zi, zi, zi, zi, zi, zi, zi, zi, zb0, zl, zi, zs, zb0]) rfl (.int .i64 (p.n 17)) rfl rfl (fits_one rfl) (Nat.le_of_ble_eq_true rfl) rfl (by kernel_rfl) rfl ?_
 intro WE hO
 replace HO := hide hO
 clear hO;clear k0 k1 k2 k3 k4 k17;have k0 := HO.out.k0 HC0.out;have k1 := HO.out.k0 HC1.out;have k2 := HO.out.k0 HC2.out;have k3 := HO.out.k0 HC3.out;have k4 := HO.out.k0 HC4.out;have k17 := HO.out.k0 HC17.out
 refine hK.out _ _ (⟨k1, k2, k3, k4, k17⟩) (fun hS19 => ?_)
 clear hK K
 try simp only [Act.put, qa, qb, qc, qd, qe, qf]
 refine wpAnyH_done (by kernel_rfl) ?_ _
 clear hS0
 go_wp2_with (first
  | ((with_reducible refine at_load 41 (.tmp 4) ?_); refine wpList_load_own HO.out rfl 41 (.tmp 4) rfl 2 _ 0 47 _ _ ([.int .i64 10, .int .i64 (p.n 1), .int .i64 (p.n 2), .int .i64 (p.n 3), .int .i64 (p.n 4), zs, zi, zi, zi, zi, zi, zl, zl, zi, zi, zi, zi, .int .i64 (p.n 17), zi, zi, zi, zi, zi, zi, zi, zi, zl, zl, zl, zl, zl, zl, zl, zl, zi, zi, zi, zi, zi, zi, zi, zi, zb0, zl, zi, zs, zb0]) _ rfl rfl rfl Try.underlying41 rfl (by kernel_rfl) ?_)
  | ((with_reducible refine at_store 41 (.tmp 2) ?_); refine wpList_store_own HO.out rfl 41 (.tmp 2) (.tmp 158) rfl 1 _ 0 _ _ ([.int .i64 10, .int .i64 (p.n 1), .int .i64 (p.n 2), .int .i64 (p.n 3), .int .i64 (p.n 4), zs, zi, zi, zi, zi, zi, zl, zl, zi, zi, zi, zi, .int .i64 (p.n 17), zi, zi, zi, zi, zi, zi, zi, zi, zl, zl, zl, zl, zl, zl, zl, zl, zi, zi, zi, zi, zi, zi, zi, zi, zb0, zl, zi, zs, zb0]) ([.int .i64 10, .int .i64 (p.n 1), .int .i64 (p.n 2), .int .i64 (p.n 3), .int .i64 (p.n 4), zs, zi, zi, zi, zi, zi, zl, zl, zi, zi, zi, zi, .int .i64 (p.n 17), zi, zi, zi, zi, zi, zi, zi, zi, zl, zl, zl, zl, zl, zl, zl, zl, zi, zi, zi, zi, zi, zi, zi, zi, zb0, zl, zi, zs, zb0]) rfl (.agg ([.int .i64 10, .int .i64 (p.n 1), .int .i64 (p.n 2), .int .i64 (p.n 3), .int .i64 (p.n 4), zs, zi, zi, zi, zi, zi, zl, zl, zi, zi, zi, zi, .int .i64 (p.n 17), zi, zi, zi, zi, zi, zi, zi, zi, zl, zl, zl, zl, zl, zl, zl, zl, zi, zi, zi, zi, zi, zi, zi, zi, zb0, zl, zi, zs, zb0] : List Value).toArray) rfl rfl (fits_agg _) (by rw [zmsgI_len]; exact Nat.le_refl _) (splice_all (by rw [zmsgI_len]; rfl)) (by kernel_rfl) rfl ?_; intro WF hO; replace HO := hide hO; clear hO)
  | fail)
 refine bodyPost_ret (results_row_tmp Try.results43 _ _ bR 41 _ (0, 0) _ _ rfl rfl (HO.out.blk 1 rfl) Try.underlying41 rfl (by kernel_rfl)) rfl ?_
 exact ⟨HO.out.below, rfl⟩
set_option maxHeartbeats 8000000 in
theorem used11_c (cs : List Value) (p : PM) {A33p : Option Addr} {n33p c33p : Nat} (w : World) (hlen : cs.length = 47) (hc0 : cs[0]? = some (.int .i64 11)) (hc33 : cs[33]? = some (.slice A33p n33p c33p))  :
 Calls Try.prog 43 #[.agg cs.toArray] w fun e w' => Below w.heap.size w w' ∧ e = .returned (.tuple #[.agg ([.int .i64 11, zi, zi, zi, zi, zs, zi, zi, zi, zi, zi, zl, zl, zi, zi, zi, zi, zi, zi, zi, zi, zi, zi, zi, zi, zi, zl, zl, zl, zl, zl, zl, zl, .slice A33p n33p c33p, zi, zi, zi, zi, zi, zi, zi, zi, zb0, zl, zi, zs, zb0] : List Value).toArray, .bool true]) := by
 have HC33 := hide hc33;have HC0 := hide hc0
 have HO := hide (Own.nil w [] (by simp))
 clear hc33 hc0
 go_enter Try.func43, Try.ntmps43
 try simp only [List.append_eq, List.cons_append, List.nil_append]
 go_wp2_with (((with_reducible refine at_box 41 (.tmp 0) ?_); refine wpList_box_own HO.out rfl 41 (.tmp 0) rfl cs rfl ?_; intro WA b1 hO; replace HO := hide hO; clear hO; refine Hid.out ?_))
 refine hide ?_
 go_wp2_with ((with_reducible refine at_alloc 41 ?_); refine wpList_alloc_own HO.out rfl 41 rfl zmsgI zmsgI_info ?_; intro WB bR hO; replace HO := hide hO; clear hO; have k0 := HO.out.k0 HC0.out; have k33 := HO.out.k0 HC33.out; refine Hid.out ?_)
 refine hide ?_
 go_wp2_with (first
  | ((with_reducible refine at_build 41 ?_); refine wpList_build rfl 41 _ rfl ([(0, .int .i64 11)]) (by first | (simp [Act.eval]; done) | (simp [Act.eval]; rfl)) ([.int .i64 11, zi, zi, zi, zi, zs, zi, zi, zi, zi, zi, zl, zl, zi, zi, zi, zi, zi, zi, zi, zi, zi, zi, zi, zi, zi, zl, zl, zl, zl, zl, zl, zl, zl, zi, zi, zi, zi, zi, zi, zi, zi, zb0, zl, zi, zs, zb0] : List Value).toArray (by kernel_rfl) ?_)
  | ((with_reducible refine at_alloc 41 ?_); refine wpList_alloc_own HO.out rfl 41 rfl zmsgI zmsgI_info ?_; intro WC bx hO; replace HO := hide hO; clear hO)
  | ((with_reducible refine at_store 41 (.tmp 4) ?_); refine wpList_store_own HO.out rfl 41 (.tmp 4) (.tmp 7) rfl 2 _ 0 _ _ ([.int .i64 11, zi, zi, zi, zi, zs, zi, zi, zi, zi, zi, zl, zl, zi, zi, zi, zi, zi, zi, zi, zi, zi, zi, zi, zi, zi, zl, zl, zl, zl, zl, zl, zl, zl, zi, zi, zi, zi, zi, zi, zi, zi, zb0, zl, zi, zs, zb0]) ([.int .i64 11, zi, zi, zi, zi, zs, zi, zi, zi, zi, zi, zl, zl, zi, zi, zi, zi, zi, zi, zi, zi, zi, zi, zi, zi, zi, zl, zl, zl, zl, zl, zl, zl, zl, zi, zi, zi, zi, zi, zi, zi, zi, zb0, zl, zi, zs, zb0]) rfl (.agg ([.int .i64 11, zi, zi, zi, zi, zs, zi, zi, zi, zi, zi, zl, zl, zi, zi, zi, zi, zi, zi, zi, zi, zi, zi, zi, zi, zi, zl, zl, zl, zl, zl, zl, zl, zl, zi, zi, zi, zi, zi, zi, zi, zi, zb0, zl, zi, zs, zb0] : List Value).toArray) rfl rfl (fits_agg _) (by rw [zmsgI_len]; exact Nat.le_refl _) (splice_all (by rw [zmsgI_len]; rfl)) (by kernel_rfl) rfl ?_; intro WD hO; replace HO := hide hO; clear hO; clear k0 k33; have k0 := HO.out.k0 HC0.out; have k33 := HO.out.k0 HC33.out)
  | ((with_reducible refine at_store 28 (.tmp 157) ?_); refine wpList_store_own HO.out rfl 28 (.tmp 157) (.tmp 156) rfl 2 _ 33 _ _ ([.slice A33p n33p c33p]) ([.int .i64 11, zi, zi, zi, zi, zs, zi, zi, zi, zi, zi, zl, zl, zi, zi, zi, zi, zi, zi, zi, zi, zi, zi, zi, zi, zi, zl, zl, zl, zl, zl, zl, zl, .slice A33p n33p c33p, zi, zi, zi, zi, zi, zi, zi, zi, zb0, zl, zi, zs, zb0]) rfl (.slice A33p n33p c33p) rfl rfl (fits_one rfl) (Nat.le_of_ble_eq_true rfl) rfl (by kernel_rfl) rfl ?_; intro WE hO; replace HO := hide hO; clear hO)
  | ((with_reducible refine at_load 41 (.tmp 4) ?_); refine wpList_load_own HO.out rfl 41 (.tmp 4) rfl 2 _ 0 47 _ _ ([.int .i64 11, zi, zi, zi, zi, zs, zi, zi, zi, zi, zi, zl, zl, zi, zi, zi, zi, zi, zi, zi, zi, zi, zi, zi, zi, zi, zl, zl, zl, zl, zl, zl, zl, .slice A33p n33p c33p, zi, zi, zi, zi, zi, zi, zi, zi, zb0, zl, zi, zs, zb0]) _ rfl rfl rfl Try.underlying41 rfl (by kernel_rfl) ?_)
  | ((with_reducible refine at_store 41 (.tmp 2) ?_); refine wpList_store_own HO.out rfl 41 (.tmp 2) (.tmp 158) rfl 1 _ 0 _ _ ([.int .i64 11, zi, zi, zi, zi, zs, zi, zi, zi, zi, zi, zl, zl, zi, zi, zi, zi, zi, zi, zi, zi, zi, zi, zi, zi, zi, zl, zl, zl, zl, zl, zl, zl, .slice A33p n33p c33p, zi, zi, zi, zi, zi, zi, zi, zi, zb0, zl, zi, zs, zb0]) ([.int .i64 11, zi, zi, zi, zi, zs, zi, zi, zi, zi, zi, zl, zl, zi, zi, zi, zi, zi, zi, zi, zi, zi, zi, zi, zi, zi, zl, zl, zl, zl, zl, zl, zl, .slice A33p n33p c33p, zi, zi, zi, zi, zi, zi, zi, zi, zb0, zl, zi, zs, zb0]) rfl (.agg ([.int .i64 11, zi, zi, zi, zi, zs, zi, zi, zi, zi, zi, zl, zl, zi, zi, zi, zi, zi, zi, zi, zi, zi, zi, zi, zi, zi, zl, zl, zl, zl, zl, zl, zl, .slice A33p n33p c33p, zi, zi, zi, zi, zi, zi, zi, zi, zb0, zl, zi, zs, zb0] : List Value).toArray) rfl rfl (fits_agg _) (by rw [zmsgI_len]; exact Nat.le_refl _) (splice_all (by rw [zmsgI_len]; rfl)) (by kernel_rfl) rfl ?_; intro WF hO; replace HO := hide hO; clear hO)
  | fail)
 refine bodyPost_ret (results_row_tmp Try.results43 _ _ bR 41 _ (0, 0) _ _ rfl rfl (HO.out.blk 1 rfl) Try.underlying41 rfl (by kernel_rfl)) rfl ?_
 exact ⟨HO.out.below, rfl⟩
set_option maxHeartbeats 8000000 in
theorem usedBad_c (cs : List Value) (kd : Int) (w : World) (hlen : cs.length = 47) (hc0 : cs[0]? = some (.int .i64 kd)) (hk : kd < 0 ∨ 11 < kd) :
 Calls Try.prog 43 #[.agg cs.toArray] w fun e w' => Below w.heap.size w w' ∧ e = .returned (.tuple #[.agg ([.int .i64 kd, zi, zi, zi, zi, zs, zi, zi, zi, zi, zi, zl, zl, zi, zi, zi, zi, zi, zi, zi, zi, zi, zi, zi, zi, zi, zl, zl, zl, zl, zl, zl, zl, zl, zi, zi, zi, zi, zi, zi, zi, zi, zb0, zl, zi, zs, zb0] : List Value).toArray, .bool false]) := by
 have hq0 : (kd == 0) = false := by rw [beq_eq_false_iff_ne]; omega
 have hq1 : (kd == 1) = false := by rw [beq_eq_false_iff_ne]; omega
 have hq2 : (kd == 2) = false := by rw [beq_eq_false_iff_ne]; omega
 have hq3 : (kd == 3) = false := by rw [beq_eq_false_iff_ne]; omega
 have hq4 : (kd == 4) = false := by rw [beq_eq_false_iff_ne]; omega
 have hq5 : (kd == 5) = false := by rw [beq_eq_false_iff_ne]; omega
 have hq6 : (kd == 6) = false := by rw [beq_eq_false_iff_ne]; omega
 have hq7 : (kd == 7) = false := by rw [beq_eq_false_iff_ne]; omega
 have hq8 : (kd == 8) = false := by rw [beq_eq_false_iff_ne]; omega
 have hq9 : (kd == 9) = false := by rw [beq_eq_false_iff_ne]; omega
 have hq10 : (kd == 10) = false := by rw [beq_eq_false_iff_ne]; omega
 have hq11 : (kd == 11) = false := by rw [beq_eq_false_iff_ne]; omega
 have HC0 := hide hc0
 have HO := hide (Own.nil w [] (by simp))
 clear hc0 hk
 go_enter Try.func43, Try.ntmps43
 try simp only [List.append_eq, List.cons_append, List.nil_append]
 go_wp2_with ((with_reducible refine at_box 41 (.tmp 0) ?_); refine wpList_box_own HO.out rfl 41 (.tmp 0) rfl cs rfl ?_; intro WA b1 hO; replace HO := hide hO; clear hO; refine Hid.out ?_)
 refine hide ?_
 go_wp2_with ((with_reducible refine at_alloc 41 ?_); refine wpList_alloc_own HO.out rfl 41 rfl zmsgI zmsgI_info ?_; intro WB bR hO; replace HO := hide hO; clear hO; have k0 := HO.out.k0 HC0.out; refine Hid.out ?_)
 refine hide ?_
 go_wp2_with (first
  | ((with_reducible refine at_build 41 ?_); refine wpList_build rfl 41 _ rfl ([(0, .int .i64 kd)]) (by first | (simp [Act.eval]; done) | (simp [Act.eval]; rfl)) ([.int .i64 kd, zi, zi, zi, zi, zs, zi, zi, zi, zi, zi, zl, zl, zi, zi, zi, zi, zi, zi, zi, zi, zi, zi, zi, zi, zi, zl, zl, zl, zl, zl, zl, zl, zl, zi, zi, zi, zi, zi, zi, zi, zi, zb0, zl, zi, zs, zb0] : List Value).toArray (by kernel_rfl) ?_)
  | ((with_reducible refine at_alloc 41 ?_); refine wpList_alloc_own HO.out rfl 41 rfl zmsgI zmsgI_info ?_; intro WC bx hO; replace HO := hide hO; clear hO)
  | ((with_reducible refine at_store 41 (.tmp 4) ?_); refine wpList_store_own HO.out rfl 41 (.tmp 4) (.tmp 7) rfl 2 _ 0 _ _ ([.int .i64 kd, zi, zi, zi, zi, zs, zi, zi, zi, zi, zi, zl, zl, zi, zi, zi, zi, zi, zi, zi, zi, zi, zi, zi, zi, zi, zl, zl, zl, zl, zl, zl, zl, zl, zi, zi, zi, zi, zi, zi, zi, zi, zb0, zl, zi, zs, zb0]) ([.int .i64 kd, zi, zi, zi, zi, zs, zi, zi, zi, zi, zi, zl, zl, zi, zi, zi, zi, zi, zi, zi, zi, zi, zi, zi, zi, zi, zl, zl, zl, zl, zl, zl, zl, zl, zi, zi, zi, zi, zi, zi, zi, zi, zb0, zl, zi, zs, zb0]) rfl (.agg ([.int .i64 kd, zi, zi, zi, zi, zs, zi, zi, zi, zi, zi, zl, zl, zi, zi, zi, zi, zi, zi, zi, zi, zi, zi, zi, zi, zi, zl, zl, zl, zl, zl, zl, zl, zl, zi, zi, zi, zi, zi, zi, zi, zi, zb0, zl, zi, zs, zb0] : List Value).toArray) rfl rfl (fits_agg _) (by rw [zmsgI_len]; exact Nat.le_refl _) (splice_all (by rw [zmsgI_len]; rfl)) (by kernel_rfl) rfl ?_; intro WD hO; replace HO := hide hO; clear hO; clear k0; have k0 := HO.out.k0 HC0.out)
  | ((with_reducible refine at_load 41 (.tmp 4) ?_); refine wpList_load_own HO.out rfl 41 (.tmp 4) rfl 2 _ 0 47 _ _ ([.int .i64 kd, zi, zi, zi, zi, zs, zi, zi, zi, zi, zi, zl, zl, zi, zi, zi, zi, zi, zi, zi, zi, zi, zi, zi, zi, zi, zl, zl, zl, zl, zl, zl, zl, zl, zi, zi, zi, zi, zi, zi, zi, zi, zb0, zl, zi, zs, zb0]) _ rfl rfl rfl Try.underlying41 rfl (by kernel_rfl) ?_)
  | ((with_reducible refine at_store 41 (.tmp 2) ?_); refine wpList_store_own HO.out rfl 41 (.tmp 2) (.tmp 10) rfl 1 _ 0 _ _ ([.int .i64 kd, zi, zi, zi, zi, zs, zi, zi, zi, zi, zi, zl, zl, zi, zi, zi, zi, zi, zi, zi, zi, zi, zi, zi, zi, zi, zl, zl, zl, zl, zl, zl, zl, zl, zi, zi, zi, zi, zi, zi, zi, zi, zb0, zl, zi, zs, zb0]) ([.int .i64 kd, zi, zi, zi, zi, zs, zi, zi, zi, zi, zi, zl, zl, zi, zi, zi, zi, zi, zi, zi, zi, zi, zi, zi, zi, zi, zl, zl, zl, zl, zl, zl, zl, zl, zi, zi, zi, zi, zi, zi, zi, zi, zb0, zl, zi, zs, zb0]) rfl (.agg ([.int .i64 kd, zi, zi, zi, zi, zs, zi, zi, zi, zi, zi, zl, zl, zi, zi, zi, zi, zi, zi, zi, zi, zi, zi, zi, zi, zi, zl, zl, zl, zl, zl, zl, zl, zl, zi, zi, zi, zi, zi, zi, zi, zi, zb0, zl, zi, zs, zb0] : List Value).toArray) rfl rfl (fits_agg _) (by rw [zmsgI_len]; exact Nat.le_refl _) (splice_all (by rw [zmsgI_len]; rfl)) (by kernel_rfl) rfl ?_; intro WF hO; replace HO := hide hO; clear hO)
  | fail)
 refine bodyPost_ret (results_row_tmp Try.results43 _ _ bR 41 _ (0, 0) _ _ rfl rfl (HO.out.blk 1 rfl) Try.underlying41 rfl (by kernel_rfl)) rfl ?_
 exact ⟨HO.out.below, rfl⟩
end Go.Proofs.Ytpbgelhjbfckcaa
