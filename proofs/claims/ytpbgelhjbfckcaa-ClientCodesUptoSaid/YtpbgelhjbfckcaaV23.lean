/- The reference's used. -/
import Derived.Test.YtpbgelhjbfckcaaV22
namespace Go.Proofs.Ytpbgelhjbfckcaa
set_option maxRecDepth 100000
set_option linter.unusedVariables false
set_option linter.unusedSimpArgs false
open List renaming getElem_toArray → qa, getElem_cons_zero → qb, getElem_cons_succ → qc, setIfInBounds_toArray → qd, set_cons_zero → qe, set_cons_succ → qf
open Go.ChangeShapes Go.WideShapes Go.ChangeAt Go.RowKit
set_option maxHeartbeats 8000000 in
theorem used0_c (cs : List Value) (p : PM) {A43p : Option Addr} {n43p c43p : Nat} (w : World) (hlen : cs.length = 47) (hc0 : cs[0]? = some (.int .i64 0))  (hd34 : (cs.drop 34).take 13 = [.int .i64 (p.n 34), .int .i64 (p.n 35), .int .i64 (p.n 36), .int .i64 (p.n 37), .int .i64 (p.n 38), .int .i64 (p.n 39), .int .i64 (p.n 40), .int .i64 (p.n 41), .bool p.gr, .slice A43p n43p c43p, .int .i64 (p.n 44), .string p.d, .bool p.dn]) :
 Calls Try.prog 43 #[.agg cs.toArray] w fun e w' => Below w.heap.size w w' ∧ e = .returned (.tuple #[.agg ([.int .i64 0, zi, zi, zi, zi, zs, zi, zi, zi, zi, zi, zl, zl, zi, zi, zi, zi, zi, zi, zi, zi, zi, zi, zi, zi, zi, zl, zl, zl, zl, zl, zl, zl, zl, .int .i64 (p.n 34), .int .i64 (p.n 35), .int .i64 (p.n 36), .int .i64 (p.n 37), .int .i64 (p.n 38), .int .i64 (p.n 39), .int .i64 (p.n 40), .int .i64 (p.n 41), .bool p.gr, .slice A43p n43p c43p, .int .i64 (p.n 44), .string p.d, .bool p.dn] : List Value).toArray, .bool true]) := by
 have HC0 := hide hc0;have HD34 := hide hd34
 have HO := hide (Own.nil w [] (by simp))
 clear hc0 hd34
 go_enter Try.func43, Try.ntmps43
 try simp only [List.append_eq, List.cons_append, List.nil_append]
 go_wp2_with (((with_reducible refine at_box 41 (.tmp 0) ?_); refine wpList_box_own HO.out rfl 41 (.tmp 0) rfl cs rfl ?_; intro WA b1 hO; replace HO := hide hO; clear hO; refine Hid.out ?_))
 refine hide ?_
 go_wp2_with ((with_reducible refine at_alloc 41 ?_); refine wpList_alloc_own HO.out rfl 41 rfl zmsgI zmsgI_info ?_; intro WB bR hO; replace HO := hide hO; clear hO; have k0 := HO.out.k0 HC0.out; have kA := HO.out.cells 0 rfl; refine Hid.out ?_)
 refine hide ?_
 go_wp2_with (first
  | ((with_reducible refine at_build 41 ?_); refine wpList_build rfl 41 _ rfl ([(0, .int .i64 0)]) (by first | (simp [Act.eval]; done) | (simp [Act.eval]; rfl)) ([.int .i64 0, zi, zi, zi, zi, zs, zi, zi, zi, zi, zi, zl, zl, zi, zi, zi, zi, zi, zi, zi, zi, zi, zi, zi, zi, zi, zl, zl, zl, zl, zl, zl, zl, zl, zi, zi, zi, zi, zi, zi, zi, zi, zb0, zl, zi, zs, zb0] : List Value).toArray (by kernel_rfl) ?_)
  | ((with_reducible refine at_alloc 41 ?_); refine wpList_alloc_own HO.out rfl 41 rfl zmsgI zmsgI_info ?_; intro WC bx hO; replace HO := hide hO; clear hO)
  | ((with_reducible refine at_store 41 (.tmp 4) ?_); refine wpList_store_own HO.out rfl 41 (.tmp 4) (.tmp 7) rfl 2 _ 0 _ _ ([.int .i64 0, zi, zi, zi, zi, zs, zi, zi, zi, zi, zi, zl, zl, zi, zi, zi, zi, zi, zi, zi, zi, zi, zi, zi, zi, zi, zl, zl, zl, zl, zl, zl, zl, zl, zi, zi, zi, zi, zi, zi, zi, zi, zb0, zl, zi, zs, zb0]) ([.int .i64 0, zi, zi, zi, zi, zs, zi, zi, zi, zi, zi, zl, zl, zi, zi, zi, zi, zi, zi, zi, zi, zi, zi, zi, zi, zi, zl, zl, zl, zl, zl, zl, zl, zl, zi, zi, zi, zi, zi, zi, zi, zi, zb0, zl, zi, zs, zb0]) rfl (.agg ([.int .i64 0, zi, zi, zi, zi, zs, zi, zi, zi, zi, zi, zl, zl, zi, zi, zi, zi, zi, zi, zi, zi, zi, zi, zi, zi, zi, zl, zl, zl, zl, zl, zl, zl, zl, zi, zi, zi, zi, zi, zi, zi, zi, zb0, zl, zi, zs, zb0] : List Value).toArray) rfl rfl (fits_agg _) (by rw [zmsgI_len]; exact Nat.le_refl _) (splice_all (by rw [zmsgI_len]; rfl)) (by kernel_rfl) rfl ?_; intro WD hO; replace HO := hide hO; clear hO; clear k0  kA; have k0 := HO.out.k0 HC0.out; have kA := HO.out.cells 0 rfl)
  | ((with_reducible refine at_load 39 (.tmp 13) ?_); refine wpList_load_own_gq HO.out rfl 39 (.tmp 13) rfl 0 _ 34 13 _ _ ([.int .i64 (p.n 34), .int .i64 (p.n 35), .int .i64 (p.n 36), .int .i64 (p.n 37), .int .i64 (p.n 38), .int .i64 (p.n 39), .int .i64 (p.n 40), .int .i64 (p.n 41), .bool p.gr, .slice A43p n43p c43p, .int .i64 (p.n 44), .string p.d, .bool p.dn]) _ rfl HD34.out rfl Try.underlying39 rfl size_gm ?_)
  | ((with_reducible refine at_store 39 (.tmp 15) ?_); refine wpList_store_own HO.out rfl 39 (.tmp 15) (.tmp 14) rfl 2 _ 34 _ _ ([.int .i64 (p.n 34), .int .i64 (p.n 35), .int .i64 (p.n 36), .int .i64 (p.n 37), .int .i64 (p.n 38), .int .i64 (p.n 39), .int .i64 (p.n 40), .int .i64 (p.n 41), .bool p.gr, .slice A43p n43p c43p, .int .i64 (p.n 44), .string p.d, .bool p.dn]) ([.int .i64 0, zi, zi, zi, zi, zs, zi, zi, zi, zi, zi, zl, zl, zi, zi, zi, zi, zi, zi, zi, zi, zi, zi, zi, zi, zi, zl, zl, zl, zl, zl, zl, zl, zl, .int .i64 (p.n 34), .int .i64 (p.n 35), .int .i64 (p.n 36), .int .i64 (p.n 37), .int .i64 (p.n 38), .int .i64 (p.n 39), .int .i64 (p.n 40), .int .i64 (p.n 41), .bool p.gr, .slice A43p n43p c43p, .int .i64 (p.n 44), .string p.d, .bool p.dn]) rfl ((.agg ([.int .i64 (p.n 34), .int .i64 (p.n 35), .int .i64 (p.n 36), .int .i64 (p.n 37), .int .i64 (p.n 38), .int .i64 (p.n 39), .int .i64 (p.n 40), .int .i64 (p.n 41), .bool p.gr, .slice A43p n43p c43p, .int .i64 (p.n 44), .string p.d, .bool p.dn] : List Value).toArray)) rfl rfl (fits_agg _) (Nat.le_of_ble_eq_true rfl) rfl size_gm rfl ?_; intro WE hO; replace HO := hide hO; clear hO)
  | ((with_reducible refine at_load 41 (.tmp 4) ?_); refine wpList_load_own HO.out rfl 41 (.tmp 4) rfl 2 _ 0 47 _ _ ([.int .i64 0, zi, zi, zi, zi, zs, zi, zi, zi, zi, zi, zl, zl, zi, zi, zi, zi, zi, zi, zi, zi, zi, zi, zi, zi, zi, zl, zl, zl, zl, zl, zl, zl, zl, .int .i64 (p.n 34), .int .i64 (p.n 35), .int .i64 (p.n 36), .int .i64 (p.n 37), .int .i64 (p.n 38), .int .i64 (p.n 39), .int .i64 (p.n 40), .int .i64 (p.n 41), .bool p.gr, .slice A43p n43p c43p, .int .i64 (p.n 44), .string p.d, .bool p.dn]) _ rfl rfl rfl Try.underlying41 rfl (by kernel_rfl) ?_)
  | ((with_reducible refine at_store 41 (.tmp 2) ?_); refine wpList_store_own HO.out rfl 41 (.tmp 2) (.tmp 158) rfl 1 _ 0 _ _ ([.int .i64 0, zi, zi, zi, zi, zs, zi, zi, zi, zi, zi, zl, zl, zi, zi, zi, zi, zi, zi, zi, zi, zi, zi, zi, zi, zi, zl, zl, zl, zl, zl, zl, zl, zl, .int .i64 (p.n 34), .int .i64 (p.n 35), .int .i64 (p.n 36), .int .i64 (p.n 37), .int .i64 (p.n 38), .int .i64 (p.n 39), .int .i64 (p.n 40), .int .i64 (p.n 41), .bool p.gr, .slice A43p n43p c43p, .int .i64 (p.n 44), .string p.d, .bool p.dn]) ([.int .i64 0, zi, zi, zi, zi, zs, zi, zi, zi, zi, zi, zl, zl, zi, zi, zi, zi, zi, zi, zi, zi, zi, zi, zi, zi, zi, zl, zl, zl, zl, zl, zl, zl, zl, .int .i64 (p.n 34), .int .i64 (p.n 35), .int .i64 (p.n 36), .int .i64 (p.n 37), .int .i64 (p.n 38), .int .i64 (p.n 39), .int .i64 (p.n 40), .int .i64 (p.n 41), .bool p.gr, .slice A43p n43p c43p, .int .i64 (p.n 44), .string p.d, .bool p.dn]) rfl (.agg ([.int .i64 0, zi, zi, zi, zi, zs, zi, zi, zi, zi, zi, zl, zl, zi, zi, zi, zi, zi, zi, zi, zi, zi, zi, zi, zi, zi, zl, zl, zl, zl, zl, zl, zl, zl, .int .i64 (p.n 34), .int .i64 (p.n 35), .int .i64 (p.n 36), .int .i64 (p.n 37), .int .i64 (p.n 38), .int .i64 (p.n 39), .int .i64 (p.n 40), .int .i64 (p.n 41), .bool p.gr, .slice A43p n43p c43p, .int .i64 (p.n 44), .string p.d, .bool p.dn] : List Value).toArray) rfl rfl (fits_agg _) (by rw [zmsgI_len]; exact Nat.le_refl _) (splice_all (by rw [zmsgI_len]; rfl)) (by kernel_rfl) rfl ?_; intro WF hO; replace HO := hide hO; clear hO)
  | fail)
 refine bodyPost_ret (results_row_tmp Try.results43 _ _ bR 41 _ (0, 0) _ _ rfl rfl (HO.out.blk 1 rfl) Try.underlying41 rfl (by kernel_rfl)) rfl ?_
 exact ⟨HO.out.below, rfl⟩
set_option maxHeartbeats 8000000 in
theorem used1_c (cs : List Value) (p : PM)  (w : World) (hlen : cs.length = 47) (hc0 : cs[0]? = some (.int .i64 1)) (hc1 : cs[1]? = some (.int .i64 (p.n 1))) (hc2 : cs[2]? = some (.int .i64 (p.n 2))) (hc3 : cs[3]? = some (.int .i64 (p.n 3))) (hc5 : cs[5]? = some (.string p.body))  :
 Calls Try.prog 43 #[.agg cs.toArray] w fun e w' => Below w.heap.size w w' ∧ e = .returned (.tuple #[.agg ([.int .i64 1, .int .i64 (p.n 1), .int .i64 (p.n 2), .int .i64 (p.n 3), zi, .string p.body, zi, zi, zi, zi, zi, zl, zl, zi, zi, zi, zi, zi, zi, zi, zi, zi, zi, zi, zi, zi, zl, zl, zl, zl, zl, zl, zl, zl, zi, zi, zi, zi, zi, zi, zi, zi, zb0, zl, zi, zs, zb0] : List Value).toArray, .bool true]) := by
 have HC1 := hide hc1;have HC2 := hide hc2;have HC3 := hide hc3;have HC5 := hide hc5;have HC0 := hide hc0
 have HO := hide (Own.nil w [] (by simp))
 clear hc1 hc2 hc3 hc5 hc0
 go_enter Try.func43, Try.ntmps43
 try simp only [List.append_eq, List.cons_append, List.nil_append]
 go_wp2_with (((with_reducible refine at_box 41 (.tmp 0) ?_); refine wpList_box_own HO.out rfl 41 (.tmp 0) rfl cs rfl ?_; intro WA b1 hO; replace HO := hide hO; clear hO; refine Hid.out ?_))
 refine hide ?_
 go_wp2_with ((with_reducible refine at_alloc 41 ?_); refine wpList_alloc_own HO.out rfl 41 rfl zmsgI zmsgI_info ?_; intro WB bR hO; replace HO := hide hO; clear hO; have k0 := HO.out.k0 HC0.out; have k1 := HO.out.k0 HC1.out; have k2 := HO.out.k0 HC2.out; have k3 := HO.out.k0 HC3.out; have k5 := HO.out.k0 HC5.out; refine Hid.out ?_)
 refine hide ?_
 go_wp2_with (first
  | ((with_reducible refine at_build 41 ?_); refine wpList_build rfl 41 _ rfl ([(0, .int .i64 1)]) (by first | (simp [Act.eval]; done) | (simp [Act.eval]; rfl)) ([.int .i64 1, zi, zi, zi, zi, zs, zi, zi, zi, zi, zi, zl, zl, zi, zi, zi, zi, zi, zi, zi, zi, zi, zi, zi, zi, zi, zl, zl, zl, zl, zl, zl, zl, zl, zi, zi, zi, zi, zi, zi, zi, zi, zb0, zl, zi, zs, zb0] : List Value).toArray (by kernel_rfl) ?_)
  | ((with_reducible refine at_alloc 41 ?_); refine wpList_alloc_own HO.out rfl 41 rfl zmsgI zmsgI_info ?_; intro WC bx hO; replace HO := hide hO; clear hO)
  | ((with_reducible refine at_store 41 (.tmp 4) ?_); refine wpList_store_own HO.out rfl 41 (.tmp 4) (.tmp 7) rfl 2 _ 0 _ _ ([.int .i64 1, zi, zi, zi, zi, zs, zi, zi, zi, zi, zi, zl, zl, zi, zi, zi, zi, zi, zi, zi, zi, zi, zi, zi, zi, zi, zl, zl, zl, zl, zl, zl, zl, zl, zi, zi, zi, zi, zi, zi, zi, zi, zb0, zl, zi, zs, zb0]) ([.int .i64 1, zi, zi, zi, zi, zs, zi, zi, zi, zi, zi, zl, zl, zi, zi, zi, zi, zi, zi, zi, zi, zi, zi, zi, zi, zi, zl, zl, zl, zl, zl, zl, zl, zl, zi, zi, zi, zi, zi, zi, zi, zi, zb0, zl, zi, zs, zb0]) rfl (.agg ([.int .i64 1, zi, zi, zi, zi, zs, zi, zi, zi, zi, zi, zl, zl, zi, zi, zi, zi, zi, zi, zi, zi, zi, zi, zi, zi, zi, zl, zl, zl, zl, zl, zl, zl, zl, zi, zi, zi, zi, zi, zi, zi, zi, zb0, zl, zi, zs, zb0] : List Value).toArray) rfl rfl (fits_agg _) (by rw [zmsgI_len]; exact Nat.le_refl _) (splice_all (by rw [zmsgI_len]; rfl)) (by kernel_rfl) rfl ?_; intro WD hO; replace HO := hide hO; clear hO; clear k0 k1 k2 k3 k5; have k0 := HO.out.k0 HC0.out; have k1 := HO.out.k0 HC1.out; have k2 := HO.out.k0 HC2.out; have k3 := HO.out.k0 HC3.out; have k5 := HO.out.k0 HC5.out)
  | fail)
 refine wp_region_held_drew (S := fun W => W.cell? ⟨b1, 1, none⟩ = some (.int .i64 (p.n 1)) ∧ W.cell? ⟨b1, 2, none⟩ = some (.int .i64 (p.n 2)) ∧ W.cell? ⟨b1, 3, none⟩ = some (.int .i64 (p.n 3)) ∧ W.cell? ⟨b1, 5, none⟩ = some (.string p.body)) (by kernel_rfl) (⟨k1, k2, k3, k5⟩) (fun hS0 => ?_)
 replace HO := hide HO.out.drew
 refine tk 0 ?_;refine tk 1 ?_;refine tk 2 ?_;refine tk 3 ?_;refine tk 4 ?_;refine tk 5 ?_;refine tk 6 ?_;refine tk 7 ?_;refine tk 8 ?_
 refine tr1 9 fun K hK => ?_
 refine step_store_own HO.out rfl 3 (.tmp 26) (.tmp 19) rfl 2 _ 1 _ _ ([.int .i64 (p.n 1)]) ([.int .i64 1, .int .i64 (p.n 1), zi, zi, zi, zs, zi, zi, zi, zi, zi, zl, zl, zi, zi, zi, zi, zi, zi, zi, zi, zi, zi, zi, zi, zi, zl, zl, zl, zl, zl, zl, zl, zl, zi, zi, zi, zi, zi, zi, zi, zi, zb0, zl, zi, zs, zb0]) rfl (.int .i64 (p.n 1)) rfl rfl (fits_one rfl) (Nat.le_of_ble_eq_true rfl) rfl (by kernel_rfl) rfl ?_
 intro WE hO
 replace HO := hide hO
 clear hO;clear k0 k1 k2 k3 k5;have k0 := HO.out.k0 HC0.out;have k1 := HO.out.k0 HC1.out;have k2 := HO.out.k0 HC2.out;have k3 := HO.out.k0 HC3.out;have k5 := HO.out.k0 HC5.out
 refine hK.out _ _ (⟨k1, k2, k3, k5⟩) (fun hS9 => ?_)
 clear hK K
 try simp only [Act.put, qa, qb, qc, qd, qe, qf]
 refine tk 10 ?_
 refine tr1 11 fun K hK => ?_
 refine step_store_own HO.out rfl 3 (.tmp 27) (.tmp 21) rfl 2 _ 2 _ _ ([.int .i64 (p.n 2)]) ([.int .i64 1, .int .i64 (p.n 1), .int .i64 (p.n 2), zi, zi, zs, zi, zi, zi, zi, zi, zl, zl, zi, zi, zi, zi, zi, zi, zi, zi, zi, zi, zi, zi, zi, zl, zl, zl, zl, zl, zl, zl, zl, zi, zi, zi, zi, zi, zi, zi, zi, zb0, zl, zi, zs, zb0]) rfl (.int .i64 (p.n 2)) rfl rfl (fits_one rfl) (Nat.le_of_ble_eq_true rfl) rfl (by kernel_rfl) rfl ?_
 intro WE hO
 replace HO := hide hO
 clear hO;clear k0 k1 k2 k3 k5;have k0 := HO.out.k0 HC0.out;have k1 := HO.out.k0 HC1.out;have k2 := HO.out.k0 HC2.out;have k3 := HO.out.k0 HC3.out;have k5 := HO.out.k0 HC5.out
 refine hK.out _ _ (⟨k1, k2, k3, k5⟩) (fun hS11 => ?_)
 clear hK K
 try simp only [Act.put, qa, qb, qc, qd, qe, qf]
 refine tk 12 ?_
 refine tr1 13 fun K hK => ?_
 refine step_store_own HO.out rfl 3 (.tmp 28) (.tmp 23) rfl 2 _ 3 _ _ ([.int .i64 (p.n 3)]) ([.int .i64 1, .int .i64 (p.n 1), .int .i64 (p.n 2), .int .i64 (p.n 3), zi, zs, zi, zi, zi, zi, zi, zl, zl, zi, zi, zi, zi, zi, zi, zi, zi, zi, zi, zi, zi, zi, zl, zl, zl, zl, zl, zl, zl, zl, zi, zi, zi, zi, zi, zi, zi, zi, zb0, zl, zi, zs, zb0]) rfl (.int .i64 (p.n 3)) rfl rfl (fits_one rfl) (Nat.le_of_ble_eq_true rfl) rfl (by kernel_rfl) rfl ?_
 intro WE hO
 replace HO := hide hO
 clear hO;clear k0 k1 k2 k3 k5;have k0 := HO.out.k0 HC0.out;have k1 := HO.out.k0 HC1.out;have k2 := HO.out.k0 HC2.out;have k3 := HO.out.k0 HC3.out;have k5 := HO.out.k0 HC5.out
 refine hK.out _ _ (⟨k1, k2, k3, k5⟩) (fun hS13 => ?_)
 clear hK K
 try simp only [Act.put, qa, qb, qc, qd, qe, qf]
 refine tk 14 ?_
 refine tr1 15 fun K hK => ?_
 refine step_store_own HO.out rfl 9 (.tmp 29) (.tmp 25) rfl 2 _ 5 _ _ ([.string p.body]) ([.int .i64 1, .int .i64 (p.n 1), .int .i64 (p.n 2), .int .i64 (p.n 3), zi, .string p.body, zi, zi, zi, zi, zi, zl, zl, zi, zi, zi, zi, zi, zi, zi, zi, zi, zi, zi, zi, zi, zl, zl, zl, zl, zl, zl, zl, zl, zi, zi, zi, zi, zi, zi, zi, zi, zb0, zl, zi, zs, zb0]) rfl (.string p.body) rfl rfl (fits_one rfl) (Nat.le_of_ble_eq_true rfl) rfl (by kernel_rfl) rfl ?_
 intro WE hO
 replace HO := hide hO
 clear hO;clear k0 k1 k2 k3 k5;have k0 := HO.out.k0 HC0.out;have k1 := HO.out.k0 HC1.out;have k2 := HO.out.k0 HC2.out;have k3 := HO.out.k0 HC3.out;have k5 := HO.out.k0 HC5.out
 refine hK.out _ _ (⟨k1, k2, k3, k5⟩) (fun hS15 => ?_)
 clear hK K
 try simp only [Act.put, qa, qb, qc, qd, qe, qf]
 refine wpAnyH_done (by kernel_rfl) ?_ _
 clear hS0
 go_wp2_with (first
  | ((with_reducible refine at_load 41 (.tmp 4) ?_); refine wpList_load_own HO.out rfl 41 (.tmp 4) rfl 2 _ 0 47 _ _ ([.int .i64 1, .int .i64 (p.n 1), .int .i64 (p.n 2), .int .i64 (p.n 3), zi, .string p.body, zi, zi, zi, zi, zi, zl, zl, zi, zi, zi, zi, zi, zi, zi, zi, zi, zi, zi, zi, zi, zl, zl, zl, zl, zl, zl, zl, zl, zi, zi, zi, zi, zi, zi, zi, zi, zb0, zl, zi, zs, zb0]) _ rfl rfl rfl Try.underlying41 rfl (by kernel_rfl) ?_)
  | ((with_reducible refine at_store 41 (.tmp 2) ?_); refine wpList_store_own HO.out rfl 41 (.tmp 2) (.tmp 158) rfl 1 _ 0 _ _ ([.int .i64 1, .int .i64 (p.n 1), .int .i64 (p.n 2), .int .i64 (p.n 3), zi, .string p.body, zi, zi, zi, zi, zi, zl, zl, zi, zi, zi, zi, zi, zi, zi, zi, zi, zi, zi, zi, zi, zl, zl, zl, zl, zl, zl, zl, zl, zi, zi, zi, zi, zi, zi, zi, zi, zb0, zl, zi, zs, zb0]) ([.int .i64 1, .int .i64 (p.n 1), .int .i64 (p.n 2), .int .i64 (p.n 3), zi, .string p.body, zi, zi, zi, zi, zi, zl, zl, zi, zi, zi, zi, zi, zi, zi, zi, zi, zi, zi, zi, zi, zl, zl, zl, zl, zl, zl, zl, zl, zi, zi, zi, zi, zi, zi, zi, zi, zb0, zl, zi, zs, zb0]) rfl (.agg ([.int .i64 1, .int .i64 (p.n 1), .int .i64 (p.n 2), .int .i64 (p.n 3), zi, .string p.body, zi, zi, zi, zi, zi, zl, zl, zi, zi, zi, zi, zi, zi, zi, zi, zi, zi, zi, zi, zi, zl, zl, zl, zl, zl, zl, zl, zl, zi, zi, zi, zi, zi, zi, zi, zi, zb0, zl, zi, zs, zb0] : List Value).toArray) rfl rfl (fits_agg _) (by rw [zmsgI_len]; exact Nat.le_refl _) (splice_all (by rw [zmsgI_len]; rfl)) (by kernel_rfl) rfl ?_; intro WF hO; replace HO := hide hO; clear hO)
  | fail)
 refine bodyPost_ret (results_row_tmp Try.results43 _ _ bR 41 _ (0, 0) _ _ rfl rfl (HO.out.blk 1 rfl) Try.underlying41 rfl (by kernel_rfl)) rfl ?_
 exact ⟨HO.out.below, rfl⟩
set_option maxHeartbeats 8000000 in
theorem used2_c (cs : List Value) (p : PM)  (w : World) (hlen : cs.length = 47) (hc0 : cs[0]? = some (.int .i64 2)) (hc1 : cs[1]? = some (.int .i64 (p.n 1))) (hc2 : cs[2]? = some (.int .i64 (p.n 2))) (hc3 : cs[3]? = some (.int .i64 (p.n 3))) (hc4 : cs[4]? = some (.int .i64 (p.n 4))) (hc5 : cs[5]? = some (.string p.body)) (hc6 : cs[6]? = some (.int .i64 (p.n 6)))  :
 Calls Try.prog 43 #[.agg cs.toArray] w fun e w' => Below w.heap.size w w' ∧ e = .returned (.tuple #[.agg ([.int .i64 2, .int .i64 (p.n 1), .int .i64 (p.n 2), .int .i64 (p.n 3), .int .i64 (p.n 4), .string p.body, .int .i64 (p.n 6), zi, zi, zi, zi, zl, zl, zi, zi, zi, zi, zi, zi, zi, zi, zi, zi, zi, zi, zi, zl, zl, zl, zl, zl, zl, zl, zl, zi, zi, zi, zi, zi, zi, zi, zi, zb0, zl, zi, zs, zb0] : List Value).toArray, .bool true]) := by
 have HC1 := hide hc1;have HC2 := hide hc2;have HC3 := hide hc3;have HC4 := hide hc4;have HC5 := hide hc5;have HC6 := hide hc6;have HC0 := hide hc0
 have HO := hide (Own.nil w [] (by simp))
 clear hc1 hc2 hc3 hc4 hc5 hc6 hc0
 go_enter Try.func43, Try.ntmps43
 try simp only [List.append_eq, List.cons_append, List.nil_append]
 go_wp2_with (((with_reducible refine at_box 41 (.tmp 0) ?_); refine wpList_box_own HO.out rfl 41 (.tmp 0) rfl cs rfl ?_; intro WA b1 hO; replace HO := hide hO; clear hO; refine Hid.out ?_))
 refine hide ?_
 go_wp2_with ((with_reducible refine at_alloc 41 ?_); refine wpList_alloc_own HO.out rfl 41 rfl zmsgI zmsgI_info ?_; intro WB bR hO; replace HO := hide hO; clear hO; have k0 := HO.out.k0 HC0.out; have k1 := HO.out.k0 HC1.out; have k2 := HO.out.k0 HC2.out; have k3 := HO.out.k0 HC3.out; have k4 := HO.out.k0 HC4.out; have k5 := HO.out.k0 HC5.out; have k6 := HO.out.k0 HC6.out; refine Hid.out ?_)
 refine hide ?_
 go_wp2_with (first
  | ((with_reducible refine at_build 41 ?_); refine wpList_build rfl 41 _ rfl ([(0, .int .i64 2)]) (by first | (simp [Act.eval]; done) | (simp [Act.eval]; rfl)) ([.int .i64 2, zi, zi, zi, zi, zs, zi, zi, zi, zi, zi, zl, zl, zi, zi, zi, zi, zi, zi, zi, zi, zi, zi, zi, zi, zi, zl, zl, zl, zl, zl, zl, zl, zl, zi, zi, zi, zi, zi, zi, zi, zi, zb0, zl, zi, zs, zb0] : List Value).toArray (by kernel_rfl) ?_)
  | ((with_reducible refine at_alloc 41 ?_); refine wpList_alloc_own HO.out rfl 41 rfl zmsgI zmsgI_info ?_; intro WC bx hO; replace HO := hide hO; clear hO)
  | ((with_reducible refine at_store 41 (.tmp 4) ?_); refine wpList_store_own HO.out rfl 41 (.tmp 4) (.tmp 7) rfl 2 _ 0 _ _ ([.int .i64 2, zi, zi, zi, zi, zs, zi, zi, zi, zi, zi, zl, zl, zi, zi, zi, zi, zi, zi, zi, zi, zi, zi, zi, zi, zi, zl, zl, zl, zl, zl, zl, zl, zl, zi, zi, zi, zi, zi, zi, zi, zi, zb0, zl, zi, zs, zb0]) ([.int .i64 2, zi, zi, zi, zi, zs, zi, zi, zi, zi, zi, zl, zl, zi, zi, zi, zi, zi, zi, zi, zi, zi, zi, zi, zi, zi, zl, zl, zl, zl, zl, zl, zl, zl, zi, zi, zi, zi, zi, zi, zi, zi, zb0, zl, zi, zs, zb0]) rfl (.agg ([.int .i64 2, zi, zi, zi, zi, zs, zi, zi, zi, zi, zi, zl, zl, zi, zi, zi, zi, zi, zi, zi, zi, zi, zi, zi, zi, zi, zl, zl, zl, zl, zl, zl, zl, zl, zi, zi, zi, zi, zi, zi, zi, zi, zb0, zl, zi, zs, zb0] : List Value).toArray) rfl rfl (fits_agg _) (by rw [zmsgI_len]; exact Nat.le_refl _) (splice_all (by rw [zmsgI_len]; rfl)) (by kernel_rfl) rfl ?_; intro WD hO; replace HO := hide hO; clear hO; clear k0 k1 k2 k3 k4 k5 k6; have k0 := HO.out.k0 HC0.out; have k1 := HO.out.k0 HC1.out; have k2 := HO.out.k0 HC2.out; have k3 := HO.out.k0 HC3.out; have k4 := HO.out.k0 HC4.out; have k5 := HO.out.k0 HC5.out; have k6 := HO.out.k0 HC6.out)
  | fail)
 refine wp_region_held_drew (S := fun W => W.cell? ⟨b1, 1, none⟩ = some (.int .i64 (p.n 1)) ∧ W.cell? ⟨b1, 2, none⟩ = some (.int .i64 (p.n 2)) ∧ W.cell? ⟨b1, 3, none⟩ = some (.int .i64 (p.n 3)) ∧ W.cell? ⟨b1, 4, none⟩ = some (.int .i64 (p.n 4)) ∧ W.cell? ⟨b1, 5, none⟩ = some (.string p.body) ∧ W.cell? ⟨b1, 6, none⟩ = some (.int .i64 (p.n 6))) (by kernel_rfl) (⟨k1, k2, k3, k4, k5, k6⟩) (fun hS0 => ?_)
 replace HO := hide HO.out.drew
 refine tk 0 ?_;refine tk 1 ?_;refine tk 2 ?_;refine tk 3 ?_;refine tk 4 ?_;refine tk 5 ?_;refine tk 6 ?_;refine tk 7 ?_;refine tk 8 ?_;refine tk 9 ?_;refine tk 10 ?_;refine tk 11 ?_;refine tk 12 ?_
 refine tr1 13 fun K hK => ?_
 refine step_store_own HO.out rfl 3 (.tmp 44) (.tmp 33) rfl 2 _ 1 _ _ ([.int .i64 (p.n 1)]) ([.int .i64 2, .int .i64 (p.n 1), zi, zi, zi, zs, zi, zi, zi, zi, zi, zl, zl, zi, zi, zi, zi, zi, zi, zi, zi, zi, zi, zi, zi, zi, zl, zl, zl, zl, zl, zl, zl, zl, zi, zi, zi, zi, zi, zi, zi, zi, zb0, zl, zi, zs, zb0]) rfl (.int .i64 (p.n 1)) rfl rfl (fits_one rfl) (Nat.le_of_ble_eq_true rfl) rfl (by kernel_rfl) rfl ?_
 intro WE hO
 replace HO := hide hO
 clear hO;clear k0 k1 k2 k3 k4 k5 k6;have k0 := HO.out.k0 HC0.out;have k1 := HO.out.k0 HC1.out;have k2 := HO.out.k0 HC2.out;have k3 := HO.out.k0 HC3.out;have k4 := HO.out.k0 HC4.out;have k5 := HO.out.k0 HC5.out;have k6 := HO.out.k0 HC6.out
 refine hK.out _ _ (⟨k1, k2, k3, k4, k5, k6⟩) (fun hS13 => ?_)
 clear hK K
 try simp only [Act.put, qa, qb, qc, qd, qe, qf]
 refine tk 14 ?_
 refine tr1 15 fun K hK => ?_
 refine step_store_own HO.out rfl 3 (.tmp 45) (.tmp 35) rfl 2 _ 2 _ _ ([.int .i64 (p.n 2)]) ([.int .i64 2, .int .i64 (p.n 1), .int .i64 (p.n 2), zi, zi, zs, zi, zi, zi, zi, zi, zl, zl, zi, zi, zi, zi, zi, zi, zi, zi, zi, zi, zi, zi, zi, zl, zl, zl, zl, zl, zl, zl, zl, zi, zi, zi, zi, zi, zi, zi, zi, zb0, zl, zi, zs, zb0]) rfl (.int .i64 (p.n 2)) rfl rfl (fits_one rfl) (Nat.le_of_ble_eq_true rfl) rfl (by kernel_rfl) rfl ?_
 intro WE hO
 replace HO := hide hO
 clear hO;clear k0 k1 k2 k3 k4 k5 k6;have k0 := HO.out.k0 HC0.out;have k1 := HO.out.k0 HC1.out;have k2 := HO.out.k0 HC2.out;have k3 := HO.out.k0 HC3.out;have k4 := HO.out.k0 HC4.out;have k5 := HO.out.k0 HC5.out;have k6 := HO.out.k0 HC6.out
 refine hK.out _ _ (⟨k1, k2, k3, k4, k5, k6⟩) (fun hS15 => ?_)
 clear hK K
 try simp only [Act.put, qa, qb, qc, qd, qe, qf]
 refine tk 16 ?_
 refine tr1 17 fun K hK => ?_
 refine step_store_own HO.out rfl 3 (.tmp 46) (.tmp 37) rfl 2 _ 3 _ _ ([.int .i64 (p.n 3)]) ([.int .i64 2, .int .i64 (p.n 1), .int .i64 (p.n 2), .int .i64 (p.n 3), zi, zs, zi, zi, zi, zi, zi, zl, zl, zi, zi, zi, zi, zi, zi, zi, zi, zi, zi, zi, zi, zi, zl, zl, zl, zl, zl, zl, zl, zl, zi, zi, zi, zi, zi, zi, zi, zi, zb0, zl, zi, zs, zb0]) rfl (.int .i64 (p.n 3)) rfl rfl (fits_one rfl) (Nat.le_of_ble_eq_true rfl) rfl (by kernel_rfl) rfl ?_
 intro WE hO
 replace HO := hide hO
 clear hO;clear k0 k1 k2 k3 k4 k5 k6;have k0 := HO.out.k0 HC0.out;have k1 := HO.out.k0 HC1.out;have k2 := HO.out.k0 HC2.out;have k3 := HO.out.k0 HC3.out;have k4 := HO.out.k0 HC4.out;have k5 := HO.out.k0 HC5.out;have k6 := HO.out.k0 HC6.out
 refine hK.out _ _ (⟨k1, k2, k3, k4, k5, k6⟩) (fun hS17 => ?_)
 clear hK K
 try simp only [Act.put, qa, qb, qc, qd, qe, qf]
 refine tk 18 ?_
 refine tr1 19 fun K hK => ?_
 refine step_store_own HO.out rfl 27 (.tmp 47) (.tmp 39) rfl 2 _ 4 _ _ ([.int .i64 (p.n 4)]) ([.int .i64 2, .int .i64 (p.n 1), .int .i64 (p.n 2), .int .i64 (p.n 3), .int .i64 (p.n 4), zs, zi, zi, zi, zi, zi, zl, zl, zi, zi, zi, zi, zi, zi, zi, zi, zi, zi, zi, zi, zi, zl, zl, zl, zl, zl, zl, zl, zl, zi, zi, zi, zi, zi, zi, zi, zi, zb0, zl, zi, zs, zb0]) rfl (.int .i64 (p.n 4)) rfl rfl (fits_one rfl) (Nat.le_of_ble_eq_true rfl) rfl (by kernel_rfl) rfl ?_
 intro WE hO
 replace HO := hide hO
 clear hO;clear k0 k1 k2 k3 k4 k5 k6;have k0 := HO.out.k0 HC0.out;have k1 := HO.out.k0 HC1.out;have k2 := HO.out.k0 HC2.out;have k3 := HO.out.k0 HC3.out;have k4 := HO.out.k0 HC4.out;have k5 := HO.out.k0 HC5.out;have k6 := HO.out.k0 HC6.out
 refine hK.out _ _ (⟨k1, k2, k3, k4, k5, k6⟩) (fun hS19 => ?_)
 clear hK K
 try simp only [Act.put, qa, qb, qc, qd, qe, qf]
 refine tk 20 ?_
 refine tr1 21 fun K hK => ?_
 refine step_store_own HO.out rfl 9 (.tmp 48) (.tmp 41) rfl 2 _ 5 _ _ ([.string p.body]) ([.int .i64 2, .int .i64 (p.n 1), .int .i64 (p.n 2), .int .i64 (p.n 3), .int .i64 (p.n 4), .string p.body, zi, zi, zi, zi, zi, zl, zl, zi, zi, zi, zi, zi, zi, zi, zi, zi, zi, zi, zi, zi, zl, zl, zl, zl, zl, zl, zl, zl, zi, zi, zi, zi, zi, zi, zi, zi, zb0, zl, zi, zs, zb0]) rfl (.string p.body) rfl rfl (fits_one rfl) (Nat.le_of_ble_eq_true rfl) rfl (by kernel_rfl) rfl ?_
 intro WE hO
 replace HO := hide hO
 clear hO;clear k0 k1 k2 k3 k4 k5 k6;have k0 := HO.out.k0 HC0.out;have k1 := HO.out.k0 HC1.out;have k2 := HO.out.k0 HC2.out;have k3 := HO.out.k0 HC3.out;have k4 := HO.out.k0 HC4.out;have k5 := HO.out.k0 HC5.out;have k6 := HO.out.k0 HC6.out
 refine hK.out _ _ (⟨k1, k2, k3, k4, k5, k6⟩) (fun hS21 => ?_)
 clear hK K
 try simp only [Act.put, qa, qb, qc, qd, qe, qf]
 refine tk 22 ?_
 refine tr1 23 fun K hK => ?_
 refine step_store_own HO.out rfl 3 (.tmp 49) (.tmp 43) rfl 2 _ 6 _ _ ([.int .i64 (p.n 6)]) ([.int .i64 2, .int .i64 (p.n 1), .int .i64 (p.n 2), .int .i64 (p.n 3), .int .i64 (p.n 4), .string p.body, .int .i64 (p.n 6), zi, zi, zi, zi, zl, zl, zi, zi, zi, zi, zi, zi, zi, zi, zi, zi, zi, zi, zi, zl, zl, zl, zl, zl, zl, zl, zl, zi, zi, zi, zi, zi, zi, zi, zi, zb0, zl, zi, zs, zb0]) rfl (.int .i64 (p.n 6)) rfl rfl (fits_one rfl) (Nat.le_of_ble_eq_true rfl) rfl (by kernel_rfl) rfl ?_
 intro WE hO
 replace HO := hide hO
 clear hO;clear k0 k1 k2 k3 k4 k5 k6;have k0 := HO.out.k0 HC0.out;have k1 := HO.out.k0 HC1.out;have k2 := HO.out.k0 HC2.out;have k3 := HO.out.k0 HC3.out;have k4 := HO.out.k0 HC4.out;have k5 := HO.out.k0 HC5.out;have k6 := HO.out.k0 HC6.out
 refine hK.out _ _ (⟨k1, k2, k3, k4, k5, k6⟩) (fun hS23 => ?_)
 clear hK K
 try simp only [Act.put, qa, qb, qc, qd, qe, qf]
 refine wpAnyH_done (by kernel_rfl) ?_ _
 clear hS0
 go_wp2_with (first
  | ((with_reducible refine at_load 41 (.tmp 4) ?_); refine wpList_load_own HO.out rfl 41 (.tmp 4) rfl 2 _ 0 47 _ _ ([.int .i64 2, .int .i64 (p.n 1), .int .i64 (p.n 2), .int .i64 (p.n 3), .int .i64 (p.n 4), .string p.body, .int .i64 (p.n 6), zi, zi, zi, zi, zl, zl, zi, zi, zi, zi, zi, zi, zi, zi, zi, zi, zi, zi, zi, zl, zl, zl, zl, zl, zl, zl, zl, zi, zi, zi, zi, zi, zi, zi, zi, zb0, zl, zi, zs, zb0]) _ rfl rfl rfl Try.underlying41 rfl (by kernel_rfl) ?_)
  | ((with_reducible refine at_store 41 (.tmp 2) ?_); refine wpList_store_own HO.out rfl 41 (.tmp 2) (.tmp 158) rfl 1 _ 0 _ _ ([.int .i64 2, .int .i64 (p.n 1), .int .i64 (p.n 2), .int .i64 (p.n 3), .int .i64 (p.n 4), .string p.body, .int .i64 (p.n 6), zi, zi, zi, zi, zl, zl, zi, zi, zi, zi, zi, zi, zi, zi, zi, zi, zi, zi, zi, zl, zl, zl, zl, zl, zl, zl, zl, zi, zi, zi, zi, zi, zi, zi, zi, zb0, zl, zi, zs, zb0]) ([.int .i64 2, .int .i64 (p.n 1), .int .i64 (p.n 2), .int .i64 (p.n 3), .int .i64 (p.n 4), .string p.body, .int .i64 (p.n 6), zi, zi, zi, zi, zl, zl, zi, zi, zi, zi, zi, zi, zi, zi, zi, zi, zi, zi, zi, zl, zl, zl, zl, zl, zl, zl, zl, zi, zi, zi, zi, zi, zi, zi, zi, zb0, zl, zi, zs, zb0]) rfl (.agg ([.int .i64 2, .int .i64 (p.n 1), .int .i64 (p.n 2), .int .i64 (p.n 3), .int .i64 (p.n 4), .string p.body, .int .i64 (p.n 6), zi, zi, zi, zi, zl, zl, zi, zi, zi, zi, zi, zi, zi, zi, zi, zi, zi, zi, zi, zl, zl, zl, zl, zl, zl, zl, zl, zi, zi, zi, zi, zi, zi, zi, zi, zb0, zl, zi, zs, zb0] : List Value).toArray) rfl rfl (fits_agg _) (by rw [zmsgI_len]; exact Nat.le_refl _) (splice_all (by rw [zmsgI_len]; rfl)) (by kernel_rfl) rfl ?_; intro WF hO; replace HO := hide hO; clear hO)
  | fail)
 refine bodyPost_ret (results_row_tmp Try.results43 _ _ bR 41 _ (0, 0) _ _ rfl rfl (HO.out.blk 1 rfl) Try.underlying41 rfl (by kernel_rfl)) rfl ?_
 exact ⟨HO.out.below, rfl⟩
set_option maxHeartbeats 8000000 in
theorem used3_c (cs : List Value) (p : PM) {A11p : Option Addr} {n11p c11p : Nat} {A12p : Option Addr} {n12p c12p : Nat} (w : World) (hlen : cs.length = 47) (hc0 : cs[0]? = some (.int .i64 3)) (hc1 : cs[1]? = some (.int .i64 (p.n 1))) (hc7 : cs[7]? = some (.int .i64 (p.n 7))) (hc8 : cs[8]? = some (.int .i64 (p.n 8))) (hd9 : (cs.drop 9).take 4 = [.int .i64 (p.n 9), .int .i64 (p.n 10), .slice A11p n11p c11p, .slice A12p n12p c12p]) :
 Calls Try.prog 43 #[.agg cs.toArray] w fun e w' => Below w.heap.size w w' ∧ e = .returned (.tuple #[.agg ([.int .i64 3, .int .i64 (p.n 1), zi, zi, zi, zs, zi, .int .i64 (p.n 7), .int .i64 (p.n 8), .int .i64 (p.n 9), .int .i64 (p.n 10), .slice A11p n11p c11p, .slice A12p n12p c12p, zi, zi, zi, zi, zi, zi, zi, zi, zi, zi, zi, zi, zi, zl, zl, zl, zl, zl, zl, zl, zl, zi, zi, zi, zi, zi, zi, zi, zi, zb0, zl, zi, zs, zb0] : List Value).toArray, .bool true]) := by
 have HC1 := hide hc1;have HC7 := hide hc7;have HC8 := hide hc8;have HC0 := hide hc0;have HD9 := hide hd9
 have HO := hide (Own.nil w [] (by simp))
 clear hc1 hc7 hc8 hc0 hd9
 go_enter Try.func43, Try.ntmps43
 try simp only [List.append_eq, List.cons_append, List.nil_append]
 go_wp2_with (((with_reducible refine at_box 41 (.tmp 0) ?_); refine wpList_box_own HO.out rfl 41 (.tmp 0) rfl cs rfl ?_; intro WA b1 hO; replace HO := hide hO; clear hO; refine Hid.out ?_))
 refine hide ?_
 go_wp2_with ((with_reducible refine at_alloc 41 ?_); refine wpList_alloc_own HO.out rfl 41 rfl zmsgI zmsgI_info ?_; intro WB bR hO; replace HO := hide hO; clear hO; have k0 := HO.out.k0 HC0.out; have k1 := HO.out.k0 HC1.out; have k7 := HO.out.k0 HC7.out; have k8 := HO.out.k0 HC8.out; have kA := HO.out.cells 0 rfl; refine Hid.out ?_)
 refine hide ?_
 go_wp2_with (first
  | ((with_reducible refine at_build 41 ?_); refine wpList_build rfl 41 _ rfl ([(0, .int .i64 3)]) (by first | (simp [Act.eval]; done) | (simp [Act.eval]; rfl)) ([.int .i64 3, zi, zi, zi, zi, zs, zi, zi, zi, zi, zi, zl, zl, zi, zi, zi, zi, zi, zi, zi, zi, zi, zi, zi, zi, zi, zl, zl, zl, zl, zl, zl, zl, zl, zi, zi, zi, zi, zi, zi, zi, zi, zb0, zl, zi, zs, zb0] : List Value).toArray (by kernel_rfl) ?_)
  | ((with_reducible refine at_alloc 41 ?_); refine wpList_alloc_own HO.out rfl 41 rfl zmsgI zmsgI_info ?_; intro WC bx hO; replace HO := hide hO; clear hO)
  | ((with_reducible refine at_store 41 (.tmp 4) ?_); refine wpList_store_own HO.out rfl 41 (.tmp 4) (.tmp 7) rfl 2 _ 0 _ _ ([.int .i64 3, zi, zi, zi, zi, zs, zi, zi, zi, zi, zi, zl, zl, zi, zi, zi, zi, zi, zi, zi, zi, zi, zi, zi, zi, zi, zl, zl, zl, zl, zl, zl, zl, zl, zi, zi, zi, zi, zi, zi, zi, zi, zb0, zl, zi, zs, zb0]) ([.int .i64 3, zi, zi, zi, zi, zs, zi, zi, zi, zi, zi, zl, zl, zi, zi, zi, zi, zi, zi, zi, zi, zi, zi, zi, zi, zi, zl, zl, zl, zl, zl, zl, zl, zl, zi, zi, zi, zi, zi, zi, zi, zi, zb0, zl, zi, zs, zb0]) rfl (.agg ([.int .i64 3, zi, zi, zi, zi, zs, zi, zi, zi, zi, zi, zl, zl, zi, zi, zi, zi, zi, zi, zi, zi, zi, zi, zi, zi, zi, zl, zl, zl, zl, zl, zl, zl, zl, zi, zi, zi, zi, zi, zi, zi, zi, zb0, zl, zi, zs, zb0] : List Value).toArray) rfl rfl (fits_agg _) (by rw [zmsgI_len]; exact Nat.le_refl _) (splice_all (by rw [zmsgI_len]; rfl)) (by kernel_rfl) rfl ?_; intro WD hO; replace HO := hide hO; clear hO; clear k0 k1 k7 k8 kA; have k0 := HO.out.k0 HC0.out; have k1 := HO.out.k0 HC1.out; have k7 := HO.out.k0 HC7.out; have k8 := HO.out.k0 HC8.out; have kA := HO.out.cells 0 rfl)
  | fail)
 refine wp_region_held_drew (S := fun W => W.cell? ⟨b1, 1, none⟩ = some (.int .i64 (p.n 1)) ∧ W.cell? ⟨b1, 7, none⟩ = some (.int .i64 (p.n 7)) ∧ W.cell? ⟨b1, 8, none⟩ = some (.int .i64 (p.n 8)) ∧ (∀ j, W.cell? ⟨b1, j, none⟩ = cs[j]?)) (by kernel_rfl) (⟨k1, k7, k8, kA⟩) (fun hS0 => ?_)
 replace HO := hide HO.out.drew
 refine tk 0 ?_;refine tk 1 ?_;refine tk 2 ?_;refine tk 3 ?_;refine tk 4 ?_;refine tk 5 ?_;refine tk 6 ?_
 refine ty 7 (.agg ([.int .i64 (p.n 9), .int .i64 (p.n 10), .slice A11p n11p c11p, .slice A12p n12p c12p] : List Value).toArray) rfl (yieldsIf_load rfl 30 (.tmp 58) rfl b1 9 4 41 cs ([.int .i64 (p.n 9), .int .i64 (p.n 10), .slice A11p n11p c11p, .slice A12p n12p c12p]) _ (fun w hw => hw.2.2.2) HD9.out rfl Try.underlying30 rfl size_chg) ?_
 refine tk 8 ?_
 refine tr1 9 fun K hK => ?_
 refine step_store_own HO.out rfl 3 (.tmp 60) (.tmp 53) rfl 2 _ 1 _ _ ([.int .i64 (p.n 1)]) ([.int .i64 3, .int .i64 (p.n 1), zi, zi, zi, zs, zi, zi, zi, zi, zi, zl, zl, zi, zi, zi, zi, zi, zi, zi, zi, zi, zi, zi, zi, zi, zl, zl, zl, zl, zl, zl, zl, zl, zi, zi, zi, zi, zi, zi, zi, zi, zb0, zl, zi, zs, zb0]) rfl (.int .i64 (p.n 1)) rfl rfl (fits_one rfl) (Nat.le_of_ble_eq_true rfl) rfl (by kernel_rfl) rfl ?_
 intro WE hO
 replace HO := hide hO
 clear hO;clear k0 k1 k7 k8 kA;have k0 := HO.out.k0 HC0.out;have k1 := HO.out.k0 HC1.out;have k7 := HO.out.k0 HC7.out;have k8 := HO.out.k0 HC8.out;have kA := HO.out.cells 0 rfl
 refine hK.out _ _ (⟨k1, k7, k8, kA⟩) (fun hS9 => ?_)
 clear hK K
 try simp only [Act.put, qa, qb, qc, qd, qe, qf]
 refine tk 10 ?_
 refine tr1 11 fun K hK => ?_
 refine step_store_own HO.out rfl 3 (.tmp 61) (.tmp 55) rfl 2 _ 7 _ _ ([.int .i64 (p.n 7)]) ([.int .i64 3, .int .i64 (p.n 1), zi, zi, zi, zs, zi, .int .i64 (p.n 7), zi, zi, zi, zl, zl, zi, zi, zi, zi, zi, zi, zi, zi, zi, zi, zi, zi, zi, zl, zl, zl, zl, zl, zl, zl, zl, zi, zi, zi, zi, zi, zi, zi, zi, zb0, zl, zi, zs, zb0]) rfl (.int .i64 (p.n 7)) rfl rfl (fits_one rfl) (Nat.le_of_ble_eq_true rfl) rfl (by kernel_rfl) rfl ?_
 intro WE hO
 replace HO := hide hO
 clear hO;clear k0 k1 k7 k8 kA;have k0 := HO.out.k0 HC0.out;have k1 := HO.out.k0 HC1.out;have k7 := HO.out.k0 HC7.out;have k8 := HO.out.k0 HC8.out;have kA := HO.out.cells 0 rfl
 refine hK.out _ _ (⟨k1, k7, k8, kA⟩) (fun hS11 => ?_)
 clear hK K
 try simp only [Act.put, qa, qb, qc, qd, qe, qf]
 refine tk 12 ?_
 refine tr1 13 fun K hK => ?_
 refine step_store_own HO.out rfl 3 (.tmp 62) (.tmp 57) rfl 2 _ 8 _ _ ([.int .i64 (p.n 8)]) ([.int .i64 3, .int .i64 (p.n 1), zi, zi, zi, zs, zi, .int .i64 (p.n 7), .int .i64 (p.n 8), zi, zi, zl, zl, zi, zi, zi, zi, zi, zi, zi, zi, zi, zi, zi, zi, zi, zl, zl, zl, zl, zl, zl, zl, zl, zi, zi, zi, zi, zi, zi, zi, zi, zb0, zl, zi, zs, zb0]) rfl (.int .i64 (p.n 8)) rfl rfl (fits_one rfl) (Nat.le_of_ble_eq_true rfl) rfl (by kernel_rfl) rfl ?_
 intro WE hO
 replace HO := hide hO
 clear hO;clear k0 k1 k7 k8 kA;have k0 := HO.out.k0 HC0.out;have k1 := HO.out.k0 HC1.out;have k7 := HO.out.k0 HC7.out;have k8 := HO.out.k0 HC8.out;have kA := HO.out.cells 0 rfl
 refine hK.out _ _ (⟨k1, k7, k8, kA⟩) (fun hS13 => ?_)
 clear hK K
 try simp only [Act.put, qa, qb, qc, qd, qe, qf]
 refine tk 14 ?_
 refine tr1 15 fun K hK => ?_
 refine step_store_own HO.out rfl 30 (.tmp 63) (.tmp 59) rfl 2 _ 9 _ _ ([.int .i64 (p.n 9), .int .i64 (p.n 10), .slice A11p n11p c11p, .slice A12p n12p c12p]) ([.int .i64 3, .int .i64 (p.n 1), zi, zi, zi, zs, zi, .int .i64 (p.n 7), .int .i64 (p.n 8), .int .i64 (p.n 9), .int .i64 (p.n 10), .slice A11p n11p c11p, .slice A12p n12p c12p, zi, zi, zi, zi, zi, zi, zi, zi, zi, zi, zi, zi, zi, zl, zl, zl, zl, zl, zl, zl, zl, zi, zi, zi, zi, zi, zi, zi, zi, zb0, zl, zi, zs, zb0]) rfl ((.agg ([.int .i64 (p.n 9), .int .i64 (p.n 10), .slice A11p n11p c11p, .slice A12p n12p c12p] : List Value).toArray)) rfl rfl (fits_agg _) (Nat.le_of_ble_eq_true rfl) rfl size_chg rfl ?_
 intro WE hO
 replace HO := hide hO
 clear hO;clear k0 k1 k7 k8 kA;have k0 := HO.out.k0 HC0.out;have k1 := HO.out.k0 HC1.out;have k7 := HO.out.k0 HC7.out;have k8 := HO.out.k0 HC8.out;have kA := HO.out.cells 0 rfl
 refine hK.out _ _ (⟨k1, k7, k8, kA⟩) (fun hS15 => ?_)
 clear hK K
 try simp only [Act.put, qa, qb, qc, qd, qe, qf]
 refine wpAnyH_done (by kernel_rfl) ?_ _
 clear hS0
 go_wp2_with (first
  | ((with_reducible refine at_load 41 (.tmp 4) ?_); refine wpList_load_own HO.out rfl 41 (.tmp 4) rfl 2 _ 0 47 _ _ ([.int .i64 3, .int .i64 (p.n 1), zi, zi, zi, zs, zi, .int .i64 (p.n 7), .int .i64 (p.n 8), .int .i64 (p.n 9), .int .i64 (p.n 10), .slice A11p n11p c11p, .slice A12p n12p c12p, zi, zi, zi, zi, zi, zi, zi, zi, zi, zi, zi, zi, zi, zl, zl, zl, zl, zl, zl, zl, zl, zi, zi, zi, zi, zi, zi, zi, zi, zb0, zl, zi, zs, zb0]) _ rfl rfl rfl Try.underlying41 rfl (by kernel_rfl) ?_)
  | ((with_reducible refine at_store 41 (.tmp 2) ?_); refine wpList_store_own HO.out rfl 41 (.tmp 2) (.tmp 158) rfl 1 _ 0 _ _ ([.int .i64 3, .int .i64 (p.n 1), zi, zi, zi, zs, zi, .int .i64 (p.n 7), .int .i64 (p.n 8), .int .i64 (p.n 9), .int .i64 (p.n 10), .slice A11p n11p c11p, .slice A12p n12p c12p, zi, zi, zi, zi, zi, zi, zi, zi, zi, zi, zi, zi, zi, zl, zl, zl, zl, zl, zl, zl, zl, zi, zi, zi, zi, zi, zi, zi, zi, zb0, zl, zi, zs, zb0]) ([.int .i64 3, .int .i64 (p.n 1), zi, zi, zi, zs, zi, .int .i64 (p.n 7), .int .i64 (p.n 8), .int .i64 (p.n 9), .int .i64 (p.n 10), .slice A11p n11p c11p, .slice A12p n12p c12p, zi, zi, zi, zi, zi, zi, zi, zi, zi, zi, zi, zi, zi, zl, zl, zl, zl, zl, zl, zl, zl, zi, zi, zi, zi, zi, zi, zi, zi, zb0, zl, zi, zs, zb0]) rfl (.agg ([.int .i64 3, .int .i64 (p.n 1), zi, zi, zi, zs, zi, .int .i64 (p.n 7), .int .i64 (p.n 8), .int .i64 (p.n 9), .int .i64 (p.n 10), .slice A11p n11p c11p, .slice A12p n12p c12p, zi, zi, zi, zi, zi, zi, zi, zi, zi, zi, zi, zi, zi, zl, zl, zl, zl, zl, zl, zl, zl, zi, zi, zi, zi, zi, zi, zi, zi, zb0, zl, zi, zs, zb0] : List Value).toArray) rfl rfl (fits_agg _) (by rw [zmsgI_len]; exact Nat.le_refl _) (splice_all (by rw [zmsgI_len]; rfl)) (by kernel_rfl) rfl ?_; intro WF hO; replace HO := hide hO; clear hO)
  | fail)
 refine bodyPost_ret (results_row_tmp Try.results43 _ _ bR 41 _ (0, 0) _ _ rfl rfl (HO.out.blk 1 rfl) Try.underlying41 rfl (by kernel_rfl)) rfl ?_
 exact ⟨HO.out.below, rfl⟩
set_option maxHeartbeats 8000000 in
theorem used4_c (cs : List Value) (p : PM)  (w : World) (hlen : cs.length = 47) (hc0 : cs[0]? = some (.int .i64 4)) (hc1 : cs[1]? = some (.int .i64 (p.n 1))) (hc4 : cs[4]? = some (.int .i64 (p.n 4))) (hc6 : cs[6]? = some (.int .i64 (p.n 6))) (hc7 : cs[7]? = some (.int .i64 (p.n 7))) (hc8 : cs[8]? = some (.int .i64 (p.n 8)))  :
 Calls Try.prog 43 #[.agg cs.toArray] w fun e w' => Below w.heap.size w w' ∧ e = .returned (.tuple #[.agg ([.int .i64 4, .int .i64 (p.n 1), zi, zi, .int .i64 (p.n 4), zs, .int .i64 (p.n 6), .int .i64 (p.n 7), .int .i64 (p.n 8), zi, zi, zl, zl, zi, zi, zi, zi, zi, zi, zi, zi, zi, zi, zi, zi, zi, zl, zl, zl, zl, zl, zl, zl, zl, zi, zi, zi, zi, zi, zi, zi, zi, zb0, zl, zi, zs, zb0] : List Value).toArray, .bool true]) := by
 have HC1 := hide hc1;have HC4 := hide hc4;have HC6 := hide hc6;have HC7 := hide hc7;have HC8 := hide hc8;have HC0 := hide hc0
 have HO := hide (Own.nil w [] (by simp))
 clear hc1 hc4 hc6 hc7 hc8 hc0
 go_enter Try.func43, Try.ntmps43
 try simp only [List.append_eq, List.cons_append, List.nil_append]
 go_wp2_with (((with_reducible refine at_box 41 (.tmp 0) ?_); refine wpList_box_own HO.out rfl 41 (.tmp 0) rfl cs rfl ?_; intro WA b1 hO; replace HO := hide hO; clear hO; refine Hid.out ?_))
 refine hide ?_
 go_wp2_with ((with_reducible refine at_alloc 41 ?_); refine wpList_alloc_own HO.out rfl 41 rfl zmsgI zmsgI_info ?_; intro WB bR hO; replace HO := hide hO; clear hO; have k0 := HO.out.k0 HC0.out; have k1 := HO.out.k0 HC1.out; have k4 := HO.out.k0 HC4.out; have k6 := HO.out.k0 HC6.out; have k7 := HO.out.k0 HC7.out; have k8 := HO.out.k0 HC8.out; refine Hid.out ?_)
 refine hide ?_
 go_wp2_with (first
  | ((with_reducible refine at_build 41 ?_); refine wpList_build rfl 41 _ rfl ([(0, .int .i64 4)]) (by first | (simp [Act.eval]; done) | (simp [Act.eval]; rfl)) ([.int .i64 4, zi, zi, zi, zi, zs, zi, zi, zi, zi, zi, zl, zl, zi, zi, zi, zi, zi, zi, zi, zi, zi, zi, zi, zi, zi, zl, zl, zl, zl, zl, zl, zl, zl, zi, zi, zi, zi, zi, zi, zi, zi, zb0, zl, zi, zs, zb0] : List Value).toArray (by kernel_rfl) ?_)
  | ((with_reducible refine at_alloc 41 ?_); refine wpList_alloc_own HO.out rfl 41 rfl zmsgI zmsgI_info ?_; intro WC bx hO; replace HO := hide hO; clear hO)
  | ((with_reducible refine at_store 41 (.tmp 4) ?_); refine wpList_store_own HO.out rfl 41 (.tmp 4) (.tmp 7) rfl 2 _ 0 _ _ ([.int .i64 4, zi, zi, zi, zi, zs, zi, zi, zi, zi, zi, zl, zl, zi, zi, zi, zi, zi, zi, zi, zi, zi, zi, zi, zi, zi, zl, zl, zl, zl, zl, zl, zl, zl, zi, zi, zi, zi, zi, zi, zi, zi, zb0, zl, zi, zs, zb0]) ([.int .i64 4, zi, zi, zi, zi, zs, zi, zi, zi, zi, zi, zl, zl, zi, zi, zi, zi, zi, zi, zi, zi, zi, zi, zi, zi, zi, zl, zl, zl, zl, zl, zl, zl, zl, zi, zi, zi, zi, zi, zi, zi, zi, zb0, zl, zi, zs, zb0]) rfl (.agg ([.int .i64 4, zi, zi, zi, zi, zs, zi, zi, zi, zi, zi, zl, zl, zi, zi, zi, zi, zi, zi, zi, zi, zi, zi, zi, zi, zi, zl, zl, zl, zl, zl, zl, zl, zl, zi, zi, zi, zi, zi, zi, zi, zi, zb0, zl, zi, zs, zb0] : List Value).toArray) rfl rfl (fits_agg _) (by rw [zmsgI_len]; exact Nat.le_refl _) (splice_all (by rw [zmsgI_len]; rfl)) (by kernel_rfl) rfl ?_; intro WD hO; replace HO := hide hO; clear hO; clear k0 k1 k4 k6 k7 k8; have k0 := HO.out.k0 HC0.out; have k1 := HO.out.k0 HC1.out; have k4 := HO.out.k0 HC4.out; have k6 := HO.out.k0 HC6.out; have k7 := HO.out.k0 HC7.out; have k8 := HO.out.k0 HC8.out)
  | fail)
 refine wp_region_held_drew (S := fun W => W.cell? ⟨b1, 1, none⟩ = some (.int .i64 (p.n 1)) ∧ W.cell? ⟨b1, 4, none⟩ = some (.int .i64 (p.n 4)) ∧ W.cell? ⟨b1, 6, none⟩ = some (.int .i64 (p.n 6)) ∧ W.cell? ⟨b1, 7, none⟩ = some (.int .i64 (p.n 7)) ∧ W.cell? ⟨b1, 8, none⟩ = some (.int .i64 (p.n 8))) (by kernel_rfl) (⟨k1, k4, k6, k7, k8⟩) (fun hS0 => ?_)
 replace HO := hide HO.out.drew
 refine tk 0 ?_;refine tk 1 ?_;refine tk 2 ?_;refine tk 3 ?_;refine tk 4 ?_;refine tk 5 ?_;refine tk 6 ?_;refine tk 7 ?_;refine tk 8 ?_;refine tk 9 ?_;refine tk 10 ?_
 refine tr1 11 fun K hK => ?_
 refine step_store_own HO.out rfl 3 (.tmp 76) (.tmp 67) rfl 2 _ 1 _ _ ([.int .i64 (p.n 1)]) ([.int .i64 4, .int .i64 (p.n 1), zi, zi, zi, zs, zi, zi, zi, zi, zi, zl, zl, zi, zi, zi, zi, zi, zi, zi, zi, zi, zi, zi, zi, zi, zl, zl, zl, zl, zl, zl, zl, zl, zi, zi, zi, zi, zi, zi, zi, zi, zb0, zl, zi, zs, zb0]) rfl (.int .i64 (p.n 1)) rfl rfl (fits_one rfl) (Nat.le_of_ble_eq_true rfl) rfl (by kernel_rfl) rfl ?_
 intro WE hO
 replace HO := hide hO
 clear hO;clear k0 k1 k4 k6 k7 k8;have k0 := HO.out.k0 HC0.out;have k1 := HO.out.k0 HC1.out;have k4 := HO.out.k0 HC4.out;have k6 := HO.out.k0 HC6.out;have k7 := HO.out.k0 HC7.out;have k8 := HO.out.k0 HC8.out
 refine hK.out _ _ (⟨k1, k4, k6, k7, k8⟩) (fun hS11 => ?_)
 clear hK K
 try simp only [Act.put, qa, qb, qc, qd, qe, qf]
 refine tk 12 ?_
 refine tr1 13 fun K hK => ?_
 refine step_store_own HO.out rfl 3 (.tmp 77) (.tmp 69) rfl 2 _ 7 _ _ ([.int .i64 (p.n 7)]) ([.int .i64 4, .int .i64 (p.n 1), zi, zi, zi, zs, zi, .int .i64 (p.n 7), zi, zi, zi, zl, zl, zi, zi, zi, zi, zi, zi, zi, zi, zi, zi, zi, zi, zi, zl, zl, zl, zl, zl, zl, zl, zl, zi, zi, zi, zi, zi, zi, zi, zi, zb0, zl, zi, zs, zb0]) rfl (.int .i64 (p.n 7)) rfl rfl (fits_one rfl) (Nat.le_of_ble_eq_true rfl) rfl (by kernel_rfl) rfl ?_
 intro WE hO
 replace HO := hide hO
 clear hO;clear k0 k1 k4 k6 k7 k8;have k0 := HO.out.k0 HC0.out;have k1 := HO.out.k0 HC1.out;have k4 := HO.out.k0 HC4.out;have k6 := HO.out.k0 HC6.out;have k7 := HO.out.k0 HC7.out;have k8 := HO.out.k0 HC8.out
 refine hK.out _ _ (⟨k1, k4, k6, k7, k8⟩) (fun hS13 => ?_)
 clear hK K
 try simp only [Act.put, qa, qb, qc, qd, qe, qf]
 refine tk 14 ?_
 refine tr1 15 fun K hK => ?_
 refine step_store_own HO.out rfl 3 (.tmp 78) (.tmp 71) rfl 2 _ 8 _ _ ([.int .i64 (p.n 8)]) ([.int .i64 4, .int .i64 (p.n 1), zi, zi, zi, zs, zi, .int .i64 (p.n 7), .int .i64 (p.n 8), zi, zi, zl, zl, zi, zi, zi, zi, zi, zi, zi, zi, zi, zi, zi, zi, zi, zl, zl, zl, zl, zl, zl, zl, zl, zi, zi, zi, zi, zi, zi, zi, zi, zb0, zl, zi, zs, zb0]) rfl (.int .i64 (p.n 8)) rfl rfl (fits_one rfl) (Nat.le_of_ble_eq_true rfl) rfl (by kernel_rfl) rfl ?_
 intro WE hO
 replace HO := hide hO
 clear hO;clear k0 k1 k4 k6 k7 k8;have k0 := HO.out.k0 HC0.out;have k1 := HO.out.k0 HC1.out;have k4 := HO.out.k0 HC4.out;have k6 := HO.out.k0 HC6.out;have k7 := HO.out.k0 HC7.out;have k8 := HO.out.k0 HC8.out
 refine hK.out _ _ (⟨k1, k4, k6, k7, k8⟩) (fun hS15 => ?_)
 clear hK K
 try simp only [Act.put, qa, qb, qc, qd, qe, qf]
 refine tk 16 ?_
 refine tr1 17 fun K hK => ?_
 refine step_store_own HO.out rfl 27 (.tmp 79) (.tmp 73) rfl 2 _ 4 _ _ ([.int .i64 (p.n 4)]) ([.int .i64 4, .int .i64 (p.n 1), zi, zi, .int .i64 (p.n 4), zs, zi, .int .i64 (p.n 7), .int .i64 (p.n 8), zi, zi, zl, zl, zi, zi, zi, zi, zi, zi, zi, zi, zi, zi, zi, zi, zi, zl, zl, zl, zl, zl, zl, zl, zl, zi, zi, zi, zi, zi, zi, zi, zi, zb0, zl, zi, zs, zb0]) rfl (.int .i64 (p.n 4)) rfl rfl (fits_one rfl) (Nat.le_of_ble_eq_true rfl) rfl (by kernel_rfl) rfl ?_
 intro WE hO
 replace HO := hide hO
 clear hO;clear k0 k1 k4 k6 k7 k8;have k0 := HO.out.k0 HC0.out;have k1 := HO.out.k0 HC1.out;have k4 := HO.out.k0 HC4.out;have k6 := HO.out.k0 HC6.out;have k7 := HO.out.k0 HC7.out;have k8 := HO.out.k0 HC8.out
 refine hK.out _ _ (⟨k1, k4, k6, k7, k8⟩) (fun hS17 => ?_)
 clear hK K
 try simp only [Act.put, qa, qb, qc, qd, qe, qf]
 refine tk 18 ?_
 refine tr1 19 fun K hK => ?_
 refine step_store_own HO.out rfl 3 (.tmp 80) (.tmp 75) rfl 2 _ 6 _ _ ([.int .i64 (p.n 6)]) ([.int .i64 4, .int .i64 (p.n 1), zi, zi, .int .i64 (p.n 4), zs, .int .i64 (p.n 6), .int .i64 (p.n 7), .int .i64 (p.n 8), zi, zi, zl, zl, zi, zi, zi, zi, zi, zi, zi, zi, zi, zi, zi, zi, zi, zl, zl, zl, zl, zl, zl, zl, zl, zi, zi, zi, zi, zi, zi, zi, zi, zb0, zl, zi, zs, zb0]) rfl (.int .i64 (p.n 6)) rfl rfl (fits_one rfl) (Nat.le_of_ble_eq_true rfl) rfl (by kernel_rfl) rfl ?_
 intro WE hO
 replace HO := hide hO
 clear hO;clear k0 k1 k4 k6 k7 k8;have k0 := HO.out.k0 HC0.out;have k1 := HO.out.k0 HC1.out;have k4 := HO.out.k0 HC4.out;have k6 := HO.out.k0 HC6.out;have k7 := HO.out.k0 HC7.out;have k8 := HO.out.k0 HC8.out
 refine hK.out _ _ (⟨k1, k4, k6, k7, k8⟩) (fun hS19 => ?_)
 clear hK K
 try simp only [Act.put, qa, qb, qc, qd, qe, qf]
 refine wpAnyH_done (by kernel_rfl) ?_ _
 clear hS0
 go_wp2_with (first
  | ((with_reducible refine at_load 41 (.tmp 4) ?_); refine wpList_load_own HO.out rfl 41 (.tmp 4) rfl 2 _ 0 47 _ _ ([.int .i64 4, .int .i64 (p.n 1), zi, zi, .int .i64 (p.n 4), zs, .int .i64 (p.n 6), .int .i64 (p.n 7), .int .i64 (p.n 8), zi, zi, zl, zl, zi, zi, zi, zi, zi, zi, zi, zi, zi, zi, zi, zi, zi, zl, zl, zl, zl, zl, zl, zl, zl, zi, zi, zi, zi, zi, zi, zi, zi, zb0, zl, zi, zs, zb0]) _ rfl rfl rfl Try.underlying41 rfl (by kernel_rfl) ?_)
  | ((with_reducible refine at_store 41 (.tmp 2) ?_); refine wpList_store_own HO.out rfl 41 (.tmp 2) (.tmp 158) rfl 1 _ 0 _ _ ([.int .i64 4, .int .i64 (p.n 1), zi, zi, .int .i64 (p.n 4), zs, .int .i64 (p.n 6), .int .i64 (p.n 7), .int .i64 (p.n 8), zi, zi, zl, zl, zi, zi, zi, zi, zi, zi, zi, zi, zi, zi, zi, zi, zi, zl, zl, zl, zl, zl, zl, zl, zl, zi, zi, zi, zi, zi, zi, zi, zi, zb0, zl, zi, zs, zb0]) ([.int .i64 4, .int .i64 (p.n 1), zi, zi, .int .i64 (p.n 4), zs, .int .i64 (p.n 6), .int .i64 (p.n 7), .int .i64 (p.n 8), zi, zi, zl, zl, zi, zi, zi, zi, zi, zi, zi, zi, zi, zi, zi, zi, zi, zl, zl, zl, zl, zl, zl, zl, zl, zi, zi, zi, zi, zi, zi, zi, zi, zb0, zl, zi, zs, zb0]) rfl (.agg ([.int .i64 4, .int .i64 (p.n 1), zi, zi, .int .i64 (p.n 4), zs, .int .i64 (p.n 6), .int .i64 (p.n 7), .int .i64 (p.n 8), zi, zi, zl, zl, zi, zi, zi, zi, zi, zi, zi, zi, zi, zi, zi, zi, zi, zl, zl, zl, zl, zl, zl, zl, zl, zi, zi, zi, zi, zi, zi, zi, zi, zb0, zl, zi, zs, zb0] : List Value).toArray) rfl rfl (fits_agg _) (by rw [zmsgI_len]; exact Nat.le_refl _) (splice_all (by rw [zmsgI_len]; rfl)) (by kernel_rfl) rfl ?_; intro WF hO; replace HO := hide hO; clear hO)
  | fail)
 refine bodyPost_ret (results_row_tmp Try.results43 _ _ bR 41 _ (0, 0) _ _ rfl rfl (HO.out.blk 1 rfl) Try.underlying41 rfl (by kernel_rfl)) rfl ?_
 exact ⟨HO.out.below, rfl⟩
set_option maxHeartbeats 8000000 in
theorem used5_c (cs : List Value) (p : PM)  (w : World) (hlen : cs.length = 47) (hc0 : cs[0]? = some (.int .i64 5)) (hc7 : cs[7]? = some (.int .i64 (p.n 7))) (hc8 : cs[8]? = some (.int .i64 (p.n 8))) (hd13 : (cs.drop 13).take 4 = [.int .i64 (p.n 13), .int .i64 (p.n 14), .int .i64 (p.n 15), .int .i64 (p.n 16)]) :
 Calls Try.prog 43 #[.agg cs.toArray] w fun e w' => Below w.heap.size w w' ∧ e = .returned (.tuple #[.agg ([.int .i64 5, zi, zi, zi, zi, zs, zi, .int .i64 (p.n 7), .int .i64 (p.n 8), zi, zi, zl, zl, .int .i64 (p.n 13), .int .i64 (p.n 14), .int .i64 (p.n 15), .int .i64 (p.n 16), zi, zi, zi, zi, zi, zi, zi, zi, zi, zl, zl, zl, zl, zl, zl, zl, zl, zi, zi, zi, zi, zi, zi, zi, zi, zb0, zl, zi, zs, zb0] : List Value).toArray, .bool true]) := by
 have HC7 := hide hc7;have HC8 := hide hc8;have HC0 := hide hc0;have HD13 := hide hd13
 have HO := hide (Own.nil w [] (by simp))
 clear hc7 hc8 hc0 hd13
 go_enter Try.func43, Try.ntmps43
 try simp only [List.append_eq, List.cons_append, List.nil_append]
 go_wp2_with (((with_reducible refine at_box 41 (.tmp 0) ?_); refine wpList_box_own HO.out rfl 41 (.tmp 0) rfl cs rfl ?_; intro WA b1 hO; replace HO := hide hO; clear hO; refine Hid.out ?_))
 refine hide ?_
 go_wp2_with ((with_reducible refine at_alloc 41 ?_); refine wpList_alloc_own HO.out rfl 41 rfl zmsgI zmsgI_info ?_; intro WB bR hO; replace HO := hide hO; clear hO; have k0 := HO.out.k0 HC0.out; have k7 := HO.out.k0 HC7.out; have k8 := HO.out.k0 HC8.out; have kA := HO.out.cells 0 rfl; refine Hid.out ?_)
 refine hide ?_
 go_wp2_with (first
  | ((with_reducible refine at_build 41 ?_); refine wpList_build rfl 41 _ rfl ([(0, .int .i64 5)]) (by first | (simp [Act.eval]; done) | (simp [Act.eval]; rfl)) ([.int .i64 5, zi, zi, zi, zi, zs, zi, zi, zi, zi, zi, zl, zl, zi, zi, zi, zi, zi, zi, zi, zi, zi, zi, zi, zi, zi, zl, zl, zl, zl, zl, zl, zl, zl, zi, zi, zi, zi, zi, zi, zi, zi, zb0, zl, zi, zs, zb0] : List Value).toArray (by kernel_rfl) ?_)
  | ((with_reducible refine at_alloc 41 ?_); refine wpList_alloc_own HO.out rfl 41 rfl zmsgI zmsgI_info ?_; intro WC bx hO; replace HO := hide hO; clear hO)
  | ((with_reducible refine at_store 41 (.tmp 4) ?_); refine wpList_store_own HO.out rfl 41 (.tmp 4) (.tmp 7) rfl 2 _ 0 _ _ ([.int .i64 5, zi, zi, zi, zi, zs, zi, zi, zi, zi, zi, zl, zl, zi, zi, zi, zi, zi, zi, zi, zi, zi, zi, zi, zi, zi, zl, zl, zl, zl, zl, zl, zl, zl, zi, zi, zi, zi, zi, zi, zi, zi, zb0, zl, zi, zs, zb0]) ([.int .i64 5, zi, zi, zi, zi, zs, zi, zi, zi, zi, zi, zl, zl, zi, zi, zi, zi, zi, zi, zi, zi, zi, zi, zi, zi, zi, zl, zl, zl, zl, zl, zl, zl, zl, zi, zi, zi, zi, zi, zi, zi, zi, zb0, zl, zi, zs, zb0]) rfl (.agg ([.int .i64 5, zi, zi, zi, zi, zs, zi, zi, zi, zi, zi, zl, zl, zi, zi, zi, zi, zi, zi, zi, zi, zi, zi, zi, zi, zi, zl, zl, zl, zl, zl, zl, zl, zl, zi, zi, zi, zi, zi, zi, zi, zi, zb0, zl, zi, zs, zb0] : List Value).toArray) rfl rfl (fits_agg _) (by rw [zmsgI_len]; exact Nat.le_refl _) (splice_all (by rw [zmsgI_len]; rfl)) (by kernel_rfl) rfl ?_; intro WD hO; replace HO := hide hO; clear hO; clear k0 k7 k8 kA; have k0 := HO.out.k0 HC0.out; have k7 := HO.out.k0 HC7.out; have k8 := HO.out.k0 HC8.out; have kA := HO.out.cells 0 rfl)
  | fail)
 refine wp_region_held_drew (S := fun W => W.cell? ⟨b1, 7, none⟩ = some (.int .i64 (p.n 7)) ∧ W.cell? ⟨b1, 8, none⟩ = some (.int .i64 (p.n 8)) ∧ (∀ j, W.cell? ⟨b1, j, none⟩ = cs[j]?)) (by kernel_rfl) (⟨k7, k8, kA⟩) (fun hS0 => ?_)
 replace HO := hide HO.out.drew
 refine tk 0 ?_;refine tk 1 ?_;refine tk 2 ?_;refine tk 3 ?_;refine tk 4 ?_
 refine ty 5 (.agg ([.int .i64 (p.n 13), .int .i64 (p.n 14), .int .i64 (p.n 15), .int .i64 (p.n 16)] : List Value).toArray) rfl (yieldsIf_load rfl 32 (.tmp 87) rfl b1 13 4 41 cs ([.int .i64 (p.n 13), .int .i64 (p.n 14), .int .i64 (p.n 15), .int .i64 (p.n 16)]) _ (fun w hw => hw.2.2) HD13.out rfl Try.underlying32 rfl size_unit) ?_
 refine tk 6 ?_
 refine tr1 7 fun K hK => ?_
 refine step_store_own HO.out rfl 3 (.tmp 89) (.tmp 84) rfl 2 _ 7 _ _ ([.int .i64 (p.n 7)]) ([.int .i64 5, zi, zi, zi, zi, zs, zi, .int .i64 (p.n 7), zi, zi, zi, zl, zl, zi, zi, zi, zi, zi, zi, zi, zi, zi, zi, zi, zi, zi, zl, zl, zl, zl, zl, zl, zl, zl, zi, zi, zi, zi, zi, zi, zi, zi, zb0, zl, zi, zs, zb0]) rfl (.int .i64 (p.n 7)) rfl rfl (fits_one rfl) (Nat.le_of_ble_eq_true rfl) rfl (by kernel_rfl) rfl ?_
 intro WE hO
 replace HO := hide hO
 clear hO;clear k0 k7 k8 kA;have k0 := HO.out.k0 HC0.out;have k7 := HO.out.k0 HC7.out;have k8 := HO.out.k0 HC8.out;have kA := HO.out.cells 0 rfl
 refine hK.out _ _ (⟨k7, k8, kA⟩) (fun hS7 => ?_)
 clear hK K
 try simp only [Act.put, qa, qb, qc, qd, qe, qf]
 refine tk 8 ?_
 refine tr1 9 fun K hK => ?_
 refine step_store_own HO.out rfl 3 (.tmp 90) (.tmp 86) rfl 2 _ 8 _ _ ([.int .i64 (p.n 8)]) ([.int .i64 5, zi, zi, zi, zi, zs, zi, .int .i64 (p.n 7), .int .i64 (p.n 8), zi, zi, zl, zl, zi, zi, zi, zi, zi, zi, zi, zi, zi, zi, zi, zi, zi, zl, zl, zl, zl, zl, zl, zl, zl, zi, zi, zi, zi, zi, zi, zi, zi, zb0, zl, zi, zs, zb0]) rfl (.int .i64 (p.n 8)) rfl rfl (fits_one rfl) (Nat.le_of_ble_eq_true rfl) rfl (by kernel_rfl) rfl ?_
 intro WE hO
 replace HO := hide hO
 clear hO;clear k0 k7 k8 kA;have k0 := HO.out.k0 HC0.out;have k7 := HO.out.k0 HC7.out;have k8 := HO.out.k0 HC8.out;have kA := HO.out.cells 0 rfl
 refine hK.out _ _ (⟨k7, k8, kA⟩) (fun hS9 => ?_)
 clear hK K
 try simp only [Act.put, qa, qb, qc, qd, qe, qf]
 refine tk 10 ?_
 refine tr1 11 fun K hK => ?_
 refine step_store_own HO.out rfl 32 (.tmp 91) (.tmp 88) rfl 2 _ 13 _ _ ([.int .i64 (p.n 13), .int .i64 (p.n 14), .int .i64 (p.n 15), .int .i64 (p.n 16)]) ([.int .i64 5, zi, zi, zi, zi, zs, zi, .int .i64 (p.n 7), .int .i64 (p.n 8), zi, zi, zl, zl, .int .i64 (p.n 13), .int .i64 (p.n 14), .int .i64 (p.n 15), .int .i64 (p.n 16), zi, zi, zi, zi, zi, zi, zi, zi, zi, zl, zl, zl, zl, zl, zl, zl, zl, zi, zi, zi, zi, zi, zi, zi, zi, zb0, zl, zi, zs, zb0]) rfl ((.agg ([.int .i64 (p.n 13), .int .i64 (p.n 14), .int .i64 (p.n 15), .int .i64 (p.n 16)] : List Value).toArray)) rfl rfl (fits_agg _) (Nat.le_of_ble_eq_true rfl) rfl size_unit rfl ?_
 intro WE hO
 replace HO := hide hO
 clear hO;clear k0 k7 k8 kA;have k0 := HO.out.k0 HC0.out;have k7 := HO.out.k0 HC7.out;have k8 := HO.out.k0 HC8.out;have kA := HO.out.cells 0 rfl
 refine hK.out _ _ (⟨k7, k8, kA⟩) (fun hS11 => ?_)
 clear hK K
 try simp only [Act.put, qa, qb, qc, qd, qe, qf]
 refine wpAnyH_done (by kernel_rfl) ?_ _
 clear hS0
 go_wp2_with (first
  | ((with_reducible refine at_load 41 (.tmp 4) ?_); refine wpList_load_own HO.out rfl 41 (.tmp 4) rfl 2 _ 0 47 _ _ ([.int .i64 5, zi, zi, zi, zi, zs, zi, .int .i64 (p.n 7), .int .i64 (p.n 8), zi, zi, zl, zl, .int .i64 (p.n 13), .int .i64 (p.n 14), .int .i64 (p.n 15), .int .i64 (p.n 16), zi, zi, zi, zi, zi, zi, zi, zi, zi, zl, zl, zl, zl, zl, zl, zl, zl, zi, zi, zi, zi, zi, zi, zi, zi, zb0, zl, zi, zs, zb0]) _ rfl rfl rfl Try.underlying41 rfl (by kernel_rfl) ?_)
  | ((with_reducible refine at_store 41 (.tmp 2) ?_); refine wpList_store_own HO.out rfl 41 (.tmp 2) (.tmp 158) rfl 1 _ 0 _ _ ([.int .i64 5, zi, zi, zi, zi, zs, zi, .int .i64 (p.n 7), .int .i64 (p.n 8), zi, zi, zl, zl, .int .i64 (p.n 13), .int .i64 (p.n 14), .int .i64 (p.n 15), .int .i64 (p.n 16), zi, zi, zi, zi, zi, zi, zi, zi, zi, zl, zl, zl, zl, zl, zl, zl, zl, zi, zi, zi, zi, zi, zi, zi, zi, zb0, zl, zi, zs, zb0]) ([.int .i64 5, zi, zi, zi, zi, zs, zi, .int .i64 (p.n 7), .int .i64 (p.n 8), zi, zi, zl, zl, .int .i64 (p.n 13), .int .i64 (p.n 14), .int .i64 (p.n 15), .int .i64 (p.n 16), zi, zi, zi, zi, zi, zi, zi, zi, zi, zl, zl, zl, zl, zl, zl, zl, zl, zi, zi, zi, zi, zi, zi, zi, zi, zb0, zl, zi, zs, zb0]) rfl (.agg ([.int .i64 5, zi, zi, zi, zi, zs, zi, .int .i64 (p.n 7), .int .i64 (p.n 8), zi, zi, zl, zl, .int .i64 (p.n 13), .int .i64 (p.n 14), .int .i64 (p.n 15), .int .i64 (p.n 16), zi, zi, zi, zi, zi, zi, zi, zi, zi, zl, zl, zl, zl, zl, zl, zl, zl, zi, zi, zi, zi, zi, zi, zi, zi, zb0, zl, zi, zs, zb0] : List Value).toArray) rfl rfl (fits_agg _) (by rw [zmsgI_len]; exact Nat.le_refl _) (splice_all (by rw [zmsgI_len]; rfl)) (by kernel_rfl) rfl ?_; intro WF hO; replace HO := hide hO; clear hO)
  | fail)
 refine bodyPost_ret (results_row_tmp Try.results43 _ _ bR 41 _ (0, 0) _ _ rfl rfl (HO.out.blk 1 rfl) Try.underlying41 rfl (by kernel_rfl)) rfl ?_
 exact ⟨HO.out.below, rfl⟩
end Go.Proofs.Ytpbgelhjbfckcaa
