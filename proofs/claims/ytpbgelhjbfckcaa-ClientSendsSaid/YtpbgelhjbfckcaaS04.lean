/- The reference: Request, Call. -/
import Derived.Test.YtpbgelhjbfckcaaS03
namespace Go.Proofs.Ytpbgelhjbfckcaa
open Go.ChangeShapes Go.WideShapes Go.ChangeAt Go.RowKit
set_option linter.unusedVariables false
set_option linter.unusedSimpArgs false

theorem req_ones (k g c n : Int) (b : ByteArray) (v : Int) : (req k g c n b v).all (·.oneCell') = true := by have := req_one k g c n b v; simpa using this

set_option maxRecDepth 100000 in
set_option maxHeartbeats 2000000 in
theorem rrequest_c (i m T n : Int) (o : Bool) (cs : List Value) (gr : Int) (b : ByteArray) (hb : b.size ≤ maxLen) (h0 : 0 ≤ n) (h1 : n < 1000000) (hcs : cs.length = 47) (h1c : cs.all (·.oneCell') = true) (w : World) :
    Calls Try.prog 33 #[.agg (rcl i m T n o cs).toArray, .int .i64 gr, .string b] w (Hands w (if o = true then (.tuple #[.agg (rcl i m T n o cs).toArray, .agg zout.toArray, .int .i64 9]) else if gr < 0 ∨ 8 < gr then (.tuple #[.agg (rcl i m T n o cs).toArray, .agg zout.toArray, .int .i64 1]) else if 4096 < b.size then (.tuple #[.agg (rcl i m T n o cs).toArray, .agg zout.toArray, .int .i64 8]) else (.tuple #[.agg (rcl i m T (n + 1) true (req 1 gr i (n + 1) b 0)).toArray, .agg (.int .i64 T :: req 1 gr i (n + 1) b 0).toArray, .int .i64 0]))) := by
  have HO := hide (Own.nil w [] (by simp))
  unfold maxLen at hb
  cases o with
  | true =>
    rw [if_pos rfl]
    clear h0 h1 hb
    go_enter Try.func33, Try.ntmps33
    go_wp2_with (first
      | (refine wpList_box_own HO.out rfl 46 (.tmp 0) rfl (rcl i m T n true cs) rfl ?_; intro WA b0 hO; replace HO := hide hO; clear hO)
      | (refine wpList_alloc_own HO.out rfl 46 rfl (zrc) zrc_info ?_; intro WA b1 hO; replace HO := hide hO; clear hO)
      | (refine wpList_alloc_own HO.out rfl 59 rfl zout zout_info ?_; intro WA b2 hO; replace HO := hide hO; have k0 := hO.cells 0 rfl; clear hO)
      | (refine wpList_load_own HO.out rfl 46 (.tmp 3) rfl 0 _ 0 52 _ _ (rcl i m T n true cs) _ rfl (take_all (rcl_len hcs)) rfl Try.underlying46 rfl (rc_size (rcl_len hcs)) ?_)
      | (refine wpList_build rfl 59 #[] rfl [] (by simp) zout.toArray zout_built ?_)
      | (refine wpList_store_own HO.out rfl 46 (.tmp 6) _ rfl 1 _ 0 _ _ (rcl i m T n true cs) (rcl i m T n true cs) rfl (.agg (rcl i m T n true cs).toArray) rfl rfl (fits_agg _) (by rw [rcl_len hcs, zrc_len]; exact Nat.le_refl _) (splice_all (by rw [rcl_len hcs, zrc_len])) (rc_size (rcl_len hcs)) (rcl_ones h1c) ?_; intro WA hO; replace HO := hide hO; clear hO)
      | (refine wpList_store_own HO.out rfl 59 (.tmp 7) _ rfl 2 _ 0 _ _ (zout) (zout) rfl (.agg (zout).toArray) rfl rfl (fits_agg _) (by rw [zout_len]; exact Nat.le_refl _) (splice_all rfl) (out_size zout_len) zout_ones ?_; intro WA hO; replace HO := hide hO; clear hO))
    refine bodyPost_ret (results_row_row_tmp rfl _ HO.out 1 2 _ _ _ _ _ _ _ _ _ rfl rfl rfl rfl rfl Try.underlying46 rfl (rc_size (rcl_len hcs)) Try.underlying59 rfl (out_size zout_len)) rfl ?_
    exact ⟨rfl, HO.out.below⟩
  | false =>
    rw [if_neg (by simp)]
    by_cases g1 : gr < 0
    · rw [if_pos (.inl g1)]
      clear h0 h1 hb
      go_enter Try.func33, Try.ntmps33
      go_wp2_with (first
        | (refine wpList_box_own HO.out rfl 46 (.tmp 0) rfl (rcl i m T n false cs) rfl ?_; intro WA b0 hO; replace HO := hide hO; clear hO)
        | (refine wpList_alloc_own HO.out rfl 46 rfl (zrc) zrc_info ?_; intro WA b1 hO; replace HO := hide hO; clear hO)
        | (refine wpList_alloc_own HO.out rfl 59 rfl zout zout_info ?_; intro WA b2 hO; replace HO := hide hO; have k0 := hO.cells 0 rfl; clear hO)
        | (refine wpList_load_own HO.out rfl 46 (.tmp 3) rfl 0 _ 0 52 _ _ (rcl i m T n false cs) _ rfl (take_all (rcl_len hcs)) rfl Try.underlying46 rfl (rc_size (rcl_len hcs)) ?_)
        | (refine wpList_build rfl 59 #[] rfl [] (by simp) zout.toArray zout_built ?_)
        | (refine wpList_store_own HO.out rfl 46 (.tmp 6) _ rfl 1 _ 0 _ _ (rcl i m T n false cs) (rcl i m T n false cs) rfl (.agg (rcl i m T n false cs).toArray) rfl rfl (fits_agg _) (by rw [rcl_len hcs, zrc_len]; exact Nat.le_refl _) (splice_all (by rw [rcl_len hcs, zrc_len])) (rc_size (rcl_len hcs)) (rcl_ones h1c) ?_; intro WA hO; replace HO := hide hO; clear hO)
        | (refine wpList_store_own HO.out rfl 59 (.tmp 7) _ rfl 2 _ 0 _ _ (zout) (zout) rfl (.agg (zout).toArray) rfl rfl (fits_agg _) (by rw [zout_len]; exact Nat.le_refl _) (splice_all rfl) (out_size zout_len) zout_ones ?_; intro WA hO; replace HO := hide hO; clear hO))
      refine bodyPost_ret (results_row_row_tmp rfl _ HO.out 1 2 _ _ _ _ _ _ _ _ _ rfl rfl rfl rfl rfl Try.underlying46 rfl (rc_size (rcl_len hcs)) Try.underlying59 rfl (out_size zout_len)) rfl ?_
      exact ⟨rfl, HO.out.below⟩
    have g1' : 0 ≤ gr := by omega
    by_cases g2 : 8 < gr
    · rw [if_pos (.inr g2)]
      clear h0 h1 hb g1
      go_enter Try.func33, Try.ntmps33
      go_wp2_with (first
        | (refine wpList_box_own HO.out rfl 46 (.tmp 0) rfl (rcl i m T n false cs) rfl ?_; intro WA b0 hO; replace HO := hide hO; clear hO)
        | (refine wpList_alloc_own HO.out rfl 46 rfl (zrc) zrc_info ?_; intro WA b1 hO; replace HO := hide hO; clear hO)
        | (refine wpList_alloc_own HO.out rfl 59 rfl zout zout_info ?_; intro WA b2 hO; replace HO := hide hO; have k0 := hO.cells 0 rfl; clear hO)
        | (refine wpList_load_own HO.out rfl 46 (.tmp 3) rfl 0 _ 0 52 _ _ (rcl i m T n false cs) _ rfl (take_all (rcl_len hcs)) rfl Try.underlying46 rfl (rc_size (rcl_len hcs)) ?_)
        | (refine wpList_build rfl 59 #[] rfl [] (by simp) zout.toArray zout_built ?_)
        | (refine wpList_store_own HO.out rfl 46 (.tmp 6) _ rfl 1 _ 0 _ _ (rcl i m T n false cs) (rcl i m T n false cs) rfl (.agg (rcl i m T n false cs).toArray) rfl rfl (fits_agg _) (by rw [rcl_len hcs, zrc_len]; exact Nat.le_refl _) (splice_all (by rw [rcl_len hcs, zrc_len])) (rc_size (rcl_len hcs)) (rcl_ones h1c) ?_; intro WA hO; replace HO := hide hO; clear hO)
        | (refine wpList_store_own HO.out rfl 59 (.tmp 7) _ rfl 2 _ 0 _ _ (zout) (zout) rfl (.agg (zout).toArray) rfl rfl (fits_agg _) (by rw [zout_len]; exact Nat.le_refl _) (splice_all rfl) (out_size zout_len) zout_ones ?_; intro WA hO; replace HO := hide hO; clear hO))
      refine bodyPost_ret (results_row_row_tmp rfl _ HO.out 1 2 _ _ _ _ _ _ _ _ _ rfl rfl rfl rfl rfl Try.underlying46 rfl (rc_size (rcl_len hcs)) Try.underlying59 rfl (out_size zout_len)) rfl ?_
      exact ⟨rfl, HO.out.below⟩
    have g2' : gr ≤ 8 := by omega
    rw [if_neg (by omega)]
    by_cases g3 : 4096 < b.size
    · rw [if_pos g3]
      have g3' : 4096 < (b.size : Int) := by omega
      clear h0 h1 g1 g2 g3
      go_enter Try.func33, Try.ntmps33
      go_wp2_with (first
        | (refine wpList_box_own HO.out rfl 46 (.tmp 0) rfl (rcl i m T n false cs) rfl ?_; intro WA b0 hO; replace HO := hide hO; clear hO)
        | (refine wpList_alloc_own HO.out rfl 46 rfl (zrc) zrc_info ?_; intro WA b1 hO; replace HO := hide hO; clear hO)
        | (refine wpList_alloc_own HO.out rfl 59 rfl zout zout_info ?_; intro WA b2 hO; replace HO := hide hO; have k0 := hO.cells 0 rfl; clear hO)
        | (refine wpList_load_own HO.out rfl 46 (.tmp 3) rfl 0 _ 0 52 _ _ (rcl i m T n false cs) _ rfl (take_all (rcl_len hcs)) rfl Try.underlying46 rfl (rc_size (rcl_len hcs)) ?_)
        | (refine wpList_build rfl 59 #[] rfl [] (by simp) zout.toArray zout_built ?_)
        | (refine wpList_store_own HO.out rfl 46 (.tmp 6) _ rfl 1 _ 0 _ _ (rcl i m T n false cs) (rcl i m T n false cs) rfl (.agg (rcl i m T n false cs).toArray) rfl rfl (fits_agg _) (by rw [rcl_len hcs, zrc_len]; exact Nat.le_refl _) (splice_all (by rw [rcl_len hcs, zrc_len])) (rc_size (rcl_len hcs)) (rcl_ones h1c) ?_; intro WA hO; replace HO := hide hO; clear hO)
        | (refine wpList_store_own HO.out rfl 59 (.tmp 7) _ rfl 2 _ 0 _ _ (zout) (zout) rfl (.agg (zout).toArray) rfl rfl (fits_agg _) (by rw [zout_len]; exact Nat.le_refl _) (splice_all rfl) (out_size zout_len) zout_ones ?_; intro WA hO; replace HO := hide hO; clear hO))
      refine bodyPost_ret (results_row_row_tmp rfl _ HO.out 1 2 _ _ _ _ _ _ _ _ _ rfl rfl rfl rfl rfl Try.underlying46 rfl (rc_size (rcl_len hcs)) Try.underlying59 rfl (out_size zout_len)) rfl ?_
      exact ⟨rfl, HO.out.below⟩
    rw [if_neg g3]
    have g3' : (b.size : Int) ≤ 4096 := by omega
    have HBG : Hid (∀ X, Calls Try.prog 50 #[.agg (rcl i m T n false cs).toArray, .agg (req 1 gr 0 0 b 0).toArray] X (Hands X (.tuple #[.agg (rcl i m T (n + 1) true (req 1 gr i (n + 1) b 0)).toArray, .agg (.int .i64 T :: req 1 gr i (n + 1) b 0).toArray]))) := hide (fun (X : World) => rbegin_c i m T n false cs ((req 1 gr 0 0 b 0).drop 4) (.int .i64 1) (.int .i64 gr) (.int .i64 0) (.int .i64 0) h0 h1 hcs rfl h1c (req_ones _ _ _ _ _ _) X)
    clear h0 h1 g1 g2 g3
    go_enter Try.func33, Try.ntmps33
    go_wp2_with (first
      | (refine wpList_box_own HO.out rfl 46 (.tmp 0) rfl (rcl i m T n false cs) rfl ?_; intro WA b0 hO; replace HO := hide hO; clear hO)
      | (refine wpList_alloc_own HO.out rfl 46 rfl (zrc) zrc_info ?_; intro WA b1 hO; replace HO := hide hO; clear hO)
      | (refine wpList_alloc_own HO.out rfl 59 rfl zout zout_info ?_; intro WA b2 hO; replace HO := hide hO; have k0 := hO.cells 0 rfl; clear hO)
      | (refine wpList_load_own HO.out rfl 46 (.tmp 3) rfl 0 _ 0 52 _ _ (rcl i m T n false cs) _ rfl (take_all (rcl_len hcs)) rfl Try.underlying46 rfl (rc_size (rcl_len hcs)) ?_))
    refine (HBG.out _).mono ?_
    rintro e w1 ⟨rfl, hb⟩
    replace HO := hide (HO.out.step hb)
    clear hb HBG k0
    go_wp2_with (first
      | (refine wpList_alloc_own HO.out rfl 59 rfl zout zout_info ?_; intro WA b3 hO; replace HO := hide hO; clear hO)
      | (refine wpList_store_own HO.out rfl 46 (.tmp 3) _ rfl 0 _ 0 _ _ (rcl i m T (n + 1) true (req 1 gr i (n + 1) b 0)) (rcl i m T (n + 1) true (req 1 gr i (n + 1) b 0)) rfl (.agg (rcl i m T (n + 1) true (req 1 gr i (n + 1) b 0)).toArray) rfl rfl (fits_agg _) (by rw [rcl_len (req_len _ _ _ _ _ _), rcl_len hcs]; exact Nat.le_refl _) (splice_all (by rw [rcl_len (req_len _ _ _ _ _ _), rcl_len hcs])) (rc_size (rcl_len (req_len _ _ _ _ _ _))) (rcl_ones (req_ones _ _ _ _ _ _)) ?_; intro WA hO; replace HO := hide hO; clear hO)
      | (refine wpList_store_own HO.out rfl 59 (.tmp 9) _ rfl 3 _ 0 _ _ (.int .i64 T :: req 1 gr i (n + 1) b 0) (.int .i64 T :: req 1 gr i (n + 1) b 0) rfl (.agg (.int .i64 T :: req 1 gr i (n + 1) b 0).toArray) rfl rfl (fits_agg _) (by rw [zout_len]; exact Nat.le_refl _) (splice_all (by rw [zout_len]; rfl)) (out_size rfl) (out_ones (req_ones _ _ _ _ _ _)) ?_; intro WA hO; replace HO := hide hO; clear hO))
    refine wp_region_held_drew (S := fun W => (∀ j, W.cell? ⟨b0, j, none⟩ = (rcl i m T (n + 1) true (req 1 gr i (n + 1) b 0) : List Value)[j]?) ∧ (∀ j, W.cell? ⟨b3, j, none⟩ = (.int .i64 T :: req 1 gr i (n + 1) b 0 : List Value)[j]?)) (by kernel_rfl) (⟨HO.out.drew.cells 0 rfl, HO.out.drew.cells 3 rfl⟩) (fun hS0 => ?_)
    replace HO := hide HO.out.drew
    refine wpAnyH_take (i := 0) (v := .agg (rcl i m T (n + 1) true (req 1 gr i (n + 1) b 0)).toArray) rfl (by kernel_rfl) (by kernel_rfl) (by kernel_rfl) (fun _ _ _ h => h) (yieldsIf_load rfl 46 (.tmp 3) rfl b0 0 52 46 (rcl i m T (n + 1) true (req 1 gr i (n + 1) b 0)) (rcl i m T (n + 1) true (req 1 gr i (n + 1) b 0)) _ (fun w hw => hw.1) (take_all (rcl_len (req_len _ _ _ _ _ _))) rfl Try.underlying46 rfl (rc_size (rcl_len (req_len _ _ _ _ _ _)))) (by assumption) ?_
    try simp only [Act.put, List.getElem_toArray, List.getElem_cons_zero, List.getElem_cons_succ, List.setIfInBounds_toArray, List.set_cons_zero, List.set_cons_succ]
    refine wpAnyH_take (i := 1) (v := .agg (.int .i64 T :: req 1 gr i (n + 1) b 0).toArray) rfl (by kernel_rfl) (by kernel_rfl) (by kernel_rfl) (fun _ _ _ h => h) (yieldsIf_load rfl 59 (.tmp 9) rfl b3 0 48 59 (.int .i64 T :: req 1 gr i (n + 1) b 0) (.int .i64 T :: req 1 gr i (n + 1) b 0) _ (fun w hw => hw.2) (take_all rfl) rfl Try.underlying59 rfl (out_size rfl)) (by assumption) ?_
    try simp only [Act.put, List.getElem_toArray, List.getElem_cons_zero, List.getElem_cons_succ, List.setIfInBounds_toArray, List.set_cons_zero, List.set_cons_succ]
    refine wpAnyH_ready (rs := [2]) (by kernel_rfl) (by simp) ?_
    refine AllReadyH.cons rfl (fun K hK => ?_) AllReadyH.nil
    refine step_store_own HO.out rfl 46 (.tmp 6) (.tmp 35) rfl 1 _ 0 _ _ (rcl i m T (n + 1) true (req 1 gr i (n + 1) b 0)) (rcl i m T (n + 1) true (req 1 gr i (n + 1) b 0)) rfl (.agg (rcl i m T (n + 1) true (req 1 gr i (n + 1) b 0)).toArray) rfl rfl (fits_agg _) (by rw [rcl_len (req_len _ _ _ _ _ _), zrc_len]; exact Nat.le_refl _) (splice_all (by rw [rcl_len (req_len _ _ _ _ _ _), zrc_len])) (rc_size (rcl_len (req_len _ _ _ _ _ _))) (rcl_ones (req_ones _ _ _ _ _ _)) ?_
    intro WA hO
    replace HO := hide hO
    clear hO
    refine hK.out _ _ (⟨HO.out.cells 0 rfl, HO.out.cells 3 rfl⟩) (fun hS2 => ?_)
    clear hK K
    try simp only [Act.put, List.getElem_toArray, List.getElem_cons_zero, List.getElem_cons_succ, List.setIfInBounds_toArray, List.set_cons_zero, List.set_cons_succ]
    refine wpAnyH_ready (rs := [3]) (by kernel_rfl) (by simp) ?_
    refine AllReadyH.cons rfl (fun K hK => ?_) AllReadyH.nil
    refine step_store_own HO.out rfl 59 (.tmp 7) (.tmp 36) rfl 2 _ 0 _ _ (.int .i64 T :: req 1 gr i (n + 1) b 0) (.int .i64 T :: req 1 gr i (n + 1) b 0) rfl (.agg (.int .i64 T :: req 1 gr i (n + 1) b 0).toArray) rfl rfl (fits_agg _) (by rw [zout_len]; exact Nat.le_refl _) (splice_all (by rw [zout_len]; rfl)) (out_size rfl) (out_ones (req_ones _ _ _ _ _ _)) ?_
    intro WA hO
    replace HO := hide hO
    clear hO
    refine hK.out _ _ (⟨HO.out.cells 0 rfl, HO.out.cells 3 rfl⟩) (fun hS3 => ?_)
    clear hK K
    try simp only [Act.put, List.getElem_toArray, List.getElem_cons_zero, List.getElem_cons_succ, List.setIfInBounds_toArray, List.set_cons_zero, List.set_cons_succ]
    refine wpAnyH_take (i := 4) (v := ?ve4) rfl (by kernel_rfl) (by kernel_rfl) (by kernel_rfl) (fun _ _ _ h => h) (Or.inl ⟨by rfl, ?hye4⟩) (by assumption) ?reste4
    case hye4 => (intro w hSw; (try dsimp only at hSw); go_simp; first | done | (with_reducible rfl))
    try simp only [Act.put, List.getElem_toArray, List.getElem_cons_zero, List.getElem_cons_succ, List.setIfInBounds_toArray, List.set_cons_zero, List.set_cons_succ]
    refine wpAnyH_done (by kernel_rfl) ?_ _
    clear hS0
    go_wp2_with fail
    refine bodyPost_ret (results_row_row_tmp rfl _ HO.out 1 2 _ _ _ _ _ _ _ _ _ rfl rfl rfl rfl rfl Try.underlying46 rfl (rc_size (rcl_len (req_len _ _ _ _ _ _))) Try.underlying59 rfl (out_size rfl)) rfl ?_
    exact ⟨rfl, HO.out.below⟩

set_option maxRecDepth 100000 in
set_option maxHeartbeats 2000000 in
theorem rcall_c (i m T n : Int) (o : Bool) (cs : List Value) (gr v : Int) (h0 : 0 ≤ n) (h1 : n < 1000000) (hcs : cs.length = 47) (h1c : cs.all (·.oneCell') = true) (w : World) :
    Calls Try.prog 36 #[.agg (rcl i m T n o cs).toArray, .int .i64 gr, .int .i64 v] w (Hands w (if o = true then (.tuple #[.agg (rcl i m T n o cs).toArray, .agg zout.toArray, .int .i64 9]) else if gr < 1 ∨ 8 < gr then (.tuple #[.agg (rcl i m T n o cs).toArray, .agg zout.toArray, .int .i64 1]) else (.tuple #[.agg (rcl i m T (n + 1) true (req 9 gr i (n + 1) ⟨#[]⟩ v)).toArray, .agg (.int .i64 T :: req 9 gr i (n + 1) ⟨#[]⟩ v).toArray, .int .i64 0]))) := by
  have HO := hide (Own.nil w [] (by simp))
  cases o with
  | true =>
    rw [if_pos rfl]
    clear h0 h1
    go_enter Try.func36, Try.ntmps36
    go_wp2_with (first
      | (refine wpList_box_own HO.out rfl 46 (.tmp 0) rfl (rcl i m T n true cs) rfl ?_; intro WA b0 hO; replace HO := hide hO; clear hO)
      | (refine wpList_alloc_own HO.out rfl 46 rfl (zrc) zrc_info ?_; intro WA b1 hO; replace HO := hide hO; clear hO)
      | (refine wpList_alloc_own HO.out rfl 59 rfl zout zout_info ?_; intro WA b2 hO; replace HO := hide hO; have k0 := hO.cells 0 rfl; clear hO)
      | (refine wpList_load_own HO.out rfl 46 (.tmp 3) rfl 0 _ 0 52 _ _ (rcl i m T n true cs) _ rfl (take_all (rcl_len hcs)) rfl Try.underlying46 rfl (rc_size (rcl_len hcs)) ?_)
      | (refine wpList_build rfl 59 #[] rfl [] (by simp) zout.toArray zout_built ?_)
      | (refine wpList_store_own HO.out rfl 46 (.tmp 6) _ rfl 1 _ 0 _ _ (rcl i m T n true cs) (rcl i m T n true cs) rfl (.agg (rcl i m T n true cs).toArray) rfl rfl (fits_agg _) (by rw [rcl_len hcs, zrc_len]; exact Nat.le_refl _) (splice_all (by rw [rcl_len hcs, zrc_len])) (rc_size (rcl_len hcs)) (rcl_ones h1c) ?_; intro WA hO; replace HO := hide hO; clear hO)
      | (refine wpList_store_own HO.out rfl 59 (.tmp 7) _ rfl 2 _ 0 _ _ (zout) (zout) rfl (.agg (zout).toArray) rfl rfl (fits_agg _) (by rw [zout_len]; exact Nat.le_refl _) (splice_all rfl) (out_size zout_len) zout_ones ?_; intro WA hO; replace HO := hide hO; clear hO))
    refine bodyPost_ret (results_row_row_tmp rfl _ HO.out 1 2 _ _ _ _ _ _ _ _ _ rfl rfl rfl rfl rfl Try.underlying46 rfl (rc_size (rcl_len hcs)) Try.underlying59 rfl (out_size zout_len)) rfl ?_
    exact ⟨rfl, HO.out.below⟩
  | false =>
    rw [if_neg (by simp)]
    by_cases g1 : gr < 1
    · rw [if_pos (.inl g1)]
      clear h0 h1
      go_enter Try.func36, Try.ntmps36
      go_wp2_with (first
        | (refine wpList_box_own HO.out rfl 46 (.tmp 0) rfl (rcl i m T n false cs) rfl ?_; intro WA b0 hO; replace HO := hide hO; clear hO)
        | (refine wpList_alloc_own HO.out rfl 46 rfl (zrc) zrc_info ?_; intro WA b1 hO; replace HO := hide hO; clear hO)
        | (refine wpList_alloc_own HO.out rfl 59 rfl zout zout_info ?_; intro WA b2 hO; replace HO := hide hO; have k0 := hO.cells 0 rfl; clear hO)
        | (refine wpList_load_own HO.out rfl 46 (.tmp 3) rfl 0 _ 0 52 _ _ (rcl i m T n false cs) _ rfl (take_all (rcl_len hcs)) rfl Try.underlying46 rfl (rc_size (rcl_len hcs)) ?_)
        | (refine wpList_build rfl 59 #[] rfl [] (by simp) zout.toArray zout_built ?_)
        | (refine wpList_store_own HO.out rfl 46 (.tmp 6) _ rfl 1 _ 0 _ _ (rcl i m T n false cs) (rcl i m T n false cs) rfl (.agg (rcl i m T n false cs).toArray) rfl rfl (fits_agg _) (by rw [rcl_len hcs, zrc_len]; exact Nat.le_refl _) (splice_all (by rw [rcl_len hcs, zrc_len])) (rc_size (rcl_len hcs)) (rcl_ones h1c) ?_; intro WA hO; replace HO := hide hO; clear hO)
        | (refine wpList_store_own HO.out rfl 59 (.tmp 7) _ rfl 2 _ 0 _ _ (zout) (zout) rfl (.agg (zout).toArray) rfl rfl (fits_agg _) (by rw [zout_len]; exact Nat.le_refl _) (splice_all rfl) (out_size zout_len) zout_ones ?_; intro WA hO; replace HO := hide hO; clear hO))
      refine bodyPost_ret (results_row_row_tmp rfl _ HO.out 1 2 _ _ _ _ _ _ _ _ _ rfl rfl rfl rfl rfl Try.underlying46 rfl (rc_size (rcl_len hcs)) Try.underlying59 rfl (out_size zout_len)) rfl ?_
      exact ⟨rfl, HO.out.below⟩
    have g1' : 1 ≤ gr := by omega
    by_cases g2 : 8 < gr
    · rw [if_pos (.inr g2)]
      clear h0 h1 g1
      go_enter Try.func36, Try.ntmps36
      go_wp2_with (first
        | (refine wpList_box_own HO.out rfl 46 (.tmp 0) rfl (rcl i m T n false cs) rfl ?_; intro WA b0 hO; replace HO := hide hO; clear hO)
        | (refine wpList_alloc_own HO.out rfl 46 rfl (zrc) zrc_info ?_; intro WA b1 hO; replace HO := hide hO; clear hO)
        | (refine wpList_alloc_own HO.out rfl 59 rfl zout zout_info ?_; intro WA b2 hO; replace HO := hide hO; have k0 := hO.cells 0 rfl; clear hO)
        | (refine wpList_load_own HO.out rfl 46 (.tmp 3) rfl 0 _ 0 52 _ _ (rcl i m T n false cs) _ rfl (take_all (rcl_len hcs)) rfl Try.underlying46 rfl (rc_size (rcl_len hcs)) ?_)
        | (refine wpList_build rfl 59 #[] rfl [] (by simp) zout.toArray zout_built ?_)
        | (refine wpList_store_own HO.out rfl 46 (.tmp 6) _ rfl 1 _ 0 _ _ (rcl i m T n false cs) (rcl i m T n false cs) rfl (.agg (rcl i m T n false cs).toArray) rfl rfl (fits_agg _) (by rw [rcl_len hcs, zrc_len]; exact Nat.le_refl _) (splice_all (by rw [rcl_len hcs, zrc_len])) (rc_size (rcl_len hcs)) (rcl_ones h1c) ?_; intro WA hO; replace HO := hide hO; clear hO)
        | (refine wpList_store_own HO.out rfl 59 (.tmp 7) _ rfl 2 _ 0 _ _ (zout) (zout) rfl (.agg (zout).toArray) rfl rfl (fits_agg _) (by rw [zout_len]; exact Nat.le_refl _) (splice_all rfl) (out_size zout_len) zout_ones ?_; intro WA hO; replace HO := hide hO; clear hO))
      refine bodyPost_ret (results_row_row_tmp rfl _ HO.out 1 2 _ _ _ _ _ _ _ _ _ rfl rfl rfl rfl rfl Try.underlying46 rfl (rc_size (rcl_len hcs)) Try.underlying59 rfl (out_size zout_len)) rfl ?_
      exact ⟨rfl, HO.out.below⟩
    have g2' : gr ≤ 8 := by omega
    rw [if_neg (by omega)]
    have HBG : Hid (∀ X, Calls Try.prog 50 #[.agg (rcl i m T n false cs).toArray, .agg (req 9 gr 0 0 ⟨#[]⟩ v).toArray] X (Hands X (.tuple #[.agg (rcl i m T (n + 1) true (req 9 gr i (n + 1) ⟨#[]⟩ v)).toArray, .agg (.int .i64 T :: req 9 gr i (n + 1) ⟨#[]⟩ v).toArray]))) := hide (fun (X : World) => rbegin_c i m T n false cs ((req 9 gr 0 0 ⟨#[]⟩ v).drop 4) (.int .i64 9) (.int .i64 gr) (.int .i64 0) (.int .i64 0) h0 h1 hcs rfl h1c (req_ones _ _ _ _ _ _) X)
    clear h0 h1 g1 g2
    go_enter Try.func36, Try.ntmps36
    go_wp2_with (first
      | (refine wpList_box_own HO.out rfl 46 (.tmp 0) rfl (rcl i m T n false cs) rfl ?_; intro WA b0 hO; replace HO := hide hO; clear hO)
      | (refine wpList_alloc_own HO.out rfl 46 rfl (zrc) zrc_info ?_; intro WA b1 hO; replace HO := hide hO; clear hO)
      | (refine wpList_alloc_own HO.out rfl 59 rfl zout zout_info ?_; intro WA b2 hO; replace HO := hide hO; have k0 := hO.cells 0 rfl; clear hO)
      | (refine wpList_load_own HO.out rfl 46 (.tmp 3) rfl 0 _ 0 52 _ _ (rcl i m T n false cs) _ rfl (take_all (rcl_len hcs)) rfl Try.underlying46 rfl (rc_size (rcl_len hcs)) ?_))
    refine (HBG.out _).mono ?_
    rintro e w1 ⟨rfl, hb⟩
    replace HO := hide (HO.out.step hb)
    clear hb HBG k0
    go_wp2_with (first
      | (refine wpList_alloc_own HO.out rfl 59 rfl zout zout_info ?_; intro WA b3 hO; replace HO := hide hO; clear hO)
      | (refine wpList_store_own HO.out rfl 46 (.tmp 3) _ rfl 0 _ 0 _ _ (rcl i m T (n + 1) true (req 9 gr i (n + 1) ⟨#[]⟩ v)) (rcl i m T (n + 1) true (req 9 gr i (n + 1) ⟨#[]⟩ v)) rfl (.agg (rcl i m T (n + 1) true (req 9 gr i (n + 1) ⟨#[]⟩ v)).toArray) rfl rfl (fits_agg _) (by rw [rcl_len (req_len _ _ _ _ _ _), rcl_len hcs]; exact Nat.le_refl _) (splice_all (by rw [rcl_len (req_len _ _ _ _ _ _), rcl_len hcs])) (rc_size (rcl_len (req_len _ _ _ _ _ _))) (rcl_ones (req_ones _ _ _ _ _ _)) ?_; intro WA hO; replace HO := hide hO; clear hO)
      | (refine wpList_store_own HO.out rfl 59 (.tmp 9) _ rfl 3 _ 0 _ _ (.int .i64 T :: req 9 gr i (n + 1) ⟨#[]⟩ v) (.int .i64 T :: req 9 gr i (n + 1) ⟨#[]⟩ v) rfl (.agg (.int .i64 T :: req 9 gr i (n + 1) ⟨#[]⟩ v).toArray) rfl rfl (fits_agg _) (by rw [zout_len]; exact Nat.le_refl _) (splice_all (by rw [zout_len]; rfl)) (out_size rfl) (out_ones (req_ones _ _ _ _ _ _)) ?_; intro WA hO; replace HO := hide hO; clear hO))
    refine wp_region_held_drew (S := fun W => (∀ j, W.cell? ⟨b0, j, none⟩ = (rcl i m T (n + 1) true (req 9 gr i (n + 1) ⟨#[]⟩ v) : List Value)[j]?) ∧ (∀ j, W.cell? ⟨b3, j, none⟩ = (.int .i64 T :: req 9 gr i (n + 1) ⟨#[]⟩ v : List Value)[j]?)) (by kernel_rfl) (⟨HO.out.drew.cells 0 rfl, HO.out.drew.cells 3 rfl⟩) (fun hS0 => ?_)
    replace HO := hide HO.out.drew
    refine wpAnyH_take (i := 0) (v := .agg (rcl i m T (n + 1) true (req 9 gr i (n + 1) ⟨#[]⟩ v)).toArray) rfl (by kernel_rfl) (by kernel_rfl) (by kernel_rfl) (fun _ _ _ h => h) (yieldsIf_load rfl 46 (.tmp 3) rfl b0 0 52 46 (rcl i m T (n + 1) true (req 9 gr i (n + 1) ⟨#[]⟩ v)) (rcl i m T (n + 1) true (req 9 gr i (n + 1) ⟨#[]⟩ v)) _ (fun w hw => hw.1) (take_all (rcl_len (req_len _ _ _ _ _ _))) rfl Try.underlying46 rfl (rc_size (rcl_len (req_len _ _ _ _ _ _)))) (by assumption) ?_
    try simp only [Act.put, List.getElem_toArray, List.getElem_cons_zero, List.getElem_cons_succ, List.setIfInBounds_toArray, List.set_cons_zero, List.set_cons_succ]
    refine wpAnyH_take (i := 1) (v := .agg (.int .i64 T :: req 9 gr i (n + 1) ⟨#[]⟩ v).toArray) rfl (by kernel_rfl) (by kernel_rfl) (by kernel_rfl) (fun _ _ _ h => h) (yieldsIf_load rfl 59 (.tmp 9) rfl b3 0 48 59 (.int .i64 T :: req 9 gr i (n + 1) ⟨#[]⟩ v) (.int .i64 T :: req 9 gr i (n + 1) ⟨#[]⟩ v) _ (fun w hw => hw.2) (take_all rfl) rfl Try.underlying59 rfl (out_size rfl)) (by assumption) ?_
    try simp only [Act.put, List.getElem_toArray, List.getElem_cons_zero, List.getElem_cons_succ, List.setIfInBounds_toArray, List.set_cons_zero, List.set_cons_succ]
    refine wpAnyH_ready (rs := [2]) (by kernel_rfl) (by simp) ?_
    refine AllReadyH.cons rfl (fun K hK => ?_) AllReadyH.nil
    refine step_store_own HO.out rfl 46 (.tmp 6) (.tmp 30) rfl 1 _ 0 _ _ (rcl i m T (n + 1) true (req 9 gr i (n + 1) ⟨#[]⟩ v)) (rcl i m T (n + 1) true (req 9 gr i (n + 1) ⟨#[]⟩ v)) rfl (.agg (rcl i m T (n + 1) true (req 9 gr i (n + 1) ⟨#[]⟩ v)).toArray) rfl rfl (fits_agg _) (by rw [rcl_len (req_len _ _ _ _ _ _), zrc_len]; exact Nat.le_refl _) (splice_all (by rw [rcl_len (req_len _ _ _ _ _ _), zrc_len])) (rc_size (rcl_len (req_len _ _ _ _ _ _))) (rcl_ones (req_ones _ _ _ _ _ _)) ?_
    intro WA hO
    replace HO := hide hO
    clear hO
    refine hK.out _ _ (⟨HO.out.cells 0 rfl, HO.out.cells 3 rfl⟩) (fun hS2 => ?_)
    clear hK K
    try simp only [Act.put, List.getElem_toArray, List.getElem_cons_zero, List.getElem_cons_succ, List.setIfInBounds_toArray, List.set_cons_zero, List.set_cons_succ]
    refine wpAnyH_ready (rs := [3]) (by kernel_rfl) (by simp) ?_
    refine AllReadyH.cons rfl (fun K hK => ?_) AllReadyH.nil
    refine step_store_own HO.out rfl 59 (.tmp 7) (.tmp 31) rfl 2 _ 0 _ _ (.int .i64 T :: req 9 gr i (n + 1) ⟨#[]⟩ v) (.int .i64 T :: req 9 gr i (n + 1) ⟨#[]⟩ v) rfl (.agg (.int .i64 T :: req 9 gr i (n + 1) ⟨#[]⟩ v).toArray) rfl rfl (fits_agg _) (by rw [zout_len]; exact Nat.le_refl _) (splice_all (by rw [zout_len]; rfl)) (out_size rfl) (out_ones (req_ones _ _ _ _ _ _)) ?_
    intro WA hO
    replace HO := hide hO
    clear hO
    refine hK.out _ _ (⟨HO.out.cells 0 rfl, HO.out.cells 3 rfl⟩) (fun hS3 => ?_)
    clear hK K
    try simp only [Act.put, List.getElem_toArray, List.getElem_cons_zero, List.getElem_cons_succ, List.setIfInBounds_toArray, List.set_cons_zero, List.set_cons_succ]
    refine wpAnyH_take (i := 4) (v := ?ve4) rfl (by kernel_rfl) (by kernel_rfl) (by kernel_rfl) (fun _ _ _ h => h) (Or.inl ⟨by rfl, ?hye4⟩) (by assumption) ?reste4
    case hye4 => (intro w hSw; (try dsimp only at hSw); go_simp; first | done | (with_reducible rfl))
    try simp only [Act.put, List.getElem_toArray, List.getElem_cons_zero, List.getElem_cons_succ, List.setIfInBounds_toArray, List.set_cons_zero, List.set_cons_succ]
    refine wpAnyH_done (by kernel_rfl) ?_ _
    clear hS0
    go_wp2_with fail
    refine bodyPost_ret (results_row_row_tmp rfl _ HO.out 1 2 _ _ _ _ _ _ _ _ _ rfl rfl rfl rfl rfl Try.underlying46 rfl (rc_size (rcl_len (req_len _ _ _ _ _ _))) Try.underlying59 rfl (out_size rfl)) rfl ?_
    exact ⟨rfl, HO.out.below⟩
end Go.Proofs.Ytpbgelhjbfckcaa
