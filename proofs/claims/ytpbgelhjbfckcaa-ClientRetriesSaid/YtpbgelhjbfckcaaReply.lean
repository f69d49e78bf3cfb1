/- reply: the message of an operation. -/
import Derived.Test.YtpbgelhjbfckcaaOps
import Derived.Test.YtpbgelhjbfckcaaRefA
import Derived.Test.YtpbgelhjbfckcaaAt2
namespace Go.Proofs.Ytpbgelhjbfckcaa
open Go.ChangeShapes Go.WideShapes Go.ChangeAt Go.RowKit
set_option linter.unusedVariables false
set_option linter.unusedSimpArgs false

/-- The message of an operation. -/
def repM (x : OpV) (n : Int) : MV := if x.fit = true ∧ x.msg.number = 0 then { x.msg with number := n } else x.msg
theorem repM_ok {x : OpV} (h : x.Ok) (n : Int) : (repM x n).Ok := by
  unfold repM
  split
  · exact ⟨h.msg.len, h.msg.one, h.msg.leader⟩
  · exact h.msg
theorem mv_ones {m : MV} (h : m.Ok) : m.cells.all (·.oneCell') = true := by have := h.ones; simpa using this
theorem take5m {x : OpV} (h : x.Ok) : ((.int .i64 x.kind :: .int .i64 x.group :: .int .i64 x.frm :: .string x.body :: .int .i64 x.value :: (x.msg.cells ++ [.bool x.fit])).drop 5).take 47 = .int .i64 x.msg.kind :: .int .i64 x.msg.group :: .int .i64 x.msg.client :: .int .i64 x.msg.number :: .int .i64 x.msg.code :: .string x.msg.body :: .int .i64 x.msg.leader :: x.msg.rest := by
  show (x.msg.cells ++ [Value.bool x.fit]).take 47 = x.msg.cells
  rw [List.take_append_of_le_length (by rw [h.msg.size]; exact Nat.le_refl _), List.take_of_length_le (by rw [h.msg.size]; exact Nat.le_refl _)]
theorem op_fit {x : OpV} (h : x.Ok) {w : World} {g : Nat} (hb : Blk w g 43 (.int .i64 x.kind :: .int .i64 x.group :: .int .i64 x.frm :: .string x.body :: .int .i64 x.value :: (x.msg.cells ++ [.bool x.fit])).toArray) : w.cell? ⟨g, 52, none⟩ = some (.bool x.fit) := by
  rw [hb.cell 52]
  simp only [List.getElem?_toArray, List.getElem?_cons_succ]
  rw [List.getElem?_append_right (by rw [h.msg.size]; exact Nat.le_refl _), h.msg.size]
  rfl
set_option maxRecDepth 100000 in
set_option maxHeartbeats 1000000 in
theorem reply_c (x : OpV) (hx : x.Ok) (n : Int) (w : World) : Calls Try.prog 14 #[.agg x.cells.toArray, .int .i64 n] w (Hands w (.agg (repM x n).cells.toArray)) := by
  have HO := hide (Own.nil w [] (by simp))
  have HX := hide hx
  have HXO := hide (mv_ones hx.msg)
  have HXP : Hid ({ x.msg with number := n } : MV).Ok := hide ⟨hx.msg.len, hx.msg.one, hx.msg.leader⟩
  replace HXP := hide (mv_ones HXP.out)
  have HXF := hide (fun (W : World) (g : Nat) (hb : Blk W g 43 (.int .i64 x.kind :: .int .i64 x.group :: .int .i64 x.frm :: .string x.body :: .int .i64 x.value :: (x.msg.cells ++ [.bool x.fit])).toArray) => op_fit hx hb)
  clear hx
  unfold repM
  cases hf : x.fit with
  | false =>
    have HF := hide hf
    clear hf
    rw [if_neg (by simp)]
    have hx0 := HX.out.body
    go_enter Try.func14, Try.ntmps14
    go_wp2_with (first
      | ((with_reducible refine at_box 43 (.tmp 0) ?_); refine wpList_box_own HO.out rfl 43 (.tmp 0) rfl (.int .i64 x.kind :: .int .i64 x.group :: .int .i64 x.frm :: .string x.body :: .int .i64 x.value :: (x.msg.cells ++ [.bool x.fit])) rfl ?_; intro WA b0 hO; replace HO := hide hO; clear hO)
      | ((with_reducible refine at_alloc 41 ?_); refine wpList_alloc_own HO.out rfl 41 rfl zmsgI zmsgI_info ?_; intro WA bn hO; replace HO := hide hO; clear hO)
      | ((with_reducible refine at_load 41 (.tmp 6) ?_); refine wpList_load_own HO.out rfl 41 (.tmp 6) rfl 0 _ 5 47 _ _ (.int .i64 x.msg.kind :: .int .i64 x.msg.group :: .int .i64 x.msg.client :: .int .i64 x.msg.number :: .int .i64 x.msg.code :: .string x.msg.body :: .int .i64 x.msg.leader :: x.msg.rest) _ rfl (take5m HX.out) rfl Try.underlying41 rfl (msg_size HX.out.msg.size) ?_)
      | ((with_reducible refine at_store 41 (.tmp 5) ?_); refine wpList_store_own HO.out rfl 41 (.tmp 5) _ rfl 2 _ 0 _ _ (.int .i64 x.msg.kind :: .int .i64 x.msg.group :: .int .i64 x.msg.client :: .int .i64 x.msg.number :: .int .i64 x.msg.code :: .string x.msg.body :: .int .i64 x.msg.leader :: x.msg.rest) (.int .i64 x.msg.kind :: .int .i64 x.msg.group :: .int .i64 x.msg.client :: .int .i64 x.msg.number :: .int .i64 x.msg.code :: .string x.msg.body :: .int .i64 x.msg.leader :: x.msg.rest) rfl (.agg (.int .i64 x.msg.kind :: .int .i64 x.msg.group :: .int .i64 x.msg.client :: .int .i64 x.msg.number :: .int .i64 x.msg.code :: .string x.msg.body :: .int .i64 x.msg.leader :: x.msg.rest).toArray) rfl rfl (fits_agg _) (by rw [show (.int .i64 x.msg.kind :: .int .i64 x.msg.group :: .int .i64 x.msg.client :: .int .i64 x.msg.number :: .int .i64 x.msg.code :: .string x.msg.body :: .int .i64 x.msg.leader :: x.msg.rest).length = 47 from HX.out.msg.size, zmsgI_len]; exact Nat.le_refl _) (splice_all (by rw [show (.int .i64 x.msg.kind :: .int .i64 x.msg.group :: .int .i64 x.msg.client :: .int .i64 x.msg.number :: .int .i64 x.msg.code :: .string x.msg.body :: .int .i64 x.msg.leader :: x.msg.rest).length = 47 from HX.out.msg.size, zmsgI_len])) (msg_size HX.out.msg.size) HXO.out ?_; intro WA hO; replace HO := hide hO; have k2 := hO.cells 2 rfl; have kf := HXF.out _ _ (hO.blk 0 rfl); rw [HF.out] at kf; clear hO)
      | ((with_reducible refine at_store 3 (.tmp 16) ?_); refine wpList_store_own HO.out rfl 3 (.tmp 16) _ rfl 2 _ 3 _ _ ([.int .i64 n]) (.int .i64 x.msg.kind :: .int .i64 x.msg.group :: .int .i64 x.msg.client :: .int .i64 n :: .int .i64 x.msg.code :: .string x.msg.body :: .int .i64 x.msg.leader :: x.msg.rest) rfl (.int .i64 n) rfl rfl (fits_one rfl) (by simp) rfl int_size rfl ?_; intro WA hO; replace HO := hide hO; clear hO)
      | ((with_reducible refine at_load 41 (.tmp 5) ?_); refine wpList_load_own HO.out rfl 41 (.tmp 5) rfl 2 _ 0 47 _ _ (.int .i64 x.msg.kind :: .int .i64 x.msg.group :: .int .i64 x.msg.client :: .int .i64 x.msg.number :: .int .i64 x.msg.code :: .string x.msg.body :: .int .i64 x.msg.leader :: x.msg.rest) _ rfl (take_all HX.out.msg.size) rfl Try.underlying41 rfl (msg_size HX.out.msg.size) ?_)
      | ((with_reducible refine at_store 41 (.tmp 4) ?_); refine wpList_store_own HO.out rfl 41 (.tmp 4) _ rfl 1 _ 0 _ _ (.int .i64 x.msg.kind :: .int .i64 x.msg.group :: .int .i64 x.msg.client :: .int .i64 x.msg.number :: .int .i64 x.msg.code :: .string x.msg.body :: .int .i64 x.msg.leader :: x.msg.rest) (.int .i64 x.msg.kind :: .int .i64 x.msg.group :: .int .i64 x.msg.client :: .int .i64 x.msg.number :: .int .i64 x.msg.code :: .string x.msg.body :: .int .i64 x.msg.leader :: x.msg.rest) rfl (.agg (.int .i64 x.msg.kind :: .int .i64 x.msg.group :: .int .i64 x.msg.client :: .int .i64 x.msg.number :: .int .i64 x.msg.code :: .string x.msg.body :: .int .i64 x.msg.leader :: x.msg.rest).toArray) rfl rfl (fits_agg _) (by rw [show (.int .i64 x.msg.kind :: .int .i64 x.msg.group :: .int .i64 x.msg.client :: .int .i64 x.msg.number :: .int .i64 x.msg.code :: .string x.msg.body :: .int .i64 x.msg.leader :: x.msg.rest).length = 47 from HX.out.msg.size, zmsgI_len]; exact Nat.le_refl _) (splice_all (by rw [show (.int .i64 x.msg.kind :: .int .i64 x.msg.group :: .int .i64 x.msg.client :: .int .i64 x.msg.number :: .int .i64 x.msg.code :: .string x.msg.body :: .int .i64 x.msg.leader :: x.msg.rest).length = 47 from HX.out.msg.size, zmsgI_len])) (msg_size HX.out.msg.size) HXO.out ?_; intro WA hO; replace HO := hide hO; clear hO))
    refine bodyPost_ret (results_row rfl _ HO.out 1 _ _ _ _ rfl rfl Try.underlying41 rfl (msg_size HX.out.msg.size)) rfl ?_
    exact ⟨rfl, HO.out.below⟩
  | true =>
    have HF := hide hf
    clear hf
    by_cases hn : x.msg.number = 0
    · rw [if_pos ⟨rfl, hn⟩]
      have hn1 : (x.msg.number == 0) = true := by simpa using hn
      go_enter Try.func14, Try.ntmps14
      go_wp2_with (first
        | ((with_reducible refine at_box 43 (.tmp 0) ?_); refine wpList_box_own HO.out rfl 43 (.tmp 0) rfl (.int .i64 x.kind :: .int .i64 x.group :: .int .i64 x.frm :: .string x.body :: .int .i64 x.value :: (x.msg.cells ++ [.bool x.fit])) rfl ?_; intro WA b0 hO; replace HO := hide hO; clear hO)
        | ((with_reducible refine at_alloc 41 ?_); refine wpList_alloc_own HO.out rfl 41 rfl zmsgI zmsgI_info ?_; intro WA bn hO; replace HO := hide hO; clear hO)
        | ((with_reducible refine at_load 41 (.tmp 6) ?_); refine wpList_load_own HO.out rfl 41 (.tmp 6) rfl 0 _ 5 47 _ _ (.int .i64 x.msg.kind :: .int .i64 x.msg.group :: .int .i64 x.msg.client :: .int .i64 x.msg.number :: .int .i64 x.msg.code :: .string x.msg.body :: .int .i64 x.msg.leader :: x.msg.rest) _ rfl (take5m HX.out) rfl Try.underlying41 rfl (msg_size HX.out.msg.size) ?_)
        | ((with_reducible refine at_store 41 (.tmp 5) ?_); refine wpList_store_own HO.out rfl 41 (.tmp 5) _ rfl 2 _ 0 _ _ (.int .i64 x.msg.kind :: .int .i64 x.msg.group :: .int .i64 x.msg.client :: .int .i64 x.msg.number :: .int .i64 x.msg.code :: .string x.msg.body :: .int .i64 x.msg.leader :: x.msg.rest) (.int .i64 x.msg.kind :: .int .i64 x.msg.group :: .int .i64 x.msg.client :: .int .i64 x.msg.number :: .int .i64 x.msg.code :: .string x.msg.body :: .int .i64 x.msg.leader :: x.msg.rest) rfl (.agg (.int .i64 x.msg.kind :: .int .i64 x.msg.group :: .int .i64 x.msg.client :: .int .i64 x.msg.number :: .int .i64 x.msg.code :: .string x.msg.body :: .int .i64 x.msg.leader :: x.msg.rest).toArray) rfl rfl (fits_agg _) (by rw [show (.int .i64 x.msg.kind :: .int .i64 x.msg.group :: .int .i64 x.msg.client :: .int .i64 x.msg.number :: .int .i64 x.msg.code :: .string x.msg.body :: .int .i64 x.msg.leader :: x.msg.rest).length = 47 from HX.out.msg.size, zmsgI_len]; exact Nat.le_refl _) (splice_all (by rw [show (.int .i64 x.msg.kind :: .int .i64 x.msg.group :: .int .i64 x.msg.client :: .int .i64 x.msg.number :: .int .i64 x.msg.code :: .string x.msg.body :: .int .i64 x.msg.leader :: x.msg.rest).length = 47 from HX.out.msg.size, zmsgI_len])) (msg_size HX.out.msg.size) HXO.out ?_; intro WA hO; replace HO := hide hO; have k2 := hO.cells 2 rfl; have kf := HXF.out _ _ (hO.blk 0 rfl); rw [HF.out] at kf; clear hO)
        | ((with_reducible refine at_store 3 (.tmp 16) ?_); refine wpList_store_own HO.out rfl 3 (.tmp 16) _ rfl 2 _ 3 _ _ ([.int .i64 n]) (.int .i64 x.msg.kind :: .int .i64 x.msg.group :: .int .i64 x.msg.client :: .int .i64 n :: .int .i64 x.msg.code :: .string x.msg.body :: .int .i64 x.msg.leader :: x.msg.rest) rfl (.int .i64 n) rfl rfl (fits_one rfl) (by simp) rfl int_size rfl ?_; intro WA hO; replace HO := hide hO; clear hO)
        | ((with_reducible refine at_load 41 (.tmp 5) ?_); refine wpList_load_own HO.out rfl 41 (.tmp 5) rfl 2 _ 0 47 _ _ (.int .i64 x.msg.kind :: .int .i64 x.msg.group :: .int .i64 x.msg.client :: .int .i64 n :: .int .i64 x.msg.code :: .string x.msg.body :: .int .i64 x.msg.leader :: x.msg.rest) _ rfl (take_all HX.out.msg.size) rfl Try.underlying41 rfl (msg_size HX.out.msg.size) ?_)
        | ((with_reducible refine at_store 41 (.tmp 4) ?_); refine wpList_store_own HO.out rfl 41 (.tmp 4) _ rfl 1 _ 0 _ _ (.int .i64 x.msg.kind :: .int .i64 x.msg.group :: .int .i64 x.msg.client :: .int .i64 n :: .int .i64 x.msg.code :: .string x.msg.body :: .int .i64 x.msg.leader :: x.msg.rest) (.int .i64 x.msg.kind :: .int .i64 x.msg.group :: .int .i64 x.msg.client :: .int .i64 n :: .int .i64 x.msg.code :: .string x.msg.body :: .int .i64 x.msg.leader :: x.msg.rest) rfl (.agg (.int .i64 x.msg.kind :: .int .i64 x.msg.group :: .int .i64 x.msg.client :: .int .i64 n :: .int .i64 x.msg.code :: .string x.msg.body :: .int .i64 x.msg.leader :: x.msg.rest).toArray) rfl rfl (fits_agg _) (by rw [show (.int .i64 x.msg.kind :: .int .i64 x.msg.group :: .int .i64 x.msg.client :: .int .i64 n :: .int .i64 x.msg.code :: .string x.msg.body :: .int .i64 x.msg.leader :: x.msg.rest).length = 47 from HX.out.msg.size, zmsgI_len]; exact Nat.le_refl _) (splice_all (by rw [show (.int .i64 x.msg.kind :: .int .i64 x.msg.group :: .int .i64 x.msg.client :: .int .i64 n :: .int .i64 x.msg.code :: .string x.msg.body :: .int .i64 x.msg.leader :: x.msg.rest).length = 47 from HX.out.msg.size, zmsgI_len])) (msg_size HX.out.msg.size) HXP.out ?_; intro WA hO; replace HO := hide hO; clear hO))
      refine bodyPost_ret (results_row rfl _ HO.out 1 _ _ _ _ rfl rfl Try.underlying41 rfl (msg_size HX.out.msg.size)) rfl ?_
      exact ⟨rfl, HO.out.below⟩
    · rw [if_neg (by simp [hn])]
      have hn1 : (x.msg.number == 0) = false := by simpa using hn
      go_enter Try.func14, Try.ntmps14
      go_wp2_with (first
        | ((with_reducible refine at_box 43 (.tmp 0) ?_); refine wpList_box_own HO.out rfl 43 (.tmp 0) rfl (.int .i64 x.kind :: .int .i64 x.group :: .int .i64 x.frm :: .string x.body :: .int .i64 x.value :: (x.msg.cells ++ [.bool x.fit])) rfl ?_; intro WA b0 hO; replace HO := hide hO; clear hO)
        | ((with_reducible refine at_alloc 41 ?_); refine wpList_alloc_own HO.out rfl 41 rfl zmsgI zmsgI_info ?_; intro WA bn hO; replace HO := hide hO; clear hO)
        | ((with_reducible refine at_load 41 (.tmp 6) ?_); refine wpList_load_own HO.out rfl 41 (.tmp 6) rfl 0 _ 5 47 _ _ (.int .i64 x.msg.kind :: .int .i64 x.msg.group :: .int .i64 x.msg.client :: .int .i64 x.msg.number :: .int .i64 x.msg.code :: .string x.msg.body :: .int .i64 x.msg.leader :: x.msg.rest) _ rfl (take5m HX.out) rfl Try.underlying41 rfl (msg_size HX.out.msg.size) ?_)
        | ((with_reducible refine at_store 41 (.tmp 5) ?_); refine wpList_store_own HO.out rfl 41 (.tmp 5) _ rfl 2 _ 0 _ _ (.int .i64 x.msg.kind :: .int .i64 x.msg.group :: .int .i64 x.msg.client :: .int .i64 x.msg.number :: .int .i64 x.msg.code :: .string x.msg.body :: .int .i64 x.msg.leader :: x.msg.rest) (.int .i64 x.msg.kind :: .int .i64 x.msg.group :: .int .i64 x.msg.client :: .int .i64 x.msg.number :: .int .i64 x.msg.code :: .string x.msg.body :: .int .i64 x.msg.leader :: x.msg.rest) rfl (.agg (.int .i64 x.msg.kind :: .int .i64 x.msg.group :: .int .i64 x.msg.client :: .int .i64 x.msg.number :: .int .i64 x.msg.code :: .string x.msg.body :: .int .i64 x.msg.leader :: x.msg.rest).toArray) rfl rfl (fits_agg _) (by rw [show (.int .i64 x.msg.kind :: .int .i64 x.msg.group :: .int .i64 x.msg.client :: .int .i64 x.msg.number :: .int .i64 x.msg.code :: .string x.msg.body :: .int .i64 x.msg.leader :: x.msg.rest).length = 47 from HX.out.msg.size, zmsgI_len]; exact Nat.le_refl _) (splice_all (by rw [show (.int .i64 x.msg.kind :: .int .i64 x.msg.group :: .int .i64 x.msg.client :: .int .i64 x.msg.number :: .int .i64 x.msg.code :: .string x.msg.body :: .int .i64 x.msg.leader :: x.msg.rest).length = 47 from HX.out.msg.size, zmsgI_len])) (msg_size HX.out.msg.size) HXO.out ?_; intro WA hO; replace HO := hide hO; have k2 := hO.cells 2 rfl; have kf := HXF.out _ _ (hO.blk 0 rfl); rw [HF.out] at kf; clear hO)
        | ((with_reducible refine at_store 3 (.tmp 16) ?_); refine wpList_store_own HO.out rfl 3 (.tmp 16) _ rfl 2 _ 3 _ _ ([.int .i64 n]) (.int .i64 x.msg.kind :: .int .i64 x.msg.group :: .int .i64 x.msg.client :: .int .i64 n :: .int .i64 x.msg.code :: .string x.msg.body :: .int .i64 x.msg.leader :: x.msg.rest) rfl (.int .i64 n) rfl rfl (fits_one rfl) (by simp) rfl int_size rfl ?_; intro WA hO; replace HO := hide hO; clear hO)
        | ((with_reducible refine at_load 41 (.tmp 5) ?_); refine wpList_load_own HO.out rfl 41 (.tmp 5) rfl 2 _ 0 47 _ _ (.int .i64 x.msg.kind :: .int .i64 x.msg.group :: .int .i64 x.msg.client :: .int .i64 x.msg.number :: .int .i64 x.msg.code :: .string x.msg.body :: .int .i64 x.msg.leader :: x.msg.rest) _ rfl (take_all HX.out.msg.size) rfl Try.underlying41 rfl (msg_size HX.out.msg.size) ?_)
        | ((with_reducible refine at_store 41 (.tmp 4) ?_); refine wpList_store_own HO.out rfl 41 (.tmp 4) _ rfl 1 _ 0 _ _ (.int .i64 x.msg.kind :: .int .i64 x.msg.group :: .int .i64 x.msg.client :: .int .i64 x.msg.number :: .int .i64 x.msg.code :: .string x.msg.body :: .int .i64 x.msg.leader :: x.msg.rest) (.int .i64 x.msg.kind :: .int .i64 x.msg.group :: .int .i64 x.msg.client :: .int .i64 x.msg.number :: .int .i64 x.msg.code :: .string x.msg.body :: .int .i64 x.msg.leader :: x.msg.rest) rfl (.agg (.int .i64 x.msg.kind :: .int .i64 x.msg.group :: .int .i64 x.msg.client :: .int .i64 x.msg.number :: .int .i64 x.msg.code :: .string x.msg.body :: .int .i64 x.msg.leader :: x.msg.rest).toArray) rfl rfl (fits_agg _) (by rw [show (.int .i64 x.msg.kind :: .int .i64 x.msg.group :: .int .i64 x.msg.client :: .int .i64 x.msg.number :: .int .i64 x.msg.code :: .string x.msg.body :: .int .i64 x.msg.leader :: x.msg.rest).length = 47 from HX.out.msg.size, zmsgI_len]; exact Nat.le_refl _) (splice_all (by rw [show (.int .i64 x.msg.kind :: .int .i64 x.msg.group :: .int .i64 x.msg.client :: .int .i64 x.msg.number :: .int .i64 x.msg.code :: .string x.msg.body :: .int .i64 x.msg.leader :: x.msg.rest).length = 47 from HX.out.msg.size, zmsgI_len])) (msg_size HX.out.msg.size) HXO.out ?_; intro WA hO; replace HO := hide hO; clear hO))
      refine bodyPost_ret (results_row rfl _ HO.out 1 _ _ _ _ rfl rfl Try.underlying41 rfl (msg_size HX.out.msg.size)) rfl ?_
      exact ⟨rfl, HO.out.below⟩
end Go.Proofs.Ytpbgelhjbfckcaa
