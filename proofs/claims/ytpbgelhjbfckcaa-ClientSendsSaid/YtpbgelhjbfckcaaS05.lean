/- The reference: Retry. -/
import Derived.Test.YtpbgelhjbfckcaaS04
import Derived.Test.YtpbgelhjbfckcaaS02
import Derived.Maps.OwnSet
namespace Go.Proofs.Ytpbgelhjbfckcaa
open Go.ChangeShapes Go.WideShapes Go.ChangeAt Go.RowKit
set_option linter.unusedVariables false
set_option linter.unusedSimpArgs false

set_option maxRecDepth 100000 in
set_option maxHeartbeats 2000000 in
theorem rretry_c (i m T n : Int) (o : Bool) (cs : List Value) (hm : 1 ≤ m ∧ m ≤ 16) (hT : 1 ≤ T ∧ T ≤ m) (hcs : cs.length = 47) (h1c : cs.all (·.oneCell') = true) (w : World) :
    Calls Try.prog 38 #[.agg (rcl i m T n o cs).toArray] w (Hands w (if o = true then .tuple #[.agg (rcl i m (T % m + 1) n true cs).toArray, .agg (.int .i64 (T % m + 1) :: cs).toArray, .bool true] else .tuple #[.agg (rcl i m T n o cs).toArray, .agg zout.toArray, .bool false])) := by
  have HO := hide (Own.nil w [] (by simp))
  cases o with
  | false =>
    rw [if_neg (by simp)]
    clear hm hT
    go_enter Try.func38, Try.ntmps38
    go_wp2_with (first
      | (refine wpList_box_own HO.out rfl 46 (.tmp 0) rfl (rcl i m T n false cs) rfl ?_; intro WA b0 hO; replace HO := hide hO; clear hO)
      | (refine wpList_alloc_own HO.out rfl 46 rfl (zrc) zrc_info ?_; intro WA b1 hO; replace HO := hide hO; clear hO)
      | (refine wpList_alloc_own HO.out rfl 59 rfl zout zout_info ?_; intro WA b2 hO; replace HO := hide hO; have k0 := hO.cells 0 rfl; clear hO)
      | (refine wpList_load_own HO.out rfl 46 (.tmp 1) rfl 0 _ 0 52 _ _ (rcl i m T n false cs) _ rfl (take_all (rcl_len hcs)) rfl Try.underlying46 rfl (rc_size (rcl_len hcs)) ?_)
      | (refine wpList_build rfl 59 #[] rfl [] (by simp) zout.toArray zout_built ?_)
      | (refine wpList_store_own HO.out rfl 46 (.tmp 2) _ rfl 1 _ 0 _ _ (rcl i m T n false cs) (rcl i m T n false cs) rfl (.agg (rcl i m T n false cs).toArray) rfl rfl (fits_agg _) (by rw [rcl_len hcs, zrc_len]; exact Nat.le_refl _) (splice_all (by rw [rcl_len hcs, zrc_len])) (rc_size (rcl_len hcs)) (rcl_ones h1c) ?_; intro WA hO; replace HO := hide hO; clear hO)
      | (refine wpList_store_own HO.out rfl 59 (.tmp 3) _ rfl 2 _ 0 _ _ (zout) (zout) rfl (.agg (zout).toArray) rfl rfl (fits_agg _) (by rw [zout_len]; exact Nat.le_refl _) (splice_all rfl) (out_size zout_len) zout_ones ?_; intro WA hO; replace HO := hide hO; clear hO))
    refine bodyPost_ret (results_row_row_tmp rfl _ HO.out 1 2 _ _ _ _ _ _ _ _ _ rfl rfl rfl rfl rfl Try.underlying46 rfl (rc_size (rcl_len hcs)) Try.underlying59 rfl (out_size zout_len)) rfl ?_
    exact ⟨rfl, HO.out.below⟩
  | true =>
    rw [if_pos rfl]
    have e1 : T.tmod m = T % m := Int.tmod_eq_emod_of_nonneg (by omega)
    have r1 := Int.emod_nonneg T (show m ≠ 0 by omega)
    have r2 := Int.emod_lt_of_pos T (show 0 < m by omega)
    have hm0 : ¬ m = 0 := by omega
    generalize hr : T % m = r at *
    have hw1 : IntKind.i64.wrap (r + 1) = r + 1 := IntWalk.i64_in _ (by omega)
    clear hr
    go_enter Try.func38, Try.ntmps38
    go_wp2_with (first
      | (refine wpList_box_own HO.out rfl 46 (.tmp 0) rfl (rcl i m T n true cs) rfl ?_; intro WA b0 hO; replace HO := hide hO; clear hO)
      | (refine wpList_alloc_own HO.out rfl 46 rfl (zrc) zrc_info ?_; intro WA b1 hO; replace HO := hide hO; clear hO)
      | (refine wpList_alloc_own HO.out rfl 59 rfl zout zout_info ?_; intro WA b2 hO; replace HO := hide hO; have k0 := hO.cells 0 rfl; clear hO)
      | (refine wpList_store_own HO.out rfl 3 (.tmp 16) (.tmp 15) rfl 0 _ 2 _ _ ([.int .i64 (r + 1)]) (rcl i m (r + 1) n true cs) rfl (.int .i64 (r + 1)) rfl rfl (fits_one rfl) (by simp <;> omega) rfl int_size rfl ?_; intro WA hO; replace HO := hide hO; clear hO))
    clear k0 e1
    refine wp_region_held_drew (S := fun W => (∀ j, W.cell? ⟨b0, j, none⟩ = (rcl i m (r + 1) n true cs : List Value)[j]?)) (by kernel_rfl) (HO.out.drew.cells 0 rfl) (fun hS0 => ?_)
    replace HO := hide HO.out.drew
    refine wpAnyH_take (i := 0) (v := .agg (rcl i m (r + 1) n true cs).toArray) rfl (by kernel_rfl) (by kernel_rfl) (by kernel_rfl) (fun _ _ _ h => h) (yieldsIf_load rfl 46 (.tmp 1) rfl b0 0 52 46 (rcl i m (r + 1) n true cs) (rcl i m (r + 1) n true cs) _ (fun w hw => hw) (take_all (rcl_len hcs)) rfl Try.underlying46 rfl (rc_size (rcl_len hcs))) (by assumption) ?_
    try simp only [Act.put, List.getElem_toArray, List.getElem_cons_zero, List.getElem_cons_succ, List.setIfInBounds_toArray, List.set_cons_zero, List.set_cons_succ]
    refine wpAnyH_take (i := 1) (v := ?ve1) rfl (by kernel_rfl) (by kernel_rfl) (by kernel_rfl) (fun _ _ _ h => h) (Or.inl ⟨by rfl, ?hye1⟩) (by assumption) ?reste1
    case hye1 => (intro w hSw; (try dsimp only at hSw); go_simp; first | done | (with_reducible rfl))
    try simp only [Act.put, List.getElem_toArray, List.getElem_cons_zero, List.getElem_cons_succ, List.setIfInBounds_toArray, List.set_cons_zero, List.set_cons_succ]
    refine wpAnyH_take (i := 2) (v := ?ve2) rfl (by kernel_rfl) (by kernel_rfl) (by kernel_rfl) (fun _ _ _ h => h) (Or.inl ⟨by rfl, ?hye2⟩) (by assumption) ?reste2
    case hye2 => (intro w hSw; (try dsimp only at hSw); go_simp; first | done | (with_reducible rfl))
    try simp only [Act.put, List.getElem_toArray, List.getElem_cons_zero, List.getElem_cons_succ, List.setIfInBounds_toArray, List.set_cons_zero, List.set_cons_succ]
    refine wpAnyH_take (i := 3) (v := ?ve3) rfl (by kernel_rfl) (by kernel_rfl) (by kernel_rfl) (fun _ _ _ h => h) (Or.inl ⟨by rfl, ?hye3⟩) (by assumption) ?reste3
    case hye3 => (intro w hSw; (try dsimp only at hSw); go_simp; first | done | (with_reducible rfl))
    try simp only [Act.put, List.getElem_toArray, List.getElem_cons_zero, List.getElem_cons_succ, List.setIfInBounds_toArray, List.set_cons_zero, List.set_cons_succ]
    refine wpAnyH_take (i := 4) (v := .agg (cs).toArray) rfl (by kernel_rfl) (by kernel_rfl) (by kernel_rfl) (fun _ _ _ h => h) (yieldsIf_load rfl 41 (.tmp 20) rfl b0 5 47 41 (rcl i m (r + 1) n true cs) (cs) _ (fun w hw => hw) (by show cs.take 47 = cs; rw [List.take_of_length_le (by omega)]) rfl Try.underlying41 rfl (msg_size hcs)) (by assumption) ?_
    try simp only [Act.put, List.getElem_toArray, List.getElem_cons_zero, List.getElem_cons_succ, List.setIfInBounds_toArray, List.set_cons_zero, List.set_cons_succ]
    refine wpAnyH_take (i := 5) (v := .agg (.int .i64 (r + 1) :: cs).toArray) rfl (by kernel_rfl) (by kernel_rfl) (by kernel_rfl) (fun _ _ _ h => h) (yieldsIf_build rfl 59 _ rfl ([(0, .int .i64 (r + 1)), (1, .agg cs.toArray)]) (by first | (simp [Act.eval]; done) | (simp [Act.eval]; rfl)) (.int .i64 (r + 1) :: cs).toArray (built_out (r + 1) cs hcs)) (by assumption) ?_
    try simp only [Act.put, List.getElem_toArray, List.getElem_cons_zero, List.getElem_cons_succ, List.setIfInBounds_toArray, List.set_cons_zero, List.set_cons_succ]
    refine wpAnyH_ready (rs := [6]) (by kernel_rfl) (by simp) ?_
    refine AllReadyH.cons rfl (fun K hK => ?_) AllReadyH.nil
    refine step_store_own HO.out rfl 46 (.tmp 2) (.tmp 17) rfl 1 _ 0 _ _ (rcl i m (r + 1) n true cs) (rcl i m (r + 1) n true cs) rfl (.agg (rcl i m (r + 1) n true cs).toArray) rfl rfl (fits_agg _) (by rw [rcl_len hcs, zrc_len]; exact Nat.le_refl _) (splice_all (by rw [rcl_len hcs, zrc_len])) (rc_size (rcl_len hcs)) (rcl_ones h1c) ?_
    intro WA hO
    replace HO := hide hO
    clear hO
    refine hK.out _ _ (HO.out.cells 0 rfl) (fun hS6 => ?_)
    clear hK K
    try simp only [Act.put, List.getElem_toArray, List.getElem_cons_zero, List.getElem_cons_succ, List.setIfInBounds_toArray, List.set_cons_zero, List.set_cons_succ]
    refine wpAnyH_ready (rs := [7]) (by kernel_rfl) (by simp) ?_
    refine AllReadyH.cons rfl (fun K hK => ?_) AllReadyH.nil
    refine step_store_own HO.out rfl 59 (.tmp 3) (.tmp 22) rfl 2 _ 0 _ _ (.int .i64 (r + 1) :: cs) (.int .i64 (r + 1) :: cs) rfl (.agg (.int .i64 (r + 1) :: cs).toArray) rfl rfl (fits_agg _) (by rw [zout_len]; simp <;> omega) (splice_all (by rw [zout_len]; simp <;> omega)) (out_size (by simp <;> omega)) (out_ones h1c) ?_
    intro WA hO
    replace HO := hide hO
    clear hO
    refine hK.out _ _ (HO.out.cells 0 rfl) (fun hS7 => ?_)
    clear hK K
    try simp only [Act.put, List.getElem_toArray, List.getElem_cons_zero, List.getElem_cons_succ, List.setIfInBounds_toArray, List.set_cons_zero, List.set_cons_succ]
    refine wpAnyH_take (i := 8) (v := ?ve8) rfl (by kernel_rfl) (by kernel_rfl) (by kernel_rfl) (fun _ _ _ h => h) (Or.inl ⟨by rfl, ?hye8⟩) (by assumption) ?reste8
    case hye8 => (intro w hSw; (try dsimp only at hSw); go_simp; first | done | (with_reducible rfl))
    try simp only [Act.put, List.getElem_toArray, List.getElem_cons_zero, List.getElem_cons_succ, List.setIfInBounds_toArray, List.set_cons_zero, List.set_cons_succ]
    refine wpAnyH_done (by kernel_rfl) ?_ _
    clear hS0
    go_wp2_with fail
    refine bodyPost_ret (results_row_row_tmp rfl _ HO.out 1 2 _ _ _ _ _ _ _ _ _ rfl rfl rfl rfl rfl Try.underlying46 rfl (rc_size (rcl_len hcs)) Try.underlying59 rfl (out_size (by simp <;> omega))) rfl ?_
    exact ⟨rfl, HO.out.below⟩
end Go.Proofs.Ytpbgelhjbfckcaa
/- Maps that a function makes: their steps in a region. -/
namespace Go.Proofs.Ytpbgelhjbfckcaa
open Go.ChangeMaps Go.ChangeShapes Go.WideShapes Go.ChangeAt Go.RowKit
open Go.Maps (Keyed)
set_option linter.unusedVariables false

theorem Touch.map {w w' : World} {b : Nat} (h : w.mapTurned w' b) : Touch [b] w w' := by
  obtain ⟨es, clock, es', clock', hb, rfl⟩ := h
  refine ⟨rfl, rfl, rfl, by simp [setBlock], fun k hk hne => ?_⟩
  exact heap_setBlock_other hb _ (by simpa using hne)
theorem step_makeMap {P : Program} {w : World} {ops : Array Oper} {o : Oper} {a : Act} {K : Act → World → Prop} {Q : Exit → Act → World → Prop} {E : Prop} (hgd : o.guard = none) (t : TypeId) (ho : o.op = .makeMap t none)
    (h : ∀ w' mb, mb = w.heap.size → w' = w.alloc (.map #[] 0) → K (a.put o.dst (.map (some mb))) w') : if Region.wanted o (yielded ops a.tmps) = true then Oper.wp P o a w K Q else E := by
  have hw : Region.wanted o (yielded ops a.tmps) = true := by simp [Region.wanted, hgd]
  rw [if_pos hw]
  unfold Oper.wp execOp
  simp only [ho, Option.map_none, Sem.run_bind, run_makeMap, Result.andThen_ok]
  exact h _ _ rfl rfl
theorem step_insert {H : Type} {P : Program} {w : World} {ops : Array Oper} {o : Oper} {a : Act} {K : Act → World → Prop} {Q : Exit → Act → World → Prop} {E : Prop} (hgd : o.guard = none) (m x v : Operand) (t : TypeId) (hop : o.op = .insert t m x v)
    (k e : TypeId) (KK : Keyed P k) (ht : P.underlying t = some (.map k e)) (R : Value → Option (DataW H × List MemPlace)) (b n : Nat) (D : DataW H)
    (hm : a.eval m = .map (some b)) (hown : w.ownsMap P k R b n D) (hn : n < maxLen) (key val : Value) (kl : Lit) (hx : a.eval x = key) (hv : a.eval v = val) (hkey : keyOf P k key = some kl)
    (d : DataW H) (ps : List MemPlace) (hval : R val = some (d, ps))
    (hK : ∀ w', w'.ownsMap P k R b (n + 1) (D.put kl d) → Touch [b] w w' → K (a.put o.dst undef) w') : if Region.wanted o (yielded ops a.tmps) = true then Oper.wp P o a w K Q else E := by
  have hw : Region.wanted o (yielded ops a.tmps) = true := by simp [Region.wanted, hgd]
  rw [if_pos hw]
  obtain ⟨w', hrun, r1, r2⟩ := hown.store KK ht hn hkey hval
  unfold Oper.wp
  simp [execOp, hop, hm, hx, hv, hrun, Result.andThen]
  exact hK w' r1 (Touch.map r2)
end Go.Proofs.Ytpbgelhjbfckcaa
