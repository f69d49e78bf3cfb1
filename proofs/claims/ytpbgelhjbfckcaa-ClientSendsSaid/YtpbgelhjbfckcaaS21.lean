/- step: Call. -/
import Derived.Test.YtpbgelhjbfckcaaS20
namespace Go.Proofs.Ytpbgelhjbfckcaa
open Go.ChangeShapes Go.WideShapes Go.ChangeAt Go.RowKit
set_option linter.unusedVariables false
set_option linter.unusedSimpArgs false

set_option maxRecDepth 100000 in
set_option maxHeartbeats 8000000 in
theorem step_k1 (g : Nat) (S : CS) (p : Value) (x : OpV) (w : World) (h : Cl w g S p) (hA : Asks S) (hx : x.Ok) (hn : S.number < 1000000) (hk : x.kind = 1) :
    Calls Try.prog 20 #[.pointer (some ⟨g, 0, none⟩), .agg (rC S).toArray, .agg x.cells.toArray] w (StepR w g (cStep S x)) := by
  have HO := hide (Own.nil w [g] (by simpa using h.lt))
  have HC := hide h
  have HA0 := hide hA
  have HOK := hide h.ok
  have HN := hide hn
  have HXB := hide hx.body
  have HRQ := hide (fun (X : World) => rcall_model HA0.out HOK.out HN.out x.group x.value X)
  have HRC := hide (fun (X : World) (hX : Cl X g S p) => call_c g S p x.group x.value X hX HN.out)
  have HAS := hide (cCall_asks HA0.out x.group x.value)
  have HSTEP : Hid (cStep S x = ((cCall S x.group x.value).st, if (cCall S x.group x.value).code = 0 then [(cCall S x.group x.value).out] else [])) := hide (by
    unfold cStep
    rw [if_neg (by omega), if_pos hk])
  generalize cCall S x.group x.value = r at *
  obtain ⟨st, o, c⟩ := r
  dsimp only at HSTEP HAS HRQ HRC
  have HG := hide HAS.out.2
  have HOL := hide HG.out.len
  have HOO := hide HG.out.ones
  have HRL := hide HAS.out.1.rlen
  have HRO := hide HAS.out.1.rones
  have HSL := hide hA.rlen
  have HSO := hide hA.rones
  obtain ⟨kk, hkk⟩ : ∃ kk : Nat, kk = if c = 0 then 1 else 0 := ⟨_, rfl⟩
  have hkk1 : kk ≤ 1 := by rw [hkk]; split <;> omega
  have HKK := hide hkk
  have hkk2 : (kk : Int) ≤ 1 := by omega
  have HBT : Hid (∀ X : World, Calls Try.prog 34 #[.bool (c == 0)] X fun e w' => e = .returned (.int .i64 (kk : Int)) ∧ X = w') := hide (fun X => (btoi_c _ X).mono fun e w' hh => ⟨by rw [hh.1, hkk]; by_cases hc : c = 0 <;> simp [hc], hh.2⟩)
  clear h hA hx hn hkk HAS
  go_enter Try.func20, Try.ntmps20
  go_wp2_with (first
    | ((with_reducible refine at_box 46 (.tmp 1) ?_); refine wpList_box_own_t HO.out rfl 46 (.tmp 1) rfl (rC S) rfl ?_; intro WA b4 hO hbl; replace HC := hide (HC.out.step hbl); replace HO := hide hO; clear hO hbl)
    | ((with_reducible refine at_box 43 (.tmp 2) ?_); refine wpList_box_own_t HO.out rfl 43 (.tmp 2) rfl (.int .i64 x.kind :: .int .i64 x.group :: .int .i64 x.frm :: .string x.body :: .int .i64 x.value :: (x.msg.cells ++ [.bool x.fit])) rfl ?_; intro WA b5 hO hbl; replace HC := hide (HC.out.step hbl); replace HO := hide hO; clear hO hbl)
    | ((with_reducible refine at_alloc 46 ?_); refine wpList_alloc_own_t HO.out rfl 46 rfl (zrc) zrc_info ?_; intro WA b6 hO hbl; replace HC := hide (HC.out.step hbl); replace HO := hide hO; have k1 := hO.cells 1 rfl; clear hO hbl)
    | ((with_reducible refine at_load 46 (.tmp 4) ?_); refine wpList_load_own HO.out rfl 46 (.tmp 4) rfl 0 _ 0 52 _ _ (rC S) _ rfl (take_all HSL.out) rfl Try.underlying46 rfl (rc_size HSL.out) ?_))
  refine (HRQ.out _).mono ?_
  rintro e w1 ⟨rfl, hb⟩
  replace HO := hide (HO.out.step hb)
  replace HC := hide (HC.out.step hb)
  clear hb HRQ k1
  go_wp2_with (first
    | ((with_reducible refine at_alloc 46 ?_); refine wpList_alloc_own_t HO.out rfl 46 rfl (zrc) zrc_info ?_; intro WA b9 hO hbl; replace HC := hide (HC.out.step hbl); replace HO := hide hO; clear hO hbl)
    | ((with_reducible refine at_alloc 59 ?_); refine wpList_alloc_own_t HO.out rfl 59 rfl (zout) zout_info ?_; intro WA b10 hO hbl; replace HC := hide (HC.out.step hbl); replace HO := hide hO; clear hO hbl)
    | ((with_reducible refine at_store 46 (.tmp 14) ?_); refine wpList_store_own_t HO.out rfl 46 (.tmp 14) _ rfl 3 _ 0 _ _ (rC st) (rC st) rfl (.agg (rC st).toArray) rfl rfl (fits_agg _) (by rw [HRL.out, zrc_len]; exact Nat.le_refl _) (splice_all (by rw [HRL.out, zrc_len])) (rc_size HRL.out) HRO.out ?_; intro WA hO hbk htc; replace HC := hide (HC.out.put hbk (by decide) htc); replace HO := hide hO; clear hO hbk htc)
    | ((with_reducible refine at_store 59 (.tmp 15) ?_); refine wpList_store_own_t HO.out rfl 59 (.tmp 15) _ rfl 4 _ 0 _ _ (o) (o) rfl (.agg (o).toArray) rfl rfl (fits_agg _) (by rw [HOL.out, zout_len]; exact Nat.le_refl _) (splice_all (by rw [HOL.out, zout_len])) (out_size HOL.out) HOO.out ?_; intro WA hO hbk htc; replace HC := hide (HC.out.put hbk (by decide) htc); replace HO := hide hO; have k1 := hO.cells 1 rfl; clear hO hbk htc))
  refine (HRC.out _ HC.out).mono ?_
  rintro e w2 ⟨rfl, ⟨q, hc⟩, ht⟩
  replace HO := hide (HO.out.call ht (by simp))
  replace HC := hide hc
  clear hc ht HRC k1
  dsimp only at HC
  go_wp2_with (first
    | ((with_reducible refine at_alloc 59 ?_); refine wpList_alloc_own_t HO.out rfl 59 rfl (zout) zout_info ?_; intro WA b12 hO hbl; replace HC := hide (HC.out.step hbl); replace HO := hide hO; clear hO hbl)
    | ((with_reducible refine at_store 59 (.tmp 17) ?_); refine wpList_store_own_t HO.out rfl 59 (.tmp 17) _ rfl 5 _ 0 _ _ (o) (o) rfl (.agg (o).toArray) rfl rfl (fits_agg _) (by rw [HOL.out, zout_len]; exact Nat.le_refl _) (splice_all (by rw [HOL.out, zout_len])) (out_size HOL.out) HOO.out ?_; intro WA hO hbk htc; replace HC := hide (HC.out.put hbk (by decide) htc); replace HO := hide hO; clear hO hbk htc))
  refine wp_region_held_drew (S := fun W => (∀ j, W.cell? ⟨b9, j, none⟩ = (rC st : List Value)[j]?) ∧ (∀ j, W.cell? ⟨b10, j, none⟩ = (o : List Value)[j]?) ∧ (∀ j, W.cell? ⟨b12, j, none⟩ = (o : List Value)[j]?)) (by kernel_rfl) (⟨HO.out.drew.cells 3 rfl, HO.out.drew.cells 4 rfl, HO.out.drew.cells 5 rfl⟩) (fun hS0 => ?_)
  replace HO := hide HO.out.drew
  replace HC := hide HC.out.drew
  refine wpAnyH_take (i := 0) (v := .agg (rC st).toArray) rfl (by kernel_rfl) (by kernel_rfl) (by kernel_rfl) (fun _ _ _ h => h) (yieldsIf_load rfl 46 (.tmp 14) rfl b9 0 52 46 (rC st) (rC st) _ (fun w hw => hw.1) (take_all HRL.out) rfl Try.underlying46 rfl (rc_size HRL.out)) (by assumption) ?_
  try simp only [Act.put, List.getElem_toArray, List.getElem_cons_zero, List.getElem_cons_succ, List.setIfInBounds_toArray, List.set_cons_zero, List.set_cons_succ]
  refine wpAnyH_take (i := 1) (v := .agg o.toArray) rfl (by kernel_rfl) (by kernel_rfl) (by kernel_rfl) (fun _ _ _ h => h) (yieldsIf_load rfl 59 (.tmp 17) rfl b12 0 48 59 o o _ (fun w hw => hw.2.2) (take_all HOL.out) rfl Try.underlying59 rfl (out_size HOL.out)) (by assumption) ?_
  try simp only [Act.put, List.getElem_toArray, List.getElem_cons_zero, List.getElem_cons_succ, List.setIfInBounds_toArray, List.set_cons_zero, List.set_cons_succ]
  refine wpAnyH_take (i := 3) (v := ?vp3) rfl (by kernel_rfl) (by kernel_rfl) (by kernel_rfl) (fun _ _ _ h => h) (Or.inl ⟨by rfl, ?hyp3⟩) (by assumption) ?restp3
  case hyp3 => (intro w hSw; (try dsimp only at hSw); go_simp; first | done | (with_reducible rfl))
  try simp only [Act.put, List.getElem_toArray, List.getElem_cons_zero, List.getElem_cons_succ, List.setIfInBounds_toArray, List.set_cons_zero, List.set_cons_succ]
  refine wpAnyH_take (i := 4) (v := ?vp4) rfl (by kernel_rfl) (by kernel_rfl) (by kernel_rfl) (fun _ _ _ h => h) (Or.inl ⟨by rfl, ?hyp4⟩) (by assumption) ?restp4
  case hyp4 => (intro w hSw; (try dsimp only at hSw); go_simp; first | done | (with_reducible rfl))
  try simp only [Act.put, List.getElem_toArray, List.getElem_cons_zero, List.getElem_cons_succ, List.setIfInBounds_toArray, List.set_cons_zero, List.set_cons_succ]
  refine wpAnyH_take (i := 7) (v := ?vp5) rfl (by kernel_rfl) (by kernel_rfl) (by kernel_rfl) (fun _ _ _ h => h) (Or.inl ⟨by rfl, ?hyp5⟩) (by assumption) ?restp5
  case hyp5 => (intro w hSw; (try dsimp only at hSw); go_simp; first | done | (with_reducible rfl))
  try simp only [Act.put, List.getElem_toArray, List.getElem_cons_zero, List.getElem_cons_succ, List.setIfInBounds_toArray, List.set_cons_zero, List.set_cons_succ]
  refine wpAnyH_take (i := 8) (v := ?vp6) rfl (by kernel_rfl) (by kernel_rfl) (by kernel_rfl) (fun _ _ _ h => h) (Or.inl ⟨by rfl, ?hyp6⟩) (by assumption) ?restp6
  case hyp6 => (intro w hSw; (try dsimp only at hSw); go_simp; first | done | (with_reducible rfl))
  try simp only [Act.put, List.getElem_toArray, List.getElem_cons_zero, List.getElem_cons_succ, List.setIfInBounds_toArray, List.set_cons_zero, List.set_cons_succ]
  refine wpAnyH_take (i := 9) (v := ?vp7) rfl (by kernel_rfl) (by kernel_rfl) (by kernel_rfl) (fun _ _ _ h => h) (Or.inl ⟨by rfl, ?hyp7⟩) (by assumption) ?restp7
  case hyp7 => (intro w hSw; (try dsimp only at hSw); go_simp; first | done | (with_reducible rfl))
  try simp only [Act.put, List.getElem_toArray, List.getElem_cons_zero, List.getElem_cons_succ, List.setIfInBounds_toArray, List.set_cons_zero, List.set_cons_succ]
  refine' tail_3 (I := fun b2 c1 c2 W => Own w [g] ([(b4, 46, rC S), (b5, 43, .int .i64 x.kind :: .int .i64 x.group :: .int .i64 x.frm :: .string x.body :: .int .i64 x.value :: (x.msg.cells ++ [.bool x.fit])), (b6, 46, rC st), (b9, 46, rC st), (b10, 59, o), (b12, 59, o)] ++ [(b2, 59, o)]) W ∧ Cl W g st q) (fun TABCDEF => ?_) ?_
  rotate_left
  refine' tail_3 (I := fun b2 c1 c2 W => Own w [g] ([(b4, 46, rC S), (b5, 43, .int .i64 x.kind :: .int .i64 x.group :: .int .i64 x.frm :: .string x.body :: .int .i64 x.value :: (x.msg.cells ++ [.bool x.fit])), (b6, 46, zrc), (b9, 46, rC st), (b10, 59, o), (b12, 59, o)] ++ [(b2, 59, o)]) W ∧ Cl W g st q) (fun TABCDE => ?_) ?_
  rotate_left
  refine' tail_2 (I := fun c1 c2 W => Own w [g] ([(b4, 46, rC S), (b5, 43, .int .i64 x.kind :: .int .i64 x.group :: .int .i64 x.frm :: .string x.body :: .int .i64 x.value :: (x.msg.cells ++ [.bool x.fit])), (b6, 46, rC st), (b9, 46, rC st), (b10, 59, o), (b12, 59, o)]) W ∧ Cl W g st q) (fun TBCDEF => ?_) ?_
  rotate_left
  refine' tail_3 (I := fun b2 c1 c2 W => Own w [g] ([(b4, 46, rC S), (b5, 43, .int .i64 x.kind :: .int .i64 x.group :: .int .i64 x.frm :: .string x.body :: .int .i64 x.value :: (x.msg.cells ++ [.bool x.fit])), (b6, 46, zrc), (b9, 46, rC st), (b10, 59, o), (b12, 59, o)] ++ [(c1, 59, o)] ++ [(c2, 59, o)] ++ [(b2, 59, o)]) W ∧ Cl W g st q) (fun TABCD => ?_) ?_
  rotate_left
  refine' tail_2 (I := fun c1 c2 W => Own w [g] ([(b4, 46, rC S), (b5, 43, .int .i64 x.kind :: .int .i64 x.group :: .int .i64 x.frm :: .string x.body :: .int .i64 x.value :: (x.msg.cells ++ [.bool x.fit])), (b6, 46, zrc), (b9, 46, rC st), (b10, 59, o), (b12, 59, o)]) W ∧ Cl W g st q) (fun TBCDE => ?_) ?_
  rotate_left
  refine' tail_2 (I := fun b2 c1 W => Own w [g] ([(b4, 46, rC S), (b5, 43, .int .i64 x.kind :: .int .i64 x.group :: .int .i64 x.frm :: .string x.body :: .int .i64 x.value :: (x.msg.cells ++ [.bool x.fit])), (b6, 46, zrc), (b9, 46, rC st), (b10, 59, o), (b12, 59, o)] ++ [(c1, 59, o)] ++ [(b2, 59, o)]) W ∧ Cl W g st q) (fun TABC => ?_) ?_
  rotate_left
  refine' tail_2 (I := fun b2 c2 W => Own w [g] ([(b4, 46, rC S), (b5, 43, .int .i64 x.kind :: .int .i64 x.group :: .int .i64 x.frm :: .string x.body :: .int .i64 x.value :: (x.msg.cells ++ [.bool x.fit])), (b6, 46, zrc), (b9, 46, rC st), (b10, 59, o), (b12, 59, o)] ++ [(c2, 59, o)] ++ [(b2, 59, o)]) W ∧ Cl W g st q) (fun TABD => ?_) ?_
  rotate_left
  refine' tail_2 (I := fun c1 c2 W => Own w [g] ([(b4, 46, rC S), (b5, 43, .int .i64 x.kind :: .int .i64 x.group :: .int .i64 x.frm :: .string x.body :: .int .i64 x.value :: (x.msg.cells ++ [.bool x.fit])), (b6, 46, zrc), (b9, 46, rC st), (b10, 59, o), (b12, 59, o)] ++ [(c1, 59, o)] ++ [(c2, 59, o)]) W ∧ Cl W g st q) (fun TBCD => ?_) ?_
  rotate_left
  refine' tail_1 (I := fun b2 W => Own w [g] ([(b4, 46, rC S), (b5, 43, .int .i64 x.kind :: .int .i64 x.group :: .int .i64 x.frm :: .string x.body :: .int .i64 x.value :: (x.msg.cells ++ [.bool x.fit])), (b6, 46, zrc), (b9, 46, rC st), (b10, 59, o), (b12, 59, o)] ++ [(b2, 59, o)]) W ∧ Cl W g st q) (fun TAB => ?_) ?_
  rotate_left
  refine' tail_1 (I := fun c1 W => Own w [g] ([(b4, 46, rC S), (b5, 43, .int .i64 x.kind :: .int .i64 x.group :: .int .i64 x.frm :: .string x.body :: .int .i64 x.value :: (x.msg.cells ++ [.bool x.fit])), (b6, 46, zrc), (b9, 46, rC st), (b10, 59, o), (b12, 59, o)] ++ [(c1, 59, o)]) W ∧ Cl W g st q) (fun TBC => ?_) ?_
  rotate_left
  refine' tail_1 (I := fun c2 W => Own w [g] ([(b4, 46, rC S), (b5, 43, .int .i64 x.kind :: .int .i64 x.group :: .int .i64 x.frm :: .string x.body :: .int .i64 x.value :: (x.msg.cells ++ [.bool x.fit])), (b6, 46, zrc), (b9, 46, rC st), (b10, 59, o), (b12, 59, o)] ++ [(c2, 59, o)]) W ∧ Cl W g st q) (fun TBD => ?_) ?_
  rotate_left
  refine' tail_1 (I := fun b2 W => Own w [g] ([(b4, 46, rC S), (b5, 43, .int .i64 x.kind :: .int .i64 x.group :: .int .i64 x.frm :: .string x.body :: .int .i64 x.value :: (x.msg.cells ++ [.bool x.fit])), (b6, 46, zrc), (b9, 46, rC st), (b10, 59, o), (b12, 59, o)] ++ [(b2, 59, o)]) W ∧ Cl W g st q) (fun TA => ?_) ?_
  rotate_left
  refine' tail_0 (I := fun  W => Own w [g] ([(b4, 46, rC S), (b5, 43, .int .i64 x.kind :: .int .i64 x.group :: .int .i64 x.frm :: .string x.body :: .int .i64 x.value :: (x.msg.cells ++ [.bool x.fit])), (b6, 46, zrc), (b9, 46, rC st), (b10, 59, o), (b12, 59, o)]) W ∧ Cl W g st q) (fun TB => ?_) ?_
  rotate_left
  · refine wpAnyH_ready (rs := [2, 5]) (by kernel_rfl) (by simp) ?_
    refine AllReadyH.cons rfl (fun K hK => ?_) (AllReadyH.cons rfl (fun K hK => ?_) (AllReadyH.nil))
    · refine step_slice_own_t HO.out rfl 53 59 1 #[(0, .tmp 91)] rfl Try.underlying53 o (by simpa [Act.eval] using slice_one o HOL.out) ?_
      intro WA b2 hO hbl
      replace HC := hide (HC.out.step hbl)
      replace HO := hide hO
      clear hO hbl
      replace HO := hide (show Own w [g] ([(b4, 46, rC S), (b5, 43, .int .i64 x.kind :: .int .i64 x.group :: .int .i64 x.frm :: .string x.body :: .int .i64 x.value :: (x.msg.cells ++ [.bool x.fit])), (b6, 46, zrc), (b9, 46, rC st), (b10, 59, o), (b12, 59, o)] ++ [(b2, 59, o)]) _ from HO.out)
      refine hK.out _ _ (⟨HO.out.cells 3 rfl, HO.out.cells 4 rfl, HO.out.cells 5 rfl⟩) (fun _ => ?_)
      clear hK K
      try simp only [Act.put, List.getElem_toArray, List.getElem_cons_zero, List.getElem_cons_succ, List.setIfInBounds_toArray, List.set_cons_zero, List.set_cons_succ]
      exact TA b2 _ ⟨HO.out, HC.out⟩
    · go_simp
      refine (HBT.out _).mono ?_
      rintro e _ ⟨rfl, rfl⟩
      replace HO := hide (show Own w [g] ([(b4, 46, rC S), (b5, 43, .int .i64 x.kind :: .int .i64 x.group :: .int .i64 x.frm :: .string x.body :: .int .i64 x.value :: (x.msg.cells ++ [.bool x.fit])), (b6, 46, zrc), (b9, 46, rC st), (b10, 59, o), (b12, 59, o)]) _ from HO.out)
      refine hK.out _ _ (⟨HO.out.cells 3 rfl, HO.out.cells 4 rfl, HO.out.cells 5 rfl⟩) (fun _ => ?_)
      clear hK K
      try simp only [Act.put, List.getElem_toArray, List.getElem_cons_zero, List.getElem_cons_succ, List.setIfInBounds_toArray, List.set_cons_zero, List.set_cons_succ]
      refine wpAnyH_take (i := 10) (v := ?vp11) rfl (by kernel_rfl) (by kernel_rfl) (by kernel_rfl) (fun _ _ _ h => h) (Or.inl ⟨by rfl, ?hyp11⟩) (by assumption) ?restp11
      case hyp11 => (intro w hSw; (try dsimp only at hSw); go_simp; first | done | (with_reducible rfl))
      try simp only [Act.put, List.getElem_toArray, List.getElem_cons_zero, List.getElem_cons_succ, List.setIfInBounds_toArray, List.set_cons_zero, List.set_cons_succ]
      refine wpAnyH_take (i := 11) (v := .agg o.toArray) rfl (by kernel_rfl) (by kernel_rfl) (by kernel_rfl) (fun _ _ _ h => h) (yieldsIf_load rfl 59 (.tmp 15) rfl b10 0 48 59 o o _ (fun w hw => hw.2.1) (take_all HOL.out) rfl Try.underlying59 rfl (out_size HOL.out)) (by assumption) ?_
      try simp only [Act.put, List.getElem_toArray, List.getElem_cons_zero, List.getElem_cons_succ, List.setIfInBounds_toArray, List.set_cons_zero, List.set_cons_succ]
      refine wpAnyH_take (i := 13) (v := .agg o.toArray) rfl (by kernel_rfl) (by kernel_rfl) (by kernel_rfl) (fun _ _ _ h => h) (yieldsIf_load rfl 59 (.tmp 17) rfl b12 0 48 59 o o _ (fun w hw => hw.2.2) (take_all HOL.out) rfl Try.underlying59 rfl (out_size HOL.out)) (by assumption) ?_
      try simp only [Act.put, List.getElem_toArray, List.getElem_cons_zero, List.getElem_cons_succ, List.setIfInBounds_toArray, List.set_cons_zero, List.set_cons_succ]
      exact TB  _ ⟨HO.out, HC.out⟩
  · intro  WT hI
    obtain ⟨hO, hC⟩ := hI
    replace HO := hide hO
    replace HC := hide hC
    clear hO hC
    have hSS : (fun W => (∀ j, W.cell? ⟨b9, j, none⟩ = (rC st : List Value)[j]?) ∧ (∀ j, W.cell? ⟨b10, j, none⟩ = (o : List Value)[j]?) ∧ (∀ j, W.cell? ⟨b12, j, none⟩ = (o : List Value)[j]?)) WT := ⟨HO.out.cells 3 rfl, HO.out.cells 4 rfl, HO.out.cells 5 rfl⟩
    refine wpAnyH_ready (rs := [2, 12, 14]) (by kernel_rfl) (by simp) ?_
    refine AllReadyH.cons rfl (fun K hK => ?_) (AllReadyH.cons rfl (fun K hK => ?_) (AllReadyH.cons rfl (fun K hK => ?_) (AllReadyH.nil)))
    · refine step_slice_own_t HO.out rfl 53 59 1 #[(0, .tmp 91)] rfl Try.underlying53 o (by simpa [Act.eval] using slice_one o HOL.out) ?_
      intro WA b2 hO hbl
      replace HC := hide (HC.out.step hbl)
      replace HO := hide hO
      clear hO hbl
      replace HO := hide (show Own w [g] ([(b4, 46, rC S), (b5, 43, .int .i64 x.kind :: .int .i64 x.group :: .int .i64 x.frm :: .string x.body :: .int .i64 x.value :: (x.msg.cells ++ [.bool x.fit])), (b6, 46, zrc), (b9, 46, rC st), (b10, 59, o), (b12, 59, o)] ++ [(b2, 59, o)]) _ from HO.out)
      refine hK.out _ _ (⟨HO.out.cells 3 rfl, HO.out.cells 4 rfl, HO.out.cells 5 rfl⟩) (fun _ => ?_)
      clear hK K
      try simp only [Act.put, List.getElem_toArray, List.getElem_cons_zero, List.getElem_cons_succ, List.setIfInBounds_toArray, List.set_cons_zero, List.set_cons_succ]
      refine wpAnyH_take (i := 6) (v := ?vp14) rfl (by kernel_rfl) (by kernel_rfl) (by kernel_rfl) (fun _ _ _ h => h) (Or.inl ⟨by rfl, ?hyp14⟩) (by assumption) ?restp14
      case hyp14 => (intro w hSw; (try dsimp only at hSw); go_simp; first | done | (with_reducible rfl))
      try simp only [Act.put, List.getElem_toArray, List.getElem_cons_zero, List.getElem_cons_succ, List.setIfInBounds_toArray, List.set_cons_zero, List.set_cons_succ]
      exact TAB b2 _ ⟨HO.out, HC.out⟩
    · refine step_slice_own_t HO.out rfl 53 59 1 #[(0, .tmp 101)] rfl Try.underlying53 o (by simpa [Act.eval] using slice_one o HOL.out) ?_
      intro WA c1 hO hbl
      replace HC := hide (HC.out.step hbl)
      replace HO := hide hO
      clear hO hbl
      replace HO := hide (show Own w [g] ([(b4, 46, rC S), (b5, 43, .int .i64 x.kind :: .int .i64 x.group :: .int .i64 x.frm :: .string x.body :: .int .i64 x.value :: (x.msg.cells ++ [.bool x.fit])), (b6, 46, zrc), (b9, 46, rC st), (b10, 59, o), (b12, 59, o)] ++ [(c1, 59, o)]) _ from HO.out)
      refine hK.out _ _ (⟨HO.out.cells 3 rfl, HO.out.cells 4 rfl, HO.out.cells 5 rfl⟩) (fun _ => ?_)
      clear hK K
      try simp only [Act.put, List.getElem_toArray, List.getElem_cons_zero, List.getElem_cons_succ, List.setIfInBounds_toArray, List.set_cons_zero, List.set_cons_succ]
      exact TBC c1 _ ⟨HO.out, HC.out⟩
    · refine step_slice_own_t HO.out rfl 53 59 1 #[(0, .tmp 103)] rfl Try.underlying53 o (by simpa [Act.eval] using slice_one o HOL.out) ?_
      intro WA c2 hO hbl
      replace HC := hide (HC.out.step hbl)
      replace HO := hide hO
      clear hO hbl
      replace HO := hide (show Own w [g] ([(b4, 46, rC S), (b5, 43, .int .i64 x.kind :: .int .i64 x.group :: .int .i64 x.frm :: .string x.body :: .int .i64 x.value :: (x.msg.cells ++ [.bool x.fit])), (b6, 46, zrc), (b9, 46, rC st), (b10, 59, o), (b12, 59, o)] ++ [(c2, 59, o)]) _ from HO.out)
      refine hK.out _ _ (⟨HO.out.cells 3 rfl, HO.out.cells 4 rfl, HO.out.cells 5 rfl⟩) (fun _ => ?_)
      clear hK K
      try simp only [Act.put, List.getElem_toArray, List.getElem_cons_zero, List.getElem_cons_succ, List.setIfInBounds_toArray, List.set_cons_zero, List.set_cons_succ]
      exact TBD c2 _ ⟨HO.out, HC.out⟩
  · intro b2 WT hI
    obtain ⟨hO, hC⟩ := hI
    replace HO := hide hO
    replace HC := hide hC
    clear hO hC
    have hSS : (fun W => (∀ j, W.cell? ⟨b9, j, none⟩ = (rC st : List Value)[j]?) ∧ (∀ j, W.cell? ⟨b10, j, none⟩ = (o : List Value)[j]?) ∧ (∀ j, W.cell? ⟨b12, j, none⟩ = (o : List Value)[j]?)) WT := ⟨HO.out.cells 3 rfl, HO.out.cells 4 rfl, HO.out.cells 5 rfl⟩
    refine wpAnyH_ready (rs := [5]) (by kernel_rfl) (by simp) ?_
    refine AllReadyH.cons rfl (fun K hK => ?_) (AllReadyH.nil)
    · go_simp
      refine (HBT.out _).mono ?_
      rintro e _ ⟨rfl, rfl⟩
      replace HO := hide (show Own w [g] ([(b4, 46, rC S), (b5, 43, .int .i64 x.kind :: .int .i64 x.group :: .int .i64 x.frm :: .string x.body :: .int .i64 x.value :: (x.msg.cells ++ [.bool x.fit])), (b6, 46, zrc), (b9, 46, rC st), (b10, 59, o), (b12, 59, o)] ++ [(b2, 59, o)]) _ from HO.out)
      refine hK.out _ _ (⟨HO.out.cells 3 rfl, HO.out.cells 4 rfl, HO.out.cells 5 rfl⟩) (fun _ => ?_)
      clear hK K
      try simp only [Act.put, List.getElem_toArray, List.getElem_cons_zero, List.getElem_cons_succ, List.setIfInBounds_toArray, List.set_cons_zero, List.set_cons_succ]
      refine wpAnyH_take (i := 6) (v := ?vp15) rfl (by kernel_rfl) (by kernel_rfl) (by kernel_rfl) (fun _ _ _ h => h) (Or.inl ⟨by rfl, ?hyp15⟩) (by assumption) ?restp15
      case hyp15 => (intro w hSw; (try dsimp only at hSw); go_simp; first | done | (with_reducible rfl))
      try simp only [Act.put, List.getElem_toArray, List.getElem_cons_zero, List.getElem_cons_succ, List.setIfInBounds_toArray, List.set_cons_zero, List.set_cons_succ]
      refine wpAnyH_take (i := 10) (v := ?vp16) rfl (by kernel_rfl) (by kernel_rfl) (by kernel_rfl) (fun _ _ _ h => h) (Or.inl ⟨by rfl, ?hyp16⟩) (by assumption) ?restp16
      case hyp16 => (intro w hSw; (try dsimp only at hSw); go_simp; first | done | (with_reducible rfl))
      try simp only [Act.put, List.getElem_toArray, List.getElem_cons_zero, List.getElem_cons_succ, List.setIfInBounds_toArray, List.set_cons_zero, List.set_cons_succ]
      refine wpAnyH_take (i := 11) (v := .agg o.toArray) rfl (by kernel_rfl) (by kernel_rfl) (by kernel_rfl) (fun _ _ _ h => h) (yieldsIf_load rfl 59 (.tmp 15) rfl b10 0 48 59 o o _ (fun w hw => hw.2.1) (take_all HOL.out) rfl Try.underlying59 rfl (out_size HOL.out)) (by assumption) ?_
      try simp only [Act.put, List.getElem_toArray, List.getElem_cons_zero, List.getElem_cons_succ, List.setIfInBounds_toArray, List.set_cons_zero, List.set_cons_succ]
      refine wpAnyH_take (i := 13) (v := .agg o.toArray) rfl (by kernel_rfl) (by kernel_rfl) (by kernel_rfl) (fun _ _ _ h => h) (yieldsIf_load rfl 59 (.tmp 17) rfl b12 0 48 59 o o _ (fun w hw => hw.2.2) (take_all HOL.out) rfl Try.underlying59 rfl (out_size HOL.out)) (by assumption) ?_
      try simp only [Act.put, List.getElem_toArray, List.getElem_cons_zero, List.getElem_cons_succ, List.setIfInBounds_toArray, List.set_cons_zero, List.set_cons_succ]
      exact TAB b2 _ ⟨HO.out, HC.out⟩
  · intro c2 WT hI
    obtain ⟨hO, hC⟩ := hI
    replace HO := hide hO
    replace HC := hide hC
    clear hO hC
    have hSS : (fun W => (∀ j, W.cell? ⟨b9, j, none⟩ = (rC st : List Value)[j]?) ∧ (∀ j, W.cell? ⟨b10, j, none⟩ = (o : List Value)[j]?) ∧ (∀ j, W.cell? ⟨b12, j, none⟩ = (o : List Value)[j]?)) WT := ⟨HO.out.cells 3 rfl, HO.out.cells 4 rfl, HO.out.cells 5 rfl⟩
    refine wpAnyH_ready (rs := [2, 12]) (by kernel_rfl) (by simp) ?_
    refine AllReadyH.cons rfl (fun K hK => ?_) (AllReadyH.cons rfl (fun K hK => ?_) (AllReadyH.nil))
    · refine step_slice_own_t HO.out rfl 53 59 1 #[(0, .tmp 91)] rfl Try.underlying53 o (by simpa [Act.eval] using slice_one o HOL.out) ?_
      intro WA b2 hO hbl
      replace HC := hide (HC.out.step hbl)
      replace HO := hide hO
      clear hO hbl
      replace HO := hide (show Own w [g] ([(b4, 46, rC S), (b5, 43, .int .i64 x.kind :: .int .i64 x.group :: .int .i64 x.frm :: .string x.body :: .int .i64 x.value :: (x.msg.cells ++ [.bool x.fit])), (b6, 46, zrc), (b9, 46, rC st), (b10, 59, o), (b12, 59, o)] ++ [(c2, 59, o)] ++ [(b2, 59, o)]) _ from HO.out)
      refine hK.out _ _ (⟨HO.out.cells 3 rfl, HO.out.cells 4 rfl, HO.out.cells 5 rfl⟩) (fun _ => ?_)
      clear hK K
      try simp only [Act.put, List.getElem_toArray, List.getElem_cons_zero, List.getElem_cons_succ, List.setIfInBounds_toArray, List.set_cons_zero, List.set_cons_succ]
      refine wpAnyH_take (i := 6) (v := ?vp19) rfl (by kernel_rfl) (by kernel_rfl) (by kernel_rfl) (fun _ _ _ h => h) (Or.inl ⟨by rfl, ?hyp19⟩) (by assumption) ?restp19
      case hyp19 => (intro w hSw; (try dsimp only at hSw); go_simp; first | done | (with_reducible rfl))
      try simp only [Act.put, List.getElem_toArray, List.getElem_cons_zero, List.getElem_cons_succ, List.setIfInBounds_toArray, List.set_cons_zero, List.set_cons_succ]
      exact TABD b2 c2 _ ⟨HO.out, HC.out⟩
    · refine step_slice_own_t HO.out rfl 53 59 1 #[(0, .tmp 101)] rfl Try.underlying53 o (by simpa [Act.eval] using slice_one o HOL.out) ?_
      intro WA c1 hO hbl
      replace HC := hide (HC.out.step hbl)
      replace HO := hide hO.swap
      clear hO hbl
      replace HO := hide (show Own w [g] ([(b4, 46, rC S), (b5, 43, .int .i64 x.kind :: .int .i64 x.group :: .int .i64 x.frm :: .string x.body :: .int .i64 x.value :: (x.msg.cells ++ [.bool x.fit])), (b6, 46, zrc), (b9, 46, rC st), (b10, 59, o), (b12, 59, o)] ++ [(c1, 59, o)] ++ [(c2, 59, o)]) _ from HO.out)
      refine hK.out _ _ (⟨HO.out.cells 3 rfl, HO.out.cells 4 rfl, HO.out.cells 5 rfl⟩) (fun _ => ?_)
      clear hK K
      try simp only [Act.put, List.getElem_toArray, List.getElem_cons_zero, List.getElem_cons_succ, List.setIfInBounds_toArray, List.set_cons_zero, List.set_cons_succ]
      exact TBCD c1 c2 _ ⟨HO.out, HC.out⟩
  · intro c1 WT hI
    obtain ⟨hO, hC⟩ := hI
    replace HO := hide hO
    replace HC := hide hC
    clear hO hC
    have hSS : (fun W => (∀ j, W.cell? ⟨b9, j, none⟩ = (rC st : List Value)[j]?) ∧ (∀ j, W.cell? ⟨b10, j, none⟩ = (o : List Value)[j]?) ∧ (∀ j, W.cell? ⟨b12, j, none⟩ = (o : List Value)[j]?)) WT := ⟨HO.out.cells 3 rfl, HO.out.cells 4 rfl, HO.out.cells 5 rfl⟩
    refine wpAnyH_ready (rs := [2, 14]) (by kernel_rfl) (by simp) ?_
    refine AllReadyH.cons rfl (fun K hK => ?_) (AllReadyH.cons rfl (fun K hK => ?_) (AllReadyH.nil))
    · refine step_slice_own_t HO.out rfl 53 59 1 #[(0, .tmp 91)] rfl Try.underlying53 o (by simpa [Act.eval] using slice_one o HOL.out) ?_
      intro WA b2 hO hbl
      replace HC := hide (HC.out.step hbl)
      replace HO := hide hO
      clear hO hbl
      replace HO := hide (show Own w [g] ([(b4, 46, rC S), (b5, 43, .int .i64 x.kind :: .int .i64 x.group :: .int .i64 x.frm :: .string x.body :: .int .i64 x.value :: (x.msg.cells ++ [.bool x.fit])), (b6, 46, zrc), (b9, 46, rC st), (b10, 59, o), (b12, 59, o)] ++ [(c1, 59, o)] ++ [(b2, 59, o)]) _ from HO.out)
      refine hK.out _ _ (⟨HO.out.cells 3 rfl, HO.out.cells 4 rfl, HO.out.cells 5 rfl⟩) (fun _ => ?_)
      clear hK K
      try simp only [Act.put, List.getElem_toArray, List.getElem_cons_zero, List.getElem_cons_succ, List.setIfInBounds_toArray, List.set_cons_zero, List.set_cons_succ]
      refine wpAnyH_take (i := 6) (v := ?vp20) rfl (by kernel_rfl) (by kernel_rfl) (by kernel_rfl) (fun _ _ _ h => h) (Or.inl ⟨by rfl, ?hyp20⟩) (by assumption) ?restp20
      case hyp20 => (intro w hSw; (try dsimp only at hSw); go_simp; first | done | (with_reducible rfl))
      try simp only [Act.put, List.getElem_toArray, List.getElem_cons_zero, List.getElem_cons_succ, List.setIfInBounds_toArray, List.set_cons_zero, List.set_cons_succ]
      exact TABC b2 c1 _ ⟨HO.out, HC.out⟩
    · refine step_slice_own_t HO.out rfl 53 59 1 #[(0, .tmp 103)] rfl Try.underlying53 o (by simpa [Act.eval] using slice_one o HOL.out) ?_
      intro WA c2 hO hbl
      replace HC := hide (HC.out.step hbl)
      replace HO := hide hO
      clear hO hbl
      replace HO := hide (show Own w [g] ([(b4, 46, rC S), (b5, 43, .int .i64 x.kind :: .int .i64 x.group :: .int .i64 x.frm :: .string x.body :: .int .i64 x.value :: (x.msg.cells ++ [.bool x.fit])), (b6, 46, zrc), (b9, 46, rC st), (b10, 59, o), (b12, 59, o)] ++ [(c1, 59, o)] ++ [(c2, 59, o)]) _ from HO.out)
      refine hK.out _ _ (⟨HO.out.cells 3 rfl, HO.out.cells 4 rfl, HO.out.cells 5 rfl⟩) (fun _ => ?_)
      clear hK K
      try simp only [Act.put, List.getElem_toArray, List.getElem_cons_zero, List.getElem_cons_succ, List.setIfInBounds_toArray, List.set_cons_zero, List.set_cons_succ]
      exact TBCD c1 c2 _ ⟨HO.out, HC.out⟩
  · intro b2 WT hI
    obtain ⟨hO, hC⟩ := hI
    replace HO := hide hO
    replace HC := hide hC
    clear hO hC
    have hSS : (fun W => (∀ j, W.cell? ⟨b9, j, none⟩ = (rC st : List Value)[j]?) ∧ (∀ j, W.cell? ⟨b10, j, none⟩ = (o : List Value)[j]?) ∧ (∀ j, W.cell? ⟨b12, j, none⟩ = (o : List Value)[j]?)) WT := ⟨HO.out.cells 3 rfl, HO.out.cells 4 rfl, HO.out.cells 5 rfl⟩
    refine wpAnyH_ready (rs := [12, 14]) (by kernel_rfl) (by simp) ?_
    refine AllReadyH.cons rfl (fun K hK => ?_) (AllReadyH.cons rfl (fun K hK => ?_) (AllReadyH.nil))
    · refine step_slice_own_t HO.out rfl 53 59 1 #[(0, .tmp 101)] rfl Try.underlying53 o (by simpa [Act.eval] using slice_one o HOL.out) ?_
      intro WA c1 hO hbl
      replace HC := hide (HC.out.step hbl)
      replace HO := hide hO.swap
      clear hO hbl
      replace HO := hide (show Own w [g] ([(b4, 46, rC S), (b5, 43, .int .i64 x.kind :: .int .i64 x.group :: .int .i64 x.frm :: .string x.body :: .int .i64 x.value :: (x.msg.cells ++ [.bool x.fit])), (b6, 46, zrc), (b9, 46, rC st), (b10, 59, o), (b12, 59, o)] ++ [(c1, 59, o)] ++ [(b2, 59, o)]) _ from HO.out)
      refine hK.out _ _ (⟨HO.out.cells 3 rfl, HO.out.cells 4 rfl, HO.out.cells 5 rfl⟩) (fun _ => ?_)
      clear hK K
      try simp only [Act.put, List.getElem_toArray, List.getElem_cons_zero, List.getElem_cons_succ, List.setIfInBounds_toArray, List.set_cons_zero, List.set_cons_succ]
      exact TABC b2 c1 _ ⟨HO.out, HC.out⟩
    · refine step_slice_own_t HO.out rfl 53 59 1 #[(0, .tmp 103)] rfl Try.underlying53 o (by simpa [Act.eval] using slice_one o HOL.out) ?_
      intro WA c2 hO hbl
      replace HC := hide (HC.out.step hbl)
      replace HO := hide hO.swap
      clear hO hbl
      replace HO := hide (show Own w [g] ([(b4, 46, rC S), (b5, 43, .int .i64 x.kind :: .int .i64 x.group :: .int .i64 x.frm :: .string x.body :: .int .i64 x.value :: (x.msg.cells ++ [.bool x.fit])), (b6, 46, zrc), (b9, 46, rC st), (b10, 59, o), (b12, 59, o)] ++ [(c2, 59, o)] ++ [(b2, 59, o)]) _ from HO.out)
      refine hK.out _ _ (⟨HO.out.cells 3 rfl, HO.out.cells 4 rfl, HO.out.cells 5 rfl⟩) (fun _ => ?_)
      clear hK K
      try simp only [Act.put, List.getElem_toArray, List.getElem_cons_zero, List.getElem_cons_succ, List.setIfInBounds_toArray, List.set_cons_zero, List.set_cons_succ]
      exact TABD b2 c2 _ ⟨HO.out, HC.out⟩
  · intro c1 c2 WT hI
    obtain ⟨hO, hC⟩ := hI
    replace HO := hide hO
    replace HC := hide hC
    clear hO hC
    have hSS : (fun W => (∀ j, W.cell? ⟨b9, j, none⟩ = (rC st : List Value)[j]?) ∧ (∀ j, W.cell? ⟨b10, j, none⟩ = (o : List Value)[j]?) ∧ (∀ j, W.cell? ⟨b12, j, none⟩ = (o : List Value)[j]?)) WT := ⟨HO.out.cells 3 rfl, HO.out.cells 4 rfl, HO.out.cells 5 rfl⟩
    refine wpAnyH_ready (rs := [2, 15]) (by kernel_rfl) (by simp) ?_
    refine AllReadyH.cons rfl (fun K hK => ?_) (AllReadyH.cons rfl (fun K hK => ?_) (AllReadyH.nil))
    · refine step_slice_own_t HO.out rfl 53 59 1 #[(0, .tmp 91)] rfl Try.underlying53 o (by simpa [Act.eval] using slice_one o HOL.out) ?_
      intro WA b2 hO hbl
      replace HC := hide (HC.out.step hbl)
      replace HO := hide hO
      clear hO hbl
      replace HO := hide (show Own w [g] ([(b4, 46, rC S), (b5, 43, .int .i64 x.kind :: .int .i64 x.group :: .int .i64 x.frm :: .string x.body :: .int .i64 x.value :: (x.msg.cells ++ [.bool x.fit])), (b6, 46, zrc), (b9, 46, rC st), (b10, 59, o), (b12, 59, o)] ++ [(c1, 59, o)] ++ [(c2, 59, o)] ++ [(b2, 59, o)]) _ from HO.out)
      refine hK.out _ _ (⟨HO.out.cells 3 rfl, HO.out.cells 4 rfl, HO.out.cells 5 rfl⟩) (fun _ => ?_)
      clear hK K
      try simp only [Act.put, List.getElem_toArray, List.getElem_cons_zero, List.getElem_cons_succ, List.setIfInBounds_toArray, List.set_cons_zero, List.set_cons_succ]
      refine wpAnyH_take (i := 6) (v := ?vp21) rfl (by kernel_rfl) (by kernel_rfl) (by kernel_rfl) (fun _ _ _ h => h) (Or.inl ⟨by rfl, ?hyp21⟩) (by assumption) ?restp21
      case hyp21 => (intro w hSw; (try dsimp only at hSw); go_simp; first | done | (with_reducible rfl))
      try simp only [Act.put, List.getElem_toArray, List.getElem_cons_zero, List.getElem_cons_succ, List.setIfInBounds_toArray, List.set_cons_zero, List.set_cons_succ]
      exact TABCD b2 c1 c2 _ ⟨HO.out, HC.out⟩
    · go_simp
      refine (HG.out.same c1 c2 _ (HO.out.blk 6 rfl) (HO.out.blk 7 rfl)).mono ?_
      rintro e wE ⟨rfl, hb⟩
      replace HC := hide (HC.out.step hb)
      replace HO := hide (HO.out.step hb).drop2
      clear hb
      replace HO := hide (show Own w [g] ([(b4, 46, rC S), (b5, 43, .int .i64 x.kind :: .int .i64 x.group :: .int .i64 x.frm :: .string x.body :: .int .i64 x.value :: (x.msg.cells ++ [.bool x.fit])), (b6, 46, zrc), (b9, 46, rC st), (b10, 59, o), (b12, 59, o)]) _ from HO.out)
      refine hK.out _ _ (⟨HO.out.cells 3 rfl, HO.out.cells 4 rfl, HO.out.cells 5 rfl⟩) (fun _ => ?_)
      clear hK K
      try simp only [Act.put, List.getElem_toArray, List.getElem_cons_zero, List.getElem_cons_succ, List.setIfInBounds_toArray, List.set_cons_zero, List.set_cons_succ]
      refine wpAnyH_take (i := 16) (v := ?vp22) rfl (by kernel_rfl) (by kernel_rfl) (by kernel_rfl) (fun _ _ _ h => h) (Or.inl ⟨by rfl, ?hyp22⟩) (by assumption) ?restp22
      case hyp22 => (intro w hSw; (try dsimp only at hSw); go_simp; first | done | (with_reducible rfl))
      try simp only [Act.put, List.getElem_toArray, List.getElem_cons_zero, List.getElem_cons_succ, List.setIfInBounds_toArray, List.set_cons_zero, List.set_cons_succ]
      exact TBCDE c1 c2 _ ⟨HO.out, HC.out⟩
  · intro b2 c2 WT hI
    obtain ⟨hO, hC⟩ := hI
    replace HO := hide hO
    replace HC := hide hC
    clear hO hC
    have hSS : (fun W => (∀ j, W.cell? ⟨b9, j, none⟩ = (rC st : List Value)[j]?) ∧ (∀ j, W.cell? ⟨b10, j, none⟩ = (o : List Value)[j]?) ∧ (∀ j, W.cell? ⟨b12, j, none⟩ = (o : List Value)[j]?)) WT := ⟨HO.out.cells 3 rfl, HO.out.cells 4 rfl, HO.out.cells 5 rfl⟩
    refine wpAnyH_ready (rs := [12]) (by kernel_rfl) (by simp) ?_
    refine AllReadyH.cons rfl (fun K hK => ?_) (AllReadyH.nil)
    · refine step_slice_own_t HO.out rfl 53 59 1 #[(0, .tmp 101)] rfl Try.underlying53 o (by simpa [Act.eval] using slice_one o HOL.out) ?_
      intro WA c1 hO hbl
      replace HC := hide (HC.out.step hbl)
      replace HO := hide hO.swap.swapm
      clear hO hbl
      replace HO := hide (show Own w [g] ([(b4, 46, rC S), (b5, 43, .int .i64 x.kind :: .int .i64 x.group :: .int .i64 x.frm :: .string x.body :: .int .i64 x.value :: (x.msg.cells ++ [.bool x.fit])), (b6, 46, zrc), (b9, 46, rC st), (b10, 59, o), (b12, 59, o)] ++ [(c1, 59, o)] ++ [(c2, 59, o)] ++ [(b2, 59, o)]) _ from HO.out)
      refine hK.out _ _ (⟨HO.out.cells 3 rfl, HO.out.cells 4 rfl, HO.out.cells 5 rfl⟩) (fun _ => ?_)
      clear hK K
      try simp only [Act.put, List.getElem_toArray, List.getElem_cons_zero, List.getElem_cons_succ, List.setIfInBounds_toArray, List.set_cons_zero, List.set_cons_succ]
      exact TABCD b2 c1 c2 _ ⟨HO.out, HC.out⟩
  · intro b2 c1 WT hI
    obtain ⟨hO, hC⟩ := hI
    replace HO := hide hO
    replace HC := hide hC
    clear hO hC
    have hSS : (fun W => (∀ j, W.cell? ⟨b9, j, none⟩ = (rC st : List Value)[j]?) ∧ (∀ j, W.cell? ⟨b10, j, none⟩ = (o : List Value)[j]?) ∧ (∀ j, W.cell? ⟨b12, j, none⟩ = (o : List Value)[j]?)) WT := ⟨HO.out.cells 3 rfl, HO.out.cells 4 rfl, HO.out.cells 5 rfl⟩
    refine wpAnyH_ready (rs := [14]) (by kernel_rfl) (by simp) ?_
    refine AllReadyH.cons rfl (fun K hK => ?_) (AllReadyH.nil)
    · refine step_slice_own_t HO.out rfl 53 59 1 #[(0, .tmp 103)] rfl Try.underlying53 o (by simpa [Act.eval] using slice_one o HOL.out) ?_
      intro WA c2 hO hbl
      replace HC := hide (HC.out.step hbl)
      replace HO := hide hO.swap
      clear hO hbl
      replace HO := hide (show Own w [g] ([(b4, 46, rC S), (b5, 43, .int .i64 x.kind :: .int .i64 x.group :: .int .i64 x.frm :: .string x.body :: .int .i64 x.value :: (x.msg.cells ++ [.bool x.fit])), (b6, 46, zrc), (b9, 46, rC st), (b10, 59, o), (b12, 59, o)] ++ [(c1, 59, o)] ++ [(c2, 59, o)] ++ [(b2, 59, o)]) _ from HO.out)
      refine hK.out _ _ (⟨HO.out.cells 3 rfl, HO.out.cells 4 rfl, HO.out.cells 5 rfl⟩) (fun _ => ?_)
      clear hK K
      try simp only [Act.put, List.getElem_toArray, List.getElem_cons_zero, List.getElem_cons_succ, List.setIfInBounds_toArray, List.set_cons_zero, List.set_cons_succ]
      exact TABCD b2 c1 c2 _ ⟨HO.out, HC.out⟩
  · intro c1 c2 WT hI
    obtain ⟨hO, hC⟩ := hI
    replace HO := hide hO
    replace HC := hide hC
    clear hO hC
    have hSS : (fun W => (∀ j, W.cell? ⟨b9, j, none⟩ = (rC st : List Value)[j]?) ∧ (∀ j, W.cell? ⟨b10, j, none⟩ = (o : List Value)[j]?) ∧ (∀ j, W.cell? ⟨b12, j, none⟩ = (o : List Value)[j]?)) WT := ⟨HO.out.cells 3 rfl, HO.out.cells 4 rfl, HO.out.cells 5 rfl⟩
    refine wpAnyH_ready (rs := [2, 17]) (by kernel_rfl) (by simp) ?_
    refine AllReadyH.cons rfl (fun K hK => ?_) (AllReadyH.cons rfl (fun K hK => ?_) (AllReadyH.nil))
    · refine step_slice_own_t HO.out rfl 53 59 1 #[(0, .tmp 91)] rfl Try.underlying53 o (by simpa [Act.eval] using slice_one o HOL.out) ?_
      intro WA b2 hO hbl
      replace HC := hide (HC.out.step hbl)
      replace HO := hide hO
      clear hO hbl
      replace HO := hide (show Own w [g] ([(b4, 46, rC S), (b5, 43, .int .i64 x.kind :: .int .i64 x.group :: .int .i64 x.frm :: .string x.body :: .int .i64 x.value :: (x.msg.cells ++ [.bool x.fit])), (b6, 46, zrc), (b9, 46, rC st), (b10, 59, o), (b12, 59, o)] ++ [(b2, 59, o)]) _ from HO.out)
      refine hK.out _ _ (⟨HO.out.cells 3 rfl, HO.out.cells 4 rfl, HO.out.cells 5 rfl⟩) (fun _ => ?_)
      clear hK K
      try simp only [Act.put, List.getElem_toArray, List.getElem_cons_zero, List.getElem_cons_succ, List.setIfInBounds_toArray, List.set_cons_zero, List.set_cons_succ]
      refine wpAnyH_take (i := 6) (v := ?vp23) rfl (by kernel_rfl) (by kernel_rfl) (by kernel_rfl) (fun _ _ _ h => h) (Or.inl ⟨by rfl, ?hyp23⟩) (by assumption) ?restp23
      case hyp23 => (intro w hSw; (try dsimp only at hSw); go_simp; first | done | (with_reducible rfl))
      try simp only [Act.put, List.getElem_toArray, List.getElem_cons_zero, List.getElem_cons_succ, List.setIfInBounds_toArray, List.set_cons_zero, List.set_cons_succ]
      exact TABCDE b2 c1 c2 _ ⟨HO.out, HC.out⟩
    · refine step_store_own_t HO.out rfl 46 (.tmp 6) (.tmp 90) rfl 2 _ 0 _ _ (rC st) (rC st) rfl (.agg (rC st).toArray) rfl rfl (fits_agg _) (by rw [HRL.out, zrc_len]; exact Nat.le_refl _) (splice_all (by rw [HRL.out, zrc_len])) (rc_size HRL.out) HRO.out ?_
      intro WA hO hbk htc
      replace HC := hide (HC.out.put hbk (by decide) htc)
      replace HO := hide (show Own w [g] ([(b4, 46, rC S), (b5, 43, .int .i64 x.kind :: .int .i64 x.group :: .int .i64 x.frm :: .string x.body :: .int .i64 x.value :: (x.msg.cells ++ [.bool x.fit])), (b6, 46, rC st), (b9, 46, rC st), (b10, 59, o), (b12, 59, o)]) WA from hO)
      clear hO hbk htc
      refine hK.out _ _ (⟨HO.out.cells 3 rfl, HO.out.cells 4 rfl, HO.out.cells 5 rfl⟩) (fun _ => ?_)
      clear hK K
      try simp only [Act.put, List.getElem_toArray, List.getElem_cons_zero, List.getElem_cons_succ, List.setIfInBounds_toArray, List.set_cons_zero, List.set_cons_succ]
      exact TBCDEF c1 c2 _ ⟨HO.out, HC.out⟩
  · intro b2 c1 c2 WT hI
    obtain ⟨hO, hC⟩ := hI
    replace HO := hide hO
    replace HC := hide hC
    clear hO hC
    have hSS : (fun W => (∀ j, W.cell? ⟨b9, j, none⟩ = (rC st : List Value)[j]?) ∧ (∀ j, W.cell? ⟨b10, j, none⟩ = (o : List Value)[j]?) ∧ (∀ j, W.cell? ⟨b12, j, none⟩ = (o : List Value)[j]?)) WT := ⟨HO.out.cells 3 rfl, HO.out.cells 4 rfl, HO.out.cells 5 rfl⟩
    refine wpAnyH_ready (rs := [15]) (by kernel_rfl) (by simp) ?_
    refine AllReadyH.cons rfl (fun K hK => ?_) (AllReadyH.nil)
    · go_simp
      refine (HG.out.same c1 c2 _ (HO.out.blk 6 rfl) (HO.out.blk 7 rfl)).mono ?_
      rintro e wE ⟨rfl, hb⟩
      replace HC := hide (HC.out.step hb)
      replace HO := hide (HO.out.step hb).drop2z
      clear hb
      replace HO := hide (show Own w [g] ([(b4, 46, rC S), (b5, 43, .int .i64 x.kind :: .int .i64 x.group :: .int .i64 x.frm :: .string x.body :: .int .i64 x.value :: (x.msg.cells ++ [.bool x.fit])), (b6, 46, zrc), (b9, 46, rC st), (b10, 59, o), (b12, 59, o)] ++ [(b2, 59, o)]) _ from HO.out)
      refine hK.out _ _ (⟨HO.out.cells 3 rfl, HO.out.cells 4 rfl, HO.out.cells 5 rfl⟩) (fun _ => ?_)
      clear hK K
      try simp only [Act.put, List.getElem_toArray, List.getElem_cons_zero, List.getElem_cons_succ, List.setIfInBounds_toArray, List.set_cons_zero, List.set_cons_succ]
      refine wpAnyH_take (i := 16) (v := ?vp24) rfl (by kernel_rfl) (by kernel_rfl) (by kernel_rfl) (fun _ _ _ h => h) (Or.inl ⟨by rfl, ?hyp24⟩) (by assumption) ?restp24
      case hyp24 => (intro w hSw; (try dsimp only at hSw); go_simp; first | done | (with_reducible rfl))
      try simp only [Act.put, List.getElem_toArray, List.getElem_cons_zero, List.getElem_cons_succ, List.setIfInBounds_toArray, List.set_cons_zero, List.set_cons_succ]
      exact TABCDE b2 c1 c2 _ ⟨HO.out, HC.out⟩
  · intro c1 c2 WT hI
    obtain ⟨hO, hC⟩ := hI
    replace HO := hide hO
    replace HC := hide hC
    clear hO hC
    have hSS : (fun W => (∀ j, W.cell? ⟨b9, j, none⟩ = (rC st : List Value)[j]?) ∧ (∀ j, W.cell? ⟨b10, j, none⟩ = (o : List Value)[j]?) ∧ (∀ j, W.cell? ⟨b12, j, none⟩ = (o : List Value)[j]?)) WT := ⟨HO.out.cells 3 rfl, HO.out.cells 4 rfl, HO.out.cells 5 rfl⟩
    refine wpAnyH_ready (rs := [2]) (by kernel_rfl) (by simp) ?_
    refine AllReadyH.cons rfl (fun K hK => ?_) (AllReadyH.nil)
    · refine step_slice_own_t HO.out rfl 53 59 1 #[(0, .tmp 91)] rfl Try.underlying53 o (by simpa [Act.eval] using slice_one o HOL.out) ?_
      intro WA b2 hO hbl
      replace HC := hide (HC.out.step hbl)
      replace HO := hide hO
      clear hO hbl
      replace HO := hide (show Own w [g] ([(b4, 46, rC S), (b5, 43, .int .i64 x.kind :: .int .i64 x.group :: .int .i64 x.frm :: .string x.body :: .int .i64 x.value :: (x.msg.cells ++ [.bool x.fit])), (b6, 46, rC st), (b9, 46, rC st), (b10, 59, o), (b12, 59, o)] ++ [(b2, 59, o)]) _ from HO.out)
      refine hK.out _ _ (⟨HO.out.cells 3 rfl, HO.out.cells 4 rfl, HO.out.cells 5 rfl⟩) (fun _ => ?_)
      clear hK K
      try simp only [Act.put, List.getElem_toArray, List.getElem_cons_zero, List.getElem_cons_succ, List.setIfInBounds_toArray, List.set_cons_zero, List.set_cons_succ]
      refine wpAnyH_take (i := 6) (v := ?vp25) rfl (by kernel_rfl) (by kernel_rfl) (by kernel_rfl) (fun _ _ _ h => h) (Or.inl ⟨by rfl, ?hyp25⟩) (by assumption) ?restp25
      case hyp25 => (intro w hSw; (try dsimp only at hSw); go_simp; first | done | (with_reducible rfl))
      try simp only [Act.put, List.getElem_toArray, List.getElem_cons_zero, List.getElem_cons_succ, List.setIfInBounds_toArray, List.set_cons_zero, List.set_cons_succ]
      refine wpAnyH_take (i := 18) (v := ?vp26) rfl (by kernel_rfl) (by kernel_rfl) (by kernel_rfl) (fun _ _ _ h => h) (Or.inl ⟨by rfl, ?hyp26⟩) (by assumption) ?restp26
      case hyp26 => (intro w hSw; (try dsimp only at hSw); go_simp; first | done | (with_reducible rfl))
      try simp only [Act.put, List.getElem_toArray, List.getElem_cons_zero, List.getElem_cons_succ, List.setIfInBounds_toArray, List.set_cons_zero, List.set_cons_succ]
      refine wpAnyH_take (i := 19) (v := ?vp27) rfl (by kernel_rfl) (by kernel_rfl) (by kernel_rfl) (fun _ _ _ h => h) (Or.inl ⟨by rfl, ?hyp27⟩) (by assumption) ?restp27
      case hyp27 => (intro w hSw; (try dsimp only at hSw); go_simp; first | done | (with_reducible rfl))
      try simp only [Act.put, List.getElem_toArray, List.getElem_cons_zero, List.getElem_cons_succ, List.setIfInBounds_toArray, List.set_cons_zero, List.set_cons_succ]
      exact TABCDEF b2 c1 c2 _ ⟨HO.out, HC.out⟩
  · intro b2 c1 c2 WT hI
    obtain ⟨hO, hC⟩ := hI
    replace HO := hide hO
    replace HC := hide hC
    clear hO hC
    have hSS : (fun W => (∀ j, W.cell? ⟨b9, j, none⟩ = (rC st : List Value)[j]?) ∧ (∀ j, W.cell? ⟨b10, j, none⟩ = (o : List Value)[j]?) ∧ (∀ j, W.cell? ⟨b12, j, none⟩ = (o : List Value)[j]?)) WT := ⟨HO.out.cells 3 rfl, HO.out.cells 4 rfl, HO.out.cells 5 rfl⟩
    refine wpAnyH_ready (rs := [17]) (by kernel_rfl) (by simp) ?_
    refine AllReadyH.cons rfl (fun K hK => ?_) (AllReadyH.nil)
    · refine step_store_own_t HO.out rfl 46 (.tmp 6) (.tmp 90) rfl 2 _ 0 _ _ (rC st) (rC st) rfl (.agg (rC st).toArray) rfl rfl (fits_agg _) (by rw [HRL.out, zrc_len]; exact Nat.le_refl _) (splice_all (by rw [HRL.out, zrc_len])) (rc_size HRL.out) HRO.out ?_
      intro WA hO hbk htc
      replace HC := hide (HC.out.put hbk (by decide) htc)
      replace HO := hide (show Own w [g] ([(b4, 46, rC S), (b5, 43, .int .i64 x.kind :: .int .i64 x.group :: .int .i64 x.frm :: .string x.body :: .int .i64 x.value :: (x.msg.cells ++ [.bool x.fit])), (b6, 46, rC st), (b9, 46, rC st), (b10, 59, o), (b12, 59, o)] ++ [(b2, 59, o)]) WA from hO)
      clear hO hbk htc
      refine hK.out _ _ (⟨HO.out.cells 3 rfl, HO.out.cells 4 rfl, HO.out.cells 5 rfl⟩) (fun _ => ?_)
      clear hK K
      try simp only [Act.put, List.getElem_toArray, List.getElem_cons_zero, List.getElem_cons_succ, List.setIfInBounds_toArray, List.set_cons_zero, List.set_cons_succ]
      refine wpAnyH_take (i := 18) (v := ?vp28) rfl (by kernel_rfl) (by kernel_rfl) (by kernel_rfl) (fun _ _ _ h => h) (Or.inl ⟨by rfl, ?hyp28⟩) (by assumption) ?restp28
      case hyp28 => (intro w hSw; (try dsimp only at hSw); go_simp; first | done | (with_reducible rfl))
      try simp only [Act.put, List.getElem_toArray, List.getElem_cons_zero, List.getElem_cons_succ, List.setIfInBounds_toArray, List.set_cons_zero, List.set_cons_succ]
      refine wpAnyH_take (i := 19) (v := ?vp29) rfl (by kernel_rfl) (by kernel_rfl) (by kernel_rfl) (fun _ _ _ h => h) (Or.inl ⟨by rfl, ?hyp29⟩) (by assumption) ?restp29
      case hyp29 => (intro w hSw; (try dsimp only at hSw); go_simp; first | done | (with_reducible rfl))
      try simp only [Act.put, List.getElem_toArray, List.getElem_cons_zero, List.getElem_cons_succ, List.setIfInBounds_toArray, List.set_cons_zero, List.set_cons_succ]
      exact TABCDEF b2 c1 c2 _ ⟨HO.out, HC.out⟩
  · intro b2 c1 c2 WT hI
    obtain ⟨hO, hC⟩ := hI
    replace HO := hide hO
    replace HC := hide hC
    clear hO hC
    refine wpAnyH_done (by kernel_rfl) ?_ _
    go_wp2_with fail
    refine bodyPost_ret (results_row_tmp_tmp rfl _ HO.out 2 _ _ _ _ _ _ rfl rfl rfl rfl Try.underlying46 rfl (rc_size HRL.out)) rfl ?_
    rw [HSTEP.out]
    exact ⟨_, rfl, outs_ask (HO.out.blk 6 rfl) (HO.out.new 6 rfl) HG.out HKK.out, ⟨q, HC.out⟩, HO.out.touch⟩
end Go.Proofs.Ytpbgelhjbfckcaa
