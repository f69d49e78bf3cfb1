/- step: Receive; the other kinds; the whole. -/
import Derived.Test.YtpbgelhjbfckcaaS21
import Derived.Test.YtpbgelhjbfckcaaS22
namespace Go.Proofs.Ytpbgelhjbfckcaa
open Go.ChangeShapes Go.WideShapes Go.ChangeAt Go.RowKit
set_option linter.unusedVariables false
set_option linter.unusedSimpArgs false

theorem xc_cells {W : World} {b : Nat} {x : OpV} (h : ∀ j, W.cell? ⟨b, j, none⟩ = x.cells[j]?) : ∀ j, W.cell? ⟨b, j, none⟩ = (.int .i64 x.kind :: .int .i64 x.group :: .int .i64 x.frm :: .string x.body :: .int .i64 x.value :: (x.msg.cells ++ [.bool x.fit]) : List Value)[j]? := fun j => by rw [h j]; rfl
theorem rs_cells {W : World} {b : Nat} {S : CS} (h : ∀ j, W.cell? ⟨b, j, none⟩ = (rC S)[j]?) : ∀ j, W.cell? ⟨b, j, none⟩ = (rcl S.id S.machines S.target S.number S.opened.isSome (openOf S).1 : List Value)[j]? := fun j => by rw [h j]; rfl
theorem xc_take {x : OpV} (h : x.cells.length = 53) : ((.int .i64 x.kind :: .int .i64 x.group :: .int .i64 x.frm :: .string x.body :: .int .i64 x.value :: (x.msg.cells ++ [.bool x.fit]) : List Value).drop 0).take 53 = x.cells := by
  have := take_all h
  exact this
theorem rs_take {S : CS} (h : (rC S).length = 52) : ((rcl S.id S.machines S.target S.number S.opened.isSome (openOf S).1 : List Value).drop 0).take 52 = rC S := by
  have := take_all h
  exact this
theorem op_size {cs : List Value} (h : cs.length = 53) : (Try.prog.info? 43).map (·.size) = some cs.length := by rw [h]; kernel_rfl
theorem outs_none (w : World) (n : Nat) : OutsIn w n (.slice none 0 0) [] := ⟨none, 0, rfl, Nat.le_refl _, by unfold maxLen; omega, by simp, by simp, fun o ho => by cases ho⟩
theorem outs_some {w : World} {n b : Nat} {o : List Value} (hb : Blk w b 59 o.toArray) (hn : n ≤ b) (hg : Good o) : OutsIn w n (.slice (some ⟨b, 0, none⟩) 1 1) [o] :=
  ⟨_, 1, rfl, Nat.le_refl _, by unfold maxLen; omega, by simpa using hg, by simp, fun o' ho => ⟨b, hn, rfl, by injection ho with ho; subst ho; exact hb⟩⟩
theorem Own.addT {w0 W W' : World} {S T : List Nat} {L : List (Nat × TypeId × List Value)} (h : Own w0 S L W) (ht : Touch T W W') (hT : ∀ s ∈ T, s ∈ S) {b : Nat} {t : TypeId} {cs : List Value} (hx : Blk W' b t cs.toArray) (hn : W.heap.size ≤ b) : Own w0 S (L ++ [(b, t, cs)]) W' := by
  have h2 := h.call ht hT
  refine ⟨fun e he => ?_, ?_, h2.touch, h2.old⟩
  · rcases List.mem_append.1 he with he | he
    · exact h2.has e he
    · simp only [List.mem_singleton] at he; subst he; exact ⟨hx, Nat.le_trans h.size hn⟩
  · rw [List.map_append, List.nodup_append]
    refine ⟨h2.apart, by simp, ?_⟩
    intro a ha c hc e
    simp only [List.map_cons, List.map_nil, List.mem_singleton] at hc
    subst hc e
    obtain ⟨e, he, e2⟩ := List.mem_map.1 ha
    have := (h.has e he).1.lt
    omega
theorem step_alloc_own_t {P : Program} {w w0 : World} {S : List Nat} {L : List (Nat × TypeId × List Value)} {ops : Array Oper} {op : Oper} {a : Act} {Q : Exit → Act → World → Prop} {K : Act → World → Prop} {E : Prop}
    (HO : Own w0 S L w) (hw : Region.wanted op (yielded ops a.tmps) = true) (t : TypeId) (ho : op.op = .alloc t) (cs : List Value) (hi : (P.info? t).map (·.zero) = some (some (.agg cs.toArray)))
    (h : ∀ w' b, Own w0 S (L ++ [(b, t, cs)]) w' → Below w.heap.size w w' → K (a.put op.dst (.pointer (some ⟨b, 0, none⟩))) w') : if Region.wanted op (yielded ops a.tmps) = true then Oper.wp P op a w K Q else E := by
  rw [if_pos hw]
  unfold Oper.wp execOp
  simp only [ho, Sem.run_bind, run_alloc hi, Result.andThen_ok]
  exact h _ _ (HO.push (Blk.new w t cs.toArray) ((Below.refl _ _).alloc (Nat.le_refl _) _)) ((Below.refl _ _).alloc (Nat.le_refl _) _)
set_option maxRecDepth 100000 in
set_option maxHeartbeats 8000000 in
theorem step_k3n (g : Nat) (S : CS) (p : Value) (x : OpV) (w : World) (h : Cl w g S p) (hA : Asks S) (hx : x.Ok) (hk : x.kind = 3) (ho : (cReceive S (repM x S.number) x.frm).out = none) :
    Calls Try.prog 20 #[.pointer (some ⟨g, 0, none⟩), .agg (rC S).toArray, .agg x.cells.toArray] w (StepR w g (cStep S x)) := by
  have HO := hide (Own.nil w [g] (by simpa using h.lt))
  have HC := hide h
  have HRP := hide (fun (X : World) => reply_c x hx S.number X)
  have HRR := hide (fun (X : World) => rrecv_model hA (repM x S.number) (repM_ok hx _) x.frm X)
  have HCR := hide (fun (X : World) (hX : Cl X g S p) => recv_model g S p x.frm (repM x S.number) X hX hA (repM_ok hx _))
  have HAS := hide (cAnswered_asks hA (repM x S.number) x.frm)
  have HSTEP : Hid (cStep S x = ((cReceive S (repM x S.number) x.frm).st, (cReceive S (repM x S.number) x.frm).out.toList)) := hide (by
    unfold cStep
    rw [if_neg (by omega), if_neg (by omega), if_neg (by omega), if_pos hk])
  generalize cReceive S (repM x S.number) x.frm = r at *
  obtain ⟨st, en, out⟩ := r
  dsimp only at ho
  subst ho
  dsimp only [Option.toList] at HSTEP HAS HRR HCR
  have HRL := hide HAS.out.1.rlen
  have HRO := hide HAS.out.1.rones
  have HSL := hide hA.rlen
  have HSO := hide hA.rones
  have HXL := hide hx.size
  generalize repM x S.number = mm at *
  clear h hA hx HAS
  go_enter Try.func20, Try.ntmps20
  go_wp2_with (first
    | ((with_reducible refine at_box 46 (.tmp 1) ?_); refine wpList_box_own_t HO.out rfl 46 (.tmp 1) rfl (rC S) rfl ?_; intro WA b4 hO hbl; replace HC := hide (HC.out.step hbl); replace HO := hide hO; clear hO hbl)
    | ((with_reducible refine at_box 43 (.tmp 2) ?_); refine wpList_box_own_t HO.out rfl 43 (.tmp 2) rfl (x.cells) rfl ?_; intro WA b5 hO hbl; replace HC := hide (HC.out.step hbl); replace HO := hide hO; clear hO hbl)
    | ((with_reducible refine at_alloc 46 ?_); refine wpList_alloc_own_t HO.out rfl 46 rfl (zrc) zrc_info ?_; intro WA b6 hO hbl; replace HC := hide (HC.out.step hbl); replace HO := hide hO; have k1 := xc_cells (hO.cells 1 rfl); clear hO hbl))
  clear k1
  refine wp_region_held_drew (S := fun W => (∀ j, W.cell? ⟨b4, j, none⟩ = (rcl S.id S.machines S.target S.number S.opened.isSome (openOf S).1 : List Value)[j]?) ∧ (∀ j, W.cell? ⟨b5, j, none⟩ = (.int .i64 x.kind :: .int .i64 x.group :: .int .i64 x.frm :: .string x.body :: .int .i64 x.value :: (x.msg.cells ++ [.bool x.fit]) : List Value)[j]?)) (by kernel_rfl) (⟨rs_cells (HO.out.drew.cells 0 rfl), xc_cells (HO.out.drew.cells 1 rfl)⟩) (fun hS0 => ?_)
  replace HO := hide HO.out.drew
  replace HC := hide HC.out.drew
  refine wpAnyH_take (i := 0) (v := .agg (rC S).toArray) rfl (by kernel_rfl) (by kernel_rfl) (by kernel_rfl) (fun _ _ _ h => h) (yieldsIf_load rfl 46 (.tmp 4) rfl b4 0 52 46 (rcl S.id S.machines S.target S.number S.opened.isSome (openOf S).1) (rC S) _ (fun w hw => hw.1) (rs_take HSL.out) rfl Try.underlying46 rfl (rc_size HSL.out)) (by assumption) ?_
  try simp only [Act.put, List.getElem_toArray, List.getElem_cons_zero, List.getElem_cons_succ, List.setIfInBounds_toArray, List.set_cons_zero, List.set_cons_succ]
  refine wpAnyH_take (i := 1) (v := ?vp2) rfl (by kernel_rfl) (by kernel_rfl) (by kernel_rfl) (fun _ _ _ h => h) (Or.inl ⟨by rfl, ?hyp2⟩) (by assumption) ?restp2
  case hyp2 => (intro w hSw; (try dsimp only at hSw); go_simp; first | done | (with_reducible rfl))
  try simp only [Act.put, List.getElem_toArray, List.getElem_cons_zero, List.getElem_cons_succ, List.setIfInBounds_toArray, List.set_cons_zero, List.set_cons_succ]
  refine wpAnyH_take (i := 2) (v := ?vp3) rfl (by kernel_rfl) (by kernel_rfl) (by kernel_rfl) (fun _ _ _ h => h) (Or.inl ⟨by rfl, ?hyp3⟩) (by assumption) ?restp3
  case hyp3 => (intro w hSw; (try dsimp only at hSw); go_simp; first | done | (with_reducible rfl))
  try simp only [Act.put, List.getElem_toArray, List.getElem_cons_zero, List.getElem_cons_succ, List.setIfInBounds_toArray, List.set_cons_zero, List.set_cons_succ]
  refine wpAnyH_take (i := 3) (v := .agg x.cells.toArray) rfl (by kernel_rfl) (by kernel_rfl) (by kernel_rfl) (fun _ _ _ h => h) (yieldsIf_load rfl 43 (.tmp 5) rfl b5 0 53 43 (.int .i64 x.kind :: .int .i64 x.group :: .int .i64 x.frm :: .string x.body :: .int .i64 x.value :: (x.msg.cells ++ [.bool x.fit])) x.cells _ (fun w hw => hw.2) (xc_take HXL.out) rfl Try.underlying43 rfl (op_size HXL.out)) (by assumption) ?_
  try simp only [Act.put, List.getElem_toArray, List.getElem_cons_zero, List.getElem_cons_succ, List.setIfInBounds_toArray, List.set_cons_zero, List.set_cons_succ]
  refine wpAnyH_take (i := 4) (v := ?vp5) rfl (by kernel_rfl) (by kernel_rfl) (by kernel_rfl) (fun _ _ _ h => h) (Or.inl ⟨by rfl, ?hyp5⟩) (by assumption) ?restp5
  case hyp5 => (intro w hSw; (try dsimp only at hSw); go_simp; first | done | (with_reducible rfl))
  try simp only [Act.put, List.getElem_toArray, List.getElem_cons_zero, List.getElem_cons_succ, List.setIfInBounds_toArray, List.set_cons_zero, List.set_cons_succ]
  refine wpAnyH_take (i := 5) (v := ?vp6) rfl (by kernel_rfl) (by kernel_rfl) (by kernel_rfl) (fun _ _ _ h => h) (Or.inl ⟨by rfl, ?hyp6⟩) (by assumption) ?restp6
  case hyp6 => (intro w hSw; (try dsimp only at hSw); go_simp; first | done | (with_reducible rfl))
  try simp only [Act.put, List.getElem_toArray, List.getElem_cons_zero, List.getElem_cons_succ, List.setIfInBounds_toArray, List.set_cons_zero, List.set_cons_succ]
  refine' tail_1 (I := fun b9 W => Own w [g] ([(b4, 46, rC S), (b5, 43, x.cells), (b6, 46, zrc)] ++ [(b9, 46, rC st)]) W ∧ Cl W g S p) (fun pTABCD => ?_) ?_
  rotate_left
  refine' tail_1 (I := fun b9 W => Own w [g] ([(b4, 46, rC S), (b5, 43, x.cells), (b6, 46, zrc)] ++ [(b9, 46, zrc)]) W ∧ Cl W g S p) (fun pTABC => ?_) ?_
  rotate_left
  refine' tail_0 (I := fun  W => Own w [g] ([(b4, 46, rC S), (b5, 43, x.cells), (b6, 46, zrc)]) W ∧ Cl W g S p) (fun pTBC => ?_) ?_
  rotate_left
  refine' tail_1 (I := fun b9 W => Own w [g] ([(b4, 46, rC S), (b5, 43, x.cells), (b6, 46, zrc)] ++ [(b9, 46, zrc)]) W ∧ Cl W g S p) (fun pTAB => ?_) ?_
  rotate_left
  refine' tail_0 (I := fun  W => Own w [g] ([(b4, 46, rC S), (b5, 43, x.cells), (b6, 46, zrc)]) W ∧ Cl W g S p) (fun pTB => ?_) ?_
  rotate_left
  refine' tail_1 (I := fun b9 W => Own w [g] ([(b4, 46, rC S), (b5, 43, x.cells), (b6, 46, zrc)] ++ [(b9, 46, zrc)]) W ∧ Cl W g S p) (fun pTA => ?_) ?_
  rotate_left
  · refine wpAnyH_ready (rs := [6, 12]) (by kernel_rfl) (by simp) ?_
    refine AllReadyH.cons rfl (fun K hK => ?_) (AllReadyH.cons rfl (fun K hK => ?_) (AllReadyH.nil))
    · go_simp
      refine (HRP.out _).mono ?_
      rintro e wE ⟨rfl, hb⟩
      replace HC := hide (HC.out.step hb)
      replace HO := hide (HO.out.step hb)
      clear hb
      replace HO := hide (show Own w [g] ([(b4, 46, rC S), (b5, 43, x.cells), (b6, 46, zrc)]) _ from HO.out)
      refine hK.out _ _ (⟨rs_cells (HO.out.cells 0 rfl), xc_cells (HO.out.cells 1 rfl)⟩) (fun _ => ?_)
      clear hK K
      try simp only [Act.put, List.getElem_toArray, List.getElem_cons_zero, List.getElem_cons_succ, List.setIfInBounds_toArray, List.set_cons_zero, List.set_cons_succ]
      exact pTB  _ ⟨HO.out, HC.out⟩
    · refine step_alloc_own_t HO.out rfl 46 rfl zrc zrc_info ?_
      intro WA b9 hO hbl
      replace HC := hide (HC.out.step hbl)
      replace HO := hide hO
      clear hO hbl
      replace HO := hide (show Own w [g] ([(b4, 46, rC S), (b5, 43, x.cells), (b6, 46, zrc)] ++ [(b9, 46, zrc)]) _ from HO.out)
      refine hK.out _ _ (⟨rs_cells (HO.out.cells 0 rfl), xc_cells (HO.out.cells 1 rfl)⟩) (fun _ => ?_)
      clear hK K
      try simp only [Act.put, List.getElem_toArray, List.getElem_cons_zero, List.getElem_cons_succ, List.setIfInBounds_toArray, List.set_cons_zero, List.set_cons_succ]
      exact pTA b9 _ ⟨HO.out, HC.out⟩
  · intro b9 WT hI
    obtain ⟨hO, hC⟩ := hI
    replace HO := hide hO
    replace HC := hide hC
    clear hO hC
    have hSS : (fun W => (∀ j, W.cell? ⟨b4, j, none⟩ = (rcl S.id S.machines S.target S.number S.opened.isSome (openOf S).1 : List Value)[j]?) ∧ (∀ j, W.cell? ⟨b5, j, none⟩ = (.int .i64 x.kind :: .int .i64 x.group :: .int .i64 x.frm :: .string x.body :: .int .i64 x.value :: (x.msg.cells ++ [.bool x.fit]) : List Value)[j]?)) WT := ⟨rs_cells (HO.out.cells 0 rfl), xc_cells (HO.out.cells 1 rfl)⟩
    refine wpAnyH_ready (rs := [6]) (by kernel_rfl) (by simp) ?_
    refine AllReadyH.cons rfl (fun K hK => ?_) (AllReadyH.nil)
    · go_simp
      refine (HRP.out _).mono ?_
      rintro e wE ⟨rfl, hb⟩
      replace HC := hide (HC.out.step hb)
      replace HO := hide (HO.out.step hb)
      clear hb
      replace HO := hide (show Own w [g] ([(b4, 46, rC S), (b5, 43, x.cells), (b6, 46, zrc)] ++ [(b9, 46, zrc)]) _ from HO.out)
      refine hK.out _ _ (⟨rs_cells (HO.out.cells 0 rfl), xc_cells (HO.out.cells 1 rfl)⟩) (fun _ => ?_)
      clear hK K
      try simp only [Act.put, List.getElem_toArray, List.getElem_cons_zero, List.getElem_cons_succ, List.setIfInBounds_toArray, List.set_cons_zero, List.set_cons_succ]
      exact pTAB b9 _ ⟨HO.out, HC.out⟩
  · intro  WT hI
    obtain ⟨hO, hC⟩ := hI
    replace HO := hide hO
    replace HC := hide hC
    clear hO hC
    have hSS : (fun W => (∀ j, W.cell? ⟨b4, j, none⟩ = (rcl S.id S.machines S.target S.number S.opened.isSome (openOf S).1 : List Value)[j]?) ∧ (∀ j, W.cell? ⟨b5, j, none⟩ = (.int .i64 x.kind :: .int .i64 x.group :: .int .i64 x.frm :: .string x.body :: .int .i64 x.value :: (x.msg.cells ++ [.bool x.fit]) : List Value)[j]?)) WT := ⟨rs_cells (HO.out.cells 0 rfl), xc_cells (HO.out.cells 1 rfl)⟩
    refine wpAnyH_ready (rs := [7, 12]) (by kernel_rfl) (by simp) ?_
    refine AllReadyH.cons rfl (fun K hK => ?_) (AllReadyH.cons rfl (fun K hK => ?_) (AllReadyH.nil))
    · go_simp
      refine (HRR.out _).mono ?_
      rintro e wE ⟨v, rfl, hv, hb⟩
      replace HC := hide (HC.out.step hb)
      obtain rfl : v = .slice none 0 0 := hv
      replace HO := hide (HO.out.step hb)
      clear hb
      replace HO := hide (show Own w [g] ([(b4, 46, rC S), (b5, 43, x.cells), (b6, 46, zrc)]) _ from HO.out)
      refine hK.out _ _ (⟨rs_cells (HO.out.cells 0 rfl), xc_cells (HO.out.cells 1 rfl)⟩) (fun _ => ?_)
      clear hK K
      try simp only [Act.put, List.getElem_toArray, List.getElem_cons_zero, List.getElem_cons_succ, List.setIfInBounds_toArray, List.set_cons_zero, List.set_cons_succ]
      refine wpAnyH_take (i := 8) (v := ?vp7) rfl (by kernel_rfl) (by kernel_rfl) (by kernel_rfl) (fun _ _ _ h => h) (Or.inl ⟨by rfl, ?hyp7⟩) (by assumption) ?restp7
      case hyp7 => (intro w hSw; (try dsimp only at hSw); go_simp; first | done | (with_reducible rfl))
      try simp only [Act.put, List.getElem_toArray, List.getElem_cons_zero, List.getElem_cons_succ, List.setIfInBounds_toArray, List.set_cons_zero, List.set_cons_succ]
      refine wpAnyH_take (i := 9) (v := ?vp8) rfl (by kernel_rfl) (by kernel_rfl) (by kernel_rfl) (fun _ _ _ h => h) (Or.inl ⟨by rfl, ?hyp8⟩) (by assumption) ?restp8
      case hyp8 => (intro w hSw; (try dsimp only at hSw); go_simp; first | done | (with_reducible rfl))
      try simp only [Act.put, List.getElem_toArray, List.getElem_cons_zero, List.getElem_cons_succ, List.setIfInBounds_toArray, List.set_cons_zero, List.set_cons_succ]
      refine wpAnyH_take (i := 10) (v := ?vp9) rfl (by kernel_rfl) (by kernel_rfl) (by kernel_rfl) (fun _ _ _ h => h) (Or.inl ⟨by rfl, ?hyp9⟩) (by assumption) ?restp9
      case hyp9 => (intro w hSw; (try dsimp only at hSw); go_simp; first | done | (with_reducible rfl))
      try simp only [Act.put, List.getElem_toArray, List.getElem_cons_zero, List.getElem_cons_succ, List.setIfInBounds_toArray, List.set_cons_zero, List.set_cons_succ]
      refine wpAnyH_take (i := 11) (v := ?vp10) rfl (by kernel_rfl) (by kernel_rfl) (by kernel_rfl) (fun _ _ _ h => h) (Or.inl ⟨by rfl, ?hyp10⟩) (by assumption) ?restp10
      case hyp10 => (intro w hSw; (try dsimp only at hSw); go_simp; first | done | (with_reducible rfl))
      try simp only [Act.put, List.getElem_toArray, List.getElem_cons_zero, List.getElem_cons_succ, List.setIfInBounds_toArray, List.set_cons_zero, List.set_cons_succ]
      exact pTBC  _ ⟨HO.out, HC.out⟩
    · refine step_alloc_own_t HO.out rfl 46 rfl zrc zrc_info ?_
      intro WA b9 hO hbl
      replace HC := hide (HC.out.step hbl)
      replace HO := hide hO
      clear hO hbl
      replace HO := hide (show Own w [g] ([(b4, 46, rC S), (b5, 43, x.cells), (b6, 46, zrc)] ++ [(b9, 46, zrc)]) _ from HO.out)
      refine hK.out _ _ (⟨rs_cells (HO.out.cells 0 rfl), xc_cells (HO.out.cells 1 rfl)⟩) (fun _ => ?_)
      clear hK K
      try simp only [Act.put, List.getElem_toArray, List.getElem_cons_zero, List.getElem_cons_succ, List.setIfInBounds_toArray, List.set_cons_zero, List.set_cons_succ]
      exact pTAB b9 _ ⟨HO.out, HC.out⟩
  · intro b9 WT hI
    obtain ⟨hO, hC⟩ := hI
    replace HO := hide hO
    replace HC := hide hC
    clear hO hC
    have hSS : (fun W => (∀ j, W.cell? ⟨b4, j, none⟩ = (rcl S.id S.machines S.target S.number S.opened.isSome (openOf S).1 : List Value)[j]?) ∧ (∀ j, W.cell? ⟨b5, j, none⟩ = (.int .i64 x.kind :: .int .i64 x.group :: .int .i64 x.frm :: .string x.body :: .int .i64 x.value :: (x.msg.cells ++ [.bool x.fit]) : List Value)[j]?)) WT := ⟨rs_cells (HO.out.cells 0 rfl), xc_cells (HO.out.cells 1 rfl)⟩
    refine wpAnyH_ready (rs := [7]) (by kernel_rfl) (by simp) ?_
    refine AllReadyH.cons rfl (fun K hK => ?_) (AllReadyH.nil)
    · go_simp
      refine (HRR.out _).mono ?_
      rintro e wE ⟨v, rfl, hv, hb⟩
      replace HC := hide (HC.out.step hb)
      obtain rfl : v = .slice none 0 0 := hv
      replace HO := hide (HO.out.step hb)
      clear hb
      replace HO := hide (show Own w [g] ([(b4, 46, rC S), (b5, 43, x.cells), (b6, 46, zrc)] ++ [(b9, 46, zrc)]) _ from HO.out)
      refine hK.out _ _ (⟨rs_cells (HO.out.cells 0 rfl), xc_cells (HO.out.cells 1 rfl)⟩) (fun _ => ?_)
      clear hK K
      try simp only [Act.put, List.getElem_toArray, List.getElem_cons_zero, List.getElem_cons_succ, List.setIfInBounds_toArray, List.set_cons_zero, List.set_cons_succ]
      refine wpAnyH_take (i := 8) (v := ?vp11) rfl (by kernel_rfl) (by kernel_rfl) (by kernel_rfl) (fun _ _ _ h => h) (Or.inl ⟨by rfl, ?hyp11⟩) (by assumption) ?restp11
      case hyp11 => (intro w hSw; (try dsimp only at hSw); go_simp; first | done | (with_reducible rfl))
      try simp only [Act.put, List.getElem_toArray, List.getElem_cons_zero, List.getElem_cons_succ, List.setIfInBounds_toArray, List.set_cons_zero, List.set_cons_succ]
      refine wpAnyH_take (i := 9) (v := ?vp12) rfl (by kernel_rfl) (by kernel_rfl) (by kernel_rfl) (fun _ _ _ h => h) (Or.inl ⟨by rfl, ?hyp12⟩) (by assumption) ?restp12
      case hyp12 => (intro w hSw; (try dsimp only at hSw); go_simp; first | done | (with_reducible rfl))
      try simp only [Act.put, List.getElem_toArray, List.getElem_cons_zero, List.getElem_cons_succ, List.setIfInBounds_toArray, List.set_cons_zero, List.set_cons_succ]
      refine wpAnyH_take (i := 10) (v := ?vp13) rfl (by kernel_rfl) (by kernel_rfl) (by kernel_rfl) (fun _ _ _ h => h) (Or.inl ⟨by rfl, ?hyp13⟩) (by assumption) ?restp13
      case hyp13 => (intro w hSw; (try dsimp only at hSw); go_simp; first | done | (with_reducible rfl))
      try simp only [Act.put, List.getElem_toArray, List.getElem_cons_zero, List.getElem_cons_succ, List.setIfInBounds_toArray, List.set_cons_zero, List.set_cons_succ]
      refine wpAnyH_take (i := 11) (v := ?vp14) rfl (by kernel_rfl) (by kernel_rfl) (by kernel_rfl) (fun _ _ _ h => h) (Or.inl ⟨by rfl, ?hyp14⟩) (by assumption) ?restp14
      case hyp14 => (intro w hSw; (try dsimp only at hSw); go_simp; first | done | (with_reducible rfl))
      try simp only [Act.put, List.getElem_toArray, List.getElem_cons_zero, List.getElem_cons_succ, List.setIfInBounds_toArray, List.set_cons_zero, List.set_cons_succ]
      exact pTABC b9 _ ⟨HO.out, HC.out⟩
  · intro  WT hI
    obtain ⟨hO, hC⟩ := hI
    replace HO := hide hO
    replace HC := hide hC
    clear hO hC
    have hSS : (fun W => (∀ j, W.cell? ⟨b4, j, none⟩ = (rcl S.id S.machines S.target S.number S.opened.isSome (openOf S).1 : List Value)[j]?) ∧ (∀ j, W.cell? ⟨b5, j, none⟩ = (.int .i64 x.kind :: .int .i64 x.group :: .int .i64 x.frm :: .string x.body :: .int .i64 x.value :: (x.msg.cells ++ [.bool x.fit]) : List Value)[j]?)) WT := ⟨rs_cells (HO.out.cells 0 rfl), xc_cells (HO.out.cells 1 rfl)⟩
    refine wpAnyH_ready (rs := [12]) (by kernel_rfl) (by simp) ?_
    refine AllReadyH.cons rfl (fun K hK => ?_) (AllReadyH.nil)
    · refine step_alloc_own_t HO.out rfl 46 rfl zrc zrc_info ?_
      intro WA b9 hO hbl
      replace HC := hide (HC.out.step hbl)
      replace HO := hide hO
      clear hO hbl
      replace HO := hide (show Own w [g] ([(b4, 46, rC S), (b5, 43, x.cells), (b6, 46, zrc)] ++ [(b9, 46, zrc)]) _ from HO.out)
      refine hK.out _ _ (⟨rs_cells (HO.out.cells 0 rfl), xc_cells (HO.out.cells 1 rfl)⟩) (fun _ => ?_)
      clear hK K
      try simp only [Act.put, List.getElem_toArray, List.getElem_cons_zero, List.getElem_cons_succ, List.setIfInBounds_toArray, List.set_cons_zero, List.set_cons_succ]
      exact pTABC b9 _ ⟨HO.out, HC.out⟩
  · intro b9 WT hI
    obtain ⟨hO, hC⟩ := hI
    replace HO := hide hO
    replace HC := hide hC
    clear hO hC
    have hSS : (fun W => (∀ j, W.cell? ⟨b4, j, none⟩ = (rcl S.id S.machines S.target S.number S.opened.isSome (openOf S).1 : List Value)[j]?) ∧ (∀ j, W.cell? ⟨b5, j, none⟩ = (.int .i64 x.kind :: .int .i64 x.group :: .int .i64 x.frm :: .string x.body :: .int .i64 x.value :: (x.msg.cells ++ [.bool x.fit]) : List Value)[j]?)) WT := ⟨rs_cells (HO.out.cells 0 rfl), xc_cells (HO.out.cells 1 rfl)⟩
    refine wpAnyH_ready (rs := [13]) (by kernel_rfl) (by simp) ?_
    refine AllReadyH.cons rfl (fun K hK => ?_) (AllReadyH.nil)
    · refine step_store_own_t HO.out rfl 46 (.tmp 24) (.tmp 147) rfl 3 _ 0 _ _ (rC st) (rC st) rfl (.agg (rC st).toArray) rfl rfl (fits_agg _) (by rw [HRL.out, zrc_len]; exact Nat.le_refl _) (splice_all (by rw [HRL.out, zrc_len])) (rc_size HRL.out) HRO.out ?_
      intro WA hO hbk htc
      replace HC := hide (HC.out.put hbk (by decide) htc)
      replace HO := hide hO
      clear hO hbk htc
      replace HO := hide (show Own w [g] ([(b4, 46, rC S), (b5, 43, x.cells), (b6, 46, zrc)] ++ [(b9, 46, rC st)]) _ from HO.out)
      refine hK.out _ _ (⟨rs_cells (HO.out.cells 0 rfl), xc_cells (HO.out.cells 1 rfl)⟩) (fun _ => ?_)
      clear hK K
      try simp only [Act.put, List.getElem_toArray, List.getElem_cons_zero, List.getElem_cons_succ, List.setIfInBounds_toArray, List.set_cons_zero, List.set_cons_succ]
      refine wpAnyH_take (i := 14) (v := ?vp15) rfl (by kernel_rfl) (by kernel_rfl) (by kernel_rfl) (fun _ _ _ h => h) (Or.inl ⟨by rfl, ?hyp15⟩) (by assumption) ?restp15
      case hyp15 => (intro w hSw; (try dsimp only at hSw); go_simp; first | done | (with_reducible rfl))
      try simp only [Act.put, List.getElem_toArray, List.getElem_cons_zero, List.getElem_cons_succ, List.setIfInBounds_toArray, List.set_cons_zero, List.set_cons_succ]
      refine wpAnyH_take (i := 15) (v := ?vp16) rfl (by kernel_rfl) (by kernel_rfl) (by kernel_rfl) (fun _ _ _ h => h) (Or.inl ⟨by rfl, ?hyp16⟩) (by assumption) ?restp16
      case hyp16 => (intro w hSw; (try dsimp only at hSw); go_simp; first | done | (with_reducible rfl))
      try simp only [Act.put, List.getElem_toArray, List.getElem_cons_zero, List.getElem_cons_succ, List.setIfInBounds_toArray, List.set_cons_zero, List.set_cons_succ]
      exact pTABCD b9 _ ⟨HO.out, HC.out⟩
  · intro b9 WT hI
    obtain ⟨hO, hC⟩ := hI
    replace HO := hide hO
    replace HC := hide hC
    clear hO hC
    refine wpAnyH_done (by kernel_rfl) ?_ _
    go_wp2_with fail
    refine wp_region_held_drew (S := fun W => (∀ j, W.cell? ⟨b4, j, none⟩ = (rcl S.id S.machines S.target S.number S.opened.isSome (openOf S).1 : List Value)[j]?) ∧ (∀ j, W.cell? ⟨b5, j, none⟩ = (.int .i64 x.kind :: .int .i64 x.group :: .int .i64 x.frm :: .string x.body :: .int .i64 x.value :: (x.msg.cells ++ [.bool x.fit]) : List Value)[j]?)) (by kernel_rfl) (⟨rs_cells (HO.out.drew.cells 0 rfl), xc_cells (HO.out.drew.cells 1 rfl)⟩) (fun hS0 => ?_)
    replace HO := hide HO.out.drew
    replace HC := hide HC.out.drew
    refine wpAnyH_take (i := 0) (v := ?vm0) rfl (by kernel_rfl) (by kernel_rfl) (by kernel_rfl) (fun _ _ _ h => h) (Or.inl ⟨by rfl, ?hym0⟩) (by assumption) ?restm0
    case hym0 => (intro w hSw; (try dsimp only at hSw); go_simp; first | done | (with_reducible rfl))
    try simp only [Act.put, List.getElem_toArray, List.getElem_cons_zero, List.getElem_cons_succ, List.setIfInBounds_toArray, List.set_cons_zero, List.set_cons_succ]
    refine wpAnyH_take (i := 1) (v := ?vm1) rfl (by kernel_rfl) (by kernel_rfl) (by kernel_rfl) (fun _ _ _ h => h) (Or.inl ⟨by rfl, ?hym1⟩) (by assumption) ?restm1
    case hym1 => (intro w hSw; (try dsimp only at hSw); go_simp; first | done | (with_reducible rfl))
    try simp only [Act.put, List.getElem_toArray, List.getElem_cons_zero, List.getElem_cons_succ, List.setIfInBounds_toArray, List.set_cons_zero, List.set_cons_succ]
    refine wpAnyH_take (i := 2) (v := ?vm2) rfl (by kernel_rfl) (by kernel_rfl) (by kernel_rfl) (fun _ _ _ h => h) (Or.inl ⟨by rfl, ?hym2⟩) (by assumption) ?restm2
    case hym2 => (intro w hSw; (try dsimp only at hSw); go_simp; first | done | (with_reducible rfl))
    try simp only [Act.put, List.getElem_toArray, List.getElem_cons_zero, List.getElem_cons_succ, List.setIfInBounds_toArray, List.set_cons_zero, List.set_cons_succ]
    refine wpAnyH_take (i := 3) (v := .agg x.cells.toArray) rfl (by kernel_rfl) (by kernel_rfl) (by kernel_rfl) (fun _ _ _ h => h) (yieldsIf_load rfl 43 (.tmp 5) rfl b5 0 53 43 (.int .i64 x.kind :: .int .i64 x.group :: .int .i64 x.frm :: .string x.body :: .int .i64 x.value :: (x.msg.cells ++ [.bool x.fit])) x.cells _ (fun w hw => hw.2) (xc_take HXL.out) rfl Try.underlying43 rfl (op_size HXL.out)) (by assumption) ?_
    try simp only [Act.put, List.getElem_toArray, List.getElem_cons_zero, List.getElem_cons_succ, List.setIfInBounds_toArray, List.set_cons_zero, List.set_cons_succ]
    refine wpAnyH_take (i := 4) (v := ?vm4) rfl (by kernel_rfl) (by kernel_rfl) (by kernel_rfl) (fun _ _ _ h => h) (Or.inl ⟨by rfl, ?hym4⟩) (by assumption) ?restm4
    case hym4 => (intro w hSw; (try dsimp only at hSw); go_simp; first | done | (with_reducible rfl))
    try simp only [Act.put, List.getElem_toArray, List.getElem_cons_zero, List.getElem_cons_succ, List.setIfInBounds_toArray, List.set_cons_zero, List.set_cons_succ]
    refine wpAnyH_take (i := 5) (v := ?vm5) rfl (by kernel_rfl) (by kernel_rfl) (by kernel_rfl) (fun _ _ _ h => h) (Or.inl ⟨by rfl, ?hym5⟩) (by assumption) ?restm5
    case hym5 => (intro w hSw; (try dsimp only at hSw); go_simp; first | done | (with_reducible rfl))
    try simp only [Act.put, List.getElem_toArray, List.getElem_cons_zero, List.getElem_cons_succ, List.setIfInBounds_toArray, List.set_cons_zero, List.set_cons_succ]
    refine wpAnyH_ready (rs := [6]) (by kernel_rfl) (by simp) ?_
    refine AllReadyH.cons rfl (fun K hK => ?_) AllReadyH.nil
    go_simp
    refine (HRP.out _).mono ?_
    rintro e wE ⟨rfl, hb⟩
    replace HC := hide (HC.out.step hb)
    replace HO := hide (HO.out.step hb)
    clear hb
    refine hK.out _ _ (⟨rs_cells (HO.out.cells 0 rfl), xc_cells (HO.out.cells 1 rfl)⟩) (fun hS6 => ?_)
    clear hK K
    try simp only [Act.put, List.getElem_toArray, List.getElem_cons_zero, List.getElem_cons_succ, List.setIfInBounds_toArray, List.set_cons_zero, List.set_cons_succ]
    refine wpAnyH_ready (rs := [7]) (by kernel_rfl) (by simp) ?_
    refine AllReadyH.cons rfl (fun K hK => ?_) AllReadyH.nil
    go_simp
    refine (HCR.out _ HC.out).mono ?_
    rintro e wF ⟨v, rfl, hv, ⟨q, hc⟩, ht⟩
    dsimp only at hc hv
    obtain rfl : v = .slice none 0 0 := hv
    replace HO := hide (HO.out.call ht (by simp))
    replace HC := hide hc
    clear hc ht
    refine hK.out _ _ (⟨rs_cells (HO.out.cells 0 rfl), xc_cells (HO.out.cells 1 rfl)⟩) (fun hS7 => ?_)
    clear hK K
    try simp only [Act.put, List.getElem_toArray, List.getElem_cons_zero, List.getElem_cons_succ, List.setIfInBounds_toArray, List.set_cons_zero, List.set_cons_succ]
    refine wpAnyH_take (i := 8) (v := ?vm8) rfl (by kernel_rfl) (by kernel_rfl) (by kernel_rfl) (fun _ _ _ h => h) (Or.inl ⟨by rfl, ?hym8⟩) (by assumption) ?restm8
    case hym8 => (intro w hSw; (try dsimp only at hSw); go_simp; first | done | (with_reducible rfl))
    try simp only [Act.put, List.getElem_toArray, List.getElem_cons_zero, List.getElem_cons_succ, List.setIfInBounds_toArray, List.set_cons_zero, List.set_cons_succ]
    refine wpAnyH_take (i := 9) (v := ?vm9) rfl (by kernel_rfl) (by kernel_rfl) (by kernel_rfl) (fun _ _ _ h => h) (Or.inl ⟨by rfl, ?hym9⟩) (by assumption) ?restm9
    case hym9 => (intro w hSw; (try dsimp only at hSw); go_simp; first | done | (with_reducible rfl))
    try simp only [Act.put, List.getElem_toArray, List.getElem_cons_zero, List.getElem_cons_succ, List.setIfInBounds_toArray, List.set_cons_zero, List.set_cons_succ]
    refine wpAnyH_take (i := 10) (v := ?vm10) rfl (by kernel_rfl) (by kernel_rfl) (by kernel_rfl) (fun _ _ _ h => h) (Or.inl ⟨by rfl, ?hym10⟩) (by assumption) ?restm10
    case hym10 => (intro w hSw; (try dsimp only at hSw); go_simp; first | done | (with_reducible rfl))
    try simp only [Act.put, List.getElem_toArray, List.getElem_cons_zero, List.getElem_cons_succ, List.setIfInBounds_toArray, List.set_cons_zero, List.set_cons_succ]
    refine wpAnyH_take (i := 11) (v := ?vm11) rfl (by kernel_rfl) (by kernel_rfl) (by kernel_rfl) (fun _ _ _ h => h) (Or.inl ⟨by rfl, ?hym11⟩) (by assumption) ?restm11
    case hym11 => (intro w hSw; (try dsimp only at hSw); go_simp; first | done | (with_reducible rfl))
    try simp only [Act.put, List.getElem_toArray, List.getElem_cons_zero, List.getElem_cons_succ, List.setIfInBounds_toArray, List.set_cons_zero, List.set_cons_succ]
    refine wpAnyH_take (i := 12) (v := ?vm12) rfl (by kernel_rfl) (by kernel_rfl) (by kernel_rfl) (fun _ _ _ h => h) (Or.inl ⟨by rfl, ?hym12⟩) (by assumption) ?restm12
    case hym12 => (intro w hSw; (try dsimp only at hSw); go_simp; first | done | (with_reducible rfl))
    try simp only [Act.put, List.getElem_toArray, List.getElem_cons_zero, List.getElem_cons_succ, List.setIfInBounds_toArray, List.set_cons_zero, List.set_cons_succ]
    refine wpAnyH_done (by kernel_rfl) ?_ _
    clear hS0
    go_wp2_with fail
    refine wp_region_held_drew (S := fun W => (∀ j, W.cell? ⟨b9, j, none⟩ = (rC st : List Value)[j]?)) (by kernel_rfl) (HO.out.drew.cells 3 rfl) (fun hS0 => ?_)
    replace HO := hide HO.out.drew
    replace HC := hide HC.out.drew
    refine wpAnyH_take (i := 0) (v := .agg (rC st).toArray) rfl (by kernel_rfl) (by kernel_rfl) (by kernel_rfl) (fun _ _ _ h => h) (yieldsIf_load rfl 46 (.tmp 24) rfl b9 0 52 46 (rC st) (rC st) _ (fun w hw => hw) (take_all HRL.out) rfl Try.underlying46 rfl (rc_size HRL.out)) (by assumption) ?_
    try simp only [Act.put, List.getElem_toArray, List.getElem_cons_zero, List.getElem_cons_succ, List.setIfInBounds_toArray, List.set_cons_zero, List.set_cons_succ]
    refine wpAnyH_take (i := 1) (v := ?vz1) rfl (by kernel_rfl) (by kernel_rfl) (by kernel_rfl) (fun _ _ _ h => h) (Or.inl ⟨by rfl, ?hyz1⟩) (by assumption) ?restz1
    case hyz1 => (intro w hSw; (try dsimp only at hSw); go_simp; first | done | (with_reducible rfl))
    try simp only [Act.put, List.getElem_toArray, List.getElem_cons_zero, List.getElem_cons_succ, List.setIfInBounds_toArray, List.set_cons_zero, List.set_cons_succ]
    refine wpAnyH_take (i := 2) (v := ?vz2) rfl (by kernel_rfl) (by kernel_rfl) (by kernel_rfl) (fun _ _ _ h => h) (Or.inl ⟨by rfl, ?hyz2⟩) (by assumption) ?restz2
    case hyz2 => (intro w hSw; (try dsimp only at hSw); go_simp; first | done | (with_reducible rfl))
    try simp only [Act.put, List.getElem_toArray, List.getElem_cons_zero, List.getElem_cons_succ, List.setIfInBounds_toArray, List.set_cons_zero, List.set_cons_succ]
    refine wpAnyH_take (i := 3) (v := ?vz3) rfl (by kernel_rfl) (by kernel_rfl) (by kernel_rfl) (fun _ _ _ h => h) (Or.inl ⟨by rfl, ?hyz3⟩) (by assumption) ?restz3
    case hyz3 => (intro w hSw; (try dsimp only at hSw); go_simp; first | done | (with_reducible rfl))
    try simp only [Act.put, List.getElem_toArray, List.getElem_cons_zero, List.getElem_cons_succ, List.setIfInBounds_toArray, List.set_cons_zero, List.set_cons_succ]
    refine wpAnyH_take (i := 4) (v := ?vz4) rfl (by kernel_rfl) (by kernel_rfl) (by kernel_rfl) (fun _ _ _ h => h) (Or.inl ⟨by rfl, ?hyz4⟩) (by assumption) ?restz4
    case hyz4 => (intro w hSw; (try dsimp only at hSw); go_simp; first | done | (with_reducible rfl))
    try simp only [Act.put, List.getElem_toArray, List.getElem_cons_zero, List.getElem_cons_succ, List.setIfInBounds_toArray, List.set_cons_zero, List.set_cons_succ]
    refine wpAnyH_take (i := 5) (v := ?vz5) rfl (by kernel_rfl) (by kernel_rfl) (by kernel_rfl) (fun _ _ _ h => h) (Or.inl ⟨by rfl, ?hyz5⟩) (by assumption) ?restz5
    case hyz5 => (intro w hSw; (try dsimp only at hSw); go_simp; first | done | (with_reducible rfl))
    try simp only [Act.put, List.getElem_toArray, List.getElem_cons_zero, List.getElem_cons_succ, List.setIfInBounds_toArray, List.set_cons_zero, List.set_cons_succ]
    refine wpAnyH_take (i := 6) (v := ?vz6) rfl (by kernel_rfl) (by kernel_rfl) (by kernel_rfl) (fun _ _ _ h => h) (Or.inl ⟨by rfl, ?hyz6⟩) (by assumption) ?restz6
    case hyz6 => (intro w hSw; (try dsimp only at hSw); go_simp; first | done | (with_reducible rfl))
    try simp only [Act.put, List.getElem_toArray, List.getElem_cons_zero, List.getElem_cons_succ, List.setIfInBounds_toArray, List.set_cons_zero, List.set_cons_succ]
    refine wpAnyH_take (i := 7) (v := ?vz7) rfl (by kernel_rfl) (by kernel_rfl) (by kernel_rfl) (fun _ _ _ h => h) (Or.inl ⟨by rfl, ?hyz7⟩) (by assumption) ?restz7
    case hyz7 => (intro w hSw; (try dsimp only at hSw); go_simp; first | done | (with_reducible rfl))
    try simp only [Act.put, List.getElem_toArray, List.getElem_cons_zero, List.getElem_cons_succ, List.setIfInBounds_toArray, List.set_cons_zero, List.set_cons_succ]
    refine wpAnyH_ready (rs := [8]) (by kernel_rfl) (by simp) ?_
    refine AllReadyH.cons rfl (fun K hK => ?_) AllReadyH.nil
    go_simp
    refine (sameOut_nil _).mono ?_
    rintro e wE ⟨rfl, hb⟩
    replace HC := hide (HC.out.step hb)
    replace HO := hide (HO.out.step hb)
    clear hb
    refine hK.out _ _ (HO.out.cells 3 rfl) (fun hS8 => ?_)
    clear hK K
    try simp only [Act.put, List.getElem_toArray, List.getElem_cons_zero, List.getElem_cons_succ, List.setIfInBounds_toArray, List.set_cons_zero, List.set_cons_succ]
    refine wpAnyH_take (i := 9) (v := ?vz9) rfl (by kernel_rfl) (by kernel_rfl) (by kernel_rfl) (fun _ _ _ h => h) (Or.inl ⟨by rfl, ?hyz9⟩) (by assumption) ?restz9
    case hyz9 => (intro w hSw; (try dsimp only at hSw); go_simp; first | done | (with_reducible rfl))
    try simp only [Act.put, List.getElem_toArray, List.getElem_cons_zero, List.getElem_cons_succ, List.setIfInBounds_toArray, List.set_cons_zero, List.set_cons_succ]
    refine wpAnyH_ready (rs := [10]) (by kernel_rfl) (by simp) ?_
    refine AllReadyH.cons rfl (fun K hK => ?_) AllReadyH.nil
    refine step_store_own_t HO.out rfl 46 (.tmp 6) (.tmp 161) rfl 2 _ 0 _ _ (rC st) (rC st) rfl (.agg (rC st).toArray) rfl rfl (fits_agg _) (by rw [HRL.out, zrc_len]; exact Nat.le_refl _) (splice_all (by rw [HRL.out, zrc_len])) (rc_size HRL.out) HRO.out ?_
    intro WA hO hbk htc
    replace HC := hide (HC.out.put hbk (by decide) htc)
    replace HO := hide hO
    clear hO hbk htc
    refine hK.out _ _ (HO.out.cells 3 rfl) (fun hS10 => ?_)
    clear hK K
    try simp only [Act.put, List.getElem_toArray, List.getElem_cons_zero, List.getElem_cons_succ, List.setIfInBounds_toArray, List.set_cons_zero, List.set_cons_succ]
    refine wpAnyH_take (i := 11) (v := ?vz11) rfl (by kernel_rfl) (by kernel_rfl) (by kernel_rfl) (fun _ _ _ h => h) (Or.inl ⟨by rfl, ?hyz11⟩) (by assumption) ?restz11
    case hyz11 => (intro w hSw; (try dsimp only at hSw); go_simp; first | done | (with_reducible rfl))
    try simp only [Act.put, List.getElem_toArray, List.getElem_cons_zero, List.getElem_cons_succ, List.setIfInBounds_toArray, List.set_cons_zero, List.set_cons_succ]
    refine wpAnyH_take (i := 12) (v := ?vz12) rfl (by kernel_rfl) (by kernel_rfl) (by kernel_rfl) (fun _ _ _ h => h) (Or.inl ⟨by rfl, ?hyz12⟩) (by assumption) ?restz12
    case hyz12 => (intro w hSw; (try dsimp only at hSw); go_simp; first | done | (with_reducible rfl))
    try simp only [Act.put, List.getElem_toArray, List.getElem_cons_zero, List.getElem_cons_succ, List.setIfInBounds_toArray, List.set_cons_zero, List.set_cons_succ]
    refine wpAnyH_done (by kernel_rfl) ?_ _
    clear hS0
    go_wp2_with fail
    refine bodyPost_ret (results_row_tmp_tmp rfl _ HO.out 2 _ _ _ _ _ _ rfl rfl rfl rfl Try.underlying46 rfl (rc_size HRL.out)) rfl ?_
    rw [HSTEP.out]
    exact ⟨_, rfl, outs_none _ _, ⟨q, HC.out⟩, HO.out.touch⟩
set_option maxRecDepth 100000 in
set_option maxHeartbeats 8000000 in
theorem step_k3s (g : Nat) (S : CS) (p : Value) (x : OpV) (w : World) (h : Cl w g S p) (hA : Asks S) (hx : x.Ok) (hk : x.kind = 3) (o : List Value) (ho : (cReceive S (repM x S.number) x.frm).out = some o) :
    Calls Try.prog 20 #[.pointer (some ⟨g, 0, none⟩), .agg (rC S).toArray, .agg x.cells.toArray] w (StepR w g (cStep S x)) := by
  have HO := hide (Own.nil w [g] (by simpa using h.lt))
  have HC := hide h
  have HRP := hide (fun (X : World) => reply_c x hx S.number X)
  have HRR := hide (fun (X : World) => rrecv_model hA (repM x S.number) (repM_ok hx _) x.frm X)
  have HCR := hide (fun (X : World) (hX : Cl X g S p) => recv_model g S p x.frm (repM x S.number) X hX hA (repM_ok hx _))
  have HAS := hide (cAnswered_asks hA (repM x S.number) x.frm)
  have HSTEP : Hid (cStep S x = ((cReceive S (repM x S.number) x.frm).st, (cReceive S (repM x S.number) x.frm).out.toList)) := hide (by
    unfold cStep
    rw [if_neg (by omega), if_neg (by omega), if_neg (by omega), if_pos hk])
  generalize cReceive S (repM x S.number) x.frm = r at *
  obtain ⟨st, en, out⟩ := r
  dsimp only at ho
  subst ho
  dsimp only [Option.toList] at HSTEP HAS HRR HCR
  have HG := hide (HAS.out.2 o rfl)
  have HRL := hide HAS.out.1.rlen
  have HRO := hide HAS.out.1.rones
  have HSL := hide hA.rlen
  have HSO := hide hA.rones
  have HXL := hide hx.size
  generalize repM x S.number = mm at *
  clear h hA hx HAS
  go_enter Try.func20, Try.ntmps20
  go_wp2_with (first
    | ((with_reducible refine at_box 46 (.tmp 1) ?_); refine wpList_box_own_t HO.out rfl 46 (.tmp 1) rfl (rC S) rfl ?_; intro WA b4 hO hbl; replace HC := hide (HC.out.step hbl); replace HO := hide hO; clear hO hbl)
    | ((with_reducible refine at_box 43 (.tmp 2) ?_); refine wpList_box_own_t HO.out rfl 43 (.tmp 2) rfl (x.cells) rfl ?_; intro WA b5 hO hbl; replace HC := hide (HC.out.step hbl); replace HO := hide hO; clear hO hbl)
    | ((with_reducible refine at_alloc 46 ?_); refine wpList_alloc_own_t HO.out rfl 46 rfl (zrc) zrc_info ?_; intro WA b6 hO hbl; replace HC := hide (HC.out.step hbl); replace HO := hide hO; have k1 := xc_cells (hO.cells 1 rfl); clear hO hbl))
  clear k1
  refine wp_region_held_drew (S := fun W => (∀ j, W.cell? ⟨b4, j, none⟩ = (rcl S.id S.machines S.target S.number S.opened.isSome (openOf S).1 : List Value)[j]?) ∧ (∀ j, W.cell? ⟨b5, j, none⟩ = (.int .i64 x.kind :: .int .i64 x.group :: .int .i64 x.frm :: .string x.body :: .int .i64 x.value :: (x.msg.cells ++ [.bool x.fit]) : List Value)[j]?)) (by kernel_rfl) (⟨rs_cells (HO.out.drew.cells 0 rfl), xc_cells (HO.out.drew.cells 1 rfl)⟩) (fun hS0 => ?_)
  replace HO := hide HO.out.drew
  replace HC := hide HC.out.drew
  refine wpAnyH_take (i := 0) (v := .agg (rC S).toArray) rfl (by kernel_rfl) (by kernel_rfl) (by kernel_rfl) (fun _ _ _ h => h) (yieldsIf_load rfl 46 (.tmp 4) rfl b4 0 52 46 (rcl S.id S.machines S.target S.number S.opened.isSome (openOf S).1) (rC S) _ (fun w hw => hw.1) (rs_take HSL.out) rfl Try.underlying46 rfl (rc_size HSL.out)) (by assumption) ?_
  try simp only [Act.put, List.getElem_toArray, List.getElem_cons_zero, List.getElem_cons_succ, List.setIfInBounds_toArray, List.set_cons_zero, List.set_cons_succ]
  refine wpAnyH_take (i := 1) (v := ?vp2) rfl (by kernel_rfl) (by kernel_rfl) (by kernel_rfl) (fun _ _ _ h => h) (Or.inl ⟨by rfl, ?hyp2⟩) (by assumption) ?restp2
  case hyp2 => (intro w hSw; (try dsimp only at hSw); go_simp; first | done | (with_reducible rfl))
  try simp only [Act.put, List.getElem_toArray, List.getElem_cons_zero, List.getElem_cons_succ, List.setIfInBounds_toArray, List.set_cons_zero, List.set_cons_succ]
  refine wpAnyH_take (i := 2) (v := ?vp3) rfl (by kernel_rfl) (by kernel_rfl) (by kernel_rfl) (fun _ _ _ h => h) (Or.inl ⟨by rfl, ?hyp3⟩) (by assumption) ?restp3
  case hyp3 => (intro w hSw; (try dsimp only at hSw); go_simp; first | done | (with_reducible rfl))
  try simp only [Act.put, List.getElem_toArray, List.getElem_cons_zero, List.getElem_cons_succ, List.setIfInBounds_toArray, List.set_cons_zero, List.set_cons_succ]
  refine wpAnyH_take (i := 3) (v := .agg x.cells.toArray) rfl (by kernel_rfl) (by kernel_rfl) (by kernel_rfl) (fun _ _ _ h => h) (yieldsIf_load rfl 43 (.tmp 5) rfl b5 0 53 43 (.int .i64 x.kind :: .int .i64 x.group :: .int .i64 x.frm :: .string x.body :: .int .i64 x.value :: (x.msg.cells ++ [.bool x.fit])) x.cells _ (fun w hw => hw.2) (xc_take HXL.out) rfl Try.underlying43 rfl (op_size HXL.out)) (by assumption) ?_
  try simp only [Act.put, List.getElem_toArray, List.getElem_cons_zero, List.getElem_cons_succ, List.setIfInBounds_toArray, List.set_cons_zero, List.set_cons_succ]
  refine wpAnyH_take (i := 4) (v := ?vp5) rfl (by kernel_rfl) (by kernel_rfl) (by kernel_rfl) (fun _ _ _ h => h) (Or.inl ⟨by rfl, ?hyp5⟩) (by assumption) ?restp5
  case hyp5 => (intro w hSw; (try dsimp only at hSw); go_simp; first | done | (with_reducible rfl))
  try simp only [Act.put, List.getElem_toArray, List.getElem_cons_zero, List.getElem_cons_succ, List.setIfInBounds_toArray, List.set_cons_zero, List.set_cons_succ]
  refine wpAnyH_take (i := 5) (v := ?vp6) rfl (by kernel_rfl) (by kernel_rfl) (by kernel_rfl) (fun _ _ _ h => h) (Or.inl ⟨by rfl, ?hyp6⟩) (by assumption) ?restp6
  case hyp6 => (intro w hSw; (try dsimp only at hSw); go_simp; first | done | (with_reducible rfl))
  try simp only [Act.put, List.getElem_toArray, List.getElem_cons_zero, List.getElem_cons_succ, List.setIfInBounds_toArray, List.set_cons_zero, List.set_cons_succ]
  refine' tail_2 (I := fun b9 bv W => Own w [g] ([(b4, 46, rC S), (b5, 43, x.cells), (b6, 46, zrc)] ++ [(bv, 59, o)] ++ [(b9, 46, rC st)]) W ∧ Cl W g S p) (fun pTABCD => ?_) ?_
  rotate_left
  refine' tail_2 (I := fun b9 bv W => Own w [g] ([(b4, 46, rC S), (b5, 43, x.cells), (b6, 46, zrc)] ++ [(bv, 59, o)] ++ [(b9, 46, zrc)]) W ∧ Cl W g S p) (fun pTABC => ?_) ?_
  rotate_left
  refine' tail_1 (I := fun bv W => Own w [g] ([(b4, 46, rC S), (b5, 43, x.cells), (b6, 46, zrc)] ++ [(bv, 59, o)]) W ∧ Cl W g S p) (fun pTBC => ?_) ?_
  rotate_left
  refine' tail_1 (I := fun b9 W => Own w [g] ([(b4, 46, rC S), (b5, 43, x.cells), (b6, 46, zrc)] ++ [(b9, 46, zrc)]) W ∧ Cl W g S p) (fun pTAB => ?_) ?_
  rotate_left
  refine' tail_0 (I := fun  W => Own w [g] ([(b4, 46, rC S), (b5, 43, x.cells), (b6, 46, zrc)]) W ∧ Cl W g S p) (fun pTB => ?_) ?_
  rotate_left
  refine' tail_1 (I := fun b9 W => Own w [g] ([(b4, 46, rC S), (b5, 43, x.cells), (b6, 46, zrc)] ++ [(b9, 46, zrc)]) W ∧ Cl W g S p) (fun pTA => ?_) ?_
  rotate_left
  · refine wpAnyH_ready (rs := [6, 12]) (by kernel_rfl) (by simp) ?_
    refine AllReadyH.cons rfl (fun K hK => ?_) (AllReadyH.cons rfl (fun K hK => ?_) (AllReadyH.nil))
    · go_simp
      refine (HRP.out _).mono ?_
      rintro e wE ⟨rfl, hb⟩
      replace HC := hide (HC.out.step hb)
      replace HO := hide (HO.out.step hb)
      clear hb
      replace HO := hide (show Own w [g] ([(b4, 46, rC S), (b5, 43, x.cells), (b6, 46, zrc)]) _ from HO.out)
      refine hK.out _ _ (⟨rs_cells (HO.out.cells 0 rfl), xc_cells (HO.out.cells 1 rfl)⟩) (fun _ => ?_)
      clear hK K
      try simp only [Act.put, List.getElem_toArray, List.getElem_cons_zero, List.getElem_cons_succ, List.setIfInBounds_toArray, List.set_cons_zero, List.set_cons_succ]
      exact pTB  _ ⟨HO.out, HC.out⟩
    · refine step_alloc_own_t HO.out rfl 46 rfl zrc zrc_info ?_
      intro WA b9 hO hbl
      replace HC := hide (HC.out.step hbl)
      replace HO := hide hO
      clear hO hbl
      replace HO := hide (show Own w [g] ([(b4, 46, rC S), (b5, 43, x.cells), (b6, 46, zrc)] ++ [(b9, 46, zrc)]) _ from HO.out)
      refine hK.out _ _ (⟨rs_cells (HO.out.cells 0 rfl), xc_cells (HO.out.cells 1 rfl)⟩) (fun _ => ?_)
      clear hK K
      try simp only [Act.put, List.getElem_toArray, List.getElem_cons_zero, List.getElem_cons_succ, List.setIfInBounds_toArray, List.set_cons_zero, List.set_cons_succ]
      exact pTA b9 _ ⟨HO.out, HC.out⟩
  · intro b9 WT hI
    obtain ⟨hO, hC⟩ := hI
    replace HO := hide hO
    replace HC := hide hC
    clear hO hC
    have hSS : (fun W => (∀ j, W.cell? ⟨b4, j, none⟩ = (rcl S.id S.machines S.target S.number S.opened.isSome (openOf S).1 : List Value)[j]?) ∧ (∀ j, W.cell? ⟨b5, j, none⟩ = (.int .i64 x.kind :: .int .i64 x.group :: .int .i64 x.frm :: .string x.body :: .int .i64 x.value :: (x.msg.cells ++ [.bool x.fit]) : List Value)[j]?)) WT := ⟨rs_cells (HO.out.cells 0 rfl), xc_cells (HO.out.cells 1 rfl)⟩
    refine wpAnyH_ready (rs := [6]) (by kernel_rfl) (by simp) ?_
    refine AllReadyH.cons rfl (fun K hK => ?_) (AllReadyH.nil)
    · go_simp
      refine (HRP.out _).mono ?_
      rintro e wE ⟨rfl, hb⟩
      replace HC := hide (HC.out.step hb)
      replace HO := hide (HO.out.step hb)
      clear hb
      replace HO := hide (show Own w [g] ([(b4, 46, rC S), (b5, 43, x.cells), (b6, 46, zrc)] ++ [(b9, 46, zrc)]) _ from HO.out)
      refine hK.out _ _ (⟨rs_cells (HO.out.cells 0 rfl), xc_cells (HO.out.cells 1 rfl)⟩) (fun _ => ?_)
      clear hK K
      try simp only [Act.put, List.getElem_toArray, List.getElem_cons_zero, List.getElem_cons_succ, List.setIfInBounds_toArray, List.set_cons_zero, List.set_cons_succ]
      exact pTAB b9 _ ⟨HO.out, HC.out⟩
  · intro  WT hI
    obtain ⟨hO, hC⟩ := hI
    replace HO := hide hO
    replace HC := hide hC
    clear hO hC
    have hSS : (fun W => (∀ j, W.cell? ⟨b4, j, none⟩ = (rcl S.id S.machines S.target S.number S.opened.isSome (openOf S).1 : List Value)[j]?) ∧ (∀ j, W.cell? ⟨b5, j, none⟩ = (.int .i64 x.kind :: .int .i64 x.group :: .int .i64 x.frm :: .string x.body :: .int .i64 x.value :: (x.msg.cells ++ [.bool x.fit]) : List Value)[j]?)) WT := ⟨rs_cells (HO.out.cells 0 rfl), xc_cells (HO.out.cells 1 rfl)⟩
    refine wpAnyH_ready (rs := [7, 12]) (by kernel_rfl) (by simp) ?_
    refine AllReadyH.cons rfl (fun K hK => ?_) (AllReadyH.cons rfl (fun K hK => ?_) (AllReadyH.nil))
    · go_simp
      refine (HRR.out _).mono ?_
      rintro e wE ⟨v, rfl, hv, hb⟩
      replace HC := hide (HC.out.step hb)
      obtain ⟨bv, hbn, rfl, hbk, _⟩ := hv
      have hO := HO.out.addT (Touch.below hb []) (by simp) hbk hbn
      replace HO := hide hO
      clear hO hb hbk hbn
      replace HO := hide (show Own w [g] ([(b4, 46, rC S), (b5, 43, x.cells), (b6, 46, zrc)] ++ [(bv, 59, o)]) _ from HO.out)
      refine hK.out _ _ (⟨rs_cells (HO.out.cells 0 rfl), xc_cells (HO.out.cells 1 rfl)⟩) (fun _ => ?_)
      clear hK K
      try simp only [Act.put, List.getElem_toArray, List.getElem_cons_zero, List.getElem_cons_succ, List.setIfInBounds_toArray, List.set_cons_zero, List.set_cons_succ]
      refine wpAnyH_take (i := 8) (v := ?vp7) rfl (by kernel_rfl) (by kernel_rfl) (by kernel_rfl) (fun _ _ _ h => h) (Or.inl ⟨by rfl, ?hyp7⟩) (by assumption) ?restp7
      case hyp7 => (intro w hSw; (try dsimp only at hSw); go_simp; first | done | (with_reducible rfl))
      try simp only [Act.put, List.getElem_toArray, List.getElem_cons_zero, List.getElem_cons_succ, List.setIfInBounds_toArray, List.set_cons_zero, List.set_cons_succ]
      refine wpAnyH_take (i := 9) (v := ?vp8) rfl (by kernel_rfl) (by kernel_rfl) (by kernel_rfl) (fun _ _ _ h => h) (Or.inl ⟨by rfl, ?hyp8⟩) (by assumption) ?restp8
      case hyp8 => (intro w hSw; (try dsimp only at hSw); go_simp; first | done | (with_reducible rfl))
      try simp only [Act.put, List.getElem_toArray, List.getElem_cons_zero, List.getElem_cons_succ, List.setIfInBounds_toArray, List.set_cons_zero, List.set_cons_succ]
      refine wpAnyH_take (i := 10) (v := ?vp9) rfl (by kernel_rfl) (by kernel_rfl) (by kernel_rfl) (fun _ _ _ h => h) (Or.inl ⟨by rfl, ?hyp9⟩) (by assumption) ?restp9
      case hyp9 => (intro w hSw; (try dsimp only at hSw); go_simp; first | done | (with_reducible rfl))
      try simp only [Act.put, List.getElem_toArray, List.getElem_cons_zero, List.getElem_cons_succ, List.setIfInBounds_toArray, List.set_cons_zero, List.set_cons_succ]
      refine wpAnyH_take (i := 11) (v := ?vp10) rfl (by kernel_rfl) (by kernel_rfl) (by kernel_rfl) (fun _ _ _ h => h) (Or.inl ⟨by rfl, ?hyp10⟩) (by assumption) ?restp10
      case hyp10 => (intro w hSw; (try dsimp only at hSw); go_simp; first | done | (with_reducible rfl))
      try simp only [Act.put, List.getElem_toArray, List.getElem_cons_zero, List.getElem_cons_succ, List.setIfInBounds_toArray, List.set_cons_zero, List.set_cons_succ]
      exact pTBC bv _ ⟨HO.out, HC.out⟩
    · refine step_alloc_own_t HO.out rfl 46 rfl zrc zrc_info ?_
      intro WA b9 hO hbl
      replace HC := hide (HC.out.step hbl)
      replace HO := hide hO
      clear hO hbl
      replace HO := hide (show Own w [g] ([(b4, 46, rC S), (b5, 43, x.cells), (b6, 46, zrc)] ++ [(b9, 46, zrc)]) _ from HO.out)
      refine hK.out _ _ (⟨rs_cells (HO.out.cells 0 rfl), xc_cells (HO.out.cells 1 rfl)⟩) (fun _ => ?_)
      clear hK K
      try simp only [Act.put, List.getElem_toArray, List.getElem_cons_zero, List.getElem_cons_succ, List.setIfInBounds_toArray, List.set_cons_zero, List.set_cons_succ]
      exact pTAB b9 _ ⟨HO.out, HC.out⟩
  · intro b9 WT hI
    obtain ⟨hO, hC⟩ := hI
    replace HO := hide hO
    replace HC := hide hC
    clear hO hC
    have hSS : (fun W => (∀ j, W.cell? ⟨b4, j, none⟩ = (rcl S.id S.machines S.target S.number S.opened.isSome (openOf S).1 : List Value)[j]?) ∧ (∀ j, W.cell? ⟨b5, j, none⟩ = (.int .i64 x.kind :: .int .i64 x.group :: .int .i64 x.frm :: .string x.body :: .int .i64 x.value :: (x.msg.cells ++ [.bool x.fit]) : List Value)[j]?)) WT := ⟨rs_cells (HO.out.cells 0 rfl), xc_cells (HO.out.cells 1 rfl)⟩
    refine wpAnyH_ready (rs := [7]) (by kernel_rfl) (by simp) ?_
    refine AllReadyH.cons rfl (fun K hK => ?_) (AllReadyH.nil)
    · go_simp
      refine (HRR.out _).mono ?_
      rintro e wE ⟨v, rfl, hv, hb⟩
      replace HC := hide (HC.out.step hb)
      obtain ⟨bv, hbn, rfl, hbk, _⟩ := hv
      have hO := HO.out.addT (Touch.below hb []) (by simp) hbk hbn
      replace HO := hide hO.swap
      clear hO hb hbk hbn
      replace HO := hide (show Own w [g] ([(b4, 46, rC S), (b5, 43, x.cells), (b6, 46, zrc)] ++ [(bv, 59, o)] ++ [(b9, 46, zrc)]) _ from HO.out)
      refine hK.out _ _ (⟨rs_cells (HO.out.cells 0 rfl), xc_cells (HO.out.cells 1 rfl)⟩) (fun _ => ?_)
      clear hK K
      try simp only [Act.put, List.getElem_toArray, List.getElem_cons_zero, List.getElem_cons_succ, List.setIfInBounds_toArray, List.set_cons_zero, List.set_cons_succ]
      refine wpAnyH_take (i := 8) (v := ?vp11) rfl (by kernel_rfl) (by kernel_rfl) (by kernel_rfl) (fun _ _ _ h => h) (Or.inl ⟨by rfl, ?hyp11⟩) (by assumption) ?restp11
      case hyp11 => (intro w hSw; (try dsimp only at hSw); go_simp; first | done | (with_reducible rfl))
      try simp only [Act.put, List.getElem_toArray, List.getElem_cons_zero, List.getElem_cons_succ, List.setIfInBounds_toArray, List.set_cons_zero, List.set_cons_succ]
      refine wpAnyH_take (i := 9) (v := ?vp12) rfl (by kernel_rfl) (by kernel_rfl) (by kernel_rfl) (fun _ _ _ h => h) (Or.inl ⟨by rfl, ?hyp12⟩) (by assumption) ?restp12
      case hyp12 => (intro w hSw; (try dsimp only at hSw); go_simp; first | done | (with_reducible rfl))
      try simp only [Act.put, List.getElem_toArray, List.getElem_cons_zero, List.getElem_cons_succ, List.setIfInBounds_toArray, List.set_cons_zero, List.set_cons_succ]
      refine wpAnyH_take (i := 10) (v := ?vp13) rfl (by kernel_rfl) (by kernel_rfl) (by kernel_rfl) (fun _ _ _ h => h) (Or.inl ⟨by rfl, ?hyp13⟩) (by assumption) ?restp13
      case hyp13 => (intro w hSw; (try dsimp only at hSw); go_simp; first | done | (with_reducible rfl))
      try simp only [Act.put, List.getElem_toArray, List.getElem_cons_zero, List.getElem_cons_succ, List.setIfInBounds_toArray, List.set_cons_zero, List.set_cons_succ]
      refine wpAnyH_take (i := 11) (v := ?vp14) rfl (by kernel_rfl) (by kernel_rfl) (by kernel_rfl) (fun _ _ _ h => h) (Or.inl ⟨by rfl, ?hyp14⟩) (by assumption) ?restp14
      case hyp14 => (intro w hSw; (try dsimp only at hSw); go_simp; first | done | (with_reducible rfl))
      try simp only [Act.put, List.getElem_toArray, List.getElem_cons_zero, List.getElem_cons_succ, List.setIfInBounds_toArray, List.set_cons_zero, List.set_cons_succ]
      exact pTABC b9 bv _ ⟨HO.out, HC.out⟩
  · intro bv WT hI
    obtain ⟨hO, hC⟩ := hI
    replace HO := hide hO
    replace HC := hide hC
    clear hO hC
    have hSS : (fun W => (∀ j, W.cell? ⟨b4, j, none⟩ = (rcl S.id S.machines S.target S.number S.opened.isSome (openOf S).1 : List Value)[j]?) ∧ (∀ j, W.cell? ⟨b5, j, none⟩ = (.int .i64 x.kind :: .int .i64 x.group :: .int .i64 x.frm :: .string x.body :: .int .i64 x.value :: (x.msg.cells ++ [.bool x.fit]) : List Value)[j]?)) WT := ⟨rs_cells (HO.out.cells 0 rfl), xc_cells (HO.out.cells 1 rfl)⟩
    refine wpAnyH_ready (rs := [12]) (by kernel_rfl) (by simp) ?_
    refine AllReadyH.cons rfl (fun K hK => ?_) (AllReadyH.nil)
    · refine step_alloc_own_t HO.out rfl 46 rfl zrc zrc_info ?_
      intro WA b9 hO hbl
      replace HC := hide (HC.out.step hbl)
      replace HO := hide hO
      clear hO hbl
      replace HO := hide (show Own w [g] ([(b4, 46, rC S), (b5, 43, x.cells), (b6, 46, zrc)] ++ [(bv, 59, o)] ++ [(b9, 46, zrc)]) _ from HO.out)
      refine hK.out _ _ (⟨rs_cells (HO.out.cells 0 rfl), xc_cells (HO.out.cells 1 rfl)⟩) (fun _ => ?_)
      clear hK K
      try simp only [Act.put, List.getElem_toArray, List.getElem_cons_zero, List.getElem_cons_succ, List.setIfInBounds_toArray, List.set_cons_zero, List.set_cons_succ]
      exact pTABC b9 bv _ ⟨HO.out, HC.out⟩
  · intro b9 bv WT hI
    obtain ⟨hO, hC⟩ := hI
    replace HO := hide hO
    replace HC := hide hC
    clear hO hC
    have hSS : (fun W => (∀ j, W.cell? ⟨b4, j, none⟩ = (rcl S.id S.machines S.target S.number S.opened.isSome (openOf S).1 : List Value)[j]?) ∧ (∀ j, W.cell? ⟨b5, j, none⟩ = (.int .i64 x.kind :: .int .i64 x.group :: .int .i64 x.frm :: .string x.body :: .int .i64 x.value :: (x.msg.cells ++ [.bool x.fit]) : List Value)[j]?)) WT := ⟨rs_cells (HO.out.cells 0 rfl), xc_cells (HO.out.cells 1 rfl)⟩
    refine wpAnyH_ready (rs := [13]) (by kernel_rfl) (by simp) ?_
    refine AllReadyH.cons rfl (fun K hK => ?_) (AllReadyH.nil)
    · refine step_store_own_t HO.out rfl 46 (.tmp 24) (.tmp 147) rfl 4 _ 0 _ _ (rC st) (rC st) rfl (.agg (rC st).toArray) rfl rfl (fits_agg _) (by rw [HRL.out, zrc_len]; exact Nat.le_refl _) (splice_all (by rw [HRL.out, zrc_len])) (rc_size HRL.out) HRO.out ?_
      intro WA hO hbk htc
      replace HC := hide (HC.out.put hbk (by decide) htc)
      replace HO := hide hO
      clear hO hbk htc
      replace HO := hide (show Own w [g] ([(b4, 46, rC S), (b5, 43, x.cells), (b6, 46, zrc)] ++ [(bv, 59, o)] ++ [(b9, 46, rC st)]) _ from HO.out)
      refine hK.out _ _ (⟨rs_cells (HO.out.cells 0 rfl), xc_cells (HO.out.cells 1 rfl)⟩) (fun _ => ?_)
      clear hK K
      try simp only [Act.put, List.getElem_toArray, List.getElem_cons_zero, List.getElem_cons_succ, List.setIfInBounds_toArray, List.set_cons_zero, List.set_cons_succ]
      refine wpAnyH_take (i := 14) (v := ?vp15) rfl (by kernel_rfl) (by kernel_rfl) (by kernel_rfl) (fun _ _ _ h => h) (Or.inl ⟨by rfl, ?hyp15⟩) (by assumption) ?restp15
      case hyp15 => (intro w hSw; (try dsimp only at hSw); go_simp; first | done | (with_reducible rfl))
      try simp only [Act.put, List.getElem_toArray, List.getElem_cons_zero, List.getElem_cons_succ, List.setIfInBounds_toArray, List.set_cons_zero, List.set_cons_succ]
      refine wpAnyH_take (i := 15) (v := ?vp16) rfl (by kernel_rfl) (by kernel_rfl) (by kernel_rfl) (fun _ _ _ h => h) (Or.inl ⟨by rfl, ?hyp16⟩) (by assumption) ?restp16
      case hyp16 => (intro w hSw; (try dsimp only at hSw); go_simp; first | done | (with_reducible rfl))
      try simp only [Act.put, List.getElem_toArray, List.getElem_cons_zero, List.getElem_cons_succ, List.setIfInBounds_toArray, List.set_cons_zero, List.set_cons_succ]
      exact pTABCD b9 bv _ ⟨HO.out, HC.out⟩
  · intro b9 bv WT hI
    obtain ⟨hO, hC⟩ := hI
    replace HO := hide hO
    replace HC := hide hC
    clear hO hC
    refine wpAnyH_done (by kernel_rfl) ?_ _
    go_wp2_with fail
    refine wp_region_held_drew (S := fun W => (∀ j, W.cell? ⟨b4, j, none⟩ = (rcl S.id S.machines S.target S.number S.opened.isSome (openOf S).1 : List Value)[j]?) ∧ (∀ j, W.cell? ⟨b5, j, none⟩ = (.int .i64 x.kind :: .int .i64 x.group :: .int .i64 x.frm :: .string x.body :: .int .i64 x.value :: (x.msg.cells ++ [.bool x.fit]) : List Value)[j]?)) (by kernel_rfl) (⟨rs_cells (HO.out.drew.cells 0 rfl), xc_cells (HO.out.drew.cells 1 rfl)⟩) (fun hS0 => ?_)
    replace HO := hide HO.out.drew
    replace HC := hide HC.out.drew
    refine wpAnyH_take (i := 0) (v := ?vm0) rfl (by kernel_rfl) (by kernel_rfl) (by kernel_rfl) (fun _ _ _ h => h) (Or.inl ⟨by rfl, ?hym0⟩) (by assumption) ?restm0
    case hym0 => (intro w hSw; (try dsimp only at hSw); go_simp; first | done | (with_reducible rfl))
    try simp only [Act.put, List.getElem_toArray, List.getElem_cons_zero, List.getElem_cons_succ, List.setIfInBounds_toArray, List.set_cons_zero, List.set_cons_succ]
    refine wpAnyH_take (i := 1) (v := ?vm1) rfl (by kernel_rfl) (by kernel_rfl) (by kernel_rfl) (fun _ _ _ h => h) (Or.inl ⟨by rfl, ?hym1⟩) (by assumption) ?restm1
    case hym1 => (intro w hSw; (try dsimp only at hSw); go_simp; first | done | (with_reducible rfl))
    try simp only [Act.put, List.getElem_toArray, List.getElem_cons_zero, List.getElem_cons_succ, List.setIfInBounds_toArray, List.set_cons_zero, List.set_cons_succ]
    refine wpAnyH_take (i := 2) (v := ?vm2) rfl (by kernel_rfl) (by kernel_rfl) (by kernel_rfl) (fun _ _ _ h => h) (Or.inl ⟨by rfl, ?hym2⟩) (by assumption) ?restm2
    case hym2 => (intro w hSw; (try dsimp only at hSw); go_simp; first | done | (with_reducible rfl))
    try simp only [Act.put, List.getElem_toArray, List.getElem_cons_zero, List.getElem_cons_succ, List.setIfInBounds_toArray, List.set_cons_zero, List.set_cons_succ]
    refine wpAnyH_take (i := 3) (v := .agg x.cells.toArray) rfl (by kernel_rfl) (by kernel_rfl) (by kernel_rfl) (fun _ _ _ h => h) (yieldsIf_load rfl 43 (.tmp 5) rfl b5 0 53 43 (.int .i64 x.kind :: .int .i64 x.group :: .int .i64 x.frm :: .string x.body :: .int .i64 x.value :: (x.msg.cells ++ [.bool x.fit])) x.cells _ (fun w hw => hw.2) (xc_take HXL.out) rfl Try.underlying43 rfl (op_size HXL.out)) (by assumption) ?_
    try simp only [Act.put, List.getElem_toArray, List.getElem_cons_zero, List.getElem_cons_succ, List.setIfInBounds_toArray, List.set_cons_zero, List.set_cons_succ]
    refine wpAnyH_take (i := 4) (v := ?vm4) rfl (by kernel_rfl) (by kernel_rfl) (by kernel_rfl) (fun _ _ _ h => h) (Or.inl ⟨by rfl, ?hym4⟩) (by assumption) ?restm4
    case hym4 => (intro w hSw; (try dsimp only at hSw); go_simp; first | done | (with_reducible rfl))
    try simp only [Act.put, List.getElem_toArray, List.getElem_cons_zero, List.getElem_cons_succ, List.setIfInBounds_toArray, List.set_cons_zero, List.set_cons_succ]
    refine wpAnyH_take (i := 5) (v := ?vm5) rfl (by kernel_rfl) (by kernel_rfl) (by kernel_rfl) (fun _ _ _ h => h) (Or.inl ⟨by rfl, ?hym5⟩) (by assumption) ?restm5
    case hym5 => (intro w hSw; (try dsimp only at hSw); go_simp; first | done | (with_reducible rfl))
    try simp only [Act.put, List.getElem_toArray, List.getElem_cons_zero, List.getElem_cons_succ, List.setIfInBounds_toArray, List.set_cons_zero, List.set_cons_succ]
    refine wpAnyH_ready (rs := [6]) (by kernel_rfl) (by simp) ?_
    refine AllReadyH.cons rfl (fun K hK => ?_) AllReadyH.nil
    go_simp
    refine (HRP.out _).mono ?_
    rintro e wE ⟨rfl, hb⟩
    replace HC := hide (HC.out.step hb)
    replace HO := hide (HO.out.step hb)
    clear hb
    refine hK.out _ _ (⟨rs_cells (HO.out.cells 0 rfl), xc_cells (HO.out.cells 1 rfl)⟩) (fun hS6 => ?_)
    clear hK K
    try simp only [Act.put, List.getElem_toArray, List.getElem_cons_zero, List.getElem_cons_succ, List.setIfInBounds_toArray, List.set_cons_zero, List.set_cons_succ]
    refine wpAnyH_ready (rs := [7]) (by kernel_rfl) (by simp) ?_
    refine AllReadyH.cons rfl (fun K hK => ?_) AllReadyH.nil
    go_simp
    refine (HCR.out _ HC.out).mono ?_
    rintro e wF ⟨v, rfl, hv, ⟨q, hc⟩, ht⟩
    dsimp only at hc hv
    obtain ⟨b2, hbn, rfl, hbk, _⟩ := hv
    have hO := HO.out.addT ht (by simp) hbk hbn
    replace HO := hide hO
    replace HC := hide hc
    clear hO hc ht hbk hbn
    refine hK.out _ _ (⟨rs_cells (HO.out.cells 0 rfl), xc_cells (HO.out.cells 1 rfl)⟩) (fun hS7 => ?_)
    clear hK K
    try simp only [Act.put, List.getElem_toArray, List.getElem_cons_zero, List.getElem_cons_succ, List.setIfInBounds_toArray, List.set_cons_zero, List.set_cons_succ]
    refine wpAnyH_take (i := 8) (v := ?vm8) rfl (by kernel_rfl) (by kernel_rfl) (by kernel_rfl) (fun _ _ _ h => h) (Or.inl ⟨by rfl, ?hym8⟩) (by assumption) ?restm8
    case hym8 => (intro w hSw; (try dsimp only at hSw); go_simp; first | done | (with_reducible rfl))
    try simp only [Act.put, List.getElem_toArray, List.getElem_cons_zero, List.getElem_cons_succ, List.setIfInBounds_toArray, List.set_cons_zero, List.set_cons_succ]
    refine wpAnyH_take (i := 9) (v := ?vm9) rfl (by kernel_rfl) (by kernel_rfl) (by kernel_rfl) (fun _ _ _ h => h) (Or.inl ⟨by rfl, ?hym9⟩) (by assumption) ?restm9
    case hym9 => (intro w hSw; (try dsimp only at hSw); go_simp; first | done | (with_reducible rfl))
    try simp only [Act.put, List.getElem_toArray, List.getElem_cons_zero, List.getElem_cons_succ, List.setIfInBounds_toArray, List.set_cons_zero, List.set_cons_succ]
    refine wpAnyH_take (i := 10) (v := ?vm10) rfl (by kernel_rfl) (by kernel_rfl) (by kernel_rfl) (fun _ _ _ h => h) (Or.inl ⟨by rfl, ?hym10⟩) (by assumption) ?restm10
    case hym10 => (intro w hSw; (try dsimp only at hSw); go_simp; first | done | (with_reducible rfl))
    try simp only [Act.put, List.getElem_toArray, List.getElem_cons_zero, List.getElem_cons_succ, List.setIfInBounds_toArray, List.set_cons_zero, List.set_cons_succ]
    refine wpAnyH_take (i := 11) (v := ?vm11) rfl (by kernel_rfl) (by kernel_rfl) (by kernel_rfl) (fun _ _ _ h => h) (Or.inl ⟨by rfl, ?hym11⟩) (by assumption) ?restm11
    case hym11 => (intro w hSw; (try dsimp only at hSw); go_simp; first | done | (with_reducible rfl))
    try simp only [Act.put, List.getElem_toArray, List.getElem_cons_zero, List.getElem_cons_succ, List.setIfInBounds_toArray, List.set_cons_zero, List.set_cons_succ]
    refine wpAnyH_take (i := 12) (v := ?vm12) rfl (by kernel_rfl) (by kernel_rfl) (by kernel_rfl) (fun _ _ _ h => h) (Or.inl ⟨by rfl, ?hym12⟩) (by assumption) ?restm12
    case hym12 => (intro w hSw; (try dsimp only at hSw); go_simp; first | done | (with_reducible rfl))
    try simp only [Act.put, List.getElem_toArray, List.getElem_cons_zero, List.getElem_cons_succ, List.setIfInBounds_toArray, List.set_cons_zero, List.set_cons_succ]
    refine wpAnyH_done (by kernel_rfl) ?_ _
    clear hS0
    go_wp2_with fail
    refine wp_region_held_drew (S := fun W => (∀ j, W.cell? ⟨b9, j, none⟩ = (rC st : List Value)[j]?)) (by kernel_rfl) (HO.out.drew.cells 4 rfl) (fun hS0 => ?_)
    replace HO := hide HO.out.drew
    replace HC := hide HC.out.drew
    refine wpAnyH_take (i := 0) (v := .agg (rC st).toArray) rfl (by kernel_rfl) (by kernel_rfl) (by kernel_rfl) (fun _ _ _ h => h) (yieldsIf_load rfl 46 (.tmp 24) rfl b9 0 52 46 (rC st) (rC st) _ (fun w hw => hw) (take_all HRL.out) rfl Try.underlying46 rfl (rc_size HRL.out)) (by assumption) ?_
    try simp only [Act.put, List.getElem_toArray, List.getElem_cons_zero, List.getElem_cons_succ, List.setIfInBounds_toArray, List.set_cons_zero, List.set_cons_succ]
    refine wpAnyH_take (i := 1) (v := ?vz1) rfl (by kernel_rfl) (by kernel_rfl) (by kernel_rfl) (fun _ _ _ h => h) (Or.inl ⟨by rfl, ?hyz1⟩) (by assumption) ?restz1
    case hyz1 => (intro w hSw; (try dsimp only at hSw); go_simp; first | done | (with_reducible rfl))
    try simp only [Act.put, List.getElem_toArray, List.getElem_cons_zero, List.getElem_cons_succ, List.setIfInBounds_toArray, List.set_cons_zero, List.set_cons_succ]
    refine wpAnyH_take (i := 2) (v := ?vz2) rfl (by kernel_rfl) (by kernel_rfl) (by kernel_rfl) (fun _ _ _ h => h) (Or.inl ⟨by rfl, ?hyz2⟩) (by assumption) ?restz2
    case hyz2 => (intro w hSw; (try dsimp only at hSw); go_simp; first | done | (with_reducible rfl))
    try simp only [Act.put, List.getElem_toArray, List.getElem_cons_zero, List.getElem_cons_succ, List.setIfInBounds_toArray, List.set_cons_zero, List.set_cons_succ]
    refine wpAnyH_take (i := 3) (v := ?vz3) rfl (by kernel_rfl) (by kernel_rfl) (by kernel_rfl) (fun _ _ _ h => h) (Or.inl ⟨by rfl, ?hyz3⟩) (by assumption) ?restz3
    case hyz3 => (intro w hSw; (try dsimp only at hSw); go_simp; first | done | (with_reducible rfl))
    try simp only [Act.put, List.getElem_toArray, List.getElem_cons_zero, List.getElem_cons_succ, List.setIfInBounds_toArray, List.set_cons_zero, List.set_cons_succ]
    refine wpAnyH_take (i := 4) (v := ?vz4) rfl (by kernel_rfl) (by kernel_rfl) (by kernel_rfl) (fun _ _ _ h => h) (Or.inl ⟨by rfl, ?hyz4⟩) (by assumption) ?restz4
    case hyz4 => (intro w hSw; (try dsimp only at hSw); go_simp; first | done | (with_reducible rfl))
    try simp only [Act.put, List.getElem_toArray, List.getElem_cons_zero, List.getElem_cons_succ, List.setIfInBounds_toArray, List.set_cons_zero, List.set_cons_succ]
    refine wpAnyH_take (i := 5) (v := ?vz5) rfl (by kernel_rfl) (by kernel_rfl) (by kernel_rfl) (fun _ _ _ h => h) (Or.inl ⟨by rfl, ?hyz5⟩) (by assumption) ?restz5
    case hyz5 => (intro w hSw; (try dsimp only at hSw); go_simp; first | done | (with_reducible rfl))
    try simp only [Act.put, List.getElem_toArray, List.getElem_cons_zero, List.getElem_cons_succ, List.setIfInBounds_toArray, List.set_cons_zero, List.set_cons_succ]
    refine wpAnyH_take (i := 6) (v := ?vz6) rfl (by kernel_rfl) (by kernel_rfl) (by kernel_rfl) (fun _ _ _ h => h) (Or.inl ⟨by rfl, ?hyz6⟩) (by assumption) ?restz6
    case hyz6 => (intro w hSw; (try dsimp only at hSw); go_simp; first | done | (with_reducible rfl))
    try simp only [Act.put, List.getElem_toArray, List.getElem_cons_zero, List.getElem_cons_succ, List.setIfInBounds_toArray, List.set_cons_zero, List.set_cons_succ]
    refine wpAnyH_take (i := 7) (v := ?vz7) rfl (by kernel_rfl) (by kernel_rfl) (by kernel_rfl) (fun _ _ _ h => h) (Or.inl ⟨by rfl, ?hyz7⟩) (by assumption) ?restz7
    case hyz7 => (intro w hSw; (try dsimp only at hSw); go_simp; first | done | (with_reducible rfl))
    try simp only [Act.put, List.getElem_toArray, List.getElem_cons_zero, List.getElem_cons_succ, List.setIfInBounds_toArray, List.set_cons_zero, List.set_cons_succ]
    refine wpAnyH_ready (rs := [8]) (by kernel_rfl) (by simp) ?_
    refine AllReadyH.cons rfl (fun K hK => ?_) AllReadyH.nil
    go_simp
    refine (HG.out.same bv b2 _ (HO.out.blk 3 rfl) (HO.out.blk 5 rfl)).mono ?_
    rintro e wE ⟨rfl, hb⟩
    replace HC := hide (HC.out.step hb)
    replace HO := hide (HO.out.step hb)
    clear hb
    refine hK.out _ _ (HO.out.cells 4 rfl) (fun hS8 => ?_)
    clear hK K
    try simp only [Act.put, List.getElem_toArray, List.getElem_cons_zero, List.getElem_cons_succ, List.setIfInBounds_toArray, List.set_cons_zero, List.set_cons_succ]
    refine wpAnyH_take (i := 9) (v := ?vz9) rfl (by kernel_rfl) (by kernel_rfl) (by kernel_rfl) (fun _ _ _ h => h) (Or.inl ⟨by rfl, ?hyz9⟩) (by assumption) ?restz9
    case hyz9 => (intro w hSw; (try dsimp only at hSw); go_simp; first | done | (with_reducible rfl))
    try simp only [Act.put, List.getElem_toArray, List.getElem_cons_zero, List.getElem_cons_succ, List.setIfInBounds_toArray, List.set_cons_zero, List.set_cons_succ]
    refine wpAnyH_ready (rs := [10]) (by kernel_rfl) (by simp) ?_
    refine AllReadyH.cons rfl (fun K hK => ?_) AllReadyH.nil
    refine step_store_own_t HO.out rfl 46 (.tmp 6) (.tmp 161) rfl 2 _ 0 _ _ (rC st) (rC st) rfl (.agg (rC st).toArray) rfl rfl (fits_agg _) (by rw [HRL.out, zrc_len]; exact Nat.le_refl _) (splice_all (by rw [HRL.out, zrc_len])) (rc_size HRL.out) HRO.out ?_
    intro WA hO hbk htc
    replace HC := hide (HC.out.put hbk (by decide) htc)
    replace HO := hide hO
    clear hO hbk htc
    refine hK.out _ _ (HO.out.cells 4 rfl) (fun hS10 => ?_)
    clear hK K
    try simp only [Act.put, List.getElem_toArray, List.getElem_cons_zero, List.getElem_cons_succ, List.setIfInBounds_toArray, List.set_cons_zero, List.set_cons_succ]
    refine wpAnyH_take (i := 11) (v := ?vz11) rfl (by kernel_rfl) (by kernel_rfl) (by kernel_rfl) (fun _ _ _ h => h) (Or.inl ⟨by rfl, ?hyz11⟩) (by assumption) ?restz11
    case hyz11 => (intro w hSw; (try dsimp only at hSw); go_simp; first | done | (with_reducible rfl))
    try simp only [Act.put, List.getElem_toArray, List.getElem_cons_zero, List.getElem_cons_succ, List.setIfInBounds_toArray, List.set_cons_zero, List.set_cons_succ]
    refine wpAnyH_take (i := 12) (v := ?vz12) rfl (by kernel_rfl) (by kernel_rfl) (by kernel_rfl) (fun _ _ _ h => h) (Or.inl ⟨by rfl, ?hyz12⟩) (by assumption) ?restz12
    case hyz12 => (intro w hSw; (try dsimp only at hSw); go_simp; first | done | (with_reducible rfl))
    try simp only [Act.put, List.getElem_toArray, List.getElem_cons_zero, List.getElem_cons_succ, List.setIfInBounds_toArray, List.set_cons_zero, List.set_cons_succ]
    refine wpAnyH_done (by kernel_rfl) ?_ _
    clear hS0
    go_wp2_with fail
    refine bodyPost_ret (results_row_tmp_tmp rfl _ HO.out 2 _ _ _ _ _ _ rfl rfl rfl rfl Try.underlying46 rfl (rc_size HRL.out)) rfl ?_
    rw [HSTEP.out]
    exact ⟨_, rfl, outs_some (HO.out.blk 5 rfl) (HO.out.new 5 rfl) HG.out, ⟨q, HC.out⟩, HO.out.touch⟩
set_option maxRecDepth 100000 in
set_option maxHeartbeats 8000000 in
theorem step_other (g : Nat) (S : CS) (p : Value) (x : OpV) (w : World) (h : Cl w g S p) (hA : Asks S) (h0 : ¬ x.kind = 0) (h1 : ¬ x.kind = 1) (h2 : ¬ x.kind = 2) (h3 : ¬ x.kind = 3) :
    Calls Try.prog 20 #[.pointer (some ⟨g, 0, none⟩), .agg (rC S).toArray, .agg x.cells.toArray] w (StepR w g (cStep S x)) := by
  have HO := hide (Own.nil w [g] (by simpa using h.lt))
  have HC := hide h
  have HSTEP : Hid (cStep S x = (S, [])) := hide (by unfold cStep; rw [if_neg h0, if_neg h1, if_neg h2, if_neg h3])
  have HSL := hide hA.rlen
  have HSO := hide hA.rones
  clear h hA
  go_enter Try.func20, Try.ntmps20
  go_wp2_with (first
    | ((with_reducible refine at_box 46 (.tmp 1) ?_); refine wpList_box_own_t HO.out rfl 46 (.tmp 1) rfl (rC S) rfl ?_; intro WA b4 hO hbl; replace HC := hide (HC.out.step hbl); replace HO := hide hO; clear hO hbl)
    | ((with_reducible refine at_box 43 (.tmp 2) ?_); refine wpList_box_own_t HO.out rfl 43 (.tmp 2) rfl (.int .i64 x.kind :: .int .i64 x.group :: .int .i64 x.frm :: .string x.body :: .int .i64 x.value :: (x.msg.cells ++ [.bool x.fit])) rfl ?_; intro WA b5 hO hbl; replace HC := hide (HC.out.step hbl); replace HO := hide hO; clear hO hbl)
    | ((with_reducible refine at_alloc 46 ?_); refine wpList_alloc_own_t HO.out rfl 46 rfl (zrc) zrc_info ?_; intro WA b6 hO hbl; replace HC := hide (HC.out.step hbl); replace HO := hide hO; have k1 := hO.cells 1 rfl; clear hO hbl)
    | ((with_reducible refine at_load 46 (.tmp 4) ?_); refine wpList_load_own HO.out rfl 46 (.tmp 4) rfl 0 _ 0 52 _ _ (rC S) _ rfl (take_all HSL.out) rfl Try.underlying46 rfl (rc_size HSL.out) ?_)
    | ((with_reducible refine at_store 46 (.tmp 6) ?_); refine wpList_store_own_t HO.out rfl 46 (.tmp 6) _ rfl 2 _ 0 _ _ (rC S) (rC S) rfl (.agg (rC S).toArray) rfl rfl (fits_agg _) (by rw [HSL.out, zrc_len]; exact Nat.le_refl _) (splice_all (by rw [HSL.out, zrc_len])) (rc_size HSL.out) HSO.out ?_; intro WA hO hbk htc; replace HC := hide (HC.out.put hbk (by decide) htc); replace HO := hide hO; clear hO hbk htc))
  refine bodyPost_ret (results_row_tmp_tmp rfl _ HO.out 2 _ _ _ _ _ _ rfl rfl rfl rfl Try.underlying46 rfl (rc_size HSL.out)) rfl ?_
  rw [HSTEP.out]
  exact ⟨_, rfl, outs_none _ _, ⟨p, HC.out⟩, HO.out.touch⟩
theorem step_c (g : Nat) (S : CS) (p : Value) (x : OpV) (w : World) (h : Cl w g S p) (hA : Asks S) (hx : x.Ok) (hn : S.number < 1000000) :
    Calls Try.prog 20 #[.pointer (some ⟨g, 0, none⟩), .agg (rC S).toArray, .agg x.cells.toArray] w (StepR w g (cStep S x)) := by
  by_cases h0 : x.kind = 0
  · exact step_k0 g S p x w h hA hx hn h0
  by_cases h1 : x.kind = 1
  · exact step_k1 g S p x w h hA hx hn h1
  by_cases h2 : x.kind = 2
  · exact step_k2 g S p x w h hA hx hn h2
  by_cases h3 : x.kind = 3
  · cases ho : (cReceive S (repM x S.number) x.frm).out with
    | none => exact step_k3n g S p x w h hA hx h3 ho
    | some o => exact step_k3s g S p x w h hA hx h3 o ho
  exact step_other g S p x w h hA h0 h1 h2 h3
end Go.Proofs.Ytpbgelhjbfckcaa
