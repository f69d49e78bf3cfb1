/- ClientEnds: the walk. -/
import Derived.Test.YtpbgelhjbfckcaaS26
namespace Go.Proofs.Ytpbgelhjbfckcaa
open Go.ChangeShapes Go.WideShapes Go.ChangeAt Go.RowKit
set_option linter.unusedVariables false
set_option linter.unusedSimpArgs false

theorem wpList_load_own_g {P : Program} {w w0 : World} {S : List Nat} {L : List (Nat × TypeId × List Value)} {ops : Array Oper} {rest : List Oper} {op : Oper} {a : Act} {Q : Exit → Act → World → Prop} (HO : Own w0 S L w) (hw : Region.wanted op (yielded ops a.tmps) = true) (ty : TypeId) (x : Operand) (ho : op.op = .load ty x) (i g o n : Nat) (t : TypeId) (cs vs : List Value) (d : TypeDesc) (hL : L[i]? = some (g, t, cs)) (hv : (cs.drop o).take n = vs)
    (hx : a.eval x = .pointer (some ⟨g, o, none⟩)) (hu : P.underlying ty = some d) (hd : d.isRow = true) (hi : (P.info? ty).map (·.size) = some vs.length)
    (h : wpList P ops Q rest (a.put op.dst (.agg vs.toArray)) w) : wpList P ops Q (op :: rest) a w :=
  wpList_step fun K hK => by
    rw [if_pos hw]
    exact wp_load_mid ty x ho g o hx vs d (own_range HO i hL hv) hu hd hi (hK _ _ h)
theorem wpList_slice_own_g {P : Program} {w w0 : World} {S : List Nat} {L : List (Nat × TypeId × List Value)} {ops : Array Oper} {rest : List Oper} {op : Oper} {a : Act} {Q : Exit → Act → World → Prop} (HO : Own w0 S L w) (hw : Region.wanted op (yielded ops a.tmps) = true) (t e : TypeId) (len : Nat) (parts : Array (Nat × Operand)) (ho : op.op = .buildSlice t len parts) (hu : P.underlying t = some (.slice e)) (cs : List Value)
    (hf : P.builtSlice e len (parts.map fun (i, x) => (i, a.eval x)).toList = some cs.toArray)
    (h : ∀ w' b, Own w0 S (L ++ [(b, e, cs)]) w' → wpList P ops Q rest (a.put op.dst (.slice (some ⟨b, 0, none⟩) len len)) w') : wpList P ops Q (op :: rest) a w :=
  wpList_step fun K hK => by
    have := step_slice_own_t (K := K) (Q := Q) (E := K (a.put op.dst undef) w) HO hw t e len parts ho hu cs hf (fun w' b h1 _ => hK _ _ (h w' b h1))
    exact this
theorem at_slice (t : TypeId) {len : Nat} {parts : Array (Nat × Operand)} {P : Program} {w : World} {ops : Array Oper} {rest : List Oper} {d : Option Tmp} {ty : TypeId} {p : String} {af : Array Edge} {g : Option (Nat × Bool)} {a : Act} {Q : Exit → Act → World → Prop}
    (h : wpList P ops Q ({ dst := d, op := .buildSlice t len parts, type := ty, pos := p, after := af, guard := g } :: rest) a w) : wpList P ops Q ({ dst := d, op := .buildSlice t len parts, type := ty, pos := p, after := af, guard := g } :: rest) a w := h
theorem wf_u8 {n : Int} (h : (Lit.int .u8 n).wf = true) : 0 ≤ n ∧ n ≤ 255 := by
  simpa [Lit.wf, IntKind.min, IntKind.max, IntKind.signed, IntKind.bits] using h
set_option maxRecDepth 100000 in
set_option maxHeartbeats 8000000 in
theorem walkClientEnds (W : World) (a : Int) (wa : (Lit.int .u8 a).wf = true) (b : Int) (wb : (Lit.int .u8 b).wf = true) (v : Value) (l : List OpV) (h : OpsIn W v l) (frm : Int) (wf : (Lit.int .i64 frm).wf = true) (vo : Value) (x : OpV) (ho : vo = .agg x.cells.toArray ∧ x.Ok) :
    Calls Try.prog 4 #[.int .u8 a, .int .u8 b, v, .int .i64 frm, vo] W fun e w' => e = .returned (.bool true) ∧ Below W.heap.size W w' := by
  obtain ⟨rfl, hx⟩ := ho
  obtain ⟨Al, nl, cl, rfl, hnl, hnc, hcm⟩ := h.form
  have H := hide h
  have HX := hide hx
  have HXL := hide hx.size
  have HWA := hide (wf_u8 wa)
  have HWB := hide (wf_u8 wb)
  have HO := hide (Own.nil W [] (by simp))
  clear h hx wa wb wf
  go_enter Try.func4, Try.ntmps4
  go_wp2_with (first
    | ((with_reducible refine at_box 43 (.tmp 4) ?_); refine wpList_box_own HO.out rfl 43 (.tmp 4) rfl (x.cells) rfl ?_; intro WA b9 hO; replace HO := hide hO; clear hO))
  refine (few_c _ l 30 _ (H.out.step HO.out.below)).mono ?_
  rintro e w1 ⟨x1, rfl, hf1, hb1⟩
  replace HO := hide (HO.out.step hb1)
  have HF1 := hide hf1
  clear hb1 hf1
  cases x1 with
  | false =>
    go_wp2_with fail
    refine (awake_c _).mono ?_
    rintro e wz ⟨rfl, hbz⟩
    replace HO := hide (HO.out.step hbz)
    clear hbz
    go_wp2_with fail
    go_ret
    exact ⟨rfl, HO.out.below⟩
  | true =>
    have HLN : Hid (l.length ≤ 1000) := hide (by have := HF1.out rfl; omega)
    clear HF1
    go_wp2_with (first
      | ((with_reducible refine at_load 43 (.tmp 9) ?_); refine wpList_load_own_g HO.out rfl 43 (.tmp 9) rfl 0 _ 0 53 _ _ (x.cells) _ rfl (take_all HXL.out) rfl Try.underlying43 rfl (op_size HXL.out) ?_)
      | ((with_reducible refine at_slice 26 ?_); refine wpList_slice_own_g HO.out rfl 26 43 1 #[(0, .tmp 29)] rfl Try.underlying26 x.cells (by simp only [List.map_toArray, List.map_cons, List.map_nil]; exact slice_op x.cells HXL.out) ?_; intro WA bs hO; replace HO := hide hO; clear hO))
    refine (few_c _ [x] 1 _ (opsIn_one HX.out (HO.out.blk 1 rfl))).mono ?_
    rintro e w2 ⟨x2, rfl, _, hb1⟩
    replace HO := hide (HO.out.step hb1)
    clear hb1
    cases x2 with
    | false =>
      go_wp2_with fail
      refine (awake_c _).mono ?_
      rintro e wz ⟨rfl, hbz⟩
      replace HO := hide (HO.out.step hbz)
      clear hbz
      go_wp2_with fail
      go_ret
      exact ⟨rfl, HO.out.below⟩
    | true =>
      go_wp2_with fail
      refine (run_c a b _ l _ HWA.out HWB.out (H.out.step HO.out.below) HLN.out).mono ?_
      rintro e w3 ⟨g, q, rfl, hc, hgn, hb⟩
      have HGN := hide (Nat.le_trans HO.out.size hgn)
      replace HO := hide (HO.out.step hb)
      have HC := hide hc
      have HAD := hide (cRun_asks l _ (asks_new (1 + a % 8) (1 + b % 5)))
      clear hc hgn hb
      generalize cRun (csNew (1 + a % 8) (1 + b % 5)) l = D at *
      have HDL := hide HAD.out.rlen
      have HDO := hide HAD.out.rones
      have HML := hide HAD.out.open_len.1
      have HMSO := hide HAD.out.open_len.2
      have HSM := hide HAD.out.same
      have HOP := hide (fun (X : World) (hX : Cl X g D q) => open_c g D q X hX)
      unfold OpenR at HOP
      have HRP := hide (fun (X : World) => reply_c x HX.out D.number X)
      have HMM := hide (repM_ok HX.out D.number)
      generalize repM x D.number = mm at *
      have HMO := hide (mv_ones HMM.out)
      have HRV := hide (fun (X : World) (hX : Cl X g D q) => recv_model g D q frm mm X hX HAD.out HMM.out)
      obtain ⟨ms, hms⟩ : ∃ ms, (openOf D).1 = ms := ⟨_, rfl⟩
      obtain ⟨is, his⟩ : ∃ is, (openOf D).2 = is := ⟨_, rfl⟩
      have HMS := hide hms
      have HIS := hide his
      rw [hms] at HML HMSO HSM HOP
      rw [his] at HOP
      clear hms his
      go_wp2_with (first
        | ((with_reducible refine at_alloc 46 ?_); refine wpList_alloc_own_t HO.out rfl 46 rfl (zrc) zrc_info ?_; intro WA b12 hO hbl; replace HC := hide (HC.out.step hbl); replace HO := hide hO; clear hO hbl)
        | ((with_reducible refine at_store 46 (.tmp 12) ?_); refine wpList_store_own_t HO.out rfl 46 (.tmp 12) _ rfl 2 _ 0 _ _ (rC D) (rC D) rfl (.agg (rC D).toArray) rfl rfl (fits_agg _) (by rw [HDL.out, zrc_len]; exact Nat.le_refl _) (splice_all (by rw [HDL.out, zrc_len])) (rc_size HDL.out) HDO.out ?_; intro WA hO hbk htc; replace HC := hide (HC.out.put hbk (by decide) htc); replace HO := hide hO; clear hO hbk htc))
      refine (HOP.out _ HC.out).mono ?_
      rintro e w4 ⟨rfl, hb⟩
      replace HO := hide (HO.out.step hb)
      replace HC := hide (HC.out.step hb)
      clear hb HOP
      go_wp2_with (first
        | ((with_reducible refine at_alloc 41 ?_); refine wpList_alloc_own_n HO.out rfl 41 rfl zmsgI zmsgI_info ?_; intro WA b14 hbn hO hbl; have HOF := hide (HC.out.off hbn); replace HC := hide (HC.out.step hbl); replace HO := hide hO; clear hbn hO hbl)
        | ((with_reducible refine at_store 41 (.tmp 14) ?_); refine wpList_store_own_t HO.out rfl 41 (.tmp 14) _ rfl 3 _ 0 _ _ (ms) (ms) rfl (.agg (ms).toArray) rfl rfl (fits_agg _) (by rw [HML.out, zmsgI_len]; exact Nat.le_refl _) (splice_all (by rw [HML.out, zmsgI_len])) (msg_size HML.out) HMSO.out ?_; intro WA hO hbk htc; replace HC := hide (HC.out.putOff HOF.out htc); replace HO := hide hO; clear hO hbk htc HOF))
      replace HC := hide (And.intro HC.out True.intro)
      refine wp_region_held_drew (S := fun W => (∀ j, W.cell? ⟨b9, j, none⟩ = (x.cells : List Value)[j]?)) (by kernel_rfl) (HO.out.drew.cells 0 rfl) (fun hS0 => ?_)
      replace HO := hide HO.out.drew
      replace HC := hide (And.intro HC.out.1.drew HC.out.2)
      refine wpAnyH_take (i := 0) (v := .agg x.cells.toArray) rfl (by kernel_rfl) (by kernel_rfl) (by kernel_rfl) (fun _ _ _ h => h) (yieldsIf_load rfl 43 (.tmp 9) rfl b9 0 53 43 x.cells x.cells _ (fun w hw => hw) (take_all HXL.out) rfl Try.underlying43 rfl (op_size HXL.out)) (by assumption) ?_
      try simp only [Act.put, List.getElem_toArray, List.getElem_cons_zero, List.getElem_cons_succ, List.setIfInBounds_toArray, List.set_cons_zero, List.set_cons_succ]
      refine wpAnyH_take (i := 1) (v := ?vp2) rfl (by kernel_rfl) (by kernel_rfl) (by kernel_rfl) (fun _ _ _ h => h) (Or.inl ⟨by rfl, ?hyp2⟩) (by assumption) ?restp2
      case hyp2 => (intro w hSw; (try dsimp only at hSw); go_simp; first | done | (with_reducible rfl))
      try simp only [Act.put, List.getElem_toArray, List.getElem_cons_zero, List.getElem_cons_succ, List.setIfInBounds_toArray, List.set_cons_zero, List.set_cons_succ]
      refine' tail_1 (I := fun b16 WX => Own W [] ([(b9, 43, x.cells), (bs, 43, x.cells), (b12, 46, rC D), (b14, 41, ms)] ++ [(b16, 41, mm.cells)]) WX ∧ (Cl WX g D q ∧ Off g q b16)) (fun pTABCD => ?_) ?_
      rotate_left
      refine' tail_1 (I := fun b16 WX => Own W [] ([(b9, 43, x.cells), (bs, 43, x.cells), (b12, 46, rC D), (b14, 41, ms)] ++ [(b16, 41, zmsgI)]) WX ∧ (Cl WX g D q ∧ Off g q b16)) (fun pTABC => ?_) ?_
      rotate_left
      refine' tail_0 (I := fun  WX => Own W [] ([(b9, 43, x.cells), (bs, 43, x.cells), (b12, 46, rC D), (b14, 41, ms)]) WX ∧ (Cl WX g D q ∧ True)) (fun pTBC => ?_) ?_
      rotate_left
      refine' tail_1 (I := fun b16 WX => Own W [] ([(b9, 43, x.cells), (bs, 43, x.cells), (b12, 46, rC D), (b14, 41, ms)] ++ [(b16, 41, zmsgI)]) WX ∧ (Cl WX g D q ∧ Off g q b16)) (fun pTAB => ?_) ?_
      rotate_left
      refine' tail_0 (I := fun  WX => Own W [] ([(b9, 43, x.cells), (bs, 43, x.cells), (b12, 46, rC D), (b14, 41, ms)]) WX ∧ (Cl WX g D q ∧ True)) (fun pTB => ?_) ?_
      rotate_left
      refine' tail_1 (I := fun b16 WX => Own W [] ([(b9, 43, x.cells), (bs, 43, x.cells), (b12, 46, rC D), (b14, 41, ms)] ++ [(b16, 41, zmsgI)]) WX ∧ (Cl WX g D q ∧ Off g q b16)) (fun pTA => ?_) ?_
      rotate_left
      · refine wpAnyH_ready (rs := [2, 4]) (by kernel_rfl) (by simp) ?_
        refine AllReadyH.cons rfl (fun K hK => ?_) (AllReadyH.cons rfl (fun K hK => ?_) (AllReadyH.nil))
        · go_simp
          refine (number_c g D q _ HC.out.1).mono ?_
          rintro e _ ⟨rfl, rfl⟩
          replace HO := hide (show Own W [] ([(b9, 43, x.cells), (bs, 43, x.cells), (b12, 46, rC D), (b14, 41, ms)]) _ from HO.out)
          refine hK.out _ _ (HO.out.cells 0 rfl) (fun _ => ?_)
          clear hK K
          try simp only [Act.put, List.getElem_toArray, List.getElem_cons_zero, List.getElem_cons_succ, List.setIfInBounds_toArray, List.set_cons_zero, List.set_cons_succ]
          exact pTB  _ ⟨HO.out, HC.out⟩
        · refine step_alloc_own_n HO.out rfl 41 rfl zmsgI zmsgI_info ?_
          intro WA b16 hbn hO hbl
          replace HC := hide (And.intro (HC.out.1.step hbl) (HC.out.1.off hbn))
          replace HO := hide hO
          clear hbn hO hbl
          replace HO := hide (show Own W [] ([(b9, 43, x.cells), (bs, 43, x.cells), (b12, 46, rC D), (b14, 41, ms)] ++ [(b16, 41, zmsgI)]) _ from HO.out)
          refine hK.out _ _ (HO.out.cells 0 rfl) (fun _ => ?_)
          clear hK K
          try simp only [Act.put, List.getElem_toArray, List.getElem_cons_zero, List.getElem_cons_succ, List.setIfInBounds_toArray, List.set_cons_zero, List.set_cons_succ]
          exact pTA b16 _ ⟨HO.out, HC.out⟩
      · intro b16 WT hI
        obtain ⟨hO, hC⟩ := hI
        replace HO := hide hO
        replace HC := hide hC
        clear hO hC
        have hSS : (fun W => (∀ j, W.cell? ⟨b9, j, none⟩ = (x.cells : List Value)[j]?)) WT := HO.out.cells 0 rfl
        refine wpAnyH_ready (rs := [2]) (by kernel_rfl) (by simp) ?_
        refine AllReadyH.cons rfl (fun K hK => ?_) (AllReadyH.nil)
        · go_simp
          refine (number_c g D q _ HC.out.1).mono ?_
          rintro e _ ⟨rfl, rfl⟩
          replace HO := hide (show Own W [] ([(b9, 43, x.cells), (bs, 43, x.cells), (b12, 46, rC D), (b14, 41, ms)] ++ [(b16, 41, zmsgI)]) _ from HO.out)
          refine hK.out _ _ (HO.out.cells 0 rfl) (fun _ => ?_)
          clear hK K
          try simp only [Act.put, List.getElem_toArray, List.getElem_cons_zero, List.getElem_cons_succ, List.setIfInBounds_toArray, List.set_cons_zero, List.set_cons_succ]
          exact pTAB b16 _ ⟨HO.out, HC.out⟩
      · intro  WT hI
        obtain ⟨hO, hC⟩ := hI
        replace HO := hide hO
        replace HC := hide hC
        clear hO hC
        have hSS : (fun W => (∀ j, W.cell? ⟨b9, j, none⟩ = (x.cells : List Value)[j]?)) WT := HO.out.cells 0 rfl
        refine wpAnyH_ready (rs := [3, 4]) (by kernel_rfl) (by simp) ?_
        refine AllReadyH.cons rfl (fun K hK => ?_) (AllReadyH.cons rfl (fun K hK => ?_) (AllReadyH.nil))
        · go_simp
          refine (HRP.out _).mono ?_
          rintro e wE ⟨rfl, hb⟩
          replace HC := hide (And.intro (HC.out.1.step hb) HC.out.2)
          replace HO := hide (HO.out.step hb)
          clear hb
          replace HO := hide (show Own W [] ([(b9, 43, x.cells), (bs, 43, x.cells), (b12, 46, rC D), (b14, 41, ms)]) _ from HO.out)
          refine hK.out _ _ (HO.out.cells 0 rfl) (fun _ => ?_)
          clear hK K
          try simp only [Act.put, List.getElem_toArray, List.getElem_cons_zero, List.getElem_cons_succ, List.setIfInBounds_toArray, List.set_cons_zero, List.set_cons_succ]
          exact pTBC  _ ⟨HO.out, HC.out⟩
        · refine step_alloc_own_n HO.out rfl 41 rfl zmsgI zmsgI_info ?_
          intro WA b16 hbn hO hbl
          replace HC := hide (And.intro (HC.out.1.step hbl) (HC.out.1.off hbn))
          replace HO := hide hO
          clear hbn hO hbl
          replace HO := hide (show Own W [] ([(b9, 43, x.cells), (bs, 43, x.cells), (b12, 46, rC D), (b14, 41, ms)] ++ [(b16, 41, zmsgI)]) _ from HO.out)
          refine hK.out _ _ (HO.out.cells 0 rfl) (fun _ => ?_)
          clear hK K
          try simp only [Act.put, List.getElem_toArray, List.getElem_cons_zero, List.getElem_cons_succ, List.setIfInBounds_toArray, List.set_cons_zero, List.set_cons_succ]
          exact pTAB b16 _ ⟨HO.out, HC.out⟩
      · intro b16 WT hI
        obtain ⟨hO, hC⟩ := hI
        replace HO := hide hO
        replace HC := hide hC
        clear hO hC
        have hSS : (fun W => (∀ j, W.cell? ⟨b9, j, none⟩ = (x.cells : List Value)[j]?)) WT := HO.out.cells 0 rfl
        refine wpAnyH_ready (rs := [3]) (by kernel_rfl) (by simp) ?_
        refine AllReadyH.cons rfl (fun K hK => ?_) (AllReadyH.nil)
        · go_simp
          refine (HRP.out _).mono ?_
          rintro e wE ⟨rfl, hb⟩
          replace HC := hide (And.intro (HC.out.1.step hb) HC.out.2)
          replace HO := hide (HO.out.step hb)
          clear hb
          replace HO := hide (show Own W [] ([(b9, 43, x.cells), (bs, 43, x.cells), (b12, 46, rC D), (b14, 41, ms)] ++ [(b16, 41, zmsgI)]) _ from HO.out)
          refine hK.out _ _ (HO.out.cells 0 rfl) (fun _ => ?_)
          clear hK K
          try simp only [Act.put, List.getElem_toArray, List.getElem_cons_zero, List.getElem_cons_succ, List.setIfInBounds_toArray, List.set_cons_zero, List.set_cons_succ]
          exact pTABC b16 _ ⟨HO.out, HC.out⟩
      · intro  WT hI
        obtain ⟨hO, hC⟩ := hI
        replace HO := hide hO
        replace HC := hide hC
        clear hO hC
        have hSS : (fun W => (∀ j, W.cell? ⟨b9, j, none⟩ = (x.cells : List Value)[j]?)) WT := HO.out.cells 0 rfl
        refine wpAnyH_ready (rs := [4]) (by kernel_rfl) (by simp) ?_
        refine AllReadyH.cons rfl (fun K hK => ?_) (AllReadyH.nil)
        · refine step_alloc_own_n HO.out rfl 41 rfl zmsgI zmsgI_info ?_
          intro WA b16 hbn hO hbl
          replace HC := hide (And.intro (HC.out.1.step hbl) (HC.out.1.off hbn))
          replace HO := hide hO
          clear hbn hO hbl
          replace HO := hide (show Own W [] ([(b9, 43, x.cells), (bs, 43, x.cells), (b12, 46, rC D), (b14, 41, ms)] ++ [(b16, 41, zmsgI)]) _ from HO.out)
          refine hK.out _ _ (HO.out.cells 0 rfl) (fun _ => ?_)
          clear hK K
          try simp only [Act.put, List.getElem_toArray, List.getElem_cons_zero, List.getElem_cons_succ, List.setIfInBounds_toArray, List.set_cons_zero, List.set_cons_succ]
          exact pTABC b16 _ ⟨HO.out, HC.out⟩
      · intro b16 WT hI
        obtain ⟨hO, hC⟩ := hI
        replace HO := hide hO
        replace HC := hide hC
        clear hO hC
        have hSS : (fun W => (∀ j, W.cell? ⟨b9, j, none⟩ = (x.cells : List Value)[j]?)) WT := HO.out.cells 0 rfl
        refine wpAnyH_ready (rs := [5]) (by kernel_rfl) (by simp) ?_
        refine AllReadyH.cons rfl (fun K hK => ?_) (AllReadyH.nil)
        · refine step_store_own_t HO.out rfl 41 (.tmp 16) (.tmp 53) rfl 4 _ 0 _ _ mm.cells mm.cells rfl (.agg mm.cells.toArray) rfl rfl (fits_agg _) (by rw [HMM.out.size, zmsgI_len]; exact Nat.le_refl _) (splice_all (by rw [HMM.out.size, zmsgI_len])) (msg_size HMM.out.size) HMO.out ?_
          intro WA hO hbk htc
          replace HC := hide (And.intro (HC.out.1.putOff HC.out.2 htc) HC.out.2)
          replace HO := hide hO
          clear hO hbk htc
          replace HO := hide (show Own W [] ([(b9, 43, x.cells), (bs, 43, x.cells), (b12, 46, rC D), (b14, 41, ms)] ++ [(b16, 41, mm.cells)]) _ from HO.out)
          refine hK.out _ _ (HO.out.cells 0 rfl) (fun _ => ?_)
          clear hK K
          try simp only [Act.put, List.getElem_toArray, List.getElem_cons_zero, List.getElem_cons_succ, List.setIfInBounds_toArray, List.set_cons_zero, List.set_cons_succ]
          exact pTABCD b16 _ ⟨HO.out, HC.out⟩
      · intro b16 WT hI
        obtain ⟨hO, hC⟩ := hI
        replace HO := hide hO
        replace HC := hide hC
        clear hO hC
        refine wpAnyH_done (by kernel_rfl) ?_ _
        replace HC := hide HC.out.1
        go_wp2_with (first
          | ((with_reducible refine at_load 41 (.tmp 16) ?_); refine wpList_load_own HO.out rfl 41 (.tmp 16) rfl 4 _ 0 47 _ _ (mm.cells) _ rfl (take_all HMM.out.size) rfl Try.underlying41 rfl (msg_size HMM.out.size) ?_))
        refine (HRV.out _ HC.out).mono ?_
        rintro e w5 ⟨v5, rfl, hv5, ⟨q5, hc5⟩, ht5⟩
        replace HO := hide (HO.out.callN ht5 ⟨HGN.out, HO.out.ne_cl HC.out (by simp)⟩)
        replace HC := hide hc5
        clear hc5 ht5
        cases he : (cReceive D mm frm).ends with
        | false =>
          have HEF := hide (ends_false HAD.out mm frm he)
          have HOP2 := hide (fun (X : World) (hX : Cl X g (cReceive D mm frm).st q5) => open_c g (cReceive D mm frm).st q5 X hX)
          unfold OpenR at HOP2
          rw [HEF.out, HMS.out, HIS.out] at HOP2
          generalize (cReceive D mm frm).st = st at *
          clear hv5 he HEF
          go_wp2_with fail
          refine (HOP2.out _ HC.out).mono ?_
          rintro e w6 ⟨rfl, hb⟩
          replace HO := hide (HO.out.step hb)
          replace HC := hide (HC.out.step hb)
          clear hb HOP2
          go_wp2_with (first
            | ((with_reducible refine at_alloc 41 ?_); refine wpList_alloc_own_n HO.out rfl 41 rfl zmsgI zmsgI_info ?_; intro WA b19 hbn hO hbl; have HOF := hide (HC.out.off hbn); replace HC := hide (HC.out.step hbl); replace HO := hide hO; clear hbn hO hbl)
            | ((with_reducible refine at_store 41 (.tmp 19) ?_); refine wpList_store_own_t HO.out rfl 41 (.tmp 19) _ rfl 5 _ 0 _ _ (ms) (ms) rfl (.agg (ms).toArray) rfl rfl (fits_agg _) (by rw [HML.out, zmsgI_len]; exact Nat.le_refl _) (splice_all (by rw [HML.out, zmsgI_len])) (msg_size HML.out) HMSO.out ?_; intro WA hO hbk htc; replace HC := hide (HC.out.putOff HOF.out htc); replace HO := hide hO; clear hO hbk htc HOF)
            | ((with_reducible refine at_load 41 (.tmp 19) ?_); refine wpList_load_own_g HO.out rfl 41 (.tmp 19) rfl 5 _ 0 47 _ _ (ms) _ rfl (take_all HML.out) rfl Try.underlying41 rfl (msg_size HML.out) ?_)
            | ((with_reducible refine at_load 41 (.tmp 14) ?_); refine wpList_load_own_g HO.out rfl 41 (.tmp 14) rfl 3 _ 0 47 _ _ (ms) _ rfl (take_all HML.out) rfl Try.underlying41 rfl (msg_size HML.out) ?_))
          refine (HSM.out _).mono ?_
          rintro e w7 ⟨rfl, hb⟩
          replace HO := hide (HO.out.step hb)
          replace HC := hide (HC.out.step hb)
          clear hb
          go_wp2_with fail
          refine (awake_c _).mono ?_
          rintro e wz ⟨rfl, hbz⟩
          replace HO := hide (HO.out.step hbz)
          clear hbz
          go_wp2_with fail
          go_ret
          exact ⟨rfl, HO.out.below⟩
        | true =>
          obtain ⟨k, gq, bq, vq, hop, e1, e2, e3, ec, hr⟩ := ends_true HAD.out mm frm he
          rw [hr] at HC hv5
          obtain rfl : v5 = .slice none 0 0 := hv5
          have his : is = true := by rw [← HIS.out]; unfold openOf; rw [hop]
          have hms : ms = req k gq D.id D.number bq vq := by rw [← HMS.out]; unfold openOf; rw [hop]
          subst his
          have HOS := hide (fun (X : World) (q6 : Value) (hX : Cl X g { D with opened := none } q6) => open_c g { D with opened := none } q6 X hX)
          have HRS := hide (fun (X : World) (hX : Cl X g { D with opened := none } q5) => recv_shut g { D with opened := none } q5 frm mm X hX HMM.out rfl)
          unfold OpenR openOf at HOS
          dsimp only at HOS HC
          rw [← zmsgI_def] at HOS
          have m1 := (HO.out.cells 4 rfl 1).trans (show mm.cells[1]? = some (.int .i64 mm.group) from rfl)
          have m2 := (HO.out.cells 4 rfl 2).trans (show mm.cells[2]? = some (.int .i64 mm.client) from rfl)
          have m3 := (HO.out.cells 4 rfl 3).trans (show mm.cells[3]? = some (.int .i64 mm.number) from rfl)
          have m4 := (HO.out.cells 4 rfl 4).trans (show mm.cells[4]? = some (.int .i64 mm.code) from rfl)
          have p1 := (HO.out.cells 3 rfl 1).trans (show ms[1]? = some (.int .i64 gq) by rw [hms]; rfl)
          have p2 := (HO.out.cells 3 rfl 2).trans (show ms[2]? = some (.int .i64 D.id) by rw [hms]; rfl)
          have p3 := (HO.out.cells 3 rfl 3).trans (show ms[3]? = some (.int .i64 D.number) by rw [hms]; rfl)
          have f1 : (mm.group != gq) = false := by simp [e1]
          have f2 : (mm.client != D.id) = false := by simp [e2]
          have f3 : (mm.number != D.number) = false := by simp [e3]
          clear he hr hop hms e1 e2 e3 hcm hnc
          have hcc : (mm.code != 0) = false ∨ ((mm.code != 0) = true ∧ (mm.code != 1) = false) := by rcases ec with ec | ec <;> simp [ec]
          clear ec
          rcases hcc with g1 | ⟨g1, g2⟩
          · go_wp2_with (first
              | ((with_reducible refine at_load 41 (.tmp 16) ?_); refine wpList_load_own HO.out rfl 41 (.tmp 16) rfl 4 _ 0 47 _ _ (mm.cells) _ rfl (take_all HMM.out.size) rfl Try.underlying41 rfl (msg_size HMM.out.size) ?_))
            refine (HRS.out _ HC.out).mono ?_
            rintro e w6 ⟨v6, rfl, hv6, ⟨q6, hc6⟩, ht6⟩
            obtain rfl : v6 = .slice none 0 0 := hv6
            replace HO := hide (HO.out.callN ht6 ⟨HGN.out, HO.out.ne_cl HC.out (by simp)⟩)
            replace HC := hide hc6
            clear hc6 ht6
            go_wp2_with fail
            refine (HOS.out _ _ HC.out).mono ?_
            rintro e w7 ⟨rfl, hb⟩
            replace HO := hide (HO.out.step hb)
            replace HC := hide (HC.out.step hb)
            clear hb
            go_wp2_with (first
              | ((with_reducible refine at_alloc 41 ?_); refine wpList_alloc_own_n HO.out rfl 41 rfl zmsgI zmsgI_info ?_; intro WA b23 hbn hO hbl; have HOF := hide (HC.out.off hbn); replace HC := hide (HC.out.step hbl); replace HO := hide hO; clear hbn hO hbl)
              | ((with_reducible refine at_store 41 (.tmp 23) ?_); refine wpList_store_own_t HO.out rfl 41 (.tmp 23) _ rfl 5 _ 0 _ _ (zmsgI) (zmsgI) rfl (.agg (zmsgI).toArray) rfl rfl (fits_agg _) (by rw [zmsgI_len]; exact Nat.le_refl _) (splice_all rfl) (msg_size zmsgI_len) zmsgI_ones ?_; intro WA hO hbk htc; replace HC := hide (HC.out.putOff HOF.out htc); replace HO := hide hO; clear hO hbk htc HOF))
            refine (awake_c _).mono ?_
            rintro e wz ⟨rfl, hbz⟩
            replace HO := hide (HO.out.step hbz)
            clear hbz
            go_wp2_with fail
            go_ret
            exact ⟨rfl, HO.out.below⟩
          · go_wp2_with (first
              | ((with_reducible refine at_load 41 (.tmp 16) ?_); refine wpList_load_own HO.out rfl 41 (.tmp 16) rfl 4 _ 0 47 _ _ (mm.cells) _ rfl (take_all HMM.out.size) rfl Try.underlying41 rfl (msg_size HMM.out.size) ?_))
            refine (HRS.out _ HC.out).mono ?_
            rintro e w6 ⟨v6, rfl, hv6, ⟨q6, hc6⟩, ht6⟩
            obtain rfl : v6 = .slice none 0 0 := hv6
            replace HO := hide (HO.out.callN ht6 ⟨HGN.out, HO.out.ne_cl HC.out (by simp)⟩)
            replace HC := hide hc6
            clear hc6 ht6
            go_wp2_with fail
            refine (HOS.out _ _ HC.out).mono ?_
            rintro e w7 ⟨rfl, hb⟩
            replace HO := hide (HO.out.step hb)
            replace HC := hide (HC.out.step hb)
            clear hb
            go_wp2_with (first
              | ((with_reducible refine at_alloc 41 ?_); refine wpList_alloc_own_n HO.out rfl 41 rfl zmsgI zmsgI_info ?_; intro WA b23 hbn hO hbl; have HOF := hide (HC.out.off hbn); replace HC := hide (HC.out.step hbl); replace HO := hide hO; clear hbn hO hbl)
              | ((with_reducible refine at_store 41 (.tmp 23) ?_); refine wpList_store_own_t HO.out rfl 41 (.tmp 23) _ rfl 5 _ 0 _ _ (zmsgI) (zmsgI) rfl (.agg (zmsgI).toArray) rfl rfl (fits_agg _) (by rw [zmsgI_len]; exact Nat.le_refl _) (splice_all rfl) (msg_size zmsgI_len) zmsgI_ones ?_; intro WA hO hbk htc; replace HC := hide (HC.out.putOff HOF.out htc); replace HO := hide hO; clear hO hbk htc HOF))
            refine (awake_c _).mono ?_
            rintro e wz ⟨rfl, hbz⟩
            replace HO := hide (HO.out.step hbz)
            clear hbz
            go_wp2_with fail
            go_ret
            exact ⟨rfl, HO.out.below⟩
end Go.Proofs.Ytpbgelhjbfckcaa
