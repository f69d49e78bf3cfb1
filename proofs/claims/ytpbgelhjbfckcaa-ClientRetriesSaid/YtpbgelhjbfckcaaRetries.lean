/- ClientRetries: the walk. -/
import Derived.Test.YtpbgelhjbfckcaaEnds
import Derived.Test.YtpbgelhjbfckcaaRetM
namespace Go.Proofs.Ytpbgelhjbfckcaa
open Go.ChangeShapes Go.WideShapes Go.ChangeAt Go.RowKit
set_option linter.unusedVariables false
set_option linter.unusedSimpArgs false

theorem at_makeMap (t : TypeId) {P : Program} {w : World} {ops : Array Oper} {rest : List Oper} {d : Option Tmp} {ty : TypeId} {p : String} {af : Array Edge} {g : Option (Nat × Bool)} {a : Act} {Q : Exit → Act → World → Prop}
    (h : wpList P ops Q ({ dst := d, op := .makeMap t none, type := ty, pos := p, after := af, guard := g } :: rest) a w) : wpList P ops Q ({ dst := d, op := .makeMap t none, type := ty, pos := p, after := af, guard := g } :: rest) a w := h
theorem at_mapUpdate (t : TypeId) {m x v : Operand} {P : Program} {w : World} {ops : Array Oper} {rest : List Oper} {d : Option Tmp} {ty : TypeId} {p : String} {af : Array Edge} {g : Option (Nat × Bool)} {a : Act} {Q : Exit → Act → World → Prop}
    (h : wpList P ops Q ({ dst := d, op := .mapUpdate t m x v, type := ty, pos := p, after := af, guard := g } :: rest) a w) : wpList P ops Q ({ dst := d, op := .mapUpdate t m x v, type := ty, pos := p, after := af, guard := g } :: rest) a w := h
theorem cStep_machines (S : CS) (x : OpV) : (cStep S x).1.machines = S.machines := by
  unfold cStep
  split
  · show (cRequest S x.group x.body).st.machines = _
    unfold cRequest opened
    repeat' split
    all_goals rfl
  · split
    · show (cCall S x.group x.value).st.machines = _
      unfold cCall opened
      repeat' split
      all_goals rfl
    · split
      · show (cRetry S).st.machines = _
        unfold cRetry turned
        split
        all_goals rfl
      · split
        · show (cReceive S (repM x S.number) x.frm).st.machines = _
          unfold cReceive cAnswered
          repeat' split
          all_goals rfl
        · rfl
theorem cRun_machines (l : List OpV) : ∀ S : CS, (cRun S l).machines = S.machines := by
  induction l with
  | nil => intro S; rfl
  | cons x l ih => intro S; exact (ih (cStep S x).1).trans (cStep_machines S x)
theorem Cl.offset {w w' : World} {g mb : Nat} {S : CS} {q : Value} {l : List Int} (h : Cl w g S q) (hs : SetIn w mb l) (k : Touch [mb] w w') : Cl w' g S q :=
  h.far_of k (by simpa using hs.ne_blk h.blk) (fun c hc => by
    cases ho : S.opened with
    | none => rw [h.shut ho] at hc; cases hc
    | some cs =>
      obtain ⟨b', _, h2, h3⟩ := h.opened cs ho
      rw [h2] at hc
      injection hc with hc; injection hc with hc; injection hc with hc
      subst hc
      simpa using hs.ne_blk h3)
/-- Behind j retries. -/
def at_ (D : CS) (j : Nat) : CS := { D with target := tgt D.target D.machines j }
theorem at_zero {D : CS} (h : 1 ≤ D.target ∧ D.target ≤ D.machines) : at_ D 0 = D := by unfold at_; rw [tgt_zero h.1 h.2]
theorem at_retry {D : CS} {cs : List Value} (ho : D.opened = some cs) (h : 0 < D.machines) (j : Nat) : cRetry (at_ D j) = ⟨at_ D (j + 1), .int .i64 (tgt D.target D.machines (j + 1)) :: cs, true⟩ := by
  unfold cRetry
  have : (at_ D j).opened = some cs := ho
  rw [this]
  show (⟨turned (at_ D j), .int .i64 (turned (at_ D j)).target :: cs, true⟩ : RetV) = _
  have e : turned (at_ D j) = at_ D (j + 1) := by
    unfold turned at_
    dsimp only
    rw [tgt_succ _ _ _ h]
  rw [e]
  rfl
theorem tgt_wf (T n : Int) (j : Nat) (h : 0 < n) (hn : n ≤ 16) : (Lit.int .i64 (tgt T n j)).wf = true := by
  have h1 := Int.emod_nonneg (T - 1 + j) (show n ≠ 0 by omega)
  have h2 := Int.emod_lt_of_pos (T - 1 + j) h
  unfold tgt
  simp [Lit.wf, IntKind.min, IntKind.max, IntKind.signed, IntKind.bits]
  omega
set_option maxRecDepth 100000 in
set_option maxHeartbeats 8000000 in
theorem walkClientRetries (W : World) (a : Int) (wa : (Lit.int .u8 a).wf = true) (b : Int) (wb : (Lit.int .u8 b).wf = true) (v : Value) (l : List OpV) (h : OpsIn W v l) :
    Calls Try.prog 5 #[.int .u8 a, .int .u8 b, v] W fun e w' => e = .returned (.bool true) ∧ Below W.heap.size W w' := by
  obtain ⟨Al, nl, cl, rfl, hnl, hnc, hcm⟩ := h.form
  have H := hide h
  have HWA := hide (wf_u8 wa)
  have HWB := hide (wf_u8 wb)
  have HO := hide (Own.nil W [] (by simp))
  clear h wa wb
  go_enter Try.func5, Try.ntmps5
  go_wp2_with fail
  refine (few_c _ l 30 _ H.out).mono ?_
  rintro e w1 ⟨x1, rfl, hf1, hb1⟩
  replace HO := hide (HO.out.step hb1)
  have HF1 := hide hf1
  clear hb1 hf1
  cases x1 with
  | false =>
    go_wp2_with fail
    refine (awake_c _).mono ?_
    rintro e wz ⟨rfl, hbz⟩
    replace HO := hide (HO.out.step hbz)
    clear hbz
    go_wp2_with fail
    go_ret
    exact ⟨rfl, HO.out.below⟩
  | true =>
    have HLN : Hid (l.length ≤ 1000) := hide (by have := HF1.out rfl; omega)
    clear HF1
    go_wp2_with fail
    refine (run_c a b _ l _ HWA.out HWB.out (H.out.step HO.out.below) HLN.out).mono ?_
    rintro e w3 ⟨g, q, rfl, hc, hgn, hb⟩
    have HGN := hide (Nat.le_trans HO.out.size hgn)
    replace HO := hide (HO.out.step hb)
    have HC := hide hc
    have HAD := hide (cRun_asks l _ (asks_new (1 + a % 8) (1 + b % 5)))
    have HDM : Hid ((cRun (csNew (1 + a % 8) (1 + b % 5)) l).machines = 1 + b % 5) := hide (cRun_machines l _)
    clear hc hgn hb
    generalize cRun (csNew (1 + a % 8) (1 + b % 5)) l = D at *
    have HDL := hide HAD.out.rlen
    have HDO := hide HAD.out.rones
    go_wp2_with (first
      | ((with_reducible refine at_alloc 46 ?_); refine wpList_alloc_own_t HO.out rfl 46 rfl (zrc) zrc_info ?_; intro WA b8 hO hbl; replace HC := hide (HC.out.step hbl); replace HO := hide hO; clear hO hbl)
      | ((with_reducible refine at_store 46 (.tmp 8) ?_); refine wpList_store_own_t HO.out rfl 46 (.tmp 8) _ rfl 0 _ 0 _ _ (rC D) (rC D) rfl (.agg (rC D).toArray) rfl rfl (fits_agg _) (by rw [HDL.out, zrc_len]; exact Nat.le_refl _) (splice_all (by rw [HDL.out, zrc_len])) (rc_size HDL.out) HDO.out ?_; intro WA hO hbk htc; replace HC := hide (HC.out.put hbk (by decide) htc); replace HO := hide hO; have k8 := rs_cells (hO.cells 0 rfl); refine Hid.out ?_; clear hO hbk htc))
    refine hide ?_
    cases hop : D.opened with
    | none =>
      have HRT : Hid (∀ (X : World), Cl X g D q → Calls Try.prog 18 #[.pointer (some ⟨g, 0, none⟩)] X (RetR X g ⟨D, zout, false⟩)) := hide (fun X hX => by
        have := retry_c g D q X hX
        unfold cRetry at this
        rw [hop] at this
        exact this)
      rw [hop] at k8
      go_wp2_with fail
      refine (HRT.out _ HC.out).mono ?_
      rintro e w5 ⟨rfl, ⟨q2, hc⟩, ht⟩
      replace HO := hide (HO.out.callN ht ⟨HGN.out, HO.out.ne_cl HC.out (by simp)⟩)
      replace HC := hide hc
      clear hc ht k8
      go_wp2_with (first
        | ((with_reducible refine at_alloc 59 ?_); refine wpList_alloc_own_t HO.out rfl 59 rfl (zout) zout_info ?_; intro WA b10 hO hbl; replace HC := hide (HC.out.step hbl); replace HO := hide hO; clear hO hbl)
        | ((with_reducible refine at_store 59 (.tmp 10) ?_); refine wpList_store_own_t HO.out rfl 59 (.tmp 10) _ rfl 1 _ 0 _ _ (zout) (zout) rfl (.agg (zout).toArray) rfl rfl (fits_agg _) (by rw [zout_len]; exact Nat.le_refl _) (splice_all rfl) (out_size zout_len) zout_ones ?_; intro WA hO hbk htc; replace HC := hide (HC.out.put hbk (by decide) htc); replace HO := hide hO; clear hO hbk htc))
      refine (awake_c _).mono ?_
      rintro e wz ⟨rfl, hbz⟩
      replace HO := hide (HO.out.step hbz)
      clear hbz
      go_wp2_with fail
      go_ret
      exact ⟨rfl, HO.out.below⟩
    | some cs =>
      have HM1 : Hid (0 < D.machines ∧ D.machines ≤ 5) := hide (by have := HDM.out; omega)
      have HT0 := hide HC.out.ok.target
      have HOPN := hide hop
      have HCS : Hid ((openOf D).1 = cs) := hide (by unfold openOf; rw [hop])
      have HSM := hide HAD.out.same
      have HCL := hide HAD.out.open_len.1
      have HCO := hide HAD.out.open_len.2
      rw [hop, HCS.out] at k8
      rw [HCS.out] at HSM HCL HCO
      have HDE : Hid (rC D = rcl D.id D.machines D.target D.number true cs) := hide (by unfold rC; rw [hop, HCS.out]; rfl)
      rw [HDE.out] at HO
      rw [← at_zero HT0.out] at HC
      have e2 : b.tmod 5 = b % 5 := Int.tmod_eq_emod_of_nonneg HWB.out.1
      obtain ⟨n, hn⟩ : ∃ n, b % 5 = n := ⟨_, rfl⟩
      rw [hn] at e2
      have hn1 : 0 ≤ n ∧ n ≤ 4 := by omega
      have HMN : Hid (D.machines = 1 + n) := hide (by rw [HDM.out, hn])
      clear hop hn
      go_wp2_with (first
        | ((with_reducible refine at_makeMap 62 ?_); refine wpList_makeMap_n rfl 62 rfl ?_; intro WM mb hmb hWM; have HS := hide (show SetIn WM mb [] by rw [hWM, hmb]; exact set_made _); have HMB := hide (show W.heap.size ≤ mb by rw [hmb]; exact HO.out.size); replace HO := hide (show Own W [] _ WM by rw [hWM]; exact HO.out.alloc _); replace HC := hide (HC.out.step (show Below _ _ WM by rw [hWM]; exact (Below.refl _ _).alloc (Nat.le_refl _) _)); clear hmb hWM))
      clear k8
      go_loopw [47] (fun v47 wr => ∃ (j : Nat) (q' : Value), v47 = .int .i64 j ∧ (j : Int) ≤ 1 + n ∧ Own W [] [(b8, 46, rcl D.id D.machines D.target D.number true cs)] wr ∧ Cl wr g (at_ D j) q' ∧ SetIn wr mb (seenL D.target D.machines j)) (fun v47 _ => (1 + n).toNat - (intOf v47).toNat)
      case atStart => exact ⟨0, q, rfl, by omega, HO.out, HC.out, HS.out⟩
      case round =>
        obtain ⟨j, q', rfl, hj, ho, hc, hs⟩ := hrel
        replace HO := hide ho
        replace HC := hide hc
        replace HS := hide hs
        clear ho hc hs
        by_cases hlt : (j : Int) < 1 + n
        · have HLT := hide hlt
          obtain ⟨T', hT'⟩ : ∃ T', T' = tgt D.target D.machines (j + 1) := ⟨_, rfl⟩
          have HTE := hide hT'
          have HWF : Hid ((Lit.int .i64 T').wf = true) := hide (by rw [hT']; exact tgt_wf _ _ _ HM1.out.1 (by have := HM1.out; omega))
          have HNI : Hid (T' ∉ seenL D.target D.machines j) := hide (by rw [hT']; exact seenL_not _ _ _ (by rw [HMN.out]; exact hlt) HM1.out.2)
          have HSL : Hid ((seenL D.target D.machines j).length < maxLen) := hide (by unfold seenL maxLen; rw [List.length_map, List.length_range]; omega)
          have HRT : Hid (∀ (X : World), Cl X g (at_ D j) q' → Calls Try.prog 18 #[.pointer (some ⟨g, 0, none⟩)] X (RetR X g ⟨at_ D (j + 1), .int .i64 T' :: cs, true⟩)) := hide (fun X hX => by
            have := retry_c g (at_ D j) q' X hX
            rw [at_retry HOPN.out HM1.out.1 j, ← hT'] at this
            exact this)
          have HOL : Hid ((Value.int .i64 T' :: cs).length = 48) := hide (by rw [List.length_cons, HCL.out])
          have HOO : Hid ((Value.int .i64 T' :: cs).all (·.oneCell') = true) := hide (out_ones HCO.out)
          clear hT'
          go_wp2_with fail
          refine (HRT.out _ HC.out).mono ?_
          rintro e w5 ⟨rfl, ⟨q2, hc⟩, ht⟩
          replace HS := hide (HS.out.touch ht (by simpa using (HS.out.ne_blk HC.out.blk).symm))
          replace HO := hide (HO.out.callN ht ⟨HGN.out, HO.out.ne_cl HC.out (by simp)⟩)
          replace HC := hide hc
          clear hc ht HRT
          go_wp2_with (first
            | ((with_reducible refine at_alloc 59 ?_); refine wpList_alloc_own_t HO.out rfl 59 rfl zout zout_info ?_; intro WA b13 hO hbl; replace HC := hide (HC.out.step hbl); replace HS := hide (HS.out.step hbl); replace HO := hide hO; clear hO hbl)
            | ((with_reducible refine at_store 59 (.tmp 13) ?_); refine wpList_store_own_t HO.out rfl 59 (.tmp 13) _ rfl 1 _ 0 _ _ (.int .i64 T' :: cs) (.int .i64 T' :: cs) rfl (.agg (Value.int .i64 T' :: cs).toArray) rfl rfl (fits_agg _) (by rw [HOL.out, zout_len]; exact Nat.le_refl _) (splice_all (by rw [HOL.out, zout_len])) (out_size HOL.out) HOO.out ?_; intro WA hO hbk htc; replace HS := hide (HS.out.touch htc (by simpa using (HS.out.ne_blk hbk).symm)); replace HC := hide (HC.out.put hbk (by decide) htc); replace HO := hide hO; have k13 := hO.cells 1 rfl; have hlk := HS.out.look T' HWF.out HNI.out; clear hO hbk htc)
            | ((with_reducible refine at_load 41 (.tmp 63) ?_); refine wpList_load_own_g HO.out rfl 41 (.tmp 63) rfl 1 _ 1 47 _ _ (cs) _ rfl (by show List.take 47 cs = cs; rw [List.take_of_length_le (by rw [HCL.out]; exact Nat.le_refl _)]) rfl Try.underlying41 rfl (msg_size HCL.out) ?_)
            | ((with_reducible refine at_load 41 (.tmp 65) ?_); refine wpList_load_own_g HO.out rfl 41 (.tmp 65) rfl 0 _ 5 47 _ _ (cs) _ rfl (take5 HCL.out) rfl Try.underlying41 rfl (msg_size HCL.out) ?_))
          refine (HSM.out _).mono ?_
          rintro e w6 ⟨rfl, hb⟩
          replace HS := hide (HS.out.step hb)
          replace HO := hide (HO.out.step hb)
          replace HC := hide (HC.out.step hb)
          clear hb hlk
          replace k13 := HO.out.cells 1 rfl
          go_wp2_with (first
            | ((with_reducible refine at_mapUpdate 62 ?_); refine wpList_put_set HS.out HSL.out rfl _ _ _ rfl T' HWF.out rfl rfl rfl ?_; intro WU hs htm; replace HC := hide (HC.out.offset HS.out htm); replace HO := hide (HO.out.callN htm ⟨HMB.out, fun e he => HS.out.ne_blk (HO.out.has e he).1⟩); replace HS := hide hs; clear hs htm))
          go_roundw
          case rel =>
            refine ⟨j + 1, q2, by go_num, by have := HLT.out; omega, HO.out.sub (List.sublist_append_left _ _), HC.out, ?_⟩
            rw [seenL_succ, ← HTE.out]
            exact HS.out
          case measure => have := HLT.out; simp [intOf]; omega
        · have hge : 1 + n ≤ (j : Int) := by omega
          clear hlt
          go_wp2_with fail
          refine (awake_c _).mono ?_
          rintro e wz ⟨rfl, hbz⟩
          replace HO := hide (HO.out.step hbz)
          clear hbz
          go_wp2_with fail
          go_ret
          exact ⟨rfl, HO.out.below⟩
end Go.Proofs.Ytpbgelhjbfckcaa
