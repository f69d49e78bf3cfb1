/- ClientSends: the walk. -/
import Derived.Test.YtpbgelhjbfckcaaS19
import Derived.Test.YtpbgelhjbfckcaaS28
namespace Go.Proofs.Ytpbgelhjbfckcaa
open Go.ChangeShapes Go.WideShapes Go.ChangeAt Go.RowKit
set_option linter.unusedVariables false
set_option linter.unusedSimpArgs false

theorem Own.addB {w0 W : World} {S : List Nat} {L : List (Nat × TypeId × List Value)} (h : Own w0 S L W) (b : Nat) (t : TypeId) (cs : List Value) (hb : Blk W b t cs.toArray) (hn : w0.heap.size ≤ b) (ha : ∀ e ∈ L, e.1 ≠ b) : Own w0 S (L ++ [(b, t, cs)]) W := by
  refine ⟨fun e he => ?_, ?_, h.touch, h.old⟩
  · rcases List.mem_append.1 he with he | he
    · exact h.has e he
    · simp only [List.mem_singleton] at he; subst he; exact ⟨hb, hn⟩
  · rw [List.map_append, List.nodup_append]
    refine ⟨h.apart, by simp, fun a ha' c hc e => ?_⟩
    simp only [List.map_cons, List.map_nil, List.mem_singleton] at hc
    subst hc e
    obtain ⟨x, hx, rfl⟩ := List.mem_map.1 ha'
    exact ha x hx rfl
theorem Own.takeN {w0 W : World} {S : List Nat} {L : List (Nat × TypeId × List Value)} (h : Own w0 S L W) (k : Nat) : Own w0 S (L.take k) W := h.sub (List.take_sublist k L)
theorem cRun_sends (l : List OpV) : ∀ S : CS, Sends S → 0 ≤ S.number → Sends (cRun S l) := by
  induction l with
  | nil => intro S h _; exact h
  | cons x l ih => intro S h hn; exact ih _ (step_sends S h hn x).1 (Int.le_trans hn (cStep_number S x).1)
theorem cRun_id (l : List OpV) : ∀ S : CS, (cRun S l).id = S.id := by
  induction l with
  | nil => intro S; rfl
  | cons x l ih => intro S; exact (ih (cStep S x).1).trans (cStep_id S x)
theorem one_of {α : Type} {l : List α} (h : l.length ≤ 1) : l = [] ∨ ∃ x, l = [x] := by
  match l, h with
  | [], _ => exact .inl rfl
  | [x], _ => exact .inr ⟨x, rfl⟩
  | _ :: _ :: _, h => simp at h
set_option maxRecDepth 100000 in
set_option maxHeartbeats 16000000 in
theorem walkClientSends (W : World) (a : Int) (wa : (Lit.int .u8 a).wf = true) (b : Int) (wb : (Lit.int .u8 b).wf = true) (v : Value) (l : List OpV) (h : OpsIn W v l) :
    Calls Try.prog 6 #[.int .u8 a, .int .u8 b, v] W fun e w' => e = .returned (.bool true) ∧ Below W.heap.size W w' := by
  obtain ⟨Al, nl, cl, rfl, hnl, hnc, hcm⟩ := h.form
  have H := hide h
  have ha := wf_u8 wa
  have hb := wf_u8 wb
  have HO := hide (Own.nil W [] (by simp))
  have e1 : a.tmod 8 = a % 8 := Int.tmod_eq_emod_of_nonneg ha.1
  have e2 : b.tmod 5 = b % 5 := Int.tmod_eq_emod_of_nonneg hb.1
  obtain ⟨i, hi⟩ : ∃ i, a % 8 = i := ⟨_, rfl⟩
  obtain ⟨n, hn⟩ : ∃ n, b % 5 = n := ⟨_, rfl⟩
  have hi1 : 0 ≤ i ∧ i ≤ 7 := by omega
  have hn1 : 0 ≤ n ∧ n ≤ 4 := by omega
  rw [hi] at e1
  rw [hn] at e2
  clear h wa wb hi hn
  go_enter Try.func6, Try.ntmps6
  go_wp2_with fail
  refine (few_c _ l 40 _ H.out).mono ?_
  rintro e w1 ⟨x1, rfl, hf1, hb1⟩
  replace HO := hide (HO.out.step hb1)
  have HF1 := hide hf1
  clear hb1 hf1
  cases x1 with
  | false =>
    go_wp2_with fail
    refine (awake_c _).mono ?_
    rintro e wz ⟨rfl, hbz⟩
    replace HO := hide (HO.out.step hbz)
    clear hbz
    go_wp2_with fail
    go_ret
    exact ⟨rfl, HO.out.below⟩
  | true =>
    have HL : Hid (l.length ≤ 1000) := hide (by have := HF1.out rfl; omega)
    clear HF1
    go_wp2_with fail
    refine (new_c (1 + i) (1 + n) (by omega) (by omega) _).mono ?_
    rintro e w2 ⟨rfl, hc, hb2⟩
    obtain ⟨g, hg⟩ : ∃ g, w1.heap.size = g := ⟨_, rfl⟩
    have HGN : Hid (W.heap.size ≤ g) := hide (by rw [← hg]; exact HO.out.size)
    replace HO := hide (HO.out.step hb2)
    rw [hg] at hc ⊢
    have HC := hide hc
    clear hc hb2 hg
    have HNL : Hid ((rcl (1 + i) (1 + n) 1 0 false zmsg).length = 52) := hide rfl
    have HNO : Hid ((rcl (1 + i) (1 + n) 1 0 false zmsg).all (·.oneCell') = true) := hide (asks_new (1 + i) (1 + n)).rones
    have HNE : Hid (rC (csNew (1 + i) (1 + n)) = rcl (1 + i) (1 + n) 1 0 false zmsg) := hide rfl
    have HRN := hide (fun (X : World) => rnew_c (1 + i) (1 + n) X)
    have HI8 : Hid (1 ≤ 1 + i ∧ 1 + i ≤ 8) := hide (by omega)
    generalize hI : 1 + i = I at *
    generalize hN : 1 + n = M at *
    go_wp2_with fail
    refine (HRN.out _).mono ?_
    rintro e w3 ⟨rfl, hb3⟩
    replace HO := hide (HO.out.step hb3)
    replace HC := hide (HC.out.step hb3)
    clear hb3 HRN
    rw [← HNE.out] at HNL HNO ⊢
    generalize hS0 : csNew I M = S0 at *
    have HA0 : Hid (Sends S0) := hide (by rw [← hS0]; exact sends_new I M)
    have HN0 : Hid (S0.number = 0) := hide (by rw [← hS0]; rfl)
    have HI0 : Hid (S0.id = I) := hide (by rw [← hS0]; rfl)
    have HM0 : Hid (S0.machines = M) := hide (by rw [← hS0]; rfl)
    clear hI hN hS0 HNE
    go_wp2_with (first
      | ((with_reducible refine at_alloc 46 ?_); refine wpList_alloc_own_t HO.out rfl 46 rfl (zrc) zrc_info ?_; intro WA b10 hO hbl; replace HC := hide (HC.out.step hbl); replace HO := hide hO; clear hO hbl)
      | ((with_reducible refine at_store 46 (.tmp 10) ?_); refine wpList_store_own_t HO.out rfl 46 (.tmp 10) _ rfl 0 _ 0 _ _ (rC S0) (rC S0) rfl (.agg (rC S0).toArray) rfl rfl (fits_agg _) (by rw [HNL.out, zrc_len]; exact Nat.le_refl _) (splice_all (by rw [HNL.out, zrc_len])) (rc_size HNL.out) HNO.out ?_; intro WA hO hbk htc; replace HC := hide (HC.out.put hbk (by decide) htc); replace HO := hide hO; clear hO hbk htc))
    go_loopw [11, 43] (fun v11 v43 wr => ∃ (lt : Int) (k : Nat) (q : Value), v11 = .int .i64 lt ∧ v43 = .int .i64 k ∧ k ≤ l.length ∧ lt ≤ (cRun S0 (l.take k)).number ∧ Own W [] [(b10, 46, rC (cRun S0 (l.take k)))] wr ∧ Cl wr g (cRun S0 (l.take k)) q) (fun _ v43 _ => nl - (intOf v43).toNat)
    case atStart => exact ⟨0, 0, _, rfl, rfl, Nat.zero_le _, by have := HN0.out; show 0 ≤ S0.number; omega, HO.out, HC.out⟩
    case round =>
      obtain ⟨lt, k, q, rfl, rfl, hk, hlt0, ho, hc⟩ := hrel
      replace HO := hide ho
      replace HC := hide hc
      clear ho hc
      by_cases hlt : k < nl
      · have hkl : k < l.length := by rw [← hnl.out]; exact hlt
        obtain ⟨gl, ol, rfl, hgl, hok, hra⟩ := H.out.at_ k hkl
        have HRA := hide (rangeAt_step hra hgl HO.out.below)
        have HNX : Hid (cRun S0 (l.take (k + 1)) = (cStep (cRun S0 (l.take k)) l[k]).1) := hide (by rw [List.take_succ_eq_append_getElem hkl, cRun_snoc])
        have HAS := hide (cRun_sends (l.take k) S0 HA0.out (by have := HN0.out; omega))
        have HID : Hid ((cRun S0 (l.take k)).id = I) := hide (by rw [cRun_id]; exact HI0.out)
        have HMA : Hid ((cRun S0 (l.take k)).machines = M) := hide (by rw [cRun_machines]; exact HM0.out)
        have HND : Hid (0 ≤ (cRun S0 (l.take k)).number ∧ (cRun S0 (l.take k)).number < 1000000 - 1) := hide (by
          have h1 := cRun_number (l.take k) S0
          have h2 : (l.take k).length ≤ 1000 := by have := HL.out; rw [List.length_take]; omega
          have h3 := HN0.out
          omega)
        have HLT0 := hide hlt0
        have HXO := hide hok
        have HXL := hide hok.size
        have HXN := hide hok.ones
        generalize l[k] = x at *
        generalize cRun S0 (l.take k) = D at *
        have HAD := hide HAS.out.asks
        have HST := hide (fun (X : World) (hX : Cl X g D q) => step_c g D q x X hX HAD.out HXO.out (by have := HND.out.2; omega))
        have HSS := hide (step_sends D HAS.out HND.out.1 x)
        have HNS := hide (cStep_number D x)
        have HEI : Hid ((cStep D x).1.id = I) := hide (by rw [cStep_id]; exact HID.out)
        have HEM : Hid ((cStep D x).1.machines = M) := hide (by rw [cStep_machines]; exact HMA.out)
        generalize cStep D x = r at *
        obtain ⟨E, outs⟩ := r
        dsimp only at HNX HSS HNS HEI HEM
        have HAE := hide HSS.out.1.asks
        have HDL := hide HAD.out.rlen
        have HDO := hide HAD.out.rones
        have HEL := hide HAE.out.rlen
        have HEO := hide HAE.out.rones
        have hki : (k : Int) < (nl : Int) := by omega
        have HLT := hide hlt
        have HNK : Hid ((k : Int) < 1000) := hide (by have := HL.out; omega)
        obtain ⟨zo, hzl, hzi⟩ := zop_info
        have HZL := hide hzl
        have HZI : Hid ((Try.prog.info? 43).map (·.zero) = some (some (.agg zo.toArray))) := hide (by
          have h := congrArg (Option.map Prod.fst) hzi
          rw [Option.map_map] at h
          exact h)
        clear hlt hkl hok hra hzl hzi hlt0 hgl
        go_wp2_with (first
          | ((with_reducible refine at_load 43 (.tmp 45) ?_); refine wpList_load_mid rfl 43 (.tmp 45) rfl gl (ol + k * 53) rfl x.cells _ HRA.out Try.underlying43 rfl (op_size HXL.out) ?_)
          | ((with_reducible refine at_alloc 43 ?_); refine wpList_alloc_own_t HO.out rfl 43 rfl (zo) HZI.out ?_; intro WA b13 hO hbl; replace HC := hide (HC.out.step hbl); replace HO := hide hO; clear hO hbl)
          | ((with_reducible refine at_store 43 (.tmp 13) ?_); refine wpList_store_own_t HO.out rfl 43 (.tmp 13) _ rfl 1 _ 0 _ _ (x.cells) (x.cells) rfl (.agg (x.cells).toArray) rfl rfl (fits_agg _) (by rw [HXL.out, HZL.out]; exact Nat.le_refl _) (splice_all (by rw [HXL.out, HZL.out])) (op_size HXL.out) (by simpa using HXN.out) ?_; intro WA hO hbk htc; replace HC := hide (HC.out.put hbk (by decide) htc); replace HO := hide hO; clear hO hbk htc)
          | ((with_reducible refine at_load 46 (.tmp 10) ?_); refine wpList_load_own HO.out rfl 46 (.tmp 10) rfl 0 _ 0 52 _ _ (rC D) _ rfl (take_all HDL.out) rfl Try.underlying46 rfl (rc_size HDL.out) ?_)
          | ((with_reducible refine at_load 43 (.tmp 13) ?_); refine wpList_load_own HO.out rfl 43 (.tmp 13) rfl 1 _ 0 53 _ _ (x.cells) _ rfl (take_all HXL.out) rfl Try.underlying43 rfl (op_size HXL.out) ?_))
        have hlb := fun e he => (HO.out.has e he).1.lt
        have hsz := HO.out.size
        refine (HST.out _ HC.out).mono ?_
        rintro e wE ⟨v, rfl, hv, ⟨q2, hc⟩, ht⟩
        replace HO := hide (HO.out.callN ht ⟨HGN.out, HO.out.ne_cl HC.out (by simp)⟩)
        replace HC := hide hc
        obtain ⟨vA, vc, rfl, hv1, hv2, hv3, hv4, hv5⟩ := hv
        dsimp only at hv1 hv2 hv3 hv4 hv5 hc ⊢
        replace HC : Hid (Cl wE g E q2) := hide hc
        clear hc ht HST HRA
        rcases one_of hv4 with rfl | ⟨o, rfl⟩
        · clear hv1 hv2 hv3 hv4 hv5 hlb HSS
          have HLE : Hid (lt ≤ E.number) := hide (by have := HLT0.out; have := HNS.out.1; omega)
          go_wp2_with (first
            | ((with_reducible refine at_alloc 46 ?_); refine wpList_alloc_own_t HO.out rfl 46 rfl (zrc) zrc_info ?_; intro WA b14 hO hbl; replace HC := hide (HC.out.step hbl); replace HO := hide hO; clear hO hbl)
            | ((with_reducible refine at_store 46 (.tmp 14) ?_); refine wpList_store_own_t HO.out rfl 46 (.tmp 14) _ rfl 2 _ 0 _ _ (rC E) (rC E) rfl (.agg (rC E).toArray) rfl rfl (fits_agg _) (by rw [HEL.out, zrc_len]; exact Nat.le_refl _) (splice_all (by rw [HEL.out, zrc_len])) (rc_size HEL.out) HEO.out ?_; intro WA hO hbk htc; replace HC := hide (HC.out.put hbk (by decide) htc); replace HO := hide hO; clear hO hbk htc)
            | ((with_reducible refine at_load 46 (.tmp 14) ?_); refine wpList_load_own HO.out rfl 46 (.tmp 14) rfl 2 _ 0 52 _ _ (rC E) _ rfl (take_all HEL.out) rfl Try.underlying46 rfl (rc_size HEL.out) ?_)
            | ((with_reducible refine at_store 46 (.tmp 10) ?_); refine wpList_store_own_t HO.out rfl 46 (.tmp 10) _ rfl 0 _ 0 _ _ (rC E) (rC E) rfl (.agg (rC E).toArray) rfl rfl (fits_agg _) (by rw [HEL.out, HDL.out]; exact Nat.le_refl _) (splice_all (by rw [HEL.out, HDL.out])) (rc_size HEL.out) HEO.out ?_; intro WA hO hbk htc; replace HC := hide (HC.out.put hbk (by decide) htc); replace HO := hide hO; clear hO hbk htc))
          go_loopw [11, 60] (fun v11 v60 wr => v11 = .int .i64 lt ∧ v60 = .int .i64 0 ∧ Own W [] [(b10, 46, rC E), (b13, 43, x.cells), (b14, 46, rC E)] wr ∧ Cl wr g E q2) (fun _ v60 _ => 0)
          case atStart => exact ⟨rfl, rfl, HO.out, HC.out⟩
          case round =>
            obtain ⟨rfl, rfl, ho, hc⟩ := hrel
            replace HO := hide ho
            replace HC := hide hc
            clear ho hc
            go_wp2_with fail
            go_roundw
            case rel =>
              refine ⟨lt, k + 1, q2, rfl, by go_num, by have := HLT.out; have := hnl.out; omega, ?_, ?_, ?_⟩
              · rw [HNX.out]; exact HLE.out
              · rw [HNX.out]; exact HO.out.takeN 1
              · rw [HNX.out]; exact HC.out
            case measure => have := HLT.out; simp [intOf]; omega
        · obtain ⟨bo, hbo, rfl, hB⟩ := hv5 o rfl
          obtain ⟨cs, hop, rfl⟩ := HSS.out.2 o (by simp)
          have hrq := HSS.out.1 cs hop
          rw [HEI.out] at hrq
          have HSN := hide (hrq.sent HI8.out (by have := HNS.out.2; have := HND.out.2; omega))
          have HTG : Hid (1 ≤ E.target ∧ E.target ≤ M) := hide (by have := HC.out.ok.target; rw [HEM.out] at this; exact this)
          have HOP : Hid (∀ (X : World), Cl X g E q2 → Calls Try.prog 13 #[.pointer (some ⟨g, 0, none⟩)] X fun e w' => e = .returned (.tuple #[.agg cs.toArray, .bool true]) ∧ Below X.heap.size X w') := hide (fun X hX => by
            have := open_c g E q2 X hX
            unfold OpenR openOf at this
            rw [hop] at this
            exact this)
          have HSM : Hid (∀ X, Calls Try.prog 17 #[.agg cs.toArray, .agg cs.toArray] X (Yes X)) := hide (fun X => by
            have := HAE.out.same X
            unfold openOf at this
            rw [hop] at this
            exact this)
          have HVL : Hid (∀ X, Calls Try.prog 21 #[.agg cs.toArray] X fun e w' => e = .returned (.bool true) ∧ Below X.heap.size X w') := hide (fun X => by
            have := valid_c cs [] X HSN.out.msg (by rw [HSN.out.mach]; exact Li.nil X)
            rw [HSN.out.valid] at this
            exact this)
          have HCL : Hid (cs.length = 47) := hide HSN.out.msg.len
          have HCO : Hid (cs.all (·.oneCell') = true) := hide (by
            have := HAE.out.open_len.2
            unfold openOf at this
            rw [hop] at this
            exact this)
          have HOL : Hid ((Value.int .i64 E.target :: cs).length = 48) := hide (by rw [List.length_cons, HCL.out])
          have HOO : Hid ((Value.int .i64 E.target :: cs).all (·.oneCell') = true) := hide (out_ones HCO.out)
          replace HO := hide (HO.out.addB bo 59 (.int .i64 E.target :: cs) hB (Nat.le_trans hsz hbo) (fun e he => by have := hlb e he; omega))
          have HLE : Hid (lt ≤ E.number) := hide (by have := HLT0.out; have := HNS.out.1; omega)
          clear hv1 hv2 hv3 hv4 hv5 hlb hsz HSS hB hbo hop hrq
          go_wp2_with (first
            | ((with_reducible refine at_alloc 46 ?_); refine wpList_alloc_own_t HO.out rfl 46 rfl (zrc) zrc_info ?_; intro WA b14 hO hbl; replace HC := hide (HC.out.step hbl); replace HO := hide hO; clear hO hbl)
            | ((with_reducible refine at_store 46 (.tmp 14) ?_); refine wpList_store_own_t HO.out rfl 46 (.tmp 14) _ rfl 3 _ 0 _ _ (rC E) (rC E) rfl (.agg (rC E).toArray) rfl rfl (fits_agg _) (by rw [HEL.out, zrc_len]; exact Nat.le_refl _) (splice_all (by rw [HEL.out, zrc_len])) (rc_size HEL.out) HEO.out ?_; intro WA hO hbk htc; replace HC := hide (HC.out.put hbk (by decide) htc); replace HO := hide hO; clear hO hbk htc)
            | ((with_reducible refine at_load 46 (.tmp 14) ?_); refine wpList_load_own HO.out rfl 46 (.tmp 14) rfl 3 _ 0 52 _ _ (rC E) _ rfl (take_all HEL.out) rfl Try.underlying46 rfl (rc_size HEL.out) ?_)
            | ((with_reducible refine at_store 46 (.tmp 10) ?_); refine wpList_store_own_t HO.out rfl 46 (.tmp 10) _ rfl 0 _ 0 _ _ (rC E) (rC E) rfl (.agg (rC E).toArray) rfl rfl (fits_agg _) (by rw [HEL.out, HDL.out]; exact Nat.le_refl _) (splice_all (by rw [HEL.out, HDL.out])) (rc_size HEL.out) HEO.out ?_; intro WA hO hbk htc; replace HC := hide (HC.out.put hbk (by decide) htc); replace HO := hide hO; clear hO hbk htc))
          go_loopw [11, 60] (fun v11 v60 wr => ∃ (lt' : Int) (j : Nat), v11 = .int .i64 lt' ∧ v60 = .int .i64 j ∧ j ≤ 1 ∧ lt' ≤ E.number ∧ Own W [] [(b10, 46, rC E), (b13, 43, x.cells), (bo, 59, .int .i64 E.target :: cs), (b14, 46, rC E)] wr ∧ Cl wr g E q2) (fun _ v60 _ => 1 - (intOf v60).toNat)
          case atStart => exact ⟨lt, 0, rfl, rfl, Nat.zero_le _, HLE.out, HO.out, HC.out⟩
          case round =>
            obtain ⟨lt', j, rfl, rfl, hj, hl4, ho, hc⟩ := hrel
            replace HO := hide ho
            replace HC := hide hc
            clear ho hc
            by_cases hj0 : j < 1
            · obtain rfl : j = 0 := by omega
              have hT1 : decide (E.target < 1) = false := decide_eq_false (by have := HTG.out.1; omega)
              have hT2 : decide (M < E.target) = false := decide_eq_false (by have := HTG.out.2; omega)
              have hT4 : decide (E.number < lt') = false := decide_eq_false (by omega)
              clear hj hj0 hl4
              go_wp2_with (first
                | ((with_reducible refine at_load 59 (.tmp 62) ?_); refine wpList_load_own HO.out rfl 59 (.tmp 62) rfl 2 _ 0 48 _ _ (.int .i64 E.target :: cs) _ rfl (take_all HOL.out) rfl Try.underlying59 rfl (out_size HOL.out) ?_)
                | ((with_reducible refine at_alloc 59 ?_); refine wpList_alloc_own_t HO.out rfl 59 rfl (zout) zout_info ?_; intro WA b18 hO hbl; replace HC := hide (HC.out.step hbl); replace HO := hide hO; clear hO hbl)
                | ((with_reducible refine at_store 59 (.tmp 18) ?_); refine wpList_store_own_t HO.out rfl 59 (.tmp 18) _ rfl 4 _ 0 _ _ (.int .i64 E.target :: cs) (.int .i64 E.target :: cs) rfl (.agg (.int .i64 E.target :: cs).toArray) rfl rfl (fits_agg _) (by rw [HOL.out, zout_len]; exact Nat.le_refl _) (splice_all (by rw [HOL.out, zout_len])) (out_size HOL.out) HOO.out ?_; intro WA hO hbk htc; replace HC := hide (HC.out.put hbk (by decide) htc); replace HO := hide hO; clear hO hbk htc))
              refine (HOP.out _ HC.out).mono ?_
              rintro e w6 ⟨rfl, hb6⟩
              replace HO := hide (HO.out.step hb6)
              replace HC := hide (HC.out.step hb6)
              clear hb6
              go_wp2_with (first
                | ((with_reducible refine at_alloc 41 ?_); refine wpList_alloc_own_n HO.out rfl 41 rfl zmsgI zmsgI_info ?_; intro WA b19 hbn hO hbl; have HOF := hide (HC.out.off hbn); replace HC := hide (HC.out.step hbl); replace HO := hide hO; clear hbn hO hbl)
                | ((with_reducible refine at_store 41 (.tmp 19) ?_); refine wpList_store_own_t HO.out rfl 41 (.tmp 19) _ rfl 5 _ 0 _ _ (cs) (cs) rfl (.agg (cs).toArray) rfl rfl (fits_agg _) (by rw [HCL.out, zmsgI_len]; exact Nat.le_refl _) (splice_all (by rw [HCL.out, zmsgI_len])) (msg_size HCL.out) HCO.out ?_; intro WA hO hbk htc; replace HC := hide (HC.out.putOff HOF.out htc); replace HO := hide hO; clear hO hbk htc HOF)
                | ((with_reducible refine at_load 41 (.tmp 19) ?_); refine wpList_load_own_g HO.out rfl 41 (.tmp 19) rfl 5 _ 0 47 _ _ (cs) _ rfl (take_all HCL.out) rfl Try.underlying41 rfl (msg_size HCL.out) ?_)
                | ((with_reducible refine at_load 41 (.tmp 73) ?_); refine wpList_load_own_g HO.out rfl 41 (.tmp 73) rfl 4 _ 1 47 _ _ (cs) _ rfl (by show List.take 47 cs = cs; rw [List.take_of_length_le (by rw [HCL.out]; exact Nat.le_refl _)]) rfl Try.underlying41 rfl (msg_size HCL.out) ?_))
              refine (HSM.out _).mono ?_
              rintro e w7 ⟨rfl, hb7⟩
              replace HO := hide (HO.out.step hb7)
              replace HC := hide (HC.out.step hb7)
              clear hb7
              have m0 := HO.out.cells 4 rfl 0
              have m2 := (HO.out.cells 4 rfl 3).trans (show (Value.int .i64 E.target :: cs)[3]? = some (.int .i64 I) from HSN.out.client)
              have m3 := (HO.out.cells 4 rfl 4).trans (show (Value.int .i64 E.target :: cs)[4]? = some (.int .i64 E.number) from HSN.out.number)
              go_wp2_with (first
                | ((with_reducible refine at_load 41 (.tmp 90) ?_); refine wpList_load_own_g HO.out rfl 41 (.tmp 90) rfl 4 _ 1 47 _ _ (cs) _ rfl (by show List.take 47 cs = cs; rw [List.take_of_length_le (by rw [HCL.out]; exact Nat.le_refl _)]) rfl Try.underlying41 rfl (msg_size HCL.out) ?_))
              refine (HVL.out _).mono ?_
              rintro e w8 ⟨rfl, hb8⟩
              replace HO := hide (HO.out.step hb8)
              replace HC := hide (HC.out.step hb8)
              clear hb8 m0 m2 m3
              have m0 := HO.out.cells 4 rfl 0
              have m2 := (HO.out.cells 4 rfl 3).trans (show (Value.int .i64 E.target :: cs)[3]? = some (.int .i64 I) from HSN.out.client)
              have m3 := (HO.out.cells 4 rfl 4).trans (show (Value.int .i64 E.target :: cs)[4]? = some (.int .i64 E.number) from HSN.out.number)
              go_wp2_with fail
              go_roundw
              case rel => exact ⟨E.number, 1, rfl, by go_num, Nat.le_refl _, Int.le_refl _, HO.out.takeN 4, HC.out⟩
              case measure => simp [intOf]
            · obtain rfl : j = 1 := by omega
              clear hj hj0
              go_wp2_with fail
              go_roundw
              case rel =>
                refine ⟨lt', k + 1, q2, rfl, by go_num, by have := HLT.out; have := hnl.out; omega, ?_, ?_, ?_⟩
                · rw [HNX.out]; exact hl4
                · rw [HNX.out]; exact HO.out.takeN 1
                · rw [HNX.out]; exact HC.out
              case measure => have := HLT.out; simp [intOf]; omega
      · have hge : (nl : Int) ≤ (k : Int) := by omega
        clear hlt
        go_wp2_with fail
        refine (awake_c _).mono ?_
        rintro e wz ⟨rfl, hbz⟩
        replace HO := hide (HO.out.step hbz)
        clear hbz
        go_wp2_with fail
        go_ret
        exact ⟨rfl, HO.out.below⟩
end Go.Proofs.Ytpbgelhjbfckcaa
