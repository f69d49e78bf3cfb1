/- The walk of ClientCodes. -/
import Derived.Test.YtpbgelhjbfckcaaV35
import Derived.Test.YtpbgelhjbfckcaaV36
import Derived.Test.YtpbgelhjbfckcaaV37
namespace Go.Proofs.Ytpbgelhjbfckcaa
set_option maxRecDepth 100000
set_option linter.unusedVariables false
set_option linter.unusedSimpArgs false
open List renaming getElem_toArray → qa, getElem_cons_zero → qb, getElem_cons_succ → qc, setIfInBounds_toArray → qd, set_cons_zero → qe, set_cons_succ → qf
open Go.ChangeMaps Go.ChangeShapes Go.WideShapes Go.ChangeAt Go.RowKit
/-- The operation that holds a message and nothing else. -/
def opc (cs : List Value) : List Value := [zi, zi, zi, zs, zi] ++ cs ++ [zb0]
theorem op_built {w : World} {cs : List Value} {p : PM} (h : MsgV w cs p) : Try.prog.built 43 [(5, .agg cs.toArray)] = some (opc cs).toArray := by
 obtain ⟨A11p, n11p, c11p, A12p, n12p, c12p, A26p, n26p, c26p, A27p, n27p, c27p, A28p, n28p, c28p, A29p, n29p, c29p, A30p, n30p, c30p, A31p, n31p, c31p, A32p, n32p, c32p, A33p, n33p, c33p, A43p, n43p, c43p, ep, _⟩ := h.lit
 subst ep
 kernel_rfl
theorem op_slice {w : World} {cs : List Value} {p : PM} (h : MsgV w cs p) : Try.prog.builtSlice 43 1 [(0, .agg (opc cs).toArray)] = some (opc cs).toArray := by
 obtain ⟨A11p, n11p, c11p, A12p, n12p, c12p, A26p, n26p, c26p, A27p, n27p, c27p, A28p, n28p, c28p, A29p, n29p, c29p, A30p, n30p, c30p, A31p, n31p, c31p, A32p, n32p, c32p, A33p, n33p, c33p, A43p, n43p, c43p, ep, _⟩ := h.lit
 subst ep
 kernel_rfl
theorem op_in {w w' : World} {cs : List Value} {p : PM} {g : Nat} (h : MsgV w cs p) (hs : Sm p) (hB : Blk w' g 43 (opc cs).toArray) : ∃ l, OpsIn w' (.slice (some ⟨g, 0, none⟩) 1 1) l := by
 obtain ⟨A11p, n11p, c11p, A12p, n12p, c12p, A26p, n26p, c26p, A27p, n27p, c27p, A28p, n28p, c28p, A29p, n29p, c29p, A30p, n30p, c30p, A31p, n31p, c31p, A32p, n32p, c32p, A33p, n33p, c33p, A43p, n43p, c43p, ep, l11p, l12p, l26p, l27p, l28p, l29p, l30p, l31p, l32p, l33p, l43p⟩ := h.lit
 have hi6 := (h.N 6 (by decide)).2
 obtain ⟨_, _, _, e33, _, h33, h33'⟩ := l33p.form
 injection e33 with _ e33 e33'
 obtain ⟨_, _, _, e43, _, h43, h43'⟩ := l43p.form
 injection e43 with _ e43 e43'
 subst ep
 let mv : MV := ⟨p.n 0, p.n 1, p.n 2, p.n 3, p.n 4, p.body, p.n 6, ([.int .i64 (p.n 0), .int .i64 (p.n 1), .int .i64 (p.n 2), .int .i64 (p.n 3), .int .i64 (p.n 4), .string p.body, .int .i64 (p.n 6), .int .i64 (p.n 7), .int .i64 (p.n 8), .int .i64 (p.n 9), .int .i64 (p.n 10), .slice A11p n11p c11p, .slice A12p n12p c12p, .int .i64 (p.n 13), .int .i64 (p.n 14), .int .i64 (p.n 15), .int .i64 (p.n 16), .int .i64 (p.n 17), .int .i64 (p.n 18), .int .i64 (p.n 19), .int .i64 (p.n 20), .int .i64 (p.n 21), .int .i64 (p.n 22), .int .i64 (p.n 23), .int .i64 (p.n 24), .int .i64 (p.n 25), .slice A26p n26p c26p, .slice A27p n27p c27p, .slice A28p n28p c28p, .slice A29p n29p c29p, .slice A30p n30p c30p, .slice A31p n31p c31p, .slice A32p n32p c32p, .slice A33p n33p c33p, .int .i64 (p.n 34), .int .i64 (p.n 35), .int .i64 (p.n 36), .int .i64 (p.n 37), .int .i64 (p.n 38), .int .i64 (p.n 39), .int .i64 (p.n 40), .int .i64 (p.n 41), .bool p.gr, .slice A43p n43p c43p, .int .i64 (p.n 44), .string p.d, .bool p.dn] : List Value).drop 7⟩
 let x : OpV := ⟨0, 0, 0, ⟨#[]⟩, 0, mv, false⟩
 have hok : x.Ok := ⟨⟨rfl, fun v hv => List.all_eq_true.1 (show ((([.int .i64 (p.n 0), .int .i64 (p.n 1), .int .i64 (p.n 2), .int .i64 (p.n 3), .int .i64 (p.n 4), .string p.body, .int .i64 (p.n 6), .int .i64 (p.n 7), .int .i64 (p.n 8), .int .i64 (p.n 9), .int .i64 (p.n 10), .slice A11p n11p c11p, .slice A12p n12p c12p, .int .i64 (p.n 13), .int .i64 (p.n 14), .int .i64 (p.n 15), .int .i64 (p.n 16), .int .i64 (p.n 17), .int .i64 (p.n 18), .int .i64 (p.n 19), .int .i64 (p.n 20), .int .i64 (p.n 21), .int .i64 (p.n 22), .int .i64 (p.n 23), .int .i64 (p.n 24), .int .i64 (p.n 25), .slice A26p n26p c26p, .slice A27p n27p c27p, .slice A28p n28p c28p, .slice A29p n29p c29p, .slice A30p n30p c30p, .slice A31p n31p c31p, .slice A32p n32p c32p, .slice A33p n33p c33p, .int .i64 (p.n 34), .int .i64 (p.n 35), .int .i64 (p.n 36), .int .i64 (p.n 37), .int .i64 (p.n 38), .int .i64 (p.n 39), .int .i64 (p.n 40), .int .i64 (p.n 41), .bool p.gr, .slice A43p n43p c43p, .int .i64 (p.n 44), .string p.d, .bool p.dn] : List Value).drop 7).all (·.oneCell')) = true from rfl) v hv, hi6⟩, by show (0 : Nat) ≤ _; omega, by have := hs.body; show p.body.size ≤ _; unfold maxLen; omega,
  ⟨_, _, _, rfl, by unfold maxLen; omega⟩, ⟨_, _, _, rfl, by unfold maxLen; omega⟩, ⟨p.d, rfl, by have := hs.d; unfold maxLen; omega⟩⟩
 refine ⟨[x], some ⟨g, 0, none⟩, 1, rfl, Nat.le_refl _, by unfold maxLen; omega, fun y hy => by rw [List.mem_singleton.1 hy]; exact hok, fun _ => ⟨g, 0, rfl, hB.lt, fun i hi => ?_⟩⟩
 have hi0 : i = 0 := by simpa using hi
 subst hi0
 intro j v hj
 have hc := hB.cell j
 rw [List.getElem?_toArray] at hc
 simp only [Nat.zero_mul, Nat.add_zero, Nat.zero_add]
 rw [hc]
 exact hj
set_option maxHeartbeats 16000000 in
theorem walkClientCodes (W : World) (v : Value) (cs : List Value) (p : PM) (hv : v = .agg cs.toArray) (hV : MsgV W cs p) (hs : Sm p) : Calls Try.prog 7 #[v] W fun e w' => e = .returned (.bool true) ∧ Below W.heap.size W w' := by
 subst hv
 have HBO := hide (op_built hV)
 have HSL := hide (op_slice hV)
 have HV := hide hV;have HSM := hide hs;have HLEN := hide hV.len
 have HMM := hide (hV.toM hs)
 obtain ⟨A32, n32, c32, s32, -⟩ := hV.S 32 (by decide)
 obtain ⟨A11, n11, c11, s11, -⟩ := hV.S 11 (by decide)
 have HC32 := hide s32;have HC11 := hide s11
 have HO := hide (Own.nil W [] (by simp))
 clear hV hs s32 s11
 go_enter Try.func7, Try.ntmps7
 try simp only [List.append_eq, List.cons_append, List.nil_append]
 go_wp2_with (first
  | ((with_reducible refine at_box 41 (.tmp 0) ?_); refine wpList_box_own HO.out rfl 41 (.tmp 0) rfl cs rfl ?_; intro WA b1 hO; replace HO := hide hO; clear hO)
  | ((with_reducible refine at_load 41 (.tmp 1) ?_); refine wpList_load_own_gq HO.out rfl 41 (.tmp 1) rfl 0 _ 0 47 _ _ (cs : List Value) _ rfl (take_all HLEN.out) rfl Try.underlying41 rfl (msg_sizeE HLEN.out) ?_)
  | ((with_reducible refine at_build 43 ?_); refine wpList_build rfl 43 _ rfl ([(5, .agg cs.toArray)]) (by first | (simp [Act.eval]; done) | (simp [Act.eval]; rfl)) (opc cs).toArray HBO.out ?_)
  | ((with_reducible refine at_sliceV 26 1 _ ?_); refine wpList_slice_own HO.out rfl 26 43 1 #[(0, .tmp 7)] rfl Try.underlying26 (opc cs) (by simp only [List.map_toArray, List.map_cons, List.map_nil]; exact HSL.out) ?_; intro WB bs hO; replace HO := hide hO; clear hO)
  | fail)
 obtain ⟨ol, hol⟩ := op_in HV.out HSM.out (HO.out.blk 1 rfl)
 refine (few_c _ ol 1 _ hol).mono ?_
 rintro e w1 ⟨x, rfl, -, hb1⟩
 replace HO := hide ((HO.out.step hb1).one 0 rfl)
 clear hb1 hol HBO HSL;have k32 := HO.out.k0 HC32.out;have k11 := HO.out.k0 HC11.out
 cases x with
 | false =>
  go_wp2_with fail
  refine (awake_c _).mono ?_
  rintro e w9 ⟨rfl, hb9⟩
  replace HO := hide (HO.out.step hb9)
  clear hb9
  go_wp2_with fail
  go_ret
  exact ⟨rfl, HO.out.below⟩
 | true =>
  cases q1 : decide ((20 : Int) < (n32 : Int)) with
  | true =>
   have q1' := of_decide_eq_true q1
   go_wp2_with fail
   refine (awake_c _).mono ?_
   rintro e w9 ⟨rfl, hb9⟩
   replace HO := hide (HO.out.step hb9)
   clear hb9
   go_wp2_with fail
   go_ret
   exact ⟨rfl, HO.out.below⟩
  | false =>
   have q1' := of_decide_eq_false q1
   cases q2 : decide ((20 : Int) < (n11 : Int)) with
   | true =>
    have q2' := of_decide_eq_true q2
    go_wp2_with fail
    refine (awake_c _).mono ?_
    rintro e w9 ⟨rfl, hb9⟩
    replace HO := hide (HO.out.step hb9)
    clear hb9
    go_wp2_with fail
    go_ret
    exact ⟨rfl, HO.out.below⟩
   | false =>
    have q2' := of_decide_eq_false q2
    go_wp2_with (first
     | ((with_reducible refine at_load 41 (.tmp 1) ?_); refine wpList_load_own_gq HO.out rfl 41 (.tmp 1) rfl 0 _ 0 47 _ _ (cs : List Value) _ rfl (take_all HLEN.out) rfl Try.underlying41 rfl (msg_sizeE HLEN.out) ?_)
     | fail)
    refine (encode_c cs p.li p.l _ ((HMM.out.below HO.out.below).mono HO.out.below.size)).mono ?_
    rintro e w4 ⟨rfl, hb4⟩
    replace HO := hide (HO.out.step hb4)
    clear hb4 k32 k11 q1 q1' q2 q2';have kA := HO.out.cells 0 rfl
    cases hvb : validP cs (p.li 33) with
    | false =>
     have HVB := hide hvb
     have hes : encP cs p.li p.l = ⟨#[]⟩ := by unfold encP; rw [hvb]; rfl
     rw [hes]
     clear hes hvb
     go_wp2_with fail
     refine wp_region_held_drew (S := fun W => (∀ j, W.cell? ⟨b1, j, none⟩ = cs[j]?)) (by kernel_rfl) (kA) (fun hS0 => ?_)
     replace HO := hide HO.out.drew
     refine ty 0 (.agg cs.toArray) rfl (yieldsIf_load rfl 41 (.tmp 1) rfl b1 0 47 41 cs cs _ (fun w hw => hw) (take_all HLEN.out) rfl Try.underlying41 rfl (msg_sizeE HLEN.out)) ?_
     refine ty 2 (.agg cs.toArray) rfl (yieldsIf_load rfl 41 (.tmp 1) rfl b1 0 47 41 cs cs _ (fun w hw => hw) (take_all HLEN.out) rfl Try.underlying41 rfl (msg_sizeE HLEN.out)) ?_
     refine tr1 1 fun K hK => ?_
     go_simp
     have HM1 := hide ((HMM.out.below HO.out.below).mono HO.out.below.size)
     refine (valid_c cs (p.li 33) _ HM1.out.T (HM1.out.S 33 (by decide))).mono ?_
     rintro e w5 ⟨rfl, hb5⟩
     rw [HVB.out]
     replace HO := hide (HO.out.step hb5)
     clear hb5 kA;have kA := HO.out.cells 0 rfl
     refine hK.out _ _ (kA) (fun hS2 => ?_)
     clear hK K
     try simp only [Act.put, qa, qb, qc, qd, qe, qf]
     refine tr1 3 fun K hK => ?_
     go_simp
     refine (refValid_c cs p _ (HV.out.step HO.out.below)).mono ?_
     rintro e w6 ⟨hb6, x, rfl, hx⟩
     obtain rfl : x = false := (by cases x with | false => rfl | true => have := hx.1 rfl; rw [HVB.out] at this; cases this)
     clear hx
     replace HO := hide (HO.out.step hb6)
     clear hb6 kA;have kA := HO.out.cells 0 rfl
     refine hK.out _ _ (kA) (fun hS3 => ?_)
     clear hK K
     try simp only [Act.put, qa, qb, qc, qd, qe, qf]
     refine tk 4 ?_
     refine wpAnyH_done (by kernel_rfl) ?_ _
     clear hS0;clear kA
     go_wp2_with (first
      | ((with_reducible refine at_load 41 (.tmp 1) ?_); refine wpList_load_own_gq HO.out rfl 41 (.tmp 1) rfl 0 _ 0 47 _ _ (cs : List Value) _ rfl (take_all HLEN.out) rfl Try.underlying41 rfl (msg_sizeE HLEN.out) ?_)
      | fail)
     refine (refValid_c cs p _ (HV.out.step HO.out.below)).mono ?_
     rintro e w7 ⟨hb7, x, rfl, hx⟩
     obtain rfl : x = false := (by cases x with | false => rfl | true => have := hx.1 rfl; rw [HVB.out] at this; cases this)
     clear hx
     replace HO := hide (HO.out.step hb7)
     clear hb7
     go_wp2_with fail
     refine (awake_c _).mono ?_
     rintro e w9 ⟨rfl, hb9⟩
     replace HO := hide (HO.out.step hb9)
     clear hb9
     go_wp2_with fail
     go_ret
     exact ⟨rfl, HO.out.below⟩
    | true =>
     have HVB := hide hvb
     obtain ⟨q, hsq, hdq, hz1, hz2⟩ := codes_plain HV.out HSM.out hvb
     have HSQ := hide hsq;have HDQ := hide hdq;have HZ1 := hide hz1;have HZ2 := hide hz2
     obtain ⟨es, hes⟩ : ∃ x, encP cs p.li p.l = x := ⟨_, rfl⟩
     rw [hes] at HDQ HZ1 HZ2
     have HES := hide hes
     rw [hes]
     clear hsq hdq hz1 hz2 hes hvb
     go_wp2_with fail
     refine wp_region_held_drew (S := fun W => (∀ j, W.cell? ⟨b1, j, none⟩ = cs[j]?)) (by kernel_rfl) (kA) (fun hS0 => ?_)
     replace HO := hide HO.out.drew
     refine ty 0 (.agg cs.toArray) rfl (yieldsIf_load rfl 41 (.tmp 1) rfl b1 0 47 41 cs cs _ (fun w hw => hw) (take_all HLEN.out) rfl Try.underlying41 rfl (msg_sizeE HLEN.out)) ?_
     refine ty 2 (.agg cs.toArray) rfl (yieldsIf_load rfl 41 (.tmp 1) rfl b1 0 47 41 cs cs _ (fun w hw => hw) (take_all HLEN.out) rfl Try.underlying41 rfl (msg_sizeE HLEN.out)) ?_
     refine tr1 1 fun K hK => ?_
     go_simp
     have HM1 := hide ((HMM.out.below HO.out.below).mono HO.out.below.size)
     refine (valid_c cs (p.li 33) _ HM1.out.T (HM1.out.S 33 (by decide))).mono ?_
     rintro e w5 ⟨rfl, hb5⟩
     rw [HVB.out]
     replace HO := hide (HO.out.step hb5)
     clear hb5 kA;have kA := HO.out.cells 0 rfl
     refine hK.out _ _ (kA) (fun hS2 => ?_)
     clear hK K
     try simp only [Act.put, qa, qb, qc, qd, qe, qf]
     refine tr1 3 fun K hK => ?_
     go_simp
     refine (refValid_c cs p _ (HV.out.step HO.out.below)).mono ?_
     rintro e w6 ⟨hb6, x, rfl, hx⟩
     obtain rfl : x = true := (hx.2 HVB.out)
     clear hx
     replace HO := hide (HO.out.step hb6)
     clear hb6 kA;have kA := HO.out.cells 0 rfl
     refine hK.out _ _ (kA) (fun hS3 => ?_)
     clear hK K
     try simp only [Act.put, qa, qb, qc, qd, qe, qf]
     refine tk 4 ?_
     refine wpAnyH_done (by kernel_rfl) ?_ _
     clear hS0;clear kA
     go_wp2_with (first
      | ((with_reducible refine at_load 41 (.tmp 1) ?_); refine wpList_load_own_gq HO.out rfl 41 (.tmp 1) rfl 0 _ 0 47 _ _ (cs : List Value) _ rfl (take_all HLEN.out) rfl Try.underlying41 rfl (msg_sizeE HLEN.out) ?_)
      | fail)
     refine (refValid_c cs p _ (HV.out.step HO.out.below)).mono ?_
     rintro e w7 ⟨hb7, x, rfl, hx⟩
     obtain rfl : x = true := (hx.2 HVB.out)
     clear hx
     replace HO := hide (HO.out.step hb7)
     clear hb7
     go_wp2_with fail
     refine (decode_c es _ HZ1.out (by rw [HDQ.out]; exact HSM.out.sz.same HSQ.out)).mono ?_
     rintro e w8 ⟨hb8, ds, A0, hM, hr⟩
     rw [HDQ.out] at hM
     have hV8 := hM.toV (by rw [← HSQ.out.l]; exact HSM.out.ok)
     have htk : Takes es ds := ⟨by rw [HDQ.out]; rfl, HZ2.out, by rw [HDQ.out]; exact (encP_same HV.out hV8 HSQ.out).trans HES.out⟩
     obtain rfl : e = .returned (.tuple #[.agg ds.toArray, .int .i64 0]) := by
      rcases hr with ⟨_, h⟩ | ⟨h, _⟩
      ·exact h
      ·exact absurd htk h
     have HON := hide hM.ones;have HLD := hide hM.len;have HV8 := hide hV8
     replace HO := hide (HO.out.step hb8)
     have HP := hide (Own.nil w8 [] (by simp))
     clear hb8 hM hr hV8 htk
     go_wp2_with (first
      | ((with_reducible refine at_alloc 41 ?_); refine wpList_alloc_own HP.out rfl 41 rfl zmsgI zmsgI_info ?_; intro WC bx hO; replace HP := hide hO; clear hO)
      | ((with_reducible refine at_store 41 (.tmp 4) ?_); refine wpList_store_own HP.out rfl 41 (.tmp 4) (.tmp 44) rfl 0 _ 0 _ _ ds ds rfl (.agg ds.toArray) rfl rfl (fits_agg _) (by rw [zmsgI_len, HLD.out]; exact Nat.le_refl _) (splice_all (by rw [zmsgI_len, HLD.out])) (msg_sizeE HLD.out) HON.out ?_; intro WD hO; replace HP := hide hO; clear hO; replace HO := hide (HO.out.step HP.out.below))
      | ((with_reducible refine at_load 41 (.tmp 1) ?_); refine wpList_load_own_gq HO.out rfl 41 (.tmp 1) rfl 0 _ 0 47 _ _ (cs : List Value) _ rfl (take_all HLEN.out) rfl Try.underlying41 rfl (msg_sizeE HLEN.out) ?_)
      | ((with_reducible refine at_load 41 (.tmp 4) ?_); refine wpList_load_own_gq HP.out rfl 41 (.tmp 4) rfl 0 _ 0 47 _ _ (ds : List Value) _ rfl (take_all HLD.out) rfl Try.underlying41 rfl (msg_sizeE HLD.out) ?_)
      | fail)
     refine (same_c cs ds p q _ (HV.out.step HO.out.below) (HV8.out.step HP.out.below)).mono ?_
     rintro e w9 ⟨hb9, x, rfl, hx⟩
     obtain rfl : x = true := hx.2 HSQ.out
     clear hx
     replace HO := hide (HO.out.step hb9)
     clear hb9 HP
     go_wp2_with fail
     refine (awake_c _).mono ?_
     rintro e w9 ⟨rfl, hb9⟩
     replace HO := hide (HO.out.step hb9)
     clear hb9
     go_wp2_with fail
     go_ret
     exact ⟨rfl, HO.out.below⟩
end Go.Proofs.Ytpbgelhjbfckcaa
