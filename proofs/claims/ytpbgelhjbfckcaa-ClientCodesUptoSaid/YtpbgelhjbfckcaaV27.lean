/- The reference's Valid. -/
import Derived.Test.YtpbgelhjbfckcaaV25
namespace Go.Proofs.Ytpbgelhjbfckcaa
set_option maxRecDepth 100000
set_option linter.unusedVariables false
set_option linter.unusedSimpArgs false
open List renaming getElem_toArray → qa, getElem_cons_zero → qb, getElem_cons_succ → qc, setIfInBounds_toArray → qd, set_cons_zero → qe, set_cons_succ → qf
open Go.ChangeShapes Go.WideShapes Go.ChangeAt Go.RowKit
def uPM2 (p : PM) : PM := ⟨fun o => if o ∈ [0, 1, 2, 3, 4, 6] then p.n o else 0, fun o => if o ∈ [] then p.li o else [], p.body, false, false, ⟨#[]⟩, []⟩
theorem us2_msg (p : PM)  (w : World) (cs : List Value) (hp : MsgV w cs p) (hk : p.n 0 = 2)  : MsgV w ([.int .i64 2, .int .i64 (p.n 1), .int .i64 (p.n 2), .int .i64 (p.n 3), .int .i64 (p.n 4), .string p.body, .int .i64 (p.n 6), zi, zi, zi, zi, zl, zl, zi, zi, zi, zi, zi, zi, zi, zi, zi, zi, zi, zi, zi, zl, zl, zl, zl, zl, zl, zl, zl, zi, zi, zi, zi, zi, zi, zi, zi, zb0, zl, zi, zs, zb0]) (uPM2 p) := by
 refine ⟨rfl, fun o ho => ?_, fun o ho => ?_, rfl, rfl, rfl, rfl, ⟨_, _, _, rfl, (EsAB.nil _ 0).ens (by intro x hx; cases hx)⟩⟩
 ·simp only [iOffs, List.mem_cons, List.not_mem_nil, or_false] at ho
  rcases ho with rfl | rfl | rfl | rfl | rfl | rfl | rfl | rfl | rfl | rfl | rfl | rfl | rfl | rfl | rfl | rfl | rfl | rfl | rfl | rfl | rfl | rfl | rfl | rfl | rfl | rfl | rfl | rfl | rfl | rfl | rfl | rfl
  ·exact ⟨by show some (Value.int .i64 2) = some (.int .i64 (p.n 0)); rw [hk], (hp.N 0 (by decide)).2⟩
  all_goals first | exact ⟨rfl, (⟨by decide, by decide⟩ : I64 0)⟩ | exact ⟨rfl, (hp.N _ (by decide)).2⟩
 ·simp only [lOffs, List.mem_cons, List.not_mem_nil, or_false] at ho
  rcases ho with rfl | rfl | rfl | rfl | rfl | rfl | rfl | rfl | rfl | rfl
  all_goals first | exact ⟨_, _, _, rfl, Li.nil _⟩
set_option maxHeartbeats 16000000 in
theorem refV2_c (cs : List Value) (p : PM) (w : World) (hp : MsgV w cs p) (hk : p.n 0 = 2) : Calls Try.prog 23 #[.agg cs.toArray] w (SameR w (SameP (uPM2 p) p ∧ (1 ≤ p.n 2 ∧ p.n 2 ≤ 8 ∧ 1 ≤ p.n 3) ∧ incr (p.li 33) = true ∧ (0 ≤ p.n 1 ∧ p.n 1 ≤ 8 ∧ 0 ≤ p.n 4 ∧ p.n 4 ≤ 17 ∧ p.body.size ≤ 4096 ∧ 0 ≤ p.n 6))) := by
 obtain ⟨A11p, n11p, c11p, A12p, n12p, c12p, A26p, n26p, c26p, A27p, n27p, c27p, A28p, n28p, c28p, A29p, n29p, c29p, A30p, n30p, c30p, A31p, n31p, c31p, A32p, n32p, c32p, A33p, n33p, c33p, A43p, n43p, c43p, ep, l11p, l12p, l26p, l27p, l28p, l29p, l30p, l31p, l32p, l33p, l43p⟩ := hp.lit
 have HUS := hide (us2_msg p w cs hp hk )
 have HPV := hide hp;have HLEN := hide hp.len;have H33 := hide l33p
 have hnc : n33p ≤ 9223372036854775807 := by
  obtain ⟨_, _, _, e, _, h1, h2⟩ := l33p.form
  injection e with _ e _
  omega
 have HN33 : Hid (n33p = (p.li 33).length) := hide (by
  obtain ⟨_, _, _, e, h1, _⟩ := l33p.form
  injection e with _ e _
  rw [e]; exact h1.out)
 have HC0 : Hid (cs[0]? = some (.int .i64 2)) := hide (by rw [ep]; exact congrArg (fun x => some (Value.int .i64 x)) hk)
 have HC1 : Hid (cs[1]? = some (.int .i64 (p.n 1))) := hide (by rw [ep]; rfl)
 have HC2 : Hid (cs[2]? = some (.int .i64 (p.n 2))) := hide (by rw [ep]; rfl)
 have HC3 : Hid (cs[3]? = some (.int .i64 (p.n 3))) := hide (by rw [ep]; rfl)
 have HC4 : Hid (cs[4]? = some (.int .i64 (p.n 4))) := hide (by rw [ep]; rfl)
 have HC5 : Hid (cs[5]? = some (.string p.body)) := hide (by rw [ep]; rfl)
 have HC6 : Hid (cs[6]? = some (.int .i64 (p.n 6))) := hide (by rw [ep]; rfl)
 have HC7 : Hid (cs[7]? = some (.int .i64 (p.n 7))) := hide (by rw [ep]; rfl)
 have HC8 : Hid (cs[8]? = some (.int .i64 (p.n 8))) := hide (by rw [ep]; rfl)
 have HC13 : Hid (cs[13]? = some (.int .i64 (p.n 13))) := hide (by rw [ep]; rfl)
 have HC14 : Hid (cs[14]? = some (.int .i64 (p.n 14))) := hide (by rw [ep]; rfl)
 have HC15 : Hid (cs[15]? = some (.int .i64 (p.n 15))) := hide (by rw [ep]; rfl)
 have HC33 : Hid (cs[33]? = some (.slice A33p n33p c33p)) := hide (by rw [ep]; rfl)
 have HO := hide (Own.nil w [] (by simp))
 clear ep l11p l12p l26p l27p l28p l29p l30p l31p l32p l33p l43p hp hk
 go_enter Try.func23, Try.ntmps23
 try simp only [List.append_eq, List.cons_append, List.nil_append]
 go_wp2_with (first
  | ((with_reducible refine at_box 41 (.tmp 0) ?_); refine wpList_box_own HO.out rfl 41 (.tmp 0) rfl cs rfl ?_; intro WA b1 hO; replace HO := hide hO; clear hO)
  | ((with_reducible refine at_load 41 (.tmp 1) ?_); refine wpList_load_own_gq HO.out rfl 41 (.tmp 1) rfl 0 _ 0 47 _ _ (cs : List Value) _ rfl (take_all HLEN.out) rfl Try.underlying41 rfl (msg_sizeE HLEN.out) ?_)
  | fail)
 refine (used2_c cs p  _ HLEN.out HC0.out HC1.out HC2.out HC3.out HC4.out HC5.out HC6.out).mono ?_
 rintro e w1 ⟨hb1, rfl⟩
 replace HO := hide (HO.out.step hb1)
 clear hb1
 go_wp2_with (first
  | ((with_reducible refine at_alloc 41 ?_); refine wpList_alloc_own HO.out rfl 41 rfl zmsgI zmsgI_info ?_; intro WB bx hO; replace HO := hide hO; clear hO)
  | ((with_reducible refine at_store 41 (.tmp 3) ?_); refine wpList_store_own HO.out rfl 41 (.tmp 3) (.tmp 9) rfl 1 _ 0 _ _ ([.int .i64 2, .int .i64 (p.n 1), .int .i64 (p.n 2), .int .i64 (p.n 3), .int .i64 (p.n 4), .string p.body, .int .i64 (p.n 6), zi, zi, zi, zi, zl, zl, zi, zi, zi, zi, zi, zi, zi, zi, zi, zi, zi, zi, zi, zl, zl, zl, zl, zl, zl, zl, zl, zi, zi, zi, zi, zi, zi, zi, zi, zb0, zl, zi, zs, zb0]) ([.int .i64 2, .int .i64 (p.n 1), .int .i64 (p.n 2), .int .i64 (p.n 3), .int .i64 (p.n 4), .string p.body, .int .i64 (p.n 6), zi, zi, zi, zi, zl, zl, zi, zi, zi, zi, zi, zi, zi, zi, zi, zi, zi, zi, zi, zl, zl, zl, zl, zl, zl, zl, zl, zi, zi, zi, zi, zi, zi, zi, zi, zb0, zl, zi, zs, zb0]) rfl (.agg ([.int .i64 2, .int .i64 (p.n 1), .int .i64 (p.n 2), .int .i64 (p.n 3), .int .i64 (p.n 4), .string p.body, .int .i64 (p.n 6), zi, zi, zi, zi, zl, zl, zi, zi, zi, zi, zi, zi, zi, zi, zi, zi, zi, zi, zi, zl, zl, zl, zl, zl, zl, zl, zl, zi, zi, zi, zi, zi, zi, zi, zi, zb0, zl, zi, zs, zb0] : List Value).toArray) rfl rfl (fits_agg _) (by rw [zmsgI_len]; exact Nat.le_refl _) (splice_all (by rw [zmsgI_len]; rfl)) (by kernel_rfl) rfl ?_; intro WC hO; replace HO := hide hO; clear hO)
  | ((with_reducible refine at_load 41 (.tmp 3) ?_); refine wpList_load_own_gq HO.out rfl 41 (.tmp 3) rfl 1 _ 0 47 _ _ ([.int .i64 2, .int .i64 (p.n 1), .int .i64 (p.n 2), .int .i64 (p.n 3), .int .i64 (p.n 4), .string p.body, .int .i64 (p.n 6), zi, zi, zi, zi, zl, zl, zi, zi, zi, zi, zi, zi, zi, zi, zi, zi, zi, zi, zi, zl, zl, zl, zl, zl, zl, zl, zl, zi, zi, zi, zi, zi, zi, zi, zi, zb0, zl, zi, zs, zb0] : List Value) _ rfl rfl rfl Try.underlying41 rfl (msg_sizeE rfl) ?_)
  | ((with_reducible refine at_load 41 (.tmp 1) ?_); refine wpList_load_own_gq HO.out rfl 41 (.tmp 1) rfl 0 _ 0 47 _ _ (cs : List Value) _ rfl (take_all HLEN.out) rfl Try.underlying41 rfl (msg_sizeE HLEN.out) ?_)
  | fail)
 refine (same_c _ cs (uPM2 p) p _ (HUS.out.step HO.out.below) (HPV.out.step HO.out.below)).mono ?_
 rintro e w2 ⟨hb2, x, rfl, hx⟩
 replace HO := hide ((HO.out.step hb2).one 0 rfl)
 have HX := hide hx;clear hb2 hx;have k0 := HO.out.k0 HC0.out;have k1 := HO.out.k0 HC1.out;have k2 := HO.out.k0 HC2.out;have k3 := HO.out.k0 HC3.out;have k4 := HO.out.k0 HC4.out;have k5 := HO.out.k0 HC5.out;have k6 := HO.out.k0 HC6.out;have k7 := HO.out.k0 HC7.out;have k8 := HO.out.k0 HC8.out;have k13 := HO.out.k0 HC13.out;have k14 := HO.out.k0 HC14.out;have k15 := HO.out.k0 HC15.out;have k33 := HO.out.k0 HC33.out
 cases x with
 | false =>
  go_wp2_with fail
  go_ret
  exact ⟨HO.out.below, false, rfl, nof (fun h => absurd h.1 (by simpa using HX.out))⟩
 | true =>
  have HS := hide (HX.out.1 rfl)
  clear HX
  cases f0 : decide (p.n 2 < 1) with
  | true =>
   have HF := hide (of_decide_eq_true f0)
   go_wp2_with fail
   go_ret
   exact ⟨HO.out.below, false, rfl, nof (fun h => by have h1 := h.2.1; have h2 := HF.out; omega)⟩
  | false =>
   have HF0 := hide (of_decide_eq_false f0)
   cases f1 : decide (8 < p.n 2) with
   | true =>
    have HF := hide (of_decide_eq_true f1)
    go_wp2_with fail
    go_ret
    exact ⟨HO.out.below, false, rfl, nof (fun h => by have h1 := h.2.1; have h2 := HF.out; omega)⟩
   | false =>
    have HF1 := hide (of_decide_eq_false f1)
    cases f2 : decide (p.n 3 < 1) with
    | true =>
     have HF := hide (of_decide_eq_true f2)
     go_wp2_with fail
     go_ret
     exact ⟨HO.out.below, false, rfl, nof (fun h => by have h1 := h.2.1; have h2 := HF.out; omega)⟩
    | false =>
     have HF2 := hide (of_decide_eq_false f2)
     go_wp2_with fail
     go_loopw [5] (fun v5 wr => ∃ j : Nat, v5 = .int .i64 j ∧ j ≤ n33p ∧ Own w [] [(b1, 41, cs)] wr ∧ ∀ i, i < j → incAt (p.li 33) i = true) (fun v5 _ => n33p - (intOf v5).toNat)
     case atStart => exact ⟨0, rfl, Nat.zero_le _, HO.out, by intro i hi; omega⟩
     case round =>
      obtain ⟨j, rfl, hj, hown, hz⟩ := hrel
      clear k0 k1 k2 k3 k4 k5 k6 k7 k8 k13 k14 k15 k33
      replace HO := hide hown
      clear hown
      by_cases hlt : j < n33p
      ·have hkl : j < (p.li 33).length := by rw [← HN33.out]; exact hlt
       have HL33 := hide (Li.step H33.out HO.out.below)
       obtain ⟨g, o, rfl, hc⟩ := HL33.out.at_ j hkl
       have k0 := HO.out.k0 HC0.out;have k1 := HO.out.k0 HC1.out;have k2 := HO.out.k0 HC2.out;have k3 := HO.out.k0 HC3.out;have k4 := HO.out.k0 HC4.out;have k5 := HO.out.k0 HC5.out;have k6 := HO.out.k0 HC6.out;have k7 := HO.out.k0 HC7.out;have k8 := HO.out.k0 HC8.out;have k13 := HO.out.k0 HC13.out;have k14 := HO.out.k0 HC14.out;have k15 := HO.out.k0 HC15.out;have k33 := HO.out.k0 HC33.out;have hcp := hc j hkl
       have hcq : 0 < j → wr.cell? ⟨g, o + (j - 1), none⟩ = some (.int .i64 ((p.li 33).getD (j - 1) 0)) := fun h0 => by
        rw [hc (j - 1) (by omega)]; simp [show j - 1 < (p.li 33).length by omega]
       have hki : (j : Int) < (n33p : Int) := by omega
       have HLT := hide hlt
       have hg : (p.li 33)[j] = (p.li 33).getD j 0 := by simp [hkl]
       rw [hg] at hcp
       have HI : Hid (incAt (p.li 33) j = !(decide ((p.li 33).getD j 0 < 1) || decide (16 < (p.li 33).getD j 0) || decide (0 < j) && decide ((p.li 33).getD j 0 ≤ (p.li 33).getD (j - 1) 0))) := hide rfl
       have HF_ : Hid (incAt (p.li 33) j = false → ¬ incr (p.li 33) = true) := hide (fun h e => by rw [incr_false hkl h] at e; cases e)
       have HZ : Hid (incAt (p.li 33) j = true → ∀ i, i < j + 1 → incAt (p.li 33) i = true) := hide (fun h i hi => by
        rcases Nat.lt_or_ge i j with h1 | h1
        ·exact hz i h1
        ·obtain rfl : i = j := by omega
         exact h)
       clear hc hg hz hkl hlt HL33
       generalize (p.li 33).getD j 0 = x at *
       generalize (p.li 33).getD (j - 1) 0 = y at *
       cases q1 : decide (x < 1) with
       | true =>
        have HR : Hid (¬ incr (p.li 33) = true) := hide (HF_.out (by rw [HI.out, q1]; rfl))
        clear HI HF_ HZ hcq
        go_wp2_with fail
        refine wp_region_held_drew (S := fun W => W.cell? ⟨b1, 33, none⟩ = some (.slice (some ⟨g, o, none⟩) n33p c33p) ∧ W.cell? ⟨g, o + j, none⟩ = some (.int .i64 x)) (by kernel_rfl) (⟨k33, hcp⟩) (fun hS0 => ?_)
        refine tk 0 ?_;refine tk 1 ?_;refine tk 2 ?_;refine tk 3 ?_;refine tk 4 ?_;refine tk 5 ?_;refine tk 6 ?_;refine tu 7 ?_;refine tu 8 ?_;refine tu 9 ?_;refine tu 10 ?_;refine tu 11 ?_;refine tu 12 ?_;refine tk 13 ?_;refine tk 14 ?_;refine tu 15 ?_;refine tu 16 ?_;refine tu 17 ?_;refine tu 18 ?_;refine tu 19 ?_;refine tu 20 ?_;refine tu 21 ?_;refine tu 22 ?_;refine tu 23 ?_;refine tu 24 ?_;refine tu 25 ?_;refine tu 26 ?_;refine tu 27 ?_;refine tu 28 ?_;refine tu 29 ?_;refine tu 30 ?_;refine tk 31 ?_
        refine wpAnyH_done (by kernel_rfl) ?_ _
        clear hS0
        go_wp2_with fail
        go_ret
        exact ⟨HO.out.drew.below, false, rfl, nof (fun h => absurd h.2.2.1 HR.out)⟩
       | false =>
        cases q2 : decide (16 < x) with
        | true =>
         have HR : Hid (¬ incr (p.li 33) = true) := hide (HF_.out (by rw [HI.out, q1, q2]; rfl))
         clear HI HF_ HZ hcq
         go_wp2_with fail
         refine wp_region_held_drew (S := fun W => W.cell? ⟨b1, 33, none⟩ = some (.slice (some ⟨g, o, none⟩) n33p c33p) ∧ W.cell? ⟨g, o + j, none⟩ = some (.int .i64 x)) (by kernel_rfl) (⟨k33, hcp⟩) (fun hS0 => ?_)
         refine tk 0 ?_;refine tk 1 ?_;refine tk 2 ?_;refine tk 3 ?_;refine tk 4 ?_;refine tk 5 ?_;refine tk 6 ?_;refine tk 7 ?_;refine tk 8 ?_;refine tk 9 ?_;refine tk 10 ?_;refine tk 11 ?_;refine tk 12 ?_;refine tk 13 ?_;refine tk 14 ?_;refine tu 15 ?_;refine tu 16 ?_;refine tu 17 ?_;refine tu 18 ?_;refine tu 19 ?_;refine tu 20 ?_;refine tu 21 ?_;refine tu 22 ?_;refine tu 23 ?_;refine tu 24 ?_;refine tu 25 ?_;refine tu 26 ?_;refine tu 27 ?_;refine tu 28 ?_;refine tu 29 ?_;refine tu 30 ?_;refine tk 31 ?_
         refine wpAnyH_done (by kernel_rfl) ?_ _
         clear hS0
         go_wp2_with fail
         go_ret
         exact ⟨HO.out.drew.below, false, rfl, nof (fun h => absurd h.2.2.1 HR.out)⟩
        | false =>
         by_cases h0 : 0 < j
         ·have hcr := hcq h0
          obtain ⟨j, rfl⟩ : ∃ i, j = i + 1 := ⟨j - 1, by omega⟩
          rw [show j + 1 - 1 = j by omega] at hcr
          have hj1 : ((j + 1 : Nat) : Int) - 1 = (j : Int) := by omega
          have q0 : decide ((0 : Int) < ((j + 1 : Nat) : Int)) = true := by simp <;> omega
          have hkj : (j : Int) < (n33p : Int) := by omega
          have hj0 : (0 : Int) ≤ (j : Int) + 1 := by omega
          have hwj : IntKind.i64.wrap (j : Int) = (j : Int) := Go.IntWalk.i64_in _ (by omega)
          cases q3 : decide (x ≤ y) with
          | true =>
           have HR : Hid (¬ incr (p.li 33) = true) := hide (HF_.out (by rw [HI.out, q1, q2, q3]; simp))
           clear HI HF_ HZ hcq
           go_wp2_with fail
           refine wp_region_held_drew (S := fun W => W.cell? ⟨b1, 33, none⟩ = some (.slice (some ⟨g, o, none⟩) n33p c33p) ∧ W.cell? ⟨g, o + (j + 1), none⟩ = some (.int .i64 x) ∧ W.cell? ⟨g, o + j, none⟩ = some (.int .i64 y)) (by kernel_rfl) (⟨k33, hcp, hcr⟩) (fun hS0 => ?_)
           refine tk 0 ?_;refine tk 1 ?_;refine tk 2 ?_;refine tk 3 ?_;refine tk 4 ?_;refine tk 5 ?_;refine tk 6 ?_;refine tk 7 ?_;refine tk 8 ?_;refine tk 9 ?_;refine tk 10 ?_;refine tk 11 ?_;refine tk 12 ?_;refine tk 13 ?_;refine tk 14 ?_;refine tk 15 ?_;refine tk 16 ?_;refine tk 17 ?_;refine tk 18 ?_;refine tk 19 ?_;refine tk 20 ?_;refine tk 21 ?_;refine tk 22 ?_;refine tk 23 ?_;refine tk 24 ?_;refine tk 25 ?_;refine tk 26 ?_;refine tk 27 ?_;refine tk 28 ?_;refine tk 29 ?_;refine tk 30 ?_;refine tk 31 ?_
           refine wpAnyH_done (by kernel_rfl) ?_ _
           clear hS0
           go_wp2_with fail
           go_ret
           exact ⟨HO.out.drew.below, false, rfl, nof (fun h => absurd h.2.2.1 HR.out)⟩
          | false =>
           have HR := hide (HZ.out (by rw [HI.out, q1, q2, q3]; simp))
           clear HI HF_ HZ hcq
           go_wp2_with fail
           refine wp_region_held_drew (S := fun W => W.cell? ⟨b1, 33, none⟩ = some (.slice (some ⟨g, o, none⟩) n33p c33p) ∧ W.cell? ⟨g, o + (j + 1), none⟩ = some (.int .i64 x) ∧ W.cell? ⟨g, o + j, none⟩ = some (.int .i64 y)) (by kernel_rfl) (⟨k33, hcp, hcr⟩) (fun hS0 => ?_)
           refine tk 0 ?_;refine tk 1 ?_;refine tk 2 ?_;refine tk 3 ?_;refine tk 4 ?_;refine tk 5 ?_;refine tk 6 ?_;refine tk 7 ?_;refine tk 8 ?_;refine tk 9 ?_;refine tk 10 ?_;refine tk 11 ?_;refine tk 12 ?_;refine tk 13 ?_;refine tk 14 ?_;refine tk 15 ?_;refine tk 16 ?_;refine tk 17 ?_;refine tk 18 ?_;refine tk 19 ?_;refine tk 20 ?_;refine tk 21 ?_;refine tk 22 ?_;refine tk 23 ?_;refine tk 24 ?_;refine tk 25 ?_;refine tk 26 ?_;refine tk 27 ?_;refine tk 28 ?_;refine tk 29 ?_;refine tk 30 ?_;refine tk 31 ?_
           refine wpAnyH_done (by kernel_rfl) ?_ _
           clear hS0
           go_wp2_with fail
           go_roundw
           case rel => exact ⟨j + 1 + 1, by go_num, HLT.out, HO.out.drew, HR.out⟩
           case measure => have := HLT.out; simp [intOf]; omega
         ·obtain rfl : j = 0 := by omega
          have HR := hide (HZ.out (by rw [HI.out, q1, q2]; rfl))
          clear HI HF_ HZ hcq
          rw [Nat.add_zero] at hcp
          go_wp2_with fail
          refine wp_region_held_drew (S := fun W => W.cell? ⟨b1, 33, none⟩ = some (.slice (some ⟨g, o, none⟩) n33p c33p) ∧ W.cell? ⟨g, o, none⟩ = some (.int .i64 x)) (by kernel_rfl) (⟨k33, hcp⟩) (fun hS0 => ?_)
          refine tk 0 ?_;refine tk 1 ?_;refine tk 2 ?_;refine tk 3 ?_;refine tk 4 ?_;refine tk 5 ?_;refine tk 6 ?_;refine tk 7 ?_;refine tk 8 ?_;refine tk 9 ?_;refine tk 10 ?_;refine tk 11 ?_;refine tk 12 ?_;refine tk 13 ?_;refine tk 14 ?_;refine tk 15 ?_;refine tk 16 ?_;refine tk 17 ?_;refine tu 18 ?_;refine tu 19 ?_;refine tu 20 ?_;refine tu 21 ?_;refine tu 22 ?_;refine tu 23 ?_;refine tu 24 ?_;refine tu 25 ?_;refine tu 26 ?_;refine tu 27 ?_;refine tu 28 ?_;refine tu 29 ?_;refine tk 30 ?_;refine tk 31 ?_
          refine wpAnyH_done (by kernel_rfl) ?_ _
          clear hS0
          go_wp2_with fail
          go_roundw
          case rel => exact ⟨1, by go_num, HLT.out, HO.out.drew, HR.out⟩
          case measure => have := HLT.out; simp [intOf]; omega
      ·obtain rfl : j = n33p := by omega
       have HI : Hid (incr (p.li 33) = true) := hide (by unfold incr; rw [List.all_eq_true]; exact fun i hi => hz i (by rw [HN33.out]; exact List.mem_range.1 hi))
       clear hz hj hlt;have k0 := HO.out.k0 HC0.out;have k1 := HO.out.k0 HC1.out;have k2 := HO.out.k0 HC2.out;have k3 := HO.out.k0 HC3.out;have k4 := HO.out.k0 HC4.out;have k5 := HO.out.k0 HC5.out;have k6 := HO.out.k0 HC6.out;have k7 := HO.out.k0 HC7.out;have k8 := HO.out.k0 HC8.out;have k13 := HO.out.k0 HC13.out;have k14 := HO.out.k0 HC14.out;have k15 := HO.out.k0 HC15.out;have k33 := HO.out.k0 HC33.out
       cases e0 : decide (0 ≤ p.n 1) with
       | false =>
        have HE_ := hide (of_decide_eq_false e0)
        go_wp2_with fail
        go_ret
        exact ⟨HO.out.below, false, rfl, nof (fun h => by have h1 := h.2.2.2; have h2 := HE_.out; omega)⟩
       | true =>
        have HE0 := hide (of_decide_eq_true e0)
        cases e1 : decide (p.n 1 ≤ 8) with
        | false =>
         have HE_ := hide (of_decide_eq_false e1)
         go_wp2_with fail
         go_ret
         exact ⟨HO.out.below, false, rfl, nof (fun h => by have h1 := h.2.2.2; have h2 := HE_.out; omega)⟩
        | true =>
         have HE1 := hide (of_decide_eq_true e1)
         cases e2 : decide (0 ≤ p.n 4) with
         | false =>
          have HE_ := hide (of_decide_eq_false e2)
          go_wp2_with fail
          go_ret
          exact ⟨HO.out.below, false, rfl, nof (fun h => by have h1 := h.2.2.2; have h2 := HE_.out; omega)⟩
         | true =>
          have HE2 := hide (of_decide_eq_true e2)
          cases e3 : decide (p.n 4 ≤ 17) with
          | false =>
           have HE_ := hide (of_decide_eq_false e3)
           go_wp2_with fail
           go_ret
           exact ⟨HO.out.below, false, rfl, nof (fun h => by have h1 := h.2.2.2; have h2 := HE_.out; omega)⟩
          | true =>
           have HE3 := hide (of_decide_eq_true e3)
           cases e4 : decide ((p.body.size : Int) ≤ 4096) with
           | false =>
            have HE_ := hide (of_decide_eq_false e4)
            go_wp2_with fail
            go_ret
            exact ⟨HO.out.below, false, rfl, nof (fun h => by have h1 := h.2.2.2; have h2 := HE_.out; omega)⟩
           | true =>
            have HE4 := hide (of_decide_eq_true e4)
            cases e5 : decide (0 ≤ p.n 6) with
            | false =>
             have HE_ := hide (of_decide_eq_false e5)
             go_wp2_with fail
             go_ret
             exact ⟨HO.out.below, false, rfl, nof (fun h => by have h1 := h.2.2.2; have h2 := HE_.out; omega)⟩
            | true =>
             have HE5 := hide (of_decide_eq_true e5)
             go_wp2_with fail
             go_ret
             exact ⟨HO.out.below, true, rfl, ⟨fun _ => ⟨HS.out, (by have g0 := HF0.out; have g1 := HF1.out; have g2 := HF2.out; refine ⟨?_, ?_, ?_⟩ <;> omega), HI.out, (by have g0 := HE0.out; have g1 := HE1.out; have g2 := HE2.out; have g3 := HE3.out; have g4 := HE4.out; have g5 := HE5.out; refine ⟨?_, ?_, ?_, ?_, ?_, ?_⟩ <;> omega)⟩, fun _ => rfl⟩⟩
def uPM3 (p : PM) : PM := ⟨fun o => if o ∈ [0, 1, 7, 8, 9, 10] then p.n o else 0, fun o => if o ∈ [11, 12] then p.li o else [], ⟨#[]⟩, false, false, ⟨#[]⟩, []⟩
theorem us3_msg (p : PM) {A11p : Option Addr} {n11p c11p : Nat} {A12p : Option Addr} {n12p c12p : Nat} (w : World) (cs : List Value) (hp : MsgV w cs p) (hk : p.n 0 = 3) (l11p : Li w (.slice A11p n11p c11p) (p.li 11)) (l12p : Li w (.slice A12p n12p c12p) (p.li 12)) : MsgV w ([.int .i64 3, .int .i64 (p.n 1), zi, zi, zi, zs, zi, .int .i64 (p.n 7), .int .i64 (p.n 8), .int .i64 (p.n 9), .int .i64 (p.n 10), .slice A11p n11p c11p, .slice A12p n12p c12p, zi, zi, zi, zi, zi, zi, zi, zi, zi, zi, zi, zi, zi, zl, zl, zl, zl, zl, zl, zl, zl, zi, zi, zi, zi, zi, zi, zi, zi, zb0, zl, zi, zs, zb0]) (uPM3 p) := by
 refine ⟨rfl, fun o ho => ?_, fun o ho => ?_, rfl, rfl, rfl, rfl, ⟨_, _, _, rfl, (EsAB.nil _ 0).ens (by intro x hx; cases hx)⟩⟩
 ·simp only [iOffs, List.mem_cons, List.not_mem_nil, or_false] at ho
  rcases ho with rfl | rfl | rfl | rfl | rfl | rfl | rfl | rfl | rfl | rfl | rfl | rfl | rfl | rfl | rfl | rfl | rfl | rfl | rfl | rfl | rfl | rfl | rfl | rfl | rfl | rfl | rfl | rfl | rfl | rfl | rfl | rfl
  ·exact ⟨by show some (Value.int .i64 3) = some (.int .i64 (p.n 0)); rw [hk], (hp.N 0 (by decide)).2⟩
  all_goals first | exact ⟨rfl, (⟨by decide, by decide⟩ : I64 0)⟩ | exact ⟨rfl, (hp.N _ (by decide)).2⟩
 ·simp only [lOffs, List.mem_cons, List.not_mem_nil, or_false] at ho
  rcases ho with rfl | rfl | rfl | rfl | rfl | rfl | rfl | rfl | rfl | rfl
  all_goals first | exact ⟨_, _, _, rfl, Li.nil _⟩ | exact ⟨_, _, _, rfl, l11p⟩ | exact ⟨_, _, _, rfl, l12p⟩
set_option maxHeartbeats 16000000 in
theorem refV3_c (cs : List Value) (p : PM) (w : World) (hp : MsgV w cs p) (hk : p.n 0 = 3) : Calls Try.prog 23 #[.agg cs.toArray] w (SameR w (SameP (uPM3 p) p ∧ (1 ≤ p.n 7 ∧ 1 ≤ p.n 8) ∧ incr (p.li 33) = true ∧ (0 ≤ p.n 1 ∧ p.n 1 ≤ 8 ∧ 0 ≤ p.n 4 ∧ p.n 4 ≤ 17 ∧ p.body.size ≤ 4096 ∧ 0 ≤ p.n 6))) := by
 obtain ⟨A11p, n11p, c11p, A12p, n12p, c12p, A26p, n26p, c26p, A27p, n27p, c27p, A28p, n28p, c28p, A29p, n29p, c29p, A30p, n30p, c30p, A31p, n31p, c31p, A32p, n32p, c32p, A33p, n33p, c33p, A43p, n43p, c43p, ep, l11p, l12p, l26p, l27p, l28p, l29p, l30p, l31p, l32p, l33p, l43p⟩ := hp.lit
 have HUS := hide (us3_msg p w cs hp hk l11p l12p)
 have HPV := hide hp;have HLEN := hide hp.len;have H33 := hide l33p
 have hnc : n33p ≤ 9223372036854775807 := by
  obtain ⟨_, _, _, e, _, h1, h2⟩ := l33p.form
  injection e with _ e _
  omega
 have HN33 : Hid (n33p = (p.li 33).length) := hide (by
  obtain ⟨_, _, _, e, h1, _⟩ := l33p.form
  injection e with _ e _
  rw [e]; exact h1.out)
 have HC0 : Hid (cs[0]? = some (.int .i64 3)) := hide (by rw [ep]; exact congrArg (fun x => some (Value.int .i64 x)) hk)
 have HC1 : Hid (cs[1]? = some (.int .i64 (p.n 1))) := hide (by rw [ep]; rfl)
 have HC2 : Hid (cs[2]? = some (.int .i64 (p.n 2))) := hide (by rw [ep]; rfl)
 have HC3 : Hid (cs[3]? = some (.int .i64 (p.n 3))) := hide (by rw [ep]; rfl)
 have HC4 : Hid (cs[4]? = some (.int .i64 (p.n 4))) := hide (by rw [ep]; rfl)
 have HC5 : Hid (cs[5]? = some (.string p.body)) := hide (by rw [ep]; rfl)
 have HC6 : Hid (cs[6]? = some (.int .i64 (p.n 6))) := hide (by rw [ep]; rfl)
 have HC7 : Hid (cs[7]? = some (.int .i64 (p.n 7))) := hide (by rw [ep]; rfl)
 have HC8 : Hid (cs[8]? = some (.int .i64 (p.n 8))) := hide (by rw [ep]; rfl)
 have HC13 : Hid (cs[13]? = some (.int .i64 (p.n 13))) := hide (by rw [ep]; rfl)
 have HC14 : Hid (cs[14]? = some (.int .i64 (p.n 14))) := hide (by rw [ep]; rfl)
 have HC15 : Hid (cs[15]? = some (.int .i64 (p.n 15))) := hide (by rw [ep]; rfl)
 have HC33 : Hid (cs[33]? = some (.slice A33p n33p c33p)) := hide (by rw [ep]; rfl)
 have HD9 : Hid ((cs.drop 9).take 4 = [.int .i64 (p.n 9), .int .i64 (p.n 10), .slice A11p n11p c11p, .slice A12p n12p c12p]) := hide (by rw [ep]; rfl)
 have HO := hide (Own.nil w [] (by simp))
 clear ep l11p l12p l26p l27p l28p l29p l30p l31p l32p l33p l43p hp hk
 go_enter Try.func23, Try.ntmps23
 try simp only [List.append_eq, List.cons_append, List.nil_append]
 go_wp2_with (first
  | ((with_reducible refine at_box 41 (.tmp 0) ?_); refine wpList_box_own HO.out rfl 41 (.tmp 0) rfl cs rfl ?_; intro WA b1 hO; replace HO := hide hO; clear hO)
  | ((with_reducible refine at_load 41 (.tmp 1) ?_); refine wpList_load_own_gq HO.out rfl 41 (.tmp 1) rfl 0 _ 0 47 _ _ (cs : List Value) _ rfl (take_all HLEN.out) rfl Try.underlying41 rfl (msg_sizeE HLEN.out) ?_)
  | fail)
 refine (used3_c cs p (A11p := A11p) (n11p := n11p) (c11p := c11p) (A12p := A12p) (n12p := n12p) (c12p := c12p) _ HLEN.out HC0.out HC1.out HC7.out HC8.out HD9.out).mono ?_
 rintro e w1 ⟨hb1, rfl⟩
 replace HO := hide (HO.out.step hb1)
 clear hb1
 go_wp2_with (first
  | ((with_reducible refine at_alloc 41 ?_); refine wpList_alloc_own HO.out rfl 41 rfl zmsgI zmsgI_info ?_; intro WB bx hO; replace HO := hide hO; clear hO)
  | ((with_reducible refine at_store 41 (.tmp 3) ?_); refine wpList_store_own HO.out rfl 41 (.tmp 3) (.tmp 9) rfl 1 _ 0 _ _ ([.int .i64 3, .int .i64 (p.n 1), zi, zi, zi, zs, zi, .int .i64 (p.n 7), .int .i64 (p.n 8), .int .i64 (p.n 9), .int .i64 (p.n 10), .slice A11p n11p c11p, .slice A12p n12p c12p, zi, zi, zi, zi, zi, zi, zi, zi, zi, zi, zi, zi, zi, zl, zl, zl, zl, zl, zl, zl, zl, zi, zi, zi, zi, zi, zi, zi, zi, zb0, zl, zi, zs, zb0]) ([.int .i64 3, .int .i64 (p.n 1), zi, zi, zi, zs, zi, .int .i64 (p.n 7), .int .i64 (p.n 8), .int .i64 (p.n 9), .int .i64 (p.n 10), .slice A11p n11p c11p, .slice A12p n12p c12p, zi, zi, zi, zi, zi, zi, zi, zi, zi, zi, zi, zi, zi, zl, zl, zl, zl, zl, zl, zl, zl, zi, zi, zi, zi, zi, zi, zi, zi, zb0, zl, zi, zs, zb0]) rfl (.agg ([.int .i64 3, .int .i64 (p.n 1), zi, zi, zi, zs, zi, .int .i64 (p.n 7), .int .i64 (p.n 8), .int .i64 (p.n 9), .int .i64 (p.n 10), .slice A11p n11p c11p, .slice A12p n12p c12p, zi, zi, zi, zi, zi, zi, zi, zi, zi, zi, zi, zi, zi, zl, zl, zl, zl, zl, zl, zl, zl, zi, zi, zi, zi, zi, zi, zi, zi, zb0, zl, zi, zs, zb0] : List Value).toArray) rfl rfl (fits_agg _) (by rw [zmsgI_len]; exact Nat.le_refl _) (splice_all (by rw [zmsgI_len]; rfl)) (by kernel_rfl) rfl ?_; intro WC hO; replace HO := hide hO; clear hO)
  | ((with_reducible refine at_load 41 (.tmp 3) ?_); refine wpList_load_own_gq HO.out rfl 41 (.tmp 3) rfl 1 _ 0 47 _ _ ([.int .i64 3, .int .i64 (p.n 1), zi, zi, zi, zs, zi, .int .i64 (p.n 7), .int .i64 (p.n 8), .int .i64 (p.n 9), .int .i64 (p.n 10), .slice A11p n11p c11p, .slice A12p n12p c12p, zi, zi, zi, zi, zi, zi, zi, zi, zi, zi, zi, zi, zi, zl, zl, zl, zl, zl, zl, zl, zl, zi, zi, zi, zi, zi, zi, zi, zi, zb0, zl, zi, zs, zb0] : List Value) _ rfl rfl rfl Try.underlying41 rfl (msg_sizeE rfl) ?_)
  | ((with_reducible refine at_load 41 (.tmp 1) ?_); refine wpList_load_own_gq HO.out rfl 41 (.tmp 1) rfl 0 _ 0 47 _ _ (cs : List Value) _ rfl (take_all HLEN.out) rfl Try.underlying41 rfl (msg_sizeE HLEN.out) ?_)
  | fail)
 refine (same_c _ cs (uPM3 p) p _ (HUS.out.step HO.out.below) (HPV.out.step HO.out.below)).mono ?_
 rintro e w2 ⟨hb2, x, rfl, hx⟩
 replace HO := hide ((HO.out.step hb2).one 0 rfl)
 have HX := hide hx;clear hb2 hx;have k0 := HO.out.k0 HC0.out;have k1 := HO.out.k0 HC1.out;have k2 := HO.out.k0 HC2.out;have k3 := HO.out.k0 HC3.out;have k4 := HO.out.k0 HC4.out;have k5 := HO.out.k0 HC5.out;have k6 := HO.out.k0 HC6.out;have k7 := HO.out.k0 HC7.out;have k8 := HO.out.k0 HC8.out;have k13 := HO.out.k0 HC13.out;have k14 := HO.out.k0 HC14.out;have k15 := HO.out.k0 HC15.out;have k33 := HO.out.k0 HC33.out
 cases x with
 | false =>
  go_wp2_with fail
  go_ret
  exact ⟨HO.out.below, false, rfl, nof (fun h => absurd h.1 (by simpa using HX.out))⟩
 | true =>
  have HS := hide (HX.out.1 rfl)
  clear HX
  cases f0 : decide (p.n 7 < 1) with
  | true =>
   have HF := hide (of_decide_eq_true f0)
   go_wp2_with fail
   go_ret
   exact ⟨HO.out.below, false, rfl, nof (fun h => by have h1 := h.2.1; have h2 := HF.out; omega)⟩
  | false =>
   have HF0 := hide (of_decide_eq_false f0)
   cases f1 : decide (p.n 8 < 1) with
   | true =>
    have HF := hide (of_decide_eq_true f1)
    go_wp2_with fail
    go_ret
    exact ⟨HO.out.below, false, rfl, nof (fun h => by have h1 := h.2.1; have h2 := HF.out; omega)⟩
   | false =>
    have HF1 := hide (of_decide_eq_false f1)
    go_wp2_with fail
    go_loopw [5] (fun v5 wr => ∃ j : Nat, v5 = .int .i64 j ∧ j ≤ n33p ∧ Own w [] [(b1, 41, cs)] wr ∧ ∀ i, i < j → incAt (p.li 33) i = true) (fun v5 _ => n33p - (intOf v5).toNat)
    case atStart => exact ⟨0, rfl, Nat.zero_le _, HO.out, by intro i hi; omega⟩
    case round =>
     obtain ⟨j, rfl, hj, hown, hz⟩ := hrel
     clear k0 k1 k2 k3 k4 k5 k6 k7 k8 k13 k14 k15 k33
     replace HO := hide hown
     clear hown
     by_cases hlt : j < n33p
     ·have hkl : j < (p.li 33).length := by rw [← HN33.out]; exact hlt
      have HL33 := hide (Li.step H33.out HO.out.below)
      obtain ⟨g, o, rfl, hc⟩ := HL33.out.at_ j hkl
      have k0 := HO.out.k0 HC0.out;have k1 := HO.out.k0 HC1.out;have k2 := HO.out.k0 HC2.out;have k3 := HO.out.k0 HC3.out;have k4 := HO.out.k0 HC4.out;have k5 := HO.out.k0 HC5.out;have k6 := HO.out.k0 HC6.out;have k7 := HO.out.k0 HC7.out;have k8 := HO.out.k0 HC8.out;have k13 := HO.out.k0 HC13.out;have k14 := HO.out.k0 HC14.out;have k15 := HO.out.k0 HC15.out;have k33 := HO.out.k0 HC33.out;have hcp := hc j hkl
      have hcq : 0 < j → wr.cell? ⟨g, o + (j - 1), none⟩ = some (.int .i64 ((p.li 33).getD (j - 1) 0)) := fun h0 => by
       rw [hc (j - 1) (by omega)]; simp [show j - 1 < (p.li 33).length by omega]
      have hki : (j : Int) < (n33p : Int) := by omega
      have HLT := hide hlt
      have hg : (p.li 33)[j] = (p.li 33).getD j 0 := by simp [hkl]
      rw [hg] at hcp
      have HI : Hid (incAt (p.li 33) j = !(decide ((p.li 33).getD j 0 < 1) || decide (16 < (p.li 33).getD j 0) || decide (0 < j) && decide ((p.li 33).getD j 0 ≤ (p.li 33).getD (j - 1) 0))) := hide rfl
      have HF_ : Hid (incAt (p.li 33) j = false → ¬ incr (p.li 33) = true) := hide (fun h e => by rw [incr_false hkl h] at e; cases e)
      have HZ : Hid (incAt (p.li 33) j = true → ∀ i, i < j + 1 → incAt (p.li 33) i = true) := hide (fun h i hi => by
       rcases Nat.lt_or_ge i j with h1 | h1
       ·exact hz i h1
       ·obtain rfl : i = j := by omega
        exact h)
      clear hc hg hz hkl hlt HL33
      generalize (p.li 33).getD j 0 = x at *
      generalize (p.li 33).getD (j - 1) 0 = y at *
      cases q1 : decide (x < 1) with
      | true =>
       have HR : Hid (¬ incr (p.li 33) = true) := hide (HF_.out (by rw [HI.out, q1]; rfl))
       clear HI HF_ HZ hcq
       go_wp2_with fail
       refine wp_region_held_drew (S := fun W => W.cell? ⟨b1, 33, none⟩ = some (.slice (some ⟨g, o, none⟩) n33p c33p) ∧ W.cell? ⟨g, o + j, none⟩ = some (.int .i64 x)) (by kernel_rfl) (⟨k33, hcp⟩) (fun hS0 => ?_)
       refine tk 0 ?_;refine tk 1 ?_;refine tk 2 ?_;refine tk 3 ?_;refine tk 4 ?_;refine tk 5 ?_;refine tk 6 ?_;refine tu 7 ?_;refine tu 8 ?_;refine tu 9 ?_;refine tu 10 ?_;refine tu 11 ?_;refine tu 12 ?_;refine tk 13 ?_;refine tk 14 ?_;refine tu 15 ?_;refine tu 16 ?_;refine tu 17 ?_;refine tu 18 ?_;refine tu 19 ?_;refine tu 20 ?_;refine tu 21 ?_;refine tu 22 ?_;refine tu 23 ?_;refine tu 24 ?_;refine tu 25 ?_;refine tu 26 ?_;refine tu 27 ?_;refine tu 28 ?_;refine tu 29 ?_;refine tu 30 ?_;refine tk 31 ?_
       refine wpAnyH_done (by kernel_rfl) ?_ _
       clear hS0
       go_wp2_with fail
       go_ret
       exact ⟨HO.out.drew.below, false, rfl, nof (fun h => absurd h.2.2.1 HR.out)⟩
      | false =>
       cases q2 : decide (16 < x) with
       | true =>
        have HR : Hid (¬ incr (p.li 33) = true) := hide (HF_.out (by rw [HI.out, q1, q2]; rfl))
        clear HI HF_ HZ hcq
        go_wp2_with fail
        refine wp_region_held_drew (S := fun W => W.cell? ⟨b1, 33, none⟩ = some (.slice (some ⟨g, o, none⟩) n33p c33p) ∧ W.cell? ⟨g, o + j, none⟩ = some (.int .i64 x)) (by kernel_rfl) (⟨k33, hcp⟩) (fun hS0 => ?_)
        refine tk 0 ?_;refine tk 1 ?_;refine tk 2 ?_;refine tk 3 ?_;refine tk 4 ?_;refine tk 5 ?_;refine tk 6 ?_;refine tk 7 ?_;refine tk 8 ?_;refine tk 9 ?_;refine tk 10 ?_;refine tk 11 ?_;refine tk 12 ?_;refine tk 13 ?_;refine tk 14 ?_;refine tu 15 ?_;refine tu 16 ?_;refine tu 17 ?_;refine tu 18 ?_;refine tu 19 ?_;refine tu 20 ?_;refine tu 21 ?_;refine tu 22 ?_;refine tu 23 ?_;refine tu 24 ?_;refine tu 25 ?_;refine tu 26 ?_;refine tu 27 ?_;refine tu 28 ?_;refine tu 29 ?_;refine tu 30 ?_;refine tk 31 ?_
        refine wpAnyH_done (by kernel_rfl) ?_ _
        clear hS0
        go_wp2_with fail
        go_ret
        exact ⟨HO.out.drew.below, false, rfl, nof (fun h => absurd h.2.2.1 HR.out)⟩
       | false =>
        by_cases h0 : 0 < j
        ·have hcr := hcq h0
         obtain ⟨j, rfl⟩ : ∃ i, j = i + 1 := ⟨j - 1, by omega⟩
         rw [show j + 1 - 1 = j by omega] at hcr
         have hj1 : ((j + 1 : Nat) : Int) - 1 = (j : Int) := by omega
         have q0 : decide ((0 : Int) < ((j + 1 : Nat) : Int)) = true := by simp <;> omega
         have hkj : (j : Int) < (n33p : Int) := by omega
         have hj0 : (0 : Int) ≤ (j : Int) + 1 := by omega
         have hwj : IntKind.i64.wrap (j : Int) = (j : Int) := Go.IntWalk.i64_in _ (by omega)
         cases q3 : decide (x ≤ y) with
         | true =>
          have HR : Hid (¬ incr (p.li 33) = true) := hide (HF_.out (by rw [HI.out, q1, q2, q3]; simp))
          clear HI HF_ HZ hcq
          go_wp2_with fail
          refine wp_region_held_drew (S := fun W => W.cell? ⟨b1, 33, none⟩ = some (.slice (some ⟨g, o, none⟩) n33p c33p) ∧ W.cell? ⟨g, o + (j + 1), none⟩ = some (.int .i64 x) ∧ W.cell? ⟨g, o + j, none⟩ = some (.int .i64 y)) (by kernel_rfl) (⟨k33, hcp, hcr⟩) (fun hS0 => ?_)
          refine tk 0 ?_;refine tk 1 ?_;refine tk 2 ?_;refine tk 3 ?_;refine tk 4 ?_;refine tk 5 ?_;refine tk 6 ?_;refine tk 7 ?_;refine tk 8 ?_;refine tk 9 ?_;refine tk 10 ?_;refine tk 11 ?_;refine tk 12 ?_;refine tk 13 ?_;refine tk 14 ?_;refine tk 15 ?_;refine tk 16 ?_;refine tk 17 ?_;refine tk 18 ?_;refine tk 19 ?_;refine tk 20 ?_;refine tk 21 ?_;refine tk 22 ?_;refine tk 23 ?_;refine tk 24 ?_;refine tk 25 ?_;refine tk 26 ?_;refine tk 27 ?_;refine tk 28 ?_;refine tk 29 ?_;refine tk 30 ?_;refine tk 31 ?_
          refine wpAnyH_done (by kernel_rfl) ?_ _
          clear hS0
          go_wp2_with fail
          go_ret
          exact ⟨HO.out.drew.below, false, rfl, nof (fun h => absurd h.2.2.1 HR.out)⟩
         | false =>
          have HR := hide (HZ.out (by rw [HI.out, q1, q2, q3]; simp))
          clear HI HF_ HZ hcq
          go_wp2_with fail
          refine wp_region_held_drew (S := fun W => W.cell? ⟨b1, 33, none⟩ = some (.slice (some ⟨g, o, none⟩) n33p c33p) ∧ W.cell? ⟨g, o + (j + 1), none⟩ = some (.int .i64 x) ∧ W.cell? ⟨g, o + j, none⟩ = some (.int .i64 y)) (by kernel_rfl) (⟨k33, hcp, hcr⟩) (fun hS0 => ?_)
          refine tk 0 ?_;refine tk 1 ?_;refine tk 2 ?_;refine tk 3 ?_;refine tk 4 ?_;refine tk 5 ?_;refine tk 6 ?_;refine tk 7 ?_;refine tk 8 ?_;refine tk 9 ?_;refine tk 10 ?_;refine tk 11 ?_;refine tk 12 ?_;refine tk 13 ?_;refine tk 14 ?_;refine tk 15 ?_;refine tk 16 ?_;refine tk 17 ?_;refine tk 18 ?_;refine tk 19 ?_;refine tk 20 ?_;refine tk 21 ?_;refine tk 22 ?_;refine tk 23 ?_;refine tk 24 ?_;refine tk 25 ?_;refine tk 26 ?_;refine tk 27 ?_;refine tk 28 ?_;refine tk 29 ?_;refine tk 30 ?_;refine tk 31 ?_
          refine wpAnyH_done (by kernel_rfl) ?_ _
          clear hS0
          go_wp2_with fail
          go_roundw
          case rel => exact ⟨j + 1 + 1, by go_num, HLT.out, HO.out.drew, HR.out⟩
          case measure => have := HLT.out; simp [intOf]; omega
        ·obtain rfl : j = 0 := by omega
         have HR := hide (HZ.out (by rw [HI.out, q1, q2]; rfl))
         clear HI HF_ HZ hcq
         rw [Nat.add_zero] at hcp
         go_wp2_with fail
         refine wp_region_held_drew (S := fun W => W.cell? ⟨b1, 33, none⟩ = some (.slice (some ⟨g, o, none⟩) n33p c33p) ∧ W.cell? ⟨g, o, none⟩ = some (.int .i64 x)) (by kernel_rfl) (⟨k33, hcp⟩) (fun hS0 => ?_)
         refine tk 0 ?_;refine tk 1 ?_;refine tk 2 ?_;refine tk 3 ?_;refine tk 4 ?_;refine tk 5 ?_;refine tk 6 ?_;refine tk 7 ?_;refine tk 8 ?_;refine tk 9 ?_;refine tk 10 ?_;refine tk 11 ?_;refine tk 12 ?_;refine tk 13 ?_;refine tk 14 ?_;refine tk 15 ?_;refine tk 16 ?_;refine tk 17 ?_;refine tu 18 ?_;refine tu 19 ?_;refine tu 20 ?_;refine tu 21 ?_;refine tu 22 ?_;refine tu 23 ?_;refine tu 24 ?_;refine tu 25 ?_;refine tu 26 ?_;refine tu 27 ?_;refine tu 28 ?_;refine tu 29 ?_;refine tk 30 ?_;refine tk 31 ?_
         refine wpAnyH_done (by kernel_rfl) ?_ _
         clear hS0
         go_wp2_with fail
         go_roundw
         case rel => exact ⟨1, by go_num, HLT.out, HO.out.drew, HR.out⟩
         case measure => have := HLT.out; simp [intOf]; omega
     ·obtain rfl : j = n33p := by omega
      have HI : Hid (incr (p.li 33) = true) := hide (by unfold incr; rw [List.all_eq_true]; exact fun i hi => hz i (by rw [HN33.out]; exact List.mem_range.1 hi))
      clear hz hj hlt;have k0 := HO.out.k0 HC0.out;have k1 := HO.out.k0 HC1.out;have k2 := HO.out.k0 HC2.out;have k3 := HO.out.k0 HC3.out;have k4 := HO.out.k0 HC4.out;have k5 := HO.out.k0 HC5.out;have k6 := HO.out.k0 HC6.out;have k7 := HO.out.k0 HC7.out;have k8 := HO.out.k0 HC8.out;have k13 := HO.out.k0 HC13.out;have k14 := HO.out.k0 HC14.out;have k15 := HO.out.k0 HC15.out;have k33 := HO.out.k0 HC33.out
      cases e0 : decide (0 ≤ p.n 1) with
      | false =>
       have HE_ := hide (of_decide_eq_false e0)
       go_wp2_with fail
       go_ret
       exact ⟨HO.out.below, false, rfl, nof (fun h => by have h1 := h.2.2.2; have h2 := HE_.out; omega)⟩
      | true =>
       have HE0 := hide (of_decide_eq_true e0)
       cases e1 : decide (p.n 1 ≤ 8) with
       | false =>
        have HE_ := hide (of_decide_eq_false e1)
        go_wp2_with fail
        go_ret
        exact ⟨HO.out.below, false, rfl, nof (fun h => by have h1 := h.2.2.2; have h2 := HE_.out; omega)⟩
       | true =>
        have HE1 := hide (of_decide_eq_true e1)
        cases e2 : decide (0 ≤ p.n 4) with
        | false =>
         have HE_ := hide (of_decide_eq_false e2)
         go_wp2_with fail
         go_ret
         exact ⟨HO.out.below, false, rfl, nof (fun h => by have h1 := h.2.2.2; have h2 := HE_.out; omega)⟩
        | true =>
         have HE2 := hide (of_decide_eq_true e2)
         cases e3 : decide (p.n 4 ≤ 17) with
         | false =>
          have HE_ := hide (of_decide_eq_false e3)
          go_wp2_with fail
          go_ret
          exact ⟨HO.out.below, false, rfl, nof (fun h => by have h1 := h.2.2.2; have h2 := HE_.out; omega)⟩
         | true =>
          have HE3 := hide (of_decide_eq_true e3)
          cases e4 : decide ((p.body.size : Int) ≤ 4096) with
          | false =>
           have HE_ := hide (of_decide_eq_false e4)
           go_wp2_with fail
           go_ret
           exact ⟨HO.out.below, false, rfl, nof (fun h => by have h1 := h.2.2.2; have h2 := HE_.out; omega)⟩
          | true =>
           have HE4 := hide (of_decide_eq_true e4)
           cases e5 : decide (0 ≤ p.n 6) with
           | false =>
            have HE_ := hide (of_decide_eq_false e5)
            go_wp2_with fail
            go_ret
            exact ⟨HO.out.below, false, rfl, nof (fun h => by have h1 := h.2.2.2; have h2 := HE_.out; omega)⟩
           | true =>
            have HE5 := hide (of_decide_eq_true e5)
            go_wp2_with fail
            go_ret
            exact ⟨HO.out.below, true, rfl, ⟨fun _ => ⟨HS.out, (by have g0 := HF0.out; have g1 := HF1.out; refine ⟨?_, ?_⟩ <;> omega), HI.out, (by have g0 := HE0.out; have g1 := HE1.out; have g2 := HE2.out; have g3 := HE3.out; have g4 := HE4.out; have g5 := HE5.out; refine ⟨?_, ?_, ?_, ?_, ?_, ?_⟩ <;> omega)⟩, fun _ => rfl⟩⟩
end Go.Proofs.Ytpbgelhjbfckcaa
