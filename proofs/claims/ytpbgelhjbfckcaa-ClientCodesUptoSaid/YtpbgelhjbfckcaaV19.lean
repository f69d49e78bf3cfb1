/- The reference's comparisons: commands, statuses. -/
import Derived.Test.YtpbgelhjbfckcaaV18
namespace Go.Proofs.Ytpbgelhjbfckcaa
set_option maxRecDepth 100000
set_option linter.unusedVariables false
set_option linter.unusedSimpArgs false
open Go.ChangeShapes Go.WideShapes Go.ChangeAt Go.RowKit
theorem size_chg : (Try.prog.info? 30).map (·.size) = some 4 := by kernel_rfl
theorem size_sta : (Try.prog.info? 36).map (·.size) = some 15 := by kernel_rfl
set_option maxHeartbeats 4000000 in
theorem sameCommand_c (kp : Int) (clp : Int) (nup : Int) (gep : Int) (stp : Int) (ckp : Int) (cmp : Int) (kq : Int) (clq : Int) (nuq : Int) (geq : Int) (stq : Int) (ckq : Int) (cmq : Int) (bop boq : ByteArray) {A0p : Option Addr} {n0p c0p : Nat} {l0p : List Int} {A1p : Option Addr} {n1p c1p : Nat} {l1p : List Int} {A2p : Option Addr} {n2p c2p : Nat} {l2p : List Int} {A3p : Option Addr} {n3p c3p : Nat} {l3p : List Int} {A4p : Option Addr} {n4p c4p : Nat} {l4p : List Int} {A0q : Option Addr} {n0q c0q : Nat} {l0q : List Int} {A1q : Option Addr} {n1q c1q : Nat} {l1q : List Int} {A2q : Option Addr} {n2q c2q : Nat} {l2q : List Int} {A3q : Option Addr} {n3q c3q : Nat} {l3q : List Int} {A4q : Option Addr} {n4q c4q : Nat} {l4q : List Int} (w : World) (h0p : Li w (.slice A0p n0p c0p) l0p) (h1p : Li w (.slice A1p n1p c1p) l1p) (h2p : Li w (.slice A2p n2p c2p) l2p) (h3p : Li w (.slice A3p n3p c3p) l3p) (h4p : Li w (.slice A4p n4p c4p) l4p) (h0q : Li w (.slice A0q n0q c0q) l0q) (h1q : Li w (.slice A1q n1q c1q) l1q) (h2q : Li w (.slice A2q n2q c2q) l2q) (h3q : Li w (.slice A3q n3q c3q) l3q) (h4q : Li w (.slice A4q n4q c4q) l4q) :
 Calls Try.prog 49 #[.agg ([.int .i64 kp, .int .i64 clp, .int .i64 nup, .string bop, .int .i64 gep, .int .i64 stp, .int .i64 ckp, .int .i64 cmp, .slice A0p n0p c0p, .slice A1p n1p c1p, .slice A2p n2p c2p, .slice A3p n3p c3p, .slice A4p n4p c4p] : List Value).toArray, .agg ([.int .i64 kq, .int .i64 clq, .int .i64 nuq, .string boq, .int .i64 geq, .int .i64 stq, .int .i64 ckq, .int .i64 cmq, .slice A0q n0q c0q, .slice A1q n1q c1q, .slice A2q n2q c2q, .slice A3q n3q c3q, .slice A4q n4q c4q] : List Value).toArray] w (SameR w (kp = kq ∧ clp = clq ∧ nup = nuq ∧ bop = boq ∧ gep = geq ∧ stp = stq ∧ (ckp = ckq ∧ cmp = cmq ∧ l0p = l0q ∧ l1p = l1q) ∧ (l2p = l2q ∧ l3p = l3q ∧ l4p = l4q))) := by
 have H0p := hide h0p;have H1p := hide h1p;have H2p := hide h2p;have H3p := hide h3p;have H4p := hide h4p;have H0q := hide h0q;have H1q := hide h1q;have H2q := hide h2q;have H3q := hide h3q;have H4q := hide h4q;clear h0p h1p h2p h3p h4p h0q h1q h2q h3q h4q
 have HO := hide (Own.nil w [] (by simp))
 go_enter Try.func49, Try.ntmps49
 try simp only [List.append_eq, List.cons_append, List.nil_append]
 by_cases hc0 : kp = kq
 rotate_left
 ·have hq0 : (kp == kq) = false := by simpa using hc0
  have HC0 := hide hc0;clear hc0
  go_wp2_with (first
   | ((with_reducible refine at_box 114 (.tmp 0) ?_); refine wpList_box_own HO.out rfl 114 (.tmp 0) rfl ([.int .i64 kp, .int .i64 clp, .int .i64 nup, .string bop, .int .i64 gep, .int .i64 stp, .int .i64 ckp, .int .i64 cmp, .slice A0p n0p c0p, .slice A1p n1p c1p, .slice A2p n2p c2p, .slice A3p n3p c3p, .slice A4p n4p c4p]) rfl ?_; intro WA b1 hO; replace HO := hide hO; clear hO)
   | ((with_reducible refine at_box 114 (.tmp 1) ?_); refine wpList_box_own HO.out rfl 114 (.tmp 1) rfl ([.int .i64 kq, .int .i64 clq, .int .i64 nuq, .string boq, .int .i64 geq, .int .i64 stq, .int .i64 ckq, .int .i64 cmq, .slice A0q n0q c0q, .slice A1q n1q c1q, .slice A2q n2q c2q, .slice A3q n3q c3q, .slice A4q n4q c4q]) rfl ?_; intro WB b2 hO; replace HO := hide hO; clear hO; have k0 := HO.out.cells 0 rfl; have k1 := HO.out.cells 1 rfl)
   | fail)
  go_ret
  exact ⟨HO.out.below, false, rfl, nof (fun h => absurd (h.1) HC0.out)⟩
 have hq0 : (kp == kq) = true := by simpa using hc0
 have HC0 := hide hc0;clear hc0
 by_cases hc1 : clp = clq
 rotate_left
 ·have hq1 : (clp == clq) = false := by simpa using hc1
  have HC1 := hide hc1;clear hc1
  go_wp2_with (first
   | ((with_reducible refine at_box 114 (.tmp 0) ?_); refine wpList_box_own HO.out rfl 114 (.tmp 0) rfl ([.int .i64 kp, .int .i64 clp, .int .i64 nup, .string bop, .int .i64 gep, .int .i64 stp, .int .i64 ckp, .int .i64 cmp, .slice A0p n0p c0p, .slice A1p n1p c1p, .slice A2p n2p c2p, .slice A3p n3p c3p, .slice A4p n4p c4p]) rfl ?_; intro WA b1 hO; replace HO := hide hO; clear hO)
   | ((with_reducible refine at_box 114 (.tmp 1) ?_); refine wpList_box_own HO.out rfl 114 (.tmp 1) rfl ([.int .i64 kq, .int .i64 clq, .int .i64 nuq, .string boq, .int .i64 geq, .int .i64 stq, .int .i64 ckq, .int .i64 cmq, .slice A0q n0q c0q, .slice A1q n1q c1q, .slice A2q n2q c2q, .slice A3q n3q c3q, .slice A4q n4q c4q]) rfl ?_; intro WB b2 hO; replace HO := hide hO; clear hO; have k0 := HO.out.cells 0 rfl; have k1 := HO.out.cells 1 rfl)
   | fail)
  go_ret
  exact ⟨HO.out.below, false, rfl, nof (fun h => absurd (h.2.1) HC1.out)⟩
 have hq1 : (clp == clq) = true := by simpa using hc1
 have HC1 := hide hc1;clear hc1
 by_cases hc2 : nup = nuq
 rotate_left
 ·have hq2 : (nup == nuq) = false := by simpa using hc2
  have HC2 := hide hc2;clear hc2
  go_wp2_with (first
   | ((with_reducible refine at_box 114 (.tmp 0) ?_); refine wpList_box_own HO.out rfl 114 (.tmp 0) rfl ([.int .i64 kp, .int .i64 clp, .int .i64 nup, .string bop, .int .i64 gep, .int .i64 stp, .int .i64 ckp, .int .i64 cmp, .slice A0p n0p c0p, .slice A1p n1p c1p, .slice A2p n2p c2p, .slice A3p n3p c3p, .slice A4p n4p c4p]) rfl ?_; intro WA b1 hO; replace HO := hide hO; clear hO)
   | ((with_reducible refine at_box 114 (.tmp 1) ?_); refine wpList_box_own HO.out rfl 114 (.tmp 1) rfl ([.int .i64 kq, .int .i64 clq, .int .i64 nuq, .string boq, .int .i64 geq, .int .i64 stq, .int .i64 ckq, .int .i64 cmq, .slice A0q n0q c0q, .slice A1q n1q c1q, .slice A2q n2q c2q, .slice A3q n3q c3q, .slice A4q n4q c4q]) rfl ?_; intro WB b2 hO; replace HO := hide hO; clear hO; have k0 := HO.out.cells 0 rfl; have k1 := HO.out.cells 1 rfl)
   | fail)
  go_ret
  exact ⟨HO.out.below, false, rfl, nof (fun h => absurd (h.2.2.1) HC2.out)⟩
 have hq2 : (nup == nuq) = true := by simpa using hc2
 have HC2 := hide hc2;clear hc2
 by_cases hc3 : bop = boq
 rotate_left
 ·have hq3 : (bop.toList == boq.toList) = false := str_ne hc3
  have HC3 := hide hc3;clear hc3
  go_wp2_with (first
   | ((with_reducible refine at_box 114 (.tmp 0) ?_); refine wpList_box_own HO.out rfl 114 (.tmp 0) rfl ([.int .i64 kp, .int .i64 clp, .int .i64 nup, .string bop, .int .i64 gep, .int .i64 stp, .int .i64 ckp, .int .i64 cmp, .slice A0p n0p c0p, .slice A1p n1p c1p, .slice A2p n2p c2p, .slice A3p n3p c3p, .slice A4p n4p c4p]) rfl ?_; intro WA b1 hO; replace HO := hide hO; clear hO)
   | ((with_reducible refine at_box 114 (.tmp 1) ?_); refine wpList_box_own HO.out rfl 114 (.tmp 1) rfl ([.int .i64 kq, .int .i64 clq, .int .i64 nuq, .string boq, .int .i64 geq, .int .i64 stq, .int .i64 ckq, .int .i64 cmq, .slice A0q n0q c0q, .slice A1q n1q c1q, .slice A2q n2q c2q, .slice A3q n3q c3q, .slice A4q n4q c4q]) rfl ?_; intro WB b2 hO; replace HO := hide hO; clear hO; have k0 := HO.out.cells 0 rfl; have k1 := HO.out.cells 1 rfl)
   | fail)
  go_ret
  exact ⟨HO.out.below, false, rfl, nof (fun h => absurd (h.2.2.2.1) HC3.out)⟩
 have hq3 : (bop.toList == boq.toList) = true := str_eq hc3
 have HC3 := hide hc3;clear hc3
 by_cases hc4 : gep = geq
 rotate_left
 ·have hq4 : (gep == geq) = false := by simpa using hc4
  have HC4 := hide hc4;clear hc4
  go_wp2_with (first
   | ((with_reducible refine at_box 114 (.tmp 0) ?_); refine wpList_box_own HO.out rfl 114 (.tmp 0) rfl ([.int .i64 kp, .int .i64 clp, .int .i64 nup, .string bop, .int .i64 gep, .int .i64 stp, .int .i64 ckp, .int .i64 cmp, .slice A0p n0p c0p, .slice A1p n1p c1p, .slice A2p n2p c2p, .slice A3p n3p c3p, .slice A4p n4p c4p]) rfl ?_; intro WA b1 hO; replace HO := hide hO; clear hO)
   | ((with_reducible refine at_box 114 (.tmp 1) ?_); refine wpList_box_own HO.out rfl 114 (.tmp 1) rfl ([.int .i64 kq, .int .i64 clq, .int .i64 nuq, .string boq, .int .i64 geq, .int .i64 stq, .int .i64 ckq, .int .i64 cmq, .slice A0q n0q c0q, .slice A1q n1q c1q, .slice A2q n2q c2q, .slice A3q n3q c3q, .slice A4q n4q c4q]) rfl ?_; intro WB b2 hO; replace HO := hide hO; clear hO; have k0 := HO.out.cells 0 rfl; have k1 := HO.out.cells 1 rfl)
   | fail)
  go_ret
  exact ⟨HO.out.below, false, rfl, nof (fun h => absurd (h.2.2.2.2.1) HC4.out)⟩
 have hq4 : (gep == geq) = true := by simpa using hc4
 have HC4 := hide hc4;clear hc4
 by_cases hc5 : stp = stq
 rotate_left
 ·have hq5 : (stp == stq) = false := by simpa using hc5
  have HC5 := hide hc5;clear hc5
  go_wp2_with (first
   | ((with_reducible refine at_box 114 (.tmp 0) ?_); refine wpList_box_own HO.out rfl 114 (.tmp 0) rfl ([.int .i64 kp, .int .i64 clp, .int .i64 nup, .string bop, .int .i64 gep, .int .i64 stp, .int .i64 ckp, .int .i64 cmp, .slice A0p n0p c0p, .slice A1p n1p c1p, .slice A2p n2p c2p, .slice A3p n3p c3p, .slice A4p n4p c4p]) rfl ?_; intro WA b1 hO; replace HO := hide hO; clear hO)
   | ((with_reducible refine at_box 114 (.tmp 1) ?_); refine wpList_box_own HO.out rfl 114 (.tmp 1) rfl ([.int .i64 kq, .int .i64 clq, .int .i64 nuq, .string boq, .int .i64 geq, .int .i64 stq, .int .i64 ckq, .int .i64 cmq, .slice A0q n0q c0q, .slice A1q n1q c1q, .slice A2q n2q c2q, .slice A3q n3q c3q, .slice A4q n4q c4q]) rfl ?_; intro WB b2 hO; replace HO := hide hO; clear hO; have k0 := HO.out.cells 0 rfl; have k1 := HO.out.cells 1 rfl)
   | fail)
  go_ret
  exact ⟨HO.out.below, false, rfl, nof (fun h => absurd (h.2.2.2.2.2.1) HC5.out)⟩
 have hq5 : (stp == stq) = true := by simpa using hc5
 have HC5 := hide hc5;clear hc5
 go_wp2_with (first
  | ((with_reducible refine at_box 114 (.tmp 0) ?_); refine wpList_box_own HO.out rfl 114 (.tmp 0) rfl ([.int .i64 kp, .int .i64 clp, .int .i64 nup, .string bop, .int .i64 gep, .int .i64 stp, .int .i64 ckp, .int .i64 cmp, .slice A0p n0p c0p, .slice A1p n1p c1p, .slice A2p n2p c2p, .slice A3p n3p c3p, .slice A4p n4p c4p]) rfl ?_; intro WA b1 hO; replace HO := hide hO; clear hO)
  | ((with_reducible refine at_box 114 (.tmp 1) ?_); refine wpList_box_own HO.out rfl 114 (.tmp 1) rfl ([.int .i64 kq, .int .i64 clq, .int .i64 nuq, .string boq, .int .i64 geq, .int .i64 stq, .int .i64 ckq, .int .i64 cmq, .slice A0q n0q c0q, .slice A1q n1q c1q, .slice A2q n2q c2q, .slice A3q n3q c3q, .slice A4q n4q c4q]) rfl ?_; intro WB b2 hO; replace HO := hide hO; clear hO; have k0 := HO.out.cells 0 rfl; have k1 := HO.out.cells 1 rfl)
  | ((with_reducible refine at_load 30 (.tmp 46) ?_); refine wpList_load_own_gq HO.out rfl 30 (.tmp 46) rfl 0 _ 6 4 _ _ ([.int .i64 ckp, .int .i64 cmp, .slice A0p n0p c0p, .slice A1p n1p c1p]) _ rfl rfl rfl Try.underlying30 rfl size_chg ?_)
  | ((with_reducible refine at_load 30 (.tmp 48) ?_); refine wpList_load_own_gq HO.out rfl 30 (.tmp 48) rfl 1 _ 6 4 _ _ ([.int .i64 ckq, .int .i64 cmq, .slice A0q n0q c0q, .slice A1q n1q c1q]) _ rfl rfl rfl Try.underlying30 rfl size_chg ?_)
  | fail)
 refine (sameChange_c ckp cmp ckq cmq _ (Li.step H0p.out HO.out.below) (Li.step H1p.out HO.out.below) (Li.step H0q.out HO.out.below) (Li.step H1q.out HO.out.below)).mono ?_
 rintro e w6' ⟨hb, x6, rfl, hx6⟩
 replace HO := hide (HO.out.step hb)
 have HX6 := hide hx6;clear hb hx6;clear k0 k1;have k0 := HO.out.cells 0 rfl;have k1 := HO.out.cells 1 rfl
 cases x6 with
 | false =>
  go_wp2_with fail
  go_ret
  exact ⟨HO.out.below, false, rfl, nof (fun h => absurd (h.2.2.2.2.2.2.1) (by simpa using HX6.out))⟩
 | true =>
  have HC6 := hide (HX6.out.1 rfl)
  go_wp2_with (first
   | ((with_reducible refine at_load 34 (.tmp 53) ?_); refine wpList_load_own_gq HO.out rfl 34 (.tmp 53) rfl 0 _ 10 3 _ _ ([.slice A2p n2p c2p, .slice A3p n3p c3p, .slice A4p n4p c4p]) _ rfl rfl rfl Try.underlying34 rfl size_cfg ?_)
   | ((with_reducible refine at_load 34 (.tmp 55) ?_); refine wpList_load_own_gq HO.out rfl 34 (.tmp 55) rfl 1 _ 10 3 _ _ ([.slice A2q n2q c2q, .slice A3q n3q c3q, .slice A4q n4q c4q]) _ rfl rfl rfl Try.underlying34 rfl size_cfg ?_)
   | fail)
  refine (sameConfig_c _ (Li.step H2p.out HO.out.below) (Li.step H3p.out HO.out.below) (Li.step H4p.out HO.out.below) (Li.step H2q.out HO.out.below) (Li.step H3q.out HO.out.below) (Li.step H4q.out HO.out.below)).mono ?_
  rintro e w7' ⟨hb, x7, rfl, hx7⟩
  replace HO := hide (HO.out.step hb)
  have HX7 := hide hx7;clear hb hx7;clear k0 k1;have k0 := HO.out.cells 0 rfl;have k1 := HO.out.cells 1 rfl
  cases x7 with
  | false =>
   go_wp2_with fail
   go_ret
   exact ⟨HO.out.below, false, rfl, nof (fun h => absurd (h.2.2.2.2.2.2.2) (by simpa using HX7.out))⟩
  | true =>
   have HC7 := hide (HX7.out.1 rfl)
   go_wp2_with fail
   go_ret
   exact ⟨HO.out.below, true, rfl, ⟨fun _ => ⟨HC0.out, HC1.out, HC2.out, HC3.out, HC4.out, HC5.out, HC6.out, HC7.out⟩, fun _ => rfl⟩⟩
set_option maxHeartbeats 4000000 in
theorem sameStatus_c (gp : Int) (map : Int) (rop : Int) (tep : Int) (lep : Int) (bap : Int) (lap : Int) (cop : Int) (gq : Int) (maq : Int) (roq : Int) (teq : Int) (leq : Int) (baq : Int) (laq : Int) (coq : Int) {A0p : Option Addr} {n0p c0p : Nat} {l0p : List Int} {A1p : Option Addr} {n1p c1p : Nat} {l1p : List Int} {A2p : Option Addr} {n2p c2p : Nat} {l2p : List Int} {A3p : Option Addr} {n3p c3p : Nat} {l3p : List Int} {A4p : Option Addr} {n4p c4p : Nat} {l4p : List Int} {A5p : Option Addr} {n5p c5p : Nat} {l5p : List Int} {A6p : Option Addr} {n6p c6p : Nat} {l6p : List Int} {A0q : Option Addr} {n0q c0q : Nat} {l0q : List Int} {A1q : Option Addr} {n1q c1q : Nat} {l1q : List Int} {A2q : Option Addr} {n2q c2q : Nat} {l2q : List Int} {A3q : Option Addr} {n3q c3q : Nat} {l3q : List Int} {A4q : Option Addr} {n4q c4q : Nat} {l4q : List Int} {A5q : Option Addr} {n5q c5q : Nat} {l5q : List Int} {A6q : Option Addr} {n6q c6q : Nat} {l6q : List Int} (w : World) (h0p : Li w (.slice A0p n0p c0p) l0p) (h1p : Li w (.slice A1p n1p c1p) l1p) (h2p : Li w (.slice A2p n2p c2p) l2p) (h3p : Li w (.slice A3p n3p c3p) l3p) (h4p : Li w (.slice A4p n4p c4p) l4p) (h5p : Li w (.slice A5p n5p c5p) l5p) (h6p : Li w (.slice A6p n6p c6p) l6p) (h0q : Li w (.slice A0q n0q c0q) l0q) (h1q : Li w (.slice A1q n1q c1q) l1q) (h2q : Li w (.slice A2q n2q c2q) l2q) (h3q : Li w (.slice A3q n3q c3q) l3q) (h4q : Li w (.slice A4q n4q c4q) l4q) (h5q : Li w (.slice A5q n5q c5q) l5q) (h6q : Li w (.slice A6q n6q c6q) l6q) :
 Calls Try.prog 30 #[.agg ([.int .i64 gp, .int .i64 map, .int .i64 rop, .int .i64 tep, .int .i64 lep, .int .i64 bap, .int .i64 lap, .int .i64 cop, .slice A0p n0p c0p, .slice A1p n1p c1p, .slice A2p n2p c2p, .slice A3p n3p c3p, .slice A4p n4p c4p, .slice A5p n5p c5p, .slice A6p n6p c6p] : List Value).toArray, .agg ([.int .i64 gq, .int .i64 maq, .int .i64 roq, .int .i64 teq, .int .i64 leq, .int .i64 baq, .int .i64 laq, .int .i64 coq, .slice A0q n0q c0q, .slice A1q n1q c1q, .slice A2q n2q c2q, .slice A3q n3q c3q, .slice A4q n4q c4q, .slice A5q n5q c5q, .slice A6q n6q c6q] : List Value).toArray] w (SameR w (gp = gq ∧ map = maq ∧ rop = roq ∧ tep = teq ∧ lep = leq ∧ bap = baq ∧ lap = laq ∧ cop = coq ∧ (l0p = l0q ∧ l1p = l1q ∧ l2p = l2q) ∧ (l3p = l3q ∧ l4p = l4q ∧ l5p = l5q) ∧ l6p = l6q)) := by
 have H0p := hide h0p;have H1p := hide h1p;have H2p := hide h2p;have H3p := hide h3p;have H4p := hide h4p;have H5p := hide h5p;have H6p := hide h6p;have H0q := hide h0q;have H1q := hide h1q;have H2q := hide h2q;have H3q := hide h3q;have H4q := hide h4q;have H5q := hide h5q;have H6q := hide h6q;clear h0p h1p h2p h3p h4p h5p h6p h0q h1q h2q h3q h4q h5q h6q
 have HO := hide (Own.nil w [] (by simp))
 go_enter Try.func30, Try.ntmps30
 try simp only [List.append_eq, List.cons_append, List.nil_append]
 by_cases hc0 : gp = gq
 rotate_left
 ·have hq0 : (gp == gq) = false := by simpa using hc0
  have HC0 := hide hc0;clear hc0
  go_wp2_with (first
   | ((with_reducible refine at_box 36 (.tmp 0) ?_); refine wpList_box_own HO.out rfl 36 (.tmp 0) rfl ([.int .i64 gp, .int .i64 map, .int .i64 rop, .int .i64 tep, .int .i64 lep, .int .i64 bap, .int .i64 lap, .int .i64 cop, .slice A0p n0p c0p, .slice A1p n1p c1p, .slice A2p n2p c2p, .slice A3p n3p c3p, .slice A4p n4p c4p, .slice A5p n5p c5p, .slice A6p n6p c6p]) rfl ?_; intro WA b1 hO; replace HO := hide hO; clear hO)
   | ((with_reducible refine at_box 36 (.tmp 1) ?_); refine wpList_box_own HO.out rfl 36 (.tmp 1) rfl ([.int .i64 gq, .int .i64 maq, .int .i64 roq, .int .i64 teq, .int .i64 leq, .int .i64 baq, .int .i64 laq, .int .i64 coq, .slice A0q n0q c0q, .slice A1q n1q c1q, .slice A2q n2q c2q, .slice A3q n3q c3q, .slice A4q n4q c4q, .slice A5q n5q c5q, .slice A6q n6q c6q]) rfl ?_; intro WB b2 hO; replace HO := hide hO; clear hO; have k0 := HO.out.cells 0 rfl; have k1 := HO.out.cells 1 rfl)
   | fail)
  go_ret
  exact ⟨HO.out.below, false, rfl, nof (fun h => absurd (h.1) HC0.out)⟩
 have hq0 : (gp == gq) = true := by simpa using hc0
 have HC0 := hide hc0;clear hc0
 by_cases hc1 : map = maq
 rotate_left
 ·have hq1 : (map == maq) = false := by simpa using hc1
  have HC1 := hide hc1;clear hc1
  go_wp2_with (first
   | ((with_reducible refine at_box 36 (.tmp 0) ?_); refine wpList_box_own HO.out rfl 36 (.tmp 0) rfl ([.int .i64 gp, .int .i64 map, .int .i64 rop, .int .i64 tep, .int .i64 lep, .int .i64 bap, .int .i64 lap, .int .i64 cop, .slice A0p n0p c0p, .slice A1p n1p c1p, .slice A2p n2p c2p, .slice A3p n3p c3p, .slice A4p n4p c4p, .slice A5p n5p c5p, .slice A6p n6p c6p]) rfl ?_; intro WA b1 hO; replace HO := hide hO; clear hO)
   | ((with_reducible refine at_box 36 (.tmp 1) ?_); refine wpList_box_own HO.out rfl 36 (.tmp 1) rfl ([.int .i64 gq, .int .i64 maq, .int .i64 roq, .int .i64 teq, .int .i64 leq, .int .i64 baq, .int .i64 laq, .int .i64 coq, .slice A0q n0q c0q, .slice A1q n1q c1q, .slice A2q n2q c2q, .slice A3q n3q c3q, .slice A4q n4q c4q, .slice A5q n5q c5q, .slice A6q n6q c6q]) rfl ?_; intro WB b2 hO; replace HO := hide hO; clear hO; have k0 := HO.out.cells 0 rfl; have k1 := HO.out.cells 1 rfl)
   | fail)
  go_ret
  exact ⟨HO.out.below, false, rfl, nof (fun h => absurd (h.2.1) HC1.out)⟩
 have hq1 : (map == maq) = true := by simpa using hc1
 have HC1 := hide hc1;clear hc1
 by_cases hc2 : rop = roq
 rotate_left
 ·have hq2 : (rop == roq) = false := by simpa using hc2
  have HC2 := hide hc2;clear hc2
  go_wp2_with (first
   | ((with_reducible refine at_box 36 (.tmp 0) ?_); refine wpList_box_own HO.out rfl 36 (.tmp 0) rfl ([.int .i64 gp, .int .i64 map, .int .i64 rop, .int .i64 tep, .int .i64 lep, .int .i64 bap, .int .i64 lap, .int .i64 cop, .slice A0p n0p c0p, .slice A1p n1p c1p, .slice A2p n2p c2p, .slice A3p n3p c3p, .slice A4p n4p c4p, .slice A5p n5p c5p, .slice A6p n6p c6p]) rfl ?_; intro WA b1 hO; replace HO := hide hO; clear hO)
   | ((with_reducible refine at_box 36 (.tmp 1) ?_); refine wpList_box_own HO.out rfl 36 (.tmp 1) rfl ([.int .i64 gq, .int .i64 maq, .int .i64 roq, .int .i64 teq, .int .i64 leq, .int .i64 baq, .int .i64 laq, .int .i64 coq, .slice A0q n0q c0q, .slice A1q n1q c1q, .slice A2q n2q c2q, .slice A3q n3q c3q, .slice A4q n4q c4q, .slice A5q n5q c5q, .slice A6q n6q c6q]) rfl ?_; intro WB b2 hO; replace HO := hide hO; clear hO; have k0 := HO.out.cells 0 rfl; have k1 := HO.out.cells 1 rfl)
   | fail)
  go_ret
  exact ⟨HO.out.below, false, rfl, nof (fun h => absurd (h.2.2.1) HC2.out)⟩
 have hq2 : (rop == roq) = true := by simpa using hc2
 have HC2 := hide hc2;clear hc2
 by_cases hc3 : tep = teq
 rotate_left
 ·have hq3 : (tep == teq) = false := by simpa using hc3
  have HC3 := hide hc3;clear hc3
  go_wp2_with (first
   | ((with_reducible refine at_box 36 (.tmp 0) ?_); refine wpList_box_own HO.out rfl 36 (.tmp 0) rfl ([.int .i64 gp, .int .i64 map, .int .i64 rop, .int .i64 tep, .int .i64 lep, .int .i64 bap, .int .i64 lap, .int .i64 cop, .slice A0p n0p c0p, .slice A1p n1p c1p, .slice A2p n2p c2p, .slice A3p n3p c3p, .slice A4p n4p c4p, .slice A5p n5p c5p, .slice A6p n6p c6p]) rfl ?_; intro WA b1 hO; replace HO := hide hO; clear hO)
   | ((with_reducible refine at_box 36 (.tmp 1) ?_); refine wpList_box_own HO.out rfl 36 (.tmp 1) rfl ([.int .i64 gq, .int .i64 maq, .int .i64 roq, .int .i64 teq, .int .i64 leq, .int .i64 baq, .int .i64 laq, .int .i64 coq, .slice A0q n0q c0q, .slice A1q n1q c1q, .slice A2q n2q c2q, .slice A3q n3q c3q, .slice A4q n4q c4q, .slice A5q n5q c5q, .slice A6q n6q c6q]) rfl ?_; intro WB b2 hO; replace HO := hide hO; clear hO; have k0 := HO.out.cells 0 rfl; have k1 := HO.out.cells 1 rfl)
   | fail)
  go_ret
  exact ⟨HO.out.below, false, rfl, nof (fun h => absurd (h.2.2.2.1) HC3.out)⟩
 have hq3 : (tep == teq) = true := by simpa using hc3
 have HC3 := hide hc3;clear hc3
 by_cases hc4 : lep = leq
 rotate_left
 ·have hq4 : (lep == leq) = false := by simpa using hc4
  have HC4 := hide hc4;clear hc4
  go_wp2_with (first
   | ((with_reducible refine at_box 36 (.tmp 0) ?_); refine wpList_box_own HO.out rfl 36 (.tmp 0) rfl ([.int .i64 gp, .int .i64 map, .int .i64 rop, .int .i64 tep, .int .i64 lep, .int .i64 bap, .int .i64 lap, .int .i64 cop, .slice A0p n0p c0p, .slice A1p n1p c1p, .slice A2p n2p c2p, .slice A3p n3p c3p, .slice A4p n4p c4p, .slice A5p n5p c5p, .slice A6p n6p c6p]) rfl ?_; intro WA b1 hO; replace HO := hide hO; clear hO)
   | ((with_reducible refine at_box 36 (.tmp 1) ?_); refine wpList_box_own HO.out rfl 36 (.tmp 1) rfl ([.int .i64 gq, .int .i64 maq, .int .i64 roq, .int .i64 teq, .int .i64 leq, .int .i64 baq, .int .i64 laq, .int .i64 coq, .slice A0q n0q c0q, .slice A1q n1q c1q, .slice A2q n2q c2q, .slice A3q n3q c3q, .slice A4q n4q c4q, .slice A5q n5q c5q, .slice A6q n6q c6q]) rfl ?_; intro WB b2 hO; replace HO := hide hO; clear hO; have k0 := HO.out.cells 0 rfl; have k1 := HO.out.cells 1 rfl)
   | fail)
  go_ret
  exact ⟨HO.out.below, false, rfl, nof (fun h => absurd (h.2.2.2.2.1) HC4.out)⟩
 have hq4 : (lep == leq) = true := by simpa using hc4
 have HC4 := hide hc4;clear hc4
 by_cases hc5 : bap = baq
 rotate_left
 ·have hq5 : (bap == baq) = false := by simpa using hc5
  have HC5 := hide hc5;clear hc5
  go_wp2_with (first
   | ((with_reducible refine at_box 36 (.tmp 0) ?_); refine wpList_box_own HO.out rfl 36 (.tmp 0) rfl ([.int .i64 gp, .int .i64 map, .int .i64 rop, .int .i64 tep, .int .i64 lep, .int .i64 bap, .int .i64 lap, .int .i64 cop, .slice A0p n0p c0p, .slice A1p n1p c1p, .slice A2p n2p c2p, .slice A3p n3p c3p, .slice A4p n4p c4p, .slice A5p n5p c5p, .slice A6p n6p c6p]) rfl ?_; intro WA b1 hO; replace HO := hide hO; clear hO)
   | ((with_reducible refine at_box 36 (.tmp 1) ?_); refine wpList_box_own HO.out rfl 36 (.tmp 1) rfl ([.int .i64 gq, .int .i64 maq, .int .i64 roq, .int .i64 teq, .int .i64 leq, .int .i64 baq, .int .i64 laq, .int .i64 coq, .slice A0q n0q c0q, .slice A1q n1q c1q, .slice A2q n2q c2q, .slice A3q n3q c3q, .slice A4q n4q c4q, .slice A5q n5q c5q, .slice A6q n6q c6q]) rfl ?_; intro WB b2 hO; replace HO := hide hO; clear hO; have k0 := HO.out.cells 0 rfl; have k1 := HO.out.cells 1 rfl)
   | fail)
  go_ret
  exact ⟨HO.out.below, false, rfl, nof (fun h => absurd (h.2.2.2.2.2.1) HC5.out)⟩
 have hq5 : (bap == baq) = true := by simpa using hc5
 have HC5 := hide hc5;clear hc5
 by_cases hc6 : lap = laq
 rotate_left
 ·have hq6 : (lap == laq) = false := by simpa using hc6
  have HC6 := hide hc6;clear hc6
  go_wp2_with (first
   | ((with_reducible refine at_box 36 (.tmp 0) ?_); refine wpList_box_own HO.out rfl 36 (.tmp 0) rfl ([.int .i64 gp, .int .i64 map, .int .i64 rop, .int .i64 tep, .int .i64 lep, .int .i64 bap, .int .i64 lap, .int .i64 cop, .slice A0p n0p c0p, .slice A1p n1p c1p, .slice A2p n2p c2p, .slice A3p n3p c3p, .slice A4p n4p c4p, .slice A5p n5p c5p, .slice A6p n6p c6p]) rfl ?_; intro WA b1 hO; replace HO := hide hO; clear hO)
   | ((with_reducible refine at_box 36 (.tmp 1) ?_); refine wpList_box_own HO.out rfl 36 (.tmp 1) rfl ([.int .i64 gq, .int .i64 maq, .int .i64 roq, .int .i64 teq, .int .i64 leq, .int .i64 baq, .int .i64 laq, .int .i64 coq, .slice A0q n0q c0q, .slice A1q n1q c1q, .slice A2q n2q c2q, .slice A3q n3q c3q, .slice A4q n4q c4q, .slice A5q n5q c5q, .slice A6q n6q c6q]) rfl ?_; intro WB b2 hO; replace HO := hide hO; clear hO; have k0 := HO.out.cells 0 rfl; have k1 := HO.out.cells 1 rfl)
   | fail)
  go_ret
  exact ⟨HO.out.below, false, rfl, nof (fun h => absurd (h.2.2.2.2.2.2.1) HC6.out)⟩
 have hq6 : (lap == laq) = true := by simpa using hc6
 have HC6 := hide hc6;clear hc6
 by_cases hc7 : cop = coq
 rotate_left
 ·have hq7 : (cop == coq) = false := by simpa using hc7
  have HC7 := hide hc7;clear hc7
  go_wp2_with (first
   | ((with_reducible refine at_box 36 (.tmp 0) ?_); refine wpList_box_own HO.out rfl 36 (.tmp 0) rfl ([.int .i64 gp, .int .i64 map, .int .i64 rop, .int .i64 tep, .int .i64 lep, .int .i64 bap, .int .i64 lap, .int .i64 cop, .slice A0p n0p c0p, .slice A1p n1p c1p, .slice A2p n2p c2p, .slice A3p n3p c3p, .slice A4p n4p c4p, .slice A5p n5p c5p, .slice A6p n6p c6p]) rfl ?_; intro WA b1 hO; replace HO := hide hO; clear hO)
   | ((with_reducible refine at_box 36 (.tmp 1) ?_); refine wpList_box_own HO.out rfl 36 (.tmp 1) rfl ([.int .i64 gq, .int .i64 maq, .int .i64 roq, .int .i64 teq, .int .i64 leq, .int .i64 baq, .int .i64 laq, .int .i64 coq, .slice A0q n0q c0q, .slice A1q n1q c1q, .slice A2q n2q c2q, .slice A3q n3q c3q, .slice A4q n4q c4q, .slice A5q n5q c5q, .slice A6q n6q c6q]) rfl ?_; intro WB b2 hO; replace HO := hide hO; clear hO; have k0 := HO.out.cells 0 rfl; have k1 := HO.out.cells 1 rfl)
   | fail)
  go_ret
  exact ⟨HO.out.below, false, rfl, nof (fun h => absurd (h.2.2.2.2.2.2.2.1) HC7.out)⟩
 have hq7 : (cop == coq) = true := by simpa using hc7
 have HC7 := hide hc7;clear hc7
 go_wp2_with (first
  | ((with_reducible refine at_box 36 (.tmp 0) ?_); refine wpList_box_own HO.out rfl 36 (.tmp 0) rfl ([.int .i64 gp, .int .i64 map, .int .i64 rop, .int .i64 tep, .int .i64 lep, .int .i64 bap, .int .i64 lap, .int .i64 cop, .slice A0p n0p c0p, .slice A1p n1p c1p, .slice A2p n2p c2p, .slice A3p n3p c3p, .slice A4p n4p c4p, .slice A5p n5p c5p, .slice A6p n6p c6p]) rfl ?_; intro WA b1 hO; replace HO := hide hO; clear hO)
  | ((with_reducible refine at_box 36 (.tmp 1) ?_); refine wpList_box_own HO.out rfl 36 (.tmp 1) rfl ([.int .i64 gq, .int .i64 maq, .int .i64 roq, .int .i64 teq, .int .i64 leq, .int .i64 baq, .int .i64 laq, .int .i64 coq, .slice A0q n0q c0q, .slice A1q n1q c1q, .slice A2q n2q c2q, .slice A3q n3q c3q, .slice A4q n4q c4q, .slice A5q n5q c5q, .slice A6q n6q c6q]) rfl ?_; intro WB b2 hO; replace HO := hide hO; clear hO; have k0 := HO.out.cells 0 rfl; have k1 := HO.out.cells 1 rfl)
  | ((with_reducible refine at_load 34 (.tmp 60) ?_); refine wpList_load_own_gq HO.out rfl 34 (.tmp 60) rfl 0 _ 8 3 _ _ ([.slice A0p n0p c0p, .slice A1p n1p c1p, .slice A2p n2p c2p]) _ rfl rfl rfl Try.underlying34 rfl size_cfg ?_)
  | ((with_reducible refine at_load 34 (.tmp 62) ?_); refine wpList_load_own_gq HO.out rfl 34 (.tmp 62) rfl 1 _ 8 3 _ _ ([.slice A0q n0q c0q, .slice A1q n1q c1q, .slice A2q n2q c2q]) _ rfl rfl rfl Try.underlying34 rfl size_cfg ?_)
  | fail)
 refine (sameConfig_c _ (Li.step H0p.out HO.out.below) (Li.step H1p.out HO.out.below) (Li.step H2p.out HO.out.below) (Li.step H0q.out HO.out.below) (Li.step H1q.out HO.out.below) (Li.step H2q.out HO.out.below)).mono ?_
 rintro e w8' ⟨hb, x8, rfl, hx8⟩
 replace HO := hide (HO.out.step hb)
 have HX8 := hide hx8;clear hb hx8;clear k0 k1;have k0 := HO.out.cells 0 rfl;have k1 := HO.out.cells 1 rfl
 cases x8 with
 | false =>
  go_wp2_with fail
  go_ret
  exact ⟨HO.out.below, false, rfl, nof (fun h => absurd (h.2.2.2.2.2.2.2.2.1) (by simpa using HX8.out))⟩
 | true =>
  have HC8 := hide (HX8.out.1 rfl)
  go_wp2_with (first
   | ((with_reducible refine at_load 34 (.tmp 67) ?_); refine wpList_load_own_gq HO.out rfl 34 (.tmp 67) rfl 0 _ 11 3 _ _ ([.slice A3p n3p c3p, .slice A4p n4p c4p, .slice A5p n5p c5p]) _ rfl rfl rfl Try.underlying34 rfl size_cfg ?_)
   | ((with_reducible refine at_load 34 (.tmp 69) ?_); refine wpList_load_own_gq HO.out rfl 34 (.tmp 69) rfl 1 _ 11 3 _ _ ([.slice A3q n3q c3q, .slice A4q n4q c4q, .slice A5q n5q c5q]) _ rfl rfl rfl Try.underlying34 rfl size_cfg ?_)
   | fail)
  refine (sameConfig_c _ (Li.step H3p.out HO.out.below) (Li.step H4p.out HO.out.below) (Li.step H5p.out HO.out.below) (Li.step H3q.out HO.out.below) (Li.step H4q.out HO.out.below) (Li.step H5q.out HO.out.below)).mono ?_
  rintro e w9' ⟨hb, x9, rfl, hx9⟩
  replace HO := hide (HO.out.step hb)
  have HX9 := hide hx9;clear hb hx9;clear k0 k1;have k0 := HO.out.cells 0 rfl;have k1 := HO.out.cells 1 rfl
  cases x9 with
  | false =>
   go_wp2_with fail
   go_ret
   exact ⟨HO.out.below, false, rfl, nof (fun h => absurd (h.2.2.2.2.2.2.2.2.2.1) (by simpa using HX9.out))⟩
  | true =>
   have HC9 := hide (HX9.out.1 rfl)
   go_wp2_with fail
   refine (sameInts_c _ _ l6p l6q _ (Li.step H6p.out HO.out.below) (Li.step H6q.out HO.out.below)).mono ?_
   rintro e w10' ⟨hb, x10, rfl, hx10⟩
   replace HO := hide (HO.out.step hb)
   have HX10 := hide hx10;clear hb hx10;clear k0 k1;have k0 := HO.out.cells 0 rfl;have k1 := HO.out.cells 1 rfl
   cases x10 with
   | false =>
    go_wp2_with fail
    go_ret
    exact ⟨HO.out.below, false, rfl, nof (fun h => absurd (h.2.2.2.2.2.2.2.2.2.2) (by simpa using HX10.out))⟩
   | true =>
    have HC10 := hide (HX10.out.1 rfl)
    go_wp2_with fail
    go_ret
    exact ⟨HO.out.below, true, rfl, ⟨fun _ => ⟨HC0.out, HC1.out, HC2.out, HC3.out, HC4.out, HC5.out, HC6.out, HC7.out, HC8.out, HC9.out, HC10.out⟩, fun _ => rfl⟩⟩
end Go.Proofs.Ytpbgelhjbfckcaa
