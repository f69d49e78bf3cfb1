/- The reference's comparison of messages. -/
import Derived.Test.YtpbgelhjbfckcaaV20
namespace Go.Proofs.Ytpbgelhjbfckcaa
set_option maxRecDepth 100000
set_option linter.unusedVariables false
set_option linter.unusedSimpArgs false
open Go.ChangeShapes Go.WideShapes Go.ChangeAt Go.RowKit
set_option maxHeartbeats 16000000 in
theorem sameC_c (cs ds : List Value) (p q : PM) (w : World) {A11p : Option Addr} {n11p c11p : Nat} {A12p : Option Addr} {n12p c12p : Nat} {A26p : Option Addr} {n26p c26p : Nat} {A27p : Option Addr} {n27p c27p : Nat} {A28p : Option Addr} {n28p c28p : Nat} {A29p : Option Addr} {n29p c29p : Nat} {A30p : Option Addr} {n30p c30p : Nat} {A31p : Option Addr} {n31p c31p : Nat} {A32p : Option Addr} {n32p c32p : Nat} {A33p : Option Addr} {n33p c33p : Nat} {A43p : Option Addr} {n43p c43p : Nat} {A11q : Option Addr} {n11q c11q : Nat} {A12q : Option Addr} {n12q c12q : Nat} {A26q : Option Addr} {n26q c26q : Nat} {A27q : Option Addr} {n27q c27q : Nat} {A28q : Option Addr} {n28q c28q : Nat} {A29q : Option Addr} {n29q c29q : Nat} {A30q : Option Addr} {n30q c30q : Nat} {A31q : Option Addr} {n31q c31q : Nat} {A32q : Option Addr} {n32q c32q : Nat} {A33q : Option Addr} {n33q c33q : Nat} {A43q : Option Addr} {n43q c43q : Nat}
 (hc0p : cs[0]? = some (.int .i64 (p.n 0))) (hc1p : cs[1]? = some (.int .i64 (p.n 1))) (hc2p : cs[2]? = some (.int .i64 (p.n 2))) (hc3p : cs[3]? = some (.int .i64 (p.n 3))) (hc4p : cs[4]? = some (.int .i64 (p.n 4))) (hc6p : cs[6]? = some (.int .i64 (p.n 6))) (hc7p : cs[7]? = some (.int .i64 (p.n 7))) (hc8p : cs[8]? = some (.int .i64 (p.n 8))) (hc17p : cs[17]? = some (.int .i64 (p.n 17))) (hc5p : cs[5]? = some (.string p.body)) (hc33p : cs[33]? = some (.slice A33p n33p c33p)) (hd9p : (cs.drop 9).take 4 = [.int .i64 (p.n 9), .int .i64 (p.n 10), .slice A11p n11p c11p, .slice A12p n12p c12p]) (hd13p : (cs.drop 13).take 4 = [.int .i64 (p.n 13), .int .i64 (p.n 14), .int .i64 (p.n 15), .int .i64 (p.n 16)]) (hd18p : (cs.drop 18).take 15 = [.int .i64 (p.n 18), .int .i64 (p.n 19), .int .i64 (p.n 20), .int .i64 (p.n 21), .int .i64 (p.n 22), .int .i64 (p.n 23), .int .i64 (p.n 24), .int .i64 (p.n 25), .slice A26p n26p c26p, .slice A27p n27p c27p, .slice A28p n28p c28p, .slice A29p n29p c29p, .slice A30p n30p c30p, .slice A31p n31p c31p, .slice A32p n32p c32p]) (hd34p : (cs.drop 34).take 13 = [.int .i64 (p.n 34), .int .i64 (p.n 35), .int .i64 (p.n 36), .int .i64 (p.n 37), .int .i64 (p.n 38), .int .i64 (p.n 39), .int .i64 (p.n 40), .int .i64 (p.n 41), .bool p.gr, .slice A43p n43p c43p, .int .i64 (p.n 44), .string p.d, .bool p.dn]) (hl11p : Li w (.slice A11p n11p c11p) (p.li 11)) (hl12p : Li w (.slice A12p n12p c12p) (p.li 12)) (hl26p : Li w (.slice A26p n26p c26p) (p.li 26)) (hl27p : Li w (.slice A27p n27p c27p) (p.li 27)) (hl28p : Li w (.slice A28p n28p c28p) (p.li 28)) (hl29p : Li w (.slice A29p n29p c29p) (p.li 29)) (hl30p : Li w (.slice A30p n30p c30p) (p.li 30)) (hl31p : Li w (.slice A31p n31p c31p) (p.li 31)) (hl32p : Li w (.slice A32p n32p c32p) (p.li 32)) (hl33p : Li w (.slice A33p n33p c33p) (p.li 33)) (hep : EnsIn w w.heap.size (.slice A43p n43p c43p) p.l) (hc0q : ds[0]? = some (.int .i64 (q.n 0))) (hc1q : ds[1]? = some (.int .i64 (q.n 1))) (hc2q : ds[2]? = some (.int .i64 (q.n 2))) (hc3q : ds[3]? = some (.int .i64 (q.n 3))) (hc4q : ds[4]? = some (.int .i64 (q.n 4))) (hc6q : ds[6]? = some (.int .i64 (q.n 6))) (hc7q : ds[7]? = some (.int .i64 (q.n 7))) (hc8q : ds[8]? = some (.int .i64 (q.n 8))) (hc17q : ds[17]? = some (.int .i64 (q.n 17))) (hc5q : ds[5]? = some (.string q.body)) (hc33q : ds[33]? = some (.slice A33q n33q c33q)) (hd9q : (ds.drop 9).take 4 = [.int .i64 (q.n 9), .int .i64 (q.n 10), .slice A11q n11q c11q, .slice A12q n12q c12q]) (hd13q : (ds.drop 13).take 4 = [.int .i64 (q.n 13), .int .i64 (q.n 14), .int .i64 (q.n 15), .int .i64 (q.n 16)]) (hd18q : (ds.drop 18).take 15 = [.int .i64 (q.n 18), .int .i64 (q.n 19), .int .i64 (q.n 20), .int .i64 (q.n 21), .int .i64 (q.n 22), .int .i64 (q.n 23), .int .i64 (q.n 24), .int .i64 (q.n 25), .slice A26q n26q c26q, .slice A27q n27q c27q, .slice A28q n28q c28q, .slice A29q n29q c29q, .slice A30q n30q c30q, .slice A31q n31q c31q, .slice A32q n32q c32q]) (hd34q : (ds.drop 34).take 13 = [.int .i64 (q.n 34), .int .i64 (q.n 35), .int .i64 (q.n 36), .int .i64 (q.n 37), .int .i64 (q.n 38), .int .i64 (q.n 39), .int .i64 (q.n 40), .int .i64 (q.n 41), .bool q.gr, .slice A43q n43q c43q, .int .i64 (q.n 44), .string q.d, .bool q.dn]) (hl11q : Li w (.slice A11q n11q c11q) (q.li 11)) (hl12q : Li w (.slice A12q n12q c12q) (q.li 12)) (hl26q : Li w (.slice A26q n26q c26q) (q.li 26)) (hl27q : Li w (.slice A27q n27q c27q) (q.li 27)) (hl28q : Li w (.slice A28q n28q c28q) (q.li 28)) (hl29q : Li w (.slice A29q n29q c29q) (q.li 29)) (hl30q : Li w (.slice A30q n30q c30q) (q.li 30)) (hl31q : Li w (.slice A31q n31q c31q) (q.li 31)) (hl32q : Li w (.slice A32q n32q c32q) (q.li 32)) (hl33q : Li w (.slice A33q n33q c33q) (q.li 33)) (heq : EnsIn w w.heap.size (.slice A43q n43q c43q) q.l) :
 Calls Try.prog 17 #[.agg cs.toArray, .agg ds.toArray] w (SameR w (p.n 0 = q.n 0 ∧ p.n 1 = q.n 1 ∧ p.n 2 = q.n 2 ∧ p.n 3 = q.n 3 ∧ p.n 4 = q.n 4 ∧ p.body = q.body ∧ p.n 6 = q.n 6 ∧ p.n 7 = q.n 7 ∧ p.n 8 = q.n 8 ∧ (p.n 9 = q.n 9 ∧ p.n 10 = q.n 10 ∧ p.li 11 = q.li 11 ∧ p.li 12 = q.li 12) ∧ p.n 13 = q.n 13 ∧ p.n 14 = q.n 14 ∧ p.n 15 = q.n 15 ∧ p.n 16 = q.n 16 ∧ p.n 17 = q.n 17 ∧ (p.n 18 = q.n 18 ∧ p.n 19 = q.n 19 ∧ p.n 20 = q.n 20 ∧ p.n 21 = q.n 21 ∧ p.n 22 = q.n 22 ∧ p.n 23 = q.n 23 ∧ p.n 24 = q.n 24 ∧ p.n 25 = q.n 25 ∧ (p.li 26 = q.li 26 ∧ p.li 27 = q.li 27 ∧ p.li 28 = q.li 28) ∧ (p.li 29 = q.li 29 ∧ p.li 30 = q.li 30 ∧ p.li 31 = q.li 31) ∧ p.li 32 = q.li 32) ∧ p.li 33 = q.li 33 ∧ (p.l = q.l ∧ p.n 34 = q.n 34 ∧ p.n 35 = q.n 35 ∧ p.n 36 = q.n 36 ∧ p.n 37 = q.n 37 ∧ p.n 38 = q.n 38 ∧ p.n 39 = q.n 39 ∧ p.n 40 = q.n 40 ∧ p.n 41 = q.n 41 ∧ p.gr = q.gr ∧ p.n 44 = q.n 44 ∧ p.d = q.d ∧ p.dn = q.dn))) := by
 have HO := hide (Own.nil w [] (by simp))
 have HC0p := hide hc0p;have HC1p := hide hc1p;have HC2p := hide hc2p;have HC3p := hide hc3p;have HC4p := hide hc4p;have HC6p := hide hc6p;have HC7p := hide hc7p;have HC8p := hide hc8p;have HC17p := hide hc17p;have HC5p := hide hc5p;have HC33p := hide hc33p;have HD9p := hide hd9p;have HD13p := hide hd13p;have HD18p := hide hd18p;have HD34p := hide hd34p;have HL11p := hide hl11p;have HL12p := hide hl12p;have HL26p := hide hl26p;have HL27p := hide hl27p;have HL28p := hide hl28p;have HL29p := hide hl29p;have HL30p := hide hl30p;have HL31p := hide hl31p;have HL32p := hide hl32p;have HL33p := hide hl33p;have HEp := hide hep;have HC0q := hide hc0q;have HC1q := hide hc1q;have HC2q := hide hc2q;have HC3q := hide hc3q;have HC4q := hide hc4q;have HC6q := hide hc6q;have HC7q := hide hc7q;have HC8q := hide hc8q;have HC17q := hide hc17q;have HC5q := hide hc5q;have HC33q := hide hc33q;have HD9q := hide hd9q;have HD13q := hide hd13q;have HD18q := hide hd18q;have HD34q := hide hd34q;have HL11q := hide hl11q;have HL12q := hide hl12q;have HL26q := hide hl26q;have HL27q := hide hl27q;have HL28q := hide hl28q;have HL29q := hide hl29q;have HL30q := hide hl30q;have HL31q := hide hl31q;have HL32q := hide hl32q;have HL33q := hide hl33q;have HEq := hide heq;clear hc0p hc1p hc2p hc3p hc4p hc6p hc7p hc8p hc17p hc5p hc33p hd9p hd13p hd18p hd34p hl11p hl12p hl26p hl27p hl28p hl29p hl30p hl31p hl32p hl33p hep hc0q hc1q hc2q hc3q hc4q hc6q hc7q hc8q hc17q hc5q hc33q hd9q hd13q hd18q hd34q hl11q hl12q hl26q hl27q hl28q hl29q hl30q hl31q hl32q hl33q heq
 go_enter Try.func17, Try.ntmps17
 simp only [List.append_eq, List.cons_append, List.nil_append]
 by_cases hc0 : p.n 0 = q.n 0
 rotate_left
 ·have hq0 : (p.n 0 == q.n 0) = false := by simpa using hc0
  have HC_0 := hide hc0;clear hc0
  go_wp2_with (first
   | ((with_reducible refine at_box 41 (.tmp 0) ?_); refine wpList_box_own HO.out rfl 41 (.tmp 0) rfl cs rfl ?_; intro WA b1 hO; replace HO := hide hO; clear hO)
   | ((with_reducible refine at_box 41 (.tmp 1) ?_); refine wpList_box_own HO.out rfl 41 (.tmp 1) rfl ds rfl ?_; intro WB b2 hO; replace HO := hide hO; clear hO; have k0p := (HO.out.cells 0 rfl 0).trans HC0p.out; have k1p := (HO.out.cells 0 rfl 1).trans HC1p.out; have k2p := (HO.out.cells 0 rfl 2).trans HC2p.out; have k3p := (HO.out.cells 0 rfl 3).trans HC3p.out; have k4p := (HO.out.cells 0 rfl 4).trans HC4p.out; have k6p := (HO.out.cells 0 rfl 6).trans HC6p.out; have k7p := (HO.out.cells 0 rfl 7).trans HC7p.out; have k8p := (HO.out.cells 0 rfl 8).trans HC8p.out; have k17p := (HO.out.cells 0 rfl 17).trans HC17p.out; have k5p := (HO.out.cells 0 rfl 5).trans HC5p.out; have k33p := (HO.out.cells 0 rfl 33).trans HC33p.out; have k0q := (HO.out.cells 1 rfl 0).trans HC0q.out; have k1q := (HO.out.cells 1 rfl 1).trans HC1q.out; have k2q := (HO.out.cells 1 rfl 2).trans HC2q.out; have k3q := (HO.out.cells 1 rfl 3).trans HC3q.out; have k4q := (HO.out.cells 1 rfl 4).trans HC4q.out; have k6q := (HO.out.cells 1 rfl 6).trans HC6q.out; have k7q := (HO.out.cells 1 rfl 7).trans HC7q.out; have k8q := (HO.out.cells 1 rfl 8).trans HC8q.out; have k17q := (HO.out.cells 1 rfl 17).trans HC17q.out; have k5q := (HO.out.cells 1 rfl 5).trans HC5q.out; have k33q := (HO.out.cells 1 rfl 33).trans HC33q.out)
   | fail)
  go_ret
  exact ⟨HO.out.below, false, rfl, nof (fun h => absurd (h.1) HC_0.out)⟩
 have hq0 : (p.n 0 == q.n 0) = true := by simpa using hc0
 have HC_0 := hide hc0;clear hc0
 by_cases hc1 : p.n 1 = q.n 1
 rotate_left
 ·have hq1 : (p.n 1 == q.n 1) = false := by simpa using hc1
  have HC_1 := hide hc1;clear hc1
  go_wp2_with (first
   | ((with_reducible refine at_box 41 (.tmp 0) ?_); refine wpList_box_own HO.out rfl 41 (.tmp 0) rfl cs rfl ?_; intro WA b1 hO; replace HO := hide hO; clear hO)
   | ((with_reducible refine at_box 41 (.tmp 1) ?_); refine wpList_box_own HO.out rfl 41 (.tmp 1) rfl ds rfl ?_; intro WB b2 hO; replace HO := hide hO; clear hO; have k0p := (HO.out.cells 0 rfl 0).trans HC0p.out; have k1p := (HO.out.cells 0 rfl 1).trans HC1p.out; have k2p := (HO.out.cells 0 rfl 2).trans HC2p.out; have k3p := (HO.out.cells 0 rfl 3).trans HC3p.out; have k4p := (HO.out.cells 0 rfl 4).trans HC4p.out; have k6p := (HO.out.cells 0 rfl 6).trans HC6p.out; have k7p := (HO.out.cells 0 rfl 7).trans HC7p.out; have k8p := (HO.out.cells 0 rfl 8).trans HC8p.out; have k17p := (HO.out.cells 0 rfl 17).trans HC17p.out; have k5p := (HO.out.cells 0 rfl 5).trans HC5p.out; have k33p := (HO.out.cells 0 rfl 33).trans HC33p.out; have k0q := (HO.out.cells 1 rfl 0).trans HC0q.out; have k1q := (HO.out.cells 1 rfl 1).trans HC1q.out; have k2q := (HO.out.cells 1 rfl 2).trans HC2q.out; have k3q := (HO.out.cells 1 rfl 3).trans HC3q.out; have k4q := (HO.out.cells 1 rfl 4).trans HC4q.out; have k6q := (HO.out.cells 1 rfl 6).trans HC6q.out; have k7q := (HO.out.cells 1 rfl 7).trans HC7q.out; have k8q := (HO.out.cells 1 rfl 8).trans HC8q.out; have k17q := (HO.out.cells 1 rfl 17).trans HC17q.out; have k5q := (HO.out.cells 1 rfl 5).trans HC5q.out; have k33q := (HO.out.cells 1 rfl 33).trans HC33q.out)
   | fail)
  go_ret
  exact ⟨HO.out.below, false, rfl, nof (fun h => absurd (h.2.1) HC_1.out)⟩
 have hq1 : (p.n 1 == q.n 1) = true := by simpa using hc1
 have HC_1 := hide hc1;clear hc1
 by_cases hc2 : p.n 2 = q.n 2
 rotate_left
 ·have hq2 : (p.n 2 == q.n 2) = false := by simpa using hc2
  have HC_2 := hide hc2;clear hc2
  go_wp2_with (first
   | ((with_reducible refine at_box 41 (.tmp 0) ?_); refine wpList_box_own HO.out rfl 41 (.tmp 0) rfl cs rfl ?_; intro WA b1 hO; replace HO := hide hO; clear hO)
   | ((with_reducible refine at_box 41 (.tmp 1) ?_); refine wpList_box_own HO.out rfl 41 (.tmp 1) rfl ds rfl ?_; intro WB b2 hO; replace HO := hide hO; clear hO; have k0p := (HO.out.cells 0 rfl 0).trans HC0p.out; have k1p := (HO.out.cells 0 rfl 1).trans HC1p.out; have k2p := (HO.out.cells 0 rfl 2).trans HC2p.out; have k3p := (HO.out.cells 0 rfl 3).trans HC3p.out; have k4p := (HO.out.cells 0 rfl 4).trans HC4p.out; have k6p := (HO.out.cells 0 rfl 6).trans HC6p.out; have k7p := (HO.out.cells 0 rfl 7).trans HC7p.out; have k8p := (HO.out.cells 0 rfl 8).trans HC8p.out; have k17p := (HO.out.cells 0 rfl 17).trans HC17p.out; have k5p := (HO.out.cells 0 rfl 5).trans HC5p.out; have k33p := (HO.out.cells 0 rfl 33).trans HC33p.out; have k0q := (HO.out.cells 1 rfl 0).trans HC0q.out; have k1q := (HO.out.cells 1 rfl 1).trans HC1q.out; have k2q := (HO.out.cells 1 rfl 2).trans HC2q.out; have k3q := (HO.out.cells 1 rfl 3).trans HC3q.out; have k4q := (HO.out.cells 1 rfl 4).trans HC4q.out; have k6q := (HO.out.cells 1 rfl 6).trans HC6q.out; have k7q := (HO.out.cells 1 rfl 7).trans HC7q.out; have k8q := (HO.out.cells 1 rfl 8).trans HC8q.out; have k17q := (HO.out.cells 1 rfl 17).trans HC17q.out; have k5q := (HO.out.cells 1 rfl 5).trans HC5q.out; have k33q := (HO.out.cells 1 rfl 33).trans HC33q.out)
   | fail)
  go_ret
  exact ⟨HO.out.below, false, rfl, nof (fun h => absurd (h.2.2.1) HC_2.out)⟩
 have hq2 : (p.n 2 == q.n 2) = true := by simpa using hc2
 have HC_2 := hide hc2;clear hc2
 by_cases hc3 : p.n 3 = q.n 3
 rotate_left
 ·have hq3 : (p.n 3 == q.n 3) = false := by simpa using hc3
  have HC_3 := hide hc3;clear hc3
  go_wp2_with (first
   | ((with_reducible refine at_box 41 (.tmp 0) ?_); refine wpList_box_own HO.out rfl 41 (.tmp 0) rfl cs rfl ?_; intro WA b1 hO; replace HO := hide hO; clear hO)
   | ((with_reducible refine at_box 41 (.tmp 1) ?_); refine wpList_box_own HO.out rfl 41 (.tmp 1) rfl ds rfl ?_; intro WB b2 hO; replace HO := hide hO; clear hO; have k0p := (HO.out.cells 0 rfl 0).trans HC0p.out; have k1p := (HO.out.cells 0 rfl 1).trans HC1p.out; have k2p := (HO.out.cells 0 rfl 2).trans HC2p.out; have k3p := (HO.out.cells 0 rfl 3).trans HC3p.out; have k4p := (HO.out.cells 0 rfl 4).trans HC4p.out; have k6p := (HO.out.cells 0 rfl 6).trans HC6p.out; have k7p := (HO.out.cells 0 rfl 7).trans HC7p.out; have k8p := (HO.out.cells 0 rfl 8).trans HC8p.out; have k17p := (HO.out.cells 0 rfl 17).trans HC17p.out; have k5p := (HO.out.cells 0 rfl 5).trans HC5p.out; have k33p := (HO.out.cells 0 rfl 33).trans HC33p.out; have k0q := (HO.out.cells 1 rfl 0).trans HC0q.out; have k1q := (HO.out.cells 1 rfl 1).trans HC1q.out; have k2q := (HO.out.cells 1 rfl 2).trans HC2q.out; have k3q := (HO.out.cells 1 rfl 3).trans HC3q.out; have k4q := (HO.out.cells 1 rfl 4).trans HC4q.out; have k6q := (HO.out.cells 1 rfl 6).trans HC6q.out; have k7q := (HO.out.cells 1 rfl 7).trans HC7q.out; have k8q := (HO.out.cells 1 rfl 8).trans HC8q.out; have k17q := (HO.out.cells 1 rfl 17).trans HC17q.out; have k5q := (HO.out.cells 1 rfl 5).trans HC5q.out; have k33q := (HO.out.cells 1 rfl 33).trans HC33q.out)
   | fail)
  go_ret
  exact ⟨HO.out.below, false, rfl, nof (fun h => absurd (h.2.2.2.1) HC_3.out)⟩
 have hq3 : (p.n 3 == q.n 3) = true := by simpa using hc3
 have HC_3 := hide hc3;clear hc3
 by_cases hc4 : p.n 4 = q.n 4
 rotate_left
 ·have hq4 : (p.n 4 == q.n 4) = false := by simpa using hc4
  have HC_4 := hide hc4;clear hc4
  go_wp2_with (first
   | ((with_reducible refine at_box 41 (.tmp 0) ?_); refine wpList_box_own HO.out rfl 41 (.tmp 0) rfl cs rfl ?_; intro WA b1 hO; replace HO := hide hO; clear hO)
   | ((with_reducible refine at_box 41 (.tmp 1) ?_); refine wpList_box_own HO.out rfl 41 (.tmp 1) rfl ds rfl ?_; intro WB b2 hO; replace HO := hide hO; clear hO; have k0p := (HO.out.cells 0 rfl 0).trans HC0p.out; have k1p := (HO.out.cells 0 rfl 1).trans HC1p.out; have k2p := (HO.out.cells 0 rfl 2).trans HC2p.out; have k3p := (HO.out.cells 0 rfl 3).trans HC3p.out; have k4p := (HO.out.cells 0 rfl 4).trans HC4p.out; have k6p := (HO.out.cells 0 rfl 6).trans HC6p.out; have k7p := (HO.out.cells 0 rfl 7).trans HC7p.out; have k8p := (HO.out.cells 0 rfl 8).trans HC8p.out; have k17p := (HO.out.cells 0 rfl 17).trans HC17p.out; have k5p := (HO.out.cells 0 rfl 5).trans HC5p.out; have k33p := (HO.out.cells 0 rfl 33).trans HC33p.out; have k0q := (HO.out.cells 1 rfl 0).trans HC0q.out; have k1q := (HO.out.cells 1 rfl 1).trans HC1q.out; have k2q := (HO.out.cells 1 rfl 2).trans HC2q.out; have k3q := (HO.out.cells 1 rfl 3).trans HC3q.out; have k4q := (HO.out.cells 1 rfl 4).trans HC4q.out; have k6q := (HO.out.cells 1 rfl 6).trans HC6q.out; have k7q := (HO.out.cells 1 rfl 7).trans HC7q.out; have k8q := (HO.out.cells 1 rfl 8).trans HC8q.out; have k17q := (HO.out.cells 1 rfl 17).trans HC17q.out; have k5q := (HO.out.cells 1 rfl 5).trans HC5q.out; have k33q := (HO.out.cells 1 rfl 33).trans HC33q.out)
   | fail)
  go_ret
  exact ⟨HO.out.below, false, rfl, nof (fun h => absurd (h.2.2.2.2.1) HC_4.out)⟩
 have hq4 : (p.n 4 == q.n 4) = true := by simpa using hc4
 have HC_4 := hide hc4;clear hc4
 by_cases hc5 : p.body = q.body
 rotate_left
 ·have hq5 : (p.body.toList == q.body.toList) = false := str_ne hc5
  have HC_5 := hide hc5;clear hc5
  go_wp2_with (first
   | ((with_reducible refine at_box 41 (.tmp 0) ?_); refine wpList_box_own HO.out rfl 41 (.tmp 0) rfl cs rfl ?_; intro WA b1 hO; replace HO := hide hO; clear hO)
   | ((with_reducible refine at_box 41 (.tmp 1) ?_); refine wpList_box_own HO.out rfl 41 (.tmp 1) rfl ds rfl ?_; intro WB b2 hO; replace HO := hide hO; clear hO; have k0p := (HO.out.cells 0 rfl 0).trans HC0p.out; have k1p := (HO.out.cells 0 rfl 1).trans HC1p.out; have k2p := (HO.out.cells 0 rfl 2).trans HC2p.out; have k3p := (HO.out.cells 0 rfl 3).trans HC3p.out; have k4p := (HO.out.cells 0 rfl 4).trans HC4p.out; have k6p := (HO.out.cells 0 rfl 6).trans HC6p.out; have k7p := (HO.out.cells 0 rfl 7).trans HC7p.out; have k8p := (HO.out.cells 0 rfl 8).trans HC8p.out; have k17p := (HO.out.cells 0 rfl 17).trans HC17p.out; have k5p := (HO.out.cells 0 rfl 5).trans HC5p.out; have k33p := (HO.out.cells 0 rfl 33).trans HC33p.out; have k0q := (HO.out.cells 1 rfl 0).trans HC0q.out; have k1q := (HO.out.cells 1 rfl 1).trans HC1q.out; have k2q := (HO.out.cells 1 rfl 2).trans HC2q.out; have k3q := (HO.out.cells 1 rfl 3).trans HC3q.out; have k4q := (HO.out.cells 1 rfl 4).trans HC4q.out; have k6q := (HO.out.cells 1 rfl 6).trans HC6q.out; have k7q := (HO.out.cells 1 rfl 7).trans HC7q.out; have k8q := (HO.out.cells 1 rfl 8).trans HC8q.out; have k17q := (HO.out.cells 1 rfl 17).trans HC17q.out; have k5q := (HO.out.cells 1 rfl 5).trans HC5q.out; have k33q := (HO.out.cells 1 rfl 33).trans HC33q.out)
   | fail)
  go_ret
  exact ⟨HO.out.below, false, rfl, nof (fun h => absurd (h.2.2.2.2.2.1) HC_5.out)⟩
 have hq5 : (p.body.toList == q.body.toList) = true := str_eq hc5
 have HC_5 := hide hc5;clear hc5
 by_cases hc6 : p.n 6 = q.n 6
 rotate_left
 ·have hq6 : (p.n 6 == q.n 6) = false := by simpa using hc6
  have HC_6 := hide hc6;clear hc6
  go_wp2_with (first
   | ((with_reducible refine at_box 41 (.tmp 0) ?_); refine wpList_box_own HO.out rfl 41 (.tmp 0) rfl cs rfl ?_; intro WA b1 hO; replace HO := hide hO; clear hO)
   | ((with_reducible refine at_box 41 (.tmp 1) ?_); refine wpList_box_own HO.out rfl 41 (.tmp 1) rfl ds rfl ?_; intro WB b2 hO; replace HO := hide hO; clear hO; have k0p := (HO.out.cells 0 rfl 0).trans HC0p.out; have k1p := (HO.out.cells 0 rfl 1).trans HC1p.out; have k2p := (HO.out.cells 0 rfl 2).trans HC2p.out; have k3p := (HO.out.cells 0 rfl 3).trans HC3p.out; have k4p := (HO.out.cells 0 rfl 4).trans HC4p.out; have k6p := (HO.out.cells 0 rfl 6).trans HC6p.out; have k7p := (HO.out.cells 0 rfl 7).trans HC7p.out; have k8p := (HO.out.cells 0 rfl 8).trans HC8p.out; have k17p := (HO.out.cells 0 rfl 17).trans HC17p.out; have k5p := (HO.out.cells 0 rfl 5).trans HC5p.out; have k33p := (HO.out.cells 0 rfl 33).trans HC33p.out; have k0q := (HO.out.cells 1 rfl 0).trans HC0q.out; have k1q := (HO.out.cells 1 rfl 1).trans HC1q.out; have k2q := (HO.out.cells 1 rfl 2).trans HC2q.out; have k3q := (HO.out.cells 1 rfl 3).trans HC3q.out; have k4q := (HO.out.cells 1 rfl 4).trans HC4q.out; have k6q := (HO.out.cells 1 rfl 6).trans HC6q.out; have k7q := (HO.out.cells 1 rfl 7).trans HC7q.out; have k8q := (HO.out.cells 1 rfl 8).trans HC8q.out; have k17q := (HO.out.cells 1 rfl 17).trans HC17q.out; have k5q := (HO.out.cells 1 rfl 5).trans HC5q.out; have k33q := (HO.out.cells 1 rfl 33).trans HC33q.out)
   | fail)
  go_ret
  exact ⟨HO.out.below, false, rfl, nof (fun h => absurd (h.2.2.2.2.2.2.1) HC_6.out)⟩
 have hq6 : (p.n 6 == q.n 6) = true := by simpa using hc6
 have HC_6 := hide hc6;clear hc6
 by_cases hc7 : p.n 7 = q.n 7
 rotate_left
 ·have hq7 : (p.n 7 == q.n 7) = false := by simpa using hc7
  have HC_7 := hide hc7;clear hc7
  go_wp2_with (first
   | ((with_reducible refine at_box 41 (.tmp 0) ?_); refine wpList_box_own HO.out rfl 41 (.tmp 0) rfl cs rfl ?_; intro WA b1 hO; replace HO := hide hO; clear hO)
   | ((with_reducible refine at_box 41 (.tmp 1) ?_); refine wpList_box_own HO.out rfl 41 (.tmp 1) rfl ds rfl ?_; intro WB b2 hO; replace HO := hide hO; clear hO; have k0p := (HO.out.cells 0 rfl 0).trans HC0p.out; have k1p := (HO.out.cells 0 rfl 1).trans HC1p.out; have k2p := (HO.out.cells 0 rfl 2).trans HC2p.out; have k3p := (HO.out.cells 0 rfl 3).trans HC3p.out; have k4p := (HO.out.cells 0 rfl 4).trans HC4p.out; have k6p := (HO.out.cells 0 rfl 6).trans HC6p.out; have k7p := (HO.out.cells 0 rfl 7).trans HC7p.out; have k8p := (HO.out.cells 0 rfl 8).trans HC8p.out; have k17p := (HO.out.cells 0 rfl 17).trans HC17p.out; have k5p := (HO.out.cells 0 rfl 5).trans HC5p.out; have k33p := (HO.out.cells 0 rfl 33).trans HC33p.out; have k0q := (HO.out.cells 1 rfl 0).trans HC0q.out; have k1q := (HO.out.cells 1 rfl 1).trans HC1q.out; have k2q := (HO.out.cells 1 rfl 2).trans HC2q.out; have k3q := (HO.out.cells 1 rfl 3).trans HC3q.out; have k4q := (HO.out.cells 1 rfl 4).trans HC4q.out; have k6q := (HO.out.cells 1 rfl 6).trans HC6q.out; have k7q := (HO.out.cells 1 rfl 7).trans HC7q.out; have k8q := (HO.out.cells 1 rfl 8).trans HC8q.out; have k17q := (HO.out.cells 1 rfl 17).trans HC17q.out; have k5q := (HO.out.cells 1 rfl 5).trans HC5q.out; have k33q := (HO.out.cells 1 rfl 33).trans HC33q.out)
   | fail)
  go_ret
  exact ⟨HO.out.below, false, rfl, nof (fun h => absurd (h.2.2.2.2.2.2.2.1) HC_7.out)⟩
 have hq7 : (p.n 7 == q.n 7) = true := by simpa using hc7
 have HC_7 := hide hc7;clear hc7
 by_cases hc8 : p.n 8 = q.n 8
 rotate_left
 ·have hq8 : (p.n 8 == q.n 8) = false := by simpa using hc8
  have HC_8 := hide hc8;clear hc8
  go_wp2_with (first
   | ((with_reducible refine at_box 41 (.tmp 0) ?_); refine wpList_box_own HO.out rfl 41 (.tmp 0) rfl cs rfl ?_; intro WA b1 hO; replace HO := hide hO; clear hO)
   | ((with_reducible refine at_box 41 (.tmp 1) ?_); refine wpList_box_own HO.out rfl 41 (.tmp 1) rfl ds rfl ?_; intro WB b2 hO; replace HO := hide hO; clear hO; have k0p := (HO.out.cells 0 rfl 0).trans HC0p.out; have k1p := (HO.out.cells 0 rfl 1).trans HC1p.out; have k2p := (HO.out.cells 0 rfl 2).trans HC2p.out; have k3p := (HO.out.cells 0 rfl 3).trans HC3p.out; have k4p := (HO.out.cells 0 rfl 4).trans HC4p.out; have k6p := (HO.out.cells 0 rfl 6).trans HC6p.out; have k7p := (HO.out.cells 0 rfl 7).trans HC7p.out; have k8p := (HO.out.cells 0 rfl 8).trans HC8p.out; have k17p := (HO.out.cells 0 rfl 17).trans HC17p.out; have k5p := (HO.out.cells 0 rfl 5).trans HC5p.out; have k33p := (HO.out.cells 0 rfl 33).trans HC33p.out; have k0q := (HO.out.cells 1 rfl 0).trans HC0q.out; have k1q := (HO.out.cells 1 rfl 1).trans HC1q.out; have k2q := (HO.out.cells 1 rfl 2).trans HC2q.out; have k3q := (HO.out.cells 1 rfl 3).trans HC3q.out; have k4q := (HO.out.cells 1 rfl 4).trans HC4q.out; have k6q := (HO.out.cells 1 rfl 6).trans HC6q.out; have k7q := (HO.out.cells 1 rfl 7).trans HC7q.out; have k8q := (HO.out.cells 1 rfl 8).trans HC8q.out; have k17q := (HO.out.cells 1 rfl 17).trans HC17q.out; have k5q := (HO.out.cells 1 rfl 5).trans HC5q.out; have k33q := (HO.out.cells 1 rfl 33).trans HC33q.out)
   | fail)
  go_ret
  exact ⟨HO.out.below, false, rfl, nof (fun h => absurd (h.2.2.2.2.2.2.2.2.1) HC_8.out)⟩
 have hq8 : (p.n 8 == q.n 8) = true := by simpa using hc8
 have HC_8 := hide hc8;clear hc8
 go_wp2_with (first
  | ((with_reducible refine at_box 41 (.tmp 0) ?_); refine wpList_box_own HO.out rfl 41 (.tmp 0) rfl cs rfl ?_; intro WA b1 hO; replace HO := hide hO; clear hO)
  | ((with_reducible refine at_box 41 (.tmp 1) ?_); refine wpList_box_own HO.out rfl 41 (.tmp 1) rfl ds rfl ?_; intro WB b2 hO; replace HO := hide hO; clear hO; have k0p := (HO.out.cells 0 rfl 0).trans HC0p.out; have k1p := (HO.out.cells 0 rfl 1).trans HC1p.out; have k2p := (HO.out.cells 0 rfl 2).trans HC2p.out; have k3p := (HO.out.cells 0 rfl 3).trans HC3p.out; have k4p := (HO.out.cells 0 rfl 4).trans HC4p.out; have k6p := (HO.out.cells 0 rfl 6).trans HC6p.out; have k7p := (HO.out.cells 0 rfl 7).trans HC7p.out; have k8p := (HO.out.cells 0 rfl 8).trans HC8p.out; have k17p := (HO.out.cells 0 rfl 17).trans HC17p.out; have k5p := (HO.out.cells 0 rfl 5).trans HC5p.out; have k33p := (HO.out.cells 0 rfl 33).trans HC33p.out; have k0q := (HO.out.cells 1 rfl 0).trans HC0q.out; have k1q := (HO.out.cells 1 rfl 1).trans HC1q.out; have k2q := (HO.out.cells 1 rfl 2).trans HC2q.out; have k3q := (HO.out.cells 1 rfl 3).trans HC3q.out; have k4q := (HO.out.cells 1 rfl 4).trans HC4q.out; have k6q := (HO.out.cells 1 rfl 6).trans HC6q.out; have k7q := (HO.out.cells 1 rfl 7).trans HC7q.out; have k8q := (HO.out.cells 1 rfl 8).trans HC8q.out; have k17q := (HO.out.cells 1 rfl 17).trans HC17q.out; have k5q := (HO.out.cells 1 rfl 5).trans HC5q.out; have k33q := (HO.out.cells 1 rfl 33).trans HC33q.out)
  | ((with_reducible refine at_load 30 (.tmp 67) ?_); refine wpList_load_own_gq HO.out rfl 30 (.tmp 67) rfl 0 _ 9 4 _ _ ([.int .i64 (p.n 9), .int .i64 (p.n 10), .slice A11p n11p c11p, .slice A12p n12p c12p]) _ rfl HD9p.out rfl Try.underlying30 rfl size_chg ?_)
  | ((with_reducible refine at_load 30 (.tmp 69) ?_); refine wpList_load_own_gq HO.out rfl 30 (.tmp 69) rfl 1 _ 9 4 _ _ ([.int .i64 (q.n 9), .int .i64 (q.n 10), .slice A11q n11q c11q, .slice A12q n12q c12q]) _ rfl HD9q.out rfl Try.underlying30 rfl size_chg ?_)
  | fail)
 refine (sameChange_c (p.n 9) (p.n 10) (q.n 9) (q.n 10) _ (Li.step HL11p.out HO.out.below) (Li.step HL12p.out HO.out.below) (Li.step HL11q.out HO.out.below) (Li.step HL12q.out HO.out.below)).mono ?_
 rintro e w9' ⟨hb, x9, rfl, hx9⟩
 replace HO := hide (HO.out.step hb)
 have HX9 := hide hx9;clear hb hx9;clear k0p k1p k2p k3p k4p k6p k7p k8p k17p k5p k33p k0q k1q k2q k3q k4q k6q k7q k8q k17q k5q k33q
 have k0p := (HO.out.cells 0 rfl 0).trans HC0p.out
 have k1p := (HO.out.cells 0 rfl 1).trans HC1p.out
 have k2p := (HO.out.cells 0 rfl 2).trans HC2p.out
 have k3p := (HO.out.cells 0 rfl 3).trans HC3p.out
 have k4p := (HO.out.cells 0 rfl 4).trans HC4p.out
 have k6p := (HO.out.cells 0 rfl 6).trans HC6p.out
 have k7p := (HO.out.cells 0 rfl 7).trans HC7p.out
 have k8p := (HO.out.cells 0 rfl 8).trans HC8p.out
 have k17p := (HO.out.cells 0 rfl 17).trans HC17p.out
 have k5p := (HO.out.cells 0 rfl 5).trans HC5p.out
 have k33p := (HO.out.cells 0 rfl 33).trans HC33p.out
 have k0q := (HO.out.cells 1 rfl 0).trans HC0q.out
 have k1q := (HO.out.cells 1 rfl 1).trans HC1q.out
 have k2q := (HO.out.cells 1 rfl 2).trans HC2q.out
 have k3q := (HO.out.cells 1 rfl 3).trans HC3q.out
 have k4q := (HO.out.cells 1 rfl 4).trans HC4q.out
 have k6q := (HO.out.cells 1 rfl 6).trans HC6q.out
 have k7q := (HO.out.cells 1 rfl 7).trans HC7q.out
 have k8q := (HO.out.cells 1 rfl 8).trans HC8q.out
 have k17q := (HO.out.cells 1 rfl 17).trans HC17q.out
 have k5q := (HO.out.cells 1 rfl 5).trans HC5q.out
 have k33q := (HO.out.cells 1 rfl 33).trans HC33q.out
 cases x9 with
 | false =>
  go_wp2_with fail
  go_ret
  exact ⟨HO.out.below, false, rfl, nof (fun h => absurd (h.2.2.2.2.2.2.2.2.2.1) (by simpa using HX9.out))⟩
 | true =>
  have HC_9 := hide (HX9.out.1 rfl)
  by_cases hc10 : p.n 13 = q.n 13
  rotate_left
  ·have hq10 : (p.n 13 == q.n 13) = false := by simpa using hc10
   have hr10 : decide (p.n 13 = q.n 13) = false := by simpa using hc10
   have HC_10 := hide hc10;clear hc10
   go_wp2_with (first
    | ((with_reducible refine at_load 32 (.tmp 74) ?_); refine wpList_load_own_gq HO.out rfl 32 (.tmp 74) rfl 0 _ 13 4 _ _ ([.int .i64 (p.n 13), .int .i64 (p.n 14), .int .i64 (p.n 15), .int .i64 (p.n 16)]) _ rfl HD13p.out rfl Try.underlying32 rfl size_unit ?_)
    | ((with_reducible refine at_load 32 (.tmp 76) ?_); refine wpList_load_own_gq HO.out rfl 32 (.tmp 76) rfl 1 _ 13 4 _ _ ([.int .i64 (q.n 13), .int .i64 (q.n 14), .int .i64 (q.n 15), .int .i64 (q.n 16)]) _ rfl HD13q.out rfl Try.underlying32 rfl size_unit ?_)
    | fail)
   go_ret
   exact ⟨HO.out.below, false, rfl, nof (fun h => absurd (h.2.2.2.2.2.2.2.2.2.2.1) HC_10.out)⟩
  have hq10 : (p.n 13 == q.n 13) = true := by simpa using hc10
  have hr10 : decide (p.n 13 = q.n 13) = true := by simpa using hc10
  have HC_10 := hide hc10;clear hc10
  by_cases hc11 : p.n 14 = q.n 14
  rotate_left
  ·have hq11 : (p.n 14 == q.n 14) = false := by simpa using hc11
   have hr11 : decide (p.n 14 = q.n 14) = false := by simpa using hc11
   have HC_11 := hide hc11;clear hc11
   go_wp2_with (first
    | ((with_reducible refine at_load 32 (.tmp 74) ?_); refine wpList_load_own_gq HO.out rfl 32 (.tmp 74) rfl 0 _ 13 4 _ _ ([.int .i64 (p.n 13), .int .i64 (p.n 14), .int .i64 (p.n 15), .int .i64 (p.n 16)]) _ rfl HD13p.out rfl Try.underlying32 rfl size_unit ?_)
    | ((with_reducible refine at_load 32 (.tmp 76) ?_); refine wpList_load_own_gq HO.out rfl 32 (.tmp 76) rfl 1 _ 13 4 _ _ ([.int .i64 (q.n 13), .int .i64 (q.n 14), .int .i64 (q.n 15), .int .i64 (q.n 16)]) _ rfl HD13q.out rfl Try.underlying32 rfl size_unit ?_)
    | fail)
   go_ret
   exact ⟨HO.out.below, false, rfl, nof (fun h => absurd (h.2.2.2.2.2.2.2.2.2.2.2.1) HC_11.out)⟩
  have hq11 : (p.n 14 == q.n 14) = true := by simpa using hc11
  have hr11 : decide (p.n 14 = q.n 14) = true := by simpa using hc11
  have HC_11 := hide hc11;clear hc11
  by_cases hc12 : p.n 15 = q.n 15
  rotate_left
  ·have hq12 : (p.n 15 == q.n 15) = false := by simpa using hc12
   have hr12 : decide (p.n 15 = q.n 15) = false := by simpa using hc12
   have HC_12 := hide hc12;clear hc12
   go_wp2_with (first
    | ((with_reducible refine at_load 32 (.tmp 74) ?_); refine wpList_load_own_gq HO.out rfl 32 (.tmp 74) rfl 0 _ 13 4 _ _ ([.int .i64 (p.n 13), .int .i64 (p.n 14), .int .i64 (p.n 15), .int .i64 (p.n 16)]) _ rfl HD13p.out rfl Try.underlying32 rfl size_unit ?_)
    | ((with_reducible refine at_load 32 (.tmp 76) ?_); refine wpList_load_own_gq HO.out rfl 32 (.tmp 76) rfl 1 _ 13 4 _ _ ([.int .i64 (q.n 13), .int .i64 (q.n 14), .int .i64 (q.n 15), .int .i64 (q.n 16)]) _ rfl HD13q.out rfl Try.underlying32 rfl size_unit ?_)
    | fail)
   go_ret
   exact ⟨HO.out.below, false, rfl, nof (fun h => absurd (h.2.2.2.2.2.2.2.2.2.2.2.2.1) HC_12.out)⟩
  have hq12 : (p.n 15 == q.n 15) = true := by simpa using hc12
  have hr12 : decide (p.n 15 = q.n 15) = true := by simpa using hc12
  have HC_12 := hide hc12;clear hc12
  by_cases hc13 : p.n 16 = q.n 16
  rotate_left
  ·have hq13 : (p.n 16 == q.n 16) = false := by simpa using hc13
   have hr13 : decide (p.n 16 = q.n 16) = false := by simpa using hc13
   have HC_13 := hide hc13;clear hc13
   go_wp2_with (first
    | ((with_reducible refine at_load 32 (.tmp 74) ?_); refine wpList_load_own_gq HO.out rfl 32 (.tmp 74) rfl 0 _ 13 4 _ _ ([.int .i64 (p.n 13), .int .i64 (p.n 14), .int .i64 (p.n 15), .int .i64 (p.n 16)]) _ rfl HD13p.out rfl Try.underlying32 rfl size_unit ?_)
    | ((with_reducible refine at_load 32 (.tmp 76) ?_); refine wpList_load_own_gq HO.out rfl 32 (.tmp 76) rfl 1 _ 13 4 _ _ ([.int .i64 (q.n 13), .int .i64 (q.n 14), .int .i64 (q.n 15), .int .i64 (q.n 16)]) _ rfl HD13q.out rfl Try.underlying32 rfl size_unit ?_)
    | fail)
   go_ret
   exact ⟨HO.out.below, false, rfl, nof (fun h => absurd (h.2.2.2.2.2.2.2.2.2.2.2.2.2.1) HC_13.out)⟩
  have hq13 : (p.n 16 == q.n 16) = true := by simpa using hc13
  have hr13 : decide (p.n 16 = q.n 16) = true := by simpa using hc13
  have HC_13 := hide hc13;clear hc13
  by_cases hc14 : p.n 17 = q.n 17
  rotate_left
  ·have hq14 : (p.n 17 == q.n 17) = false := by simpa using hc14
   have HC_14 := hide hc14;clear hc14
   go_wp2_with (first
    | ((with_reducible refine at_load 32 (.tmp 74) ?_); refine wpList_load_own_gq HO.out rfl 32 (.tmp 74) rfl 0 _ 13 4 _ _ ([.int .i64 (p.n 13), .int .i64 (p.n 14), .int .i64 (p.n 15), .int .i64 (p.n 16)]) _ rfl HD13p.out rfl Try.underlying32 rfl size_unit ?_)
    | ((with_reducible refine at_load 32 (.tmp 76) ?_); refine wpList_load_own_gq HO.out rfl 32 (.tmp 76) rfl 1 _ 13 4 _ _ ([.int .i64 (q.n 13), .int .i64 (q.n 14), .int .i64 (q.n 15), .int .i64 (q.n 16)]) _ rfl HD13q.out rfl Try.underlying32 rfl size_unit ?_)
    | fail)
   go_ret
   exact ⟨HO.out.below, false, rfl, nof (fun h => absurd (h.2.2.2.2.2.2.2.2.2.2.2.2.2.2.1) HC_14.out)⟩
  have hq14 : (p.n 17 == q.n 17) = true := by simpa using hc14
  have HC_14 := hide hc14;clear hc14
  go_wp2_with (first
   | ((with_reducible refine at_load 32 (.tmp 74) ?_); refine wpList_load_own_gq HO.out rfl 32 (.tmp 74) rfl 0 _ 13 4 _ _ ([.int .i64 (p.n 13), .int .i64 (p.n 14), .int .i64 (p.n 15), .int .i64 (p.n 16)]) _ rfl HD13p.out rfl Try.underlying32 rfl size_unit ?_)
   | ((with_reducible refine at_load 32 (.tmp 76) ?_); refine wpList_load_own_gq HO.out rfl 32 (.tmp 76) rfl 1 _ 13 4 _ _ ([.int .i64 (q.n 13), .int .i64 (q.n 14), .int .i64 (q.n 15), .int .i64 (q.n 16)]) _ rfl HD13q.out rfl Try.underlying32 rfl size_unit ?_)
   | ((with_reducible refine at_load 36 (.tmp 88) ?_); refine wpList_load_own_gq HO.out rfl 36 (.tmp 88) rfl 0 _ 18 15 _ _ ([.int .i64 (p.n 18), .int .i64 (p.n 19), .int .i64 (p.n 20), .int .i64 (p.n 21), .int .i64 (p.n 22), .int .i64 (p.n 23), .int .i64 (p.n 24), .int .i64 (p.n 25), .slice A26p n26p c26p, .slice A27p n27p c27p, .slice A28p n28p c28p, .slice A29p n29p c29p, .slice A30p n30p c30p, .slice A31p n31p c31p, .slice A32p n32p c32p]) _ rfl HD18p.out rfl Try.underlying36 rfl size_sta ?_)
   | ((with_reducible refine at_load 36 (.tmp 90) ?_); refine wpList_load_own_gq HO.out rfl 36 (.tmp 90) rfl 1 _ 18 15 _ _ ([.int .i64 (q.n 18), .int .i64 (q.n 19), .int .i64 (q.n 20), .int .i64 (q.n 21), .int .i64 (q.n 22), .int .i64 (q.n 23), .int .i64 (q.n 24), .int .i64 (q.n 25), .slice A26q n26q c26q, .slice A27q n27q c27q, .slice A28q n28q c28q, .slice A29q n29q c29q, .slice A30q n30q c30q, .slice A31q n31q c31q, .slice A32q n32q c32q]) _ rfl HD18q.out rfl Try.underlying36 rfl size_sta ?_)
   | fail)
  refine (sameStatus_c (p.n 18) (p.n 19) (p.n 20) (p.n 21) (p.n 22) (p.n 23) (p.n 24) (p.n 25) (q.n 18) (q.n 19) (q.n 20) (q.n 21) (q.n 22) (q.n 23) (q.n 24) (q.n 25) _ (Li.step HL26p.out HO.out.below) (Li.step HL27p.out HO.out.below) (Li.step HL28p.out HO.out.below) (Li.step HL29p.out HO.out.below) (Li.step HL30p.out HO.out.below) (Li.step HL31p.out HO.out.below) (Li.step HL32p.out HO.out.below) (Li.step HL26q.out HO.out.below) (Li.step HL27q.out HO.out.below) (Li.step HL28q.out HO.out.below) (Li.step HL29q.out HO.out.below) (Li.step HL30q.out HO.out.below) (Li.step HL31q.out HO.out.below) (Li.step HL32q.out HO.out.below)).mono ?_
  rintro e w15' ⟨hb, x15, rfl, hx15⟩
  replace HO := hide (HO.out.step hb)
  have HX15 := hide hx15;clear hb hx15;clear k0p k1p k2p k3p k4p k6p k7p k8p k17p k5p k33p k0q k1q k2q k3q k4q k6q k7q k8q k17q k5q k33q
  have k0p := (HO.out.cells 0 rfl 0).trans HC0p.out
  have k1p := (HO.out.cells 0 rfl 1).trans HC1p.out
  have k2p := (HO.out.cells 0 rfl 2).trans HC2p.out
  have k3p := (HO.out.cells 0 rfl 3).trans HC3p.out
  have k4p := (HO.out.cells 0 rfl 4).trans HC4p.out
  have k6p := (HO.out.cells 0 rfl 6).trans HC6p.out
  have k7p := (HO.out.cells 0 rfl 7).trans HC7p.out
  have k8p := (HO.out.cells 0 rfl 8).trans HC8p.out
  have k17p := (HO.out.cells 0 rfl 17).trans HC17p.out
  have k5p := (HO.out.cells 0 rfl 5).trans HC5p.out
  have k33p := (HO.out.cells 0 rfl 33).trans HC33p.out
  have k0q := (HO.out.cells 1 rfl 0).trans HC0q.out
  have k1q := (HO.out.cells 1 rfl 1).trans HC1q.out
  have k2q := (HO.out.cells 1 rfl 2).trans HC2q.out
  have k3q := (HO.out.cells 1 rfl 3).trans HC3q.out
  have k4q := (HO.out.cells 1 rfl 4).trans HC4q.out
  have k6q := (HO.out.cells 1 rfl 6).trans HC6q.out
  have k7q := (HO.out.cells 1 rfl 7).trans HC7q.out
  have k8q := (HO.out.cells 1 rfl 8).trans HC8q.out
  have k17q := (HO.out.cells 1 rfl 17).trans HC17q.out
  have k5q := (HO.out.cells 1 rfl 5).trans HC5q.out
  have k33q := (HO.out.cells 1 rfl 33).trans HC33q.out
  cases x15 with
  | false =>
   go_wp2_with fail
   go_ret
   exact ⟨HO.out.below, false, rfl, nof (fun h => absurd (h.2.2.2.2.2.2.2.2.2.2.2.2.2.2.2.1) (by simpa using HX15.out))⟩
  | true =>
   have HC_15 := hide (HX15.out.1 rfl)
   go_wp2_with fail
   refine (sameInts_c _ _ (p.li 33) (q.li 33) _ (Li.step HL33p.out HO.out.below) (Li.step HL33q.out HO.out.below)).mono ?_
   rintro e w16' ⟨hb, x16, rfl, hx16⟩
   replace HO := hide (HO.out.step hb)
   have HX16 := hide hx16;clear hb hx16;clear k0p k1p k2p k3p k4p k6p k7p k8p k17p k5p k33p k0q k1q k2q k3q k4q k6q k7q k8q k17q k5q k33q
   have k0p := (HO.out.cells 0 rfl 0).trans HC0p.out
   have k1p := (HO.out.cells 0 rfl 1).trans HC1p.out
   have k2p := (HO.out.cells 0 rfl 2).trans HC2p.out
   have k3p := (HO.out.cells 0 rfl 3).trans HC3p.out
   have k4p := (HO.out.cells 0 rfl 4).trans HC4p.out
   have k6p := (HO.out.cells 0 rfl 6).trans HC6p.out
   have k7p := (HO.out.cells 0 rfl 7).trans HC7p.out
   have k8p := (HO.out.cells 0 rfl 8).trans HC8p.out
   have k17p := (HO.out.cells 0 rfl 17).trans HC17p.out
   have k5p := (HO.out.cells 0 rfl 5).trans HC5p.out
   have k33p := (HO.out.cells 0 rfl 33).trans HC33p.out
   have k0q := (HO.out.cells 1 rfl 0).trans HC0q.out
   have k1q := (HO.out.cells 1 rfl 1).trans HC1q.out
   have k2q := (HO.out.cells 1 rfl 2).trans HC2q.out
   have k3q := (HO.out.cells 1 rfl 3).trans HC3q.out
   have k4q := (HO.out.cells 1 rfl 4).trans HC4q.out
   have k6q := (HO.out.cells 1 rfl 6).trans HC6q.out
   have k7q := (HO.out.cells 1 rfl 7).trans HC7q.out
   have k8q := (HO.out.cells 1 rfl 8).trans HC8q.out
   have k17q := (HO.out.cells 1 rfl 17).trans HC17q.out
   have k5q := (HO.out.cells 1 rfl 5).trans HC5q.out
   have k33q := (HO.out.cells 1 rfl 33).trans HC33q.out
   cases x16 with
   | false =>
    go_wp2_with fail
    go_ret
    exact ⟨HO.out.below, false, rfl, nof (fun h => absurd (h.2.2.2.2.2.2.2.2.2.2.2.2.2.2.2.2.1) (by simpa using HX16.out))⟩
   | true =>
    have HC_16 := hide (HX16.out.1 rfl)
    go_wp2_with (first
     | ((with_reducible refine at_load 39 (.tmp 102) ?_); refine wpList_load_own_gq HO.out rfl 39 (.tmp 102) rfl 0 _ 34 13 _ _ ([.int .i64 (p.n 34), .int .i64 (p.n 35), .int .i64 (p.n 36), .int .i64 (p.n 37), .int .i64 (p.n 38), .int .i64 (p.n 39), .int .i64 (p.n 40), .int .i64 (p.n 41), .bool p.gr, .slice A43p n43p c43p, .int .i64 (p.n 44), .string p.d, .bool p.dn]) _ rfl HD34p.out rfl Try.underlying39 rfl size_gm ?_)
     | ((with_reducible refine at_load 39 (.tmp 104) ?_); refine wpList_load_own_gq HO.out rfl 39 (.tmp 104) rfl 1 _ 34 13 _ _ ([.int .i64 (q.n 34), .int .i64 (q.n 35), .int .i64 (q.n 36), .int .i64 (q.n 37), .int .i64 (q.n 38), .int .i64 (q.n 39), .int .i64 (q.n 40), .int .i64 (q.n 41), .bool q.gr, .slice A43q n43q c43q, .int .i64 (q.n 44), .string q.d, .bool q.dn]) _ rfl HD34q.out rfl Try.underlying39 rfl size_gm ?_)
     | fail)
    refine (sameMessage_c (p.n 34) (p.n 35) (p.n 36) (p.n 37) (p.n 38) (p.n 39) (p.n 40) (p.n 41) (p.n 44) (q.n 34) (q.n 35) (q.n 36) (q.n 37) (q.n 38) (q.n 39) (q.n 40) (q.n 41) (q.n 44) p.gr q.gr p.dn q.dn p.d q.d _ ((HEp.out.below HO.out.below).mono HO.out.below.size) ((HEq.out.below HO.out.below).mono HO.out.below.size)).mono ?_
    rintro e w17' ⟨hb, x17, rfl, hx17⟩
    replace HO := hide (HO.out.step hb)
    have HX17 := hide hx17;clear hb hx17;clear k0p k1p k2p k3p k4p k6p k7p k8p k17p k5p k33p k0q k1q k2q k3q k4q k6q k7q k8q k17q k5q k33q
    have k0p := (HO.out.cells 0 rfl 0).trans HC0p.out
    have k1p := (HO.out.cells 0 rfl 1).trans HC1p.out
    have k2p := (HO.out.cells 0 rfl 2).trans HC2p.out
    have k3p := (HO.out.cells 0 rfl 3).trans HC3p.out
    have k4p := (HO.out.cells 0 rfl 4).trans HC4p.out
    have k6p := (HO.out.cells 0 rfl 6).trans HC6p.out
    have k7p := (HO.out.cells 0 rfl 7).trans HC7p.out
    have k8p := (HO.out.cells 0 rfl 8).trans HC8p.out
    have k17p := (HO.out.cells 0 rfl 17).trans HC17p.out
    have k5p := (HO.out.cells 0 rfl 5).trans HC5p.out
    have k33p := (HO.out.cells 0 rfl 33).trans HC33p.out
    have k0q := (HO.out.cells 1 rfl 0).trans HC0q.out
    have k1q := (HO.out.cells 1 rfl 1).trans HC1q.out
    have k2q := (HO.out.cells 1 rfl 2).trans HC2q.out
    have k3q := (HO.out.cells 1 rfl 3).trans HC3q.out
    have k4q := (HO.out.cells 1 rfl 4).trans HC4q.out
    have k6q := (HO.out.cells 1 rfl 6).trans HC6q.out
    have k7q := (HO.out.cells 1 rfl 7).trans HC7q.out
    have k8q := (HO.out.cells 1 rfl 8).trans HC8q.out
    have k17q := (HO.out.cells 1 rfl 17).trans HC17q.out
    have k5q := (HO.out.cells 1 rfl 5).trans HC5q.out
    have k33q := (HO.out.cells 1 rfl 33).trans HC33q.out
    cases x17 with
    | false =>
     go_wp2_with fail
     go_ret
     exact ⟨HO.out.below, false, rfl, nof (fun h => absurd (h.2.2.2.2.2.2.2.2.2.2.2.2.2.2.2.2.2) (by simpa using HX17.out))⟩
    | true =>
     have HC_17 := hide (HX17.out.1 rfl)
     go_wp2_with fail
     go_ret
     exact ⟨HO.out.below, true, rfl, ⟨fun _ => ⟨HC_0.out, HC_1.out, HC_2.out, HC_3.out, HC_4.out, HC_5.out, HC_6.out, HC_7.out, HC_8.out, HC_9.out, HC_10.out, HC_11.out, HC_12.out, HC_13.out, HC_14.out, HC_15.out, HC_16.out, HC_17.out⟩, fun _ => rfl⟩⟩
end Go.Proofs.Ytpbgelhjbfckcaa
