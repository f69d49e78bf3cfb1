/- How large what is read can be (plain). -/
import Derived.Test.YtpbgelhjbfckcaaV17
namespace Go.Proofs.Ytpbgelhjbfckcaa
set_option linter.unusedVariables false
set_option linter.unusedSimpArgs false
set_option maxRecDepth 100000
section
attribute [local irreducible] rList rGL rText rCnt rBool rInt rInts rCount
end
/-- Nothing in it is longer than N. -/
structure Bnd (N : Nat) (p : PM) : Prop where
 li : ∀ o, (p.li o).length ≤ N
 body : p.body.size ≤ N
 d : p.d.size ≤ N
 l : p.l.length ≤ N
 en : ∀ x ∈ p.l, x.Ok ∧ x.size ≤ 6 * N + 40
section
attribute [local irreducible] rList rGL rText rCnt rBool rInt rInts rCount rEns
end
section
attribute [local irreducible] rList rGL rText rCnt rBool rInt rInts rCount rLists dMsg
end
section
open List renaming getElem_toArray → qa, getElem_cons_zero → qb, getElem_cons_succ → qc, setIfInBounds_toArray → qd, set_cons_zero → qe, set_cons_succ → qf
open Go.ChangeShapes Go.WideShapes Go.ChangeAt Go.RowKit
theorem str_ne {a b : ByteArray} (h : ¬ a = b) : (a.toList == b.toList) = false := by simpa [ByteArray.toList_eq, ← Array.toList_inj] using fun e => h (ba_inj e)
theorem str_eq {a b : ByteArray} (h : a = b) : (a.toList == b.toList) = true := by rw [h]; simp
theorem wpList_load_own_gq {P : Program} {w w0 : World} {S : List Nat} {L : List (Nat × TypeId × List Value)} {ops : Array Oper} {rest : List Oper} {op : Oper} {a : Act} {Q : Exit → Act → World → Prop} (HO : Own w0 S L w) (hw : Region.wanted op (yielded ops a.tmps) = true) (ty : TypeId) (x : Operand) (ho : op.op = .load ty x) (i g o n : Nat) (t : TypeId) (cs vs : List Value) (d : TypeDesc) (hL : L[i]? = some (g, t, cs)) (hv : (cs.drop o).take n = vs)
 (hx : a.eval x = .pointer (some ⟨g, o, none⟩)) (hu : P.underlying ty = some d) (hd : d.isRow = true) (hi : (P.info? ty).map (·.size) = some vs.length)
 (h : wpList P ops Q rest (a.put op.dst (.agg vs.toArray)) w) : wpList P ops Q (op :: rest) a w :=
 wpList_step fun K hK => by
  rw [if_pos hw]
  exact wp_load_mid ty x ho g o hx vs d (own_range HO i hL hv) hu hd hi (hK _ _ h)
/-- A comparison answers whether p. -/
def SameR (w : World) (p : Prop) (e : Ending) (w' : World) : Prop := Below w.heap.size w w' ∧ ∃ x : Bool, e = .returned (.bool x) ∧ (x = true ↔ p)
set_option maxHeartbeats 4000000 in
theorem sameInts_c (v u : Value) (a b : List Int) (w : World) (h : Li w v a) (h' : Li w u b) : Calls Try.prog 31 #[v, u] w (SameR w (a = b)) := by
 obtain ⟨A, n, c, rfl, hn, hnc, hcm⟩ := LiB.form h
 obtain ⟨A', n', c', rfl, hn', hnc', hcm'⟩ := LiB.form h'
 have H := hide h
 have H' := hide h'
 have HN := hide hn.out
 have HN' := hide hn'.out
 clear h h' hn hn'
 by_cases hl : n = n'
 rotate_left
 ·have hi : ((n : Int) == (n' : Int)) = false := by
   rw [beq_eq_false_iff_ne]
   omega
  have HL := hide hl;clear hl
  go_enter Try.func31, Try.ntmps31
  go_wp2_with fail
  go_ret
  exact ⟨Below.refl _ _, false, rfl, nof (fun h => absurd (by rw [HN.out, HN'.out, h]) HL.out)⟩
 subst hl
 go_enter Try.func31, Try.ntmps31
 go_wp2_with fail
 go_loopw [5] (fun v5 wr => ∃ j : Nat, v5 = .int .i64 j ∧ j ≤ n ∧ Below w.heap.size w wr ∧ ∀ i, i < j → a[i]? = b[i]?) (fun v5 _ => n - (intOf v5).toNat)
 case atStart => exact ⟨0, rfl, Nat.zero_le _, Below.refl _ _, by intro i hi; omega⟩
 case round =>
  obtain ⟨j, rfl, hj, hb, hp⟩ := hrel
  have HB := hide hb;have HP := hide hp;clear hb hp
  by_cases hlt : j < n
  ·have hji : (j : Int) < (n : Int) := by omega
   have hja : j < a.length := by rw [← HN.out]; exact hlt
   have hjb : j < b.length := by rw [← HN'.out]; exact hlt
   obtain ⟨g, o, rfl, -, e1, -⟩ := LiB.at_ (LiB.below H.out HB.out) j hja
   obtain ⟨g', o', rfl, -, e2, -⟩ := LiB.at_ (LiB.below H'.out HB.out) j hjb
   obtain ⟨x, hx⟩ : ∃ x, a[j] = x := ⟨_, rfl⟩
   obtain ⟨y, hy⟩ : ∃ y, b[j] = y := ⟨_, rfl⟩
   rw [hx] at e1
   rw [hy] at e2
   have HX : Hid (a[j]? = some x ∧ b[j]? = some y) := hide ⟨by rw [List.getElem?_eq_getElem hja, hx], by rw [List.getElem?_eq_getElem hjb, hy]⟩
   have HLT := hide hlt;clear hx hy hja hjb hlt hj
   have hd1 : wr.drew.cell? ⟨g, o + j, none⟩ = some (.int .i64 x) := e1
   have hd2 : wr.drew.cell? ⟨g', o' + j, none⟩ = some (.int .i64 y) := e2
   by_cases hxy : x = y
   rotate_left
   ·have hq : (x == y) = false := by simpa using hxy
    have hq2 : (x != y) = true := by simp [bne, hq]
    have HNE := hide hxy;clear hxy
    go_wp2_with fail
    refine wp_region_held_drew (S := fun W => W.cell? ⟨g, o + j, none⟩ = some (.int .i64 x) ∧ W.cell? ⟨g', o' + j, none⟩ = some (.int .i64 y)) (by kernel_rfl) (⟨e1, e2⟩) (fun hS0 => ?_)
    refine tk 0 ?_;refine tk 1 ?_;refine tk 2 ?_;refine tk 3 ?_;refine tk 4 ?_;refine tk 5 ?_;refine tk 6 ?_;refine tk 7 ?_;refine tk 8 ?_
    refine wpAnyH_done (by kernel_rfl) ?_ _
    go_wp2_with fail
    go_ret
    refine ⟨HB.out.drew, false, rfl, nof (fun h => ?_)⟩
    subst h
    have := HX.out.1.symm.trans HX.out.2
    exact absurd (by injection this) HNE.out
   ·have hq : (x == y) = true := by simpa using hxy
    have hq2 : (x != y) = false := by simp [bne, hq]
    have HNE := hide hxy;clear hxy
    go_wp2_with fail
    refine wp_region_held_drew (S := fun W => W.cell? ⟨g, o + j, none⟩ = some (.int .i64 x) ∧ W.cell? ⟨g', o' + j, none⟩ = some (.int .i64 y)) (by kernel_rfl) (⟨e1, e2⟩) (fun hS0 => ?_)
    refine tk 0 ?_;refine tk 1 ?_;refine tk 2 ?_;refine tk 3 ?_;refine tk 4 ?_;refine tk 5 ?_;refine tk 6 ?_;refine tk 7 ?_;refine tk 8 ?_
    refine wpAnyH_done (by kernel_rfl) ?_ _
    go_wp2_with fail
    go_roundw
    case rel =>
     refine ⟨j + 1, by go_num, HLT.out, HB.out.drew, fun i hi => ?_⟩
     by_cases e : i = j
     ·subst e; rw [HX.out.1, HX.out.2, HNE.out]
     ·exact HP.out i (by omega)
    case measure => have := HLT.out; simp [intOf]; omega
  ·obtain rfl : j = n := by omega
   clear hlt hj
   go_wp2_with fail
   go_ret
   refine ⟨HB.out, true, rfl, ⟨fun _ => ?_, fun _ => rfl⟩⟩
   refine List.ext_getElem? fun i => ?_
   by_cases hi : i < j
   ·exact HP.out i hi
   ·rw [List.getElem?_eq_none (by rw [← HN.out]; omega), List.getElem?_eq_none (by rw [← HN'.out]; omega)]
set_option maxHeartbeats 4000000 in
theorem sameConfig_c {A0p : Option Addr} {n0p c0p : Nat} {l0p : List Int} {A1p : Option Addr} {n1p c1p : Nat} {l1p : List Int} {A2p : Option Addr} {n2p c2p : Nat} {l2p : List Int} {A0q : Option Addr} {n0q c0q : Nat} {l0q : List Int} {A1q : Option Addr} {n1q c1q : Nat} {l1q : List Int} {A2q : Option Addr} {n2q c2q : Nat} {l2q : List Int} (w : World) (h0p : Li w (.slice A0p n0p c0p) l0p) (h1p : Li w (.slice A1p n1p c1p) l1p) (h2p : Li w (.slice A2p n2p c2p) l2p) (h0q : Li w (.slice A0q n0q c0q) l0q) (h1q : Li w (.slice A1q n1q c1q) l1q) (h2q : Li w (.slice A2q n2q c2q) l2q) :
 Calls Try.prog 48 #[.agg ([.slice A0p n0p c0p, .slice A1p n1p c1p, .slice A2p n2p c2p] : List Value).toArray, .agg ([.slice A0q n0q c0q, .slice A1q n1q c1q, .slice A2q n2q c2q] : List Value).toArray] w (SameR w (l0p = l0q ∧ l1p = l1q ∧ l2p = l2q)) := by
 have H0p := hide h0p;have H1p := hide h1p;have H2p := hide h2p;have H0q := hide h0q;have H1q := hide h1q;have H2q := hide h2q;clear h0p h1p h2p h0q h1q h2q
 have HO := hide (Own.nil w [] (by simp))
 go_enter Try.func48, Try.ntmps48
 try simp only [List.append_eq, List.cons_append, List.nil_append]
 go_wp2_with (first
  | ((with_reducible refine at_box 34 (.tmp 0) ?_); refine wpList_box_own HO.out rfl 34 (.tmp 0) rfl ([.slice A0p n0p c0p, .slice A1p n1p c1p, .slice A2p n2p c2p]) rfl ?_; intro WA b1 hO; replace HO := hide hO; clear hO)
  | ((with_reducible refine at_box 34 (.tmp 1) ?_); refine wpList_box_own HO.out rfl 34 (.tmp 1) rfl ([.slice A0q n0q c0q, .slice A1q n1q c1q, .slice A2q n2q c2q]) rfl ?_; intro WB b2 hO; replace HO := hide hO; clear hO; have k0 := HO.out.cells 0 rfl; have k1 := HO.out.cells 1 rfl)
  | fail)
 refine (sameInts_c _ _ l0p l0q _ (Li.step (H0p.out) HO.out.below) (Li.step (H0q.out) HO.out.below)).mono ?_
 rintro e w0' ⟨hb, x0, rfl, hx0⟩
 replace HO := hide (HO.out.step hb)
 have HX0 := hide hx0;clear hb hx0;clear k0 k1;have k0 := HO.out.cells 0 rfl;have k1 := HO.out.cells 1 rfl
 cases x0 with
 | false =>
  go_wp2_with fail
  go_ret
  exact ⟨HO.out.below, false, rfl, nof (fun h => absurd (h.1) (by simpa using HX0.out))⟩
 | true =>
  have HC0 := hide (HX0.out.1 rfl)
  go_wp2_with fail
  refine (sameInts_c _ _ l1p l1q _ (Li.step (H1p.out) HO.out.below) (Li.step (H1q.out) HO.out.below)).mono ?_
  rintro e w1' ⟨hb, x1, rfl, hx1⟩
  replace HO := hide (HO.out.step hb)
  have HX1 := hide hx1;clear hb hx1;clear k0 k1;have k0 := HO.out.cells 0 rfl;have k1 := HO.out.cells 1 rfl
  cases x1 with
  | false =>
   go_wp2_with fail
   go_ret
   exact ⟨HO.out.below, false, rfl, nof (fun h => absurd (h.2.1) (by simpa using HX1.out))⟩
  | true =>
   have HC1 := hide (HX1.out.1 rfl)
   go_wp2_with fail
   refine (sameInts_c _ _ l2p l2q _ (Li.step (H2p.out) HO.out.below) (Li.step (H2q.out) HO.out.below)).mono ?_
   rintro e w2' ⟨hb, x2, rfl, hx2⟩
   replace HO := hide (HO.out.step hb)
   have HX2 := hide hx2;clear hb hx2;clear k0 k1;have k0 := HO.out.cells 0 rfl;have k1 := HO.out.cells 1 rfl
   cases x2 with
   | false =>
    go_wp2_with fail
    go_ret
    exact ⟨HO.out.below, false, rfl, nof (fun h => absurd (h.2.2) (by simpa using HX2.out))⟩
   | true =>
    have HC2 := hide (HX2.out.1 rfl)
    go_wp2_with fail
    go_ret
    exact ⟨HO.out.below, true, rfl, ⟨fun _ => ⟨HC0.out, HC1.out, HC2.out⟩, fun _ => rfl⟩⟩
set_option maxHeartbeats 4000000 in
theorem sameChange_c (kp : Int) (mp : Int) (kq : Int) (mq : Int) {A0p : Option Addr} {n0p c0p : Nat} {l0p : List Int} {A1p : Option Addr} {n1p c1p : Nat} {l1p : List Int} {A0q : Option Addr} {n0q c0q : Nat} {l0q : List Int} {A1q : Option Addr} {n1q c1q : Nat} {l1q : List Int} (w : World) (h0p : Li w (.slice A0p n0p c0p) l0p) (h1p : Li w (.slice A1p n1p c1p) l1p) (h0q : Li w (.slice A0q n0q c0q) l0q) (h1q : Li w (.slice A1q n1q c1q) l1q) :
 Calls Try.prog 29 #[.agg ([.int .i64 kp, .int .i64 mp, .slice A0p n0p c0p, .slice A1p n1p c1p] : List Value).toArray, .agg ([.int .i64 kq, .int .i64 mq, .slice A0q n0q c0q, .slice A1q n1q c1q] : List Value).toArray] w (SameR w (kp = kq ∧ mp = mq ∧ l0p = l0q ∧ l1p = l1q)) := by
 have H0p := hide h0p;have H1p := hide h1p;have H0q := hide h0q;have H1q := hide h1q;clear h0p h1p h0q h1q
 have HO := hide (Own.nil w [] (by simp))
 go_enter Try.func29, Try.ntmps29
 try simp only [List.append_eq, List.cons_append, List.nil_append]
 by_cases hc0 : kp = kq
 rotate_left
 ·have hq0 : (kp == kq) = false := by simpa using hc0
  have HC0 := hide hc0;clear hc0
  go_wp2_with (first
   | ((with_reducible refine at_box 30 (.tmp 0) ?_); refine wpList_box_own HO.out rfl 30 (.tmp 0) rfl ([.int .i64 kp, .int .i64 mp, .slice A0p n0p c0p, .slice A1p n1p c1p]) rfl ?_; intro WA b1 hO; replace HO := hide hO; clear hO)
   | ((with_reducible refine at_box 30 (.tmp 1) ?_); refine wpList_box_own HO.out rfl 30 (.tmp 1) rfl ([.int .i64 kq, .int .i64 mq, .slice A0q n0q c0q, .slice A1q n1q c1q]) rfl ?_; intro WB b2 hO; replace HO := hide hO; clear hO; have k0 := HO.out.cells 0 rfl; have k1 := HO.out.cells 1 rfl)
   | fail)
  go_ret
  exact ⟨HO.out.below, false, rfl, nof (fun h => absurd (h.1) HC0.out)⟩
 have hq0 : (kp == kq) = true := by simpa using hc0
 have HC0 := hide hc0;clear hc0
 by_cases hc1 : mp = mq
 rotate_left
 ·have hq1 : (mp == mq) = false := by simpa using hc1
  have HC1 := hide hc1;clear hc1
  go_wp2_with (first
   | ((with_reducible refine at_box 30 (.tmp 0) ?_); refine wpList_box_own HO.out rfl 30 (.tmp 0) rfl ([.int .i64 kp, .int .i64 mp, .slice A0p n0p c0p, .slice A1p n1p c1p]) rfl ?_; intro WA b1 hO; replace HO := hide hO; clear hO)
   | ((with_reducible refine at_box 30 (.tmp 1) ?_); refine wpList_box_own HO.out rfl 30 (.tmp 1) rfl ([.int .i64 kq, .int .i64 mq, .slice A0q n0q c0q, .slice A1q n1q c1q]) rfl ?_; intro WB b2 hO; replace HO := hide hO; clear hO; have k0 := HO.out.cells 0 rfl; have k1 := HO.out.cells 1 rfl)
   | fail)
  go_ret
  exact ⟨HO.out.below, false, rfl, nof (fun h => absurd (h.2.1) HC1.out)⟩
 have hq1 : (mp == mq) = true := by simpa using hc1
 have HC1 := hide hc1;clear hc1
 go_wp2_with (first
  | ((with_reducible refine at_box 30 (.tmp 0) ?_); refine wpList_box_own HO.out rfl 30 (.tmp 0) rfl ([.int .i64 kp, .int .i64 mp, .slice A0p n0p c0p, .slice A1p n1p c1p]) rfl ?_; intro WA b1 hO; replace HO := hide hO; clear hO)
  | ((with_reducible refine at_box 30 (.tmp 1) ?_); refine wpList_box_own HO.out rfl 30 (.tmp 1) rfl ([.int .i64 kq, .int .i64 mq, .slice A0q n0q c0q, .slice A1q n1q c1q]) rfl ?_; intro WB b2 hO; replace HO := hide hO; clear hO; have k0 := HO.out.cells 0 rfl; have k1 := HO.out.cells 1 rfl)
  | fail)
 refine (sameInts_c _ _ l0p l0q _ (Li.step (H0p.out) HO.out.below) (Li.step (H0q.out) HO.out.below)).mono ?_
 rintro e w2' ⟨hb, x2, rfl, hx2⟩
 replace HO := hide (HO.out.step hb)
 have HX2 := hide hx2;clear hb hx2;clear k0 k1;have k0 := HO.out.cells 0 rfl;have k1 := HO.out.cells 1 rfl
 cases x2 with
 | false =>
  go_wp2_with fail
  go_ret
  exact ⟨HO.out.below, false, rfl, nof (fun h => absurd (h.2.2.1) (by simpa using HX2.out))⟩
 | true =>
  have HC2 := hide (HX2.out.1 rfl)
  go_wp2_with fail
  refine (sameInts_c _ _ l1p l1q _ (Li.step (H1p.out) HO.out.below) (Li.step (H1q.out) HO.out.below)).mono ?_
  rintro e w3' ⟨hb, x3, rfl, hx3⟩
  replace HO := hide (HO.out.step hb)
  have HX3 := hide hx3;clear hb hx3;clear k0 k1;have k0 := HO.out.cells 0 rfl;have k1 := HO.out.cells 1 rfl
  cases x3 with
  | false =>
   go_wp2_with fail
   go_ret
   exact ⟨HO.out.below, false, rfl, nof (fun h => absurd (h.2.2.2) (by simpa using HX3.out))⟩
  | true =>
   have HC3 := hide (HX3.out.1 rfl)
   go_wp2_with fail
   go_ret
   exact ⟨HO.out.below, true, rfl, ⟨fun _ => ⟨HC0.out, HC1.out, HC2.out, HC3.out⟩, fun _ => rfl⟩⟩
end
end Go.Proofs.Ytpbgelhjbfckcaa
