/- The reference's comparison of messages of groups. -/
import Derived.Test.YtpbgelhjbfckcaaV19
namespace Go.Proofs.Ytpbgelhjbfckcaa
set_option maxRecDepth 100000
set_option linter.unusedVariables false
set_option linter.unusedSimpArgs false
open List renaming getElem_toArray → qa, getElem_cons_zero → qb, getElem_cons_succ → qc, setIfInBounds_toArray → qd, set_cons_zero → qe, set_cons_succ → qf
open Go.ChangeShapes Go.WideShapes Go.ChangeAt Go.RowKit
theorem rangeAt_step {w w' : World} {g o : Nat} {cs : List Value} (h : w.rangeAt g o cs) (hg : g < w.heap.size) (k : Below w.heap.size w w') : w'.rangeAt g o cs := fun j v hv => (k.cell (p := ⟨g, o + j, none⟩) hg).trans (h j v hv)
set_option maxHeartbeats 8000000 in
theorem sameMessage_c (i0p i1p i2p i3p i4p i5p i6p i7p i8p i0q i1q i2q i3q i4q i5q i6q i7q i8q : Int) (grp grq dnp dnq : Bool) (dp dq : ByteArray) {Ap Aq : Option Addr} {np cp nq cq : Nat} {lp lq : List En} (w : World) (hp : EnsIn w w.heap.size (.slice Ap np cp) lp) (hq : EnsIn w w.heap.size (.slice Aq nq cq) lq) :
 Calls Try.prog 32 #[.agg ([.int .i64 i0p, .int .i64 i1p, .int .i64 i2p, .int .i64 i3p, .int .i64 i4p, .int .i64 i5p, .int .i64 i6p, .int .i64 i7p, .bool grp, .slice Ap np cp, .int .i64 i8p, .string dp, .bool dnp] : List Value).toArray, .agg ([.int .i64 i0q, .int .i64 i1q, .int .i64 i2q, .int .i64 i3q, .int .i64 i4q, .int .i64 i5q, .int .i64 i6q, .int .i64 i7q, .bool grq, .slice Aq nq cq, .int .i64 i8q, .string dq, .bool dnq] : List Value).toArray] w (SameR w (lp = lq ∧ i0p = i0q ∧ i1p = i1q ∧ i2p = i2q ∧ i3p = i3q ∧ i4p = i4q ∧ i5p = i5q ∧ i6p = i6q ∧ i7p = i7q ∧ grp = grq ∧ i8p = i8q ∧ dp = dq ∧ dnp = dnq)) := by
 have HNp : Hid (np = lp.length) := hide (by obtain ⟨_, _, _, e, hn, _⟩ := hp.form; injection e with _ e _; rw [e]; exact hn.out)
 have HNq : Hid (nq = lq.length) := hide (by obtain ⟨_, _, _, e, hn, _⟩ := hq.form; injection e with _ e _; rw [e]; exact hn.out)
 have hnb : np ≤ 9223372036854775807 := by
  obtain ⟨_, n', _, e, _, h1, h2⟩ := hp.form
  injection e with _ e _
  omega
 have HEp := hide hp;have HEq := hide hq
 have HO := hide (Own.nil w [] (by simp))
 clear hp hq
 by_cases hl : np = nq
 rotate_left
 ·have hi : ((np : Int) == (nq : Int)) = false := by
   rw [beq_eq_false_iff_ne]
   omega
  have hi2 : ((np : Int) != (nq : Int)) = true := by simp [bne, hi]
  have HL := hide hl;clear hl
  go_enter Try.func32, Try.ntmps32
  go_wp2_with (first
   | ((with_reducible refine at_box 39 (.tmp 0) ?_); refine wpList_box_own HO.out rfl 39 (.tmp 0) rfl ([.int .i64 i0p, .int .i64 i1p, .int .i64 i2p, .int .i64 i3p, .int .i64 i4p, .int .i64 i5p, .int .i64 i6p, .int .i64 i7p, .bool grp, .slice Ap np cp, .int .i64 i8p, .string dp, .bool dnp]) rfl ?_; intro WA b1 hO; replace HO := hide hO; clear hO)
   | ((with_reducible refine at_box 39 (.tmp 1) ?_); refine wpList_box_own HO.out rfl 39 (.tmp 1) rfl ([.int .i64 i0q, .int .i64 i1q, .int .i64 i2q, .int .i64 i3q, .int .i64 i4q, .int .i64 i5q, .int .i64 i6q, .int .i64 i7q, .bool grq, .slice Aq nq cq, .int .i64 i8q, .string dq, .bool dnq]) rfl ?_; intro WB b2 hO; replace HO := hide hO; clear hO; have k0 := HO.out.cells 0 rfl; have k1 := HO.out.cells 1 rfl)
   | fail)
  go_ret
  exact ⟨HO.out.below, false, rfl, nof (fun h => absurd (by rw [HNp.out, HNq.out, h.1]) HL.out)⟩
 have hi : ((np : Int) == (nq : Int)) = true := by rw [hl]; simp
 have hi2 : ((np : Int) != (nq : Int)) = false := by simp [bne, hi]
 have HL := hide hl;clear hl
 go_enter Try.func32, Try.ntmps32
 try simp only [List.append_eq, List.cons_append, List.nil_append]
 go_wp2_with (first
  | ((with_reducible refine at_box 39 (.tmp 0) ?_); refine wpList_box_own HO.out rfl 39 (.tmp 0) rfl ([.int .i64 i0p, .int .i64 i1p, .int .i64 i2p, .int .i64 i3p, .int .i64 i4p, .int .i64 i5p, .int .i64 i6p, .int .i64 i7p, .bool grp, .slice Ap np cp, .int .i64 i8p, .string dp, .bool dnp]) rfl ?_; intro WA b1 hO; replace HO := hide hO; clear hO)
  | ((with_reducible refine at_box 39 (.tmp 1) ?_); refine wpList_box_own HO.out rfl 39 (.tmp 1) rfl ([.int .i64 i0q, .int .i64 i1q, .int .i64 i2q, .int .i64 i3q, .int .i64 i4q, .int .i64 i5q, .int .i64 i6q, .int .i64 i7q, .bool grq, .slice Aq nq cq, .int .i64 i8q, .string dq, .bool dnq]) rfl ?_; intro WB b2 hO; replace HO := hide hO; clear hO; have k0 := HO.out.cells 0 rfl; have k1 := HO.out.cells 1 rfl)
  | fail)
 go_loopw [5] (fun v5 wr => ∃ j : Nat, v5 = .int .i64 j ∧ j ≤ np ∧ Own w [] ([] ++ [(b1, 39, [.int .i64 i0p, .int .i64 i1p, .int .i64 i2p, .int .i64 i3p, .int .i64 i4p, .int .i64 i5p, .int .i64 i6p, .int .i64 i7p, .bool grp, .slice Ap np cp, .int .i64 i8p, .string dp, .bool dnp])] ++ [(b2, 39, [.int .i64 i0q, .int .i64 i1q, .int .i64 i2q, .int .i64 i3q, .int .i64 i4q, .int .i64 i5q, .int .i64 i6q, .int .i64 i7q, .bool grq, .slice Aq nq cq, .int .i64 i8q, .string dq, .bool dnq])]) wr ∧ ∀ i, i < j → lp[i]? = lq[i]?) (fun v5 _ => np - (intOf v5).toNat)
 case atStart => exact ⟨0, rfl, Nat.zero_le _, HO.out, by intro i hi; omega⟩
 case round =>
  obtain ⟨j, rfl, hj, hown, hpre⟩ := hrel
  clear k0 k1
  replace HO := hide hown
  have HB : Hid (Below w.heap.size w wr) := hide hown.below
  have HP := hide hpre
  have HBW : Hid (w.heap.size ≤ wr.heap.size) := hide hown.size
  have k0 := HO.out.cells 0 rfl;have k1 := HO.out.cells 1 rfl;clear hown hpre
  by_cases hlt : j < np
  ·have hji : (j : Int) < (np : Int) := by omega
   have hji2 : (j : Int) < (nq : Int) := by have := HL.out; omega
   have hjp : j < lp.length := by rw [← HNp.out]; exact hlt
   have hjq : j < lq.length := by rw [← HNq.out, ← HL.out]; exact hlt
   have HLT := hide hlt
   have HEND : Hid (∀ W, Below wr.heap.size wr W → Own w [] ([] ++ [(b1, 39, [.int .i64 i0p, .int .i64 i1p, .int .i64 i2p, .int .i64 i3p, .int .i64 i4p, .int .i64 i5p, .int .i64 i6p, .int .i64 i7p, .bool grp, .slice Ap np cp, .int .i64 i8p, .string dp, .bool dnp])] ++ [(b2, 39, [.int .i64 i0q, .int .i64 i1q, .int .i64 i2q, .int .i64 i3q, .int .i64 i4q, .int .i64 i5q, .int .i64 i6q, .int .i64 i7q, .bool grq, .slice Aq nq cq, .int .i64 i8q, .string dq, .bool dnq])]) W) := hide (fun W hb => HO.out.step hb)
   obtain ⟨gp, op, csp, rfl, hecp, hrgp, -⟩ := HEp.out.at_ HB.out j hjp
   obtain ⟨xp, hxp⟩ : ∃ x, lp[j] = x := ⟨_, rfl⟩
   rw [hxp] at hecp
   obtain ⟨xip, xtp, xkp, xcp, xnp, xbp, xgp, xsp, xckp, xcmp, xcfp, xctp, xcop, xcnp, xclp⟩ := xp
   obtain ⟨v0, v1, v2, v3, v4, rfl, q0, q1, q2, q3, q4⟩ := hecp
   simp only at q0 q1 q2 q3 q4 hrgp
   obtain ⟨B0p, m0p, e0p, rfl, -⟩ := q0.form
   obtain ⟨B1p, m1p, e1p, rfl, -⟩ := q1.form
   obtain ⟨B2p, m2p, e2p, rfl, -⟩ := q2.form
   obtain ⟨B3p, m3p, e3p, rfl, -⟩ := q3.form
   obtain ⟨B4p, m4p, e4p, rfl, -⟩ := q4.form
   have c1p : wr.cell? ⟨gp, op + j * 15, none⟩ = some (.int .i64 xip) := by have := hrgp 0 _ rfl; simpa using this
   have c2p : wr.cell? ⟨gp, op + j * 15 + 1, none⟩ = some (.int .i64 xtp) := hrgp 1 _ rfl
   have r3p : wr.rangeAt gp (op + j * 15 + 2) ([.int .i64 xkp, .int .i64 xcp, .int .i64 xnp, .string xbp, .int .i64 xgp, .int .i64 xsp, .int .i64 xckp, .int .i64 xcmp, .slice B0p m0p e0p, .slice B1p m1p e1p, .slice B2p m2p e2p, .slice B3p m3p e3p, .slice B4p m4p e4p]) := fun i v hv => by
    have := hrgp (i + 2) v hv
    rwa [show op + j * 15 + (i + 2) = op + j * 15 + 2 + i by omega] at this
   have HL0p : Hid (LiB wr w.heap.size (.slice B0p m0p e0p) xcfp) := hide q0
   have HL1p : Hid (LiB wr w.heap.size (.slice B1p m1p e1p) xctp) := hide q1
   have HL2p : Hid (LiB wr w.heap.size (.slice B2p m2p e2p) xcop) := hide q2
   have HL3p : Hid (LiB wr w.heap.size (.slice B3p m3p e3p) xcnp) := hide q3
   have HL4p : Hid (LiB wr w.heap.size (.slice B4p m4p e4p) xclp) := hide q4
   have HXp : Hid (lp[j]? = some ⟨xip, xtp, xkp, xcp, xnp, xbp, xgp, xsp, xckp, xcmp, xcfp, xctp, xcop, xcnp, xclp⟩ ∧ gp < wr.heap.size) := hide ⟨by rw [List.getElem?_eq_getElem hjp, hxp], block_lt_of_cell c1p⟩
   clear hxp q0 q1 q2 q3 q4 hrgp
   obtain ⟨gq, oq, csq, rfl, hecq, hrgq, -⟩ := HEq.out.at_ HB.out j hjq
   obtain ⟨xq, hxq⟩ : ∃ x, lq[j] = x := ⟨_, rfl⟩
   rw [hxq] at hecq
   obtain ⟨xiq, xtq, xkq, xcq, xnq, xbq, xgq, xsq, xckq, xcmq, xcfq, xctq, xcoq, xcnq, xclq⟩ := xq
   obtain ⟨v0, v1, v2, v3, v4, rfl, q0, q1, q2, q3, q4⟩ := hecq
   simp only at q0 q1 q2 q3 q4 hrgq
   obtain ⟨B0q, m0q, e0q, rfl, -⟩ := q0.form
   obtain ⟨B1q, m1q, e1q, rfl, -⟩ := q1.form
   obtain ⟨B2q, m2q, e2q, rfl, -⟩ := q2.form
   obtain ⟨B3q, m3q, e3q, rfl, -⟩ := q3.form
   obtain ⟨B4q, m4q, e4q, rfl, -⟩ := q4.form
   have c1q : wr.cell? ⟨gq, oq + j * 15, none⟩ = some (.int .i64 xiq) := by have := hrgq 0 _ rfl; simpa using this
   have c2q : wr.cell? ⟨gq, oq + j * 15 + 1, none⟩ = some (.int .i64 xtq) := hrgq 1 _ rfl
   have r3q : wr.rangeAt gq (oq + j * 15 + 2) ([.int .i64 xkq, .int .i64 xcq, .int .i64 xnq, .string xbq, .int .i64 xgq, .int .i64 xsq, .int .i64 xckq, .int .i64 xcmq, .slice B0q m0q e0q, .slice B1q m1q e1q, .slice B2q m2q e2q, .slice B3q m3q e3q, .slice B4q m4q e4q]) := fun i v hv => by
    have := hrgq (i + 2) v hv
    rwa [show oq + j * 15 + (i + 2) = oq + j * 15 + 2 + i by omega] at this
   have HL0q : Hid (LiB wr w.heap.size (.slice B0q m0q e0q) xcfq) := hide q0
   have HL1q : Hid (LiB wr w.heap.size (.slice B1q m1q e1q) xctq) := hide q1
   have HL2q : Hid (LiB wr w.heap.size (.slice B2q m2q e2q) xcoq) := hide q2
   have HL3q : Hid (LiB wr w.heap.size (.slice B3q m3q e3q) xcnq) := hide q3
   have HL4q : Hid (LiB wr w.heap.size (.slice B4q m4q e4q) xclq) := hide q4
   have HXq : Hid (lq[j]? = some ⟨xiq, xtq, xkq, xcq, xnq, xbq, xgq, xsq, xckq, xcmq, xcfq, xctq, xcoq, xcnq, xclq⟩ ∧ gq < wr.heap.size) := hide ⟨by rw [List.getElem?_eq_getElem hjq, hxq], block_lt_of_cell c1q⟩
   clear hxq q0 q1 q2 q3 q4 hrgq;clear hjp hjq hlt hj
   by_cases h1 : xip = xiq
   rotate_left
   ·have hq1 : (xip == xiq) = false := by simpa using h1
    have hq2 : (xip != xiq) = true := by simp [bne, hq1]
    have HNE := hide h1;clear h1
    go_wp2_with fail
    refine wp_region_held_drew (S := fun W => (∀ y, W.cell? ⟨b1, y, none⟩ = ([.int .i64 i0p, .int .i64 i1p, .int .i64 i2p, .int .i64 i3p, .int .i64 i4p, .int .i64 i5p, .int .i64 i6p, .int .i64 i7p, .bool grp, .slice (some ⟨gp, op, none⟩) np cp, .int .i64 i8p, .string dp, .bool dnp] : List Value)[y]?) ∧ (∀ y, W.cell? ⟨b2, y, none⟩ = ([.int .i64 i0q, .int .i64 i1q, .int .i64 i2q, .int .i64 i3q, .int .i64 i4q, .int .i64 i5q, .int .i64 i6q, .int .i64 i7q, .bool grq, .slice (some ⟨gq, oq, none⟩) nq cq, .int .i64 i8q, .string dq, .bool dnq] : List Value)[y]?) ∧ W.cell? ⟨gp, op + j * 15, none⟩ = some (.int .i64 xip) ∧ W.cell? ⟨gp, op + j * 15 + 1, none⟩ = some (.int .i64 xtp) ∧ W.cell? ⟨gq, oq + j * 15, none⟩ = some (.int .i64 xiq) ∧ W.cell? ⟨gq, oq + j * 15 + 1, none⟩ = some (.int .i64 xtq) ∧ W.rangeAt gp (op + j * 15 + 2) ([.int .i64 xkp, .int .i64 xcp, .int .i64 xnp, .string xbp, .int .i64 xgp, .int .i64 xsp, .int .i64 xckp, .int .i64 xcmp, .slice B0p m0p e0p, .slice B1p m1p e1p, .slice B2p m2p e2p, .slice B3p m3p e3p, .slice B4p m4p e4p]) ∧ W.rangeAt gq (oq + j * 15 + 2) ([.int .i64 xkq, .int .i64 xcq, .int .i64 xnq, .string xbq, .int .i64 xgq, .int .i64 xsq, .int .i64 xckq, .int .i64 xcmq, .slice B0q m0q e0q, .slice B1q m1q e1q, .slice B2q m2q e2q, .slice B3q m3q e3q, .slice B4q m4q e4q])) (by kernel_rfl) (⟨k0, k1, c1p, c2p, c1q, c2q, r3p, r3q⟩) (fun hS0 => ?_)
    refine tk 0 ?_;refine tk 1 ?_;refine tk 2 ?_;refine tk 3 ?_;refine tk 4 ?_;refine tk 5 ?_;refine tk 6 ?_;refine tk 7 ?_;refine tk 8 ?_;refine tk 9 ?_;refine tk 10 ?_;refine tk 11 ?_;refine tk 12 ?_;refine tk 13 ?_;refine tu 14 ?_;refine tu 15 ?_;refine tu 16 ?_;refine tu 17 ?_;refine tu 18 ?_;refine tu 19 ?_;refine tu 20 ?_;refine tu 21 ?_;refine tu 22 ?_;refine tu 23 ?_;refine tu 24 ?_;refine tu 25 ?_;refine tu 26 ?_;refine tk 27 ?_;refine tk 28 ?_;refine tu 29 ?_;refine tu 30 ?_;refine tu 31 ?_;refine tu 32 ?_;refine tu 33 ?_;refine tu 34 ?_;refine tu 35 ?_;refine tu 36 ?_;refine tu 37 ?_;refine tu 38 ?_;refine tu 39 ?_;refine tu 40 ?_;refine tu 41 ?_;refine tu 42 ?_;refine tk 43 ?_
    refine wpAnyH_done (by kernel_rfl) ?_ _
    clear hS0
    go_wp2_with fail
    go_ret
    refine ⟨(HEND.out _ (below_drew2 _ _)).below, false, rfl, nof (fun h => ?_)⟩
    have h0 := h.1
    subst h0
    have e := HXp.out.1.symm.trans HXq.out.1
    injection e with e
    injection e
    exact absurd (by assumption) HNE.out
   by_cases h2 : xtp = xtq
   rotate_left
   ·have hq1 : (xip == xiq) = true := by simpa using h1
    have hq2 : (xip != xiq) = false := by simp [bne, hq1]
    have hq3 : (xtp == xtq) = false := by simpa using h2
    have hq4 : (xtp != xtq) = true := by simp [bne, hq3]
    have HNE := hide h2;clear h1 h2
    go_wp2_with fail
    refine wp_region_held_drew (S := fun W => (∀ y, W.cell? ⟨b1, y, none⟩ = ([.int .i64 i0p, .int .i64 i1p, .int .i64 i2p, .int .i64 i3p, .int .i64 i4p, .int .i64 i5p, .int .i64 i6p, .int .i64 i7p, .bool grp, .slice (some ⟨gp, op, none⟩) np cp, .int .i64 i8p, .string dp, .bool dnp] : List Value)[y]?) ∧ (∀ y, W.cell? ⟨b2, y, none⟩ = ([.int .i64 i0q, .int .i64 i1q, .int .i64 i2q, .int .i64 i3q, .int .i64 i4q, .int .i64 i5q, .int .i64 i6q, .int .i64 i7q, .bool grq, .slice (some ⟨gq, oq, none⟩) nq cq, .int .i64 i8q, .string dq, .bool dnq] : List Value)[y]?) ∧ W.cell? ⟨gp, op + j * 15, none⟩ = some (.int .i64 xip) ∧ W.cell? ⟨gp, op + j * 15 + 1, none⟩ = some (.int .i64 xtp) ∧ W.cell? ⟨gq, oq + j * 15, none⟩ = some (.int .i64 xiq) ∧ W.cell? ⟨gq, oq + j * 15 + 1, none⟩ = some (.int .i64 xtq) ∧ W.rangeAt gp (op + j * 15 + 2) ([.int .i64 xkp, .int .i64 xcp, .int .i64 xnp, .string xbp, .int .i64 xgp, .int .i64 xsp, .int .i64 xckp, .int .i64 xcmp, .slice B0p m0p e0p, .slice B1p m1p e1p, .slice B2p m2p e2p, .slice B3p m3p e3p, .slice B4p m4p e4p]) ∧ W.rangeAt gq (oq + j * 15 + 2) ([.int .i64 xkq, .int .i64 xcq, .int .i64 xnq, .string xbq, .int .i64 xgq, .int .i64 xsq, .int .i64 xckq, .int .i64 xcmq, .slice B0q m0q e0q, .slice B1q m1q e1q, .slice B2q m2q e2q, .slice B3q m3q e3q, .slice B4q m4q e4q])) (by kernel_rfl) (⟨k0, k1, c1p, c2p, c1q, c2q, r3p, r3q⟩) (fun hS0 => ?_)
    refine tk 0 ?_;refine tk 1 ?_;refine tk 2 ?_;refine tk 3 ?_;refine tk 4 ?_;refine tk 5 ?_;refine tk 6 ?_;refine tk 7 ?_;refine tk 8 ?_;refine tk 9 ?_;refine tk 10 ?_;refine tk 11 ?_;refine tk 12 ?_;refine tk 13 ?_;refine tk 14 ?_;refine tk 15 ?_;refine tk 16 ?_;refine tk 17 ?_;refine tk 18 ?_;refine tk 19 ?_;refine tk 20 ?_;refine tk 21 ?_;refine tk 22 ?_;refine tk 23 ?_;refine tk 24 ?_;refine tk 25 ?_;refine tk 26 ?_;refine tk 27 ?_;refine tk 28 ?_;refine tu 29 ?_;refine tu 30 ?_;refine tu 31 ?_;refine tu 32 ?_;refine tu 33 ?_;refine tu 34 ?_;refine tu 35 ?_;refine tu 36 ?_;refine tu 37 ?_;refine tu 38 ?_;refine tu 39 ?_;refine tu 40 ?_;refine tu 41 ?_;refine tu 42 ?_;refine tk 43 ?_
    refine wpAnyH_done (by kernel_rfl) ?_ _
    clear hS0
    go_wp2_with fail
    go_ret
    refine ⟨(HEND.out _ (below_drew2 _ _)).below, false, rfl, nof (fun h => ?_)⟩
    have h0 := h.1
    subst h0
    have e := HXp.out.1.symm.trans HXq.out.1
    injection e with e
    injection e
    exact absurd (by assumption) HNE.out
   ·have hq1 : (xip == xiq) = true := by simpa using h1
    have hq2 : (xip != xiq) = false := by simp [bne, hq1]
    have hq3 : (xtp == xtq) = true := by simpa using h2
    have hq4 : (xtp != xtq) = false := by simp [bne, hq3]
    have HE1 := hide h1;have HE2 := hide h2;clear h1 h2
    go_wp2_with fail
    refine wp_region_held_drew (S := fun W => (∀ y, W.cell? ⟨b1, y, none⟩ = ([.int .i64 i0p, .int .i64 i1p, .int .i64 i2p, .int .i64 i3p, .int .i64 i4p, .int .i64 i5p, .int .i64 i6p, .int .i64 i7p, .bool grp, .slice (some ⟨gp, op, none⟩) np cp, .int .i64 i8p, .string dp, .bool dnp] : List Value)[y]?) ∧ (∀ y, W.cell? ⟨b2, y, none⟩ = ([.int .i64 i0q, .int .i64 i1q, .int .i64 i2q, .int .i64 i3q, .int .i64 i4q, .int .i64 i5q, .int .i64 i6q, .int .i64 i7q, .bool grq, .slice (some ⟨gq, oq, none⟩) nq cq, .int .i64 i8q, .string dq, .bool dnq] : List Value)[y]?) ∧ W.cell? ⟨gp, op + j * 15, none⟩ = some (.int .i64 xip) ∧ W.cell? ⟨gp, op + j * 15 + 1, none⟩ = some (.int .i64 xtp) ∧ W.cell? ⟨gq, oq + j * 15, none⟩ = some (.int .i64 xiq) ∧ W.cell? ⟨gq, oq + j * 15 + 1, none⟩ = some (.int .i64 xtq) ∧ W.rangeAt gp (op + j * 15 + 2) ([.int .i64 xkp, .int .i64 xcp, .int .i64 xnp, .string xbp, .int .i64 xgp, .int .i64 xsp, .int .i64 xckp, .int .i64 xcmp, .slice B0p m0p e0p, .slice B1p m1p e1p, .slice B2p m2p e2p, .slice B3p m3p e3p, .slice B4p m4p e4p]) ∧ W.rangeAt gq (oq + j * 15 + 2) ([.int .i64 xkq, .int .i64 xcq, .int .i64 xnq, .string xbq, .int .i64 xgq, .int .i64 xsq, .int .i64 xckq, .int .i64 xcmq, .slice B0q m0q e0q, .slice B1q m1q e1q, .slice B2q m2q e2q, .slice B3q m3q e3q, .slice B4q m4q e4q])) (by kernel_rfl) (⟨k0, k1, c1p, c2p, c1q, c2q, r3p, r3q⟩) (fun hS0 => ?_)
    refine tk 0 ?_;refine tk 1 ?_;refine tk 2 ?_;refine tk 3 ?_;refine tk 4 ?_;refine tk 5 ?_;refine tk 6 ?_;refine tk 7 ?_;refine tk 8 ?_;refine tk 9 ?_;refine tk 10 ?_;refine tk 11 ?_;refine tk 12 ?_;refine tk 13 ?_;refine tk 14 ?_;refine tk 15 ?_;refine tk 16 ?_;refine tk 17 ?_;refine tk 18 ?_;refine tk 19 ?_;refine tk 20 ?_;refine tk 21 ?_;refine tk 22 ?_;refine tk 23 ?_;refine tk 24 ?_;refine tk 25 ?_;refine tk 26 ?_;refine tk 27 ?_;refine tk 28 ?_;refine tk 29 ?_;refine tk 30 ?_;refine tk 31 ?_;refine tk 32 ?_;refine tk 33 ?_
    refine ty 34 (.agg ([.int .i64 xkp, .int .i64 xcp, .int .i64 xnp, .string xbp, .int .i64 xgp, .int .i64 xsp, .int .i64 xckp, .int .i64 xcmp, .slice B0p m0p e0p, .slice B1p m1p e1p, .slice B2p m2p e2p, .slice B3p m3p e3p, .slice B4p m4p e4p] : List Value).toArray) rfl (yieldsIf_load_mid rfl 114 (.tmp 53) rfl gp (op + j * 15 + 2) rfl ([.int .i64 xkp, .int .i64 xcp, .int .i64 xnp, .string xbp, .int .i64 xgp, .int .i64 xsp, .int .i64 xckp, .int .i64 xcmp, .slice B0p m0p e0p, .slice B1p m1p e1p, .slice B2p m2p e2p, .slice B3p m3p e3p, .slice B4p m4p e4p]) _ (fun w hw => hw.2.2.2.2.2.2.1) Try.underlying114 rfl size_cmd) ?_
    refine tk 35 ?_;refine tk 36 ?_;refine tk 37 ?_;refine tk 38 ?_;refine tk 39 ?_
    refine ty 40 (.agg ([.int .i64 xkq, .int .i64 xcq, .int .i64 xnq, .string xbq, .int .i64 xgq, .int .i64 xsq, .int .i64 xckq, .int .i64 xcmq, .slice B0q m0q e0q, .slice B1q m1q e1q, .slice B2q m2q e2q, .slice B3q m3q e3q, .slice B4q m4q e4q] : List Value).toArray) rfl (yieldsIf_load_mid rfl 114 (.tmp 59) rfl gq (oq + j * 15 + 2) rfl ([.int .i64 xkq, .int .i64 xcq, .int .i64 xnq, .string xbq, .int .i64 xgq, .int .i64 xsq, .int .i64 xckq, .int .i64 xcmq, .slice B0q m0q e0q, .slice B1q m1q e1q, .slice B2q m2q e2q, .slice B3q m3q e3q, .slice B4q m4q e4q]) _ (fun w hw => hw.2.2.2.2.2.2.2) Try.underlying114 rfl size_cmd) ?_
    refine tr1 41 fun K hK => ?_
    go_simp
    refine (sameCommand_c xkp xcp xnp xgp xsp xckp xcmp xkq xcq xnq xgq xsq xckq xcmq xbp xbq _ ((HL0p.out.below (below_drew2 _ _)).mono HBW.out) ((HL1p.out.below (below_drew2 _ _)).mono HBW.out) ((HL2p.out.below (below_drew2 _ _)).mono HBW.out) ((HL3p.out.below (below_drew2 _ _)).mono HBW.out) ((HL4p.out.below (below_drew2 _ _)).mono HBW.out) ((HL0q.out.below (below_drew2 _ _)).mono HBW.out) ((HL1q.out.below (below_drew2 _ _)).mono HBW.out) ((HL2q.out.below (below_drew2 _ _)).mono HBW.out) ((HL3q.out.below (below_drew2 _ _)).mono HBW.out) ((HL4q.out.below (below_drew2 _ _)).mono HBW.out)).mono ?_
    rintro e w5 ⟨hb5, y, rfl, hy⟩
    have HY := hide hy
    have HB5 : Hid (Below wr.heap.size wr w5) := hide (below_trans (below_drew2 _ _) hb5)
    have k0 : ∀ y, w5.cell? ⟨b1, y, none⟩ = _ := (HO.out.drew.step hb5).cells 0 rfl
    have k1 : ∀ y, w5.cell? ⟨b2, y, none⟩ = _ := (HO.out.drew.step hb5).cells 1 rfl
    have c1p : w5.cell? ⟨gp, op + j * 15, none⟩ = _ := (hb5.cell (p := ⟨gp, op + j * 15, none⟩) HXp.out.2).trans c1p
    have c2p : w5.cell? ⟨gp, op + j * 15 + 1, none⟩ = _ := (hb5.cell (p := ⟨gp, op + j * 15 + 1, none⟩) HXp.out.2).trans c2p
    have c1q : w5.cell? ⟨gq, oq + j * 15, none⟩ = _ := (hb5.cell (p := ⟨gq, oq + j * 15, none⟩) HXq.out.2).trans c1q
    have c2q : w5.cell? ⟨gq, oq + j * 15 + 1, none⟩ = _ := (hb5.cell (p := ⟨gq, oq + j * 15 + 1, none⟩) HXq.out.2).trans c2q
    have r3p : w5.rangeAt gp (op + j * 15 + 2) _ := rangeAt_step (w := wr.drew) r3p HXp.out.2 hb5
    have r3q : w5.rangeAt gq (oq + j * 15 + 2) _ := rangeAt_step (w := wr.drew) r3q HXq.out.2 hb5
    clear hy hb5
    refine hK.out _ _ (⟨k0, k1, c1p, c2p, c1q, c2q, r3p, r3q⟩) (fun hS41 => ?_)
    clear hK K
    try simp only [Act.put, qa, qb, qc, qd, qe, qf]
    refine tk 42 ?_;refine tk 43 ?_
    refine wpAnyH_done (by kernel_rfl) ?_ _
    clear hS0
    cases y with
    | false =>
     go_wp2_with fail
     go_ret
     refine ⟨(HEND.out _ HB5.out).below, false, rfl, nof (fun h => ?_)⟩
     have h0 := h.1
     subst h0
     have e := HXp.out.1.symm.trans HXq.out.1
     injection e with e
     injection e
     have hy : ¬ _ := fun h => Bool.false_ne_true (HY.out.2 h)
     exact absurd (by simp only [*, and_self]) hy
    | true =>
     have HEQ := hide (HY.out.1 rfl)
     go_wp2_with fail
     go_roundw
     case rel =>
      refine ⟨j + 1, by go_num, HLT.out, HEND.out _ HB5.out, fun i hi => ?_⟩
      by_cases e : i = j
      ·subst e
       rw [HXp.out.1, HXq.out.1]
       have h := HEQ.out
       simp only [HE1.out, HE2.out, h]
      ·exact HP.out i (by omega)
     case measure => have := HLT.out; simp [intOf]; omega
  ·obtain rfl : j = np := by omega
   have HLL : Hid (lp = lq) := hide (by
    refine List.ext_getElem? fun i => ?_
    by_cases hi : i < j
    ·exact HP.out i hi
    ·rw [List.getElem?_eq_none (by rw [← HNp.out]; omega), List.getElem?_eq_none (by rw [← HNq.out, ← HL.out]; omega)])
   clear hlt hj
   by_cases hc0 : i0p = i0q
   rotate_left
   ·have hq0 : (i0p == i0q) = false := by simpa using hc0
    have HC0 := hide hc0;clear hc0
    go_wp2_with fail
    go_ret
    exact ⟨HO.out.below, false, rfl, nof (fun h => absurd (h.2.1) HC0.out)⟩
   have hq0 : (i0p == i0q) = true := by simpa using hc0
   have HC0 := hide hc0;clear hc0
   by_cases hc1 : i1p = i1q
   rotate_left
   ·have hq1 : (i1p == i1q) = false := by simpa using hc1
    have HC1 := hide hc1;clear hc1
    go_wp2_with fail
    go_ret
    exact ⟨HO.out.below, false, rfl, nof (fun h => absurd (h.2.2.1) HC1.out)⟩
   have hq1 : (i1p == i1q) = true := by simpa using hc1
   have HC1 := hide hc1;clear hc1
   by_cases hc2 : i2p = i2q
   rotate_left
   ·have hq2 : (i2p == i2q) = false := by simpa using hc2
    have HC2 := hide hc2;clear hc2
    go_wp2_with fail
    go_ret
    exact ⟨HO.out.below, false, rfl, nof (fun h => absurd (h.2.2.2.1) HC2.out)⟩
   have hq2 : (i2p == i2q) = true := by simpa using hc2
   have HC2 := hide hc2;clear hc2
   by_cases hc3 : i3p = i3q
   rotate_left
   ·have hq3 : (i3p == i3q) = false := by simpa using hc3
    have HC3 := hide hc3;clear hc3
    go_wp2_with fail
    go_ret
    exact ⟨HO.out.below, false, rfl, nof (fun h => absurd (h.2.2.2.2.1) HC3.out)⟩
   have hq3 : (i3p == i3q) = true := by simpa using hc3
   have HC3 := hide hc3;clear hc3
   by_cases hc4 : i4p = i4q
   rotate_left
   ·have hq4 : (i4p == i4q) = false := by simpa using hc4
    have HC4 := hide hc4;clear hc4
    go_wp2_with fail
    go_ret
    exact ⟨HO.out.below, false, rfl, nof (fun h => absurd (h.2.2.2.2.2.1) HC4.out)⟩
   have hq4 : (i4p == i4q) = true := by simpa using hc4
   have HC4 := hide hc4;clear hc4
   by_cases hc5 : i5p = i5q
   rotate_left
   ·have hq5 : (i5p == i5q) = false := by simpa using hc5
    have HC5 := hide hc5;clear hc5
    go_wp2_with fail
    go_ret
    exact ⟨HO.out.below, false, rfl, nof (fun h => absurd (h.2.2.2.2.2.2.1) HC5.out)⟩
   have hq5 : (i5p == i5q) = true := by simpa using hc5
   have HC5 := hide hc5;clear hc5
   by_cases hc6 : i6p = i6q
   rotate_left
   ·have hq6 : (i6p == i6q) = false := by simpa using hc6
    have HC6 := hide hc6;clear hc6
    go_wp2_with fail
    go_ret
    exact ⟨HO.out.below, false, rfl, nof (fun h => absurd (h.2.2.2.2.2.2.2.1) HC6.out)⟩
   have hq6 : (i6p == i6q) = true := by simpa using hc6
   have HC6 := hide hc6;clear hc6
   by_cases hc7 : i7p = i7q
   rotate_left
   ·have hq7 : (i7p == i7q) = false := by simpa using hc7
    have HC7 := hide hc7;clear hc7
    go_wp2_with fail
    go_ret
    exact ⟨HO.out.below, false, rfl, nof (fun h => absurd (h.2.2.2.2.2.2.2.2.1) HC7.out)⟩
   have hq7 : (i7p == i7q) = true := by simpa using hc7
   have HC7 := hide hc7;clear hc7
   by_cases hc8 : grp = grq
   rotate_left
   ·have hq8 : (grp == grq) = false := by simpa using hc8
    have HC8 := hide hc8;clear hc8
    go_wp2_with fail
    go_ret
    exact ⟨HO.out.below, false, rfl, nof (fun h => absurd (h.2.2.2.2.2.2.2.2.2.1) HC8.out)⟩
   have hq8 : (grp == grq) = true := by simpa using hc8
   have HC8 := hide hc8;clear hc8
   by_cases hc9 : i8p = i8q
   rotate_left
   ·have hq9 : (i8p == i8q) = false := by simpa using hc9
    have HC9 := hide hc9;clear hc9
    go_wp2_with fail
    go_ret
    exact ⟨HO.out.below, false, rfl, nof (fun h => absurd (h.2.2.2.2.2.2.2.2.2.2.1) HC9.out)⟩
   have hq9 : (i8p == i8q) = true := by simpa using hc9
   have HC9 := hide hc9;clear hc9
   by_cases hc10 : dp = dq
   rotate_left
   ·have hq10 : (dp.toList == dq.toList) = false := str_ne hc10
    have HC10 := hide hc10;clear hc10
    go_wp2_with fail
    go_ret
    exact ⟨HO.out.below, false, rfl, nof (fun h => absurd (h.2.2.2.2.2.2.2.2.2.2.2.1) HC10.out)⟩
   have hq10 : (dp.toList == dq.toList) = true := str_eq hc10
   have HC10 := hide hc10;clear hc10
   by_cases hc11 : dnp = dnq
   rotate_left
   ·have hq11 : (dnp == dnq) = false := by simpa using hc11
    have HC11 := hide hc11;clear hc11
    go_wp2_with fail
    go_ret
    exact ⟨HO.out.below, false, rfl, nof (fun h => absurd (h.2.2.2.2.2.2.2.2.2.2.2.2) HC11.out)⟩
   have hq11 : (dnp == dnq) = true := by simpa using hc11
   have HC11 := hide hc11;clear hc11
   go_wp2_with fail
   go_ret
   exact ⟨HO.out.below, true, rfl, ⟨fun _ => ⟨HLL.out, HC0.out, HC1.out, HC2.out, HC3.out, HC4.out, HC5.out, HC6.out, HC7.out, HC8.out, HC9.out, HC10.out, HC11.out⟩, fun _ => rfl⟩⟩
end Go.Proofs.Ytpbgelhjbfckcaa
