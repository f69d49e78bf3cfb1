/- EncodeMessage. -/
import Derived.Test.YtpbgelhjbfckcaaV09
import Derived.Test.YtpbgelhjbfckcaaV08
namespace Go.Proofs.Ytpbgelhjbfckcaa
set_option maxRecDepth 100000
set_option linter.unusedVariables false
set_option linter.unusedSimpArgs false
section
open List renaming getElem_toArray → qa, getElem_cons_zero → qb, getElem_cons_succ → qc, setIfInBounds_toArray → qd, set_cons_zero → qe, set_cons_succ → qf
open Go.ChangeShapes Go.WideShapes Go.ChangeAt Go.RowKit
theorem info_writer : (Try.prog.info? 151).map (·.zero) = some (some (.agg ([.slice none 0 0] : List Value).toArray)) := by kernel_rfl
theorem EnsIn.below {w w' : World} {B : Nat} {v : Value} {l : List En} (h : EnsIn w B v l) (k : Below B w w') : EnsIn w' B v l := by
 obtain ⟨A, c, rfl, h1, h2, h3, h4⟩ := h
 refine ⟨A, c, rfl, h1, h2, h3, fun h0 => ?_⟩
 obtain ⟨g, o, rfl, hg, hc⟩ := h4 h0
 refine ⟨g, o, rfl, hg, fun i hi => ?_⟩
 obtain ⟨_, _, _, e, h5, h6, _⟩ := EnsIn.at_ ⟨_, c, rfl, h1, h2, h3, h4⟩ k i hi
 injection e with e; injection e with e1 e2; subst e1; subst e2
 exact ⟨_, h5, h6⟩
def encM (is : List Int) (gr dn : Bool) (d : ByteArray) (l : List En) : List UInt8 := is.flatMap encI ++ ([bb gr] ++ ([bb dn] ++ (encT d ++ (encI l.length ++ l.flatMap encE))))
set_option maxHeartbeats 8000000 in
theorem encodeM_c (i0 i1 i2 i3 i4 i5 i6 i7 i8 : Int) (gr dn : Bool) (A : Option Addr) (n c : Nat) (d : ByteArray) (l : List En) (w : World) (hI : ∀ y ∈ [i0, i1, i2, i3, i4, i5, i6, i7, i8], I64 y) (hE : EnsIn w w.heap.size (.slice A n c) l) (hs : 20 * (totE l + l.length + d.size + 40) ≤ 4398046511104) :
 Calls Try.prog 72 #[.agg ([.int .i64 i0, .int .i64 i1, .int .i64 i2, .int .i64 i3, .int .i64 i4, .int .i64 i5, .int .i64 i6, .int .i64 i7, .bool gr, .slice A n c, .int .i64 i8, .string d, .bool dn] : List Value).toArray] w fun e w' => e = .returned (.string ⟨(encM [i0, i1, i2, i3, i4, i5, i6, i7, i8] gr dn d l).toArray⟩) ∧ Below w.heap.size w w' := by
 have HI := hide hI;have HE := hide hE;have HS := hide hs
 have HL9 : Hid (([i0, i1, i2, i3, i4, i5, i6, i7, i8].flatMap encI).length ≤ 81) := hide (by simpa using flat_len hI)
 have HLD : Hid ((encT d).length ≤ 9 + d.size) := hide (encT_len d (by omega))
 have HO := hide (Own.nil w [] (by simp))
 clear hI hE hs
 go_enter Try.func72, Try.ntmps72
 go_wp2_with (first
  | ((with_reducible refine at_box 39 (.tmp 0) ?_); refine wpList_box_own HO.out rfl 39 (.tmp 0) rfl ([.int .i64 i0, .int .i64 i1, .int .i64 i2, .int .i64 i3, .int .i64 i4, .int .i64 i5, .int .i64 i6, .int .i64 i7, .bool gr, .slice A n c, .int .i64 i8, .string d, .bool dn]) rfl ?_; intro WA b1 hO; replace HO := hide hO; clear hO)
  | ((with_reducible refine at_alloc 151 ?_); refine wpList_alloc_own HO.out rfl 151 rfl ([.slice none 0 0]) info_writer ?_; intro WA p hO; replace HO := hide hO; clear hO; have k1 : ∀ q, WA.cell? ⟨b1, q, none⟩ = ([.int .i64 i0, .int .i64 i1, .int .i64 i2, .int .i64 i3, .int .i64 i4, .int .i64 i5, .int .i64 i6, .int .i64 i7, .bool gr, .slice A n c, .int .i64 i8, .string d, .bool dn] : List Value)[q]? := HO.out.cells 0 rfl)
  | ((with_reducible refine at_sliceV 28 9 _ ?_); refine wpList_slice_ownV HO.out rfl 28 3 _ ([.int .i64 i0, .int .i64 i1, .int .i64 i2, .int .i64 i3, .int .i64 i4, .int .i64 i5, .int .i64 i6, .int .i64 i7, .int .i64 i8]) rfl (by simp [Act.eval]) Try.underlying28 (by kernel_rfl) (by kernel_rfl) (by simp [Value.cells]) (by simp) (by simp) ?_; intro WA g9 hO; replace HO := hide hO; clear hO))
 have HB1 := hide (HO.out.blk 0 rfl)
 have HBG := hide (HO.out.blk 2 rfl)
 have HWP : Hid (w.heap.size ≤ p) := hide (HO.out.has (p, 151, [.slice none 0 0]) (by simp)).2
 have HBR := hide HO.out.below
 have HW : Hid (Wt _ p none []) := hide ⟨_, HO.out.blk 1 rfl, Ow.nil _ _, rfl⟩
 clear HO k1;have k1 := trivial
 refine (ints_c p none [] _ [i0, i1, i2, i3, i4, i5, i6, i7, i8] _ HW.out (li_row HBG.out (fun y hy => HI.out y hy) (by simp)) (fun _ j hj => by injection hj with hj; subst hj; exact HW.out.apart HBG.out (by decide) (by decide)) (by simp)).mono ?_
 rintro e w3 ⟨rfl, kk3, hw2, ht2, hk2⟩
 replace HB1 := hide (HB1.out.touch ht2 (HW.out.apart HB1.out (by decide) (by decide)))
 replace HBR := hide (below_trans HBR.out (ht2.low HWP.out (below_size HBR.out (Nat.le_refl _)) (fun g hg => (HW.out.k_lt g hg).1 |> fun h => Nat.lt_of_lt_of_le h (Nat.le_refl _))))
 replace HW := hide hw2
 clear hw2 ht2 hk2 k1
 have k1 : ∀ q, w3.cell? ⟨b1, q, none⟩ = ([.int .i64 i0, .int .i64 i1, .int .i64 i2, .int .i64 i3, .int .i64 i4, .int .i64 i5, .int .i64 i6, .int .i64 i7, .bool gr, .slice A n c, .int .i64 i8, .string d, .bool dn] : List Value)[q]? := fun q => (HB1.out.cell q).trans (by simp)
 clear HBG
 obtain ⟨v, hB, ho, hkv⟩ := HW.out
 obtain ⟨c0, f0⟩ := wt_cells hB
 obtain ⟨Av, nv, cv, rfl, _, _, _⟩ := ho.formN
 have HBB := hide hB;have HO := hide ho;have HB1L := hide HB1.out.lt
 have HWP3 : Hid (w.heap.size ≤ w3.heap.size) := hide HBR.out.size
 have HKL : Hid (∀ g, (Value.slice Av nv cv).ownBlock = some g → p < g) := hide (fun g hg => (HW.out.k_lt g (by rw [← hkv]; exact hg)).1)
 have HBP1 : Hid (b1 ≠ p) := hide (fun e => by have := HW.out.apart HB1.out (by decide) (by decide); exact this (by simp [e]))
 have HWA : Hid ((some b1 = (Value.slice Av nv cv).ownBlock → False) ∧ (some p = (Value.slice Av nv cv).ownBlock → False)) := hide ⟨fun e => by have := HW.out.apart HB1.out (by decide) (by decide); rw [← hkv] at this; exact this (by simp [← e]), fun e => by have := (ho.lt p e.symm).1; omega⟩
 clear hB ho
 go_wp2_with fail
 refine wp_region_held_drew (S := fun W => ∀ q, W.cell? ⟨b1, q, none⟩ = ([.int .i64 i0, .int .i64 i1, .int .i64 i2, .int .i64 i3, .int .i64 i4, .int .i64 i5, .int .i64 i6, .int .i64 i7, .bool gr, .slice A n c, .int .i64 i8, .string d, .bool dn] : List Value)[q]?) (by kernel_rfl) (k1) (fun hS0 => ?_)
 replace HB1 : Hid (Blk _ b1 _ _) := hide (HB1.out.step (below_drew _))
 replace HBB : Hid (Blk _ p _ _) := hide (HBB.out.step (below_drew _))
 replace HO : Hid (Ow _ (p + 1) _ _) := hide (HO.out.step (below_drew _))
 refine tk 0 ?_;refine tk 2 ?_;refine tk 3 ?_;refine tk 5 ?_;refine tk 6 ?_
 refine tr1 1 fun K hK => ?_
 go_simp
 refine hK.out _ _ (k1) (fun hS5 => ?_)
 clear hK K
 try simp only [Act.put, qa, qb, qc, qd, qe, qf]
 refine tr1 4 fun K hK => ?_
 go_simp
 refine (appendBool_c (p + 1) _ _ gr _ HO.out (by have := HS.out; have := HL9.out; simp only [List.length_append, List.length_nil] at *; omega) HBB.out.lt).mono ?_
 rintro e w4 ⟨v4, rfl, ho4, _, hg4, ha4⟩
 replace HB1 := hide (HB1.out.grown hg4 (fun e => (HWA.out.1 e)))
 have HBB4 := hide (HBB.out.grown hg4 (fun e => (HWA.out.2 e)))
 have HO4 := hide ho4;have HG4 := hide hg4;have HA4 := hide ha4
 have HB1N : Hid (some b1 = v4.ownBlock → False) := hide (fun e => by rcases ha4 with h | ⟨g, h, hg⟩ <;> rw [h] at e <;> first | exact HWA.out.1 e | (injection e with e; have := HB1L.out; have hg : w3.heap.size ≤ g := hg; omega))
 obtain ⟨A4, n4, c4, rfl, _, _, _⟩ := ho4.formN
 clear ho4 hg4 ha4 k1 c0 f0
 have k1 : ∀ q, w4.cell? ⟨b1, q, none⟩ = ([.int .i64 i0, .int .i64 i1, .int .i64 i2, .int .i64 i3, .int .i64 i4, .int .i64 i5, .int .i64 i6, .int .i64 i7, .bool gr, .slice A n c, .int .i64 i8, .string d, .bool dn] : List Value)[q]? := fun q => (HB1.out.cell q).trans (by simp)
 refine hK.out _ _ (k1) (fun hS6 => ?_)
 clear hK K
 try simp only [Act.put, qa, qb, qc, qd, qe, qf]
 refine tr1 7 fun K hK => ?_
 go_simp
 refine (appendBool_c (p + 1) _ _ dn w4 HO4.out (by have := HS.out; have := HL9.out; simp only [List.length_append, List.length_nil, List.length_cons] at *; omega) HBB4.out.lt).mono ?_
 rintro e w5 ⟨v5, rfl, ho5, _, hg5, ha5⟩
 have HG5 := hide (grown_next HG4.out hg5 HA4.out)
 have HA5 := hide (own_next HG4.out.size HA4.out ha5)
 have hb1 := HB1.out.grown hg5 (fun e => HB1N.out e)
 replace HB1 := hide hb1
 have hbb5 := HBB4.out.grown hg5 (fun e => by have := (HO4.out.lt p e.symm).1; omega)
 obtain ⟨c5, f5⟩ := wt_cells hbb5
 have HBB5 := hide hbb5;have HO5 := hide ho5
 obtain ⟨A5, n5, cc5, rfl, _, _, _⟩ := ho5.formN
 clear ho5 hg5 ha5 k1 hb1 hbb5
 have k1 : ∀ q, w5.cell? ⟨b1, q, none⟩ = ([.int .i64 i0, .int .i64 i1, .int .i64 i2, .int .i64 i3, .int .i64 i4, .int .i64 i5, .int .i64 i6, .int .i64 i7, .bool gr, .slice A n c, .int .i64 i8, .string d, .bool dn] : List Value)[q]? := fun q => (HB1.out.cell q).trans (by simp)
 refine hK.out _ _ (k1) (fun hS7 => ?_)
 clear hK K
 try simp only [Act.put, qa, qb, qc, qd, qe, qf]
 refine tk 8 ?_
 refine tr1 9 fun K hK => ?_
 go_simp
 have HW6 := hide (Wt.append HBB.out HO.out HO5.out HG5.out HA5.out (w2 := w5.setCell ⟨p, 0, none⟩ (.slice A5 n5 cc5)) (by simpa using HBB5.out.put 0 (.slice A5 n5 cc5)) ((Touch.refl [p] w5).set (.inl (by simp)) 0 _))
 replace HB1 := hide (HB1.out.touch (show Touch [p] w5 (w5.setCell ⟨p, 0, none⟩ (.slice A5 n5 cc5)) from (Touch.refl [p] w5).set (.inl (by simp)) 0 _) (by simpa using HBP1.out))
 clear k1
 have k1 : ∀ q, (w5.setCell ⟨p, 0, none⟩ (.slice A5 n5 cc5)).cell? ⟨b1, q, none⟩ = ([.int .i64 i0, .int .i64 i1, .int .i64 i2, .int .i64 i3, .int .i64 i4, .int .i64 i5, .int .i64 i6, .int .i64 i7, .bool gr, .slice A n c, .int .i64 i8, .string d, .bool dn] : List Value)[q]? := fun q => (HB1.out.cell q).trans (by simp)
 clear c5 f5
 refine hK.out _ _ (k1) (fun hS9 => ?_)
 clear hK K
 try simp only [Act.put, qa, qb, qc, qd, qe, qf]
 refine wpAnyH_done (by kernel_rfl) ?_ _
 clear hS0
 go_wp2_with fail
 have HBR6 := hide (below_trans (show Below w.heap.size w w3.drew from ⟨HBR.out.os, HBR.out.tape, HBR.out.output, HBR.out.size, HBR.out.block⟩) (HW6.out.2.1.low HWP.out HWP3.out (fun g hg => HKL.out g hg)))
 replace HBR := HBR6
 replace HW := hide HW6.out.1
 clear HBR6 HBB HO HBB5 HO5 HG5 HA5 HB1N HBB4 HO4 HG4 HA4 HWA HW6 HKL
 refine (text_c p _ _ d _ HW.out (by have := HS.out; have := HL9.out; simp only [List.length_append, List.length_cons, List.length_nil] at *; omega)).mono ?_
 rintro e w7 ⟨rfl, kk7, hw2, ht2, hk2⟩
 replace HB1 := hide (HB1.out.touch ht2 (HW.out.apart HB1.out (by decide) (by decide)))
 replace HBR := hide (below_trans HBR.out (ht2.low HWP.out (below_size HBR.out (Nat.le_refl _)) (fun g hg => (HW.out.k_lt g hg).1 |> fun h => Nat.lt_of_lt_of_le h (Nat.le_refl _))))
 replace HW := hide hw2
 clear hw2 ht2 hk2 k1
 have k1 : ∀ q, w7.cell? ⟨b1, q, none⟩ = ([.int .i64 i0, .int .i64 i1, .int .i64 i2, .int .i64 i3, .int .i64 i4, .int .i64 i5, .int .i64 i6, .int .i64 i7, .bool gr, .slice A n c, .int .i64 i8, .string d, .bool dn] : List Value)[q]? := fun q => (HB1.out.cell q).trans (by simp)
 go_wp2_with fail
 refine (entries_c p w.heap.size HWP.out _ _ _ l _ HW.out (HE.out.below HBR.out) (by have := HS.out; have h9 := HL9.out; have h8 := HLD.out; simp only [List.length_append, List.length_cons, List.length_nil] at h9 this ⊢; omega)).mono ?_
 rintro e w8 ⟨rfl, kk8, hw2, ht2, hk2⟩
 replace HB1 := hide (HB1.out.touch ht2 (HW.out.apart HB1.out (by decide) (by decide)))
 replace HBR := hide (below_trans HBR.out (ht2.low HWP.out (below_size HBR.out (Nat.le_refl _)) (fun g hg => (HW.out.k_lt g hg).1 |> fun h => Nat.lt_of_lt_of_le h (Nat.le_refl _))))
 replace HW := hide hw2
 clear hw2 ht2 hk2 k1
 have k1 : ∀ q, w8.cell? ⟨b1, q, none⟩ = ([.int .i64 i0, .int .i64 i1, .int .i64 i2, .int .i64 i3, .int .i64 i4, .int .i64 i5, .int .i64 i6, .int .i64 i7, .bool gr, .slice A n c, .int .i64 i8, .string d, .bool dn] : List Value)[q]? := fun q => (HB1.out.cell q).trans (by simp)
 clear HB1
 obtain ⟨v, hB, ho, hkv⟩ := HW.out
 obtain ⟨c0, f0⟩ := wt_cells hB
 obtain ⟨Av, nv, cv, rfl, _, _, _⟩ := ho.formN
 have hst := run_string_bs ho.bs
 go_wp2_with fail
 go_ret
 exact ⟨by simp [encM, List.append_assoc], HBR.out⟩
end
section
open Go.ChangeShapes Go.WideShapes Go.ChangeAt Go.RowKit
def mOffs : List Nat := [34, 35, 36, 37, 38, 39, 40, 41, 44]
theorem EnC.mono {w : World} {B B' : Nat} {cs : List Value} {x : En} (h : EnC w B cs x) (hb : B ≤ B') : EnC w B' cs x := by
 obtain ⟨vf, vt, vo, vn, vl, e, h1, h2, h3, h4, h5⟩ := h
 exact ⟨vf, vt, vo, vn, vl, e, h1.mono hb, h2.mono hb, h3.mono hb, h4.mono hb, h5.mono hb⟩
theorem EnsIn.mono {w : World} {B B' : Nat} {v : Value} {l : List En} (h : EnsIn w B v l) (hb : B ≤ B') : EnsIn w B' v l := by
 obtain ⟨A, c, e, h1, h2, h3, h4⟩ := h
 refine ⟨A, c, e, h1, h2, h3, fun h0 => ?_⟩
 obtain ⟨g, o, e1, hg, hc⟩ := h4 h0
 exact ⟨g, o, e1, by omega, fun i hi => by obtain ⟨cs, h5, h6⟩ := hc i hi; exact ⟨cs, h5.mono hb, h6⟩⟩
theorem encM_len {is : List Int} {gr dn : Bool} {d : ByteArray} {l : List En} (hI : ∀ y ∈ is, I64 y) (hn : is.length ≤ 9) (hE : ∀ x ∈ l, x.Ok) (hl : l.length < 2 ^ 60) (hd : d.size < 2 ^ 60) : (encM is gr dn d l).length ≤ 20 * (totE l + l.length + d.size + 10) := by
 unfold encM
 have h1 := flat_len hI;have h2 := encT_len d hd;have h3 := encEs_len hE
 have h4 := encI_len (x := (l.length : Int)) ⟨by omega, by omega⟩
 simp only [List.length_append, List.length_cons, List.length_nil]
 omega
section
variable {w : World} {base : Nat} {L : LB} {b bm : Nat} {cs : List Value}
theorem mwrite_c (h : FB w base L b bm cs) (hT : MsgT cs) (hI : ∀ o ∈ mOffs, I64 (numAt cs o)) {l : List En} (hE : EnsIn w base (slAt cs 43) l) (hs : 20 * (totE l + l.length + (strAt cs 45).size + 40) ≤ 4398046511104) :
 Writes w 71 [at0 bm] base (encT ⟨(encM (mOffs.map (numAt cs)) (boolAt cs 42) (boolAt cs 46) (strAt cs 45) l).toArray⟩) := by
 intro v l0 ho hb hl
 have h1 := h.box h.bm
 obtain ⟨i0, k0⟩ := hT.ints 34 (by decide)
 obtain ⟨i1, k1⟩ := hT.ints 35 (by decide)
 obtain ⟨i2, k2⟩ := hT.ints 36 (by decide)
 obtain ⟨i3, k3⟩ := hT.ints 37 (by decide)
 obtain ⟨i4, k4⟩ := hT.ints 38 (by decide)
 obtain ⟨i5, k5⟩ := hT.ints 39 (by decide)
 obtain ⟨i6, k6⟩ := hT.ints 40 (by decide)
 obtain ⟨i7, k7⟩ := hT.ints 41 (by decide)
 obtain ⟨i8, k8⟩ := hT.ints 44 (by decide)
 obtain ⟨gr, k9⟩ := hT.gr
 obtain ⟨dn, k10⟩ := hT.dn
 obtain ⟨d, k11⟩ := hT.data
 obtain ⟨A, n, c, k12⟩ := hT.slices 43 (by decide)
 have hmap : mOffs.map (numAt cs) = [i0, i1, i2, i3, i4, i5, i6, i7, i8] := by
  show [numAt cs 34, numAt cs 35, numAt cs 36, numAt cs 37, numAt cs 38, numAt cs 39, numAt cs 40, numAt cs 41, numAt cs 44] = _
  rw [numAt_eq k0, numAt_eq k1, numAt_eq k2, numAt_eq k3, numAt_eq k4, numAt_eq k5, numAt_eq k6, numAt_eq k7, numAt_eq k8]
 have HI : Hid (∀ y ∈ [i0, i1, i2, i3, i4, i5, i6, i7, i8], I64 y) := hide (by
  rw [← hmap]
  intro y hy
  obtain ⟨o, ho, rfl⟩ := List.mem_map.1 hy
  exact hI o ho)
 rw [slAt_eq k12] at hE
 rw [strAt_eq k11] at hs
 rw [hmap, boolAt_eq k9, boolAt_eq k10, strAt_eq k11]
 have HG : Hid (w.rangeAt b 34 ([.int .i64 i0, .int .i64 i1, .int .i64 i2, .int .i64 i3, .int .i64 i4, .int .i64 i5, .int .i64 i6, .int .i64 i7, .bool gr, .slice A n c, .int .i64 i8, .string d, .bool dn] : List Value)) := hide (by
  have hc := h.cell
  intro j v hj
  match j, hj with
  | 0, hj => simp at hj; subst hj; exact (hc 34).trans k0
  | 1, hj => simp at hj; subst hj; exact (hc 35).trans k1
  | 2, hj => simp at hj; subst hj; exact (hc 36).trans k2
  | 3, hj => simp at hj; subst hj; exact (hc 37).trans k3
  | 4, hj => simp at hj; subst hj; exact (hc 38).trans k4
  | 5, hj => simp at hj; subst hj; exact (hc 39).trans k5
  | 6, hj => simp at hj; subst hj; exact (hc 40).trans k6
  | 7, hj => simp at hj; subst hj; exact (hc 41).trans k7
  | 8, hj => simp at hj; subst hj; exact (hc 42).trans k9
  | 9, hj => simp at hj; subst hj; exact (hc 43).trans k12
  | 10, hj => simp at hj; subst hj; exact (hc 44).trans k8
  | 11, hj => simp at hj; subst hj; exact (hc 45).trans k11
  | 12, hj => simp at hj; subst hj; exact (hc 46).trans k10
  | j + 13, hj => simp at hj)
 have HE := hide hE;have HS := hide hs;have HO := hide ho;have HB := hide hb;have HL := hide hl
 have HOK : Hid ((∀ x ∈ l, x.Ok) ∧ l.length < 2 ^ 60) := hide (by obtain ⟨_, _, _, _, _, h3, _⟩ := hE; exact ⟨h3, by omega⟩)
 have HM : Hid ((encM [i0, i1, i2, i3, i4, i5, i6, i7, i8] gr dn d l).length ≤ 20 * (totE l + l.length + d.size + 10)) := hide (encM_len HI.out (by simp) HOK.out.1 HOK.out.2 (by omega))
 clear ho hb hl hE hs h hT hI hmap k0 k1 k2 k3 k4 k5 k6 k7 k8 k9 k10 k11 k12
 show Calls Try.prog _ #[v, at0 bm] w _
 go_enter Try.func71, Try.ntmps71
 go_wp2_with (refine wpList_load_mid rfl 39 (.tmp 7) rfl b 34 rfl ([.int .i64 i0, .int .i64 i1, .int .i64 i2, .int .i64 i3, .int .i64 i4, .int .i64 i5, .int .i64 i6, .int .i64 i7, .bool gr, .slice A n c, .int .i64 i8, .string d, .bool dn]) _ HG.out Try.underlying39 rfl size_gm ?_)
 refine (encodeM_c i0 i1 i2 i3 i4 i5 i6 i7 i8 gr dn A n c d l w HI.out (HE.out.mono HB.out) HS.out).mono ?_
 rintro e w1 ⟨rfl, hb1⟩
 have HO1 := hide (HO.out.step hb1)
 have HBL := hide (hb1.mono HB.out)
 have HB1 := hide (Nat.le_trans HB.out hb1.size)
 clear hb1
 go_wp2_with fail
 refine (appendText_c base v l0 _ w1 HO1.out (by have := HL.out; omega) (by have := HM.out; have := HS.out; show (List.toArray _).size ≤ _; rw [List.size_toArray]; omega) HB1.out).mono ?_
 rintro e w2 ha
 obtain ⟨v2, rfl, ho2, hb2, hs2⟩ := ha.app HO1.out HB1.out
 have HO2 := hide ho2
 have HB2 := hide (below_trans HBL.out hb2)
 have HS2 := hide (Nat.le_trans HBL.out.size hs2)
 clear ha ho2 hb2 hs2
 go_wp2_with fail
 go_ret
 exact ⟨_, rfl, HO2.out, HB2.out, HS2.out⟩
end
end
section
open Go.ChangeMaps Go.ChangeShapes Go.WideShapes Go.ChangeAt Go.RowKit
open Go.Maps (Keyed IsMap)
/-- The fields that the kinds use. -/
def useIdx : List (List Nat) := [[13], [0, 1, 2, 7], [0, 1, 2, 3, 7, 4], [0, 5, 6, 9], [0, 5, 6, 3, 4], [5, 6, 10], [5, 6, 3, 8], [0], [0, 3, 12], [0, 1, 2, 8], [0, 1, 2, 3, 8], [11]]
theorem useList_idx : useList = useIdx.map fun ix => ix.map fname := by decide
theorem useIdx_ok : ∀ ix ∈ useIdx, (∀ i ∈ ix, i < 14) ∧ ix.Nodup := by decide
theorem useIdx_len : ∀ ix ∈ useIdx, ix.length ≤ 14 := by decide
def usedIx (cs : List Value) : Option (List Nat) := if 0 ≤ numAt cs 0 then useIdx[(numAt cs 0).toNat]? else none
/-- A message is valid. -/
def validP (cs : List Value) (ml : List Int) : Bool :=
 match usedIx cs with
 | none => false
 | some ix => ix.all (vF cs ml) && (List.range 14).all fun k => ix.contains k || zF cs k
theorem useList_get {j : Nat} {l : List ByteArray} (h : useList[j]? = some l) : ∃ ix, useIdx[j]? = some ix ∧ l = ix.map fname ∧ (∀ i ∈ ix, i < 14) ∧ ix.Nodup := by
 rw [useList_idx, List.getElem?_map] at h
 obtain ⟨ix, h1, rfl⟩ := Option.map_eq_some_iff.1 h
 obtain ⟨h2, h3⟩ := useIdx_ok ix (List.mem_of_getElem? h1)
 exact ⟨ix, h1, rfl, h2, h3⟩
/-- The table, without the names that are struck. -/
def DOk (D : DataW Value) (L : LB) (b bm : Nat) (used : List Nat) : Prop :=
 (∀ k, k < 14 → k ∉ used → Go.Maps.has D (flit k) = true ∧ ∃ v, (∀ z, D.atKey (flit k) z = .held v) ∧ FValI L b bm k v) ∧ (∀ kl, Go.Maps.has D kl = true → ∃ k, k < 14 ∧ k ∉ used ∧ kl = flit k)
theorem flit_key (k : Nat) : WideAt.IsKeyLit (flit k) := trivial
theorem TabR.dok {w0 w : World} {b bm mb : Nat} {M : List (Lit × Value)} {L : LB} (h : TabR w0 b bm mb M L w) : DOk (mkM M) L b bm [] := by
 obtain ⟨_, _, _, _, h5, _, h7, h8⟩ := h
 refine ⟨fun k hk _ => ?_, fun kl hh => ?_⟩
 ·obtain ⟨v, hv⟩ := h8 k hk
  obtain ⟨q1, q2⟩ := mkM_at M (flit k) v (flit_key k) hv h5
  obtain ⟨j, hj, e, hf⟩ := h7 _ hv
  obtain rfl := flit_inj k hk j hj e
  exact ⟨q1, v, q2, hf⟩
 ·refine Classical.byContradiction fun hn => ?_
  have := (mkM_not M kl (fun e he e2 => ?_)).1
  ·rw [hh] at this; cases this
  ·obtain ⟨k, hk, e3, _⟩ := h7 e he
   exact hn ⟨k, hk, by simp, by rw [← e2, e3]⟩
theorem DOk.del {D : DataW Value} {L : LB} {b bm : Nat} {used : List Nat} (h : DOk D L b bm used) (k : Nat) (hk : k < 14) : DOk (D.del (flit k)) L b bm (used ++ [k]) := by
 refine ⟨fun j hj hn => ?_, fun kl hh => ?_⟩
 ·simp only [List.mem_append, List.mem_singleton, not_or] at hn
  have hne : flit j ≠ flit k := fun e => hn.2 (flit_inj j hj k hk e)
  obtain ⟨q1, v, q2, q3⟩ := h.1 j hj hn.1
  exact ⟨by rw [Go.Maps.has_del_other hne]; exact q1, v, fun z => by rw [Go.Maps.atKey_del_other hne]; exact q2 z, q3⟩
 ·by_cases e : kl = flit k
  ·subst e; rw [Go.Maps.has_del_same] at hh; cases hh
  ·rw [Go.Maps.has_del_other e] at hh
   obtain ⟨j, hj, hn, rfl⟩ := h.2 kl hh
   exact ⟨j, hj, by simp only [List.mem_append, List.mem_singleton, not_or]; exact ⟨hn, fun e2 => e (by rw [e2])⟩, rfl⟩
theorem flit_same {i j : Nat} (hi : i < 14) (hj : j < 14) (h : (flit i).sameKey (flit j) = true) : i = j := by
 refine flit_inj i hi j hj ?_
 unfold flit at h ⊢
 simp only [Lit.sameKey, beq_iff_eq] at h
 rw [h]
/-- What stands while Valid goes through a message's names. -/
structure VS (w0 : World) (b bm mb g : Nat) (L : LB) (cs : List Value) (ml : List Int) (nm : List ByteArray) (W : World) : Prop where
 blks : ∀ e ∈ L, Blk W e.1 e.2.1 e.2.2.toArray
 ne : (∀ e ∈ L, e.1 ≠ mb) ∧ b ≠ mb ∧ g ≠ mb
 msg : Blk W b 41 cs.toArray
 names : Blk W g 9 (strCells nm).toArray
 below : Below w0.heap.size w0 W
 mb0 : w0.heap.size ≤ mb ∧ mb < W.heap.size
theorem VS.step {w0 W W' : World} {b bm mb g : Nat} {L : LB} {cs : List Value} {ml : List Int} {nm : List ByteArray} (h : VS w0 b bm mb g L cs ml nm W) (k : Below W.heap.size W W') : VS w0 b bm mb g L cs ml nm W' :=
 ⟨fun e he => (h.blks e he).step k, h.ne, h.msg.step k, h.names.step k, Below.touch h.below (Touch.below k []) (by simp) h.below.size, h.mb0.1, Nat.lt_of_lt_of_le h.mb0.2 k.size⟩
theorem VS.turn {w0 W W' : World} {b bm mb g : Nat} {L : LB} {cs : List Value} {ml : List Int} {nm : List ByteArray} {S : List Nat} (h : VS w0 b bm mb g L cs ml nm W) (k : Touch S W W') (hS : ∀ s ∈ S, (∀ e ∈ L, e.1 ≠ s) ∧ b ≠ s ∧ g ≠ s ∧ w0.heap.size ≤ s) : VS w0 b bm mb g L cs ml nm W' :=
 ⟨fun e he => (h.blks e he).touch k (fun hm => (hS _ hm).1 e he rfl), h.ne, h.msg.touch k (fun hm => (hS _ hm).2.1 rfl), h.names.touch k (fun hm => (hS _ hm).2.2.1 rfl), Below.touch h.below k (fun s hs => (hS s hs).2.2.2) h.below.size, h.mb0.1, Nat.lt_of_lt_of_le h.mb0.2 k.size⟩
theorem VS.map {w0 W W' : World} {b bm mb g : Nat} {L : LB} {cs : List Value} {ml : List Int} {nm : List ByteArray} (h : VS w0 b bm mb g L cs ml nm W) (k : Touch [mb] W W') : VS w0 b bm mb g L cs ml nm W' :=
 h.turn k (fun s hs => by obtain rfl : s = mb := by simpa using hs
                          exact ⟨h.ne.1, h.ne.2.1, h.ne.2.2, h.mb0.1⟩)
theorem agg_inj {fw fr fz fo fw' fr' fz' fo' : FuncId} {cw cr cz co cw' cr' cz' co' : List Value} (h : Value.agg (fv fw fr fz fo cw cr cz co).toArray = Value.agg (fv fw' fr' fz' fo' cw' cr' cz' co').toArray) : fz = fz' ∧ cz = cz' := by
 injection h with h
 have := List.toArray_inj h
 unfold fv at this
 injection this with h1 this
 injection this with h2 this
 injection this with h3 this
 injection h3 with h4 _ h5
 injection h4 with h4
 exact ⟨h4, List.toArray_inj h5⟩
end
section
open Go.ChangeMaps Go.ChangeShapes Go.WideShapes Go.ChangeAt Go.RowKit
open Go.Maps (Keyed IsMap)
theorem zero_field (w : World) : (zeroValue 101).run Try.prog w = .ok (.agg zfield.toArray) w := by kernel_rfl
theorem keyed_str : Keyed Try.prog 9 := Go.Maps.string_keyed Try.underlying9
theorem run_field3 (fw fr fz fo : FuncId) (cw cr cz co : Array Value) (W : World) : (Instr.field 101 (.agg #[.func (.func fw) #[] cw, .func (.func fr) #[] cr, .func (.func fz) #[] cz, .func (.func fo) #[] co]) 3).run Try.prog W = .ok (.func (.func fo) #[] co) W := by kernel_rfl
theorem validP_some {cs : List Value} {ml : List Int} {ix : List Nat} (h : usedIx cs = some ix) : validP cs ml = (ix.all (vF cs ml) && (List.range 14).all fun k => ix.contains k || zF cs k) := by unfold validP; rw [h]
set_option maxHeartbeats 4000000 in
theorem valid_c (cs : List Value) (ml : List Int) (w : World) (hT : MsgT cs) (hm : Li w (slAt cs 33) ml) : Calls Try.prog 21 #[.agg cs.toArray] w fun e w' => e = .returned (.bool (validP cs ml)) ∧ Below w.heap.size w w' := by
 obtain ⟨kd, h0⟩ := hT.ints 0 (by decide)
 have hb0 := hT.kind kd h0;have hn0 := numAt_eq h0
 have hwf : (Lit.int .i64 kd).wf = true := by
  have := hb0.1; have := hb0.2
  simp [Lit.wf, IntKind.min, IntKind.max, IntKind.signed, IntKind.bits]; omega
 have HT := hide hT;have HM := hide hm;have H0 := hide h0
 have HO := hide (Own.nil w [] (by simp))
 clear hT hm h0 hb0
 go_enter Try.func21, Try.ntmps21
 go_wp2_with ((with_reducible refine at_box 41 (.tmp 0) ?_); refine wpList_box_own HO.out rfl 41 (.tmp 0) rfl cs rfl ?_; intro WA b hO; replace HO := hide hO; clear hO; have k0 : WA.cell? ⟨b, 0, none⟩ = some (.int .i64 kd) := (HO.out.cells 0 rfl 0).trans H0.out)
 refine (uses_c kd hwf _).mono ?_
 rintro e w1 ⟨hb1, hr⟩
 replace HO := hide (HO.out.step hb1)
 clear hb1 k0 hwf
 rcases hr with ⟨hk, rfl⟩ | ⟨l, g, hul, hk0, hk1, rfl, hbg, hgn⟩
 ·have HV : Hid (validP cs ml = false) := hide (by
   have : usedIx cs = none := by
    unfold usedIx
    rw [hn0]
    split
    ·rw [List.getElem?_eq_none]
     show 12 ≤ _
     omega
    ·rfl
   unfold validP
   rw [this])
  clear hk hn0
  go_wp2_with fail
  go_ret
  exact ⟨by rw [HV.out]; rfl, HO.out.below⟩
 ·obtain ⟨ix, hix, rfl, hlt14, hnd⟩ := useList_get hul
  have hn14 : ix.length ≤ 14 := useIdx_len ix (List.mem_of_getElem? hix)
  have HU : Hid (usedIx cs = some ix) := hide (by unfold usedIx; rw [hn0, if_pos hk0]; exact hix)
  have HG := hide hbg;have HX14 := hide hlt14;have HND := hide hnd
  unfold useVal
  obtain ⟨n, hn⟩ : ∃ n, (ix.map fname).length = n := ⟨_, rfl⟩
  rw [hn]
  replace hn14 : n ≤ 14 := by rw [← hn, List.length_map]; exact hn14
  have HN : Hid (n = ix.length) := hide (by rw [← hn, List.length_map])
  clear hn hix hul hk0 hk1 hbg hgn hlt14 hnd hn0
  go_wp2_with fail
  refine (fields_c b _).mono ?_
  rintro e w2 ⟨bm, mb, M, L, rfl, hL, htab, hbm⟩
  have hB := (HO.out.has (b, 41, cs) (by simp))
  have HVS : Hid (VS w b bm mb g L cs ml (ix.map fname) w2) := hide ⟨fun e he => (hL.has e he).1, ⟨htab.2.1, fun e => by have := hB.1.lt; have := htab.2.2.1; omega, fun e => by have := HG.out.lt; have := htab.2.2.1; omega⟩, hB.1.step hL.below, HG.out.step hL.below, (HO.out.step hL.below).below, Nat.le_trans HO.out.size htab.2.2.1, htab.2.2.2.1⟩
  have HBM := hide hbm
  have HD : Hid (∃ D, w2.ownsMap Try.prog 9 RV mb M.length D ∧ DOk D L b bm (ix.take 0)) := hide ⟨_, htab.1, htab.dok⟩
  clear hL htab hbm hB HO HG
  go_wp2_with fail
  go_loopw [21] (fun v21 wr => ∃ j : Nat, v21 = .int .i64 j ∧ j ≤ n ∧ VS w b bm mb g L cs ml (ix.map fname) wr ∧ (∃ D, wr.ownsMap Try.prog 9 RV mb M.length D ∧ DOk D L b bm (ix.take j)) ∧ (ix.take j).all (vF cs ml) = true) (fun v21 _ => n - (intOf v21).toNat)
  case atStart => exact ⟨0, rfl, Nat.zero_le _, HVS.out, HD.out, rfl⟩
  case round =>
   obtain ⟨j, rfl, hj, hv, ⟨D, hown, hdok⟩, hall⟩ := hrel
   clear HVS HD;have HVS := hide hv
   by_cases hlt : j < n
   ·have hjl : j < ix.length := by rw [← HN.out]; exact hlt
    obtain ⟨k, hk⟩ : ∃ k, ix[j] = k := ⟨_, rfl⟩
    have hk14 : k < 14 := HX14.out k (hk ▸ List.getElem_mem hjl)
    have hnk : k ∉ ix.take j := by
     intro hm
     obtain ⟨i, hi, e⟩ := List.mem_iff_getElem.1 hm
     rw [List.length_take] at hi
     rw [List.getElem_take] at e
     have := (List.getElem_inj (h₀ := by omega) (h₁ := hjl) HND.out).1 (e.trans hk.symm)
     omega
    have htk : ix.take (j + 1) = ix.take j ++ [k] := by rw [List.take_add_one, List.getElem?_eq_getElem hjl, hk]; rfl
    have hname : wr.cell? ⟨g, j, none⟩ = some (.string (fname k)) := by
     rw [HVS.out.names.cell j]
     simp [strCells, hjl, hk]
    obtain ⟨hh, v, hat, hf⟩ := hdok.1 k hk14 hnk
    obtain ⟨fw, fr, fz, fo, cw, cr, cz, co, rfl, hz, ho⟩ := field_at hk14 hf HVS.out.blks HBM.out (fun o => (HVS.out.msg.cell o).trans (by simp)) HT.out (HM.out.step HVS.out.below)
    have hfd := run_field3 fw fr fz fo cw.toArray cr.toArray cz.toArray co.toArray
    have HAT : Hid (∀ z, D.atKey (flit k) z = .held (.agg #[.func (.func fw) #[] cw.toArray, .func (.func fr) #[] cr.toArray, .func (.func fz) #[] cz.toArray, .func (.func fo) #[] co.toArray])) := hide hat
    have HOW := hide hown;have HHO := hide ho.2
    have hent := fun (W : World) => ho.1 co.toArray W
    have HDK := hide (hdok.del k hk14)
    have HAL : Hid (vF cs ml k = true → (ix.take (j + 1)).all (vF cs ml) = true) := hide (fun h => by rw [htk, List.all_append, hall]; simp [h])
    have HNO : Hid (vF cs ml k = false → validP cs ml = false) := hide (fun h => by
     rw [validP_some HU.out]
     have : ix.all (vF cs ml) = false := by
      rw [List.all_eq_false]
      exact ⟨k, hk ▸ List.getElem_mem hjl, by simp [h]⟩
     rw [this]; rfl)
    rw [← htk] at HDK
    have HK14 := hide hk14;have HLT := hide hlt
    have hji : (j : Int) < (n : Int) := by omega
    clear hv hown hdok hall hlt hjl hk hk14 hnk htk hh hat hf hz ho hj
    go_wp2_with ((with_reducible refine at_lookup_ 96 (.tmp 25) (.tmp 26) false ?_); refine wpList_lookup_held rfl (.tmp 25) (.tmp 26) 96 rfl 9 101 keyed_str Try.underlying96 (zero_field _) mb M.length D rfl HOW.out (.string (fname k)) (.agg #[.func (.func fw) #[] cw.toArray, .func (.func fr) #[] cr.toArray, .func (.func fz) #[] cz.toArray, .func (.func fo) #[] co.toArray]) (flit k) rfl (key_name k HK14.out) HAT.out ?_)
    refine HHO.out.mono ?_
    rintro e w3 ⟨rfl, hb3⟩
    replace HVS := hide (HVS.out.step hb3)
    replace HOW := hide (HOW.out.kept (grown_of_below hb3 none) (by simp))
    clear hb3 hname hent hfd HHO
    cases hvf : vF cs ml k with
    | false =>
     replace HNO := hide (HNO.out hvf)
     clear hvf
     go_wp2_with fail
     go_ret
     exact ⟨by rw [HNO.out]; rfl, HVS.out.below⟩
    | true =>
     replace HAL := hide (HAL.out hvf)
     clear hvf HNO
     go_wp2_with (at_delete; refine Go.wpList_delete_own _ rfl (.tmp 31) (.tmp 32) 96 9 rfl 101 keyed_str Try.underlying96 RV mb M.length D rfl HOW.out (.string (fname k)) (flit k) rfl (key_name k HK14.out) ?_; intro w4 hown4 hturn; replace HVS := hide (HVS.out.map (Touch.map hturn)); replace HOW := hide hown4; clear hown4 hturn)
     go_roundw
     case rel => exact ⟨j + 1, by go_num, HLT.out, HVS.out, ⟨_, HOW.out, HDK.out⟩, HAL.out⟩
     case measure => have := HLT.out; simp [intOf]; omega
   ·obtain rfl : j = n := by omega
    have HAL : Hid (ix.all (vF cs ml) = true) := hide (by rw [HN.out, List.take_length] at hall; exact hall)
    have HDK : Hid (DOk D L b bm ix) := hide (by rw [HN.out, List.take_length] at hdok; exact hdok)
    have HOW := hide hown;clear hv hown hdok hall hlt hj
    obtain ⟨r, hr⟩ : ∃ r, wr.heap.size = r := ⟨_, rfl⟩
    have HR : Hid ((∀ e ∈ L, e.1 ≠ r) ∧ b ≠ r ∧ g ≠ r ∧ w.heap.size ≤ r ∧ mb ≠ r) := hide ⟨fun e he => by have := (HVS.out.blks e he).lt; omega, by have := HVS.out.msg.lt; omega, by have := HVS.out.names.lt; omega, by rw [← hr]; exact HVS.out.below.size, by have := HVS.out.mb0.2; omega⟩
    go_wp2_with (at_range; refine Go.wpList_range_own _ rfl (.tmp 34) 96 rfl 9 101 keyed_str Try.underlying96 RV mb M.length D rfl HOW.out ?_; intro w5 hrg hg hs; have HRG := hide hrg; have HG5 := hide hg; clear hrg hg hs)
    go_frame
    rw [hr] at HRG
    rw [hr]
    replace HVS := hide (HVS.out.turn (Touch.grown HG5.out) (by simp))
    clear HG5 hr HOW
    go_loopw [36] (fun _ wr => ∃ (left : Lit → Bool) (cnt : Nat), wr.ranges Try.prog 9 RV mb r M.length D left cnt ∧ VS w b bm mb g L cs ml (ix.map fname) wr ∧ (∀ kl, left kl = true → Go.Maps.has D kl = true) ∧ (∀ k, k < 14 → k ∉ ix → left (flit k) = false → zF cs k = true)) (fun _ wr => wr.rangeLeft mb r)
    case atStart => exact ⟨_, _, HRG.out, HVS.out, fun kl h => h, fun k hk hn h => by have := (HDK.out.1 k hk hn).1; rw [h] at this; cases this⟩
    case round =>
     obtain ⟨left, cnt, hrg, hv, hlh, hz⟩ := hrel
     clear HVS HRG;have HVS := hide hv;have HRG := hide hrg;have HLH := hide hlh;have HZZ := hide hz;clear hv hrg hlh hz
     go_wp2_with (at_next; refine Go.wpList_next_ranges _ rfl (.tmp 35) rfl 9 keyed_str RV (fun s : ByteArray => .string s) (fun v : Value => v) (fun key kl h => by obtain ⟨s, e, _⟩ := Go.WideMaps.string_of_keyOf Try.underlying9 h; exact ⟨s, e⟩) (fun v y _ => ⟨v, rfl⟩) mb r M.length D left cnt rfl HRG.out ?_ ?_)
     ·intro hc0 hl0
      have HV : Hid (validP cs ml = true) := hide (by
       rw [validP_some HU.out, HAL.out, Bool.true_and, List.all_eq_true]
       intro k hk
       by_cases hm : k ∈ ix
       ·simp [hm]
       ·rw [HZZ.out k (List.mem_range.1 hk) hm (hl0 _)]; simp)
      clear hc0 hl0
      go_wp2_with fail
      go_ret
      exact ⟨by rw [HV.out]; rfl, HVS.out.below⟩
     ·intro x c kl y1 y2 w6 cnt6 hkx hlk hry hat hrg6 hlt6 hg6 hs6 hen
      obtain ⟨k, hk14, hnk, rfl⟩ := HDK.out.2 kl (HLH.out kl hlk)
      obtain ⟨hh, v, hatv, hf⟩ := HDK.out.1 k hk14 hnk
      obtain rfl : v = c := by
       have h1 := (hatv (.held v)).symm.trans (hat (.held v))
       simp only [RV, Option.some.injEq, Prod.mk.injEq] at hry
       rw [← hry.1] at h1
       injection h1
      replace HVS := hide (HVS.out.turn (Touch.grown hg6) (fun s hs => by obtain rfl : s = r := by simpa using hs
                                                                          exact ⟨HR.out.1, HR.out.2.1, HR.out.2.2.1, HR.out.2.2.2.1⟩))
      have hmsg : ∀ W, VS w b bm mb g L cs ml (ix.map fname) W → FieldOf W v (zF cs k) (vF cs ml k) := fun W hW => field_at hk14 hf hW.blks HBM.out (fun o => (hW.msg.cell o).trans (by simp)) HT.out (HM.out.step hW.below)
      obtain ⟨fw, fr, fz, fo, cw, cr, cz, co, rfl, hz, _⟩ := hmsg _ HVS.out
      have HSAY : Hid (∀ W, VS w b bm mb g L cs ml (ix.map fname) W → Calls Try.prog fz cz.toArray W fun e w' => e = .returned (.bool (zF cs k)) ∧ Below W.heap.size W w') := hide (fun W hW => by
       obtain ⟨fw', fr', fz', fo', cw', cr', cz', co', e, hz', _⟩ := hmsg W hW
       obtain ⟨rfl, rfl⟩ := agg_inj e
       exact hz'.2)
      have hent := fun (W : World) => hz.1 cz.toArray W
      have HRG6 := hide hrg6
      have HO := hide (Own.nil w6 [] (by simp))
      have HLC : Hid (cnt6 < cnt) := hide hlt6
      have HNO : Hid (zF cs k = false → validP cs ml = false) := hide (fun h => by
       rw [validP_some HU.out, HAL.out, Bool.true_and, List.all_eq_false]
       exact ⟨k, List.mem_range.2 hk14, by simp [hnk, h]⟩)
      have HK14 : Hid (k < 14 ∧ k ∉ ix) := hide ⟨hk14, hnk⟩
      clear hkx hlk hry hat hrg6 hlt6 hg6 hs6 hh hatv hf hmsg hz hk14 hnk
      unfold fv at hen ⊢
      go_wp2_with (first
       | ((with_reducible refine at_alloc 101 ?_); refine wpList_alloc_own HO.out rfl 101 rfl zfield info_field ?_; intro WA b9 hO; replace HO := hide hO; clear hO)
       | ((with_reducible refine at_store 101 (.tmp 9) ?_); refine wpList_store_own HO.out rfl 101 (.tmp 9) (.tmp 39) rfl 0 _ 0 _ _ (fv fw fr fz fo cw cr cz co) (fv fw fr fz fo cw cr cz co) rfl (.agg (fv fw fr fz fo cw cr cz co).toArray) rfl rfl (fits_agg _) (by simp [fv, zfield]) rfl size_field rfl ?_; intro WA hO; replace HO := hide hO; clear hO; have k9 : ∀ j, WA.cell? ⟨b9, j, none⟩ = ([.func (.func fw) #[] cw.toArray, .func (.func fr) #[] cr.toArray, .func (.func fz) #[] cz.toArray, .func (.func fo) #[] co.toArray] : List Value)[j]? := HO.out.cells 0 rfl))
      replace HVS := hide (HVS.out.step HO.out.below)
      replace HRG6 := hide (HRG6.out.kept (grown_of_below HO.out.below none) (by simp) (by simp))
      clear HO k9 hen
      refine (HSAY.out _ HVS.out).mono ?_
      rintro e w7 ⟨rfl, hb7⟩
      replace HVS := hide (HVS.out.step hb7)
      replace HRG6 := hide (HRG6.out.kept (grown_of_below hb7 none) (by simp) (by simp))
      clear hb7 hent HSAY
      cases hzf : zF cs k with
      | false =>
       replace HNO := hide (HNO.out hzf)
       clear hzf
       go_wp2_with fail
       go_ret
       exact ⟨by rw [HNO.out]; rfl, HVS.out.below⟩
      | true =>
       have HZF := hide hzf;clear hzf HNO
       go_wp2_with fail
       go_roundw
       case rel =>
        refine ⟨_, cnt6, HRG6.out, HVS.out, fun kl h => HLH.out kl (by simp only [Bool.and_eq_true] at h; exact h.1), fun k' hk' hn' h => ?_⟩
        by_cases e : k' = k
        ·rw [e]; exact HZF.out
        ·refine HZZ.out k' hk' hn' ?_
         cases hl : left (flit k') with
         | false => rfl
         | true =>
          rw [hl, Bool.true_and] at h
          have h2 : (flit k').sameKey (flit k) = true := by simpa using h
          exact absurd (flit_same hk' HK14.out.1 h2) e
       case measure => rw [HRG6.out.left_eq, HRG.out.left_eq]; exact HLC.out
end
section
open Go.ChangeShapes Go.WideShapes Go.ChangeAt Go.RowKit
def lOffs : List Nat := [11, 12, 26, 27, 28, 29, 30, 31, 32, 33]
/-- A message: its cells, its lists and its entries, all of them below B. -/
structure MsgM (w : World) (B : Nat) (cs : List Value) (li : Nat → List Int) (l : List En) : Prop where
 T : MsgT cs
 I : ∀ o ∈ iOffs, I64 (numAt cs o)
 S : ∀ o ∈ lOffs, LiB w B (slAt cs o) (li o)
 E : EnsIn w B (slAt cs 43) l
 sz : totL (lOffs.map li) + totE l + l.length + (strAt cs 5).size + (strAt cs 45).size ≤ 1073741824
theorem MsgM.below {w w' : World} {B : Nat} {cs : List Value} {li : Nat → List Int} {l : List En} (h : MsgM w B cs li l) (k : Below B w w') : MsgM w' B cs li l := ⟨h.T, h.I, fun o ho => (h.S o ho).below k, h.E.below k, h.sz⟩
theorem MsgM.mono {w : World} {B B' : Nat} {cs : List Value} {li : Nat → List Int} {l : List En} (h : MsgM w B cs li l) (k : B ≤ B') : MsgM w B' cs li l := ⟨h.T, h.I, fun o ho => (h.S o ho).mono k, h.E.mono k, h.sz⟩
def encG (cs : List Value) (l : List En) : List UInt8 := encM (mOffs.map (numAt cs)) (boolAt cs 42) (boolAt cs 46) (strAt cs 45) l
def encF (cs : List Value) (li : Nat → List Int) (l : List En) (k : Nat) : List UInt8 :=
 match k with
 | 0 => encI (numAt cs 1)
 | 1 => encI (numAt cs 2)
 | 2 => encI (numAt cs 3)
 | 3 => encI (numAt cs 4)
 | 4 => encI (numAt cs 6)
 | 5 => encI (numAt cs 7)
 | 6 => encI (numAt cs 8)
 | 7 => encT (strAt cs 5)
 | 8 => encI (numAt cs 17)
 | 9 => encNs cs [9, 10] ++ encLs ([11, 12].map li)
 | 10 => encNs cs [13, 14, 15] ++ encI (numAt cs 16)
 | 11 => encNs cs [] ++ encLs ([33].map li)
 | 12 => encNs cs [18, 19, 20, 21, 22, 23, 24, 25] ++ encLs ([26, 27, 28, 29, 30, 31, 32].map li)
 | _ => encT ⟨(encG cs l).toArray⟩
theorem ent_n1 : Ent 88 := enters Try.func88 (by kernel_rfl) (by kernel_rfl)
theorem ent_p1 : Ent 82 := enters Try.func82 (by kernel_rfl) (by kernel_rfl)
theorem ent_f1 : Ent 52 := enters Try.func52 (by kernel_rfl) (by kernel_rfl)
theorem ent_f6 : Ent 61 := enters Try.func61 (by kernel_rfl) (by kernel_rfl)
theorem ent_f10 : Ent 67 := enters Try.func67 (by kernel_rfl) (by kernel_rfl)
theorem ent_f13 : Ent 71 := enters Try.func71 (by kernel_rfl) (by kernel_rfl)
theorem iOffs_sub : ∀ o ∈ mOffs, o ∈ iOffs := by decide
section
variable {w : World} {base : Nat} {L : LB} {b bm : Nat} {cs : List Value} {li : Nat → List Int} {l : List En}
theorem MsgM.listsAt (h : MsgM w base cs li l) {ls : List Nat} (hl : ∀ o ∈ ls, o ∈ lOffs) : ListsAt w base cs ls (ls.map li) :=
 ⟨by simp, fun i h1 h2 => by rw [List.getElem_map]; exact h.S _ (hl _ (List.getElem_mem h1))⟩
theorem MsgM.list_ok (h : MsgM w base cs li l) {o : Nat} (ho : o ∈ lOffs) : (∀ x ∈ li o, I64 x) ∧ (li o).length < 2 ^ 64 := by
 obtain ⟨A, c, e, h1, h2, h3, h4⟩ := h.S o ho
 exact ⟨h3, by unfold maxLen at h2; omega⟩
theorem MsgM.ens (h : MsgM w base cs li l) : ∀ x ∈ l, x.Ok := by
 obtain ⟨_, _, _, _, _, h3, _⟩ := h.E
 exact h3
def FieldW (w : World) (base : Nat) (v : Value) (m : List UInt8) : Prop := ∃ fw fr fz fo cw cr cz co, v = .agg (fv fw fr fz fo cw cr cz co).toArray ∧ Ent fw ∧ ∀ W, Below base w W → Writes W fw cw base m
theorem num_w {o : Nat} {lo hi : Int} {v : Value} (hF : FB w base L b bm cs) (hM : MsgM w base cs li l) (ho : o ∈ iOffs) (h : NumF L b o lo hi v) : FieldW w base v (encI (numAt cs o)) := by
 obtain ⟨x, hx⟩ := hM.T.ints o ho
 have hi := hM.I o ho
 rw [numAt_eq hx] at hi ⊢
 obtain ⟨bp, bl, bh, rfl, h1, h2, h3⟩ := h
 exact ⟨_, _, _, _, _, _, _, _, rfl, ent_n1, fun W k => nwrite_c ((hF.below k).box h1) (((hF.below k).cell o).trans hx) hi⟩
theorem part_w {ns ls : List Nat} {bn bl : Nat} (hF : FB w base L b bm cs) (hM : MsgM w base cs li l) (hp : PartB L b ns ls bn bl) (hn : ∀ o ∈ ns, o ∈ iOffs) (hl : ∀ o ∈ ls, o ∈ lOffs) (hs : ∀ o ∈ ls, o ∈ sOffs) (h1 : ns.length ≤ 100) (h2 : ls.length ≤ 100) (h3 : totL (ls.map li) ≤ totL (lOffs.map li)) (W : World) (k : Below base w W) :
 Writes W 82 [at0 bn, at0 bl] base (encNs cs ns ++ encLs (ls.map li)) :=
 pwrite_c (hF.below k) hp hM.T (fun o ho => ⟨hn o ho, hM.I o (hn o ho)⟩) hs h1 h2 ((hM.below k).listsAt hl) (by have := hM.sz; omega)
theorem field_w {k : Nat} {v : Value} (hk : k < 14) (h : FValI L b bm k v) (hF : FB w base L b bm cs) (hM : MsgM w base cs li l) : FieldW w base v (encF cs li l k) := by
 have hT := hM.T
 have : k = 0 ∨ k = 1 ∨ k = 2 ∨ k = 3 ∨ k = 4 ∨ k = 5 ∨ k = 6 ∨ k = 7 ∨ k = 8 ∨ k = 9 ∨ k = 10 ∨ k = 11 ∨ k = 12 ∨ k = 13 := by omega
 rcases this with rfl | rfl | rfl | rfl | rfl | rfl | rfl | rfl | rfl | rfl | rfl | rfl | rfl | rfl
 ·exact num_w hF hM (by decide) h
 ·exact num_w hF hM (by decide) h
 ·exact num_w hF hM (by decide) h
 ·exact num_w hF hM (by decide) h
 ·exact num_w hF hM (by decide) h
 ·exact num_w hF hM (by decide) h
 ·exact num_w hF hM (by decide) h
 ·obtain ⟨s, hs⟩ := hT.body
  have hz := hM.sz
  rw [strAt_eq hs] at hz
  refine ⟨_, _, _, _, _, _, _, _, h, ent_f6, fun W k => ?_⟩
  show Writes W _ _ base (encT (strAt cs 5))
  rw [strAt_eq hs]
  exact bwrite_c (hF.below k) hs (by omega)
 ·obtain ⟨x, hx⟩ := hT.ints 17 (by decide)
  have hi := hM.I 17 (by decide)
  refine ⟨_, _, _, _, _, _, _, _, h, ent_f10, fun W k => ?_⟩
  show Writes W _ _ base (encI (numAt cs 17))
  rw [numAt_eq hx] at hi ⊢
  exact vwrite_c (hF.below k) hx hi
 ·obtain ⟨bn, bl, rfl, hp⟩ := h
  exact ⟨_, _, _, _, _, _, _, _, rfl, ent_p1, part_w hF hM hp (by decide) (by decide) (by decide) (by decide) (by decide) (by simp only [totL, lOffs, List.map_cons, List.map_nil, List.sum_cons, List.sum_nil]; omega)⟩
 ·obtain ⟨b7, b8, b9, bn, bl, rfl, h7, h8, h9, hp⟩ := h
  exact ⟨_, _, _, _, _, _, _, _, rfl, ent_f1, fun W k => uwrite_c (hF.below k) h7 hp hT (fun o ho => hM.I o (by revert o; decide))⟩
 ·obtain ⟨bn, bl, rfl, hp⟩ := h
  exact ⟨_, _, _, _, _, _, _, _, rfl, ent_p1, part_w hF hM hp (by decide) (by decide) (by decide) (by decide) (by decide) (by simp only [totL, lOffs, List.map_cons, List.map_nil, List.sum_cons, List.sum_nil]; omega)⟩
 ·obtain ⟨bn, bl, rfl, hp⟩ := h
  exact ⟨_, _, _, _, _, _, _, _, rfl, ent_p1, part_w hF hM hp (by decide) (by decide) (by decide) (by decide) (by decide) (by simp only [totL, lOffs, List.map_cons, List.map_nil, List.sum_cons, List.sum_nil]; omega)⟩
 ·have hz := hM.sz
  exact ⟨_, _, _, _, _, _, _, _, h, ent_f13, fun W k => mwrite_c (hF.below k) hT (fun o ho => hM.I o (iOffs_sub o ho)) (hM.E.below k) (by omega)⟩
theorem encG_len (hM : MsgM w base cs li l) : (encG cs l).length ≤ 30000000000 := by
 unfold encG
 have := encM_len (is := mOffs.map (numAt cs)) (gr := boolAt cs 42) (dn := boolAt cs 46) (d := strAt cs 45) (l := l) (fun y hy => by
  obtain ⟨o, ho, rfl⟩ := List.mem_map.1 hy
  exact hM.I o (iOffs_sub o ho)) (by rw [List.length_map]; decide) hM.ens (by have := hM.sz; omega) (by have := hM.sz; omega)
 have := hM.sz
 omega
theorem part_len {ns ls : List Nat} (hM : MsgM w base cs li l) (hn : ∀ o ∈ ns, o ∈ iOffs) (hl : ∀ o ∈ ls, o ∈ lOffs) (h1 : ns.length ≤ 100) (h3 : totL (ls.map li) ≤ totL (lOffs.map li)) : (encNs cs ns ++ encLs (ls.map li)).length ≤ 30000000000 := by
 rw [List.length_append]
 have h4 := encNs_len (cs := cs) (ns := ns) (fun o ho => hM.I o (hn o ho))
 have h5 := encLs_len (lss := ls.map li) (fun x hx => by obtain ⟨o, ho, rfl⟩ := List.mem_map.1 hx; exact hM.list_ok (hl o ho))
 have := hM.sz
 omega
theorem encF_len {k : Nat} (hk : k < 14) (hM : MsgM w base cs li l) : (encF cs li l k).length ≤ 34359738368 := by
 have num : ∀ o, o ∈ iOffs → (encI (numAt cs o)).length ≤ 34359738368 := fun o ho => by have := encI_len (hM.I o ho); omega
 have hz := hM.sz
 have : k = 0 ∨ k = 1 ∨ k = 2 ∨ k = 3 ∨ k = 4 ∨ k = 5 ∨ k = 6 ∨ k = 7 ∨ k = 8 ∨ k = 9 ∨ k = 10 ∨ k = 11 ∨ k = 12 ∨ k = 13 := by omega
 rcases this with rfl | rfl | rfl | rfl | rfl | rfl | rfl | rfl | rfl | rfl | rfl | rfl | rfl | rfl
 ·exact num _ (by decide)
 ·exact num _ (by decide)
 ·exact num _ (by decide)
 ·exact num _ (by decide)
 ·exact num _ (by decide)
 ·exact num _ (by decide)
 ·exact num _ (by decide)
 ·have := encT_len (strAt cs 5) (by omega)
  show (encT (strAt cs 5)).length ≤ _
  omega
 ·exact num _ (by decide)
 ·exact Nat.le_trans (part_len hM (by decide) (by decide) (by decide) (by simp only [totL, lOffs, List.map_cons, List.map_nil, List.sum_cons, List.sum_nil]; omega)) (by decide)
 ·show (encNs cs [13, 14, 15] ++ encI (numAt cs 16)).length ≤ _
  rw [List.length_append]
  have h4 := encNs_len (cs := cs) (ns := [13, 14, 15]) (fun o ho => hM.I o (by revert o; decide))
  have h5 := encI_len (hM.I 16 (by decide))
  simp only [List.length_cons, List.length_nil] at h4
  omega
 ·exact Nat.le_trans (part_len hM (by decide) (by decide) (by decide) (by simp only [totL, lOffs, List.map_cons, List.map_nil, List.sum_cons, List.sum_nil]; omega)) (by decide)
 ·exact Nat.le_trans (part_len hM (by decide) (by decide) (by decide) (by simp only [totL, lOffs, List.map_cons, List.map_nil, List.sum_cons, List.sum_nil]; omega)) (by decide)
 ·have h1 := encG_len hM
  have h2 := encT_len ⟨(encG cs l).toArray⟩ (by show (List.toArray _).size < _; rw [List.size_toArray]; omega)
  have e : (ByteArray.mk (encG cs l).toArray).size = (encG cs l).length := by show (List.toArray _).size = _; rw [List.size_toArray]
  rw [e] at h2
  show (encT ⟨(encG cs l).toArray⟩).length ≤ _
  omega
end
end
section
open Go.ChangeMaps Go.ChangeShapes Go.WideShapes Go.ChangeAt Go.RowKit
open Go.Maps (Keyed IsMap)
theorem run_field0 (fw fr fz fo : FuncId) (cw cr cz co : Array Value) (W : World) : (Instr.field 101 (.agg #[.func (.func fw) #[] cw, .func (.func fr) #[] cr, .func (.func fz) #[] cz, .func (.func fo) #[] co]) 0).run Try.prog W = .ok (.func (.func fw) #[] cw) W := by kernel_rfl
theorem msg_sizeE {cs : List Value} (h : cs.length = 47) : (Try.prog.info? 41).map (·.size) = some cs.length := by rw [h]; kernel_rfl
/-- The encoding of a message. -/
def encB (cs : List Value) (li : Nat → List Int) (l : List En) : List UInt8 := enc (numAt cs 0).toNat ++ ((usedIx cs).getD []).flatMap (encF cs li l)
def encP (cs : List Value) (li : Nat → List Int) (l : List En) : ByteArray := if validP cs (li 33) then ⟨(encB cs li l).toArray⟩ else ⟨#[]⟩
set_option maxHeartbeats 8000000 in
theorem encode_c (cs : List Value) (li : Nat → List Int) (l : List En) (w : World) (hM : MsgM w w.heap.size cs li l) : Calls Try.prog 22 #[.agg cs.toArray] w fun e w' => e = .returned (.string (encP cs li l)) ∧ Below w.heap.size w w' := by
 obtain ⟨kd, h0⟩ := hM.T.ints 0 (by decide)
 have hb0 := hM.T.kind kd h0;have hn0 := numAt_eq h0
 have hwf : (Lit.int .i64 kd).wf = true := by
  have := hb0.1; have := hb0.2
  simp [Lit.wf, IntKind.min, IntKind.max, IntKind.signed, IntKind.bits]; omega
 have HM := hide hM;have H0 := hide h0
 have HCL : Hid (cs.length = 47) := hide hM.T.len
 have HO := hide (Own.nil w [] (by simp))
 clear hM h0 hb0
 go_enter Try.func22, Try.ntmps22
 go_wp2_with (first
  | ((with_reducible refine at_box 41 (.tmp 0) ?_); refine wpList_box_own HO.out rfl 41 (.tmp 0) rfl cs rfl ?_; intro WA b hO; replace HO := hide hO; clear hO; have k0 : WA.cell? ⟨b, 0, none⟩ = some (.int .i64 kd) := (HO.out.cells 0 rfl 0).trans H0.out)
  | ((with_reducible refine at_load 41 (.tmp 1) ?_); refine wpList_load_own HO.out rfl 41 (.tmp 1) rfl 0 _ 0 47 _ _ cs _ rfl (by show List.take 47 cs = cs; rw [List.take_of_length_le (by rw [HCL.out]; exact Nat.le_refl _)]) rfl Try.underlying41 rfl (msg_sizeE HCL.out) ?_))
 refine (valid_c cs (li 33) _ HM.out.T (((HM.out.below HO.out.below).S 33 (by decide)).mono HO.out.below.size)).mono ?_
 rintro e w1 ⟨rfl, hb1⟩
 replace HO := hide (HO.out.step hb1)
 clear hb1 k0
 have k0 : w1.cell? ⟨b, 0, none⟩ = some (.int .i64 kd) := (HO.out.cells 0 rfl 0).trans H0.out
 cases hval : validP cs (li 33) with
 | false =>
  have HV : Hid (encP cs li l = ⟨#[]⟩) := hide (by unfold encP; rw [hval]; rfl)
  clear hval hwf hn0
  go_wp2_with fail
  go_ret
  exact ⟨by rw [HV.out]; rfl, HO.out.below⟩
 | true =>
  have HV : Hid (encP cs li l = ⟨(encB cs li l).toArray⟩) := hide (by unfold encP; rw [hval]; rfl)
  have hU : ∃ ix, usedIx cs = some ix := by
   unfold validP at hval
   cases h : usedIx cs with
   | none => rw [h] at hval; cases hval
   | some ix => exact ⟨ix, rfl⟩
  clear hval
  go_wp2_with fail
  refine (uses_c kd hwf _).mono ?_
  rintro e w2 ⟨hb2, hr⟩
  replace HO := hide (HO.out.step hb2)
  clear hb2 k0 hwf
  rcases hr with ⟨hk, rfl⟩ | ⟨ll, g, hul, hk0, hk1, rfl, hbg, hgn⟩
  ·exfalso
   obtain ⟨ix, hix⟩ := hU
   unfold usedIx at hix
   rw [hn0] at hix
   split at hix
   ·rw [List.getElem?_eq_none] at hix
    ·cases hix
    ·show 12 ≤ _
     omega
   ·cases hix
  ·obtain ⟨ix, hix, rfl, hlt14, hnd⟩ := useList_get hul
   have hn14 : ix.length ≤ 14 := useIdx_len ix (List.mem_of_getElem? hix)
   have HU : Hid (encB cs li l = enc kd.toNat ++ ix.flatMap (encF cs li l)) := hide (by unfold encB usedIx; rw [hn0, if_pos hk0, hix]; rfl)
   have HG := hide hbg;have HX14 := hide hlt14
   have k0 : w2.cell? ⟨b, 0, none⟩ = some (.int .i64 kd) := (HO.out.cells 0 rfl 0).trans H0.out
   obtain ⟨kn, rfl⟩ : ∃ kn : Nat, kd = kn := ⟨kd.toNat, by omega⟩
   have hk12 : kn < 12 := by omega
   unfold useVal
   obtain ⟨n, hn⟩ : ∃ n, (ix.map fname).length = n := ⟨_, rfl⟩
   rw [hn]
   replace hn14 : n ≤ 14 := by rw [← hn, List.length_map]; exact hn14
   have HN : Hid (n = ix.length) := hide (by rw [← hn, List.length_map])
   clear hn hix hul hk0 hk1 hbg hgn hlt14 hnd hn0 hU
   go_wp2_with fail
   refine (fields_c b _).mono ?_
   rintro e w3 ⟨bm, mb, M, L, rfl, hL, htab, hbm⟩
   have hB := (HO.out.has (b, 41, cs) (by simp))
   have HF : Hid (FB w3 w3.heap.size L b bm cs) := hide ⟨fun e he => ⟨(hL.has e he).1.lt, (hL.has e he).1⟩, hbm, (hB.1.step hL.below).lt, hB.1.step hL.below⟩
   have HMM : Hid (MsgM w3 w3.heap.size cs li l) := hide ((HM.out.below (below_trans HO.out.below (hL.below.mono HO.out.below.size))).mono (Nat.le_trans HO.out.below.size hL.below.size))
   have HBL : Hid (Below w.heap.size w w3) := hide (below_trans HO.out.below (hL.below.mono HO.out.below.size))
   have HNM : Hid (Blk w3 g 9 (strCells (ix.map fname)).toArray) := hide (HG.out.step hL.below)
   have HTB : Hid (w3.ownsMap Try.prog 9 RV mb M.length (mkM M) ∧ DOk (mkM M) L b bm []) := hide ⟨htab.1, htab.dok⟩
   have k0 : w3.cell? ⟨b, 0, none⟩ = some (.int .i64 kn) := (HF.out.cell 0).trans H0.out
   clear hL htab hbm hB HO HG HM
   go_wp2_with fail
   refine (appendNumber_c w3.heap.size (.slice none 0 0) [] kn (by omega) w3 (Ow.nil _ _) (by decide) (Nat.le_refl _)).mono ?_
   rintro e w4 ha
   obtain ⟨v4, rfl, ho4, hb4, hs4⟩ := ha.app (Ow.nil _ _) (Nat.le_refl _)
   have HEL : Hid ((enc kn).length ≤ 9) := hide (enc_len kn (by omega))
   have HO4 := hide ho4;have HB4 := hide hb4;have HS4 := hide hs4;clear ha ho4 hb4 hs4 k0
   go_wp2_with fail
   go_loopw [6, 25] (fun v6 v25 wr => ∃ j : Nat, v25 = .int .i64 j ∧ j ≤ n ∧ Ow wr w3.heap.size v6 (enc kn ++ (ix.take j).flatMap (encF cs li l)) ∧ Below w3.heap.size w3 wr) (fun _ v25 _ => n - (intOf v25).toNat)
   case atStart => exact ⟨0, rfl, Nat.zero_le _, by simpa using HO4.out, HB4.out⟩
   case round =>
    obtain ⟨j, rfl, hj, how, hbl⟩ := hrel
    clear HO4 HB4 HS4;have HBB := hide hbl
    obtain ⟨A6, n6, c6, rfl, _, _, _⟩ := how.formN
    have HOW := hide how
    by_cases hlt : j < n
    ·have hjl : j < ix.length := by rw [← HN.out]; exact hlt
     obtain ⟨k, hk⟩ : ∃ k, ix[j] = k := ⟨_, rfl⟩
     have hk14 : k < 14 := HX14.out k (hk ▸ List.getElem_mem hjl)
     have HFL : Hid ((ix.take (j + 1)).flatMap (encF cs li l) = (ix.take j).flatMap (encF cs li l) ++ encF cs li l k) := hide (by rw [← hk]; exact flat_snoc (encF cs li l) ix j hjl)
     have HPL : Hid (((ix.take j).flatMap (encF cs li l)).length ≤ 34359738368 * 14) := hide (by
      have h1 : ∀ (ks : List Nat), (∀ k ∈ ks, k < 14) → (ks.flatMap (encF cs li l)).length ≤ 34359738368 * ks.length := by
       intro ks hks
       induction ks with
       | nil => simp
       | cons x r ih =>
        rw [List.flatMap_cons, List.length_append, List.length_cons]
        have h1 := encF_len (hks x (by simp)) HMM.out
        have h2 := ih (fun y hy => hks y (by simp [hy]))
        omega
      have h2 := h1 (ix.take j) (fun k hk => HX14.out k (List.mem_of_mem_take hk))
      rw [List.length_take] at h2
      have := HN.out
      omega)
     have hname : wr.cell? ⟨g, j, none⟩ = some (.string (fname k)) := by
      rw [(HNM.out.below hbl HNM.out.lt).cell j]
      simp [strCells, hjl, hk]
     obtain ⟨hh, v, hat, hf⟩ := HTB.out.2.1 k hk14 (by simp)
     obtain ⟨fw, fr, fz, fo, cw, cr, cz, co, rfl, hent0, hwr⟩ := field_w hk14 hf HF.out HMM.out
     have hfd := run_field0 fw fr fz fo cw.toArray cr.toArray cz.toArray co.toArray
     have HAT : Hid (∀ z, (mkM M).atKey (flit k) z = .held (.agg #[.func (.func fw) #[] cw.toArray, .func (.func fr) #[] cr.toArray, .func (.func fz) #[] cz.toArray, .func (.func fo) #[] co.toArray])) := hide hat
     have HMP := hide (HTB.out.1.kept (grown_of_below hbl none) (by simp))
     have HWR := hide (hwr wr hbl)
     have hent := fun (W : World) => hent0 (Value.slice A6 n6 c6 :: cw).toArray W
     have HK14 := hide hk14;have HLT := hide hlt
     have hji : (j : Int) < (n : Int) := by omega
     clear how hbl hlt hjl hk hk14 hh hat hf hwr hent0 hj
     go_wp2_with ((with_reducible refine at_lookup_ 96 (.tmp 29) (.tmp 30) false ?_); refine wpList_lookup_held rfl (.tmp 29) (.tmp 30) 96 rfl 9 101 keyed_str Try.underlying96 (zero_field _) mb M.length (mkM M) rfl HMP.out (.string (fname k)) (.agg #[.func (.func fw) #[] cw.toArray, .func (.func fr) #[] cr.toArray, .func (.func fz) #[] cz.toArray, .func (.func fo) #[] co.toArray]) (flit k) rfl (key_name k HK14.out) HAT.out ?_)
     have hw := HWR.out (.slice A6 n6 c6) _ HOW.out HBB.out.size (by rw [List.length_append]; have := HEL.out; have := HPL.out; omega)
     rw [show #[Value.slice A6 n6 c6] ++ cw.toArray = (Value.slice A6 n6 c6 :: cw).toArray by simp] at hw
     refine hw.mono ?_
     rintro e w5 ⟨v5, rfl, ho5, hb5, hs5⟩
     have HO5 := hide ho5;have HB5 := hide hb5;clear hw ho5 hb5 hs5 hname hent hfd
     go_wp2_with fail
     go_roundw
     case rel => exact ⟨j + 1, by go_num, HLT.out, by rw [HFL.out, ← List.append_assoc]; exact HO5.out, below_trans HBB.out HB5.out⟩
     case measure => have := HLT.out; simp [intOf]; omega
    ·obtain rfl : j = n := by omega
     have HV2 : Hid (encP cs li l = ⟨(enc kn ++ ix.flatMap (encF cs li l)).toArray⟩) := hide (by rw [HV.out, HU.out]; rfl)
     have HOW2 : Hid (Ow wr w3.heap.size (.slice A6 n6 c6) (enc kn ++ ix.flatMap (encF cs li l))) := hide (by rw [HN.out, List.take_length] at how; exact how)
     have hst := run_string_bs HOW2.out.bs;clear how hbl hlt hj
     go_wp2_with fail
     go_ret
     exact ⟨by rw [HV2.out]; rfl, below_trans HBL.out (HBB.out.mono HBL.out.size)⟩
end
end Go.Proofs.Ytpbgelhjbfckcaa
