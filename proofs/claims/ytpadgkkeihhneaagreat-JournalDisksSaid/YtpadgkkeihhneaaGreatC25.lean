/- The reference of the journal: parts and blocks. -/
import Derived.Test.YtpadgkkeihhneaaGreatC21
import Derived.Test.YtpadgkkeihhneaaGreatC24
namespace Go.Proofs.YtpadgkkeihhneaaGreat
set_option maxRecDepth 100000
set_option linter.unusedSimpArgs false
set_option linter.unusedVariables false
open Go.ChangeShapes Go.WideShapes Go.ChangeAt Go.RowKit
theorem sv_size (l : List UInt8) : (⟨l.toArray⟩ : ByteArray).size = l.length := by show l.toArray.size = _; simp
theorem rnum_c (v : Value) (l : List UInt8) (n : Nat) (B : Nat) (hn : n < 2 ^ 64) (w : World) (h : Bs w v l) (hl : l.length ≤ 1000) (hB : B ≤ w.heap.size) :
 Calls Tryz.prog 74 #[v, .int .u64 n] w fun e w' => ∃ v', e = .returned v' ∧ Bs w' v' (l ++ enc n) ∧ Below B w w' :=
 (refNumber_c v l n hn w h (by omega)).mono fun e w' ⟨v', he, ho, hb⟩ => ⟨v', he, ho.bs, hb.mono hB⟩
set_option maxHeartbeats 2000000 in
theorem rpart_c (x : Prt) (h : x.Small) (w : World) : Calls Tryz.prog 42 #[.int .i64 x.turn, .int .i64 x.index, .int .i64 x.p, .int .i64 x.q, sv x.text] w (Fresh w (prtPage x)) := by
 obtain ⟨t, i, p, q, s⟩ := x
 have HL := hide (prtBytes_len _ h)
 obtain ⟨h1, h2, h3, h4, h5⟩ := h
 dsimp only at h1 h2 h3 h4 h5 ⊢
 have e1 : (enc t).length ≤ 7 := enc_le t 6 (by omega)
 have e2 : (enc i).length ≤ 7 := enc_le i 6 (by omega)
 have e3 : (enc p).length ≤ 3 := enc_le p 2 (by omega)
 have e4 : (enc q).length ≤ 3 := enc_le q 2 (by omega)
 have HN1 := hide (fun (W : World) => rnum_c (.slice none 0 0) [] t w.heap.size (by omega) W (Bs.nil W) (by simp))
 have HN2 := hide (fun (W : World) (v : Value) (hv : Bs W v ([] ++ enc t)) => rnum_c v _ i w.heap.size (by omega) W hv (by simp; omega))
 have HN3 := hide (fun (W : World) (v : Value) (hv : Bs W v ([] ++ enc t ++ enc i)) => rnum_c v _ p w.heap.size (by omega) W hv (by simp; omega))
 have HN4 := hide (fun (W : World) (v : Value) (hv : Bs W v ([] ++ enc t ++ enc i ++ enc p)) => rnum_c v _ q w.heap.size (by omega) W hv (by simp; omega))
 have HTX := hide (fun (W : World) (v : Value) (hv : Bs W v ([] ++ enc t ++ enc i ++ enc p ++ enc q)) => refText_c v _ ⟨s.toArray⟩ W hv (by simp; omega) (by rw [sv_size]; omega))
 have HPG := hide (fun (W : World) (v : Value) (hv : Bs W v ([] ++ enc t ++ enc i ++ enc p ++ enc q ++ encT ⟨s.toArray⟩)) => rpage_c v _ (by rw [encT_list]; have := HL.out; unfold prtBytes at this; simp at this ⊢; omega) W hv)
 have HEQ : Hid (pageOf ([] ++ enc t ++ enc i ++ enc p ++ enc q ++ encT ⟨s.toArray⟩) = prtPage ⟨t, i, p, q, s⟩) := hide (by rw [encT_list]; rfl)
 unfold sv
 obtain ⟨zt, hzt⟩ : ∃ z : Int, (t : Int) = z := ⟨_, rfl⟩
 obtain ⟨zi, hzi⟩ : ∃ z : Int, (i : Int) = z := ⟨_, rfl⟩
 obtain ⟨zp, hzp⟩ : ∃ z : Int, (p : Int) = z := ⟨_, rfl⟩
 obtain ⟨zq, hzq⟩ : ∃ z : Int, (q : Int) = z := ⟨_, rfl⟩
 have u1 : IntKind.u64.wrap zt = zt := IntWalk.u64_in _ (by omega)
 have u2 : IntKind.u64.wrap zi = zi := IntWalk.u64_in _ (by omega)
 have u3 : IntKind.u64.wrap zp = zp := IntWalk.u64_in _ (by omega)
 have u4 : IntKind.u64.wrap zq = zq := IntWalk.u64_in _ (by omega)
 rw [hzt] at HN1 ⊢
 rw [hzi] at HN2 ⊢
 rw [hzp] at HN3 ⊢
 rw [hzq] at HN4 ⊢
 have t0 : 0 ≤ zt := by omega
 have i0 : 0 ≤ zi := by omega
 have p0 : 0 ≤ zp := by omega
 have q0 : 0 ≤ zq := by omega
 clear h1 h2 h3 h4 h5 e1 e2 e3 e4 HL hzt hzi hzp hzq
 go_enter Tryz.func42, Tryz.ntmps42
 go_wp2_with fail
 refine (HN1.out w (Nat.le_refl _)).mono ?_
 rintro e w1 ⟨v1, rfl, ho, hb⟩
 have HB1 := hide hb
 have HO1 := hide ho
 clear ho hb HN1
 go_wp2_with fail
 refine (HN2.out w1 v1 HO1.out HB1.out.size).mono ?_
 rintro e w2 ⟨v2, rfl, ho, hb⟩
 have HB2 := hide (HB1.out.trans hb)
 have HO2 := hide ho
 clear ho hb HN2 HO1 HB1
 go_wp2_with fail
 refine (HN3.out w2 v2 HO2.out HB2.out.size).mono ?_
 rintro e w3 ⟨v3, rfl, ho, hb⟩
 have HB3 := hide (HB2.out.trans hb)
 have HO3 := hide ho
 clear ho hb HN3 HO2 HB2
 go_wp2_with fail
 refine (HN4.out w3 v3 HO3.out HB3.out.size).mono ?_
 rintro e w4 ⟨v4, rfl, ho, hb⟩
 have HB4 := hide (HB3.out.trans hb)
 have HO4 := hide ho
 clear ho hb HN4 HO3 HB3
 go_wp2_with fail
 refine (HTX.out w4 v4 HO4.out).mono ?_
 rintro e w5 ⟨v5, rfl, ho, hb⟩
 have HB5 := hide (HB4.out.trans (hb.mono HB4.out.size))
 have HO5 := hide ho.bs
 clear ho hb HTX HO4 HB4
 go_wp2_with fail
 refine (HPG.out w5 v5 HO5.out).mono ?_
 rintro e w6 ⟨v6, rfl, ho, hb⟩
 have HB6 := hide (HB5.out.trans (hb.mono HB5.out.size))
 have HO6 := hide (ho.mono HB5.out.size)
 clear ho hb HPG HO5 HB5
 go_wp2_with fail
 go_ret
 exact ⟨_, rfl, by rw [← HEQ.out]; exact HO6.out, HB6.out⟩
/-- A new slice of new byte slices. -/
def Pl (w : World) (base : Nat) (v : Value) (l : List (List UInt8)) : Prop :=
 ∃ vs : List Value, Row w 35 1 v l.length vs ∧ (∀ j, v.ownBlock = some j → base ≤ j) ∧ ∀ (i : Nat) (u : Value) (p : List UInt8), vs[i]? = some u → l[i]? = some p → Bs w u p ∧ ∀ j, u.ownBlock = some j → base ≤ j ∧ j < w.heap.size ∧ v.ownBlock ≠ some j
theorem Pl.touch {S : List Nat} {w w' : World} {base : Nat} {v : Value} {l : List (List UInt8)} (h : Pl w base v l) (k : Touch S w w') (hS : ∀ s ∈ S, s < base) : Pl w' base v l := by
 obtain ⟨vs, h1, h0, h2⟩ := h
 refine ⟨vs, Row.touch h1 k (fun j hj hm => by have := hS j hm; have := h0 j hj; omega), h0, fun i u p hu hp => ?_⟩
 obtain ⟨h3, h4⟩ := h2 i u p hu hp
 exact ⟨h3.touch k (fun j hj hm => by have := hS j hm; have := (h4 j hj).1; omega), fun j hj => ⟨(h4 j hj).1, Nat.lt_of_lt_of_le (h4 j hj).2.1 k.size, (h4 j hj).2.2⟩⟩
theorem Pl.step {w w' : World} {base : Nat} {v : Value} {l : List (List UInt8)} (h : Pl w base v l) (k : Below w.heap.size w w') : Pl w' base v l := h.touch (Touch.below k []) (by simp)
theorem Pl.mono {w : World} {base base' : Nat} {v : Value} {l : List (List UInt8)} (h : Pl w base v l) (hb : base' ≤ base) : Pl w base' v l := by
 obtain ⟨vs, h1, h0, h2⟩ := h
 exact ⟨vs, h1, fun j hj => Nat.le_trans hb (h0 j hj), fun i u p hu hp => ⟨(h2 i u p hu hp).1, fun j hj => ⟨Nat.le_trans hb ((h2 i u p hu hp).2 j hj).1, ((h2 i u p hu hp).2 j hj).2⟩⟩⟩
theorem Pl.empty (w : World) (base : Nat) (hb : base ≤ w.heap.size) : Pl (w.alloc (.cells #[] 35)) base (.slice (some ⟨w.heap.size, 0, none⟩) 0 0) [] :=
 ⟨[], row_lit w 0 35 1 0 [] rfl (by unfold maxLen; omega) (Nat.zero_le _), fun j hj => by injection hj with hj; exact hj ▸ hb, fun i u p hu => by simp at hu⟩
theorem Pl.snoc {W W3 : World} {base : Nat} {v v' u : Value} {l : List (List UInt8)} {p : List UInt8} {vs : List Value} {o : Obj} (hvs : ∀ (i : Nat) (u : Value) (p : List UInt8), vs[i]? = some u → l[i]? = some p → Bs W u p ∧ ∀ j, u.ownBlock = some j → base ≤ j ∧ j < W.heap.size ∧ v.ownBlock ≠ some j)
 (hlen : vs.length = l.length) (h0 : ∀ j, v.ownBlock = some j → base ≤ j) (hu : Bs W u p) (hub : ∀ j, u.ownBlock = some j → base ≤ j ∧ j < W.heap.size ∧ v.ownBlock ≠ some j) (hW : base ≤ W.heap.size)
 (hr : Row W3 35 1 v' (l.length + 1) (vs ++ [u])) (hg : (W.alloc o).grownBy W3 v.ownBlock) (ho : v'.ownBlock = v.ownBlock ∨ v'.ownBlock = some (W.alloc o).heap.size) : Pl W3 base v' (l ++ [p]) := by
 have ht := Touch.grown hg
 have key : ∀ (u : Value) (p : List UInt8), Bs W u p → (∀ j, u.ownBlock = some j → base ≤ j ∧ j < W.heap.size ∧ v.ownBlock ≠ some j) → Bs W3 u p ∧ ∀ j, u.ownBlock = some j → base ≤ j ∧ j < W3.heap.size ∧ v'.ownBlock ≠ some j := by
  intro u p hb hj
  have hsz : W.heap.size ≤ W3.heap.size := by have := ht.size; rw [World.size_alloc] at this; omega
  refine ⟨(hb.alloc o).touch ht (fun j hu hm => (hj j hu).2.2 (by simpa using hm)), fun j hu => ⟨(hj j hu).1, Nat.lt_of_lt_of_le (hj j hu).2.1 hsz, fun e => ?_⟩⟩
  rcases ho with e2 | e2
  ·exact (hj j hu).2.2 (e2 ▸ e)
  ·rw [e2, World.size_alloc] at e
   injection e with e
   have := (hj j hu).2.1
   omega
 refine ⟨vs ++ [u], by rw [List.length_append]; exact hr, fun j hj => ?_, fun i x q hx hq => ?_⟩
 ·rcases ho with e2 | e2
  ·exact h0 j (e2 ▸ hj)
  ·rw [e2, World.size_alloc] at hj
   injection hj with hj
   omega
 ·rcases Nat.lt_trichotomy i vs.length with hi | hi | hi
  ·rw [List.getElem?_append_left hi] at hx
   rw [List.getElem?_append_left (by omega)] at hq
   obtain ⟨h3, h4⟩ := hvs i x q hx hq
   exact key x q h3 h4
  ·subst hi
   rw [List.getElem?_concat_length] at hx
   rw [hlen, List.getElem?_concat_length] at hq
   cases hx; cases hq
   exact key u p hu hub
  ·rw [List.getElem?_eq_none (by simp; omega)] at hx
   cases hx
theorem Pl.at_ {w : World} {base : Nat} {v : Value} {l : List (List UInt8)} (h : Pl w base v l) (k : Nat) (hk : k < l.length) : ∃ g c u, v = .slice (some ⟨g, 0, none⟩) l.length c ∧ l.length ≤ c ∧ c ≤ 9223372036854775807 ∧ w.cell? ⟨g, k, none⟩ = some u ∧ Bs w u (l.getD k []) ∧ ∀ j, u.ownBlock = some j → base ≤ j ∧ j < w.heap.size := by
 obtain ⟨vs, h1, h0, h2⟩ := h
 have hl := h1.1
 rw [Nat.mul_one] at hl
 have h1' := h1
 obtain ⟨_, ⟨rfl, h00⟩ | ⟨g, cap, cur, rfl, hg, hh, hn, hm, hs, ht⟩⟩ := h1
 ·omega
 ·have hc := World.ownsRow.cellAt h1' k (by omega)
  have hv : vs[k]? = some vs[k] := List.getElem?_eq_getElem (by omega)
  have hp : l[k]? = some (l.getD k []) := by simp [List.getD, hk]
  obtain ⟨h3, h4⟩ := h2 k _ _ hv hp
  exact ⟨g, cap, vs[k], rfl, hn, by unfold maxLen at hm; omega, hc.trans hv, h3, fun j hj => ⟨(h4 j hj).1, (h4 j hj).2.1⟩⟩
theorem Pl.lt {w : World} {base : Nat} {v : Value} {l : List (List UInt8)} (h : Pl w base v l) : ∀ j, v.ownBlock = some j → j < w.heap.size := by
 obtain ⟨vs, h1, _, _⟩ := h
 exact fun j hj => (World.ownsRow.lt h1 j hj).2
theorem Pl.formN {w : World} {base : Nat} {v : Value} {l : List (List UInt8)} (h : Pl w base v l) : ∃ A m c, v = .slice A m c ∧ Hid (m = l.length) ∧ m ≤ c ∧ c ≤ 9223372036854775807 := by
 obtain ⟨vs, h1, _, _⟩ := h
 obtain ⟨A, c, e, h2, h3⟩ := Row.form h1
 exact ⟨A, _, c, e, rfl, h2, h3⟩
def FreshP (w : World) (l : List (List UInt8)) (e : Ending) (w' : World) : Prop := ∃ v, e = .returned v ∧ Pl w' w.heap.size v l ∧ Below w.heap.size w w'
theorem prts_take (t i : Nat) (s : List UInt8) (k : Nat) (h : k < pagesN s.length) : (prts t i s).take (k + 1) = (prts t i s).take k ++ [prtPage (partK t i k s)] := by
 rw [List.take_add_one]
 congr 1
 unfold prts partK
 simp [h]
/-- Between two rounds of Block. -/
def BkL (w : World) (l : List (List UInt8)) (k : Nat) (v : Value) (W : World) : Prop := Pl W w.heap.size v (l.take k) ∧ Below w.heap.size w W
set_option maxHeartbeats 4000000 in
theorem rblock_c (t i : Nat) (s : List UInt8) (S : ByteArray) (hS : S = ⟨s.toArray⟩) (ht : t ≤ 1099511629000) (hi : i ≤ 2 ^ 40) (hl : s.length ≤ 1000000) (w : World) : Calls Tryz.prog 14 #[.int .i64 t, .int .i64 i, .string S] w (FreshP w (prts t i s)) := by
 obtain ⟨i0, hi0, hz0, hz1, hz2⟩ := info_parts info_sl
 have HT := hide ht
 have HI := hide hi
 have HL := hide hl
 have HSS := hide hS
 obtain ⟨q, hq⟩ : ∃ q, pagesN s.length = q := ⟨_, rfl⟩
 have HPF : Hid (∀ W, Calls Tryz.prog 41 #[.int .i64 (S.size : Int)] W fun e w' => e = .returned (.int .i64 (q : Int)) ∧ W = w') := hide (fun W => by
  have e : (S.size : Int) = (s.length : Int) := by rw [hS, sv_size]
  rw [e, ← hq]; exact rpages_c _ (by omega) W)
 have hq1 : 1 ≤ q := by rw [← hq]; unfold pagesN; omega
 have hq2 : q ≤ 10417 := by rw [← hq]; unfold pagesN; omega
 have HQ := hide hq
 obtain ⟨L, hL⟩ : ∃ L, prts t i s = L := ⟨_, rfl⟩
 have HLL : Hid (L.length = q) := hide (by rw [← hL, prts_len, hq])
 have HLT : Hid (∀ k, k < q → L.take (k + 1) = L.take k ++ [prtPage (partK t i k s)]) := hide (fun k hk => by rw [← hL]; exact prts_take t i s k (by omega))
 rw [hL]
 obtain ⟨zl, hzl⟩ : ∃ z : Int, (S.size : Int) = z := ⟨_, rfl⟩
 have HZL : Hid (zl = (s.length : Int)) := hide (by rw [← hzl, hS, sv_size])
 have l0 : 0 ≤ zl := by omega
 have l1 : zl ≤ 1000000 := by have := HZL.out; omega
 rw [hzl] at HPF
 obtain ⟨zt, hzt⟩ : ∃ z : Int, (t : Int) = z := ⟨_, rfl⟩
 obtain ⟨zi, hzi⟩ : ∃ z : Int, (i : Int) = z := ⟨_, rfl⟩
 have HZ := hide (And.intro hzt hzi)
 rw [hzt, hzi]
 obtain ⟨zq, hzq⟩ : ∃ z : Int, (q : Int) = z := ⟨_, rfl⟩
 have HZQ := hide hzq
 have q1 : 1 ≤ zq := by omega
 have q2 : zq ≤ 10417 := by omega
 rw [hzq] at HPF
 clear ht hi hl hS hL hzt hzi hq hzq hq1 hq2
 go_enter Tryz.func14, Tryz.ntmps14
 go_wp2_with fail
 refine (HPF.out _).mono ?_
 rintro e w1 ⟨rfl, rfl⟩
 go_wp2_with fail
 go_loopw [8, 9] (fun v8 v9 wr => ∃ k : Nat, k ≤ q ∧ v9 = .int .i64 k ∧ BkL w L k v8 wr) (fun _ v9 _ => q - (intOf v9).toNat)
 case atStart => exact ⟨0, by omega, rfl, Pl.empty w _ (Nat.le_refl _), below_al _ _⟩
 case round =>
  obtain ⟨k, hk, rfl, hpl, hb⟩ := hrel
  obtain ⟨A, m, c, rfl, hm, _, _⟩ := hpl.formN
  obtain ⟨vs, hrow, hv0, hvs⟩ := hpl
  have hvl : vs.length = (L.take k).length := by have := hrow.1; simpa using this
  have HM := hide hm.out
  rw [← HM.out] at hrow
  have HRW := hide hrow
  have HV0 := hide hv0
  have HVS := hide hvs
  have HVL := hide hvl
  have HB := hide hb
  have HK := hide hk
  clear hm hrow hv0 hvs hvl hb
  obtain ⟨zk, hzk⟩ : ∃ z : Int, (k : Int) = z := ⟨_, rfl⟩
  have HZK := hide hzk
  have k0 : 0 ≤ zk := by omega
  rw [hzk]
  have HZQ2 := HZQ.out
  by_cases hlt : zk < zq
  ·have k1 : zk ≤ 10416 := by omega
   have hr : zk * 96 ≤ zl := by
    have := HQ.out
    have := HZL.out
    unfold pagesN at *
    omega
   have hr2 : zl < (zk + 1) * 96 ∨ (zk + 1) * 96 ≤ zl := by omega
   have HKQ : Hid (k < q) := hide (by omega)
   clear hzk HZQ2 hk
   obtain ⟨txt, htx⟩ : ∃ x, x = (s.drop (k * 96)).take 96 := ⟨_, rfl⟩
   have HCT : Hid ((.string (S.extract (zk * 96).toNat (min zl ((zk + 1) * 96)).toNat) : Value) = sv txt) := hide (by
    rw [htx]
    exact cut_sv s k S HSS.out _ _ (by have := HZK.out; omega) (by have := HZK.out; have := HZL.out; omega) (by have := HZK.out; have := HZL.out; omega))
   have HBY : Hid (∀ W, Calls Tryz.prog 42 #[.int .i64 zt, .int .i64 zi, .int .i64 zk, .int .i64 zq, .string (S.extract (zk * 96).toNat (min zl ((zk + 1) * 96)).toNat)] W (Fresh W (prtPage (partK t i k s)))) := hide (fun W => by
    rw [HCT.out, htx, ← HZ.out.1, ← HZ.out.2, ← HZK.out, ← HZQ.out]
    have := rpart_c (partK t i k s) (partK_small t i k s HT.out HI.out HL.out (by rw [HQ.out]; exact HKQ.out)) W
    unfold partK at this ⊢
    dsimp only at this
    rw [HQ.out] at this ⊢
    exact this)
   clear htx HCT
   go_wp2_with fail
   refine (HBY.out wr).mono ?_
   rintro e w2 ⟨v2, rfl, ho, hb2⟩
   obtain ⟨A2, m2, c2, rfl, _, _, _⟩ := ho.formN
   have HO2 := hide ho
   have HB2 := hide (HB.out.trans (hb2.mono HB.out.size))
   have HRW2 := hide (Row.step HRW.out hb2)
   have HS2 := hide hb2.size
   have HVS2 : Hid (∀ (i : Nat) (u : Value) (p : List UInt8), vs[i]? = some u → (L.take k)[i]? = some p → Bs w2 u p ∧ ∀ j, u.ownBlock = some j → w.heap.size ≤ j ∧ j < w2.heap.size ∧ (Value.slice A m c).ownBlock ≠ some j) := hide (fun i u p hu hp => by
    obtain ⟨h3, h4⟩ := HVS.out i u p hu hp
    exact ⟨h3.step hb2, fun j hj => ⟨(h4 j hj).1, Nat.lt_of_lt_of_le (h4 j hj).2.1 hb2.size, (h4 j hj).2.2⟩⟩)
   have HOB : Hid (∀ j, (Value.slice A2 m2 c2).ownBlock = some j → w.heap.size ≤ j ∧ j < w2.heap.size ∧ (Value.slice A m c).ownBlock ≠ some j) := hide (fun j hj => ⟨Nat.le_trans HB.out.size (ho.lt j hj).1, (ho.lt j hj).2, fun e => by have := (World.ownsRow.lt HRW.out j e).2; have := (ho.lt j hj).1; omega⟩)
   clear ho hb2 HBY HRW HVS
   go_wp2_with (first
    | (at_builtin; refine wpList_append_row rfl _ _ 22 rfl 0 0 35 i0 _ 1 24 Tryz.underlying22 hi0 hz0 hz1 hz2 rfl (by decide) (v := .slice A m c) (n := m) (m := 1) rfl (World.ownsRow.alloc HRW2.out _) rfl (row_lit w2 0 35 1 1 [.slice A2 m2 c2] rfl (by decide) (Nat.zero_le _)) (one_slice _ _ _) (by have h1 := HM.out; have h2 := HZK.out; rw [List.length_take] at h1; unfold maxLen; omega) (by have h1 := HM.out; have h2 := HZK.out; rw [List.length_take] at h1; omega) (Nat.zero_le _) ?_; intro v4 W4 hro hgr hat; have HRO := hide hro; have HGR := hide hgr; have HAT := hide hat; clear hro hgr hat))
   go_roundw
   case rel =>
    refine ⟨k + 1, HKQ.out, by have := HZK.out; congr 1; omega, ?_, ?_⟩
    ·rw [HLT.out k HKQ.out]
     exact Pl.snoc HVS2.out HVL.out HV0.out HO2.out.bs HOB.out HB2.out.size (by rw [← HM.out]; exact HRO.out) HGR.out HAT.out
    ·exact (HB2.out.alloc HB2.out.size _).grown HGR.out (by rw [World.size_alloc]; have := HB2.out.size; omega) (fun j hj => HV0.out j hj)
   case measure => simp [intOf]; have := HZK.out; have := HKQ.out; omega
  ·have HKQ : Hid (k = q) := hide (by omega)
   go_wp2_with fail
   go_ret
   have hte : L.take k = L := by rw [HKQ.out, List.take_of_length_le (by rw [HLL.out]; exact Nat.le_refl _)]
   have hmL : L.length = m := by rw [HM.out, hte]
   refine ⟨.slice A m c, rfl, ⟨vs, by rw [hmL]; exact HRW.out, HV0.out, ?_⟩, HB.out⟩
   have := HVS.out
   rwa [hte] at this
end Go.Proofs.YtpadgkkeihhneaaGreat
