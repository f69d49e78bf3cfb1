/- The reference of the journal: numbers and pages. -/
import Derived.Test.YtpadgkkeihhneaaGreatC01
import Derived.Test.YtpadgkkeihhneaaGreatC19
import Derived.Test.YtpadgkkeihhneaaGreatC20
import Derived.OwnWalk
import Derived.Test.YtpadgkkeihhneaaGreatC14
namespace Go.Proofs.YtpadgkkeihhneaaGreat
set_option maxRecDepth 100000
set_option linter.unusedSimpArgs false
set_option linter.unusedVariables false
section
open Go.ChangeShapes Go.WideShapes Go.ChangeAt Go.RowKit
theorem below_al (w : World) (o : Obj) : Below w.heap.size w (w.alloc o) := (Below.refl _ _).alloc (Nat.le_refl _) _
set_option maxHeartbeats 1000000 in
theorem rpages_c (n : Nat) (hn : n ≤ 1000000000) (w : World) : Calls Tryz.prog 41 #[.int .i64 n] w fun e w' => e = .returned (.int .i64 (pagesN n)) ∧ w = w' := by
 obtain ⟨z, hz⟩ : ∃ z : Int, z = (n : Int) := ⟨_, rfl⟩
 have h0 : 0 ≤ z := by omega
 have h1 : z ≤ 1000000000 := by omega
 have HZ := hide hz
 rw [← hz]
 clear hz hn
 by_cases h2 : z < 1
 ·go_enter Tryz.func41, Tryz.ntmps41
  go_wp2_with fail
  go_ret
  refine ⟨ret_i64e ?_, rfl⟩
  have := HZ.out
  unfold pagesN
  omega
 ·have h3 : 1 ≤ z := by omega
  go_enter Tryz.func41, Tryz.ntmps41
  go_wp2_with fail
  go_ret
  refine ⟨ret_i64e ?_, rfl⟩
  have := HZ.out
  unfold pagesN
  omega
set_option maxHeartbeats 1000000 in
theorem rhalf_c (F : List Nat) (v : Value) (D : DS) (w : World) (h : Rf w F v D) (hs : D.Sz) : Calls Tryz.prog 50 #[v] w (Gives w (.int .i64 (half D))) := by
 obtain ⟨A, n, c, B, m, b, vs, xs, rfl, hk⟩ := h.form
 have hn : D.pages.length = n := by have := hk.dur.2; rcases this with ⟨e, h0⟩ | ⟨g, cap, cur, e, _⟩ <;> (injection e with e1 e2 e3; omega)
 have hlo := hs.lo
 have hhi := hs.hi
 unfold half rv
 rw [hn] at hlo hhi ⊢
 generalize D.fuse = fz
 generalize D.failed = fl
 clear h hk hn hs
 go_enter Tryz.func50, Tryz.ntmps50
 go_wp2_with fail
 go_ret
 refine ⟨ret_i64e ?_, below_al _ _⟩
 omega
set_option maxHeartbeats 1000000 in
theorem rfirst_c (F : List Nat) (v : Value) (D : DS) (t : Nat) (ht : t ≤ 1099511629000) (w : World) (h : Rf w F v D) (hs : D.Sz) : Calls Tryz.prog 52 #[v, .int .i64 t] w (Gives w (.int .i64 (first D t))) := by
 have HH := hide (fun (X : World) (k : Below w.heap.size w X) => rhalf_c F v D X (h.step k) hs)
 have hhi : half D ≤ 1000000 := by have := hs.hi; unfold half; omega
 obtain ⟨A, n, c, B, m, b, vs, xs, rfl, hk⟩ := h.form
 unfold first
 unfold rv at HH ⊢
 generalize D.fuse = fz at *
 generalize D.failed = fl at *
 clear h hk hs
 generalize half D = hf at *
 obtain ⟨r, hr⟩ : ∃ r, t % 2 = r := ⟨_, rfl⟩
 have hr2 : r < 2 := by omega
 have HR := hide hr
 rw [hr]
 clear hr
 go_enter Tryz.func52, Tryz.ntmps52
 go_wp2_with fail
 refine (HH.out _ (below_al _ _)).mono ?_
 rintro e w1 ⟨rfl, hb⟩
 have HB := hide ((below_al w (.cells #[.slice A n c, .slice B m b, .int .i64 fz, .bool fl] 32)).trans (hb.mono (by simp)))
 clear hb
 go_wp2_with fail
 go_ret
 refine ⟨ret_i64e ?_, HB.out⟩
 have e : (t : Int) % 2 = r := by have := HR.out; omega
 rw [e]
 rcases (show r = 0 ∨ r = 1 by omega) with rfl | rfl
 ·show wrap64 (2 + wrap64 (0 * (hf : Int))) = _
  rw [Int.zero_mul]
  unfold wrap64; omega
 ·show wrap64 (2 + wrap64 (1 * (hf : Int))) = _
  rw [Int.one_mul]
  unfold wrap64; omega
set_option maxHeartbeats 1000000 in
theorem rpage_c (v : Value) (l : List UInt8) (hl : l.length ≤ 122) (w : World) (h : Bs w v l) : Calls Tryz.prog 75 #[v] w (Fresh w (pageOf l)) := by
 have HS := hide (refSeal_c v l w h (by omega))
 have HL := hide hl
 clear h hl
 go_enter Tryz.func75, Tryz.ntmps75
 go_wp2_with fail
 refine HS.out.mono ?_
 rintro e w1 ⟨v1, rfl, ho, hb⟩
 obtain ⟨A, m, c, rfl, hm, hmc, hcm⟩ := ho.formN
 have hlen : m = l.length + 4 := by rw [hm.out, seal_len]
 have HM := hide hlen
 have HO := hide ho
 have HB := hide hb
 have m1 : m ≤ 126 := by have := HL.out; omega
 have HA := hide (run_append_zeros w.heap.size 35 ho (fun e => by have := seal_len l; rw [e] at this; simp at this) (128 - m) (by omega) (by rw [seal_len]; have := HL.out; omega) hb.size)
 have hc : ((128 - m : Nat) : Int) = 128 - (m : Int) := by omega
 rw [hc] at HA
 obtain ⟨v2, w2, hr, ho2, hg2, hw2⟩ := HA.out
 have HR := hide hr
 clear ho hb hm hlen HA hc hr
 go_wp2_with (at_builtin; refine wpList_append_z rfl _ _ rfl rfl rfl HR.out ?_)
 have hp : seal_ l ++ List.replicate (128 - m) 0 = pageOf l := by unfold pageOf; rw [seal_len, HM.out]
 rw [hp] at ho2
 go_ret
 exact ⟨_, rfl, ho2, below_append HB.out HO.out hg2 HB.out.size (Nat.le_refl _)⟩
set_option maxHeartbeats 1000000 in
theorem rheader_c (t : Nat) (ht : t ≤ 1099511629000) (w : World) : Calls Tryz.prog 88 #[.int .i64 t] w (Fresh w (hdrPage t)) := by
 have HN := hide (refNumber_c (.slice none 0 0) [] t (by omega) w (Bs.nil w) (by simp))
 have HL : Hid ((enc t).length ≤ 122) := hide (by have := enc_le t 6 (by omega); omega)
 go_enter Tryz.func88, Tryz.ntmps88
 go_wp2_with fail
 refine HN.out.mono ?_
 rintro e w1 ⟨v1, rfl, ho, hb⟩
 have HB := hide hb
 have HP := hide (rpage_c v1 (enc t) HL.out w1 (by simpa using ho.bs))
 clear ho hb HN
 go_wp2_with fail
 refine HP.out.mono ?_
 rintro e w2 ⟨v2, rfl, ho, hb⟩
 have HO := hide (ho.mono HB.out.size)
 have HB2 := hide (HB.out.trans (hb.mono HB.out.size))
 clear ho hb HP
 go_wp2_with fail
 go_ret
 exact ⟨_, rfl, HO.out, HB2.out⟩
end
section
open List renaming getElem_toArray → qa, getElem_cons_zero → qb, getElem_cons_succ → qc, setIfInBounds_toArray → qd, set_cons_zero → qe, set_cons_succ → qf
open Go.ChangeShapes Go.WideShapes Go.ChangeAt Go.RowKit
theorem below_drew (w : World) : Below w.heap.size w w.drew := ⟨rfl, rfl, rfl, Nat.le_refl _, fun _ _ => rfl⟩
theorem Hd.drew {w : World} {g d : Nat} {F : List Nat} {D : DS} (h : Hd w g d F D) : Hd w.drew g d F D := h.step (below_drew w)
theorem cat_sv (s x : List UInt8) : (Value.string ((⟨s.toArray⟩ : ByteArray) ++ (⟨x.toArray⟩ : ByteArray))) = sv (s ++ x) := by
 unfold sv
 congr 1
theorem run_cat (s x : List UInt8) (hl : s.length + x.length ≤ 1000000000) (W : World) : (binOp .add 9 (sv s) (sv x)).run Tryz.prog W = .ok (sv (s ++ x)) W := by
 rw [← cat_sv]
 unfold sv
 simp [binOp, run_underlying Tryz.underlying9, Sem.run_bind, Op.stringOp]
 show ((s.length : Int) + (x.length : Int)) ≤ _
 omega
def blkV (r : Option (List UInt8 × Nat)) : Value := .tuple #[sv ((r.map (·.1)).getD []), .int .i64 ((r.map (·.2)).getD 0 : Nat), .int .i64 0]
theorem blkF_out (D : DS) (t i a f p q : Nat) (s : List UInt8) (hf : f = half D - a - p) (h : half D ≤ a + p) : blkF D t i a f p q s = none := by
 have : f = 0 := by omega
 subst this
 rfl
theorem blkF_none (D : DS) (t i a f p q : Nat) (s : List UInt8) (hf : f = half D - a - p) (h : a + p < half D) (hx : prtOk (content D (first D t + a + p)) = false) : blkF D t i a f p q s = none := by
 obtain ⟨f', rfl⟩ : ∃ f', f = f' + 1 := ⟨f - 1, by omega⟩
 unfold blkF prtOf
 rw [if_neg (by omega), hx]
 rfl
theorem blkF_bad (D : DS) (t i a f p q : Nat) (s : List UInt8) (hf : f = half D - a - p) (h : a + p < half D) (hx : prtOk (content D (first D t + a + p)) = true) {x : Prt} (hr : prtRead (content D (first D t + a + p)) = x) (hc : ¬ (x.turn = t ∧ x.index = i ∧ x.p = p ∧ (p = 0 ∨ x.q = q))) : blkF D t i a f p q s = none := by
 obtain ⟨f', rfl⟩ : ∃ f', f = f' + 1 := ⟨f - 1, by omega⟩
 unfold blkF prtOf
 rw [if_neg (by omega), if_pos hx, hr]
 show (if _ then _ else _) = _
 rw [if_neg hc]
theorem blkF_last (D : DS) (t i a f p q : Nat) (s : List UInt8) (hf : f = half D - a - p) (h : a + p < half D) (hx : prtOk (content D (first D t + a + p)) = true) {x : Prt} (hr : prtRead (content D (first D t + a + p)) = x) (hc : x.turn = t ∧ x.index = i ∧ x.p = p ∧ (p = 0 ∨ x.q = q)) (hl : p + 1 = x.q) : blkF D t i a f p q s = some (s ++ x.text, x.q) := by
 obtain ⟨f', rfl⟩ : ∃ f', f = f' + 1 := ⟨f - 1, by omega⟩
 unfold blkF prtOf
 rw [if_neg (by omega), if_pos hx, hr]
 show (if _ then _ else _) = _
 rw [if_pos hc, if_pos hl]
theorem blkF_next (D : DS) (t i a f p q : Nat) (s : List UInt8) (hf : f = half D - a - p) (h : a + p < half D) (hx : prtOk (content D (first D t + a + p)) = true) {x : Prt} (hr : prtRead (content D (first D t + a + p)) = x) (hc : x.turn = t ∧ x.index = i ∧ x.p = p ∧ (p = 0 ∨ x.q = q)) (hl : ¬ p + 1 = x.q) : blkF D t i a f p q s = blkF D t i a (half D - a - (p + 1)) (p + 1) x.q (s ++ x.text) := by
 obtain ⟨f', rfl⟩ : ∃ f', f = f' + 1 := ⟨f - 1, by omega⟩
 rw [show half D - a - (p + 1) = f' by omega]
 conv => lhs; unfold blkF prtOf
 rw [if_neg (by omega), if_pos hx, hr]
 show (if _ then _ else _) = _
 rw [if_pos hc, if_neg hl]
theorem half_le {D : DS} (hs : D.Sz) : half D ≤ 1000000 := by have := hs.hi; unfold half; omega
theorem first_le {D : DS} (hs : D.Sz) (t a : Nat) (h : a < half D) : first D t + a < D.pages.length := by
 have := hs.lo
 have h2 : t % 2 < 2 := Nat.mod_lt _ (by omega)
 unfold first
 have h3 : t % 2 * half D ≤ half D := by
  rcases (show t % 2 = 0 ∨ t % 2 = 1 by omega) with e | e <;> rw [e] <;> omega
 unfold half at *
 omega
/-- Between two rounds of block. -/
def BlR (w : World) (D : DS) (t i a : Nat) (v11 v12 v13 : Value) (W : World) : Prop :=
 ∃ (p q : Nat) (s : List UInt8), v12 = .int .i64 p ∧ v13 = .int .i64 q ∧ v11 = sv s ∧ p < q ∧ q ≤ 4096 ∧ s.length ≤ 96 * p ∧ blkF D t i a (half D - a - p) p q s = blk D t i a ∧ Below w.heap.size w W
set_option maxHeartbeats 8000000 in
theorem block_c (g d : Nat) (F : List Nat) (D : DS) (t i a : Nat) (ht : t ≤ 1099511629000) (hi : i ≤ 1099511627776) (ha : a ≤ 1000000) (w : World) (h : Hd w g d F D) (hs : D.Sz) (hf : D.failed = false) :
 Calls Tryz.prog 79 #[.pointer (some ⟨g, 0, none⟩), .int .i64 t, .int .i64 i, .int .i64 a] w (Gives w (blkV (blk D t i a))) := by
 have H := hide h
 have HS := hide hs
 have HF := hide hf
 have HT := hide ht
 have HI := hide hi
 have HA := hide ha
 have HB0 : Hid (blkF D t i a (half D - a - 0) 0 1 [] = blk D t i a) := hide rfl
 clear h hs hf ht hi ha
 obtain ⟨zt, hzt⟩ : ∃ z : Int, (t : Int) = z := ⟨_, rfl⟩
 obtain ⟨zi, hzi⟩ : ∃ z : Int, (i : Int) = z := ⟨_, rfl⟩
 obtain ⟨za, hza⟩ : ∃ z : Int, (a : Int) = z := ⟨_, rfl⟩
 have HZ := hide (And.intro hzt (And.intro hzi hza))
 have b0 : 0 ≤ za := by omega
 have b1 : za ≤ 1000000 := by have := HA.out; omega
 rw [hzt, hzi, hza]
 clear hzt hzi hza
 go_enter Tryz.func79, Tryz.ntmps79
 go_wp2_with fail
 go_loopw [11, 12, 13] (fun v11 v12 v13 wr => BlR w D t i a v11 v12 v13 wr) (fun _ v12 _ _ => 4096 - (intOf v12).toNat)
 case atStart => exact ⟨0, 1, [], rfl, rfl, rfl, by omega, by omega, by simp, HB0.out, Below.refl _ _⟩
 case round =>
  clear HB0
  obtain ⟨p, q, s, rfl, rfl, rfl, hpq, hq, hsl, hbl, hb⟩ := hrel
  have HSL := hide hsl
  clear hsl
  have HB := hide hb
  have HBL := hide hbl
  have HD := hide (H.out.step hb)
  have HPQ := hide (And.intro hpq hq)
  clear hb hbl
  obtain ⟨zp, hzp⟩ : ∃ z : Int, (p : Int) = z := ⟨_, rfl⟩
  obtain ⟨zq, hzq⟩ : ∃ z : Int, (q : Int) = z := ⟨_, rfl⟩
  have HP := hide (And.intro hzp hzq)
  have c0 : 0 ≤ zp := by omega
  have c1 : zp ≤ 4095 := by omega
  have c2 : zp < zq := by omega
  have c3 : zq ≤ 4096 := by omega
  rw [hzp, hzq]
  clear hzp hzq hpq hq
  obtain ⟨zh, hzh⟩ : ∃ z : Int, (half D : Int) = z := ⟨_, rfl⟩
  have HH := hide hzh
  have e0 : 0 ≤ zh := by omega
  have e1 : zh ≤ 1000000 := by have := half_le HS.out; omega
  clear hzh
  by_cases hh : zh ≤ za + zp
  ·have HM : Hid (blk D t i a = none) := hide (by rw [← HBL.out]; exact blkF_out _ _ _ _ _ _ _ _ rfl (by have := HH.out; have := HZ.out; have := HP.out; omega))
   go_wp2_with fail
   refine (half_c g d F D wr HD.out HS.out).mono ?_
   rintro e w5 ⟨rfl, rfl⟩
   rw [HH.out]
   go_wp2_with fail
   go_ret3
   exact ⟨by rw [HM.out]; rfl, HB.out⟩
  ·have hh2 : za + zp < zh := by omega
   have HLT : Hid (a + p < half D) := hide (by have := HH.out; have := HZ.out; have := HP.out; omega)
   clear hh
   go_wp2_with fail
   refine (half_c g d F D wr HD.out HS.out).mono ?_
   rintro e w5 ⟨rfl, rfl⟩
   rw [HH.out]
   go_wp2_with fail
   obtain ⟨zf, hzf⟩ : ∃ z : Int, (first D t : Int) = z := ⟨_, rfl⟩
   have HFL := hide (first_le HS.out t (a + p) HLT.out)
   have f0 : 0 ≤ zf := by omega
   have f1 : zf ≤ 1000000 := by have := HFL.out; have := HS.out.hi; omega
   have HFC : Hid (∀ X : World, Hd X g d F D → Calls Tryz.prog 81 #[.pointer (some ⟨g, 0, none⟩), .int .i64 zt] X fun e w' => e = .returned (.int .i64 zf) ∧ X = w') := hide (fun X hX => by rw [← HZ.out.1, ← hzf]; exact first_c g d F D t HT.out X hX HS.out)
   have HDR : Hid (dRead D (zf + za + zp) = (content D (first D t + a + p), 0)) := hide (by
    rw [← hzf, ← HZ.out.2.2, ← HP.out.1, show (first D t : Int) + a + p = ((first D t + a + p : Nat) : Int) by omega]
    exact dRead_ok HF.out _ (by have := HFL.out; omega))
   have HCL : Hid ((content D (first D t + a + p)).length = 128) := hide (content_ok HD.out.disk.ok _ (by have := HFL.out; omega))
   clear hzf
   have hw1 : IntKind.i64.wrap (zf + za) = zf + za := IntWalk.i64_in _ (by omega)
   have hw2 : IntKind.i64.wrap (zf + za + zp) = zf + za + zp := IntWalk.i64_in _ (by omega)
   refine wp_region_held_drew (S := fun W => W.cell? ⟨g, 0, none⟩ = some (.pointer (some ⟨d, 0, none⟩))) (by kernel_rfl) (HD.out.cell) (fun hS0 => ?_)
   replace HD := hide HD.out.drew
   replace HB := hide (HB.out.trans ((below_drew wr).mono HB.out.size))
   refine tk 0 ?_
   refine tk 1 ?_
   refine tk 2 ?_
   refine tk 3 ?_
   refine tk 4 ?_
   refine tk 5 ?_
   refine tk 7 ?_
   refine tk 9 ?_
   refine tr1 6 fun K hK => ?_
   go_simp
   refine (HFC.out _ HD.out).mono ?_
   rintro e w5 ⟨rfl, rfl⟩
   refine hK.out _ _ (HD.out.cell) (fun hS8 => ?_)
   clear hK K
   try simp only [Act.put, qa, qb, qc, qd, qe, qf]
   refine tk 8 ?_
   refine tk 10 ?_
   refine tr1 11 fun K hK => ?_
   go_simp
   refine (read_c d F D (zf + za + zp) _ HD.out.disk).mono ?_
   rintro e w6 ⟨v6, rfl, hb6, _, hbel⟩
   rw [HDR.out] at hb6 ⊢
   obtain ⟨A6, m6, c6, rfl, _, _, _⟩ := hb6.formN
   have H6 := hide hb6
   replace HD := hide (HD.out.step hbel)
   replace HB := hide (HB.out.trans (hbel.mono HB.out.size))
   clear hb6 hbel
   refine hK.out _ _ (HD.out.cell) (fun hS11 => ?_)
   clear hK K
   try simp only [Act.put, qa, qb, qc, qd, qe, qf]
   refine tk 12 ?_
   refine tk 13 ?_
   refine tk 14 ?_
   refine tk 15 ?_
   refine tk 16 ?_
   refine wpAnyH_done (by kernel_rfl) ?_ _
   clear hw1 hw2
   go_wp2_with fail
   refine (partOf_c _ _ (by rw [HCL.out]; omega) _ H6.out).mono ?_
   rintro e w7 ⟨⟨yt, yi, yp, yq, ys⟩, rfl, hy, hb7⟩
   replace HD := hide (HD.out.step hb7)
   replace HB := hide (HB.out.trans (hb7.mono HB.out.size))
   have HY := hide hy
   clear hy hb7 H6
   unfold pv
   obtain ⟨n0, hn0⟩ : ∃ z : Int, (yt : Int) = z := ⟨_, rfl⟩
   obtain ⟨n1, hn1⟩ : ∃ z : Int, (yi : Int) = z := ⟨_, rfl⟩
   obtain ⟨n2, hn2⟩ : ∃ z : Int, (yp : Int) = z := ⟨_, rfl⟩
   obtain ⟨n3, hn3⟩ : ∃ z : Int, (yq : Int) = z := ⟨_, rfl⟩
   have HN := hide (And.intro hn0 (And.intro hn1 (And.intro hn2 hn3)))
   dsimp only
   rw [hn0, hn1, hn2, hn3]
   clear hn0 hn1 hn2 hn3
   have HO := hide (Own.nil w7 [] (by simp))
   cases hok : prtOk (content D (first D t + a + p)) with
   | false =>
    have HM : Hid (blk D t i a = none) := hide (by rw [← HBL.out]; exact blkF_none _ _ _ _ _ _ _ _ rfl HLT.out hok)
    clear hok HY
    go_wp2_with (first
     | ((with_reducible refine at_alloc 126 ?_); refine wpList_alloc_own HO.out rfl 126 rfl (zpartC) zpart_info ?_; intro WA b16 hO; replace HO := hide hO; clear hO)
     | ((with_reducible refine at_store 126 (.tmp 16) ?_); refine wpList_store_own HO.out rfl 126 (.tmp 16) (.tmp 50) rfl 0 _ 0 _ _ ([.int .i64 n0, .int .i64 n1, .int .i64 n2, .int .i64 n3, sv ys]) ([.int .i64 n0, .int .i64 n1, .int .i64 n2, .int .i64 n3, sv ys]) rfl (.agg ([.int .i64 n0, .int .i64 n1, .int .i64 n2, .int .i64 n3, sv ys]).toArray) rfl rfl (fits_agg _) (by simp [zpartC]) (splice_all rfl) zpart_size rfl ?_; intro WA hO; replace HO := hide hO; clear hO))
    go_ret3
    exact ⟨by rw [HM.out]; rfl, HB.out.trans (HO.out.below.mono HB.out.size)⟩
   | true =>
    have HOK := hide hok
    have HX : Hid (prtRead (content D (first D t + a + p)) = ⟨yt, yi, yp, yq, ys⟩) := hide (HY.out hok).symm
    have HFIT : Hid (yp < yq ∧ yq ≤ 4096 ∧ ys.length ≤ 96) := hide (by
     have := (Prt.fits _).1 ((prtOk_iff _).1 hok).1
     rw [HX.out] at this
     exact ⟨this.2.2.2.2.1, this.2.2.2.1, this.2.2.2.2.2⟩)
    have m3 : n3 ≤ 4096 := by have := HFIT.out; have := HN.out; omega
    have m4 : 1 ≤ n3 := by have := HFIT.out; have := HN.out; omega
    clear hok HY
    go_wp2_with (first
     | ((with_reducible refine at_alloc 126 ?_); refine wpList_alloc_own HO.out rfl 126 rfl (zpartC) zpart_info ?_; intro WA b16 hO; replace HO := hide hO; clear hO)
     | (((with_reducible refine at_store 126 (.tmp 16) ?_); refine wpList_store_own HO.out rfl 126 (.tmp 16) (.tmp 50) rfl 0 _ 0 _ _ ([.int .i64 n0, .int .i64 n1, .int .i64 n2, .int .i64 n3, sv ys]) ([.int .i64 n0, .int .i64 n1, .int .i64 n2, .int .i64 n3, sv ys]) rfl (.agg ([.int .i64 n0, .int .i64 n1, .int .i64 n2, .int .i64 n3, sv ys]).toArray) rfl rfl (fits_agg _) (by simp [zpartC]) (splice_all rfl) zpart_size rfl ?_; intro WA hO; replace HO := hide hO; clear hO; have k16 := HO.out.cells 0 rfl; refine Hid.out ?_)))
    refine hide ?_
    by_cases q1 : n0 = zt
    ·by_cases q2 : n1 = zi
     ·by_cases q3 : n2 = zp
      ·by_cases q4 : zp = 0
       ·have hcat := run_cat s ys (by have := HSL.out; have := HFIT.out.2.2; have := HP.out; omega)
        by_cases hl : zp = n3 - 1
        ·have HM : Hid (blk D t i a = some (s ++ ys, yq)) := hide (by rw [← HBL.out]; exact blkF_last _ _ _ _ _ _ _ _ rfl HLT.out HOK.out HX.out (by have := HZ.out; have := HP.out; have := HN.out; have := HX.out; dsimp only; omega) (by have := HZ.out; have := HP.out; have := HN.out; have := HX.out; dsimp only; omega))
         go_wp2_with fail
         refine wp_region_held_drew (S := fun W => (∀ j, W.cell? ⟨b16, j, none⟩ = ([.int .i64 n0, .int .i64 n1, .int .i64 n2, .int .i64 n3, sv ys] : List Value)[j]?)) (by kernel_rfl) (HO.out.drew.cells 0 rfl) (fun hS0 => ?_)
         replace HO := hide HO.out.drew
         refine tk 0 ?_
         refine tk 1 ?_
         refine tk 2 ?_
         refine tk 3 ?_
         refine tk 4 ?_
         refine tk 5 ?_
         refine tk 6 ?_
         refine tk 7 ?_
         refine wpAnyH_done (by kernel_rfl) ?_ _
         replace HB := hide (HB.out.trans (HO.out.below.mono HB.out.size))
         go_wp2_with fail
         go_ret3
         have hv : blkV (some (s ++ ys, yq)) = .tuple #[sv (s ++ ys), .int .i64 n3, .int .i64 0] := by rw [← HN.out.2.2.2]; rfl
         exact ⟨by rw [HM.out, hv]; first | rfl | (rw [q5]; rfl), HB.out⟩
        ·have HM : Hid (blkF D t i a (half D - a - (p + 1)) (p + 1) yq (s ++ ys) = blk D t i a) := hide (by rw [← HBL.out]; exact (blkF_next _ _ _ _ _ _ _ _ rfl HLT.out HOK.out HX.out (by have := HZ.out; have := HP.out; have := HN.out; have := HX.out; dsimp only; omega) (by have := HZ.out; have := HP.out; have := HN.out; have := HX.out; dsimp only; omega)).symm)
         go_wp2_with fail
         refine wp_region_held_drew (S := fun W => (∀ j, W.cell? ⟨b16, j, none⟩ = ([.int .i64 n0, .int .i64 n1, .int .i64 n2, .int .i64 n3, sv ys] : List Value)[j]?)) (by kernel_rfl) (HO.out.drew.cells 0 rfl) (fun hS0 => ?_)
         replace HO := hide HO.out.drew
         refine tk 0 ?_
         refine tk 1 ?_
         refine tk 2 ?_
         refine tk 3 ?_
         refine tk 4 ?_
         refine tk 5 ?_
         refine tk 6 ?_
         refine tk 7 ?_
         refine wpAnyH_done (by kernel_rfl) ?_ _
         replace HB := hide (HB.out.trans (HO.out.below.mono HB.out.size))
         go_wp2_with fail
         go_roundw
         case rel => exact ⟨p + 1, yq, s ++ ys, by have := HP.out; congr 1; omega, by rw [HN.out.2.2.2]; first | done | (rw [q5]), rfl, by have := HFIT.out; have := HZ.out; have := HP.out; have := HN.out; have := HX.out; omega, by have := HFIT.out; omega, by have := HSL.out; have := HFIT.out.2.2; simp; omega, HM.out, HB.out⟩
         case measure => simp [intOf]; have := HP.out; omega
       ·by_cases q5 : n3 = zq
        ·have hcat := run_cat s ys (by have := HSL.out; have := HFIT.out.2.2; have := HP.out; omega)
         by_cases hl : zp = n3 - 1
         ·have HM : Hid (blk D t i a = some (s ++ ys, yq)) := hide (by rw [← HBL.out]; exact blkF_last _ _ _ _ _ _ _ _ rfl HLT.out HOK.out HX.out (by have := HZ.out; have := HP.out; have := HN.out; have := HX.out; dsimp only; omega) (by have := HZ.out; have := HP.out; have := HN.out; have := HX.out; dsimp only; omega))
          go_wp2_with fail
          refine wp_region_held_drew (S := fun W => (∀ j, W.cell? ⟨b16, j, none⟩ = ([.int .i64 n0, .int .i64 n1, .int .i64 n2, .int .i64 n3, sv ys] : List Value)[j]?)) (by kernel_rfl) (HO.out.drew.cells 0 rfl) (fun hS0 => ?_)
          replace HO := hide HO.out.drew
          refine tk 0 ?_
          refine tk 1 ?_
          refine tk 2 ?_
          refine tk 3 ?_
          refine tk 4 ?_
          refine tk 5 ?_
          refine tk 6 ?_
          refine tk 7 ?_
          refine wpAnyH_done (by kernel_rfl) ?_ _
          replace HB := hide (HB.out.trans (HO.out.below.mono HB.out.size))
          go_wp2_with fail
          go_ret3
          have hv : blkV (some (s ++ ys, yq)) = .tuple #[sv (s ++ ys), .int .i64 n3, .int .i64 0] := by rw [← HN.out.2.2.2]; rfl
          exact ⟨by rw [HM.out, hv]; first | rfl | (rw [q5]; rfl), HB.out⟩
         ·have HM : Hid (blkF D t i a (half D - a - (p + 1)) (p + 1) yq (s ++ ys) = blk D t i a) := hide (by rw [← HBL.out]; exact (blkF_next _ _ _ _ _ _ _ _ rfl HLT.out HOK.out HX.out (by have := HZ.out; have := HP.out; have := HN.out; have := HX.out; dsimp only; omega) (by have := HZ.out; have := HP.out; have := HN.out; have := HX.out; dsimp only; omega)).symm)
          go_wp2_with fail
          refine wp_region_held_drew (S := fun W => (∀ j, W.cell? ⟨b16, j, none⟩ = ([.int .i64 n0, .int .i64 n1, .int .i64 n2, .int .i64 n3, sv ys] : List Value)[j]?)) (by kernel_rfl) (HO.out.drew.cells 0 rfl) (fun hS0 => ?_)
          replace HO := hide HO.out.drew
          refine tk 0 ?_
          refine tk 1 ?_
          refine tk 2 ?_
          refine tk 3 ?_
          refine tk 4 ?_
          refine tk 5 ?_
          refine tk 6 ?_
          refine tk 7 ?_
          refine wpAnyH_done (by kernel_rfl) ?_ _
          replace HB := hide (HB.out.trans (HO.out.below.mono HB.out.size))
          go_wp2_with fail
          go_roundw
          case rel => exact ⟨p + 1, yq, s ++ ys, by have := HP.out; congr 1; omega, by rw [HN.out.2.2.2]; first | done | (rw [q5]), rfl, by have := HFIT.out; have := HZ.out; have := HP.out; have := HN.out; have := HX.out; omega, by have := HFIT.out; omega, by have := HSL.out; have := HFIT.out.2.2; simp; omega, HM.out, HB.out⟩
          case measure => simp [intOf]; have := HP.out; omega
        ·have HM : Hid (blk D t i a = none) := hide (by rw [← HBL.out]; exact blkF_bad _ _ _ _ _ _ _ _ rfl HLT.out HOK.out HX.out (by have := HZ.out; have := HP.out; have := HN.out; have := HX.out; dsimp only; omega))
         go_wp2_with fail
         go_ret3
         exact ⟨by rw [HM.out]; rfl, HB.out.trans (HO.out.below.mono HB.out.size)⟩
      ·have HM : Hid (blk D t i a = none) := hide (by rw [← HBL.out]; exact blkF_bad _ _ _ _ _ _ _ _ rfl HLT.out HOK.out HX.out (by have := HZ.out; have := HP.out; have := HN.out; have := HX.out; dsimp only; omega))
       go_wp2_with fail
       go_ret3
       exact ⟨by rw [HM.out]; rfl, HB.out.trans (HO.out.below.mono HB.out.size)⟩
     ·have HM : Hid (blk D t i a = none) := hide (by rw [← HBL.out]; exact blkF_bad _ _ _ _ _ _ _ _ rfl HLT.out HOK.out HX.out (by have := HZ.out; have := HP.out; have := HN.out; have := HX.out; dsimp only; omega))
      go_wp2_with fail
      go_ret3
      exact ⟨by rw [HM.out]; rfl, HB.out.trans (HO.out.below.mono HB.out.size)⟩
    ·have HM : Hid (blk D t i a = none) := hide (by rw [← HBL.out]; exact blkF_bad _ _ _ _ _ _ _ _ rfl HLT.out HOK.out HX.out (by have := HZ.out; have := HP.out; have := HN.out; have := HX.out; dsimp only; omega))
     go_wp2_with fail
     go_ret3
     exact ⟨by rw [HM.out]; rfl, HB.out.trans (HO.out.below.mono HB.out.size)⟩
end
section
open Go.ChangeShapes Go.WideShapes Go.ChangeAt Go.RowKit
def jcells (d : Nat) (J : JS) (rv : Value) : List Value := [.pointer (some ⟨d, 0, none⟩), .int .i64 J.turn, sv J.state, rv, .int .i64 J.used, .bool J.broken]
/-- Block g is the journal J on the disk in block d; F: the blocks of the disk. -/
structure Jr (w : World) (g d : Nat) (F : List Nat) (D : DS) (J : JS) (rv : Value) : Prop where
 blk : Blk w g 89 (jcells d J rv).toArray
 recs : Strs w rv J.records
 gF : g ∉ F
 rF : ∀ j, rv.ownBlock = some j → j ∉ F ∧ j ≠ g
 lt : ∀ j ∈ F, j < w.heap.size
 disk : Disk w d F D
theorem Jr.hd {w : World} {g d : Nat} {F : List Nat} {D : DS} {J : JS} {rv : Value} (h : Jr w g d F D J rv) : Hd w g d F D := ⟨h.blk.cell 0, h.disk⟩
theorem Jr.cells {w : World} {g d : Nat} {F : List Nat} {D : DS} {J : JS} {rv : Value} (h : Jr w g d F D J rv) : ∀ j, w.cell? ⟨g, j, none⟩ = (jcells d J rv)[j]? := fun j => by rw [h.blk.cell j, List.getElem?_toArray]
theorem Jr.touch {S : List Nat} {w w' : World} {g d : Nat} {F : List Nat} {D : DS} {J : JS} {rv : Value} (h : Jr w g d F D J rv) (k : Touch S w w') (hg : g ∉ S) (hr : ∀ j, rv.ownBlock = some j → j ∉ S) (hF : ∀ j ∈ F, j ∉ S) : Jr w' g d F D J rv :=
 ⟨h.blk.touch k hg, h.recs.touch k hr, h.gF, h.rF, fun j hj => Nat.lt_of_lt_of_le (h.lt j hj) k.size, h.disk.touch k hF⟩
theorem Jr.step {w w' : World} {g d : Nat} {F : List Nat} {D : DS} {J : JS} {rv : Value} (h : Jr w g d F D J rv) (k : Below w.heap.size w w') : Jr w' g d F D J rv := h.touch (Touch.below k []) (by simp) (by simp) (by simp)
/-- The journal's own block is stored to. -/
theorem Jr.put {w w' : World} {g d : Nat} {F : List Nat} {D : DS} {J J' : JS} {rv : Value} (h : Jr w g d F D J rv) (k : Touch [g] w w') (hb : Blk w' g 89 (jcells d J' rv).toArray) (hr : J'.records = J.records) : Jr w' g d F D J' rv :=
 ⟨hb, by rw [hr]; exact h.recs.touch k (fun j hj => by simp; exact (h.rF j hj).2), h.gF, h.rF, fun j hj => Nat.lt_of_lt_of_le (h.lt j hj) k.size, h.disk.touch k (fun j hj => by simp; exact fun e => h.gF (e ▸ hj))⟩
theorem Jr.set {w : World} {g d : Nat} {F : List Nat} {D : DS} {J J' : JS} {rv : Value} (h : Jr w g d F D J rv) (i : Nat) (v : Value) (hc : (jcells d J rv).set i v = jcells d J' rv) (hr : J'.records = J.records) : Jr (w.setCell ⟨g, i, none⟩ v) g d F D J' rv :=
 h.put ((Touch.refl [g] w).set (by simp) i v) (by have := h.blk.put i v; rwa [List.setIfInBounds_toArray, hc] at this) hr
/-- The disk has gone on. -/
theorem Jr.does {w w' : World} {g d : Nat} {F : List Nat} {D D' : DS} {J : JS} {rv v : Value} {e : Ending} (h : Jr w g d F D J rv) (k : Does w d F D' v e w') (hl : ∀ j, rv.ownBlock = some j → j < w.heap.size) (hg : g < w.heap.size) :
 e = .returned v ∧ ∃ F', Jr w' g d F' D' J rv ∧ Touch F w w' ∧ ∀ j ∈ F', j ∈ F ∨ w.heap.size ≤ j := by
 obtain ⟨he, F', hd, ht, hF⟩ := k
 refine ⟨he, F', ⟨h.blk.touch ht h.gF, h.recs.touch ht fun j hj => (h.rF j hj).1, fun hm => ?_, fun j hj => ⟨fun hm => ?_, (h.rF j hj).2⟩, fun j hj => ?_, hd⟩, ht, hF⟩
 ·rcases hF g hm with h1 | h1
  ·exact h.gF h1
  ·omega
 ·rcases hF j hm with h1 | h1
  ·exact (h.rF j hj).1 h1
  ·have := hl j hj; omega
 ·obtain ⟨gv, pv, hk⟩ := hd
  exact hk.lt j hj
theorem Jr.rlt {w : World} {g d : Nat} {F : List Nat} {D : DS} {J : JS} {rv : Value} (h : Jr w g d F D J rv) : ∀ j, rv.ownBlock = some j → j < w.heap.size := h.recs.lt
theorem Jr.glt {w : World} {g d : Nat} {F : List Nat} {D : DS} {J : JS} {rv : Value} (h : Jr w g d F D J rv) : g < w.heap.size := h.blk.lt
/-- The turn found behind k headers. -/
def findK (D : DS) : Nat → Nat
 | 0 => 0
 | k + 1 => if findK D k < hdrOf k (content D k) ∧ (blk D (hdrOf k (content D k)) 0 0).isSome then hdrOf k (content D k) else findK D k
theorem findK_two (D : DS) : findK D 2 = find1 D := rfl
theorem hdrOf_lt (n : Nat) (b : List UInt8) : hdrOf n b < 2 ^ 40 := by
 unfold hdrOf
 split
 ·rename_i h; exact h.1
 ·omega
theorem findK_lt (D : DS) (k : Nat) : findK D k < 2 ^ 40 := by
 cases k with
 | zero => show 0 < _; omega
 | succ k =>
  induction k with
  | zero => unfold findK; split; exact hdrOf_lt _ _; show 0 < _; omega
  | succ k ih => unfold findK; split; exact hdrOf_lt _ _; exact ih
theorem blkF_pos (D : DS) (t i a : Nat) : ∀ (f p q : Nat) (s s' : List UInt8) (n : Nat), blkF D t i a f p q s = some (s', n) → p + 1 ≤ n ∧ a + n ≤ half D
 | 0, _, _, _, _, _, h => by cases h
 | f + 1, p, q, s, s', n, h => by
  unfold blkF at h
  split at h
  ·cases h
  ·rename_i hlt
   split at h
   ·cases h
   ·rename_i x hx
    split at h
    ·split at h
     ·rename_i e
      injection h with h
      injection h with h1 h2
      omega
     ·have := blkF_pos D t i a f (p + 1) x.q _ _ _ h
      omega
    ·cases h
theorem blk_pos {D : DS} {t i a : Nat} {s : List UInt8} {n : Nat} (h : blk D t i a = some (s, n)) : 1 ≤ n ∧ a + n ≤ half D := by
 have := blkF_pos D t i a _ _ _ _ _ _ h
 omega
set_option maxHeartbeats 2000000 in
theorem find_bad (g d : Nat) (F : List Nat) (D : DS) (J : JS) (rv : Value) (w : World) (h : Jr w g d F D J rv) (hf : D.failed = true) :
 Calls Tryz.prog 46 #[.pointer (some ⟨g, 0, none⟩)] w (Gives w (.int .i64 10)) := by
 have HC := hide (header_bad g d F D 0 w h.hd hf)
 clear h hf
 go_enter Tryz.func46, Tryz.ntmps46
 go_wp2_with fail
 go_loopw [8] (fun v8 wr => v8 = .int .i64 0 ∧ w = wr) (fun _ _ => 0)
 case atStart => exact ⟨rfl, rfl⟩
 case round =>
  obtain ⟨rfl, rfl⟩ := hrel
  go_wp2_with fail
  refine HC.out.mono ?_
  rintro e w1 ⟨rfl, hb⟩
  have HB := hide hb
  clear hb
  go_wp2_with fail
  go_ret
  exact ⟨rfl, HB.out⟩
set_option maxHeartbeats 4000000 in
theorem find_c (g d : Nat) (F : List Nat) (D : DS) (J : JS) (rv : Value) (w : World) (h : Jr w g d F D J rv) (ht : J.turn = 0) (hs : D.Sz) (hf : D.failed = false) :
 Calls Tryz.prog 46 #[.pointer (some ⟨g, 0, none⟩)] w fun e w' => e = .returned (.int .i64 0) ∧ Jr w' g d F D { J with turn := find1 D } rv ∧ Touch [g] w w' := by
 have H : Hid (Jr w g d F D { J with turn := findK D 0 } rv) := by
  have e : ({ J with turn := findK D 0 } : JS) = J := by cases J; subst ht; rfl
  unfold Hid; rw [e]; exact h
 have HS := hide hs
 have HF := hide hf
 clear h ht hs hf
 rw [← findK_two]
 go_enter Tryz.func46, Tryz.ntmps46
 go_wp2_with fail
 go_loopw [8] (fun v8 wr => ∃ k : Nat, k ≤ 2 ∧ v8 = .int .i64 k ∧ Jr wr g d F D { J with turn := findK D k } rv ∧ Touch [g] w wr) (fun v8 _ => 2 - (intOf v8).toNat)
 case atStart => exact ⟨0, by omega, rfl, H.out, Touch.refl _ _⟩
 case round =>
  clear H
  obtain ⟨k, hk, rfl, hj, hto⟩ := hrel
  have HJ := hide hj
  have HTO := hide hto
  clear hj hto
  by_cases hlt : k < 2
  ·have hHT := hdrOf_lt k (content D k)
   have HN : Hid (findK D (k + 1) = if findK D k < hdrOf k (content D k) ∧ (blk D (hdrOf k (content D k)) 0 0).isSome then hdrOf k (content D k) else findK D k) := hide rfl
   have hft := findK_lt D k
   have HHC := hide (fun X hX => header_c g d F D k hlt X hX HS.out HF.out)
   generalize hdrOf k (content D k) = t at *
   generalize findK D k = f at *
   have c1 := HJ.out.cells 1
   have k1 : wr.cell? ⟨g, 1, none⟩ = some (.int .i64 (f : Int)) := c1
   clear c1
   have HFF := hide hft
   have HTT := hide hHT
   go_wp2_with fail
   refine (HHC.out _ HJ.out.hd).mono ?_
   rintro e w1 ⟨rfl, hb⟩
   replace HJ := hide (HJ.out.step hb)
   replace HTO := hide (HTO.out.step hb)
   have k2 : w1.cell? ⟨g, 1, none⟩ = some (.int .i64 (f : Int)) := HJ.out.cells 1
   clear hb k1
   obtain ⟨zt, hzt⟩ : ∃ z : Int, (t : Int) = z := ⟨_, rfl⟩
   obtain ⟨zf, hzf⟩ : ∃ z : Int, (f : Int) = z := ⟨_, rfl⟩
   have HZ := hide (And.intro hzt hzf)
   rw [hzt]
   rw [hzf] at k2
   clear hzt hzf hft hHT
   by_cases hle : zt ≤ zf
   ·have HE : Hid (findK D (k + 1) = f) := hide (by rw [HN.out, if_neg (fun x => by have := HZ.out; have := x.1; omega)])
    go_wp2_with fail
    go_roundw
    case rel => exact ⟨k + 1, by omega, by go_num, by rw [HE.out]; exact HJ.out, HTO.out⟩
    case measure => simp [intOf]; omega
   ·have HBC : Hid (Calls Tryz.prog 79 #[.pointer (some ⟨g, 0, none⟩), .int .i64 zt, .int .i64 0, .int .i64 0] w1 (Gives w1 (blkV (blk D t 0 0)))) := hide (by rw [← HZ.out.1]; exact block_c g d F D t 0 0 (by have := HTT.out; omega) (by omega) (by omega) w1 HJ.out.hd HS.out HF.out)
    have hlt2 : zf < zt := by omega
    clear hle
    go_wp2_with fail
    refine HBC.out.mono ?_
    rintro e w2 ⟨rfl, hb⟩
    replace HJ := hide (HJ.out.step hb)
    replace HTO := hide (HTO.out.step hb)
    clear hb k2
    unfold blkV
    cases hbk : blk D t 0 0 with
    | none =>
     have HE : Hid (findK D (k + 1) = f) := hide (by rw [HN.out, hbk, if_neg (fun x => by have := x.2; simp at this)])
     clear hbk
     go_wp2_with fail
     go_roundw
     case rel => exact ⟨k + 1, by omega, by go_num, by rw [HE.out]; exact HJ.out, HTO.out⟩
     case measure => simp [intOf]; omega
    | some x =>
     obtain ⟨s, n⟩ := x
     have HE : Hid (findK D (k + 1) = t) := hide (by rw [HN.out, hbk, if_pos ⟨by have := HZ.out; omega, rfl⟩])
     have hn : 1 ≤ n := (blk_pos hbk).1
     clear hbk
     have k3 := HJ.out.cells 1
     have f3 := HJ.out.blk.froz 1
     have HJ2 := hide (HJ.out.set (J' := { J with turn := t }) 1 (.int .i64 zt) (by rw [← HZ.out.1]; rfl) rfl)
     have HT2 := hide (HTO.out.set (g := g) (.inl (by simp)) 1 (.int .i64 zt))
     go_wp2_with fail
     go_roundw
     case rel => exact ⟨k + 1, by omega, by go_num, by rw [HE.out]; exact HJ2.out, HT2.out⟩
     case measure => simp [intOf]; omega
  ·obtain rfl : k = 2 := by omega
   go_wp2_with fail
   go_ret
   exact ⟨rfl, HJ.out, HTO.out⟩
end
section
open List renaming getElem_toArray → qa, getElem_cons_zero → qb, getElem_cons_succ → qc, setIfInBounds_toArray → qd, set_cons_zero → qe, set_cons_succ → qf
open Go.ChangeShapes Go.WideShapes Go.ChangeAt Go.RowKit
set_option maxHeartbeats 2000000 in
theorem check_c (g d : Nat) (F : List Nat) (D : DS) (J : JS) (rv : Value) (z : Int) (w : World) (h : Jr w g d F D J rv) :
 Calls Tryz.prog 71 #[.pointer (some ⟨g, 0, none⟩), .int .i64 z] w fun e w' => e = .returned (.int .i64 z) ∧ Jr w' g d F D { J with broken := J.broken || decide (z ≠ 0) } rv ∧ Touch [g] w w' := by
 have k5 : w.cell? ⟨g, 5, none⟩ = some (.bool J.broken) := h.cells 5
 have f5 := h.blk.froz 5
 have HT := hide ((Touch.refl [g] w).set (g := g) (.inl (by simp)) 5 (.bool (J.broken || decide (z ≠ 0))))
 have HJ := hide (h.set (J' := { J with broken := J.broken || decide (z ≠ 0) }) 5 (.bool (J.broken || decide (z ≠ 0))) rfl rfl)
 clear h
 cases hb : J.broken with
 | true =>
  rw [hb] at k5 HT HJ
  go_enter Tryz.func71, Tryz.ntmps71
  go_wp2_with fail
  go_ret
  exact ⟨rfl, HJ.out, HT.out⟩
 | false =>
  rw [hb] at k5 HT HJ
  by_cases hz : z = 0
  ·subst hz
   go_enter Tryz.func71, Tryz.ntmps71
   go_wp2_with fail
   go_ret
   exact ⟨rfl, HJ.out, HT.out⟩
  ·have hd : (z == 0) = false := by simpa using hz
   have he : decide (z ≠ 0) = true := by simpa using hz
   rw [he] at HT HJ
   clear he
   go_enter Tryz.func71, Tryz.ntmps71
   go_wp2_with fail
   go_ret
   have hz' : (z != 0) = true := by simpa using hz
   refine ⟨rfl, ?_, ?_⟩
   ·rw [hz']; simpa [hz] using HJ.out
   ·rw [hz']; exact HT.out
/-- What put leaves. -/
def PutR (w : World) (g d : Nat) (F : List Nat) (r : DS × Int) (J : JS) (rv : Value) (e : Ending) (w' : World) : Prop :=
 e = .returned (.int .i64 r.2) ∧ ∃ F', Jr w' g d F' r.1 { J with broken := J.broken || decide (r.2 ≠ 0) } rv ∧ Touch (g :: F) w w' ∧ ∀ j ∈ F', j ∈ F ∨ w.heap.size ≤ j
theorem prts_len (t i : Nat) (s : List UInt8) : (prts t i s).length = pagesN s.length := by unfold prts; simp
theorem at_len (a : Nat) (l : List (List UInt8)) : (at_ a l).length = l.length := by unfold at_; simp
def putL (D : DS) (t i a : Nat) (s : List UInt8) : List (Nat × List UInt8) := at_ (first D t + a) (prts t i s)
theorem putL_len (D : DS) (t i a : Nat) (s : List UInt8) : (putL D t i a s).length = pagesN s.length := by unfold putL; rw [at_len, prts_len]
/-- The part with number k. -/
def partK (t i k : Nat) (s : List UInt8) : Prt := ⟨t, i, k, pagesN s.length, (s.drop (k * 96)).take 96⟩
theorem putL_at (D : DS) (t i a k : Nat) (s : List UInt8) (h : k < pagesN s.length) : (putL D t i a s).drop k = (first D t + a + k, prtPage (partK t i k s)) :: (putL D t i a s).drop (k + 1) := by
 have hl := putL_len D t i a s
 rw [List.drop_eq_getElem_cons (by omega)]
 congr 1
 unfold putL at_ prts partK
 simp [List.getD, h]
theorem dWrites_cons (D : DS) (n : Nat) (b : List UInt8) (l : List (Nat × List UInt8)) : dWrites D ((n, b) :: l) = if (dWrite D n b).2 = 0 then dWrites (dWrite D n b).1 l else dWrite D n b := rfl
theorem dWrite_pend_le (D : DS) (n : Int) (b : List UInt8) : (dWrite D n b).1.pend.length ≤ D.pend.length + 1 := by
 have hb := (dBurn_pages D).2
 unfold dWrite
 split
 ·simp
 split
 ·simp
 split
 ·simp
 split
 ·simp [hb]
 ·rw [hb]; omega
theorem partK_small (t i k : Nat) (s : List UInt8) (ht : t ≤ 1099511629000) (hi : i ≤ 2 ^ 40) (hs : s.length ≤ 1000000) (hk : k < pagesN s.length) : (partK t i k s).Small := by
 have : pagesN s.length < 65536 := by unfold pagesN; omega
 exact ⟨ht, hi, by show k < _; omega, this, by show (List.take _ _).length ≤ _; rw [List.length_take]; omega⟩
theorem cut_sv (s : List UInt8) (k : Nat) (S : ByteArray) (hS : S = ⟨s.toArray⟩) (lo hi : Nat) (h1 : lo = k * 96) (h2 : hi = min s.length ((k + 1) * 96)) (h3 : k * 96 ≤ s.length) : (.string (S.extract lo hi) : Value) = sv ((s.drop (k * 96)).take 96) := by
 subst hS h1 h2
 unfold sv
 congr 1
 apply ByteArray.ext
 apply Array.ext'
 simp only [ByteArray.data_extract, Array.toList_extract, List.extract_eq_take_drop]
 apply List.ext_getElem?
 intro j
 rw [List.getElem?_take, List.getElem?_take]
 by_cases hj : j < 96
 ·by_cases hj2 : j < min s.length ((k + 1) * 96) - k * 96
  ·rw [if_pos hj2, if_pos hj]
  ·rw [if_neg hj2, if_pos hj, List.getElem?_eq_none]
   rw [List.length_drop]; omega
 ·rw [if_neg hj, if_neg (by omega)]
def PuL (w : World) (g d : Nat) (F : List Nat) (D : DS) (J : JS) (rv : Value) (L : List (Nat × List UInt8)) (k : Nat) (W : World) : Prop :=
 ∃ F' D', Jr W g d F' D' J rv ∧ dWrites D L = dWrites D' (L.drop k) ∧ D'.pages.length = D.pages.length ∧ D'.pend.length ≤ D.pend.length + k ∧ Touch (g :: F) w W ∧ ∀ j ∈ F', j ∈ F ∨ w.heap.size ≤ j
set_option maxHeartbeats 8000000 in
theorem jput_c (g d : Nat) (F : List Nat) (D : DS) (J : JS) (rv : Value) (t i a : Nat) (s : List UInt8) (S : ByteArray) (hS : S = ⟨s.toArray⟩) (ht : t ≤ 1099511629000) (hi : i ≤ 1099511627776) (ha : a ≤ 1000000) (hl : s.length ≤ 1000000) (w : World) (h : Jr w g d F D J rv) (hs : D.Sz) (hp : D.pend.length ≤ 80000) :
 Calls Tryz.prog 70 #[.pointer (some ⟨g, 0, none⟩), .int .i64 t, .int .i64 i, .int .i64 a, .string S] w (PutR w g d F (jPut D t i a s) J rv) := by
 have HJ := hide h
 have HS := hide hs
 have HP := hide hp
 have HT := hide ht
 have HI := hide hi
 have HL := hide hl
 have HA := hide ha
 have HSS := hide hS
 obtain ⟨q, hq⟩ : ∃ q, pagesN s.length = q := ⟨_, rfl⟩
 have HPF : Hid (∀ W, Calls Tryz.prog 37 #[.int .i64 (S.size : Int)] W fun e w' => e = .returned (.int .i64 (q : Int)) ∧ W = w') := hide (fun W => by
  have e : (S.size : Int) = (s.length : Int) := by rw [hS]; rfl
  rw [e, ← hq]; exact pages_fn _ (by omega) W)
 have hq1 : 1 ≤ q := by rw [← hq]; unfold pagesN; omega
 have hq2 : q ≤ 10417 := by rw [← hq]; unfold pagesN; omega
 have HQ := hide hq
 have HE : Hid (jPut D t i a s = dWrites D (putL D t i a s)) := hide rfl
 rw [HE.out]
 have HLL : Hid ((putL D t i a s).length = q) := hide (by rw [putL_len, hq])
 obtain ⟨zl, hzl⟩ : ∃ z : Int, (S.size : Int) = z := ⟨_, rfl⟩
 have HZL : Hid (zl = (s.length : Int)) := hide (by rw [← hzl, hS]; rfl)
 have l0 : 0 ≤ zl := by omega
 have l1 : zl ≤ 1000000 := by have := HZL.out; omega
 rw [hzl] at HPF
 obtain ⟨zt, hzt⟩ : ∃ z : Int, (t : Int) = z := ⟨_, rfl⟩
 obtain ⟨zi, hzi⟩ : ∃ z : Int, (i : Int) = z := ⟨_, rfl⟩
 obtain ⟨za, hza⟩ : ∃ z : Int, (a : Int) = z := ⟨_, rfl⟩
 have HZ := hide (And.intro hzt (And.intro hzi hza))
 have b0 : 0 ≤ za := by omega
 have b1 : za ≤ 1000000 := by have := HA.out; omega
 rw [hzt, hzi, hza]
 obtain ⟨zq, hzq⟩ : ∃ z : Int, (q : Int) = z := ⟨_, rfl⟩
 have HZQ := hide hzq
 have q1 : 1 ≤ zq := by omega
 have q2 : zq ≤ 10417 := by omega
 rw [hzq] at HPF
 clear h hs hp ht hi ha hl hS hzt hzi hza hq hzq hq1 hq2
 go_enter Tryz.func70, Tryz.ntmps70
 go_wp2_with fail
 refine (HPF.out _).mono ?_
 rintro e w1 ⟨rfl, rfl⟩
 go_wp2_with fail
 go_loopw [19] (fun v19 wr => ∃ k : Nat, k ≤ q ∧ v19 = .int .i64 k ∧ PuL w g d F D J rv (putL D t i a s) k wr) (fun v19 _ => q - (intOf v19).toNat)
 case atStart => exact ⟨0, by omega, rfl, F, D, HJ.out, rfl, rfl, by omega, Touch.refl _ _, fun j hj => .inl hj⟩
 case round =>
  clear HJ
  obtain ⟨k, hk, rfl, F1, D1, hj, hdw, hpl, hpe, hto, hF1⟩ := hrel
  have HJ := hide hj
  have HTO := hide hto
  have HF1 := hide hF1
  have HDW := hide hdw
  have HPL := hide hpl
  have HPE := hide hpe
  have HSZ1 : Hid D1.Sz := hide ⟨by rw [hpl]; exact HS.out.lo, by rw [hpl]; exact HS.out.hi, by have := HP.out; have := HZQ.out; omega⟩
  clear hj hto hF1 hdw hpl hpe
  have HK := hide hk
  obtain ⟨zk, hzk⟩ : ∃ z : Int, (k : Int) = z := ⟨_, rfl⟩
  have HZK := hide hzk
  have k0 : 0 ≤ zk := by omega
  rw [hzk]
  have HZQ2 := HZQ.out
  by_cases hlt : zk < zq
  ·have k1 : zk ≤ 10416 := by omega
   have hr : zk * 96 ≤ zl := by
    have := HQ.out
    have := HZL.out
    unfold pagesN at *
    omega
   have hr2 : zl < (zk + 1) * 96 ∨ (zk + 1) * 96 ≤ zl := by omega
   clear hzk HZQ2 hk
   have HO := hide (Own.nil wr (g :: F1) (fun j hj => by rcases List.mem_cons.1 hj with rfl | hj; exact HJ.out.glt; exact HJ.out.lt j hj))
   go_wp2_with (first
    | ((with_reducible refine at_alloc 126 ?_); refine wpList_alloc_own_n HO.out rfl 126 rfl zpartC zpart_info ?_; intro WA b13 hbn hO hbl; have HT13 := hide (And.intro (Touch.below hbl []) (Nat.le_of_eq hbn.symm)); replace HO := hide hO; clear hbn hO hbl)
    | ((with_reducible refine at_store 126 (.tmp 13) ?_); refine wpList_store_own_t HO.out rfl 126 (.tmp 13) (.tmp 36) rfl 0 _ 0 _ _ _ _ rfl _ rfl rfl (fits_agg _) (by simp [zpartC]) (splice_all rfl) zpart_size rfl ?_; intro WA hO _ ht; replace HT13 := hide (HT13.out.1.next ht (by simp; exact HT13.out.2)); replace HO := hide hO; clear hO ht))
   obtain ⟨txt, htx⟩ : ∃ x, x = (s.drop (k * 96)).take 96 := ⟨_, rfl⟩
   have HCT : Hid ((.string (S.extract (zk * 96).toNat (min zl ((zk + 1) * 96)).toNat) : Value) = sv txt) := hide (by
    rw [htx]
    exact cut_sv s k S HSS.out _ _ (by have := HZK.out; omega) (by have := HZK.out; have := HZL.out; omega) (by have := HZK.out; have := HZL.out; omega))
   have HPK : Hid (partK t i k s = ⟨t, i, k, q, txt⟩) := hide (by unfold partK; rw [HQ.out, ← htx])
   rw [HCT.out] at HO
   have HPV : Hid (Value.agg ([.int .i64 zt, .int .i64 zi, .int .i64 zk, .int .i64 zq, sv txt] : List Value).toArray = pv (partK t i k s)) := hide (by
    rw [HPK.out]; unfold pv; dsimp only; rw [HZ.out.1, HZ.out.2.1, HZK.out, HZQ.out])
   have HBY : Hid (∀ W, Calls Tryz.prog 90 #[.agg ([.int .i64 zt, .int .i64 zi, .int .i64 zk, .int .i64 zq, sv txt] : List Value).toArray] W (Fresh W (prtPage (partK t i k s)))) := hide (fun W => by
    rw [HPV.out]; exact bytes_c _ (partK_small t i k s HT.out HI.out HL.out (by rw [HQ.out]; have := HZK.out; have := HZQ.out; omega)) W)
   clear htx
   obtain ⟨zf, hzf⟩ : ∃ z : Int, (first D1 t : Int) = z := ⟨_, rfl⟩
   have hfl : first D1 t ≤ 1000002 := by
    have := half_le HSZ1.out
    have h2 : t % 2 < 2 := Nat.mod_lt _ (by omega)
    unfold first
    rcases (show t % 2 = 0 ∨ t % 2 = 1 by omega) with e | e <;> rw [e] <;> omega
   have f0 : 0 ≤ zf := by omega
   have f1 : zf ≤ 1000002 := by omega
   have HFD : Hid (first D1 t = first D t) := hide (by unfold first half; rw [HPL.out])
   have HZF := hide hzf
   have HFC : Hid (∀ X : World, Hd X g d F1 D1 → Calls Tryz.prog 81 #[.pointer (some ⟨g, 0, none⟩), .int .i64 zt] X fun e w' => e = .returned (.int .i64 zf) ∧ X = w') := hide (fun X hX => by rw [← HZ.out.1, ← hzf]; exact first_c g d F1 D1 t HT.out X hX HSZ1.out)
   clear hzf hfl
   have HPEN : Hid (D1.pend.length ≤ 1000000) := hide (by have := HSZ1.out.pend; omega)
   have HGE := hide HTO.out.size
   have HWR := hide HO.out.size
   have hw1 : IntKind.i64.wrap (zf + za) = zf + za := IntWalk.i64_in _ (by omega)
   have hw2 : IntKind.i64.wrap (zf + za + zk) = zf + za + zk := IntWalk.i64_in _ (by omega)
   replace HJ := hide (HJ.out.touch HT13.out (by simp) (by simp) (by simp))
   replace HTO := hide (HTO.out.next HT13.out (by simp))
   try simp only [Act.put, qa, qb, qc, qd, qe, qf]
   refine wp_region_held_drew (S := fun W => (∀ j, W.cell? ⟨b13, j, none⟩ = ([.int .i64 zt, .int .i64 zi, .int .i64 zk, .int .i64 zq, sv txt] : List Value)[j]?) ∧ W.cell? ⟨g, 0, none⟩ = some (.pointer (some ⟨d, 0, none⟩))) (by kernel_rfl) (⟨HO.out.cells 0 rfl, HJ.out.hd.cell⟩) (fun hS0 => ?_)
   replace HJ := hide (HJ.out.step (below_drew _))
   replace HO := hide HO.out.drew
   replace HTO := hide HTO.out.drew
   refine tk 0 ?_
   refine tk 1 ?_
   refine tk 2 ?_
   refine tk 3 ?_
   refine tk 4 ?_
   refine tk 5 ?_
   refine tk 6 ?_
   refine tk 8 ?_
   refine tk 10 ?_
   refine ty 12 (.agg ([.int .i64 zt, .int .i64 zi, .int .i64 zk, .int .i64 zq, sv txt] : List Value).toArray) rfl (yieldsIf_load rfl 126 (.tmp 13) rfl b13 0 5 126 ([.int .i64 zt, .int .i64 zi, .int .i64 zk, .int .i64 zq, sv txt]) ([.int .i64 zt, .int .i64 zi, .int .i64 zk, .int .i64 zq, sv txt]) _ (fun w hw => hw.1) (take_all rfl) rfl Tryz.underlying126 rfl zpart_size) ?_
   refine tr1 7 fun K hK => ?_
   go_simp
   refine (HFC.out _ HJ.out.hd).mono ?_
   rintro e w5 ⟨rfl, rfl⟩
   refine hK.out _ _ (⟨HO.out.cells 0 rfl, HJ.out.hd.cell⟩) (fun hS10 => ?_)
   clear hK K
   try simp only [Act.put, qa, qb, qc, qd, qe, qf]
   refine tk 9 ?_
   refine tk 11 ?_
   refine tr1 13 fun K hK => ?_
   go_simp
   refine (HBY.out _).mono ?_
   rintro e w5 ⟨v5, rfl, ho5, hb5⟩
   have HV5 : Hid (∀ j, v5.ownBlock = some j → j ∉ F1 ∧ j < w5.heap.size) := hide (fun j hj => ⟨fun hm => by have := HJ.out.lt j hm; have := (ho5.lt j hj).1; omega, (ho5.lt j hj).2⟩)
   have HB5 := hide ho5.bs
   replace HJ := hide (HJ.out.step hb5)
   replace HO := hide (HO.out.step hb5)
   replace HTO := hide (HTO.out.step hb5)
   clear ho5 hb5
   refine hK.out _ _ (⟨HO.out.cells 0 rfl, HJ.out.hd.cell⟩) (fun hS13 => ?_)
   clear hK K
   try simp only [Act.put, qa, qb, qc, qd, qe, qf]
   refine tr1 14 fun K hK => ?_
   go_simp
   obtain ⟨A5, m5, c5, rfl, _, _, _⟩ := HB5.out.formN
   refine (write_c d F1 D1 (zf + za + zk) _ _ _ HJ.out.disk HB5.out (fun _ => HV5.out) HPEN.out).mono ?_
   rintro e w6 hd
   obtain ⟨rfl, F2, hj2, ht2, hF2⟩ := HJ.out.does hd HJ.out.rlt HJ.out.glt
   have HJ2 := hide hj2
   replace HO := hide (HO.out.call ht2 (fun j hj => by simp [hj]))
   have HF2 : Hid (∀ j ∈ F2, j ∈ F ∨ w.heap.size ≤ j) := hide (fun j hj => by rcases hF2 j hj with h1 | h1; exact HF1.out j h1; exact .inr (Nat.le_trans HTO.out.size h1))
   replace HTO := hide (HTO.out.next ht2 (fun j hj => by rcases HF1.out j hj with h1 | h1; exact .inl (by simp [h1]); exact .inr h1))
   clear hd hj2 ht2 hF2 HJ HB5 HV5
   have HJ := HJ2
   clear HJ2
   refine hK.out _ _ (⟨HO.out.cells 0 rfl, HJ.out.hd.cell⟩) (fun hS14 => ?_)
   clear hK K
   try simp only [Act.put, qa, qb, qc, qd, qe, qf]
   refine tr1 15 fun K hK => ?_
   go_simp
   refine (check_c g d F2 _ J rv _ _ HJ.out).mono ?_
   rintro e w7 ⟨rfl, hj3, ht3⟩
   have HJ3 := hide hj3
   replace HO := hide (HO.out.call ht3 (fun j hj => by simp at hj; simp [hj]))
   replace HTO := hide (HTO.out.next ht3 (fun j hj => .inl (by simp at hj; simp [hj])))
   clear hj3 ht3 HJ
   have HJ := HJ3
   clear HJ3
   refine hK.out _ _ (⟨HO.out.cells 0 rfl, HJ.out.hd.cell⟩) (fun hS15 => ?_)
   clear hK K
   try simp only [Act.put, qa, qb, qc, qd, qe, qf]
   refine tk 16 ?_
   refine wpAnyH_done (by kernel_rfl) ?_ _
   have HIX : Hid (zf + za + zk = ((first D t + a + k : Nat) : Int)) := hide (by have := HZF.out; have := HFD.out; have := HZ.out.2.2; have := HZK.out; omega)
   have HDW2 : Hid (dWrites D (putL D t i a s) = if (dWrite D1 (zf + za + zk) (prtPage (partK t i k s))).2 = 0 then dWrites (dWrite D1 (zf + za + zk) (prtPage (partK t i k s))).1 ((putL D t i a s).drop (k + 1)) else dWrite D1 (zf + za + zk) (prtPage (partK t i k s))) := hide (by
    rw [HDW.out, putL_at D t i a k s (by rw [HQ.out]; have := HZK.out; have := HZQ.out; omega), dWrites_cons, HIX.out])
   have HPG : Hid ((dWrite D1 (zf + za + zk) (prtPage (partK t i k s))).1.pages.length = D.pages.length) := hide (by rw [dWrite_pages]; exact HPL.out)
   have HPD : Hid ((dWrite D1 (zf + za + zk) (prtPage (partK t i k s))).1.pend.length ≤ D.pend.length + (k + 1)) := hide (by have := dWrite_pend_le D1 (zf + za + zk) (prtPage (partK t i k s)); have := HPE.out; omega)
   clear HDW HIX HBY HPV HPK HFC
   generalize dWrite D1 (zf + za + zk) (prtPage (partK t i k s)) = r at *
   obtain ⟨D2, zc⟩ := r
   dsimp only at HJ HDW2 HPG HPD ⊢
   by_cases hz : zc = 0
   ·subst hz
    have HJE : Hid (({ J with broken := J.broken || decide ((0 : Int) ≠ 0) } : JS) = J) := hide (by cases J; simp)
    rw [HJE.out] at HJ
    go_wp2_with fail
    go_roundw
    case rel => exact ⟨k + 1, by have := HZK.out; have := HZQ.out; omega, by have := HZK.out; congr 1; omega, F2, D2, HJ.out, by rw [HDW2.out, if_pos rfl], HPG.out, HPD.out, HTO.out, HF2.out⟩
    case measure => simp [intOf]; have := HZK.out; have := HZQ.out; omega
   ·go_wp2_with fail
    go_ret
    exact ⟨by rw [HDW2.out, if_neg hz]; first | done | rfl, F2, by rw [HDW2.out, if_neg hz]; exact HJ.out, HTO.out, HF2.out⟩
  ·have HKQ : Hid (k = q) := hide (by have := HK.out; omega)
   have HEQ : Hid (zk = zq) := hide (by have := HKQ.out; omega)
   have HDS : Hid (dWrites D (putL D t i a s) = dSync D1) := hide (by rw [HDW.out, List.drop_eq_nil_of_le (by rw [HLL.out, HKQ.out]; exact Nat.le_refl _)]; rfl)
   clear hzk HZQ2 hk hlt
   rw [HEQ.out]
   have kc : wr.cell? ⟨g, 0, none⟩ = some (.pointer (some ⟨d, 0, none⟩)) := HJ.out.hd.cell
   go_wp2_with fail
   refine (sync_c d F1 D1 wr HJ.out.disk).mono ?_
   rintro e w6 hd
   obtain ⟨rfl, F2, hj2, ht2, hF2⟩ := HJ.out.does hd HJ.out.rlt HJ.out.glt
   have HF2 : Hid (∀ j ∈ F2, j ∈ F ∨ w.heap.size ≤ j) := hide (fun j hj => by rcases hF2 j hj with h1 | h1; exact HF1.out j h1; exact .inr (Nat.le_trans HTO.out.size h1))
   replace HTO := hide (HTO.out.next ht2 (fun j hj => by rcases HF1.out j hj with h1 | h1; exact .inl (by simp [h1]); exact .inr h1))
   have HJ2 := hide hj2
   clear hd hj2 ht2 hF2 HJ kc
   generalize dSync D1 = r at *
   obtain ⟨D2, zc⟩ := r
   dsimp only at HJ2 HDS ⊢
   go_wp2_with fail
   refine (check_c g d F2 _ J rv _ _ HJ2.out).mono ?_
   rintro e w7 ⟨rfl, hj3, ht3⟩
   have HJ3 := hide hj3
   replace HTO := hide (HTO.out.next ht3 (fun j hj => .inl (by simp at hj; simp [hj])))
   clear hj3 ht3
   go_wp2_with fail
   go_ret
   exact ⟨by rw [HDS.out]; first | done | rfl, F2, by rw [HDS.out]; exact HJ3.out, HTO.out, HF2.out⟩
end
end Go.Proofs.YtpadgkkeihhneaaGreat
