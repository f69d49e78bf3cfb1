/- Save. -/
import Derived.Test.YtpadgkkeihhneaaGreatC22
import Derived.Shelf.Bytes.SlCountOne
namespace Go.Proofs.YtpadgkkeihhneaaGreat
set_option maxRecDepth 100000
set_option linter.unusedSimpArgs false
set_option linter.unusedVariables false
section
open List renaming getElem_toArray → qa, getElem_cons_zero → qb, getElem_cons_succ → qc, setIfInBounds_toArray → qd, set_cons_zero → qe, set_cons_succ → qf
open Go.ChangeShapes Go.WideShapes Go.ChangeAt Go.RowKit
theorem JrC.cell {w : World} {g d : Nat} {F : List Nat} {D : DS} {rv : Value} {cs : List Value} {l : List (List UInt8)} (h : JrC w g d F D cs rv l) (i : Nat) (v : Value) : JrC (w.setCell ⟨g, i, none⟩ v) g d F D (cs.set i v) rv l :=
 h.put ((Touch.refl [g] w).set (by simp) i v) (by have := h.blk.put i v; rwa [List.setIfInBounds_toArray] at this)
theorem JrC.emptied {w : World} {g d : Nat} {F : List Nat} {D : DS} {rv : Value} {cs : List Value} {l : List (List UInt8)} (h : JrC w g d F D cs rv l) : JrC w g d F D cs (.slice none 0 0) [] :=
 ⟨h.blk, Strs.nil w, h.gF, (fun j hj => by cases hj), h.lt, h.disk⟩
theorem dSync_pend_le (D : DS) : (dSync D).1.pend.length ≤ D.pend.length := by
 have hb := (dBurn_pages D).2
 unfold dSync
 split
 ·exact Nat.le_refl _
 split
 ·simp [dSettle]
 ·rw [hb]; exact Nat.le_refl _
theorem dWrites_pend : ∀ (l : List (Nat × List UInt8)) (D : DS), (dWrites D l).1.pend.length ≤ D.pend.length + l.length
 | [], D => by have := dSync_pend_le D; exact this
 | (n, b) :: l, D => by
  have h1 := dWrite_pend_le D n b
  have h2 := dWrites_pend l (dWrite D n b).1
  rw [dWrites_cons, List.length_cons]
  split
  ·omega
  ·omega
set_option maxHeartbeats 8000000 in
theorem jsave_c (g d : Nat) (G : List Nat) (D : DS) (J : JS) (s : List UInt8) (S : ByteArray) (hS : S = ⟨s.toArray⟩) (hl : s.length ≤ 1000000) (w : World) (h : Jn w g d G D J) (hs : D.Sz) (hp : D.pend.length ≤ 60000) (ho : JOk D J) :
 Calls Tryz.prog 35 #[.pointer (some ⟨g, 0, none⟩), .string S] w (JDoes w g d G (jSave D J s)) := by
 obtain ⟨F, rv, h, hFG, hrG, hgG, hG⟩ := h
 have HJ := hide h
 have HS := hide hs
 have HP := hide hp
 have HO := hide ho
 have HL := hide hl
 have HSS := hide hS
 have HG := hide (And.intro hgG hrG)
 have HFG := hide hFG
 have HSV : Hid ((.string S : Value) = sv s) := hide (by rw [hS]; rfl)
 obtain ⟨q, hq⟩ : ∃ q, pagesN s.length = q := ⟨_, rfl⟩
 obtain ⟨zl, hzl⟩ : ∃ z : Int, (S.size : Int) = z := ⟨_, rfl⟩
 obtain ⟨zq, hzq⟩ : ∃ z : Int, (q : Int) = z := ⟨_, rfl⟩
 have HPF : Hid (∀ W, Calls Tryz.prog 37 #[.int .i64 zl] W fun e w' => e = .returned (.int .i64 zq) ∧ W = w') := hide (fun W => by
  have e : (S.size : Int) = (s.length : Int) := by rw [hS]; rfl
  rw [← hzl, e, ← hzq, ← hq]; exact pages_fn _ (by omega) W)
 have HQ := hide (And.intro hq hzq)
 obtain ⟨zt, hzt⟩ : ∃ z : Int, (J.turn : Int) = z := ⟨_, rfl⟩
 have HK : Hid ((J.turn : Int) = zt) := hide hzt
 have t0 : 0 ≤ zt := by omega
 have t1 : zt ≤ 1099511628000 := by have := ho.turn; omega
 obtain ⟨zn, hzn⟩ : ∃ z : Int, zt + 1 = z := ⟨_, rfl⟩
 have HZN : Hid (((J.turn + 1 : Nat) : Int) = zn) := hide (by omega)
 have n0 : 1 ≤ zn := by omega
 have n1 : zn ≤ 1099511628001 := by omega
 have hw1 : IntKind.i64.wrap (zt + 1) = zn := by rw [← hzn]; exact IntWalk.i64_in _ (by omega)
 have hw2 : IntKind.u64.wrap zn = zn := IntWalk.u64_in _ (by omega)
 have HTM : Hid (zn.tmod 2 = zn % 2) := hide (Int.tmod_eq_emod_of_nonneg (by omega))
 have k5 : w.cell? ⟨g, 5, none⟩ = some (.bool J.broken) := h.cells 5
 obtain ⟨zh, hzh⟩ : ∃ z : Int, (half D : Int) = z := ⟨_, rfl⟩
 have HH := hide hzh
 have HHC : Hid (∀ X : World, Hd X g d F D → Calls Tryz.prog 69 #[.pointer (some ⟨g, 0, none⟩)] X fun e w' => e = .returned (.int .i64 zh) ∧ X = w') := hide (fun X hX => by rw [← hzh]; exact half_c g d F D X hX hs)
 clear hS hl h hs hp ho hFG hrG hgG hG hq hzq hzt hzn hzh
 cases hb : J.broken with
 | true =>
  have HR : Hid (jSave D J s = (D, J, 9)) := hide (by unfold jSave; rw [if_pos hb])
  rw [hb] at k5
  rw [HR.out]
  have k5d : w.drew.cell? ⟨g, 5, none⟩ = some (.bool true) := k5
  clear hb
  go_enter Tryz.func35, Tryz.ntmps35
  go_wp2_with fail
  refine wp_region_held_drew (S := fun W => W.cell? ⟨g, 1, none⟩ = some (.int .i64 zt)) (by kernel_rfl) (HJ.out.k1 HK.out) (fun hS0 => ?_)
  replace HJ := hide (HJ.out.step (below_drew _))
  refine tk 0 ?_
  refine tk 1 ?_
  refine tk 3 ?_
  refine tk 4 ?_
  refine tk 5 ?_
  refine tk 6 ?_
  refine tk 7 ?_
  refine tr1 2 fun K hK => ?_
  go_simp
  refine (HPF.out _).mono ?_
  rintro e w1 ⟨rfl, rfl⟩
  refine hK.out _ _ (HJ.out.k1 HK.out) (fun hS7 => ?_)
  clear hK K
  try simp only [Act.put, qa, qb, qc, qd, qe, qf]
  refine tk 8 ?_
  refine tk 9 ?_
  refine wpAnyH_done (by kernel_rfl) ?_ _
  go_wp2_with fail
  go_ret
  exact ⟨rfl, HJ.out.jn HG.out.1 (fun j hj => .inl (HFG.out j hj)) (fun j hj => .inl (HG.out.2 j hj)) ((Touch.refl _ _).drew)⟩
 | false =>
  rw [hb] at k5
  have k5d : w.drew.cell? ⟨g, 5, none⟩ = some (.bool false) := k5
  have HBF := hide hb
  clear hb
  by_cases hfr : zh < zq
  ·have HR : Hid (jSave D J s = (D, J, 8)) := hide (by unfold jSave; rw [if_neg (by rw [HBF.out]; simp), if_pos (by have := HQ.out; have := HH.out; omega)])
   rw [HR.out]
   go_enter Tryz.func35, Tryz.ntmps35
   go_wp2_with fail
   refine wp_region_held_drew (S := fun W => W.cell? ⟨g, 1, none⟩ = some (.int .i64 zt)) (by kernel_rfl) (HJ.out.k1 HK.out) (fun hS0 => ?_)
   replace HJ := hide (HJ.out.step (below_drew _))
   refine tk 0 ?_
   refine tk 1 ?_
   refine tk 3 ?_
   refine tk 4 ?_
   refine tk 5 ?_
   refine tk 6 ?_
   refine tk 7 ?_
   refine tr1 2 fun K hK => ?_
   go_simp
   refine (HPF.out _).mono ?_
   rintro e w1 ⟨rfl, rfl⟩
   refine hK.out _ _ (HJ.out.k1 HK.out) (fun hS7 => ?_)
   clear hK K
   try simp only [Act.put, qa, qb, qc, qd, qe, qf]
   refine tk 8 ?_
   refine tk 9 ?_
   refine wpAnyH_done (by kernel_rfl) ?_ _
   go_wp2_with fail
   refine (HHC.out _ HJ.out.hd).mono ?_
   rintro e w2 ⟨rfl, rfl⟩
   go_wp2_with fail
   go_ret
   exact ⟨rfl, HJ.out.jn HG.out.1 (fun j hj => .inl (HFG.out j hj)) (fun j hj => .inl (HG.out.2 j hj)) ((Touch.refl _ _).drew)⟩
  ·have hfr2 : zq ≤ zh := by omega
   have HJA : Hid (jSave D J s = if (jSaved D (J.turn + 1) s).2 = 0 then ((jSaved D (J.turn + 1) s).1, ⟨J.turn + 1, s, [], pagesN s.length, false⟩, 0) else ((jSaved D (J.turn + 1) s).1, { J with broken := true }, (jSaved D (J.turn + 1) s).2)) := hide (by
    conv => lhs; unfold jSave
    rw [if_neg (by rw [HBF.out]; simp), if_neg (by have := HQ.out; have := HH.out; omega)])
   have HJS : Hid (jSaved D (J.turn + 1) s = if (jPut D (J.turn + 1) 0 0 s).2 = 0 then dWrites (jPut D (J.turn + 1) 0 0 s).1 [((J.turn + 1) % 2, hdrPage (J.turn + 1))] else jPut D (J.turn + 1) 0 0 s) := hide rfl
   have HPC : Hid (∀ X, Jr X g d F D J rv → Calls Tryz.prog 70 #[.pointer (some ⟨g, 0, none⟩), .int .i64 zn, .int .i64 0, .int .i64 0, .string S] X (PutR X g d F (jPut D (J.turn + 1) 0 0 s) J rv)) := hide (fun X hX => by
    rw [← HZN.out]
    exact jput_c g d F D J rv (J.turn + 1) 0 0 s S HSS.out (by have := HO.out.turn; omega) (by omega) (by omega) HL.out X hX HS.out (by have := HP.out; omega))
   have HPL : Hid ((jPut D (J.turn + 1) 0 0 s).1.pend.length ≤ D.pend.length + 10417) := hide (by have := dWrites_pend (at_ (first D (J.turn + 1) + 0) (prts (J.turn + 1) 0 s)) D; have e := putL_len D (J.turn + 1) 0 0 s; unfold putL at e; have e2 : pagesN s.length ≤ 10417 := (by have := HL.out; unfold pagesN; omega); exact Nat.le_trans this (by rw [e]; omega))
   clear hfr
   go_enter Tryz.func35, Tryz.ntmps35
   go_wp2_with fail
   refine wp_region_held_drew (S := fun W => W.cell? ⟨g, 1, none⟩ = some (.int .i64 zt)) (by kernel_rfl) (HJ.out.k1 HK.out) (fun hS0 => ?_)
   replace HJ := hide (HJ.out.step (below_drew _))
   refine tk 0 ?_
   refine tk 1 ?_
   refine tk 3 ?_
   refine tk 4 ?_
   refine tk 5 ?_
   refine tk 6 ?_
   refine tk 7 ?_
   refine tr1 2 fun K hK => ?_
   go_simp
   refine (HPF.out _).mono ?_
   rintro e w1 ⟨rfl, rfl⟩
   refine hK.out _ _ (HJ.out.k1 HK.out) (fun hS7 => ?_)
   clear hK K
   try simp only [Act.put, qa, qb, qc, qd, qe, qf]
   refine tk 8 ?_
   refine tk 9 ?_
   refine wpAnyH_done (by kernel_rfl) ?_ _
   go_wp2_with fail
   refine (HHC.out _ HJ.out.hd).mono ?_
   rintro e w2 ⟨rfl, rfl⟩
   go_wp2_with fail
   refine (HPC.out _ HJ.out).mono ?_
   rintro e w5 ⟨rfl, F1, hj1, ht1, hF1⟩
   have HJ1 := hide hj1
   have HT1 : Hid (Touch G w w5) := hide (((Touch.refl G w).drew).next ht1 (fun j hj => .inl (by rcases List.mem_cons.1 hj with rfl | hj; exact HG.out.1; exact HFG.out j hj)))
   have HF1 : Hid (∀ j ∈ F1, j ∈ G ∨ w.heap.size ≤ j) := hide (fun j hj => by rcases hF1 j hj with h1 | h1; exact .inl (HFG.out j h1); exact .inr h1)
   clear hj1 ht1 hF1 HJ HPC
   generalize jPut D (J.turn + 1) 0 0 s = r at *
   obtain ⟨D1, zc⟩ := r
   replace HJS := hide HJS.out
   dsimp only at HJ1 HJS HPL ⊢
   by_cases hz : zc = 0
   ·subst hz
    have HJE : Hid (({ J with broken := J.broken || decide ((0 : Int) ≠ 0) } : JS) = J) := hide (by cases J; simp)
    rw [HJE.out] at HJ1
    have HPEN : Hid (D1.pend.length ≤ 1000000) := hide (by have := HPL.out; have := HP.out; omega)
    have HAN : Hid (∀ W, Calls Tryz.prog 73 #[.slice none 0 0, .int .u64 zn] W (Appends W W.heap.size (.slice none 0 0) [] (enc (J.turn + 1)))) := hide (fun W => by rw [← HZN.out]; exact appendNumber_c W.heap.size _ [] (J.turn + 1) (by have := HO.out.turn; omega) W (Ow.nil _ _) (by simp) (Nat.le_refl _))
    have HEL : Hid ((enc (J.turn + 1)).length ≤ 9) := hide (enc_le (J.turn + 1) 8 (by have := HO.out.turn; omega))
    go_wp2_with fail
    refine wp_region_held_drew (S := fun W => W.cell? ⟨g, 0, none⟩ = some (.pointer (some ⟨d, 0, none⟩))) (by kernel_rfl) (HJ1.out.hd.cell) (fun hS0 => ?_)
    replace HJ1 := hide (HJ1.out.step (below_drew _))
    replace HT1 := hide HT1.out.drew
    refine tk 0 ?_
    refine tk 1 ?_
    refine tk 2 ?_
    refine tk 3 ?_
    refine tk 4 ?_
    refine tk 5 ?_
    refine tk 6 ?_
    refine tk 7 ?_
    refine tk 8 ?_
    refine tr1 9 fun K hK => ?_
    go_simp
    refine (HAN.out _).mono ?_
    rintro e w6 ⟨v6, rfl, ho6, _, hg6, _⟩
    have hb6 : Below _ _ w6 := below_of_grown hg6
    replace HJ1 := hide (HJ1.out.step hb6)
    replace HT1 := hide (HT1.out.step hb6)
    have H6 := hide ho6.bs
    clear ho6 hg6 hb6
    refine hK.out _ _ (HJ1.out.hd.cell) (fun hS9 => ?_)
    clear hK K
    try simp only [Act.put, qa, qb, qc, qd, qe, qf]
    refine tr1 10 fun K hK => ?_
    go_simp
    obtain ⟨A6, m6, c6, rfl, _, _, _⟩ := H6.out.formN
    refine (page_c _ _ (by have := HEL.out; simp; omega) _ H6.out).mono ?_
    rintro e w7 ⟨v7, rfl, ho7, hb7⟩
    have HV7 : Hid (∀ j, v7.ownBlock = some j → j ∉ F1 ∧ j < w7.heap.size) := hide (fun j hj => ⟨fun hm => by have := HJ1.out.lt j hm; have := (ho7.lt j hj).1; omega, (ho7.lt j hj).2⟩)
    replace HJ1 := hide (HJ1.out.step hb7)
    replace HT1 := hide (HT1.out.step hb7)
    have H7 := hide ho7.bs
    clear ho7 hb7 H6
    refine hK.out _ _ (HJ1.out.hd.cell) (fun hS10 => ?_)
    clear hK K
    try simp only [Act.put, qa, qb, qc, qd, qe, qf]
    refine tr1 11 fun K hK => ?_
    go_simp
    obtain ⟨A7, m7, c7, rfl, _, _, _⟩ := H7.out.formN
    rw [HTM.out]
    have HPG : Hid (pageOf ([] ++ enc (J.turn + 1)) = hdrPage (J.turn + 1)) := hide rfl
    refine (write_c d F1 D1 (zn % 2) _ _ _ HJ1.out.disk H7.out (fun _ => HV7.out) HPEN.out).mono ?_
    rintro e w8 hd
    rw [HPG.out] at hd
    obtain ⟨rfl, F2, hj2, ht2, hF2⟩ := HJ1.out.does hd HJ1.out.rlt HJ1.out.glt
    have HF2 : Hid (∀ j ∈ F2, j ∈ G ∨ w.heap.size ≤ j) := hide (fun j hj => by rcases hF2 j hj with h1 | h1; exact HF1.out j h1; exact .inr (Nat.le_trans HT1.out.size h1))
    replace HT1 := hide (HT1.out.next ht2 (fun j hj => HF1.out j hj))
    have HJ2 := hide hj2
    clear hd hj2 ht2 hF2 HJ1 H7 HV7 HPG
    have HJ1 := HJ2
    clear HJ2
    refine hK.out _ _ (HJ1.out.hd.cell) (fun hS11 => ?_)
    clear hK K
    try simp only [Act.put, qa, qb, qc, qd, qe, qf]
    refine tr1 12 fun K hK => ?_
    go_simp
    refine (check_c g d F2 _ J rv _ _ HJ1.out).mono ?_
    rintro e w9 ⟨rfl, hj3, ht3⟩
    have HJ3 := hide hj3
    replace HT1 := hide (HT1.out.next ht3 (fun j hj => .inl (by simp at hj; subst hj; exact HG.out.1)))
    clear hj3 ht3 HJ1
    have HJ1 := HJ3
    clear HJ3
    refine hK.out _ _ (HJ1.out.hd.cell) (fun hS12 => ?_)
    clear hK K
    try simp only [Act.put, qa, qb, qc, qd, qe, qf]
    refine tk 13 ?_
    refine wpAnyH_done (by kernel_rfl) ?_ _
    have HDW : Hid (dWrites D1 [((J.turn + 1) % 2, hdrPage (J.turn + 1))] = if (dWrite D1 (zn % 2) (hdrPage (J.turn + 1))).2 = 0 then dSync (dWrite D1 (zn % 2) (hdrPage (J.turn + 1))).1 else dWrite D1 (zn % 2) (hdrPage (J.turn + 1))) := hide (by
     rw [← HZN.out, show (((J.turn + 1 : Nat) : Int) % 2) = (((J.turn + 1) % 2 : Nat) : Int) by omega, dWrites_cons]; rfl)
    have HJT : Hid (jSaved D (J.turn + 1) s = dWrites D1 [((J.turn + 1) % 2, hdrPage (J.turn + 1))]) := hide (by rw [HJS.out]; exact if_pos (by first | trivial | rfl))
    clear HJS HAN HPL HPEN
    generalize dWrite D1 (zn % 2) (hdrPage (J.turn + 1)) = r2 at *
    obtain ⟨D2, zc⟩ := r2
    replace HDW := hide HDW.out
    dsimp only at HJ1 HDW ⊢
    by_cases hz : zc = 0
    ·subst hz
     rw [HJE.out] at HJ1
     have HDX : Hid (jSaved D (J.turn + 1) s = dSync D2) := hide (by rw [HJT.out, HDW.out]; exact if_pos (by first | trivial | rfl))
     clear HDW HJT
     have kc : w9.cell? ⟨g, 0, none⟩ = some (.pointer (some ⟨d, 0, none⟩)) := HJ1.out.hd.cell
     go_wp2_with fail
     refine (sync_c d F2 D2 w9 HJ1.out.disk).mono ?_
     rintro e w10 hd
     obtain ⟨rfl, F3, hj2, ht2, hF2⟩ := HJ1.out.does hd HJ1.out.rlt HJ1.out.glt
     have HF3 : Hid (∀ j ∈ F3, j ∈ G ∨ w.heap.size ≤ j) := hide (fun j hj => by rcases hF2 j hj with h1 | h1; exact HF2.out j h1; exact .inr (Nat.le_trans HT1.out.size h1))
     replace HT1 := hide (HT1.out.next ht2 (fun j hj => HF2.out j hj))
     have HJ2 := hide hj2
     clear hd hj2 ht2 hF2 HJ1 kc
     generalize dSync D2 = r3 at *
     obtain ⟨D3, zc⟩ := r3
     dsimp only at HJ2 HDX ⊢
     go_wp2_with fail
     refine (check_c g d F3 _ J rv _ _ HJ2.out).mono ?_
     rintro e w11 ⟨rfl, hj3, ht3⟩
     have HJ3 := hide hj3
     replace HT1 := hide (HT1.out.next ht3 (fun j hj => .inl (by simp at hj; subst hj; exact HG.out.1)))
     clear hj3 ht3 HJ2
     by_cases hz : zc = 0
     ·subst hz
      rw [HJE.out] at HJ3
      have HJB : Hid (jSave D J s = (D3, ⟨J.turn + 1, s, [], pagesN s.length, false⟩, 0)) := hide (by rw [HJA.out, HDX.out]; exact if_pos (by first | trivial | rfl))
      have c1 := HJ3.out.cells 1
      have c2 := HJ3.out.cells 2
      have c3 := HJ3.out.cells 3
      have c4 := HJ3.out.cells 4
      have f1 := HJ3.out.blk.froz 1
      have f2 := HJ3.out.blk.froz 2
      have f3 := HJ3.out.blk.froz 3
      have f4 := HJ3.out.blk.froz 4
      simp only [jcells, List.getElem?_cons_zero, List.getElem?_cons_succ] at c1 c2 c3 c4
      go_wp2_with fail
      go_ret
      have HC := ((((HJ3.out.c.cell 1 (.int .i64 zn)).cell 2 (.string S)).cell 3 (.slice none 0 0)).cell 4 (.int .i64 zq)).emptied
      have HCE : ((((jcells d J rv).set 1 (.int .i64 zn)).set 2 (.string S)).set 3 (.slice none 0 0)).set 4 (.int .i64 zq) = jcells d ⟨J.turn + 1, s, [], pagesN s.length, false⟩ (.slice none 0 0) := by
       have e1 : zq = ((pagesN s.length : Nat) : Int) := by have := HQ.out; omega
       rw [← HZN.out, HSV.out, e1]
       unfold jcells
       rw [HBF.out]; rfl
      have ht := (((HT1.out.set (g := g) (.inl HG.out.1) 1 (.int .i64 zn)).set (g := g) (.inl HG.out.1) 2 (.string S)).set (g := g) (.inl HG.out.1) 3 (.slice none 0 0)).set (g := g) (.inl HG.out.1) 4 (.int .i64 zq)
      exact ⟨by rw [HJB.out]; rfl, by rw [HJB.out]; exact (HC.jr HCE rfl).jn HG.out.1 HF3.out (fun j hj => by cases hj) ht⟩
     ·have HJE2 : Hid (({ J with broken := J.broken || decide (zc ≠ 0) } : JS) = { J with broken := true }) := hide (by cases J; simp [hz])
      rw [HJE2.out] at HJ3
      go_wp2_with fail
      go_ret
      have HJB : jSave D J s = (D3, { J with broken := true }, zc) := by rw [HJA.out, HDX.out]; exact if_neg hz
      exact ⟨by rw [HJB]; rfl, by rw [HJB]; exact HJ3.out.jn HG.out.1 HF3.out (fun j hj => .inl (HG.out.2 j hj)) HT1.out⟩
    ·have HJE2 : Hid (({ J with broken := J.broken || decide (zc ≠ 0) } : JS) = { J with broken := true }) := hide (by cases J; simp [hz])
     rw [HJE2.out] at HJ1
     go_wp2_with fail
     go_ret
     have HJB : jSave D J s = (D2, { J with broken := true }, zc) := by rw [HJA.out, HJT.out, HDW.out, if_neg hz]; exact if_neg hz
     exact ⟨by rw [HJB]; rfl, by rw [HJB]; exact HJ1.out.jn HG.out.1 HF2.out (fun j hj => .inl (HG.out.2 j hj)) HT1.out⟩
   ·have HJE2 : Hid (({ J with broken := J.broken || decide (zc ≠ 0) } : JS) = { J with broken := true }) := hide (by cases J; simp [hz])
    rw [HJE2.out] at HJ1
    go_wp2_with fail
    go_ret
    have HJB : jSave D J s = (D1, { J with broken := true }, zc) := by rw [HJA.out, HJS.out, if_neg hz]; exact if_neg hz
    exact ⟨by rw [HJB]; rfl, by rw [HJB]; exact HJ1.out.jn HG.out.1 HF1.out (fun j hj => .inl (HG.out.2 j hj)) HT1.out⟩
end
section
open Go.ChangeShapes Go.WideShapes Go.ChangeAt Go.RowKit
theorem bytesOf_list (l : List UInt8) : Lib.bytesOf (l.map u8) = l := by
 unfold Lib.bytesOf
 rw [List.map_map]
 conv => rhs; rw [← List.map_id l]
 apply List.map_congr_left
 intro x _
 show (u8 x).toNat.toUInt8 = x
 unfold u8
 simp
set_option maxHeartbeats 2000000 in
theorem count_c (b off n c b2 d : Nat) (l : List UInt8) (w : World) (h : Bs w (.slice (some ⟨b, off, none⟩) n c) l) (h2 : w.cell? ⟨b2, 0, none⟩ = some (.int .u8 0)) :
 Calls Tryz.prog 82 #[.slice (some ⟨b, off, none⟩) n c, .slice (some ⟨b2, 0, none⟩) 1 d] w fun e w' => e = .returned (.int .i64 (l.count 0 : Nat)) ∧ w = w' := by
 have hx : (l.map u8).length = n := by rw [List.length_map]; exact h.len_eq.1.symm
 have hc : ∀ i, i < n → w.cell? ⟨b, off + i, none⟩ = some (.int .u8 ((l.map u8).getD i 0)) := fun i hi => by
  obtain ⟨b', off', x, he, _, hl, hcell⟩ := h.at_ hi
  injection he with he
  injection he with e1 e2
  subst e1 e2
  rw [hcell]
  congr 2
  simp [List.getD, hl]
 have HR := hide (Lib.run_countSlice (P := Tryz.prog) w b off n c (l.map u8) hx hc 0)
 have HE : Hid ((Lib.countByte (Lib.bytesOf (l.map u8)) (0 : Int).toNat.toUInt8) = l.count 0) := hide (by rw [bytesOf_list]; rfl)
 clear hx hc h
 go_enter Tryz.func82, Tryz.ntmps82
 go_wp2_with fail
 rw [run_callFunc_extern Tryz.func98 (by kernel_rfl) (by kernel_rfl) (by kernel_rfl) (e := Extern.BytealgCount.count) (by kernel_rfl), HR.out]
 simp only [Result.andThen]
 rw [Oper.upon_value]
 go_wp2_with fail
 go_ret
 exact ⟨by rw [← HE.out]; rfl, rfl⟩
end
end Go.Proofs.YtpadgkkeihhneaaGreat
