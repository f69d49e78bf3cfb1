/- The law of ClientCodes (plain). -/
import Derived.Test.YtpbgelhjbfckcaaV34
namespace Go.Proofs.Ytpbgelhjbfckcaa
set_option maxRecDepth 100000
set_option linter.unusedVariables false
set_option linter.unusedSimpArgs false
open Go.ChangeShapes Go.WideShapes Go.ChangeAt Go.RowKit
set_option maxHeartbeats 8000000 in
theorem refVbad_c (cs : List Value) (p : PM) (w : World) (hp : MsgV w cs p) (hk : p.n 0 < 0 ∨ 11 < p.n 0) : Calls Try.prog 23 #[.agg cs.toArray] w fun e w' => Below w.heap.size w w' ∧ e = .returned (.bool false) := by
 have HLEN := hide hp.len
 have HC0 := hide (hp.N 0 (by decide)).1
 have HK := hide hk
 have HO := hide (Own.nil w [] (by simp))
 clear hp hk
 go_enter Try.func23, Try.ntmps23
 try simp only [List.append_eq, List.cons_append, List.nil_append]
 go_wp2_with (first
  | ((with_reducible refine at_box 41 (.tmp 0) ?_); refine wpList_box_own HO.out rfl 41 (.tmp 0) rfl cs rfl ?_; intro WA b1 hO; replace HO := hide hO; clear hO)
  | ((with_reducible refine at_load 41 (.tmp 1) ?_); refine wpList_load_own_gq HO.out rfl 41 (.tmp 1) rfl 0 _ 0 47 _ _ cs _ rfl (take_all HLEN.out) rfl Try.underlying41 rfl (msg_sizeE HLEN.out) ?_)
  | fail)
 refine (usedBad_c cs (p.n 0) _ HLEN.out HC0.out HK.out).mono ?_
 rintro e w1 ⟨hb1, rfl⟩
 replace HO := hide (HO.out.step hb1)
 clear hb1
 go_wp2_with (first
  | ((with_reducible refine at_alloc 41 ?_); refine wpList_alloc_own HO.out rfl 41 rfl zmsgI zmsgI_info ?_; intro WB bx hO; replace HO := hide hO; clear hO)
  | ((with_reducible refine at_store 41 (.tmp 3) ?_); refine wpList_store_own HO.out rfl 41 (.tmp 3) (.tmp 9) rfl 1 _ 0 _ _ ([.int .i64 (p.n 0), zi, zi, zi, zi, zs, zi, zi, zi, zi, zi, zl, zl, zi, zi, zi, zi, zi, zi, zi, zi, zi, zi, zi, zi, zi, zl, zl, zl, zl, zl, zl, zl, zl, zi, zi, zi, zi, zi, zi, zi, zi, zb0, zl, zi, zs, zb0]) ([.int .i64 (p.n 0), zi, zi, zi, zi, zs, zi, zi, zi, zi, zi, zl, zl, zi, zi, zi, zi, zi, zi, zi, zi, zi, zi, zi, zi, zi, zl, zl, zl, zl, zl, zl, zl, zl, zi, zi, zi, zi, zi, zi, zi, zi, zb0, zl, zi, zs, zb0]) rfl (.agg ([.int .i64 (p.n 0), zi, zi, zi, zi, zs, zi, zi, zi, zi, zi, zl, zl, zi, zi, zi, zi, zi, zi, zi, zi, zi, zi, zi, zi, zi, zl, zl, zl, zl, zl, zl, zl, zl, zi, zi, zi, zi, zi, zi, zi, zi, zb0, zl, zi, zs, zb0] : List Value).toArray) rfl rfl (fits_agg _) (by rw [zmsgI_len]; exact Nat.le_refl _) (splice_all (by rw [zmsgI_len]; rfl)) (by kernel_rfl) rfl ?_; intro WC hO; replace HO := hide hO; clear hO)
  | fail)
 go_ret
 exact ⟨HO.out.below, rfl⟩
theorem valid_bad {w : World} {cs : List Value} {p : PM} (h : MsgV w cs p) (hk : p.n 0 < 0 ∨ 11 < p.n 0) (ml : List Int) : validP cs ml = false := by
 have : usedIx cs = none := by
  unfold usedIx
  rw [numAt_eq (h.N 0 (by decide)).1]
  split
  ·rw [List.getElem?_eq_none]
   show 12 ≤ _
   omega
  ·rfl
 unfold validP
 rw [this]
theorem kind_cases {x : Int} : (x < 0 ∨ 11 < x) ∨ x = 0 ∨ x = 1 ∨ x = 2 ∨ x = 3 ∨ x = 4 ∨ x = 5 ∨ x = 6 ∨ x = 7 ∨ x = 8 ∨ x = 9 ∨ x = 10 ∨ x = 11 := by omega
theorem refValid_c (cs : List Value) (p : PM) (w : World) (hp : MsgV w cs p) : Calls Try.prog 23 #[.agg cs.toArray] w (SameR w (validP cs (p.li 33) = true)) := by
 rcases kind_cases (x := p.n 0) with hk | hk | hk | hk | hk | hk | hk | hk | hk | hk | hk | hk | hk
 ·exact (refVbad_c cs p w hp hk).mono fun e w' ⟨h1, h2⟩ => ⟨h1, false, h2, by rw [valid_bad hp hk]⟩
 ·exact (refV0_c cs p w hp hk).mono fun e w' ⟨h1, x, h2, h3⟩ => ⟨h1, x, h2, h3.trans (valid0_iff hp hk).symm⟩
 ·exact (refV1_c cs p w hp hk).mono fun e w' ⟨h1, x, h2, h3⟩ => ⟨h1, x, h2, h3.trans (valid1_iff hp hk).symm⟩
 ·exact (refV2_c cs p w hp hk).mono fun e w' ⟨h1, x, h2, h3⟩ => ⟨h1, x, h2, h3.trans (valid2_iff hp hk).symm⟩
 ·exact (refV3_c cs p w hp hk).mono fun e w' ⟨h1, x, h2, h3⟩ => ⟨h1, x, h2, h3.trans (valid3_iff hp hk).symm⟩
 ·exact (refV4_c cs p w hp hk).mono fun e w' ⟨h1, x, h2, h3⟩ => ⟨h1, x, h2, h3.trans (valid4_iff hp hk).symm⟩
 ·exact (refV5_c cs p w hp hk).mono fun e w' ⟨h1, x, h2, h3⟩ => ⟨h1, x, h2, h3.trans (valid5_iff hp hk).symm⟩
 ·exact (refV6_c cs p w hp hk).mono fun e w' ⟨h1, x, h2, h3⟩ => ⟨h1, x, h2, h3.trans (valid6_iff hp hk).symm⟩
 ·exact (refV7_c cs p w hp hk).mono fun e w' ⟨h1, x, h2, h3⟩ => ⟨h1, x, h2, h3.trans (valid7_iff hp hk).symm⟩
 ·exact (refV8_c cs p w hp hk).mono fun e w' ⟨h1, x, h2, h3⟩ => ⟨h1, x, h2, h3.trans (valid8_iff hp hk).symm⟩
 ·exact (refV9_c cs p w hp hk).mono fun e w' ⟨h1, x, h2, h3⟩ => ⟨h1, x, h2, h3.trans (valid9_iff hp hk).symm⟩
 ·exact (refV10_c cs p w hp hk).mono fun e w' ⟨h1, x, h2, h3⟩ => ⟨h1, x, h2, h3.trans (valid10_iff hp hk).symm⟩
 ·exact (refV11_c cs p w hp hk).mono fun e w' ⟨h1, x, h2, h3⟩ => ⟨h1, x, h2, h3.trans (valid11_iff hp hk).symm⟩
/-- A message of which nothing is long. -/
structure Sm (p : PM) : Prop where
 tl : totL (lOffs.map p.li) ≤ 11000000
 body : p.body.size ≤ 1048576
 d : p.d.size ≤ 1048576
 ln : p.l.length ≤ 1048576
 te : totE p.l ≤ 45000000
 ok : ∀ x ∈ p.l, x.Ok
theorem Sm.sz {p : PM} (h : Sm p) : SzOk p := ⟨by have := h.tl; have := h.body; have := h.d; have := h.ln; have := h.te; omega, h.ok⟩
theorem SzOk.same {p q : PM} (h : SzOk p) (hs : SameP p q) : SzOk q := by
 have e : lOffs.map q.li = lOffs.map p.li := List.map_congr_left fun o ho => (hs.li o ho).symm
 refine ⟨?_, by rw [← hs.l]; exact h.2⟩
 rw [e, ← hs.l, ← hs.body, ← hs.d]
 exact h.1
section
variable {w : World} {cs : List Value} {p q : PM}
theorem MsgV.toM (h : MsgV w cs p) (hs : Sm p) : MsgM w w.heap.size cs p.li p.l := by
 have hb : strAt cs 5 = p.body := strAt_eq h.body
 have hd : strAt cs 45 = p.d := strAt_eq h.d
 refine ⟨⟨h.len, fun o ho => ⟨_, (h.N o ho).1⟩, fun x hx => ?_, fun o ho => ?_, ⟨_, h.body⟩, ⟨_, h.d⟩, ⟨_, h.gr⟩, ⟨_, h.dn⟩⟩, fun o ho => ?_, fun o ho => ?_, ?_, ?_⟩
 ·have h0 := h.N 0 (by decide)
  rw [h0.1] at hx
  injection hx with hx
  injection hx with _ hx
  exact hx ▸ h0.2
 ·by_cases e : o = 43
  ·subst e
   obtain ⟨A, n, c, e, _⟩ := h.E
   exact ⟨A, n, c, e⟩
  ·obtain ⟨A, n, c, e, _⟩ := h.S o (s_off o ho e)
   exact ⟨A, n, c, e⟩
 ·rw [numAt_eq (h.N o ho).1]; exact (h.N o ho).2
 ·obtain ⟨A, n, c, e, hl⟩ := h.S o ho
  rw [slAt_eq e]
  exact hl.low
 ·obtain ⟨A, n, c, e, hl⟩ := h.E
  rw [slAt_eq e]
  exact hl
 ·rw [hb, hd]; exact hs.sz.1
theorem MsgV.I (h : MsgV w cs p) : ∀ o ∈ iOffs, I64 (p.n o) := fun o ho => (h.N o ho).2
theorem MsgV.L (h : MsgV w cs p) (hs : Sm p) : ∀ o ∈ lOffs, (∀ y ∈ p.li o, I64 y) ∧ (p.li o).length ≤ 2 ^ 60 := fun o ho => by
 obtain ⟨A, n, c, e, hl⟩ := h.S o ho
 obtain ⟨_, _, _, _, hm, hi, _⟩ := hl
 refine ⟨hi, ?_⟩
 have h3 := hs.tl
 simp only [totL, lOffs, List.map_cons, List.map_nil, List.sum_cons, List.sum_nil] at h3
 simp only [lOffs, List.mem_cons, List.not_mem_nil, or_false] at ho
 rcases ho with rfl | rfl | rfl | rfl | rfl | rfl | rfl | rfl | rfl | rfl <;> omega
theorem encFp_len (hI : ∀ o ∈ iOffs, I64 (p.n o)) (hL : ∀ o ∈ lOffs, (∀ y ∈ p.li o, I64 y) ∧ (p.li o).length ≤ 2 ^ 60) (hs : Sm p) (k : Nat) (hk : k < 14) (hne : k ≠ 13) : (encFp p k).length ≤ 100000000 := by
 have : k = 0 ∨ k = 1 ∨ k = 2 ∨ k = 3 ∨ k = 4 ∨ k = 5 ∨ k = 6 ∨ k = 7 ∨ k = 8 ∨ k = 9 ∨ k = 10 ∨ k = 11 ∨ k = 12 ∨ k = 13 := by omega
 rcases this with rfl | rfl | rfl | rfl | rfl | rfl | rfl | rfl | rfl | rfl | rfl | rfl | rfl | rfl
 ·have := encI_len (hI 1 (by decide)); show (encI (p.n 1)).length ≤ _; omega
 ·have := encI_len (hI 2 (by decide)); show (encI (p.n 2)).length ≤ _; omega
 ·have := encI_len (hI 3 (by decide)); show (encI (p.n 3)).length ≤ _; omega
 ·have := encI_len (hI 4 (by decide)); show (encI (p.n 4)).length ≤ _; omega
 ·have := encI_len (hI 6 (by decide)); show (encI (p.n 6)).length ≤ _; omega
 ·have := encI_len (hI 7 (by decide)); show (encI (p.n 7)).length ≤ _; omega
 ·have := encI_len (hI 8 (by decide)); show (encI (p.n 8)).length ≤ _; omega
 ·have := encT_len p.body (by have := hs.body; omega); have := hs.body; show (encT p.body).length ≤ _; omega
 ·have := encI_len (hI 17 (by decide)); show (encI (p.n 17)).length ≤ _; omega
 ·show ((([9, 10] : List Nat).map p.n).flatMap encI ++ encLs (([11, 12] : List Nat).map p.li)).length ≤ _; rw [List.length_append]; have h1 := flat_len (l := ([9, 10] : List Nat).map p.n) (mapI hI (by decide)); have h2 := encLs_len (lss := ([11, 12] : List Nat).map p.li) (fun x hx => by have := mapL hL (ls := [11, 12]) (by decide) x hx; exact ⟨this.1, Nat.lt_of_le_of_lt this.2 (by decide)⟩); have h3 := hs.tl; simp only [totL, lOffs, List.map_cons, List.map_nil, List.sum_cons, List.sum_nil, List.length_map, List.length_cons, List.length_nil] at h1 h2 h3; simp only [List.map_cons, List.map_nil]; omega
 ·show ((([13, 14, 15] : List Nat).map p.n).flatMap encI ++ encI (p.n 16)).length ≤ _; rw [List.length_append]; have h1 := flat_len (l := ([13, 14, 15] : List Nat).map p.n) (mapI hI (by decide)); have h2 := encI_len (hI 16 (by decide)); simp only [List.length_map, List.length_cons, List.length_nil] at h1; omega
 ·show ((([] : List Nat).map p.n).flatMap encI ++ encLs (([33] : List Nat).map p.li)).length ≤ _; rw [List.length_append]; have h1 := flat_len (l := ([] : List Nat).map p.n) (mapI hI (by decide)); have h2 := encLs_len (lss := ([33] : List Nat).map p.li) (fun x hx => by have := mapL hL (ls := [33]) (by decide) x hx; exact ⟨this.1, Nat.lt_of_le_of_lt this.2 (by decide)⟩); have h3 := hs.tl; simp only [totL, lOffs, List.map_cons, List.map_nil, List.sum_cons, List.sum_nil, List.length_map, List.length_cons, List.length_nil] at h1 h2 h3; simp only [List.map_cons, List.map_nil]; omega
 ·show ((([18, 19, 20, 21, 22, 23, 24, 25] : List Nat).map p.n).flatMap encI ++ encLs (([26, 27, 28, 29, 30, 31, 32] : List Nat).map p.li)).length ≤ _; rw [List.length_append]; have h1 := flat_len (l := ([18, 19, 20, 21, 22, 23, 24, 25] : List Nat).map p.n) (mapI hI (by decide)); have h2 := encLs_len (lss := ([26, 27, 28, 29, 30, 31, 32] : List Nat).map p.li) (fun x hx => by have := mapL hL (ls := [26, 27, 28, 29, 30, 31, 32]) (by decide) x hx; exact ⟨this.1, Nat.lt_of_le_of_lt this.2 (by decide)⟩); have h3 := hs.tl; simp only [totL, lOffs, List.map_cons, List.map_nil, List.sum_cons, List.sum_nil, List.length_map, List.length_cons, List.length_nil] at h1 h2 h3; simp only [List.map_cons, List.map_nil]; omega
 ·exact absurd rfl hne
theorem encM_small (hI : ∀ o ∈ iOffs, I64 (p.n o)) (hs : Sm p) : (encM (mOffs.map p.n) p.gr p.dn p.d p.l).length ≤ 950000000 := by
 have h1 := encM_len (is := mOffs.map p.n) (gr := p.gr) (dn := p.dn) (d := p.d) (l := p.l) (mapI hI (by decide)) (by rw [List.length_map]; decide) hs.ok (by have := hs.ln; omega) (by have := hs.d; omega)
 have := hs.te; have := hs.ln; have := hs.d
 omega
theorem idx13 : ∀ ix ∈ useIdx, 13 ∈ ix → ix = [13] := by decide
theorem idx6 : ∀ ix ∈ useIdx, ix.length ≤ 6 := by decide
theorem flat_bound {f : Nat → List UInt8} {N : Nat} (ks : List Nat) (h : ∀ k ∈ ks, (f k).length ≤ N) : (ks.flatMap f).length ≤ ks.length * N := by
 induction ks with
 | nil => simp
 | cons x r ih =>
  rw [List.flatMap_cons, List.length_append, List.length_cons, Nat.succ_mul]
  have h1 := h x (by simp)
  have h2 := ih (fun y hy => h y (by simp [hy]))
  omega
theorem enc_small (hI : ∀ o ∈ iOffs, I64 (p.n o)) (hL : ∀ o ∈ lOffs, (∀ y ∈ p.li o, I64 y) ∧ (p.li o).length ≤ 2 ^ 60) (hs : Sm p) (ix : List Nat) (hix : ix ∈ useIdx) : (ix.flatMap (encFp p)).length ≤ 960000000 := by
 by_cases h13 : 13 ∈ ix
 ·rw [idx13 ix hix h13]
  show ([13].flatMap (encFp p)).length ≤ _
  rw [List.flatMap_cons, List.flatMap_nil, List.append_nil]
  have h1 := encM_small hI hs
  have e : (ByteArray.mk (encM (mOffs.map p.n) p.gr p.dn p.d p.l).toArray).size = (encM (mOffs.map p.n) p.gr p.dn p.d p.l).length := by show (List.toArray _).size = _; rw [List.size_toArray]
  have h2 := encT_len ⟨(encM (mOffs.map p.n) p.gr p.dn p.d p.l).toArray⟩ (by rw [e]; omega)
  rw [e] at h2
  show (encT ⟨(encM (mOffs.map p.n) p.gr p.dn p.d p.l).toArray⟩).length ≤ _
  omega
 ·have h1 := flat_bound (f := encFp p) ix (fun k hk => encFp_len hI hL hs k ((useIdx_ok ix hix).1 k hk) (fun e => h13 (e ▸ hk)))
  have h2 := idx6 ix hix
  have h3 : ix.length * 100000000 ≤ 6 * 100000000 := Nat.mul_le_mul_right _ h2
  omega
/-- What Encode writes of a valid message is read as the same message. -/
theorem codes_plain (hV : MsgV w cs p) (hs : Sm p) (hv : validP cs (p.li 33) = true) : ∃ q, SameP p q ∧ dec (encP cs p.li p.l).data.toList = (q, ([], 0)) ∧ (encP cs p.li p.l).size ≤ 1000000000 ∧ (encP cs p.li p.l).size ≠ 0 := by
 have hI := hV.I;have hL := hV.L hs
 have hn0 := numAt_eq (hV.N 0 (by decide)).1
 have key : ∀ (K : Nat) (ix : List Nat), p.n 0 = K → useIdx[K]? = some ix → SameP p (ix.foldl (fun q k => copyF k p q) (pm0 K)) → ∃ q, SameP p q ∧ dec (encP cs p.li p.l).data.toList = (q, ([], 0)) ∧ (encP cs p.li p.l).size ≤ 1000000000 ∧ (encP cs p.li p.l).size ≠ 0 := by
  intro K ix hk hix hsame
  have hmem := List.mem_of_getElem? hix
  have hlt := (useIdx_ok ix hmem).1
  have hK : K < 12 := (List.getElem?_eq_some_iff.1 hix).1
  have hux : usedIx cs = some ix := by
   unfold usedIx
   rw [hn0, hk, if_pos (by omega)]
   exact hix
  have hB : encB cs p.li p.l = enc K ++ ix.flatMap (encFp p) := by
   unfold encB
   rw [hn0, hk, hux]
   show enc (K : Int).toNat ++ ix.flatMap _ = _
   rw [Int.toNat_natCast]
   congr 1
   have : ∀ (ks : List Nat), (∀ k ∈ ks, k < 14) → ks.flatMap (encF cs p.li p.l) = ks.flatMap (encFp p) := by
    intro ks hks
    induction ks with
    | nil => rfl
    | cons x r ih => rw [List.flatMap_cons, List.flatMap_cons, encF_p hV x (hks x (by simp)), ih (fun y hy => hks y (by simp [hy]))]
   exact this ix hlt
  have hP : (encP cs p.li p.l).data.toList = enc K ++ ix.flatMap (encFp p) := by
   unfold encP
   rw [hv, if_pos rfl, hB]
  have hsz : (encP cs p.li p.l).size = (enc K ++ ix.flatMap (encFp p)).length := by rw [← hP, Array.length_toList]; rfl
  have h9 := enc_len K (by omega)
  have hsm := enc_small hI hL hs ix hmem
  refine ⟨_, hsame, ?_, ?_, ?_⟩
  ·rw [hP]
   unfold dec
   rw [inv_count 11 K (by omega) (by omega)]
   simp only
   rw [List.getD_eq_getElem?_getD, hix, Option.getD_some]
   have := rFs_inv (p := p) hI hL (by have := hs.body; omega) (by have := hs.d; omega) hs.ok (by have := hs.ln; omega) (by
    have e : (ByteArray.mk (encM (mOffs.map p.n) p.gr p.dn p.d p.l).toArray).size = (encM (mOffs.map p.n) p.gr p.dn p.d p.l).length := by show (List.toArray _).size = _; rw [List.size_toArray]
    have := encM_small hI hs
    rw [e]; omega) ix hlt (pm0 K) []
   rw [List.append_nil] at this
   exact this
  ·rw [hsz, List.length_append]; omega
  ·rw [hsz, List.length_append]
   have : 1 ≤ (enc K).length := by unfold enc; simp
   omega
 rcases kind_cases (x := p.n 0) with hk | hk | hk | hk | hk | hk | hk | hk | hk | hk | hk | hk | hk
 ·rw [valid_bad hV hk] at hv; cases hv
 ·exact key 0 _ hk rfl (same_copy0 ((valid0_iff hV hk).1 hv).1 hk)
 ·exact key 1 _ hk rfl (same_copy1 ((valid1_iff hV hk).1 hv).1 hk)
 ·exact key 2 _ hk rfl (same_copy2 ((valid2_iff hV hk).1 hv).1 hk)
 ·exact key 3 _ hk rfl (same_copy3 ((valid3_iff hV hk).1 hv).1 hk)
 ·exact key 4 _ hk rfl (same_copy4 ((valid4_iff hV hk).1 hv).1 hk)
 ·exact key 5 _ hk rfl (same_copy5 ((valid5_iff hV hk).1 hv).1 hk)
 ·exact key 6 _ hk rfl (same_copy6 ((valid6_iff hV hk).1 hv).1 hk)
 ·exact key 7 _ hk rfl (same_copy7 ((valid7_iff hV hk).1 hv).1 hk)
 ·exact key 8 _ hk rfl (same_copy8 ((valid8_iff hV hk).1 hv).1 hk)
 ·exact key 9 _ hk rfl (same_copy9 ((valid9_iff hV hk).1 hv).1 hk)
 ·exact key 10 _ hk rfl (same_copy10 ((valid10_iff hV hk).1 hv).1 hk)
 ·exact key 11 _ hk rfl (same_copy11 ((valid11_iff hV hk).1 hv).1 hk)
theorem encP_same {w' : World} {ds : List Value} (hV : MsgV w cs p) (hV' : MsgV w' ds q) (hs : SameP p q) : encP ds q.li q.l = encP cs p.li p.l := by
 have ha := Agree.of hV hV' hs
 have hn : numAt ds 0 = numAt cs 0 := (ha.n 0 (by decide)).symm
 have hu : usedIx ds = usedIx cs := by unfold usedIx; rw [hn]
 have hB : encB ds q.li q.l = encB cs p.li p.l := by
  unfold encB
  rw [hn, hu]
  congr 1
  have : ∀ (ks : List Nat), (∀ k ∈ ks, k < 14) → ks.flatMap (encF ds q.li q.l) = ks.flatMap (encF cs p.li p.l) := by
   intro ks hks
   induction ks with
   | nil => rfl
   | cons x r ih => rw [List.flatMap_cons, List.flatMap_cons, encF_p hV' x (hks x (by simp)), encF_p hV x (hks x (by simp)), encFp_congr hs x (hks x (by simp)), ih (fun y hy => hks y (by simp [hy]))]
  refine this _ fun k hk => ?_
  cases hx : usedIx cs with
  | none => rw [hx] at hk; cases hk
  | some ix =>
   rw [hx] at hk
   unfold usedIx at hx
   split at hx
   ·exact (useIdx_ok ix (List.mem_of_getElem? hx)).1 k hk
   ·cases hx
 unfold encP
 rw [hB, ← validP_congr ha, hs.li 33 (by decide)]
end
end Go.Proofs.Ytpbgelhjbfckcaa
