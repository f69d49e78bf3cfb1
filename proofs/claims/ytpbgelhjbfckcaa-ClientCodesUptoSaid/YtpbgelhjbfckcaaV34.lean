/- Decode inverts Encode (plain). -/
import Derived.Test.YtpbgelhjbfckcaaV32
import Derived.Test.YtpbgelhjbfckcaaV33
namespace Go.Proofs.Ytpbgelhjbfckcaa
set_option maxRecDepth 100000
set_option linter.unusedVariables false
set_option linter.unusedSimpArgs false
open Go.ChangeShapes Go.WideShapes Go.ChangeAt Go.RowKit
def cNum (o : Nat) (p q : PM) : PM := { q with n := upd q.n o (p.n o) }
def cPart (ns ls : List Nat) (p q : PM) : PM := { q with n := updN q.n (ns.zip (ns.map p.n)), li := updN q.li (ls.zip (ls.map p.li)) }
/-- The field k of p, laid into q. -/
def copyF (k : Nat) (p q : PM) : PM :=
 match k with
 | 0 => cNum 1 p q
 | 1 => cNum 2 p q
 | 2 => cNum 3 p q
 | 3 => cNum 4 p q
 | 4 => cNum 6 p q
 | 5 => cNum 7 p q
 | 6 => cNum 8 p q
 | 7 => { q with body := p.body }
 | 8 => cNum 17 p q
 | 9 => cPart [9, 10] [11, 12] p q
 | 10 => { q with n := upd (updN q.n ([13, 14, 15].zip ([13, 14, 15].map p.n))) 16 (p.n 16) }
 | 11 => cPart [] [33] p q
 | 12 => cPart [18, 19, 20, 21, 22, 23, 24, 25] [26, 27, 28, 29, 30, 31, 32] p q
 | _ => withG q ⟨mOffs.map p.n, p.gr, p.dn, p.d, p.l⟩
/-- What the field k writes. -/
def encFp (p : PM) (k : Nat) : List UInt8 :=
 match k with
 | 0 => encI (p.n 1)
 | 1 => encI (p.n 2)
 | 2 => encI (p.n 3)
 | 3 => encI (p.n 4)
 | 4 => encI (p.n 6)
 | 5 => encI (p.n 7)
 | 6 => encI (p.n 8)
 | 7 => encT p.body
 | 8 => encI (p.n 17)
 | 9 => ([9, 10].map p.n).flatMap encI ++ encLs ([11, 12].map p.li)
 | 10 => ([13, 14, 15].map p.n).flatMap encI ++ encI (p.n 16)
 | 11 => ([].map p.n).flatMap encI ++ encLs ([33].map p.li)
 | 12 => ([18, 19, 20, 21, 22, 23, 24, 25].map p.n).flatMap encI ++ encLs ([26, 27, 28, 29, 30, 31, 32].map p.li)
 | _ => encT ⟨(encM (mOffs.map p.n) p.gr p.dn p.d p.l).toArray⟩
section
variable {w : World} {cs : List Value} {p q : PM}
theorem map_p (h : MsgV w cs p) (ns : List Nat) (hn : ∀ o ∈ ns, o ∈ iOffs) : ns.map (numAt cs) = ns.map p.n :=
 List.map_congr_left fun o ho => numAt_eq (h.N o (hn o ho)).1
theorem encNs_p (h : MsgV w cs p) (ns : List Nat) (hn : ∀ o ∈ ns, o ∈ iOffs) : encNs cs ns = (ns.map p.n).flatMap encI := by
 unfold encNs
 rw [← map_p h ns hn, List.flatMap_map]
theorem encF_p (h : MsgV w cs p) (k : Nat) (hk : k < 14) : encF cs p.li p.l k = encFp p k := by
 have : k = 0 ∨ k = 1 ∨ k = 2 ∨ k = 3 ∨ k = 4 ∨ k = 5 ∨ k = 6 ∨ k = 7 ∨ k = 8 ∨ k = 9 ∨ k = 10 ∨ k = 11 ∨ k = 12 ∨ k = 13 := by omega
 rcases this with rfl | rfl | rfl | rfl | rfl | rfl | rfl | rfl | rfl | rfl | rfl | rfl | rfl | rfl
 ·show encI (numAt cs 1) = _; rw [numAt_eq (h.N 1 (by decide)).1]; rfl
 ·show encI (numAt cs 2) = _; rw [numAt_eq (h.N 2 (by decide)).1]; rfl
 ·show encI (numAt cs 3) = _; rw [numAt_eq (h.N 3 (by decide)).1]; rfl
 ·show encI (numAt cs 4) = _; rw [numAt_eq (h.N 4 (by decide)).1]; rfl
 ·show encI (numAt cs 6) = _; rw [numAt_eq (h.N 6 (by decide)).1]; rfl
 ·show encI (numAt cs 7) = _; rw [numAt_eq (h.N 7 (by decide)).1]; rfl
 ·show encI (numAt cs 8) = _; rw [numAt_eq (h.N 8 (by decide)).1]; rfl
 ·show encT (strAt cs 5) = _; rw [strAt_eq h.body]; rfl
 ·show encI (numAt cs 17) = _; rw [numAt_eq (h.N 17 (by decide)).1]; rfl
 ·show encNs cs [9, 10] ++ encLs ([11, 12].map p.li) = _; rw [encNs_p h [9, 10] (by decide)]; rfl
 ·show encNs cs [13, 14, 15] ++ encI (numAt cs 16) = _; rw [encNs_p h [13, 14, 15] (by decide), numAt_eq (h.N 16 (by decide)).1]; rfl
 ·show encNs cs [] ++ encLs ([33].map p.li) = _; rw [encNs_p h [] (by decide)]; rfl
 ·show encNs cs [18, 19, 20, 21, 22, 23, 24, 25] ++ encLs ([26, 27, 28, 29, 30, 31, 32].map p.li) = _; rw [encNs_p h [18, 19, 20, 21, 22, 23, 24, 25] (by decide)]; rfl
 ·show encT ⟨(encM (mOffs.map (numAt cs)) (boolAt cs 42) (boolAt cs 46) (strAt cs 45) p.l).toArray⟩ = _; rw [map_p h mOffs (by decide), boolAt_eq h.gr, boolAt_eq h.dn, strAt_eq h.d]; rfl
theorem mapI (hI : ∀ o ∈ iOffs, I64 (p.n o)) {ns : List Nat} (hn : ∀ o ∈ ns, o ∈ iOffs) : ∀ x ∈ ns.map p.n, I64 x := fun x hx => by
 obtain ⟨o, ho, rfl⟩ := List.mem_map.1 hx
 exact hI o (hn o ho)
theorem mapL (hL : ∀ o ∈ lOffs, (∀ y ∈ p.li o, I64 y) ∧ (p.li o).length ≤ 2 ^ 60) {ls : List Nat} (hn : ∀ o ∈ ls, o ∈ lOffs) : ∀ x ∈ ls.map p.li, (∀ y ∈ x, I64 y) ∧ x.length ≤ 2 ^ 60 := fun x hx => by
 obtain ⟨o, ho, rfl⟩ := List.mem_map.1 hx
 exact hL o (hn o ho)
section
attribute [local irreducible] rList rGL rText rCnt rBool rEns rInt rLists rInts dMsg encM encI encT encLs
theorem rF_inv (hI : ∀ o ∈ iOffs, I64 (p.n o)) (hL : ∀ o ∈ lOffs, (∀ y ∈ p.li o, I64 y) ∧ (p.li o).length ≤ 2 ^ 60) (hb : p.body.size < 2 ^ 64) (hd : p.d.size < 2 ^ 60) (hE : ∀ x ∈ p.l, x.Ok) (hn : p.l.length ≤ 2 ^ 60)
 (hm : (⟨(encM (mOffs.map p.n) p.gr p.dn p.d p.l).toArray⟩ : ByteArray).size < 2 ^ 64) (k : Nat) (hk : k < 14) (q : PM) (t : List UInt8) : rF k q (encFp p k ++ t, 0) = (copyF k p q, (t, 0)) := by
 have : k = 0 ∨ k = 1 ∨ k = 2 ∨ k = 3 ∨ k = 4 ∨ k = 5 ∨ k = 6 ∨ k = 7 ∨ k = 8 ∨ k = 9 ∨ k = 10 ∨ k = 11 ∨ k = 12 ∨ k = 13 := by omega
 rcases this with rfl | rfl | rfl | rfl | rfl | rfl | rfl | rfl | rfl | rfl | rfl | rfl | rfl | rfl
 ·show rNumF 1 q (encI (p.n 1) ++ t, 0) = _; unfold rNumF; rw [inv_int _ (hI 1 (by decide))]; rfl
 ·show rNumF 2 q (encI (p.n 2) ++ t, 0) = _; unfold rNumF; rw [inv_int _ (hI 2 (by decide))]; rfl
 ·show rNumF 3 q (encI (p.n 3) ++ t, 0) = _; unfold rNumF; rw [inv_int _ (hI 3 (by decide))]; rfl
 ·show rNumF 4 q (encI (p.n 4) ++ t, 0) = _; unfold rNumF; rw [inv_int _ (hI 4 (by decide))]; rfl
 ·show rNumF 6 q (encI (p.n 6) ++ t, 0) = _; unfold rNumF; rw [inv_int _ (hI 6 (by decide))]; rfl
 ·show rNumF 7 q (encI (p.n 7) ++ t, 0) = _; unfold rNumF; rw [inv_int _ (hI 7 (by decide))]; rfl
 ·show rNumF 8 q (encI (p.n 8) ++ t, 0) = _; unfold rNumF; rw [inv_int _ (hI 8 (by decide))]; rfl
 ·show (({ q with body := ⟨(rText (encT p.body ++ t, 0)).2.toArray⟩ } : PM), (rText (encT p.body ++ t, 0)).1) = _; rw [inv_text _ hb]; simp only [str_same]; rfl
 ·show rNumF 17 q (encI (p.n 17) ++ t, 0) = _; unfold rNumF; rw [inv_int _ (hI 17 (by decide))]; rfl
 ·show rPart [9, 10] [11, 12] q (([9, 10].map p.n).flatMap encI ++ encLs ([11, 12].map p.li) ++ t, 0) = _; unfold rPart; simp only [List.length_cons, List.length_nil, Nat.reduceAdd, Nat.zero_add]; rw [List.append_assoc, inv_list 2 (List.map p.n [9, 10]) rfl (mapI hI (by decide)), inv_lists 2 (List.map p.li [11, 12]) rfl (mapL hL (by decide))]; rfl
 ·show rUnit q (([13, 14, 15].map p.n).flatMap encI ++ encI (p.n 16) ++ t, 0) = _; unfold rUnit; rw [List.append_assoc, inv_list 3 ([13, 14, 15].map p.n) rfl (mapI hI (by decide)), inv_int _ (hI 16 (by decide))]; rfl
 ·show rPart [] [33] q (([].map p.n).flatMap encI ++ encLs ([33].map p.li) ++ t, 0) = _; unfold rPart; simp only [List.length_cons, List.length_nil, Nat.reduceAdd, Nat.zero_add]; rw [List.append_assoc, inv_list 0 (List.map p.n []) rfl (mapI hI (by decide)), inv_lists 1 (List.map p.li [33]) rfl (mapL hL (by decide))]; rfl
 ·show rPart [18, 19, 20, 21, 22, 23, 24, 25] [26, 27, 28, 29, 30, 31, 32] q (([18, 19, 20, 21, 22, 23, 24, 25].map p.n).flatMap encI ++ encLs ([26, 27, 28, 29, 30, 31, 32].map p.li) ++ t, 0) = _; unfold rPart; simp only [List.length_cons, List.length_nil, Nat.reduceAdd, Nat.zero_add]; rw [List.append_assoc, inv_list 8 (List.map p.n [18, 19, 20, 21, 22, 23, 24, 25]) rfl (mapI hI (by decide)), inv_lists 7 (List.map p.li [26, 27, 28, 29, 30, 31, 32]) rfl (mapL hL (by decide))]; rfl
 ·show (withG q (dMsg (rText (encT ⟨(encM (mOffs.map p.n) p.gr p.dn p.d p.l).toArray⟩ ++ t, 0)).2), (rText (encT ⟨(encM (mOffs.map p.n) p.gr p.dn p.d p.l).toArray⟩ ++ t, 0)).1) = _; rw [inv_text _ hm]; show (withG q (dMsg (encM (mOffs.map p.n) p.gr p.dn p.d p.l)), _) = _; rw [dMsg_enc _ _ _ _ _ rfl (mapI hI (by decide)) hd hE hn]; rfl
end
theorem rFs_inv (hI : ∀ o ∈ iOffs, I64 (p.n o)) (hL : ∀ o ∈ lOffs, (∀ y ∈ p.li o, I64 y) ∧ (p.li o).length ≤ 2 ^ 60) (hb : p.body.size < 2 ^ 64) (hd : p.d.size < 2 ^ 60) (hE : ∀ x ∈ p.l, x.Ok) (hn : p.l.length ≤ 2 ^ 60)
 (hm : (⟨(encM (mOffs.map p.n) p.gr p.dn p.d p.l).toArray⟩ : ByteArray).size < 2 ^ 64) (ix : List Nat) : (∀ k ∈ ix, k < 14) → ∀ (q : PM) (t : List UInt8), rFs ix (q, (ix.flatMap (encFp p) ++ t, 0)) = (ix.foldl (fun q k => copyF k p q) q, (t, 0)) := by
 induction ix with
 | nil => intro _ q t; rfl
 | cons k r ih =>
  intro hx q t
  show rFs r (rF k q ((k :: r).flatMap (encFp p) ++ t, 0)) = _
  rw [List.flatMap_cons, List.append_assoc, rF_inv hI hL hb hd hE hn hm k (hx k (by simp)) q]
  exact ih (fun y hy => hx y (by simp [hy])) _ t
theorem encFp_congr (hs : SameP p q) (k : Nat) (hk : k < 14) : encFp p k = encFp q k := by
 have : k = 0 ∨ k = 1 ∨ k = 2 ∨ k = 3 ∨ k = 4 ∨ k = 5 ∨ k = 6 ∨ k = 7 ∨ k = 8 ∨ k = 9 ∨ k = 10 ∨ k = 11 ∨ k = 12 ∨ k = 13 := by omega
 rcases this with rfl | rfl | rfl | rfl | rfl | rfl | rfl | rfl | rfl | rfl | rfl | rfl | rfl | rfl
 ·show encI (p.n 1) = encI (q.n 1); rw [hs.n 1 (by decide)]
 ·show encI (p.n 2) = encI (q.n 2); rw [hs.n 2 (by decide)]
 ·show encI (p.n 3) = encI (q.n 3); rw [hs.n 3 (by decide)]
 ·show encI (p.n 4) = encI (q.n 4); rw [hs.n 4 (by decide)]
 ·show encI (p.n 6) = encI (q.n 6); rw [hs.n 6 (by decide)]
 ·show encI (p.n 7) = encI (q.n 7); rw [hs.n 7 (by decide)]
 ·show encI (p.n 8) = encI (q.n 8); rw [hs.n 8 (by decide)]
 ·show encT p.body = encT q.body; rw [hs.body]
 ·show encI (p.n 17) = encI (q.n 17); rw [hs.n 17 (by decide)]
 ·show (([p.n 9, p.n 10] : List Int).flatMap encI ++ encLs [p.li 11, p.li 12]) = (([q.n 9, q.n 10] : List Int).flatMap encI ++ encLs [q.li 11, q.li 12]); rw [hs.n 9 (by decide), hs.n 10 (by decide), hs.li 11 (by decide), hs.li 12 (by decide)]
 ·show ([p.n 13, p.n 14, p.n 15].flatMap encI ++ encI (p.n 16)) = ([q.n 13, q.n 14, q.n 15].flatMap encI ++ encI (q.n 16)); rw [hs.n 13 (by decide), hs.n 14 (by decide), hs.n 15 (by decide), hs.n 16 (by decide)]
 ·show (([] : List Int).flatMap encI ++ encLs [p.li 33]) = (([] : List Int).flatMap encI ++ encLs [q.li 33]); rw [hs.li 33 (by decide)]
 ·show (([p.n 18, p.n 19, p.n 20, p.n 21, p.n 22, p.n 23, p.n 24, p.n 25] : List Int).flatMap encI ++ encLs [p.li 26, p.li 27, p.li 28, p.li 29, p.li 30, p.li 31, p.li 32]) = (([q.n 18, q.n 19, q.n 20, q.n 21, q.n 22, q.n 23, q.n 24, q.n 25] : List Int).flatMap encI ++ encLs [q.li 26, q.li 27, q.li 28, q.li 29, q.li 30, q.li 31, q.li 32]); rw [hs.n 18 (by decide), hs.n 19 (by decide), hs.n 20 (by decide), hs.n 21 (by decide), hs.n 22 (by decide), hs.n 23 (by decide), hs.n 24 (by decide), hs.n 25 (by decide), hs.li 26 (by decide), hs.li 27 (by decide), hs.li 28 (by decide), hs.li 29 (by decide), hs.li 30 (by decide), hs.li 31 (by decide), hs.li 32 (by decide)]
 ·show encT ⟨(encM [p.n 34, p.n 35, p.n 36, p.n 37, p.n 38, p.n 39, p.n 40, p.n 41, p.n 44] p.gr p.dn p.d p.l).toArray⟩ = encT ⟨(encM [q.n 34, q.n 35, q.n 36, q.n 37, q.n 38, q.n 39, q.n 40, q.n 41, q.n 44] q.gr q.dn q.d q.l).toArray⟩; rw [hs.n 34 (by decide), hs.n 35 (by decide), hs.n 36 (by decide), hs.n 37 (by decide), hs.n 38 (by decide), hs.n 39 (by decide), hs.n 40 (by decide), hs.n 41 (by decide), hs.n 44 (by decide), hs.gr, hs.dn, hs.d, hs.l]
/-- Two rows of cells say the same. -/
structure Agree (cs ds : List Value) : Prop where
 n : ∀ o ∈ iOffs, numAt cs o = numAt ds o
 len : ∀ o ∈ sOffs, lenAt cs o = lenAt ds o
 s5 : strAt cs 5 = strAt ds 5
 s45 : strAt cs 45 = strAt ds 45
 b42 : boolAt cs 42 = boolAt ds 42
 b46 : boolAt cs 46 = boolAt ds 46
theorem s_off : ∀ o ∈ sOffs, o ≠ 43 → o ∈ lOffs := by decide
theorem Agree.of {w' : World} {ds : List Value} (h : MsgV w cs p) (h' : MsgV w' ds q) (hs : SameP p q) : Agree cs ds := by
 refine ⟨fun o ho => ?_, fun o ho => ?_, ?_, ?_, ?_, ?_⟩
 ·rw [numAt_eq (h.N o ho).1, numAt_eq (h'.N o ho).1, hs.n o ho]
 ·by_cases e : o = 43
  ·subst e; rw [len43 h, len43 h', hs.l]
  ·have ho' : o ∈ lOffs := s_off o ho e
   rw [lenL h o ho', lenL h' o ho', hs.li o ho']
 ·rw [strAt_eq h.body, strAt_eq h'.body, hs.body]
 ·rw [strAt_eq h.d, strAt_eq h'.d, hs.d]
 ·rw [boolAt_eq h.gr, boolAt_eq h'.gr, hs.gr]
 ·rw [boolAt_eq h.dn, boolAt_eq h'.dn, hs.dn]
theorem zF_congr {ds : List Value} (a : Agree cs ds) (k : Nat) (hk : k < 14) : zF cs k = zF ds k := by
 have : k = 0 ∨ k = 1 ∨ k = 2 ∨ k = 3 ∨ k = 4 ∨ k = 5 ∨ k = 6 ∨ k = 7 ∨ k = 8 ∨ k = 9 ∨ k = 10 ∨ k = 11 ∨ k = 12 ∨ k = 13 := by omega
 rcases this with rfl | rfl | rfl | rfl | rfl | rfl | rfl | rfl | rfl | rfl | rfl | rfl | rfl | rfl
 ·show decide (numAt cs 1 = 0) = decide (numAt ds 1 = 0); rw [a.n 1 (by decide)]
 ·show decide (numAt cs 2 = 0) = decide (numAt ds 2 = 0); rw [a.n 2 (by decide)]
 ·show decide (numAt cs 3 = 0) = decide (numAt ds 3 = 0); rw [a.n 3 (by decide)]
 ·show decide (numAt cs 4 = 0) = decide (numAt ds 4 = 0); rw [a.n 4 (by decide)]
 ·show decide (numAt cs 6 = 0) = decide (numAt ds 6 = 0); rw [a.n 6 (by decide)]
 ·show decide (numAt cs 7 = 0) = decide (numAt ds 7 = 0); rw [a.n 7 (by decide)]
 ·show decide (numAt cs 8 = 0) = decide (numAt ds 8 = 0); rw [a.n 8 (by decide)]
 ·show decide ((strAt cs 5).size = 0) = decide ((strAt ds 5).size = 0); rw [a.s5]
 ·show decide (numAt cs 17 = 0) = decide (numAt ds 17 = 0); rw [a.n 17 (by decide)]
 ·show zeroP cs [9, 10] [11, 12] = zeroP ds [9, 10] [11, 12]; simp only [zeroP, List.all_cons, List.all_nil]; rw [a.n 9 (by decide), a.n 10 (by decide), a.len 11 (by decide), a.len 12 (by decide)]
 ·show (zeroP cs [13, 14, 15] [] && decide (numAt cs 16 = 0)) = (zeroP ds [13, 14, 15] [] && decide (numAt ds 16 = 0)); simp only [zeroP, List.all_cons, List.all_nil]; rw [a.n 13 (by decide), a.n 14 (by decide), a.n 15 (by decide), a.n 16 (by decide)]
 ·show zeroP cs [] [33] = zeroP ds [] [33]; simp only [zeroP, List.all_cons, List.all_nil]; rw [a.len 33 (by decide)]
 ·show zeroP cs [18, 19, 20, 21, 22, 23, 24, 25] [26, 27, 28, 29, 30, 31, 32] = zeroP ds [18, 19, 20, 21, 22, 23, 24, 25] [26, 27, 28, 29, 30, 31, 32]; simp only [zeroP, List.all_cons, List.all_nil]; rw [a.n 18 (by decide), a.n 19 (by decide), a.n 20 (by decide), a.n 21 (by decide), a.n 22 (by decide), a.n 23 (by decide), a.n 24 (by decide), a.n 25 (by decide), a.len 26 (by decide), a.len 27 (by decide), a.len 28 (by decide), a.len 29 (by decide), a.len 30 (by decide), a.len 31 (by decide), a.len 32 (by decide)]
 ·show gmZ [numAt cs 34, numAt cs 35, numAt cs 36, numAt cs 37, numAt cs 38, numAt cs 39, numAt cs 40, numAt cs 41, numAt cs 44, (lenAt cs 43 : Int), ((strAt cs 45).size : Int)] (boolAt cs 42) (boolAt cs 46) = gmZ [numAt ds 34, numAt ds 35, numAt ds 36, numAt ds 37, numAt ds 38, numAt ds 39, numAt ds 40, numAt ds 41, numAt ds 44, (lenAt ds 43 : Int), ((strAt ds 45).size : Int)] (boolAt ds 42) (boolAt ds 46); rw [a.n 34 (by decide), a.n 35 (by decide), a.n 36 (by decide), a.n 37 (by decide), a.n 38 (by decide), a.n 39 (by decide), a.n 40 (by decide), a.n 41 (by decide), a.n 44 (by decide), a.len 43 (by decide), a.s45, a.b42, a.b46]
theorem vF_congr {ds : List Value} (a : Agree cs ds) (ml : List Int) (k : Nat) (hk : k < 14) : vF cs ml k = vF ds ml k := by
 have : k = 0 ∨ k = 1 ∨ k = 2 ∨ k = 3 ∨ k = 4 ∨ k = 5 ∨ k = 6 ∨ k = 7 ∨ k = 8 ∨ k = 9 ∨ k = 10 ∨ k = 11 ∨ k = 12 ∨ k = 13 := by omega
 rcases this with rfl | rfl | rfl | rfl | rfl | rfl | rfl | rfl | rfl | rfl | rfl | rfl | rfl | rfl
 ·show inB (numAt cs 1) _ _ = inB (numAt ds 1) _ _; rw [a.n 1 (by decide)]
 ·show inB (numAt cs 2) _ _ = inB (numAt ds 2) _ _; rw [a.n 2 (by decide)]
 ·show inB (numAt cs 3) _ _ = inB (numAt ds 3) _ _; rw [a.n 3 (by decide)]
 ·show inB (numAt cs 4) _ _ = inB (numAt ds 4) _ _; rw [a.n 4 (by decide)]
 ·show inB (numAt cs 6) _ _ = inB (numAt ds 6) _ _; rw [a.n 6 (by decide)]
 ·show inB (numAt cs 7) _ _ = inB (numAt ds 7) _ _; rw [a.n 7 (by decide)]
 ·show inB (numAt cs 8) _ _ = inB (numAt ds 8) _ _; rw [a.n 8 (by decide)]
 ·show decide ((strAt cs 5).size ≤ 4096) = decide ((strAt ds 5).size ≤ 4096); rw [a.s5]
 ·rfl
 ·rfl
 ·show uOk (numAt cs 13) (numAt cs 14) (numAt cs 15) = uOk (numAt ds 13) (numAt ds 14) (numAt ds 15); rw [a.n 13 (by decide), a.n 14 (by decide), a.n 15 (by decide)]
 ·rfl
 ·rfl
 ·rfl
theorem validP_congr {ds : List Value} (a : Agree cs ds) (ml : List Int) : validP cs ml = validP ds ml := by
 have e : usedIx cs = usedIx ds := by unfold usedIx; rw [a.n 0 (by decide)]
 unfold validP
 rw [← e]
 cases hu : usedIx cs with
 | none => rfl
 | some ix =>
  have hlt : ∀ k ∈ ix, k < 14 := fun k hk => by
   unfold usedIx at hu
   split at hu
   ·exact (useIdx_ok ix (List.mem_of_getElem? hu)).1 k hk
   ·cases hu
  have e1 : ix.all (vF cs ml) = ix.all (vF ds ml) := by
   rw [Bool.eq_iff_iff, List.all_eq_true, List.all_eq_true]
   exact ⟨fun h k hk => by rw [← vF_congr a ml k (hlt k hk)]; exact h k hk, fun h k hk => by rw [vF_congr a ml k (hlt k hk)]; exact h k hk⟩
  have e2 : ((List.range 14).all fun k => ix.contains k || zF cs k) = ((List.range 14).all fun k => ix.contains k || zF ds k) := by
   rw [Bool.eq_iff_iff, List.all_eq_true, List.all_eq_true]
   exact ⟨fun h k hk => by rw [← zF_congr a k (List.mem_range.1 hk)]; exact h k hk, fun h k hk => by rw [zF_congr a k (List.mem_range.1 hk)]; exact h k hk⟩
  simp only [e1, e2]
theorem same_copy0 {p : PM} (hs : SameP (uPM0 p) p) (hk : p.n 0 = 0) : SameP p (([13] : List Nat).foldl (fun q k => copyF k p q) (pm0 0)) := by
 refine ⟨fun o ho => ?_, fun o ho => ?_, hs.body.symm, hs.gr.symm, hs.dn.symm, hs.d.symm, hs.l.symm⟩
 ·simp only [iOffs, List.mem_cons, List.not_mem_nil, or_false] at ho
  rcases ho with rfl | rfl | rfl | rfl | rfl | rfl | rfl | rfl | rfl | rfl | rfl | rfl | rfl | rfl | rfl | rfl | rfl | rfl | rfl | rfl | rfl | rfl | rfl | rfl | rfl | rfl | rfl | rfl | rfl | rfl | rfl | rfl
  ·exact hk
  ·exact (hs.n 1 (by decide)).symm
  ·exact (hs.n 2 (by decide)).symm
  ·exact (hs.n 3 (by decide)).symm
  ·exact (hs.n 4 (by decide)).symm
  ·exact (hs.n 6 (by decide)).symm
  ·exact (hs.n 7 (by decide)).symm
  ·exact (hs.n 8 (by decide)).symm
  ·exact (hs.n 9 (by decide)).symm
  ·exact (hs.n 10 (by decide)).symm
  ·exact (hs.n 13 (by decide)).symm
  ·exact (hs.n 14 (by decide)).symm
  ·exact (hs.n 15 (by decide)).symm
  ·exact (hs.n 16 (by decide)).symm
  ·exact (hs.n 17 (by decide)).symm
  ·exact (hs.n 18 (by decide)).symm
  ·exact (hs.n 19 (by decide)).symm
  ·exact (hs.n 20 (by decide)).symm
  ·exact (hs.n 21 (by decide)).symm
  ·exact (hs.n 22 (by decide)).symm
  ·exact (hs.n 23 (by decide)).symm
  ·exact (hs.n 24 (by decide)).symm
  ·exact (hs.n 25 (by decide)).symm
  ·exact (hs.n 34 (by decide)).symm
  ·exact (hs.n 35 (by decide)).symm
  ·exact (hs.n 36 (by decide)).symm
  ·exact (hs.n 37 (by decide)).symm
  ·exact (hs.n 38 (by decide)).symm
  ·exact (hs.n 39 (by decide)).symm
  ·exact (hs.n 40 (by decide)).symm
  ·exact (hs.n 41 (by decide)).symm
  ·exact (hs.n 44 (by decide)).symm
 ·simp only [lOffs, List.mem_cons, List.not_mem_nil, or_false] at ho
  rcases ho with rfl | rfl | rfl | rfl | rfl | rfl | rfl | rfl | rfl | rfl
  ·exact (hs.li 11 (by decide)).symm
  ·exact (hs.li 12 (by decide)).symm
  ·exact (hs.li 26 (by decide)).symm
  ·exact (hs.li 27 (by decide)).symm
  ·exact (hs.li 28 (by decide)).symm
  ·exact (hs.li 29 (by decide)).symm
  ·exact (hs.li 30 (by decide)).symm
  ·exact (hs.li 31 (by decide)).symm
  ·exact (hs.li 32 (by decide)).symm
  ·exact (hs.li 33 (by decide)).symm
theorem same_copy1 {p : PM} (hs : SameP (uPM1 p) p) (hk : p.n 0 = 1) : SameP p (([0, 1, 2, 7] : List Nat).foldl (fun q k => copyF k p q) (pm0 1)) := by
 refine ⟨fun o ho => ?_, fun o ho => ?_, hs.body.symm, hs.gr.symm, hs.dn.symm, hs.d.symm, hs.l.symm⟩
 ·simp only [iOffs, List.mem_cons, List.not_mem_nil, or_false] at ho
  rcases ho with rfl | rfl | rfl | rfl | rfl | rfl | rfl | rfl | rfl | rfl | rfl | rfl | rfl | rfl | rfl | rfl | rfl | rfl | rfl | rfl | rfl | rfl | rfl | rfl | rfl | rfl | rfl | rfl | rfl | rfl | rfl | rfl
  ·exact hk
  ·exact (hs.n 1 (by decide)).symm
  ·exact (hs.n 2 (by decide)).symm
  ·exact (hs.n 3 (by decide)).symm
  ·exact (hs.n 4 (by decide)).symm
  ·exact (hs.n 6 (by decide)).symm
  ·exact (hs.n 7 (by decide)).symm
  ·exact (hs.n 8 (by decide)).symm
  ·exact (hs.n 9 (by decide)).symm
  ·exact (hs.n 10 (by decide)).symm
  ·exact (hs.n 13 (by decide)).symm
  ·exact (hs.n 14 (by decide)).symm
  ·exact (hs.n 15 (by decide)).symm
  ·exact (hs.n 16 (by decide)).symm
  ·exact (hs.n 17 (by decide)).symm
  ·exact (hs.n 18 (by decide)).symm
  ·exact (hs.n 19 (by decide)).symm
  ·exact (hs.n 20 (by decide)).symm
  ·exact (hs.n 21 (by decide)).symm
  ·exact (hs.n 22 (by decide)).symm
  ·exact (hs.n 23 (by decide)).symm
  ·exact (hs.n 24 (by decide)).symm
  ·exact (hs.n 25 (by decide)).symm
  ·exact (hs.n 34 (by decide)).symm
  ·exact (hs.n 35 (by decide)).symm
  ·exact (hs.n 36 (by decide)).symm
  ·exact (hs.n 37 (by decide)).symm
  ·exact (hs.n 38 (by decide)).symm
  ·exact (hs.n 39 (by decide)).symm
  ·exact (hs.n 40 (by decide)).symm
  ·exact (hs.n 41 (by decide)).symm
  ·exact (hs.n 44 (by decide)).symm
 ·simp only [lOffs, List.mem_cons, List.not_mem_nil, or_false] at ho
  rcases ho with rfl | rfl | rfl | rfl | rfl | rfl | rfl | rfl | rfl | rfl
  ·exact (hs.li 11 (by decide)).symm
  ·exact (hs.li 12 (by decide)).symm
  ·exact (hs.li 26 (by decide)).symm
  ·exact (hs.li 27 (by decide)).symm
  ·exact (hs.li 28 (by decide)).symm
  ·exact (hs.li 29 (by decide)).symm
  ·exact (hs.li 30 (by decide)).symm
  ·exact (hs.li 31 (by decide)).symm
  ·exact (hs.li 32 (by decide)).symm
  ·exact (hs.li 33 (by decide)).symm
theorem same_copy2 {p : PM} (hs : SameP (uPM2 p) p) (hk : p.n 0 = 2) : SameP p (([0, 1, 2, 3, 7, 4] : List Nat).foldl (fun q k => copyF k p q) (pm0 2)) := by
 refine ⟨fun o ho => ?_, fun o ho => ?_, hs.body.symm, hs.gr.symm, hs.dn.symm, hs.d.symm, hs.l.symm⟩
 ·simp only [iOffs, List.mem_cons, List.not_mem_nil, or_false] at ho
  rcases ho with rfl | rfl | rfl | rfl | rfl | rfl | rfl | rfl | rfl | rfl | rfl | rfl | rfl | rfl | rfl | rfl | rfl | rfl | rfl | rfl | rfl | rfl | rfl | rfl | rfl | rfl | rfl | rfl | rfl | rfl | rfl | rfl
  ·exact hk
  ·exact (hs.n 1 (by decide)).symm
  ·exact (hs.n 2 (by decide)).symm
  ·exact (hs.n 3 (by decide)).symm
  ·exact (hs.n 4 (by decide)).symm
  ·exact (hs.n 6 (by decide)).symm
  ·exact (hs.n 7 (by decide)).symm
  ·exact (hs.n 8 (by decide)).symm
  ·exact (hs.n 9 (by decide)).symm
  ·exact (hs.n 10 (by decide)).symm
  ·exact (hs.n 13 (by decide)).symm
  ·exact (hs.n 14 (by decide)).symm
  ·exact (hs.n 15 (by decide)).symm
  ·exact (hs.n 16 (by decide)).symm
  ·exact (hs.n 17 (by decide)).symm
  ·exact (hs.n 18 (by decide)).symm
  ·exact (hs.n 19 (by decide)).symm
  ·exact (hs.n 20 (by decide)).symm
  ·exact (hs.n 21 (by decide)).symm
  ·exact (hs.n 22 (by decide)).symm
  ·exact (hs.n 23 (by decide)).symm
  ·exact (hs.n 24 (by decide)).symm
  ·exact (hs.n 25 (by decide)).symm
  ·exact (hs.n 34 (by decide)).symm
  ·exact (hs.n 35 (by decide)).symm
  ·exact (hs.n 36 (by decide)).symm
  ·exact (hs.n 37 (by decide)).symm
  ·exact (hs.n 38 (by decide)).symm
  ·exact (hs.n 39 (by decide)).symm
  ·exact (hs.n 40 (by decide)).symm
  ·exact (hs.n 41 (by decide)).symm
  ·exact (hs.n 44 (by decide)).symm
 ·simp only [lOffs, List.mem_cons, List.not_mem_nil, or_false] at ho
  rcases ho with rfl | rfl | rfl | rfl | rfl | rfl | rfl | rfl | rfl | rfl
  ·exact (hs.li 11 (by decide)).symm
  ·exact (hs.li 12 (by decide)).symm
  ·exact (hs.li 26 (by decide)).symm
  ·exact (hs.li 27 (by decide)).symm
  ·exact (hs.li 28 (by decide)).symm
  ·exact (hs.li 29 (by decide)).symm
  ·exact (hs.li 30 (by decide)).symm
  ·exact (hs.li 31 (by decide)).symm
  ·exact (hs.li 32 (by decide)).symm
  ·exact (hs.li 33 (by decide)).symm
theorem same_copy3 {p : PM} (hs : SameP (uPM3 p) p) (hk : p.n 0 = 3) : SameP p (([0, 5, 6, 9] : List Nat).foldl (fun q k => copyF k p q) (pm0 3)) := by
 refine ⟨fun o ho => ?_, fun o ho => ?_, hs.body.symm, hs.gr.symm, hs.dn.symm, hs.d.symm, hs.l.symm⟩
 ·simp only [iOffs, List.mem_cons, List.not_mem_nil, or_false] at ho
  rcases ho with rfl | rfl | rfl | rfl | rfl | rfl | rfl | rfl | rfl | rfl | rfl | rfl | rfl | rfl | rfl | rfl | rfl | rfl | rfl | rfl | rfl | rfl | rfl | rfl | rfl | rfl | rfl | rfl | rfl | rfl | rfl | rfl
  ·exact hk
  ·exact (hs.n 1 (by decide)).symm
  ·exact (hs.n 2 (by decide)).symm
  ·exact (hs.n 3 (by decide)).symm
  ·exact (hs.n 4 (by decide)).symm
  ·exact (hs.n 6 (by decide)).symm
  ·exact (hs.n 7 (by decide)).symm
  ·exact (hs.n 8 (by decide)).symm
  ·exact (hs.n 9 (by decide)).symm
  ·exact (hs.n 10 (by decide)).symm
  ·exact (hs.n 13 (by decide)).symm
  ·exact (hs.n 14 (by decide)).symm
  ·exact (hs.n 15 (by decide)).symm
  ·exact (hs.n 16 (by decide)).symm
  ·exact (hs.n 17 (by decide)).symm
  ·exact (hs.n 18 (by decide)).symm
  ·exact (hs.n 19 (by decide)).symm
  ·exact (hs.n 20 (by decide)).symm
  ·exact (hs.n 21 (by decide)).symm
  ·exact (hs.n 22 (by decide)).symm
  ·exact (hs.n 23 (by decide)).symm
  ·exact (hs.n 24 (by decide)).symm
  ·exact (hs.n 25 (by decide)).symm
  ·exact (hs.n 34 (by decide)).symm
  ·exact (hs.n 35 (by decide)).symm
  ·exact (hs.n 36 (by decide)).symm
  ·exact (hs.n 37 (by decide)).symm
  ·exact (hs.n 38 (by decide)).symm
  ·exact (hs.n 39 (by decide)).symm
  ·exact (hs.n 40 (by decide)).symm
  ·exact (hs.n 41 (by decide)).symm
  ·exact (hs.n 44 (by decide)).symm
 ·simp only [lOffs, List.mem_cons, List.not_mem_nil, or_false] at ho
  rcases ho with rfl | rfl | rfl | rfl | rfl | rfl | rfl | rfl | rfl | rfl
  ·exact (hs.li 11 (by decide)).symm
  ·exact (hs.li 12 (by decide)).symm
  ·exact (hs.li 26 (by decide)).symm
  ·exact (hs.li 27 (by decide)).symm
  ·exact (hs.li 28 (by decide)).symm
  ·exact (hs.li 29 (by decide)).symm
  ·exact (hs.li 30 (by decide)).symm
  ·exact (hs.li 31 (by decide)).symm
  ·exact (hs.li 32 (by decide)).symm
  ·exact (hs.li 33 (by decide)).symm
theorem same_copy4 {p : PM} (hs : SameP (uPM4 p) p) (hk : p.n 0 = 4) : SameP p (([0, 5, 6, 3, 4] : List Nat).foldl (fun q k => copyF k p q) (pm0 4)) := by
 refine ⟨fun o ho => ?_, fun o ho => ?_, hs.body.symm, hs.gr.symm, hs.dn.symm, hs.d.symm, hs.l.symm⟩
 ·simp only [iOffs, List.mem_cons, List.not_mem_nil, or_false] at ho
  rcases ho with rfl | rfl | rfl | rfl | rfl | rfl | rfl | rfl | rfl | rfl | rfl | rfl | rfl | rfl | rfl | rfl | rfl | rfl | rfl | rfl | rfl | rfl | rfl | rfl | rfl | rfl | rfl | rfl | rfl | rfl | rfl | rfl
  ·exact hk
  ·exact (hs.n 1 (by decide)).symm
  ·exact (hs.n 2 (by decide)).symm
  ·exact (hs.n 3 (by decide)).symm
  ·exact (hs.n 4 (by decide)).symm
  ·exact (hs.n 6 (by decide)).symm
  ·exact (hs.n 7 (by decide)).symm
  ·exact (hs.n 8 (by decide)).symm
  ·exact (hs.n 9 (by decide)).symm
  ·exact (hs.n 10 (by decide)).symm
  ·exact (hs.n 13 (by decide)).symm
  ·exact (hs.n 14 (by decide)).symm
  ·exact (hs.n 15 (by decide)).symm
  ·exact (hs.n 16 (by decide)).symm
  ·exact (hs.n 17 (by decide)).symm
  ·exact (hs.n 18 (by decide)).symm
  ·exact (hs.n 19 (by decide)).symm
  ·exact (hs.n 20 (by decide)).symm
  ·exact (hs.n 21 (by decide)).symm
  ·exact (hs.n 22 (by decide)).symm
  ·exact (hs.n 23 (by decide)).symm
  ·exact (hs.n 24 (by decide)).symm
  ·exact (hs.n 25 (by decide)).symm
  ·exact (hs.n 34 (by decide)).symm
  ·exact (hs.n 35 (by decide)).symm
  ·exact (hs.n 36 (by decide)).symm
  ·exact (hs.n 37 (by decide)).symm
  ·exact (hs.n 38 (by decide)).symm
  ·exact (hs.n 39 (by decide)).symm
  ·exact (hs.n 40 (by decide)).symm
  ·exact (hs.n 41 (by decide)).symm
  ·exact (hs.n 44 (by decide)).symm
 ·simp only [lOffs, List.mem_cons, List.not_mem_nil, or_false] at ho
  rcases ho with rfl | rfl | rfl | rfl | rfl | rfl | rfl | rfl | rfl | rfl
  ·exact (hs.li 11 (by decide)).symm
  ·exact (hs.li 12 (by decide)).symm
  ·exact (hs.li 26 (by decide)).symm
  ·exact (hs.li 27 (by decide)).symm
  ·exact (hs.li 28 (by decide)).symm
  ·exact (hs.li 29 (by decide)).symm
  ·exact (hs.li 30 (by decide)).symm
  ·exact (hs.li 31 (by decide)).symm
  ·exact (hs.li 32 (by decide)).symm
  ·exact (hs.li 33 (by decide)).symm
theorem same_copy5 {p : PM} (hs : SameP (uPM5 p) p) (hk : p.n 0 = 5) : SameP p (([5, 6, 10] : List Nat).foldl (fun q k => copyF k p q) (pm0 5)) := by
 refine ⟨fun o ho => ?_, fun o ho => ?_, hs.body.symm, hs.gr.symm, hs.dn.symm, hs.d.symm, hs.l.symm⟩
 ·simp only [iOffs, List.mem_cons, List.not_mem_nil, or_false] at ho
  rcases ho with rfl | rfl | rfl | rfl | rfl | rfl | rfl | rfl | rfl | rfl | rfl | rfl | rfl | rfl | rfl | rfl | rfl | rfl | rfl | rfl | rfl | rfl | rfl | rfl | rfl | rfl | rfl | rfl | rfl | rfl | rfl | rfl
  ·exact hk
  ·exact (hs.n 1 (by decide)).symm
  ·exact (hs.n 2 (by decide)).symm
  ·exact (hs.n 3 (by decide)).symm
  ·exact (hs.n 4 (by decide)).symm
  ·exact (hs.n 6 (by decide)).symm
  ·exact (hs.n 7 (by decide)).symm
  ·exact (hs.n 8 (by decide)).symm
  ·exact (hs.n 9 (by decide)).symm
  ·exact (hs.n 10 (by decide)).symm
  ·exact (hs.n 13 (by decide)).symm
  ·exact (hs.n 14 (by decide)).symm
  ·exact (hs.n 15 (by decide)).symm
  ·exact (hs.n 16 (by decide)).symm
  ·exact (hs.n 17 (by decide)).symm
  ·exact (hs.n 18 (by decide)).symm
  ·exact (hs.n 19 (by decide)).symm
  ·exact (hs.n 20 (by decide)).symm
  ·exact (hs.n 21 (by decide)).symm
  ·exact (hs.n 22 (by decide)).symm
  ·exact (hs.n 23 (by decide)).symm
  ·exact (hs.n 24 (by decide)).symm
  ·exact (hs.n 25 (by decide)).symm
  ·exact (hs.n 34 (by decide)).symm
  ·exact (hs.n 35 (by decide)).symm
  ·exact (hs.n 36 (by decide)).symm
  ·exact (hs.n 37 (by decide)).symm
  ·exact (hs.n 38 (by decide)).symm
  ·exact (hs.n 39 (by decide)).symm
  ·exact (hs.n 40 (by decide)).symm
  ·exact (hs.n 41 (by decide)).symm
  ·exact (hs.n 44 (by decide)).symm
 ·simp only [lOffs, List.mem_cons, List.not_mem_nil, or_false] at ho
  rcases ho with rfl | rfl | rfl | rfl | rfl | rfl | rfl | rfl | rfl | rfl
  ·exact (hs.li 11 (by decide)).symm
  ·exact (hs.li 12 (by decide)).symm
  ·exact (hs.li 26 (by decide)).symm
  ·exact (hs.li 27 (by decide)).symm
  ·exact (hs.li 28 (by decide)).symm
  ·exact (hs.li 29 (by decide)).symm
  ·exact (hs.li 30 (by decide)).symm
  ·exact (hs.li 31 (by decide)).symm
  ·exact (hs.li 32 (by decide)).symm
  ·exact (hs.li 33 (by decide)).symm
theorem same_copy6 {p : PM} (hs : SameP (uPM6 p) p) (hk : p.n 0 = 6) : SameP p (([5, 6, 3, 8] : List Nat).foldl (fun q k => copyF k p q) (pm0 6)) := by
 refine ⟨fun o ho => ?_, fun o ho => ?_, hs.body.symm, hs.gr.symm, hs.dn.symm, hs.d.symm, hs.l.symm⟩
 ·simp only [iOffs, List.mem_cons, List.not_mem_nil, or_false] at ho
  rcases ho with rfl | rfl | rfl | rfl | rfl | rfl | rfl | rfl | rfl | rfl | rfl | rfl | rfl | rfl | rfl | rfl | rfl | rfl | rfl | rfl | rfl | rfl | rfl | rfl | rfl | rfl | rfl | rfl | rfl | rfl | rfl | rfl
  ·exact hk
  ·exact (hs.n 1 (by decide)).symm
  ·exact (hs.n 2 (by decide)).symm
  ·exact (hs.n 3 (by decide)).symm
  ·exact (hs.n 4 (by decide)).symm
  ·exact (hs.n 6 (by decide)).symm
  ·exact (hs.n 7 (by decide)).symm
  ·exact (hs.n 8 (by decide)).symm
  ·exact (hs.n 9 (by decide)).symm
  ·exact (hs.n 10 (by decide)).symm
  ·exact (hs.n 13 (by decide)).symm
  ·exact (hs.n 14 (by decide)).symm
  ·exact (hs.n 15 (by decide)).symm
  ·exact (hs.n 16 (by decide)).symm
  ·exact (hs.n 17 (by decide)).symm
  ·exact (hs.n 18 (by decide)).symm
  ·exact (hs.n 19 (by decide)).symm
  ·exact (hs.n 20 (by decide)).symm
  ·exact (hs.n 21 (by decide)).symm
  ·exact (hs.n 22 (by decide)).symm
  ·exact (hs.n 23 (by decide)).symm
  ·exact (hs.n 24 (by decide)).symm
  ·exact (hs.n 25 (by decide)).symm
  ·exact (hs.n 34 (by decide)).symm
  ·exact (hs.n 35 (by decide)).symm
  ·exact (hs.n 36 (by decide)).symm
  ·exact (hs.n 37 (by decide)).symm
  ·exact (hs.n 38 (by decide)).symm
  ·exact (hs.n 39 (by decide)).symm
  ·exact (hs.n 40 (by decide)).symm
  ·exact (hs.n 41 (by decide)).symm
  ·exact (hs.n 44 (by decide)).symm
 ·simp only [lOffs, List.mem_cons, List.not_mem_nil, or_false] at ho
  rcases ho with rfl | rfl | rfl | rfl | rfl | rfl | rfl | rfl | rfl | rfl
  ·exact (hs.li 11 (by decide)).symm
  ·exact (hs.li 12 (by decide)).symm
  ·exact (hs.li 26 (by decide)).symm
  ·exact (hs.li 27 (by decide)).symm
  ·exact (hs.li 28 (by decide)).symm
  ·exact (hs.li 29 (by decide)).symm
  ·exact (hs.li 30 (by decide)).symm
  ·exact (hs.li 31 (by decide)).symm
  ·exact (hs.li 32 (by decide)).symm
  ·exact (hs.li 33 (by decide)).symm
theorem same_copy7 {p : PM} (hs : SameP (uPM7 p) p) (hk : p.n 0 = 7) : SameP p (([0] : List Nat).foldl (fun q k => copyF k p q) (pm0 7)) := by
 refine ⟨fun o ho => ?_, fun o ho => ?_, hs.body.symm, hs.gr.symm, hs.dn.symm, hs.d.symm, hs.l.symm⟩
 ·simp only [iOffs, List.mem_cons, List.not_mem_nil, or_false] at ho
  rcases ho with rfl | rfl | rfl | rfl | rfl | rfl | rfl | rfl | rfl | rfl | rfl | rfl | rfl | rfl | rfl | rfl | rfl | rfl | rfl | rfl | rfl | rfl | rfl | rfl | rfl | rfl | rfl | rfl | rfl | rfl | rfl | rfl
  ·exact hk
  ·exact (hs.n 1 (by decide)).symm
  ·exact (hs.n 2 (by decide)).symm
  ·exact (hs.n 3 (by decide)).symm
  ·exact (hs.n 4 (by decide)).symm
  ·exact (hs.n 6 (by decide)).symm
  ·exact (hs.n 7 (by decide)).symm
  ·exact (hs.n 8 (by decide)).symm
  ·exact (hs.n 9 (by decide)).symm
  ·exact (hs.n 10 (by decide)).symm
  ·exact (hs.n 13 (by decide)).symm
  ·exact (hs.n 14 (by decide)).symm
  ·exact (hs.n 15 (by decide)).symm
  ·exact (hs.n 16 (by decide)).symm
  ·exact (hs.n 17 (by decide)).symm
  ·exact (hs.n 18 (by decide)).symm
  ·exact (hs.n 19 (by decide)).symm
  ·exact (hs.n 20 (by decide)).symm
  ·exact (hs.n 21 (by decide)).symm
  ·exact (hs.n 22 (by decide)).symm
  ·exact (hs.n 23 (by decide)).symm
  ·exact (hs.n 24 (by decide)).symm
  ·exact (hs.n 25 (by decide)).symm
  ·exact (hs.n 34 (by decide)).symm
  ·exact (hs.n 35 (by decide)).symm
  ·exact (hs.n 36 (by decide)).symm
  ·exact (hs.n 37 (by decide)).symm
  ·exact (hs.n 38 (by decide)).symm
  ·exact (hs.n 39 (by decide)).symm
  ·exact (hs.n 40 (by decide)).symm
  ·exact (hs.n 41 (by decide)).symm
  ·exact (hs.n 44 (by decide)).symm
 ·simp only [lOffs, List.mem_cons, List.not_mem_nil, or_false] at ho
  rcases ho with rfl | rfl | rfl | rfl | rfl | rfl | rfl | rfl | rfl | rfl
  ·exact (hs.li 11 (by decide)).symm
  ·exact (hs.li 12 (by decide)).symm
  ·exact (hs.li 26 (by decide)).symm
  ·exact (hs.li 27 (by decide)).symm
  ·exact (hs.li 28 (by decide)).symm
  ·exact (hs.li 29 (by decide)).symm
  ·exact (hs.li 30 (by decide)).symm
  ·exact (hs.li 31 (by decide)).symm
  ·exact (hs.li 32 (by decide)).symm
  ·exact (hs.li 33 (by decide)).symm
theorem same_copy8 {p : PM} (hs : SameP (uPM8 p) p) (hk : p.n 0 = 8) : SameP p (([0, 3, 12] : List Nat).foldl (fun q k => copyF k p q) (pm0 8)) := by
 refine ⟨fun o ho => ?_, fun o ho => ?_, hs.body.symm, hs.gr.symm, hs.dn.symm, hs.d.symm, hs.l.symm⟩
 ·simp only [iOffs, List.mem_cons, List.not_mem_nil, or_false] at ho
  rcases ho with rfl | rfl | rfl | rfl | rfl | rfl | rfl | rfl | rfl | rfl | rfl | rfl | rfl | rfl | rfl | rfl | rfl | rfl | rfl | rfl | rfl | rfl | rfl | rfl | rfl | rfl | rfl | rfl | rfl | rfl | rfl | rfl
  ·exact hk
  ·exact (hs.n 1 (by decide)).symm
  ·exact (hs.n 2 (by decide)).symm
  ·exact (hs.n 3 (by decide)).symm
  ·exact (hs.n 4 (by decide)).symm
  ·exact (hs.n 6 (by decide)).symm
  ·exact (hs.n 7 (by decide)).symm
  ·exact (hs.n 8 (by decide)).symm
  ·exact (hs.n 9 (by decide)).symm
  ·exact (hs.n 10 (by decide)).symm
  ·exact (hs.n 13 (by decide)).symm
  ·exact (hs.n 14 (by decide)).symm
  ·exact (hs.n 15 (by decide)).symm
  ·exact (hs.n 16 (by decide)).symm
  ·exact (hs.n 17 (by decide)).symm
  ·exact (hs.n 18 (by decide)).symm
  ·exact (hs.n 19 (by decide)).symm
  ·exact (hs.n 20 (by decide)).symm
  ·exact (hs.n 21 (by decide)).symm
  ·exact (hs.n 22 (by decide)).symm
  ·exact (hs.n 23 (by decide)).symm
  ·exact (hs.n 24 (by decide)).symm
  ·exact (hs.n 25 (by decide)).symm
  ·exact (hs.n 34 (by decide)).symm
  ·exact (hs.n 35 (by decide)).symm
  ·exact (hs.n 36 (by decide)).symm
  ·exact (hs.n 37 (by decide)).symm
  ·exact (hs.n 38 (by decide)).symm
  ·exact (hs.n 39 (by decide)).symm
  ·exact (hs.n 40 (by decide)).symm
  ·exact (hs.n 41 (by decide)).symm
  ·exact (hs.n 44 (by decide)).symm
 ·simp only [lOffs, List.mem_cons, List.not_mem_nil, or_false] at ho
  rcases ho with rfl | rfl | rfl | rfl | rfl | rfl | rfl | rfl | rfl | rfl
  ·exact (hs.li 11 (by decide)).symm
  ·exact (hs.li 12 (by decide)).symm
  ·exact (hs.li 26 (by decide)).symm
  ·exact (hs.li 27 (by decide)).symm
  ·exact (hs.li 28 (by decide)).symm
  ·exact (hs.li 29 (by decide)).symm
  ·exact (hs.li 30 (by decide)).symm
  ·exact (hs.li 31 (by decide)).symm
  ·exact (hs.li 32 (by decide)).symm
  ·exact (hs.li 33 (by decide)).symm
theorem same_copy9 {p : PM} (hs : SameP (uPM9 p) p) (hk : p.n 0 = 9) : SameP p (([0, 1, 2, 8] : List Nat).foldl (fun q k => copyF k p q) (pm0 9)) := by
 refine ⟨fun o ho => ?_, fun o ho => ?_, hs.body.symm, hs.gr.symm, hs.dn.symm, hs.d.symm, hs.l.symm⟩
 ·simp only [iOffs, List.mem_cons, List.not_mem_nil, or_false] at ho
  rcases ho with rfl | rfl | rfl | rfl | rfl | rfl | rfl | rfl | rfl | rfl | rfl | rfl | rfl | rfl | rfl | rfl | rfl | rfl | rfl | rfl | rfl | rfl | rfl | rfl | rfl | rfl | rfl | rfl | rfl | rfl | rfl | rfl
  ·exact hk
  ·exact (hs.n 1 (by decide)).symm
  ·exact (hs.n 2 (by decide)).symm
  ·exact (hs.n 3 (by decide)).symm
  ·exact (hs.n 4 (by decide)).symm
  ·exact (hs.n 6 (by decide)).symm
  ·exact (hs.n 7 (by decide)).symm
  ·exact (hs.n 8 (by decide)).symm
  ·exact (hs.n 9 (by decide)).symm
  ·exact (hs.n 10 (by decide)).symm
  ·exact (hs.n 13 (by decide)).symm
  ·exact (hs.n 14 (by decide)).symm
  ·exact (hs.n 15 (by decide)).symm
  ·exact (hs.n 16 (by decide)).symm
  ·exact (hs.n 17 (by decide)).symm
  ·exact (hs.n 18 (by decide)).symm
  ·exact (hs.n 19 (by decide)).symm
  ·exact (hs.n 20 (by decide)).symm
  ·exact (hs.n 21 (by decide)).symm
  ·exact (hs.n 22 (by decide)).symm
  ·exact (hs.n 23 (by decide)).symm
  ·exact (hs.n 24 (by decide)).symm
  ·exact (hs.n 25 (by decide)).symm
  ·exact (hs.n 34 (by decide)).symm
  ·exact (hs.n 35 (by decide)).symm
  ·exact (hs.n 36 (by decide)).symm
  ·exact (hs.n 37 (by decide)).symm
  ·exact (hs.n 38 (by decide)).symm
  ·exact (hs.n 39 (by decide)).symm
  ·exact (hs.n 40 (by decide)).symm
  ·exact (hs.n 41 (by decide)).symm
  ·exact (hs.n 44 (by decide)).symm
 ·simp only [lOffs, List.mem_cons, List.not_mem_nil, or_false] at ho
  rcases ho with rfl | rfl | rfl | rfl | rfl | rfl | rfl | rfl | rfl | rfl
  ·exact (hs.li 11 (by decide)).symm
  ·exact (hs.li 12 (by decide)).symm
  ·exact (hs.li 26 (by decide)).symm
  ·exact (hs.li 27 (by decide)).symm
  ·exact (hs.li 28 (by decide)).symm
  ·exact (hs.li 29 (by decide)).symm
  ·exact (hs.li 30 (by decide)).symm
  ·exact (hs.li 31 (by decide)).symm
  ·exact (hs.li 32 (by decide)).symm
  ·exact (hs.li 33 (by decide)).symm
theorem same_copy10 {p : PM} (hs : SameP (uPM10 p) p) (hk : p.n 0 = 10) : SameP p (([0, 1, 2, 3, 8] : List Nat).foldl (fun q k => copyF k p q) (pm0 10)) := by
 refine ⟨fun o ho => ?_, fun o ho => ?_, hs.body.symm, hs.gr.symm, hs.dn.symm, hs.d.symm, hs.l.symm⟩
 ·simp only [iOffs, List.mem_cons, List.not_mem_nil, or_false] at ho
  rcases ho with rfl | rfl | rfl | rfl | rfl | rfl | rfl | rfl | rfl | rfl | rfl | rfl | rfl | rfl | rfl | rfl | rfl | rfl | rfl | rfl | rfl | rfl | rfl | rfl | rfl | rfl | rfl | rfl | rfl | rfl | rfl | rfl
  ·exact hk
  ·exact (hs.n 1 (by decide)).symm
  ·exact (hs.n 2 (by decide)).symm
  ·exact (hs.n 3 (by decide)).symm
  ·exact (hs.n 4 (by decide)).symm
  ·exact (hs.n 6 (by decide)).symm
  ·exact (hs.n 7 (by decide)).symm
  ·exact (hs.n 8 (by decide)).symm
  ·exact (hs.n 9 (by decide)).symm
  ·exact (hs.n 10 (by decide)).symm
  ·exact (hs.n 13 (by decide)).symm
  ·exact (hs.n 14 (by decide)).symm
  ·exact (hs.n 15 (by decide)).symm
  ·exact (hs.n 16 (by decide)).symm
  ·exact (hs.n 17 (by decide)).symm
  ·exact (hs.n 18 (by decide)).symm
  ·exact (hs.n 19 (by decide)).symm
  ·exact (hs.n 20 (by decide)).symm
  ·exact (hs.n 21 (by decide)).symm
  ·exact (hs.n 22 (by decide)).symm
  ·exact (hs.n 23 (by decide)).symm
  ·exact (hs.n 24 (by decide)).symm
  ·exact (hs.n 25 (by decide)).symm
  ·exact (hs.n 34 (by decide)).symm
  ·exact (hs.n 35 (by decide)).symm
  ·exact (hs.n 36 (by decide)).symm
  ·exact (hs.n 37 (by decide)).symm
  ·exact (hs.n 38 (by decide)).symm
  ·exact (hs.n 39 (by decide)).symm
  ·exact (hs.n 40 (by decide)).symm
  ·exact (hs.n 41 (by decide)).symm
  ·exact (hs.n 44 (by decide)).symm
 ·simp only [lOffs, List.mem_cons, List.not_mem_nil, or_false] at ho
  rcases ho with rfl | rfl | rfl | rfl | rfl | rfl | rfl | rfl | rfl | rfl
  ·exact (hs.li 11 (by decide)).symm
  ·exact (hs.li 12 (by decide)).symm
  ·exact (hs.li 26 (by decide)).symm
  ·exact (hs.li 27 (by decide)).symm
  ·exact (hs.li 28 (by decide)).symm
  ·exact (hs.li 29 (by decide)).symm
  ·exact (hs.li 30 (by decide)).symm
  ·exact (hs.li 31 (by decide)).symm
  ·exact (hs.li 32 (by decide)).symm
  ·exact (hs.li 33 (by decide)).symm
theorem same_copy11 {p : PM} (hs : SameP (uPM11 p) p) (hk : p.n 0 = 11) : SameP p (([11] : List Nat).foldl (fun q k => copyF k p q) (pm0 11)) := by
 refine ⟨fun o ho => ?_, fun o ho => ?_, hs.body.symm, hs.gr.symm, hs.dn.symm, hs.d.symm, hs.l.symm⟩
 ·simp only [iOffs, List.mem_cons, List.not_mem_nil, or_false] at ho
  rcases ho with rfl | rfl | rfl | rfl | rfl | rfl | rfl | rfl | rfl | rfl | rfl | rfl | rfl | rfl | rfl | rfl | rfl | rfl | rfl | rfl | rfl | rfl | rfl | rfl | rfl | rfl | rfl | rfl | rfl | rfl | rfl | rfl
  ·exact hk
  ·exact (hs.n 1 (by decide)).symm
  ·exact (hs.n 2 (by decide)).symm
  ·exact (hs.n 3 (by decide)).symm
  ·exact (hs.n 4 (by decide)).symm
  ·exact (hs.n 6 (by decide)).symm
  ·exact (hs.n 7 (by decide)).symm
  ·exact (hs.n 8 (by decide)).symm
  ·exact (hs.n 9 (by decide)).symm
  ·exact (hs.n 10 (by decide)).symm
  ·exact (hs.n 13 (by decide)).symm
  ·exact (hs.n 14 (by decide)).symm
  ·exact (hs.n 15 (by decide)).symm
  ·exact (hs.n 16 (by decide)).symm
  ·exact (hs.n 17 (by decide)).symm
  ·exact (hs.n 18 (by decide)).symm
  ·exact (hs.n 19 (by decide)).symm
  ·exact (hs.n 20 (by decide)).symm
  ·exact (hs.n 21 (by decide)).symm
  ·exact (hs.n 22 (by decide)).symm
  ·exact (hs.n 23 (by decide)).symm
  ·exact (hs.n 24 (by decide)).symm
  ·exact (hs.n 25 (by decide)).symm
  ·exact (hs.n 34 (by decide)).symm
  ·exact (hs.n 35 (by decide)).symm
  ·exact (hs.n 36 (by decide)).symm
  ·exact (hs.n 37 (by decide)).symm
  ·exact (hs.n 38 (by decide)).symm
  ·exact (hs.n 39 (by decide)).symm
  ·exact (hs.n 40 (by decide)).symm
  ·exact (hs.n 41 (by decide)).symm
  ·exact (hs.n 44 (by decide)).symm
 ·simp only [lOffs, List.mem_cons, List.not_mem_nil, or_false] at ho
  rcases ho with rfl | rfl | rfl | rfl | rfl | rfl | rfl | rfl | rfl | rfl
  ·exact (hs.li 11 (by decide)).symm
  ·exact (hs.li 12 (by decide)).symm
  ·exact (hs.li 26 (by decide)).symm
  ·exact (hs.li 27 (by decide)).symm
  ·exact (hs.li 28 (by decide)).symm
  ·exact (hs.li 29 (by decide)).symm
  ·exact (hs.li 30 (by decide)).symm
  ·exact (hs.li 31 (by decide)).symm
  ·exact (hs.li 32 (by decide)).symm
  ·exact (hs.li 33 (by decide)).symm
end
end Go.Proofs.Ytpbgelhjbfckcaa
