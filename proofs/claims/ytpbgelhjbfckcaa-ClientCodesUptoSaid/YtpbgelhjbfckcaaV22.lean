/- Messages in plain words; Same. -/
import Derived.Test.YtpbgelhjbfckcaaV21
namespace Go.Proofs.Ytpbgelhjbfckcaa
set_option maxRecDepth 100000
set_option linter.unusedVariables false
set_option linter.unusedSimpArgs false
open Go.ChangeShapes Go.WideShapes Go.ChangeAt Go.RowKit
/-- The cells of a message that is there. -/
structure MsgV (w : World) (cs : List Value) (p : PM) : Prop where
 len : cs.length = 47
 N : ∀ o ∈ iOffs, cs[o]? = some (.int .i64 (p.n o)) ∧ I64 (p.n o)
 S : ∀ o ∈ lOffs, ∃ A n c, cs[o]? = some (.slice A n c) ∧ Li w (.slice A n c) (p.li o)
 body : cs[5]? = some (.string p.body)
 gr : cs[42]? = some (.bool p.gr)
 dn : cs[46]? = some (.bool p.dn)
 d : cs[45]? = some (.string p.d)
 E : ∃ A n c, cs[43]? = some (.slice A n c) ∧ EnsIn w w.heap.size (.slice A n c) p.l
theorem MsgA.toV {w : World} {A0 : Nat} {cs : List Value} {p : PM} (h : MsgA w A0 cs p) (hok : ∀ x ∈ p.l, x.Ok) : MsgV w cs p :=
 ⟨h.len, h.N, fun o ho => by obtain ⟨A, n, c, e, hl⟩ := h.S o ho; exact ⟨A, n, c, e, hl.low⟩, h.body, h.gr, h.dn, h.d, by obtain ⟨A, n, c, e, hl⟩ := h.E; exact ⟨A, n, c, e, hl.ens hok⟩⟩
theorem MsgV.step {w w' : World} {cs : List Value} {p : PM} (h : MsgV w cs p) (k : Below w.heap.size w w') : MsgV w' cs p :=
 ⟨h.len, h.N, fun o ho => by obtain ⟨A, n, c, e, hl⟩ := h.S o ho; exact ⟨A, n, c, e, hl.step k⟩, h.body, h.gr, h.dn, h.d, by obtain ⟨A, n, c, e, hl⟩ := h.E; exact ⟨A, n, c, e, (hl.below k).mono k.size⟩⟩
theorem MsgV.lit {w : World} {cs : List Value} {p : PM} (h : MsgV w cs p) : ∃ A11p n11p c11p A12p n12p c12p A26p n26p c26p A27p n27p c27p A28p n28p c28p A29p n29p c29p A30p n30p c30p A31p n31p c31p A32p n32p c32p A33p n33p c33p A43p n43p c43p, cs = [.int .i64 (p.n 0), .int .i64 (p.n 1), .int .i64 (p.n 2), .int .i64 (p.n 3), .int .i64 (p.n 4), .string p.body, .int .i64 (p.n 6), .int .i64 (p.n 7), .int .i64 (p.n 8), .int .i64 (p.n 9), .int .i64 (p.n 10), .slice A11p n11p c11p, .slice A12p n12p c12p, .int .i64 (p.n 13), .int .i64 (p.n 14), .int .i64 (p.n 15), .int .i64 (p.n 16), .int .i64 (p.n 17), .int .i64 (p.n 18), .int .i64 (p.n 19), .int .i64 (p.n 20), .int .i64 (p.n 21), .int .i64 (p.n 22), .int .i64 (p.n 23), .int .i64 (p.n 24), .int .i64 (p.n 25), .slice A26p n26p c26p, .slice A27p n27p c27p, .slice A28p n28p c28p, .slice A29p n29p c29p, .slice A30p n30p c30p, .slice A31p n31p c31p, .slice A32p n32p c32p, .slice A33p n33p c33p, .int .i64 (p.n 34), .int .i64 (p.n 35), .int .i64 (p.n 36), .int .i64 (p.n 37), .int .i64 (p.n 38), .int .i64 (p.n 39), .int .i64 (p.n 40), .int .i64 (p.n 41), .bool p.gr, .slice A43p n43p c43p, .int .i64 (p.n 44), .string p.d, .bool p.dn] ∧ Li w (.slice A11p n11p c11p) (p.li 11) ∧ Li w (.slice A12p n12p c12p) (p.li 12) ∧ Li w (.slice A26p n26p c26p) (p.li 26) ∧ Li w (.slice A27p n27p c27p) (p.li 27) ∧ Li w (.slice A28p n28p c28p) (p.li 28) ∧ Li w (.slice A29p n29p c29p) (p.li 29) ∧ Li w (.slice A30p n30p c30p) (p.li 30) ∧ Li w (.slice A31p n31p c31p) (p.li 31) ∧ Li w (.slice A32p n32p c32p) (p.li 32) ∧ Li w (.slice A33p n33p c33p) (p.li 33) ∧ EnsIn w w.heap.size (.slice A43p n43p c43p) p.l := by
 obtain ⟨A11p, n11p, c11p, s11p, l11p⟩ := h.S 11 (by decide)
 obtain ⟨A12p, n12p, c12p, s12p, l12p⟩ := h.S 12 (by decide)
 obtain ⟨A26p, n26p, c26p, s26p, l26p⟩ := h.S 26 (by decide)
 obtain ⟨A27p, n27p, c27p, s27p, l27p⟩ := h.S 27 (by decide)
 obtain ⟨A28p, n28p, c28p, s28p, l28p⟩ := h.S 28 (by decide)
 obtain ⟨A29p, n29p, c29p, s29p, l29p⟩ := h.S 29 (by decide)
 obtain ⟨A30p, n30p, c30p, s30p, l30p⟩ := h.S 30 (by decide)
 obtain ⟨A31p, n31p, c31p, s31p, l31p⟩ := h.S 31 (by decide)
 obtain ⟨A32p, n32p, c32p, s32p, l32p⟩ := h.S 32 (by decide)
 obtain ⟨A33p, n33p, c33p, s33p, l33p⟩ := h.S 33 (by decide)
 obtain ⟨A43p, n43p, c43p, s43p, l43p⟩ := h.E
 refine ⟨_, _, _, _, _, _, _, _, _, _, _, _, _, _, _, _, _, _, _, _, _, _, _, _, _, _, _, _, _, _, _, _, _, ?_, l11p, l12p, l26p, l27p, l28p, l29p, l30p, l31p, l32p, l33p, l43p⟩
 refine List.ext_getElem? fun i => ?_
 exact match i with
  | 0 => (h.N 0 (by decide)).1
  | 1 => (h.N 1 (by decide)).1
  | 2 => (h.N 2 (by decide)).1
  | 3 => (h.N 3 (by decide)).1
  | 4 => (h.N 4 (by decide)).1
  | 5 => h.body
  | 6 => (h.N 6 (by decide)).1
  | 7 => (h.N 7 (by decide)).1
  | 8 => (h.N 8 (by decide)).1
  | 9 => (h.N 9 (by decide)).1
  | 10 => (h.N 10 (by decide)).1
  | 11 => s11p
  | 12 => s12p
  | 13 => (h.N 13 (by decide)).1
  | 14 => (h.N 14 (by decide)).1
  | 15 => (h.N 15 (by decide)).1
  | 16 => (h.N 16 (by decide)).1
  | 17 => (h.N 17 (by decide)).1
  | 18 => (h.N 18 (by decide)).1
  | 19 => (h.N 19 (by decide)).1
  | 20 => (h.N 20 (by decide)).1
  | 21 => (h.N 21 (by decide)).1
  | 22 => (h.N 22 (by decide)).1
  | 23 => (h.N 23 (by decide)).1
  | 24 => (h.N 24 (by decide)).1
  | 25 => (h.N 25 (by decide)).1
  | 26 => s26p
  | 27 => s27p
  | 28 => s28p
  | 29 => s29p
  | 30 => s30p
  | 31 => s31p
  | 32 => s32p
  | 33 => s33p
  | 34 => (h.N 34 (by decide)).1
  | 35 => (h.N 35 (by decide)).1
  | 36 => (h.N 36 (by decide)).1
  | 37 => (h.N 37 (by decide)).1
  | 38 => (h.N 38 (by decide)).1
  | 39 => (h.N 39 (by decide)).1
  | 40 => (h.N 40 (by decide)).1
  | 41 => (h.N 41 (by decide)).1
  | 42 => h.gr
  | 43 => s43p
  | 44 => (h.N 44 (by decide)).1
  | 45 => h.d
  | 46 => h.dn
  | i + 47 => by rw [List.getElem?_eq_none (by rw [h.len]; omega), List.getElem?_eq_none (by simp)]
/-- Two messages are the same. -/
structure SameP (p q : PM) : Prop where
 n : ∀ o ∈ iOffs, p.n o = q.n o
 li : ∀ o ∈ lOffs, p.li o = q.li o
 body : p.body = q.body
 gr : p.gr = q.gr
 dn : p.dn = q.dn
 d : p.d = q.d
 l : p.l = q.l
theorem sameP_iff (p q : PM) : (p.n 0 = q.n 0 ∧ p.n 1 = q.n 1 ∧ p.n 2 = q.n 2 ∧ p.n 3 = q.n 3 ∧ p.n 4 = q.n 4 ∧ p.body = q.body ∧ p.n 6 = q.n 6 ∧ p.n 7 = q.n 7 ∧ p.n 8 = q.n 8 ∧ (p.n 9 = q.n 9 ∧ p.n 10 = q.n 10 ∧ p.li 11 = q.li 11 ∧ p.li 12 = q.li 12) ∧ p.n 13 = q.n 13 ∧ p.n 14 = q.n 14 ∧ p.n 15 = q.n 15 ∧ p.n 16 = q.n 16 ∧ p.n 17 = q.n 17 ∧ (p.n 18 = q.n 18 ∧ p.n 19 = q.n 19 ∧ p.n 20 = q.n 20 ∧ p.n 21 = q.n 21 ∧ p.n 22 = q.n 22 ∧ p.n 23 = q.n 23 ∧ p.n 24 = q.n 24 ∧ p.n 25 = q.n 25 ∧ (p.li 26 = q.li 26 ∧ p.li 27 = q.li 27 ∧ p.li 28 = q.li 28) ∧ (p.li 29 = q.li 29 ∧ p.li 30 = q.li 30 ∧ p.li 31 = q.li 31) ∧ p.li 32 = q.li 32) ∧ p.li 33 = q.li 33 ∧ (p.l = q.l ∧ p.n 34 = q.n 34 ∧ p.n 35 = q.n 35 ∧ p.n 36 = q.n 36 ∧ p.n 37 = q.n 37 ∧ p.n 38 = q.n 38 ∧ p.n 39 = q.n 39 ∧ p.n 40 = q.n 40 ∧ p.n 41 = q.n 41 ∧ p.gr = q.gr ∧ p.n 44 = q.n 44 ∧ p.d = q.d ∧ p.dn = q.dn)) ↔ SameP p q := by
 constructor
 ·rintro ⟨n0, n1, n2, n3, n4, body_, n6, n7, n8, ⟨n9, n10, l11, l12⟩, n13, n14, n15, n16, n17, ⟨n18, n19, n20, n21, n22, n23, n24, n25, ⟨l26, l27, l28⟩, ⟨l29, l30, l31⟩, l32⟩, l33, ⟨en_, n34, n35, n36, n37, n38, n39, n40, n41, gr_, n44, d_, dn_⟩⟩
  refine ⟨fun o ho => ?_, fun o ho => ?_, body_, gr_, dn_, d_, en_⟩
  ·simp only [iOffs, List.mem_cons, List.not_mem_nil, or_false] at ho
   rcases ho with rfl | rfl | rfl | rfl | rfl | rfl | rfl | rfl | rfl | rfl | rfl | rfl | rfl | rfl | rfl | rfl | rfl | rfl | rfl | rfl | rfl | rfl | rfl | rfl | rfl | rfl | rfl | rfl | rfl | rfl | rfl | rfl
   ·exact n0
   ·exact n1
   ·exact n2
   ·exact n3
   ·exact n4
   ·exact n6
   ·exact n7
   ·exact n8
   ·exact n9
   ·exact n10
   ·exact n13
   ·exact n14
   ·exact n15
   ·exact n16
   ·exact n17
   ·exact n18
   ·exact n19
   ·exact n20
   ·exact n21
   ·exact n22
   ·exact n23
   ·exact n24
   ·exact n25
   ·exact n34
   ·exact n35
   ·exact n36
   ·exact n37
   ·exact n38
   ·exact n39
   ·exact n40
   ·exact n41
   ·exact n44
  ·simp only [lOffs, List.mem_cons, List.not_mem_nil, or_false] at ho
   rcases ho with rfl | rfl | rfl | rfl | rfl | rfl | rfl | rfl | rfl | rfl
   ·exact l11
   ·exact l12
   ·exact l26
   ·exact l27
   ·exact l28
   ·exact l29
   ·exact l30
   ·exact l31
   ·exact l32
   ·exact l33
 ·rintro ⟨hN, hL, hB, hG, hD, hd, hE⟩
  exact ⟨hN 0 (by decide), hN 1 (by decide), hN 2 (by decide), hN 3 (by decide), hN 4 (by decide), hB, hN 6 (by decide), hN 7 (by decide), hN 8 (by decide), ⟨hN 9 (by decide), hN 10 (by decide), hL 11 (by decide), hL 12 (by decide)⟩, hN 13 (by decide), hN 14 (by decide), hN 15 (by decide), hN 16 (by decide), hN 17 (by decide), ⟨hN 18 (by decide), hN 19 (by decide), hN 20 (by decide), hN 21 (by decide), hN 22 (by decide), hN 23 (by decide), hN 24 (by decide), hN 25 (by decide), ⟨hL 26 (by decide), hL 27 (by decide), hL 28 (by decide)⟩, ⟨hL 29 (by decide), hL 30 (by decide), hL 31 (by decide)⟩, hL 32 (by decide)⟩, hL 33 (by decide), ⟨hE, hN 34 (by decide), hN 35 (by decide), hN 36 (by decide), hN 37 (by decide), hN 38 (by decide), hN 39 (by decide), hN 40 (by decide), hN 41 (by decide), hG, hN 44 (by decide), hd, hD⟩⟩
theorem same_c (cs ds : List Value) (p q : PM) (w : World) (hp : MsgV w cs p) (hq : MsgV w ds q) : Calls Try.prog 17 #[.agg cs.toArray, .agg ds.toArray] w (SameR w (SameP p q)) := by
 obtain ⟨A11p, n11p, c11p, A12p, n12p, c12p, A26p, n26p, c26p, A27p, n27p, c27p, A28p, n28p, c28p, A29p, n29p, c29p, A30p, n30p, c30p, A31p, n31p, c31p, A32p, n32p, c32p, A33p, n33p, c33p, A43p, n43p, c43p, ep, l11p, l12p, l26p, l27p, l28p, l29p, l30p, l31p, l32p, l33p, l43p⟩ := hp.lit
 obtain ⟨A11q, n11q, c11q, A12q, n12q, c12q, A26q, n26q, c26q, A27q, n27q, c27q, A28q, n28q, c28q, A29q, n29q, c29q, A30q, n30q, c30q, A31q, n31q, c31q, A32q, n32q, c32q, A33q, n33q, c33q, A43q, n43q, c43q, eq_, l11q, l12q, l26q, l27q, l28q, l29q, l30q, l31q, l32q, l33q, l43q⟩ := hq.lit
 have h := sameC_c cs ds p q w (by rw [ep]; rfl) (by rw [ep]; rfl) (by rw [ep]; rfl) (by rw [ep]; rfl) (by rw [ep]; rfl) (by rw [ep]; rfl) (by rw [ep]; rfl) (by rw [ep]; rfl) (by rw [ep]; rfl) (by rw [ep]; rfl) (by rw [ep]; rfl) (by rw [ep]; rfl) (by rw [ep]; rfl) (by rw [ep]; rfl) (by rw [ep]; rfl) l11p l12p l26p l27p l28p l29p l30p l31p l32p l33p l43p (by rw [eq_]; rfl) (by rw [eq_]; rfl) (by rw [eq_]; rfl) (by rw [eq_]; rfl) (by rw [eq_]; rfl) (by rw [eq_]; rfl) (by rw [eq_]; rfl) (by rw [eq_]; rfl) (by rw [eq_]; rfl) (by rw [eq_]; rfl) (by rw [eq_]; rfl) (by rw [eq_]; rfl) (by rw [eq_]; rfl) (by rw [eq_]; rfl) (by rw [eq_]; rfl) l11q l12q l26q l27q l28q l29q l30q l31q l32q l33q l43q
 refine h.mono fun e w' ⟨h1, x, h2, h3⟩ => ⟨h1, x, h2, h3.trans (sameP_iff p q)⟩
end Go.Proofs.Ytpbgelhjbfckcaa
