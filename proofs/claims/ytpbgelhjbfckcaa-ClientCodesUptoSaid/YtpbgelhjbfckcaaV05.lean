/- The table of the fields: a region with many hard operations in whatever order. -/
import Derived.Test.YtpbgelhjbfckcaaV04
import Derived.Great.BuildSlice
namespace Go.Proofs.Ytpbgelhjbfckcaa
set_option linter.unusedVariables false
set_option linter.unusedSimpArgs false
open Go.ChangeMaps Go.ChangeShapes Go.WideShapes Go.ChangeAt Go.RowKit
open Go.Maps (Keyed IsMap)
abbrev LB := List (Nat × TypeId × List Value)
def ptrL (b : Nat) (offs : List Nat) : List Value := offs.map fun o => .pointer (some ⟨b, o, none⟩)
/-- A slice of pointers into the block b. -/
def PtrL (L : LB) (t : TypeId) (b : Nat) (offs : List Nat) (v : Value) : Prop := (offs = [] ∧ v = .slice none 0 0) ∨ ∃ g, v = .slice (some ⟨g, 0, none⟩) offs.length offs.length ∧ (g, t, ptrL b offs) ∈ L
/-- A number's field over the place o of the block b. -/
def NumF (L : LB) (b o : Nat) (lo hi : Int) (v : Value) : Prop := ∃ bp bl bh, v = .agg (fv 88 89 90 91 [at0 bp] [at0 bp] [at0 bp] [at0 bp, at0 bl, at0 bh]).toArray ∧ (bp, 121, [.pointer (some ⟨b, o, none⟩)]) ∈ L ∧ (bl, 3, [.int .i64 lo]) ∈ L ∧ (bh, 3, [.int .i64 hi]) ∈ L
/-- The boxes of a field of parts. -/
def PartB (L : LB) (b : Nat) (ns ls : List Nat) (bn bl : Nat) : Prop := ∃ vn vl, (bn, 125, [vn]) ∈ L ∧ (bl, 127, [vl]) ∈ L ∧ PtrL L 121 b ns vn ∧ PtrL L 126 b ls vl
def PartF (L : LB) (b : Nat) (ns ls : List Nat) (va : FuncId) (ca : List Value) (v : Value) : Prop := ∃ bn bl, v = .agg (fv 82 84 86 va [at0 bn, at0 bl] [at0 bn, at0 bl] [at0 bn, at0 bl] ca).toArray ∧ PartB L b ns ls bn bl
def UnitF (L : LB) (b bm : Nat) (v : Value) : Prop := ∃ b7 b8 b9 bn bl, v = .agg (fv 52 54 56 57 [at0 b7, at0 bm] [at0 b8, at0 bm] [at0 b9, at0 bm] [at0 bm]).toArray ∧ (b7, 98, [.func (.func 82) #[] #[at0 bn, at0 bl]]) ∈ L ∧ (b8, 99, [.func (.func 84) #[] #[at0 bn, at0 bl]]) ∈ L ∧ (b9, 24, [.func (.func 86) #[] #[at0 bn, at0 bl]]) ∈ L ∧ PartB L b [13, 14, 15] [] bn bl
/-- What lies in the table for each name. -/
def FValI (L : LB) (b bm : Nat) (k : Nat) (v : Value) : Prop :=
 match k with
 | 0 => NumF L b 1 0 8 v
 | 1 => NumF L b 2 1 8 v
 | 2 => NumF L b 3 1 9223372036854775807 v
 | 3 => NumF L b 4 0 17 v
 | 4 => NumF L b 6 0 9223372036854775807 v
 | 5 => NumF L b 7 1 9223372036854775807 v
 | 6 => NumF L b 8 1 9223372036854775807 v
 | 7 => v = .agg (fv 61 63 65 66 [at0 bm] [at0 bm] [at0 bm] [at0 bm]).toArray
 | 8 => v = .agg (fv 67 68 69 70 [at0 bm] [at0 bm] [at0 bm] []).toArray
 | 9 => PartF L b [9, 10] [11, 12] 70 [] v
 | 10 => UnitF L b bm v
 | 11 => PartF L b [] [33] 58 [at0 bm] v
 | 12 => PartF L b [18, 19, 20, 21, 22, 23, 24, 25] [26, 27, 28, 29, 30, 31, 32] 70 [] v
 | 13 => v = .agg (fv 71 73 75 70 [at0 bm] [at0 bm] [at0 bm] []).toArray
 | _ => False
theorem PtrL.mono {L L' : LB} (hL : ∀ e ∈ L, e ∈ L') {t : TypeId} {b : Nat} {o : List Nat} {v : Value} (h : PtrL L t b o v) : PtrL L' t b o v := h.imp id (fun ⟨g, h1, h2⟩ => ⟨g, h1, hL _ h2⟩)
theorem NumF.mono {L L' : LB} (hL : ∀ e ∈ L, e ∈ L') {b o : Nat} {lo hi : Int} {v : Value} (h : NumF L b o lo hi v) : NumF L' b o lo hi v := by
 obtain ⟨x, y, z, h0, h1, h2, h3⟩ := h; exact ⟨x, y, z, h0, hL _ h1, hL _ h2, hL _ h3⟩
theorem PartB.mono {L L' : LB} (hL : ∀ e ∈ L, e ∈ L') {b : Nat} {ns ls : List Nat} {x y : Nat} (h : PartB L b ns ls x y) : PartB L' b ns ls x y := by
 obtain ⟨u, v, h1, h2, h3, h4⟩ := h; exact ⟨u, v, hL _ h1, hL _ h2, h3.mono hL, h4.mono hL⟩
theorem PartF.mono {L L' : LB} (hL : ∀ e ∈ L, e ∈ L') {b : Nat} {ns ls : List Nat} {va : FuncId} {ca : List Value} {v : Value} (h : PartF L b ns ls va ca v) : PartF L' b ns ls va ca v := by
 obtain ⟨x, y, h1, h2⟩ := h; exact ⟨x, y, h1, h2.mono hL⟩
theorem UnitF.mono {L L' : LB} (hL : ∀ e ∈ L, e ∈ L') {b bm : Nat} {v : Value} (h : UnitF L b bm v) : UnitF L' b bm v := by
 obtain ⟨x, y, z, p, q, h0, h1, h2, h3, h4⟩ := h; exact ⟨x, y, z, p, q, h0, hL _ h1, hL _ h2, hL _ h3, h4.mono hL⟩
theorem FValI.mono {L L' : LB} (hL : ∀ e ∈ L, e ∈ L') {b bm k : Nat} {v : Value} (h : FValI L b bm k v) : FValI L' b bm k v := by
 revert h
 unfold FValI
 split <;> intro h <;> first | exact h | exact NumF.mono hL h | exact PartF.mono hL h | exact UnitF.mono hL h
def fnames : List ByteArray := [nGroup, nClient, nNumber, nCode, nLeader, nGeneration, nStep, nBody, nValue, nChange, nUnit, nMachines, nStatus, nMessage]
def fname (k : Nat) : ByteArray := fnames.getD k ⟨#[]⟩
def flit (k : Nat) : Lit := .string (fname k).data.toList
theorem flit_inj : ∀ i, i < 14 → ∀ j, j < 14 → flit i = flit j → i = j := by
 have h : ∀ i, i < 14 → ∀ j, j < 14 → (fname i).data.toList = (fname j).data.toList → i = j := by decide
 intro i hi j hj e
 injection e with e
 exact h i hi j hj e
def insI (k : Nat) : Nat := [5, 10, 15, 18, 23, 28, 33, 39, 44, 46, 48, 50, 105, 110].getD k 999
def valS (k : Nat) : Nat := [72, 76, 80, 82, 86, 90, 94, 99, 103, 104, 105, 106, 160, 164].getD k 999
def depI (k : Nat) : Option Nat := [some 4, some 9, some 14, some 17, some 22, some 27, some 32, some 38, some 43, some 45, some 47, some 49, some 104, some 109].getD k none
theorem valS_68 : ∀ k, k < 14 → valS k ≠ 68 := by decide
theorem valS_165 : ∀ k, k < 14 → valS k ≠ 165 := by decide
theorem valS_2 : ∀ k, k < 14 → valS k ≠ 2 := by decide
theorem depI_111 : ∀ k, k < 14 → depI k ≠ some 111 := by decide
theorem depI_112 : ∀ k, k < 14 → depI k ≠ some 112 := by decide
theorem insI_112 : ∀ k, k < 14 → insI k ≠ 112 := by decide
theorem depI_0 : ∀ k, k < 14 → depI k ≠ some 0 := by decide
theorem insI_0 : ∀ k, k < 14 → insI k ≠ 0 := by decide
theorem insI_lt : ∀ k, k < 14 → insI k < 113 := by decide
theorem insI_inj : ∀ i, i < 14 → ∀ k, k < 14 → insI i = insI k → i = k := by decide
theorem depI_ok : ∀ i, i < 14 → (depI i).all (fun j => decide (j < 113) && (List.range 14).all fun k => decide (insI k ≠ j)) = true := by decide
theorem depI_ok' {i j : Nat} (hi : i < 14) (h : depI i = some j) : j < 113 ∧ ∀ k, k < 14 → insI k ≠ j := by
 have := depI_ok i hi
 rw [h] at this
 simp only [Option.all_some, Bool.and_eq_true, decide_eq_true_eq, List.all_eq_true] at this
 exact ⟨this.1, fun k hk => this.2 k (List.mem_range.2 hk)⟩
def hardL : List Nat := [0, 4, 5, 9, 10, 14, 15, 17, 18, 22, 23, 27, 28, 32, 33, 39, 44, 46, 48, 50, 75, 103, 104, 105, 110, 111, 112]
def offs8 : List Nat := [18, 19, 20, 21, 22, 23, 24, 25]
def offs7 : List Nat := [26, 27, 28, 29, 30, 31, 32]
theorem pI_hard : ∀ i, i ∈ hardL → ∀ k, k < 86 → pI k ≠ i := by decide
theorem pI_ex : ∀ i, i < 113 → i ∉ hardL → ∃ k, k < 86 ∧ pI k = i := by decide +kernel
theorem pI_inj : ∀ i, i < 86 → ∀ k, k < 86 → pI i = pI k → i = k := by decide +kernel
theorem pD_inj : ∀ i, i < 86 → ∀ k, k < 86 → pD i = pD k → i = k := by decide +kernel
theorem pD_lt : ∀ k, k < 86 → pD k < 166 ∧ pD k ∉ [1, 3, 4, 5, 6, 10, 68, 165, 2, 131, 159] := by decide +kernel
theorem pI_lt : ∀ k, k < 86 → pI k < 113 ∧ (pI k ≠ 0 ∧ pI k ≠ 111 ∧ pI k ≠ 112) ∧ pI k ≠ 75 ∧ pI k ≠ 103 := by decide +kernel
theorem pI_ins : ∀ k, k < 86 → ∀ j, j < 14 → insI j ≠ pI k := by decide +kernel
theorem pI_dep : ∀ k, k < 86 → ∀ j, j < 14 → depI j = some (pI k) → valS j = pD k := by decide +kernel
theorem sl_same (a : Act) (d : Nat) (v : Value) (h : d < a.tmps.size) : sl (a.put (some d) v) d = v := by
 unfold sl Act.put
 simp [Array.getD, h]
theorem sl_other (a : Act) (d k : Nat) (v : Value) (h : k ≠ d) : sl (a.put (some d) v) k = sl a k := by
 unfold sl Act.put
 simp only [Array.getD, Array.size_setIfInBounds]
 split
 ·rw [Array.getInternal_eq_getElem, Array.getInternal_eq_getElem, Array.getElem_setIfInBounds_ne _ (fun e => h e.symm)]
 ·rfl
theorem put_size (a : Act) (d : Option Tmp) (v : Value) : (a.put d v).tmps.size = a.tmps.size := by
 cases d <;> simp [Act.put]
theorem put_defers (a : Act) (d : Option Tmp) (v : Value) : (a.put d v).defers = a.defers := by cases d <;> rfl
abbrev T (l : Array Bool) (j : Nat) : Prop := l.getD j false = true
theorem T_set {l : Array Bool} {i j : Nat} (h : T (l.setIfInBounds i true) j) : j = i ∨ T l j := by
 by_cases e : j = i
 ·exact .inl e
 ·right
  unfold T at *
  rw [← h]
  simp only [Array.getD, Array.size_setIfInBounds]
  split
  ·rw [Array.getInternal_eq_getElem, Array.getInternal_eq_getElem, Array.getElem_setIfInBounds_ne _ (fun x => e x.symm)]
  ·rfl
theorem T_mono {l : Array Bool} {i j : Nat} (h : T l j) : T (l.setIfInBounds i true) j := by
 unfold T at *
 simp only [Array.getD, Array.size_setIfInBounds] at h ⊢
 split at h
 ·rename_i hs
  rw [dif_pos hs, Array.getInternal_eq_getElem, Array.getElem_setIfInBounds]
  split
  ·rfl
  ·exact h
 ·cases h
theorem T_new {l : Array Bool} {i : Nat} (h : i < l.size) : T (l.setIfInBounds i true) i := by
 unfold T
 simp [Array.getD, h]
/-- The map of the table. -/
def MapS (w0 : World) (b bm : Nat) (L : LB) (l : Array Bool) (w : World) (mv : Value) : Prop := ∃ mb M, mv = .map (some mb) ∧ w.ownsMap Try.prog 9 RV mb M.length (mkM M) ∧ (∀ e ∈ L, e.1 ≠ mb) ∧ w0.heap.size ≤ mb ∧ mb < w.heap.size ∧ M.Pairwise (fun x y => x.1 ≠ y.1) ∧ M.length + l.toList.count false ≤ 113 ∧
 (∀ e ∈ M, ∃ k, k < 14 ∧ T l (insI k) ∧ e.1 = flit k ∧ FValI L b bm k e.2) ∧ (∀ k, k < 14 → T l (insI k) → ∃ v, (flit k, v) ∈ M)
theorem MapS.grow {w0 w w' : World} {b bm : Nat} {L N : LB} {l : Array Bool} {mv : Value} (h : MapS w0 b bm L l w mv) (k : Own w [] N w') : MapS w0 b bm (L ++ N) l w' mv := by
 obtain ⟨mb, M, h1, h2, h3, h4, h5, h6, h7, h8, h9⟩ := h
 refine ⟨mb, M, h1, h2.kept (grown_of_below k.below none) (by simp), fun e he => ?_, h4, Nat.lt_of_lt_of_le h5 k.size, h6, h7, fun e he => ?_, h9⟩
 ·rcases List.mem_append.1 he with he | he
  ·exact h3 e he
  ·have := (k.has e he).2
   omega
 ·obtain ⟨k, q1, q2, q3, q4⟩ := h8 e he
  exact ⟨k, q1, q2, q3, q4.mono (fun e he => List.mem_append_left _ he)⟩
theorem count_set {l : Array Bool} {i : Nat} (hi : i < l.size) (hu : l.getD i true = false) : (l.setIfInBounds i true).toList.count false + 1 = l.toList.count false := by
 rw [Array.toList_setIfInBounds]
 apply count_set_true
 simp only [Array.getD, hi, dif_pos] at hu
 rw [Array.getElem?_toList, Array.getElem?_eq_getElem hi]
 exact congrArg some hu
theorem MapS.list {w0 w : World} {b bm : Nat} {L : LB} {l : Array Bool} {mv : Value} (h : MapS w0 b bm L l w mv) (i : Nat) (hi : i < l.size) (hu : l.getD i true = false) (hne : ∀ k, k < 14 → insI k ≠ i) : MapS w0 b bm L (l.setIfInBounds i true) w mv := by
 obtain ⟨mb, M, h1, h2, h3, h4, h5, h6, h7, h8, h9⟩ := h
 have hc := count_set hi hu
 refine ⟨mb, M, h1, h2, h3, h4, h5, h6, by omega, fun e he => ?_, fun k hk ht => ?_⟩
 ·obtain ⟨k, q1, q2, q3⟩ := h8 e he
  exact ⟨k, q1, T_mono q2, q3⟩
 ·rcases T_set ht with e | ht
  ·exact absurd e (hne k hk)
  ·exact h9 k hk ht
structure FX (w0 : World) (p : TP) (L0 : LB) (l : Array Bool) (a : Act) (w : World) (L : LB) : Prop where
 df : a.defers = []
 sz : a.tmps.size = 166
 ls : l.size = 113
 keep : KeepA p a
 pl : ∀ k, k < 86 → T l (pI k) → sl a (pD k) = pV p k
 sub : ∀ e ∈ L0, e ∈ L
 own : Own w0 [] L w
 s1 : T l 75 → PtrL L 121 p.b offs8 (sl a 131)
 s2 : T l 103 → PtrL L 126 p.b offs7 (sl a 159)
 vals : ∀ k, k < 14 → (∀ j, depI k = some j → T l j) → FValI L p.b p.bm k (sl a (valS k))
 map : T l 0 → MapS w0 p.b p.bm L l w (sl a 68)
 ins0 : ∀ k, k < 14 → T l (insI k) → T l 0
 mv : T l 111 → T l 0 ∧ sl a 165 = sl a 68
 asg : T l 112 → T l 111 ∧ sl a 2 = sl a 165
variable {w0 w w' : World} {p : TP} {L0 L : LB} {l : Array Bool} {a : Act}
theorem keep_put {d : Nat} (h : KeepA p a) (hd : d ∉ [1, 3, 4, 5, 6, 10]) (v : Value) : KeepA p (a.put (some d) v) := by
 simp only [List.mem_cons, List.not_mem_nil, or_false, not_or] at hd
 obtain ⟨h1, h2, h3, h4, h5, h6⟩ := hd
 obtain ⟨k1, k2, k3, k4, k5, k6⟩ := h
 refine ⟨?_, ?_, ?_, ?_, ?_, ?_⟩
 ·rw [sl_other _ _ _ _ (Ne.symm h1)]; exact k1
 ·rw [sl_other _ _ _ _ (Ne.symm h2)]; exact k2
 ·rw [sl_other _ _ _ _ (Ne.symm h3)]; exact k3
 ·rw [sl_other _ _ _ _ (Ne.symm h4)]; exact k4
 ·rw [sl_other _ _ _ _ (Ne.symm h5)]; exact k5
 ·rw [sl_other _ _ _ _ (Ne.symm h6)]; exact k6
theorem pl_other {d i : Nat} (h : FX w0 p L0 l a w L) (v : Value) (hi : i ∈ hardL) (hd : ∀ k, k < 86 → pD k ≠ d) (k : Nat) (hk : k < 86) (ht : T (l.setIfInBounds i true) (pI k)) : sl (a.put (some d) v) (pD k) = pV p k := by
 rw [sl_other _ _ _ _ (hd k hk)]
 rcases T_set ht with e | ht
 ·exact absurd e (pI_hard i hi k hk)
 ·exact h.pl k hk ht
theorem FX.call (h : FX w0 p L0 l a w L) (i d : Nat) (v : Value) {N : LB} (hN : Own w [] N w') (hi : i < 113) (hu : l.getD i true = false) (hne : ∀ k, k < 14 → insI k ≠ i) (h0 : i ≠ 0 ∧ i ≠ 111 ∧ i ≠ 112)
 (hd : d < 166 ∧ d ≠ 68 ∧ d ≠ 165 ∧ d ≠ 2) (hdA : d ∉ [1, 3, 4, 5, 6, 10]) (hpi : ∀ k, k < 86 → pI k = i → pD k = d ∧ v = pV p k) (hpd : ∀ k, k < 86 → pD k = d → pI k = i) (h1 : (i ≠ 75 ∧ d ≠ 131) ∨ (d = 131 ∧ PtrL (L ++ N) 121 p.b offs8 v)) (h2 : (i ≠ 103 ∧ d ≠ 159) ∨ (d = 159 ∧ PtrL (L ++ N) 126 p.b offs7 v))
 (hv : ∀ k, k < 14 → valS k = d → FValI (L ++ N) p.b p.bm k v) (hdep : ∀ k, k < 14 → depI k = some i → valS k = d) : FX w0 p L0 (l.setIfInBounds i true) (a.put (some d) v) w' (L ++ N) := by
 have hL : ∀ e ∈ L, e ∈ L ++ N := fun e he => List.mem_append_left _ he
 have hds : d < a.tmps.size := by rw [h.sz]; exact hd.1
 refine ⟨by rw [put_defers]; exact h.df, by rw [put_size]; exact h.sz, by simp [h.ls], ?_, fun k hk ht => ?_, fun e he => hL e (h.sub e he), h.own.join hN, fun ht => ?_, fun ht => ?_, fun k hk ht => ?_, fun ht => ?_, fun k hk ht => ?_, fun ht => ?_, fun ht => ?_⟩
 ·exact keep_put h.keep hdA v
 ·by_cases e : pD k = d
  ·rw [e, sl_same _ _ _ hds, (hpi k hk (hpd k hk e)).2]
  ·rw [sl_other _ _ _ _ e]
   refine h.pl k hk ?_
   rcases T_set ht with e2 | ht
   ·exact absurd (hpi k hk e2).1 e
   ·exact ht
 ·rcases h1 with ⟨q1, q2⟩ | ⟨rfl, q⟩
  ·rcases T_set ht with e | ht
   ·exact absurd e.symm q1
   ·rw [sl_other _ _ _ _ (Ne.symm q2)]; exact (h.s1 ht).mono hL
  ·rw [sl_same _ _ _ hds]; exact q
 ·rcases h2 with ⟨q1, q2⟩ | ⟨rfl, q⟩
  ·rcases T_set ht with e | ht
   ·exact absurd e.symm q1
   ·rw [sl_other _ _ _ _ (Ne.symm q2)]; exact (h.s2 ht).mono hL
  ·rw [sl_same _ _ _ hds]; exact q
 ·by_cases e : valS k = d
  ·rw [e, sl_same _ _ _ hds]; exact hv k hk e
  ·rw [sl_other _ _ _ _ e]
   refine (h.vals k hk fun j hj => ?_).mono hL
   rcases T_set (ht j hj) with e2 | ht
   ·subst e2; exact absurd (hdep k hk hj) e
   ·exact ht
 ·rw [sl_other _ _ _ _ (Ne.symm hd.2.1)]
  rcases T_set ht with e | ht
  ·exact absurd e.symm h0.1
  ·exact ((h.map ht).grow hN).list i (by rw [h.ls]; exact hi) hu hne
 ·rcases T_set ht with e | ht
  ·exact absurd e (hne k hk)
  ·exact T_mono (h.ins0 k hk ht)
 ·rw [sl_other _ _ _ _ (Ne.symm hd.2.2.1), sl_other _ _ _ _ (Ne.symm hd.2.1)]
  rcases T_set ht with e | ht
  ·exact absurd e.symm h0.2.1
  ·exact ⟨T_mono (h.mv ht).1, (h.mv ht).2⟩
 ·rw [sl_other _ _ _ _ (Ne.symm hd.2.2.2), sl_other _ _ _ _ (Ne.symm hd.2.2.1)]
  rcases T_set ht with e | ht
  ·exact absurd e.symm h0.2.2
  ·exact ⟨T_mono (h.asg ht).1, (h.asg ht).2⟩
theorem not_T {l : Array Bool} {i : Nat} (hi : i < l.size) (hu : l.getD i true = false) : ¬ T l i := fun ht => by
 simp only [T, Array.getD, hi, dif_pos] at hu ht
 rw [hu] at ht; cases ht
theorem FX.make (h : FX w0 p L0 l a w L) (hw0 : w0.heap.size ≤ w.heap.size) (hu : l.getD 0 true = false) : FX w0 p L0 (l.setIfInBounds 0 true) (a.put (some 68) (.map (some w.heap.size))) (w.alloc (.map #[] 0)) L := by
 have hb : Below w.heap.size w (w.alloc (.map #[] 0)) := (Below.refl _ _).alloc (Nat.le_refl _) _
 have hds : 68 < a.tmps.size := by rw [h.sz]; decide
 have hu2 := not_T (by rw [h.ls]; decide) hu
 have hc := count_set (l := l) (i := 0) (by rw [h.ls]; decide) hu
 have hc2 : l.toList.count false ≤ 113 := by rw [← h.ls, ← Array.length_toList]; exact List.count_le_length
 refine ⟨by rw [put_defers]; exact h.df, by rw [put_size]; exact h.sz, by simp [h.ls], ?_, fun k hk ht => ?_, h.sub, h.own.step hb, fun ht => ?_, fun ht => ?_, fun k hk ht => ?_, fun ht => ?_, fun k hk ht => ?_, fun ht => ?_, fun ht => ?_⟩
 ·exact keep_put h.keep (by decide) _
 ·exact pl_other h _ (by decide) (by decide) k hk ht
 ·rw [sl_other _ _ _ _ (by decide)]
  rcases T_set ht with e | ht
  ·cases e
  ·exact h.s1 ht
 ·rw [sl_other _ _ _ _ (by decide)]
  rcases T_set ht with e | ht
  ·cases e
  ·exact h.s2 ht
 ·rw [sl_other _ _ _ _ (valS_68 k hk)]
  refine h.vals k hk fun j hj => ?_
  rcases T_set (ht j hj) with e | ht
  ·subst e; exact absurd hj (depI_0 k hk)
  ·exact ht
 ·rw [sl_same _ _ _ hds]
  refine ⟨w.heap.size, [], rfl, World.ownsMap_made w Try.prog 9 RV, fun e he => Nat.ne_of_lt (h.own.has e he).1.lt, hw0, by simp, List.Pairwise.nil, by show 0 + _ ≤ _; omega, by simp, fun k hk ht => ?_⟩
  rcases T_set ht with e | ht
  ·exact absurd e (insI_0 k hk)
  ·exact absurd (h.ins0 k hk ht) hu2
 ·rcases T_set ht with e | ht
  ·exact absurd e (insI_0 k hk)
  ·exact T_mono (h.ins0 k hk ht)
 ·rcases T_set ht with e | ht
  ·cases e
  ·exact absurd (h.mv ht).1 hu2
 ·rw [sl_other _ _ _ _ (by decide), sl_other _ _ _ _ (by decide)]
  rcases T_set ht with e | ht
  ·cases e
  ·exact ⟨T_mono (h.asg ht).1, (h.asg ht).2⟩
theorem FX.ins (h : FX w0 p L0 l a w L) (k : Nat) (hk : k < 14) (hu : l.getD (insI k) true = false) (h0 : T l 0) (hd : ∀ j, depI k = some j → T l j) : ∃ mb M, sl a 68 = .map (some mb) ∧ w.ownsMap Try.prog 9 RV mb M.length (mkM M) ∧ M.length < 113 ∧
 ∀ w', w'.ownsMap Try.prog 9 RV mb (M.length + 1) ((mkM M).put (flit k) (.held (sl a (valS k)))) → Touch [mb] w w' → FX w0 p L0 (l.setIfInBounds (insI k) true) a w' L := by
 have hi : insI k < 113 := insI_lt k hk
 have hc := count_set (l := l) (i := insI k) (by rw [h.ls]; exact hi) hu
 have hu2 : ¬ T l (insI k) := not_T (by rw [h.ls]; exact hi) hu
 obtain ⟨mb, M, h1, h2, h3, h4, h5, h6, h7, h8, h9⟩ := h.map h0
 refine ⟨mb, M, h1, h2, by omega, fun w' hw ht => ?_⟩
 have hsame : ∀ j, j < 113 → (∀ k, k < 14 → insI k ≠ j) → T (l.setIfInBounds (insI k) true) j → T l j := fun j hj hne hT => by
  rcases T_set hT with e | hT
  ·exact absurd e.symm (hne k hk)
  ·exact hT
 have hlen : (mkM M).put (flit k) (.held (sl a (valS k))) = mkM (M ++ [(flit k, sl a (valS k))]) := (mkM_snoc M _ _).symm
 refine ⟨h.df, h.sz, by simp [h.ls], h.keep, fun i hi2 hT => h.pl i hi2 (hsame _ (pI_lt i hi2).1 (pI_ins i hi2) hT), h.sub, h.own.awayV ht (fun s hs => ?_), fun hT => h.s1 (hsame 75 (by decide) (by decide) hT), fun hT => h.s2 (hsame 103 (by decide) (by decide) hT), fun i hi2 hT => h.vals i hi2 (fun j hj => hsame j (depI_ok' hi2 hj).1 (depI_ok' hi2 hj).2 (hT j hj)), fun hT => ?_, fun i hi2 hT => ?_, fun hT => ⟨T_mono (h.mv (hsame 111 (by decide) (by decide) hT)).1, (h.mv (hsame 111 (by decide) (by decide) hT)).2⟩, fun hT => ⟨T_mono (h.asg (hsame 112 (by decide) (by decide) hT)).1, (h.asg (hsame 112 (by decide) (by decide) hT)).2⟩⟩
 ·obtain rfl : s = mb := by simpa using hs
  refine .inr ⟨h4, fun hm => ?_⟩
  obtain ⟨e, he, e2⟩ := List.mem_map.1 hm
  exact h3 e he e2
 ·rw [h1]
  refine ⟨mb, M ++ [(flit k, sl a (valS k))], rfl, ?_, h3, h4, Nat.lt_of_lt_of_le h5 ht.size, ?_, by rw [List.length_append]; show M.length + 1 + _ ≤ _; omega, fun e he => ?_, fun i hi2 hT => ?_⟩
  ·rw [List.length_append, ← hlen]; exact hw
  ·rw [List.pairwise_append]
   refine ⟨h6, List.pairwise_singleton _ _, fun x hx y hy => ?_⟩
   obtain rfl : y = (flit k, sl a (valS k)) := by simpa using hy
   obtain ⟨i, q1, q2, q3, _⟩ := h8 x hx
   intro e
   rw [q3] at e
   have := flit_inj i q1 k hk e
   subst this
   exact hu2 q2
  ·rcases List.mem_append.1 he with he | he
   ·obtain ⟨i, q1, q2, q3, q4⟩ := h8 e he
    exact ⟨i, q1, T_mono q2, q3, q4⟩
   ·obtain rfl : e = (flit k, sl a (valS k)) := by simpa using he
    exact ⟨k, hk, T_new (by rw [h.ls]; exact hi), rfl, h.vals k hk hd⟩
  ·rcases T_set hT with e | hT
   ·have : i = k := insI_inj i hi2 k hk e
    subst this
    exact ⟨_, List.mem_append_right _ (List.mem_singleton.2 rfl)⟩
   ·obtain ⟨v, hv⟩ := h9 i hi2 hT
    exact ⟨v, List.mem_append_left _ hv⟩
 ·exact T_mono h0
theorem FX.move (h : FX w0 p L0 l a w L) (h0 : T l 0) (hu : l.getD 111 true = false) : FX w0 p L0 (l.setIfInBounds 111 true) (a.put (some 165) (sl a 68)) w L := by
 have hds : 165 < a.tmps.size := by rw [h.sz]; decide
 refine ⟨by rw [put_defers]; exact h.df, by rw [put_size]; exact h.sz, by simp [h.ls], ?_, fun k hk ht => ?_, h.sub, h.own, fun ht => ?_, fun ht => ?_, fun k hk ht => ?_, fun ht => ?_, fun k hk ht => T_mono h0, fun ht => ?_, fun ht => ?_⟩
 ·exact keep_put h.keep (by decide) _
 ·exact pl_other h _ (by decide) (by decide) k hk ht
 ·rw [sl_other _ _ _ _ (by decide)]
  rcases T_set ht with e | ht
  ·cases e
  ·exact h.s1 ht
 ·rw [sl_other _ _ _ _ (by decide)]
  rcases T_set ht with e | ht
  ·cases e
  ·exact h.s2 ht
 ·rw [sl_other _ _ _ _ (valS_165 k hk)]
  refine h.vals k hk fun j hj => ?_
  rcases T_set (ht j hj) with e | ht
  ·subst e; exact absurd hj (depI_111 k hk)
  ·exact ht
 ·rw [sl_other _ _ _ _ (by decide)]
  exact (h.map h0).list 111 (by rw [h.ls]; decide) hu (by decide)
 ·rw [sl_same _ _ _ hds, sl_other _ _ _ _ (by decide)]
  exact ⟨T_mono h0, rfl⟩
 ·rcases T_set ht with e | ht
  ·cases e
  ·exact absurd (h.asg ht).1 (not_T (by rw [h.ls]; decide) hu)
theorem FX.assign (h : FX w0 p L0 l a w L) (h1 : T l 111) (hu : l.getD 112 true = false) : FX w0 p L0 (l.setIfInBounds 112 true) (a.put (some 2) (sl a 165)) w L := by
 have hds : 2 < a.tmps.size := by rw [h.sz]; decide
 refine ⟨by rw [put_defers]; exact h.df, by rw [put_size]; exact h.sz, by simp [h.ls], ?_, fun k hk ht => ?_, h.sub, h.own, fun ht => ?_, fun ht => ?_, fun k hk ht => ?_, fun ht => ?_, fun k hk ht => ?_, fun ht => ?_, fun ht => ?_⟩
 ·exact keep_put h.keep (by decide) _
 ·exact pl_other h _ (by decide) (by decide) k hk ht
 ·rw [sl_other _ _ _ _ (by decide)]
  rcases T_set ht with e | ht
  ·cases e
  ·exact h.s1 ht
 ·rw [sl_other _ _ _ _ (by decide)]
  rcases T_set ht with e | ht
  ·cases e
  ·exact h.s2 ht
 ·rw [sl_other _ _ _ _ (valS_2 k hk)]
  refine h.vals k hk fun j hj => ?_
  rcases T_set (ht j hj) with e | ht
  ·subst e; exact absurd hj (depI_112 k hk)
  ·exact ht
 ·rw [sl_other _ _ _ _ (by decide)]
  rcases T_set ht with e | ht
  ·cases e
  ·exact (h.map ht).list 112 (by rw [h.ls]; decide) hu (by decide)
 ·rcases T_set ht with e | ht
  ·exact absurd e (insI_112 k hk)
  ·exact T_mono (h.ins0 k hk ht)
 ·rw [sl_other _ _ _ _ (by decide), sl_other _ _ _ _ (by decide)]
  rcases T_set ht with e | ht
  ·cases e
  ·exact ⟨T_mono (h.mv ht).1, (h.mv ht).2⟩
 ·rw [sl_same _ _ _ hds, sl_other _ _ _ _ (by decide)]
  exact ⟨T_mono h1, rfl⟩
/-- What fields hands back. -/
def TabR (w0 : World) (b bm : Nat) (mb : Nat) (M : List (Lit × Value)) (L : LB) (w : World) : Prop := w.ownsMap Try.prog 9 RV mb M.length (mkM M) ∧ (∀ e ∈ L, e.1 ≠ mb) ∧ w0.heap.size ≤ mb ∧ mb < w.heap.size ∧ M.Pairwise (fun x y => x.1 ≠ y.1) ∧ M.length ≤ 113 ∧
 (∀ e ∈ M, ∃ k, k < 14 ∧ e.1 = flit k ∧ FValI L b bm k e.2) ∧ (∀ k, k < 14 → ∃ v, (flit k, v) ∈ M)
section
variable {P : Program} {ops : Array Oper} {o : Oper} {K : Act → World → Prop} {Q : Exit → Act → World → Prop} {E : Prop}
theorem step_makeMapV (hgd : o.guard = none) (t : TypeId) (hop : o.op = .makeMap t none) (hK : K (a.put o.dst (.map (some w.heap.size))) (w.alloc (.map #[] 0))) : if Region.wanted o (yielded ops a.tmps) = true then Oper.wp P o a w K Q else E := by
 have hw : Region.wanted o (yielded ops a.tmps) = true := by simp [Region.wanted, hgd]
 rw [if_pos hw]
 unfold Oper.wp execOp
 simp only [hop, Option.map_none, Sem.run_bind, run_makeMap, Result.andThen_ok]
 exact hK
theorem step_insertV (hgd : o.guard = none) (m x v : Operand) (t : TypeId) (hop : o.op = .insert t m x v)
 (k e : TypeId) (KK : Keyed P k) (ht : P.underlying t = some (.map k e)) (mb n : Nat) (D : DataW Value)
 (hm : a.eval m = .map (some mb)) (hown : w.ownsMap P k RV mb n D) (hn : n < maxLen) (key val : Value) (kl : Lit) (hx : a.eval x = key) (hv : a.eval v = val) (hkey : keyOf P k key = some kl)
 (hK : ∀ w', w'.ownsMap P k RV mb (n + 1) (D.put kl (.held val)) → Touch [mb] w w' → K (a.put o.dst undef) w') : if Region.wanted o (yielded ops a.tmps) = true then Oper.wp P o a w K Q else E := by
 have hw : Region.wanted o (yielded ops a.tmps) = true := by simp [Region.wanted, hgd]
 rw [if_pos hw]
 obtain ⟨w', hrun, r1, r2⟩ := hown.store KK ht hn hkey (d := .held val) (ps := []) rfl
 unfold Oper.wp
 simp [execOp, hop, hm, hx, hv, hrun, Result.andThen]
 exact hK w' r1 (Touch.map r2)
/-- The hard operations of the region. -/
structure OpsT (ops : Array Oper) : Prop where
 size : ops.size = 113
 back : backEdges ops = true
 make : ∃ o, ops[0]? = some o ∧ o.dst = some 68 ∧ o.guard = none ∧ o.op = .makeMap 96 none
 num : ∀ c ∈ ([(4, 72, 71, 0, 8), (9, 76, 75, 1, 8), (14, 80, 79, 1, 9223372036854775807), (17, 82, 81, 0, 17), (22, 86, 85, 0, 9223372036854775807), (27, 90, 89, 1, 9223372036854775807), (32, 94, 93, 1, 9223372036854775807)] : List (Nat × Nat × Nat × Int × Int)), ∃ o, ops[c.1]? = some o ∧ o.dst = some c.2.1 ∧ o.guard = none ∧ o.op = .call { callee := .value (.func 60), args := #[.tmp c.2.2.1, .const (.int .i64 c.2.2.2.1), .const (.int .i64 c.2.2.2.2)], argTypes := #[121, 3, 3] }
 ins : ∀ k, k < 14 → ∃ o, ops[insI k]? = some o ∧ o.dst = none ∧ o.guard = none ∧ o.op = .insert 96 (.tmp 68) (.const (.string (fname k))) (.tmp (valS k)) ∧ (o.after.toList.any fun e => e.on == 0 && Region.binds .any e) = true ∧ (∀ j, depI k = some j → (o.after.toList.any fun e => e.on == j && Region.binds .any e) = true)
 sl8 : ∃ o, ops[75]? = some o ∧ o.dst = some 131 ∧ o.guard = none ∧ o.op = .buildSlice 125 8 #[(0, .tmp 109), (1, .tmp 112), (2, .tmp 115), (3, .tmp 118), (4, .tmp 121), (5, .tmp 124), (6, .tmp 127), (7, .tmp 130)]
 sl7 : ∃ o, ops[103]? = some o ∧ o.dst = some 159 ∧ o.guard = none ∧ o.op = .buildSlice 127 7 #[(0, .tmp 135), (1, .tmp 139), (2, .tmp 143), (3, .tmp 147), (4, .tmp 151), (5, .tmp 155), (6, .tmp 158)]
 parts : ∃ o, ops[104]? = some o ∧ o.dst = some 160 ∧ o.guard = none ∧ o.op = .call { callee := .value (.func 51), args := #[.tmp 131, .tmp 159], argTypes := #[125, 127] } ∧ (o.after.toList.any fun e => e.on == 75 && Region.binds .any e) = true ∧ (o.after.toList.any fun e => e.on == 103 && Region.binds .any e) = true
 move : ∃ o, ops[111]? = some o ∧ o.dst = some 165 ∧ o.guard = none ∧ o.op = .move (.tmp 68) ∧ (o.after.toList.any fun e => e.on == 0 && Region.binds .any e) = true
 asg : ∃ o, ops[112]? = some o ∧ o.dst = some 2 ∧ o.guard = none ∧ o.op = .assign (.tmp 165) ∧ (o.after.toList.any fun e => e.on == 111 && Region.binds .any e) = true
end
end Go.Proofs.Ytpbgelhjbfckcaa
