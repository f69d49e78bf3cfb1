/- How large what is read can be (plain). -/
import Derived.Test.YtpbgelhjbfckcaaT19
namespace Go.Proofs.Ytpbgelhjbfckcaa
set_option linter.unusedVariables false
set_option linter.unusedSimpArgs false

section
attribute [local irreducible] rList rGL rText rCnt rBool rInt rInts rCount
theorem rEn_size (r : RS) {N : Nat} (h : r.1.length ≤ N) : (rEn r).2.size ≤ 6 * N + 40 := by
  have h1 := rList_len 5 r
  have h2 := rText_both (rList 5 r).1
  have h3 := rList_len 4 (rText (rList 5 r).1).1
  have g1 := rGL_size (rList 4 (rText (rList 5 r).1).1).1
  have l1 := rGL_len (rList 4 (rText (rList 5 r).1).1).1
  have g2 := rGL_size (rGL (rList 4 (rText (rList 5 r).1).1).1).1
  have l2 := rGL_len (rGL (rList 4 (rText (rList 5 r).1).1).1).1
  have g3 := rGL_size (rGL (rGL (rList 4 (rText (rList 5 r).1).1).1).1).1
  have l3 := rGL_len (rGL (rGL (rList 4 (rText (rList 5 r).1).1).1).1).1
  have g4 := rGL_size (rGL (rGL (rGL (rList 4 (rText (rList 5 r).1).1).1).1).1).1
  have l4 := rGL_len (rGL (rGL (rGL (rList 4 (rText (rList 5 r).1).1).1).1).1).1
  have g5 := rGL_size (rGL (rGL (rGL (rGL (rList 4 (rText (rList 5 r).1).1).1).1).1).1).1
  have e0 : (rEn r).2.body.size = (rText (rList 5 r).1).2.length := by show (List.toArray _).size = _; rw [List.size_toArray]
  have e1 : (rEn r).2.cf = (rGL (rList 4 (rText (rList 5 r).1).1).1).2 := rfl
  have e2 : (rEn r).2.ct = (rGL (rGL (rList 4 (rText (rList 5 r).1).1).1).1).2 := rfl
  have e3 : (rEn r).2.co = (rGL (rGL (rGL (rList 4 (rText (rList 5 r).1).1).1).1).1).2 := rfl
  have e4 : (rEn r).2.cn = (rGL (rGL (rGL (rGL (rList 4 (rText (rList 5 r).1).1).1).1).1).1).2 := rfl
  have e5 : (rEn r).2.cl = (rGL (rGL (rGL (rGL (rGL (rList 4 (rText (rList 5 r).1).1).1).1).1).1).1).2 := rfl
  unfold En.size
  rw [e0, e1, e2, e3, e4, e5]
  omega
end
theorem rEns_ok {N : Nat} (hN : N ≤ 1000000000) (n : Nat) (r : RS) (h : r.1.length ≤ N) : ∀ x ∈ (rEns n r).2, x.Ok ∧ x.size ≤ 6 * N + 40 := by
  induction n with
  | zero => intro x hx; cases hx
  | succ n ih =>
    intro x hx
    rcases List.mem_append.1 (show x ∈ (rEns n r).2 ++ [_] from hx) with h1 | h1
    · exact ih x h1
    · rw [List.mem_singleton.1 h1]
      have h2 := Nat.le_trans (rEns_len n r) h
      exact ⟨rEn_ok _ (Nat.le_trans h2 hN), rEn_size _ h2⟩
theorem rLists_sz (n : Nat) (r : RS) : ∀ x ∈ (rLists n r).2, x.length ≤ r.1.length := by
  induction n with
  | zero => intro x hx; cases hx
  | succ n ih =>
    intro x hx
    rcases List.mem_append.1 (show x ∈ (rLists n r).2 ++ [_] from hx) with h1 | h1
    · exact ih x h1
    · rw [List.mem_singleton.1 h1]
      have h2 := rLists_len n r
      have h3 : (rInts (rLists n r).1).2.length ≤ (rLists n r).1.1.length := by
        unfold rInts
        rw [rList_size]
        have := rCount_le (rLists n r).1.1.length (by omega) (rLists n r).1
        omega
      omega
/-- Nothing in it is longer than N. -/
structure Bnd (N : Nat) (p : PM) : Prop where
  li : ∀ o, (p.li o).length ≤ N
  body : p.body.size ≤ N
  d : p.d.size ≤ N
  l : p.l.length ≤ N
  en : ∀ x ∈ p.l, x.Ok ∧ x.size ≤ 6 * N + 40
theorem updN_len {N : Nat} (ps : List (Nat × List Int)) (f : Nat → List Int) (hf : ∀ o, (f o).length ≤ N) (hp : ∀ p ∈ ps, p.2.length ≤ N) : ∀ o, (updN f ps o).length ≤ N := by
  induction ps generalizing f with
  | nil => exact hf
  | cons p r ih =>
    refine ih (upd f p.1 p.2) (fun o => ?_) (fun q hq => hp q (by simp [hq]))
    unfold upd
    split
    · exact hp p (by simp)
    · exact hf o
section
attribute [local irreducible] rList rGL rText rCnt rBool rInt rInts rCount rEns
theorem dMsg_bnd {N : Nat} (hN : N ≤ 1000000000) (s : List UInt8) (hs : s.length ≤ N) : (dMsg s).d.size ≤ N ∧ (dMsg s).l.length ≤ N ∧ ∀ x ∈ (dMsg s).l, x.Ok ∧ x.size ≤ 6 * N + 40 := by
  unfold dMsg
  split
  · have h1 := rList_len 9 (s, 0)
    have h2 : (rBool (rList 9 (s, 0)).1).1.1.length ≤ (rList 9 (s, 0)).1.1.length := rBool_len (rList 9 (s, 0)).1.1 (rList 9 (s, 0)).1.2
    have h3 : (rBool (rBool (rList 9 (s, 0)).1).1).1.1.length ≤ (rBool (rList 9 (s, 0)).1).1.1.length := rBool_len (rBool (rList 9 (s, 0)).1).1.1 (rBool (rList 9 (s, 0)).1).1.2
    have h4 := rText_both (rBool (rBool (rList 9 (s, 0)).1).1).1
    have h5 := rCnt_len (rText (rBool (rBool (rList 9 (s, 0)).1).1).1).1
    have h6 := rCnt_le (rText (rBool (rBool (rList 9 (s, 0)).1).1).1).1
    simp only at h1
    have e : (rMsg s).2.d.size = (rText (rBool (rBool (rList 9 (s, 0)).1).1).1).2.length := by show (List.toArray _).size = _; rw [List.size_toArray]
    refine ⟨by rw [e]; omega, ?_, ?_⟩
    · show (rEns _ _).2.length ≤ N
      rw [rEns_size]
      omega
    · exact rEns_ok hN _ _ (by omega)
  · exact ⟨Nat.zero_le _, Nat.zero_le _, by intro x hx; cases hx⟩
end
section
attribute [local irreducible] rList rGL rText rCnt rBool rInt rInts rCount rLists dMsg
theorem rPart_bnd {N : Nat} (ns ls : List Nat) (p : PM) (r : RS) (h : Bnd N p) (hr : r.1.length ≤ N) : Bnd N (rPart ns ls p r).1 :=
  ⟨updN_len _ _ h.li (fun q hq => by
    obtain ⟨x, y⟩ := q
    have h1 := rLists_sz _ _ y (List.of_mem_zip hq).2
    have h2 := rList_len ns.length r
    exact Nat.le_trans h1 (Nat.le_trans h2 hr)), h.body, h.d, h.l, h.en⟩
theorem rF_bnd {N : Nat} (hN : N ≤ 1000000000) (k : Nat) (p : PM) (r : RS) (h : Bnd N p) (hr : r.1.length ≤ N) : Bnd N (rF k p r).1 := by
  have num : ∀ o, Bnd N (rNumF o p r).1 := fun o => ⟨h.li, h.body, h.d, h.l, h.en⟩
  have : k = 0 ∨ k = 1 ∨ k = 2 ∨ k = 3 ∨ k = 4 ∨ k = 5 ∨ k = 6 ∨ k = 7 ∨ k = 8 ∨ k = 9 ∨ k = 10 ∨ k = 11 ∨ k = 12 ∨ ∃ j, k = j + 13 := by
    by_cases h : k < 13
    · omega
    · exact .inr (.inr (.inr (.inr (.inr (.inr (.inr (.inr (.inr (.inr (.inr (.inr (.inr ⟨k - 13, by omega⟩))))))))))))
  rcases this with rfl | rfl | rfl | rfl | rfl | rfl | rfl | rfl | rfl | rfl | rfl | rfl | rfl | ⟨j, rfl⟩
  · exact num _
  · exact num _
  · exact num _
  · exact num _
  · exact num _
  · exact num _
  · exact num _
  · refine ⟨h.li, ?_, h.d, h.l, h.en⟩
    show (List.toArray _).size ≤ N
    rw [List.size_toArray]
    exact Nat.le_trans (rText_both r).2 hr
  · exact num _
  · exact rPart_bnd _ _ _ _ h hr
  · exact ⟨h.li, h.body, h.d, h.l, h.en⟩
  · exact rPart_bnd _ _ _ _ h hr
  · exact rPart_bnd _ _ _ _ h hr
  · have h1 := dMsg_bnd hN (rText r).2 (Nat.le_trans (rText_both r).2 hr)
    exact ⟨h.li, h.body, h1.1, h1.2.1, h1.2.2⟩
end
theorem rFs_bnd {N : Nat} (hN : N ≤ 1000000000) (ix : List Nat) : ∀ (x : PM × RS), Bnd N x.1 → x.2.1.length ≤ N → Bnd N (rFs ix x).1 := by
  induction ix with
  | nil => intro x h _; exact h
  | cons k r ih =>
    intro x h hl
    exact ih (rF k x.1 x.2) (rF_bnd hN k x.1 x.2 h hl) (Nat.le_trans (rF_len k x.1 x.2) hl)
theorem pm0_bnd (N : Nat) (k : Int) : Bnd N (pm0 k) := ⟨fun _ => Nat.zero_le _, Nat.zero_le _, Nat.zero_le _, Nat.zero_le _, by intro x hx; cases hx⟩
theorem dec_bnd {N : Nat} (hN : N ≤ 1000000000) (s : List UInt8) (hs : s.length ≤ N) : Bnd N (dec s).1 := by
  unfold dec
  exact rFs_bnd hN _ _ (pm0_bnd N _) (Nat.le_trans (rCount_len 11 s 0) hs)
theorem totE_bnd {M : Nat} (l : List En) (h : ∀ x ∈ l, x.size ≤ M) : totE l ≤ l.length * M := by
  unfold totE
  induction l with
  | nil => simp
  | cons x r ih =>
    rw [List.map_cons, List.sum_cons, List.length_cons, Nat.succ_mul]
    have := ih (fun y hy => h y (by simp [hy]))
    have := h x (by simp)
    omega
theorem dec_sz (s : List UInt8) (hs : s.length ≤ 2000) : SzOk (dec s).1 := by
  have h := dec_bnd (N := 2000) (by decide) s hs
  refine ⟨?_, fun x hx => (h.en x hx).1⟩
  have h1 := totE_bnd (M := 12040) (dec s).1.l (fun x hx => (h.en x hx).2)
  have h2 : (dec s).1.l.length * 12040 ≤ 2000 * 12040 := Nat.mul_le_mul_right _ h.l
  have hb := h.body
  have hd := h.d
  have hl := h.l
  have l11 := h.li 11
  have l12 := h.li 12
  have l26 := h.li 26
  have l27 := h.li 27
  have l28 := h.li 28
  have l29 := h.li 29
  have l30 := h.li 30
  have l31 := h.li 31
  have l32 := h.li 32
  have l33 := h.li 33
  simp only [totL, lOffs, List.map_cons, List.map_nil, List.sum_cons, List.sum_nil]
  omega
end Go.Proofs.Ytpbgelhjbfckcaa
