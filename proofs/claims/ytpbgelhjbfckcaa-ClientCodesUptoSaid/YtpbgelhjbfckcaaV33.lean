/- Reading inverts writing (plain). -/
import Derived.Test.YtpbgelhjbfckcaaV15
namespace Go.Proofs.Ytpbgelhjbfckcaa
set_option linter.unusedVariables false
set_option linter.unusedSimpArgs false
theorem inv_num (n : Nat) (hn : n < 2 ^ 64) (t : List UInt8) : rNum (enc n ++ t, 0) = ((t, 0), n) := by simp [rNum, parseN_enc n hn]
theorem inv_int (x : Int) (h : I64 x) (t : List UInt8) : rInt (encI x ++ t, 0) = ((t, 0), x) := by
 unfold rInt encI; rw [inv_num _ (zig_lt x h.1 h.2), zag_zig]
theorem inv_bool (x : Bool) (t : List UInt8) : rBool ([bb x] ++ t, 0) = ((t, 0), x) := by cases x <;> rfl
theorem inv_text (s : ByteArray) (hs : s.size < 2 ^ 64) (t : List UInt8) : rText (encT s ++ t, 0) = ((t, 0), s.data.toList) := by
 have hl : s.data.toList.length = s.size := rfl
 unfold rText encT
 simp only [if_true]
 rw [List.append_assoc, parseN_enc _ hs]
 simp only
 rw [if_neg (by rw [List.length_append]; omega), ← hl, List.drop_left, List.take_left]
theorem inv_count (x : Int) (n : Nat) (hn : n < 2 ^ 64) (h : ¬ x < (n : Int)) (t : List UInt8) : rCount x (enc n ++ t, 0) = ((t, 0), n) := by
 unfold rCount
 simp [parseN_enc n hn, h]
theorem str_same (s : ByteArray) : (⟨s.data.toList.toArray⟩ : ByteArray) = s := by cases s; simp
theorem inv_list : ∀ (n : Nat) (l : List Int), l.length = n → (∀ x ∈ l, I64 x) → ∀ t, rList n (l.flatMap encI ++ t, 0) = ((t, 0), l)
 | 0, l, h, _, t => by rw [List.eq_nil_of_length_eq_zero h]; rfl
 | n + 1, l, h, hi, t => by
  rcases List.eq_nil_or_concat l with rfl | ⟨L, b, rfl⟩
  ·cases h
  ·rw [List.concat_eq_append] at *
   have e : (L ++ [b]).flatMap encI ++ t = L.flatMap encI ++ (encI b ++ t) := by simp [List.flatMap_append]
   have ih := inv_list n L (by simpa using h) (fun x hx => hi x (by simp [hx])) (encI b ++ t)
   rw [e]
   show ((rInt (rList n _).1).1, (rList n _).2 ++ [(rInt (rList n _).1).2]) = _
   rw [ih, inv_int b (hi b (by simp)) t]
theorem encI_pos (x : Int) : 1 ≤ (encI x).length := by unfold encI enc; simp
theorem flat_ge (l : List Int) : l.length ≤ (l.flatMap encI).length := by
 induction l with
 | nil => exact Nat.le_refl _
 | cons x r ih => rw [List.flatMap_cons, List.length_append, List.length_cons]; have := encI_pos x; omega
theorem inv_cnt (n : Nat) (t : List UInt8) (hn : n ≤ t.length) (hb : n ≤ 2 ^ 60) : rCnt (encI n ++ t, 0) = ((t, 0), n) := by
 unfold rCnt
 rw [inv_int n ⟨by omega, by omega⟩ t, if_neg (by simp only; omega)]
 simp
theorem inv_q (l : List Int) (h : ∀ x ∈ l, I64 x) (hb : l.length ≤ 2 ^ 60) (t : List UInt8) : rGL (encQ l ++ t, 0) = ((t, 0), l) := by
 unfold rGL encQ
 rw [List.append_assoc, inv_cnt _ _ (by rw [List.length_append]; have := flat_ge l; omega) hb]
 exact inv_list _ l rfl h t
theorem inv_ints (l : List Int) (h : ∀ x ∈ l, I64 x) (hb : l.length ≤ 2 ^ 60) (t : List UInt8) : rInts (encL l ++ t, 0) = ((t, 0), l) := by
 unfold rInts encL
 rw [List.append_assoc, inv_count _ _ (by omega) (by simp only [List.length_append]; have := flat_ge l; omega)]
 exact inv_list _ l rfl h t
theorem inv_lists : ∀ (n : Nat) (l : List (List Int)), l.length = n → (∀ x ∈ l, (∀ y ∈ x, I64 y) ∧ x.length ≤ 2 ^ 60) → ∀ t, rLists n (encLs l ++ t, 0) = ((t, 0), l)
 | 0, l, h, _, t => by rw [List.eq_nil_of_length_eq_zero h]; rfl
 | n + 1, l, h, hi, t => by
  rcases List.eq_nil_or_concat l with rfl | ⟨L, b, rfl⟩
  ·cases h
  ·rw [List.concat_eq_append] at *
   have e : encLs (L ++ [b]) ++ t = encLs L ++ (encL b ++ t) := by simp [encLs, List.flatMap_append]
   have ih := inv_lists n L (by simpa using h) (fun x hx => hi x (by simp [hx])) (encL b ++ t)
   rw [e]
   show ((rInts (rLists n _).1).1, (rLists n _).2 ++ [(rInts (rLists n _).1).2]) = _
   rw [ih, inv_ints b (hi b (by simp)).1 (hi b (by simp)).2 t]
theorem inv_en (x : En) (h : x.Ok) (t : List UInt8) : rEn (encE x ++ t, 0) = ((t, 0), x) := by
 have hi := h.ints;have hl := h.lists
 have i5 := fun t => inv_list 5 [x.index, x.term, x.kind, x.client, x.number] rfl (fun y hy => hi y (by simp only [List.mem_cons, List.not_mem_nil, or_false] at hy ⊢; rcases hy with h | h | h | h | h <;> simp [h])) t
 have i4 := fun t => inv_list 4 [x.gen, x.step, x.ck, x.cm] rfl (fun y hy => hi y (by simp only [List.mem_cons, List.not_mem_nil, or_false] at hy ⊢; rcases hy with h | h | h | h <;> simp [h])) t
 have e : encE x ++ t = [x.index, x.term, x.kind, x.client, x.number].flatMap encI ++ (encT x.body ++ ([x.gen, x.step, x.ck, x.cm].flatMap encI ++ (encQ x.cf ++ (encQ x.ct ++ (encQ x.co ++ (encQ x.cn ++ (encQ x.cl ++ t))))))) := by
  unfold encE encC
  simp only [List.append_assoc]
 rw [e]
 unfold rEn
 simp only [i5, inv_text x.body (Nat.lt_of_lt_of_le h.body (by decide)), i4, inv_q x.cf (hl _ (by simp)).1 (hl _ (by simp)).2, inv_q x.ct (hl _ (by simp)).1 (hl _ (by simp)).2, inv_q x.co (hl _ (by simp)).1 (hl _ (by simp)).2, inv_q x.cn (hl _ (by simp)).1 (hl _ (by simp)).2, inv_q x.cl (hl _ (by simp)).1 (hl _ (by simp)).2, str_same]
 rfl
theorem inv_ens : ∀ (n : Nat) (l : List En), l.length = n → (∀ x ∈ l, x.Ok) → ∀ t, rEns n (l.flatMap encE ++ t, 0) = ((t, 0), l)
 | 0, l, h, _, t => by rw [List.eq_nil_of_length_eq_zero h]; rfl
 | n + 1, l, h, hi, t => by
  rcases List.eq_nil_or_concat l with rfl | ⟨L, b, rfl⟩
  ·cases h
  ·rw [List.concat_eq_append] at *
   have e : (L ++ [b]).flatMap encE ++ t = L.flatMap encE ++ (encE b ++ t) := by simp [List.flatMap_append]
   have ih := inv_ens n L (by simpa using h) (fun x hx => hi x (by simp [hx])) (encE b ++ t)
   rw [e]
   show ((rEn (rEns n _).1).1, (rEns n _).2 ++ [(rEn (rEns n _).1).2]) = _
   rw [ih, inv_en b (hi b (by simp)) t]
theorem encE_pos (x : En) : 1 ≤ (encE x).length := by
 unfold encE
 rw [List.length_append, List.flatMap_cons, List.length_append]
 have := encI_pos x.index
 omega
theorem flatE_ge (l : List En) : l.length ≤ (l.flatMap encE).length := by
 induction l with
 | nil => exact Nat.le_refl _
 | cons x r ih => rw [List.flatMap_cons, List.length_append, List.length_cons]; have := encE_pos x; omega
theorem inv_msg (is : List Int) (gr dn : Bool) (d : ByteArray) (l : List En) (h9 : is.length = 9) (hi : ∀ x ∈ is, I64 x) (hd : d.size < 2 ^ 60) (hl : ∀ x ∈ l, x.Ok) (hn : l.length ≤ 2 ^ 60) : rMsg (encM is gr dn d l) = (([], 0), ⟨is, gr, dn, d, l⟩) := by
 unfold rMsg encM
 have h1 := inv_ens l.length l rfl hl []
 rw [List.append_nil] at h1
 simp only [inv_list 9 is h9 hi, inv_bool, inv_text d (Nat.lt_of_lt_of_le hd (by decide)), inv_cnt l.length (l.flatMap encE) (flatE_ge l) hn, h1, str_same]
theorem dMsg_enc (is : List Int) (gr dn : Bool) (d : ByteArray) (l : List En) (h9 : is.length = 9) (hi : ∀ x ∈ is, I64 x) (hd : d.size < 2 ^ 60) (hl : ∀ x ∈ l, x.Ok) (hn : l.length ≤ 2 ^ 60) : dMsg (encM is gr dn d l) = ⟨is, gr, dn, d, l⟩ := by
 unfold dMsg
 rw [inv_msg is gr dn d l h9 hi hd hl hn]
 rfl
end Go.Proofs.Ytpbgelhjbfckcaa
