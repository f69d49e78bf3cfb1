/- CRC-32 in plain Lean: one bit's step, a byte's step, the table, sums; they are linear. -/
namespace Go.Proofs.Ytmnebingmedloaa
set_option linter.unusedVariables false

/-- One step of the register. -/
def st (x : BitVec 32) : BitVec 32 := if x &&& 1#32 = 1#32 then (x >>> 1) ^^^ 3988292384#32 else x >>> 1
def stN : Nat → BitVec 32 → BitVec 32
  | 0, x => x
  | n + 1, x => stN n (st x)
/-- A byte as a register. -/
def ext (c : UInt8) : BitVec 32 := c.toBitVec.setWidth 32
def reg (r : BitVec 32) (l : List UInt8) : BitVec 32 := l.foldl (fun r c => stN 8 (r ^^^ ext c)) r
def upd (s : BitVec 32) (l : List UInt8) : BitVec 32 := ~~~ (reg (~~~ s) l)
def tab (i : Nat) : BitVec 32 := stN 8 (BitVec.ofNat 32 i)

theorem stN_add (m n : Nat) (x : BitVec 32) : stN (m + n) x = stN n (stN m x) := by
  induction m generalizing x with
  | zero => simp [stN]
  | succ m ih => rw [Nat.succ_add]; simp only [stN]; exact ih _
theorem stN_succ (n : Nat) (x : BitVec 32) : stN (n + 1) x = st (stN n x) := by rw [stN_add]; rfl

theorem and_one (x : BitVec 32) : (x &&& 1#32 = 1#32) ↔ x.getLsbD 0 = true := by
  constructor
  · intro h
    have := congrArg (fun y => y.getLsbD 0) h
    simpa using this
  · intro h
    apply BitVec.eq_of_getLsbD_eq
    intro i hi
    rw [BitVec.getLsbD_and]
    cases i with
    | zero => simpa using h
    | succ i =>
      have : (1#32).getLsbD (i + 1) = false := by
        rw [BitVec.getLsbD_one]; simp
      rw [this]; simp
theorem st_def (x : BitVec 32) : st x = if x.getLsbD 0 then (x >>> 1) ^^^ 3988292384#32 else x >>> 1 := by
  unfold st
  by_cases h : x.getLsbD 0 = true
  · rw [if_pos ((and_one x).2 h), if_pos h]
  · rw [if_neg (fun e => h ((and_one x).1 e)), if_neg h]
theorem ushr_xor (a b : BitVec 32) (n : Nat) : (a ^^^ b) >>> n = (a >>> n) ^^^ (b >>> n) := by
  apply BitVec.eq_of_getLsbD_eq
  intro i hi
  simp
theorem st_xor (a b : BitVec 32) : st (a ^^^ b) = st a ^^^ st b := by
  rw [st_def, st_def, st_def, ushr_xor, BitVec.getLsbD_xor]
  generalize a >>> 1 = x
  generalize b >>> 1 = y
  generalize 3988292384#32 = p
  cases a.getLsbD 0 <;> cases b.getLsbD 0 <;> simp
  · rw [BitVec.xor_assoc]
  · rw [BitVec.xor_assoc, BitVec.xor_assoc, BitVec.xor_comm y p]
  · rw [show x ^^^ p ^^^ (y ^^^ p) = (x ^^^ y) ^^^ (p ^^^ p) from by rw [BitVec.xor_assoc, BitVec.xor_assoc, ← BitVec.xor_assoc p y p, BitVec.xor_comm p y, BitVec.xor_assoc y p p], BitVec.xor_self, BitVec.xor_zero]
theorem stN_xor (n : Nat) (a b : BitVec 32) : stN n (a ^^^ b) = stN n a ^^^ stN n b := by
  induction n generalizing a b with
  | zero => rfl
  | succ n ih => simp only [stN]; rw [st_xor, ih]
theorem st_zero : st 0#32 = 0#32 := by decide
theorem stN_zero (n : Nat) : stN n 0#32 = 0#32 := by
  induction n with
  | zero => rfl
  | succ n ih => simp only [stN, st_zero]; exact ih
theorem st_inj0 (x : BitVec 32) (h : st x = 0#32) : x = 0#32 := by
  rw [st_def] at h
  by_cases h0 : x.getLsbD 0 = true
  · rw [if_pos h0] at h
    have h31 := congrArg (fun y => y.getLsbD 31) h
    simp at h31
  · rw [if_neg h0] at h
    apply BitVec.eq_of_getLsbD_eq
    intro i hi
    cases i with
    | zero => simpa using h0
    | succ i =>
      have hb := congrArg (fun y => y.getLsbD i) h
      simp at hb
      rw [Nat.add_comm] at hb
      simpa using hb
theorem stN_inj0 (n : Nat) (x : BitVec 32) (h : stN n x = 0#32) : x = 0#32 := by
  induction n generalizing x with
  | zero => exact h
  | succ n ih => exact st_inj0 x (ih _ h)
theorem xor_self_zero {a b : BitVec 32} (h : a ^^^ b = 0#32) : a = b := by
  have := congrArg (· ^^^ b) h
  simpa [BitVec.xor_assoc] using this
theorem stN_inj (n : Nat) {a b : BitVec 32} (h : stN n a = stN n b) : a = b := by
  apply xor_self_zero
  apply stN_inj0 n
  rw [stN_xor, h, BitVec.xor_self]

/-- What has no low bits is only shifted. -/
theorem stN_high (n : Nat) (x : BitVec 32) (h : ∀ i, i < n → x.getLsbD i = false) : stN n x = x >>> n := by
  induction n generalizing x with
  | zero => simp [stN]
  | succ n ih =>
    have hs : st x = x >>> 1 := by rw [st_def, if_neg (by rw [h 0 (by omega)]; simp)]
    simp only [stN]
    rw [hs, ih]
    · rw [Nat.add_comm]; exact (BitVec.shiftRight_add x 1 n).symm
    · intro i hi
      rw [BitVec.getLsbD_ushiftRight]
      exact h (1 + i) (by omega)
/-- The table's step. -/
theorem table_step (x : BitVec 32) (c : UInt8) : (x >>> 8) ^^^ tab (x.setWidth 8 ^^^ c.toBitVec).toNat = stN 8 (x ^^^ ext c) := by
  have hx : x = (x >>> 8 <<< 8) ^^^ (x.setWidth 8).setWidth 32 := by
    apply BitVec.eq_of_getLsbD_eq
    intro i hi
    rw [BitVec.getLsbD_xor, BitVec.getLsbD_shiftLeft, BitVec.getLsbD_ushiftRight, BitVec.getLsbD_setWidth, BitVec.getLsbD_setWidth]
    by_cases h8 : i < 8
    · simp [h8, hi]
    · simp [h8, hi, show 8 + (i - 8) = i by omega]
  have ht : BitVec.ofNat 32 (x.setWidth 8 ^^^ c.toBitVec).toNat = (x.setWidth 8).setWidth 32 ^^^ ext c := by
    unfold ext
    apply BitVec.eq_of_toNat_eq
    generalize x.setWidth 8 = y
    have h1 := y.isLt
    have h2 := c.toBitVec.isLt
    rw [BitVec.toNat_ofNat, BitVec.toNat_xor, BitVec.toNat_xor, BitVec.toNat_setWidth 32 y, BitVec.toNat_setWidth 32 c.toBitVec]
    rw [Nat.mod_eq_of_lt (by omega : y.toNat < 2 ^ 32), Nat.mod_eq_of_lt (by omega : c.toBitVec.toNat < 2 ^ 32)]
    exact Nat.mod_eq_of_lt (Nat.lt_of_lt_of_le (Nat.xor_lt_two_pow h1 h2) (by decide))
  have hh : stN 8 (x >>> 8 <<< 8) = x >>> 8 := by
    rw [stN_high]
    · apply BitVec.eq_of_getLsbD_eq
      intro i hi
      simp only [BitVec.getLsbD_ushiftRight, BitVec.getLsbD_shiftLeft]
      by_cases h : 8 + i < 32
      · simp [h]
      · simp [h]
        exact BitVec.getLsbD_of_ge x _ (by omega)
    · intro i hi
      simp [BitVec.getLsbD_shiftLeft, hi]
  unfold tab
  rw [ht]
  conv => rhs; rw [hx]
  rw [BitVec.xor_assoc, stN_xor 8 (x >>> 8 <<< 8), hh]

theorem reg_cons (r : BitVec 32) (c : UInt8) (l : List UInt8) : reg r (c :: l) = reg (stN 8 (r ^^^ ext c)) l := rfl
theorem reg_append (r : BitVec 32) (a b : List UInt8) : reg r (a ++ b) = reg (reg r a) b := by unfold reg; rw [List.foldl_append]
theorem reg_snoc (r : BitVec 32) (l : List UInt8) (c : UInt8) : reg r (l ++ [c]) = stN 8 (reg r l ^^^ ext c) := by rw [reg_append]; rfl
theorem reg_take_succ (r : BitVec 32) (l : List UInt8) (k : Nat) (x : UInt8) (h : l[k]? = some x) : reg r (l.take (k + 1)) = stN 8 (reg r (l.take k) ^^^ ext x) := by
  rw [List.take_add_one, h]
  exact reg_snoc _ _ _
theorem ext_xor (a b : UInt8) : ext (a ^^^ b) = ext a ^^^ ext b := by
  unfold ext
  apply BitVec.eq_of_getLsbD_eq
  intro i hi
  rw [BitVec.getLsbD_xor, BitVec.getLsbD_setWidth, BitVec.getLsbD_setWidth, BitVec.getLsbD_setWidth]
  show (decide (i < 32) && (a.toBitVec ^^^ b.toBitVec).getLsbD i) = _
  rw [BitVec.getLsbD_xor]
  simp [hi]
/-- Registers add up. -/
theorem reg_xor (a b : List UInt8) (h : a.length = b.length) (r s : BitVec 32) : reg (r ^^^ s) (List.zipWith (· ^^^ ·) a b) = reg r a ^^^ reg s b := by
  induction a generalizing b r s with
  | nil => cases b with | nil => rfl | cons y b => simp at h
  | cons x a ih =>
    cases b with
    | nil => simp at h
    | cons y b =>
      rw [List.zipWith_cons_cons, reg_cons, reg_cons, reg_cons, ext_xor, ← ih b (by simpa using h), ← stN_xor]
      rw [show r ^^^ s ^^^ (ext x ^^^ ext y) = r ^^^ ext x ^^^ (s ^^^ ext y) from by
        rw [BitVec.xor_assoc, BitVec.xor_assoc, ← BitVec.xor_assoc s, BitVec.xor_comm s (ext x), BitVec.xor_assoc]]
theorem not_xor_not (a b : BitVec 32) : ~~~ a ^^^ ~~~ b = a ^^^ b := by
  apply BitVec.eq_of_getLsbD_eq
  intro i hi
  simp [hi]
theorem zip_zero (d : List UInt8) : List.zipWith (· ^^^ ·) d (List.replicate d.length 0) = d := by
  induction d with
  | nil => rfl
  | cons x d ih => simp only [List.length_cons, List.replicate_succ, List.zipWith_cons_cons, ih]; congr 1; simp
/-- The law ChecksumLinear. -/
theorem linear_law (a b : List UInt8) (h : a.length = b.length) (n : Nat) (hn : a.length = n) :
    upd 0#32 a ^^^ upd 0#32 b = upd 0#32 (List.zipWith (· ^^^ ·) a b) ^^^ upd 0#32 (List.replicate n 0) := by
  unfold upd
  rw [not_xor_not, not_xor_not, ← reg_xor a b h, ← reg_xor _ _ (by rw [List.length_zipWith, List.length_replicate, ← hn, h]; simp), BitVec.xor_self]
  have hl : (List.zipWith (fun (x1 x2 : UInt8) => x1 ^^^ x2) a b).length = n := by rw [List.length_zipWith, ← hn, h]; simp
  have := zip_zero (List.zipWith (fun (x1 x2 : UInt8) => x1 ^^^ x2) a b)
  rw [hl] at this
  rw [this]
end Go.Proofs.Ytmnebingmedloaa
