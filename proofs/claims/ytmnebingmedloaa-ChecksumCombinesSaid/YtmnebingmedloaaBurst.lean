/- A change of at most 32 successive bits changes the register: plain Lean. -/
import Derived.Test.YtmnebingmedloaaSealFns
namespace Go.Proofs.Ytmnebingmedloaa
set_option linter.unusedVariables false

def bit (b : Bool) : BitVec 32 := if b then 1#32 else 0#32
theorem bit_get (b : Bool) (i : Nat) : (bit b).getLsbD i = (b && decide (i = 0)) := by
  cases b <;> simp [bit, BitVec.getLsbD_one]
/-- The register over bits. -/
def br (f : Nat → Bool) (r : BitVec 32) : Nat → BitVec 32
  | 0 => r
  | k + 1 => st (br f r k ^^^ bit (f k))
def vf (f : Nat → Bool) (a : Nat) : Nat → BitVec 32
  | 0 => 0#32
  | n + 1 => vf f a n ^^^ (bit (f (a + n)) <<< n)
theorem vf_get (f : Nat → Bool) (a n i : Nat) (hn : n ≤ 32) : (vf f a n).getLsbD i = (decide (i < n) && f (a + i)) := by
  induction n with
  | zero => simp [vf]
  | succ n ih =>
    rw [vf, BitVec.getLsbD_xor, ih (by omega), BitVec.getLsbD_shiftLeft, bit_get]
    by_cases h1 : i < n
    · simp [h1, show i < n + 1 from by omega]
    · by_cases h2 : i = n
      · subst h2; simp [show i < 32 from by omega]
      · simp [h1, show ¬ i < n + 1 from by omega, show ¬ i - n = 0 from by omega]
theorem bit_shift (b : Bool) (n : Nat) (hn : n < 32) : stN n (bit b <<< n) = bit b := by
  rw [stN_high]
  · apply BitVec.eq_of_getLsbD_eq
    intro i hi
    rw [BitVec.getLsbD_ushiftRight, BitVec.getLsbD_shiftLeft, bit_get, bit_get]
    by_cases h : i = 0
    · subst h; simp [hn]
    · simp [h]
  · intro i hi
    rw [BitVec.getLsbD_shiftLeft]
    simp [hi]
theorem br_window (f : Nat → Bool) (r : BitVec 32) (a n : Nat) (hn : n ≤ 32) : br f r (a + n) = stN n (br f r a ^^^ vf f a n) := by
  induction n with
  | zero => simp [vf, stN]
  | succ n ih =>
    rw [← Nat.add_assoc, br, ih (by omega), vf, ← BitVec.xor_assoc, stN_succ, stN_xor n _ (bit _ <<< n), bit_shift _ n (by omega)]
theorem br_zero (f : Nat → Bool) (a : Nat) (h : ∀ j, j < a → f j = false) : br f 0#32 a = 0#32 := by
  induction a with
  | zero => rfl
  | succ a ih => rw [br, ih (fun j hj => h j (by omega)), h a (by omega)]; decide
theorem br_quiet (f : Nat → Bool) (r : BitVec 32) (a n : Nat) (h : ∀ j, a ≤ j → j < a + n → f j = false) : br f r (a + n) = stN n (br f r a) := by
  induction n with
  | zero => rfl
  | succ n ih =>
    rw [← Nat.add_assoc, br, ih (fun j h1 h2 => h j h1 (by omega)), h (a + n) (by omega) (by omega), stN_succ]
    simp [bit]
/-- Bits first .. first + 31 alone: a register of zero has no bit. -/
theorem br_burst (f : Nat → Bool) (first N : Nat) (h : ∀ j, f j = true → first ≤ j ∧ j < first + 32) (hz : br f 0#32 N = 0#32) : ∀ j, j < N → f j = false := by
  have hout : ∀ j, ¬ (first ≤ j ∧ j < first + 32) → f j = false := fun j hj => by
    cases hf : f j with
    | false => rfl
    | true => exact absurd (h j hf) hj
  by_cases h1 : N ≤ first
  · exact fun j hj => hout j (by omega)
  have key : ∀ n m, n ≤ 32 → N = first + n + m → (n = 32 ∨ m = 0) → ∀ j, j < N → f j = false := by
    intro n m hn hN hm j hj
    rw [hN, br_quiet f _ (first + n) m (fun j a b => hout j (by omega)), br_window f _ first n hn, br_zero f first (fun j a => hout j (by omega))] at hz
    have hv := stN_inj0 n _ (stN_inj0 m _ hz)
    rw [BitVec.zero_xor] at hv
    by_cases hw : first ≤ j ∧ j < first + 32
    · have := vf_get f first n (j - first) hn
      rw [hv] at this
      simp only [BitVec.getLsbD_zero] at this
      rw [decide_eq_true (by omega : j - first < n), show first + (j - first) = j from by omega] at this
      simpa using this.symm
    · exact hout j hw
  by_cases h2 : N ≤ first + 32
  · exact key (N - first) 0 (by omega) (by omega) (.inr rfl)
  · exact key 32 (N - first - 32) (by omega) (by omega) (.inl rfl)

/-- The bits of bytes. -/
def bitAt (e : List UInt8) (j : Nat) : Bool := (e.getD (j / 8) 0).toBitVec.getLsbD (j % 8)
theorem reg_bits (e : List UInt8) (r : BitVec 32) : ∀ k, k ≤ e.length → reg r (e.take k) = br (bitAt e) r (8 * k) := by
  intro k hk
  induction k with
  | zero => rfl
  | succ k ih =>
    have hx : e[k]? = some e[k] := List.getElem?_eq_getElem (by omega)
    rw [reg_take_succ r e k _ hx, ih (by omega), Nat.mul_add, Nat.mul_one, br_window _ _ _ 8 (by omega)]
    congr 2
    apply BitVec.eq_of_getLsbD_eq
    intro i hi
    rw [vf_get _ _ _ _ (by omega)]
    unfold ext
    rw [BitVec.getLsbD_setWidth]
    by_cases h8 : i < 8
    · unfold bitAt
      rw [show (8 * k + i) / 8 = k from by omega, show (8 * k + i) % 8 = i from by omega, List.getD_eq_getElem?_getD, hx]
      simp [h8, hi]
    · rw [BitVec.getLsbD_of_ge _ _ (by omega)]; simp [h8]
/-- Bytes whose bits lie in first .. first + 31 alone, and whose register is zero, are zero. -/
theorem reg_burst (e : List UInt8) (first : Nat) (h : ∀ j, bitAt e j = true → first ≤ j ∧ j < first + 32) (hz : reg 0#32 e = 0#32) : e = List.replicate e.length 0 := by
  have h0 := reg_bits e 0#32 e.length (Nat.le_refl _)
  rw [List.take_length, hz] at h0
  have hb := br_burst (bitAt e) first (8 * e.length) h h0.symm
  apply List.ext_getElem (by simp)
  intro i h1 h2
  rw [List.getElem_replicate]
  apply UInt8.toBitVec_inj.1
  apply BitVec.eq_of_getLsbD_eq
  intro k hk
  have := hb (8 * i + k) (by omega)
  unfold bitAt at this
  rw [show (8 * i + k) / 8 = i from by omega, show (8 * i + k) % 8 = k from by omega, List.getD_eq_getElem?_getD, List.getElem?_eq_getElem h1] at this
  simpa using this

theorem lo8_bit (x : BitVec 32) (j : Nat) (h : j < 8) : (lo8 x).toBitVec.getLsbD j = x.getLsbD j := by
  show (x.setWidth 8).getLsbD j = _
  rw [BitVec.getLsbD_setWidth, decide_eq_true h, Bool.true_and]
theorem le4_reg (r x : BitVec 32) : reg r (le4 x) = stN 32 (r ^^^ x) := by
  have h0 := reg_bits (le4 x) r 4 (by simp [le4])
  rw [List.take_of_length_le (by simp [le4])] at h0
  rw [h0, show 8 * 4 = 0 + 32 from rfl, br_window _ _ _ 32 (by omega)]
  congr 2
  apply BitVec.eq_of_getLsbD_eq
  intro i hi
  rw [vf_get _ _ _ _ (by omega), Nat.zero_add]
  rw [decide_eq_true hi, Bool.true_and]
  unfold bitAt
  have : i / 8 = 0 ∨ i / 8 = 1 ∨ i / 8 = 2 ∨ i / 8 = 3 := by omega
  rcases this with h | h | h | h <;> rw [h]
  · show (lo8 x).toBitVec.getLsbD (i % 8) = x.getLsbD i
    rw [lo8_bit _ _ (by omega), show i % 8 = i from by omega]
  · show (lo8 (x >>> 8)).toBitVec.getLsbD (i % 8) = x.getLsbD i
    rw [lo8_bit _ _ (by omega), BitVec.getLsbD_ushiftRight, show 8 + i % 8 = i from by omega]
  · show (lo8 (x >>> 16)).toBitVec.getLsbD (i % 8) = x.getLsbD i
    rw [lo8_bit _ _ (by omega), BitVec.getLsbD_ushiftRight, show 16 + i % 8 = i from by omega]
  · show (lo8 (x >>> 24)).toBitVec.getLsbD (i % 8) = x.getLsbD i
    rw [lo8_bit _ _ (by omega), BitVec.getLsbD_ushiftRight, show 24 + i % 8 = i from by omega]
theorem xor_not_self (a : BitVec 32) : a ^^^ ~~~ a = ~~~ 0#32 := by
  apply BitVec.eq_of_getLsbD_eq
  intro i hi
  rw [BitVec.getLsbD_xor, BitVec.getLsbD_not, BitVec.getLsbD_not, BitVec.getLsbD_zero, decide_eq_true hi]
  cases a.getLsbD i <;> rfl
theorem reg_seal (l : List UInt8) : reg (~~~ 0#32) (seal_ l) = stN 32 (~~~ 0#32) := by
  unfold seal_
  rw [reg_append, le4_reg]
  congr 1
  exact xor_not_self _
/-- A sealed string with a change of at most 32 successive bits is no sealed string. -/
theorem seal_burst (l m e : List UInt8) (first : Nat) (hl : (seal_ l).length = e.length) (h : ∀ j, bitAt e j = true → first ≤ j ∧ j < first + 32) (hm : seal_ m = List.zipWith (· ^^^ ·) (seal_ l) e) : e = List.replicate e.length 0 := by
  refine reg_burst e first h ?_
  have h1 := reg_xor (seal_ l) e hl (~~~ 0#32) 0#32
  rw [← hm, BitVec.xor_zero, reg_seal, reg_seal] at h1
  have h2 : stN 32 (~~~ 0#32) ^^^ (stN 32 (~~~ 0#32) ^^^ reg 0#32 e) = stN 32 (~~~ 0#32) ^^^ stN 32 (~~~ 0#32) := by rw [← h1]
  rw [← BitVec.xor_assoc, BitVec.xor_self, BitVec.zero_xor] at h2
  exact h2
theorem sum_burst (l e : List UInt8) (first : Nat) (hl : l.length = e.length) (h : ∀ j, bitAt e j = true → first ≤ j ∧ j < first + 32) (hs : upd 0#32 (List.zipWith (· ^^^ ·) l e) = upd 0#32 l) : e = List.replicate e.length 0 := by
  refine reg_burst e first h ?_
  unfold upd at hs
  have hs2 : reg (~~~ 0#32) (List.zipWith (· ^^^ ·) l e) = reg (~~~ 0#32) l := by
    have := congrArg (fun x => ~~~ x) hs
    simpa using this
  have h1 := reg_xor l e hl (~~~ 0#32) 0#32
  rw [BitVec.xor_zero, hs2] at h1
  have h2 : reg (~~~ 0#32) l ^^^ (reg (~~~ 0#32) l ^^^ reg 0#32 e) = reg (~~~ 0#32) l ^^^ reg (~~~ 0#32) l := by rw [← h1]
  rw [← BitVec.xor_assoc, BitVec.xor_self, BitVec.zero_xor] at h2
  exact h2

/-- The change's byte i after k bits. -/
def pat (c : BitVec 32) (first : Nat) : Nat → Nat → UInt8
  | 0, _ => 0
  | k + 1, i => if c.getLsbD k = true ∧ i = (first + k) / 8 then pat c first k i ^^^ ⟨1#8 <<< ((first + k) % 8)⟩ else pat c first k i
theorem one_shift (n j : Nat) (hj : j < 8) : (1#8 <<< n).getLsbD j = decide (j = n) := by
  rw [BitVec.getLsbD_shiftLeft, BitVec.getLsbD_one]
  by_cases h : j = n
  · subst h; simp [hj]
  · by_cases h2 : j < n
    · simp [h, h2]
    · simp [h, hj, show ¬ j - n = 0 from by omega]
theorem xor_bits (a b : UInt8) (j : Nat) : (a ^^^ b).toBitVec.getLsbD j = (a.toBitVec.getLsbD j ^^ b.toBitVec.getLsbD j) := by
  show (a.toBitVec ^^^ b.toBitVec).getLsbD j = _
  rw [BitVec.getLsbD_xor]
theorem pat_bit (c : BitVec 32) (first k i j : Nat) (hj : j < 8) : (pat c first k i).toBitVec.getLsbD j = (decide (first ≤ 8 * i + j ∧ 8 * i + j < first + k) && c.getLsbD (8 * i + j - first)) := by
  induction k with
  | zero => simp [pat]; intro h1 h2; omega
  | succ k ih =>
    rw [pat]
    by_cases h1 : c.getLsbD k = true ∧ i = (first + k) / 8
    · rw [if_pos h1, xor_bits, ih, one_shift _ _ hj]
      obtain ⟨h1, h2⟩ := h1
      by_cases h3 : 8 * i + j = first + k
      · have h4 : j = (first + k) % 8 := by omega
        rw [decide_eq_false (by omega), decide_eq_true h4, decide_eq_true (by omega), show 8 * i + j - first = k from by omega, h1]; rfl
      · have h4 : ¬ j = (first + k) % 8 := by omega
        rw [decide_eq_false h4, Bool.xor_false]
        congr 1
        exact decide_eq_decide.2 (by omega)
    · rw [if_neg h1, ih]
      by_cases h3 : 8 * i + j = first + k
      · have h4 : c.getLsbD k = false := by
          cases hc : c.getLsbD k with
          | false => rfl
          | true => exact absurd ⟨hc, by omega⟩ h1
        rw [show 8 * i + j - first = k from by omega, h4]; simp
      · congr 1
        exact decide_eq_decide.2 (by omega)
/-- The bytes of the change. -/
def pats (c : BitVec 32) (first k n : Nat) : List UInt8 := (List.range n).map (pat c first k)
theorem pats_len (c : BitVec 32) (first k n : Nat) : (pats c first k n).length = n := by simp [pats]
theorem pats_bit (c : BitVec 32) (first k n j : Nat) : bitAt (pats c first k n) j = (decide (first ≤ j ∧ j < first + k ∧ j < 8 * n) && c.getLsbD (j - first)) := by
  unfold bitAt pats
  by_cases h : j / 8 < n
  · rw [List.getD_eq_getElem?_getD, List.getElem?_map, List.getElem?_range h]
    simp only [Option.map_some, Option.getD_some]
    rw [pat_bit _ _ _ _ _ (by omega), show 8 * (j / 8) + j % 8 = j from by omega]
    congr 1
    exact decide_eq_decide.2 (by omega)
  · rw [List.getD_eq_getElem?_getD, List.getElem?_eq_none (by simp; omega), decide_eq_false (by omega)]
    simp
theorem pats_burst (c : BitVec 32) (first k n : Nat) (hk : k ≤ 32) (j : Nat) (h : bitAt (pats c first k n) j = true) : first ≤ j ∧ j < first + 32 := by
  rw [pats_bit] at h
  simp only [Bool.and_eq_true, decide_eq_true_eq] at h
  omega
theorem pats_take (c : BitVec 32) (first k n m : Nat) (h : m ≤ n) : (pats c first k n).take m = pats c first k m := by
  unfold pats
  rw [← List.map_take, List.take_range, Nat.min_eq_left h]
/-- One bit at least was changed. -/
theorem pats_zero (c : BitVec 32) (first k n i : Nat) (hi : i < k) (hn : first + i < 8 * n) (hc : c.getLsbD i = true) : pats c first k n ≠ List.replicate n 0 := by
  intro h
  have h1 := pats_bit c first k n (first + i)
  rw [h, decide_eq_true (by omega), show first + i - first = i from by omega, hc] at h1
  unfold bitAt at h1
  rw [List.getD_eq_getElem?_getD] at h1
  by_cases h2 : (first + i) / 8 < n
  · rw [List.getElem?_replicate, if_pos h2] at h1; simp at h1
  · omega
/-- Some of the first k bits is set. -/
def anyb (c : BitVec 32) : Nat → Bool
  | 0 => false
  | k + 1 => anyb c k || c.getLsbD k
theorem anyb_iff (c : BitVec 32) (k : Nat) : anyb c k = true ↔ ∃ i, i < k ∧ c.getLsbD i = true := by
  induction k with
  | zero => simp [anyb]
  | succ k ih =>
    simp only [anyb, Bool.or_eq_true, ih]
    constructor
    · rintro (⟨i, h1, h2⟩ | h)
      · exact ⟨i, by omega, h2⟩
      · exact ⟨k, by omega, h⟩
    · rintro ⟨i, h1, h2⟩
      by_cases h : i = k
      · subst h; exact .inr h2
      · exact .inl ⟨i, by omega, h2⟩
/-- The sealed bytes with the change's first k bits. -/
def bad (c : BitVec 32) (first k : Nat) (l : List UInt8) : List UInt8 := List.zipWith (· ^^^ ·) (seal_ l) (pats c first k (l.length + 4))
theorem sealed_len (l : List UInt8) : (seal_ l).length = l.length + 4 := by simp [seal_, le4]
theorem bad_len (c : BitVec 32) (first k : Nat) (l : List UInt8) : (bad c first k l).length = l.length + 4 := by
  unfold bad; rw [List.length_zipWith, sealed_len, pats_len, Nat.min_self]
theorem bad_get (c : BitVec 32) (first k : Nat) (l : List UInt8) (i : Nat) (x : UInt8) (h : (seal_ l)[i]? = some x) : (bad c first k l)[i]? = some (x ^^^ pat c first k i) := by
  have hi : i < l.length + 4 := by rw [← sealed_len]; exact (List.getElem?_eq_some_iff.1 h).1
  unfold bad pats
  rw [List.getElem?_zipWith, h, List.getElem?_map, List.getElem?_range hi]
  rfl
theorem bad_same (c : BitVec 32) (first k : Nat) (l : List UInt8) (h : c.getLsbD k = false) : bad c first (k + 1) l = bad c first k l := by
  unfold bad pats
  congr 1
  apply List.map_congr_left
  intro i _
  rw [pat, if_neg (by rw [h]; simp)]
theorem bad_set (c : BitVec 32) (first k : Nat) (l : List UInt8) (x : UInt8) (h : c.getLsbD k = true) (hx : (bad c first k l)[(first + k) / 8]? = some x) :
    (bad c first k l).set ((first + k) / 8) (x ^^^ ⟨1#8 <<< ((first + k) % 8)⟩) = bad c first (k + 1) l := by
  apply List.ext_getElem?
  intro i
  by_cases hi : i < l.length + 4
  · have hs : (seal_ l)[i]? = some ((seal_ l)[i]'(by rw [sealed_len]; exact hi)) := List.getElem?_eq_getElem _
    have h1 := bad_get c first k l i _ hs
    rw [bad_get c first (k + 1) l i _ hs, pat]
    by_cases he : i = (first + k) / 8
    · rw [← he] at hx ⊢
      rw [List.getElem?_set_self (by rw [bad_len]; exact hi)]
      rw [hx] at h1
      injection h1 with h1
      rw [if_pos ⟨h, rfl⟩, h1, UInt8.xor_assoc]
    · rw [List.getElem?_set_ne (fun e => he e.symm), h1, if_neg (fun e => he e.2)]
  · rw [List.getElem?_eq_none (by rw [List.length_set, bad_len]; omega), List.getElem?_eq_none (by rw [bad_len]; omega)]
theorem bad_first (c : BitVec 32) (first : Nat) (l : List UInt8) : bad c first 0 l = seal_ l := by
  unfold bad
  have h : pats c first 0 (l.length + 4) = List.replicate (seal_ l).length 0 := by
    rw [sealed_len]; unfold pats
    apply List.ext_getElem (by simp)
    intro i h1 h2
    simp [pat]
  rw [h, zip_zero]
theorem bad_none (c : BitVec 32) (first k : Nat) (l : List UInt8) (h : anyb c k = false) : bad c first k l = seal_ l := by
  induction k with
  | zero => exact bad_first c first l
  | succ k ih =>
    simp only [anyb, Bool.or_eq_false_iff] at h
    rw [bad_same _ _ _ _ h.2, ih h.1]
theorem bad_open (c : BitVec 32) (first k : Nat) (l : List UInt8) (h : anyb c k = true) (hk : k ≤ 32) (hf : first + k ≤ 8 * (l.length + 4)) : open_ (bad c first k l) = none := by
  unfold open_
  split
  · rename_i h1
    obtain ⟨i, hi, hc⟩ := (anyb_iff c k).1 h
    have := seal_burst l _ (pats c first k (l.length + 4)) first (by rw [sealed_len, pats_len]) (pats_burst c first k _ hk) h1.2
    rw [pats_len] at this
    exact absurd this (pats_zero c first k _ i hi (by omega) hc)
  · rfl
theorem bad_take (c : BitVec 32) (first k : Nat) (l : List UInt8) : (bad c first k l).take l.length = List.zipWith (· ^^^ ·) l (pats c first k l.length) := by
  unfold bad
  rw [List.take_zipWith, pats_take _ _ _ _ _ (by omega)]
  congr 1
  simp [seal_]
theorem bad_sum (c : BitVec 32) (first k : Nat) (l : List UInt8) (hk : k ≤ 32) (h : (bad c first k l).take l.length ≠ l) : (u32 (upd 0#32 ((bad c first k l).take l.length)) == u32 (upd 0#32 l)) = false := by
  rw [beq_eq_false_iff_ne]
  intro he
  apply h
  rw [bad_take] at he ⊢
  have := sum_burst l _ first (by rw [pats_len]) (pats_burst c first k _ hk) (u32_inj he)
  rw [this, pats_len, zip_zero]
end Go.Proofs.Ytmnebingmedloaa
