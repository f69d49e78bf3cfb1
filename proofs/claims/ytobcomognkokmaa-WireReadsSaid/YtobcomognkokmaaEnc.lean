/- Package wire in plain Lean: a number's bytes. -/
namespace Go.Proofs.Ytobcomognkokmaa
set_option linter.unusedVariables false

/-- The last k bytes of n, the greatest first. -/
def dig : Nat → Nat → List UInt8
  | 0, _ => []
  | k + 1, n => UInt8.ofNat (n / 256 ^ k % 256) :: dig k n
theorem dig_len (k n : Nat) : (dig k n).length = k := by
  induction k with
  | zero => rfl
  | succ k ih => simp [dig, ih]
/-- How many bytes n takes. -/
def blen (n : Nat) : Nat := if h : n = 0 then 0 else blen (n / 256) + 1
termination_by n
decreasing_by omega
theorem blen_zero : blen 0 = 0 := by rw [blen]; simp
theorem blen_pos {n : Nat} (h : n ≠ 0) : blen n = blen (n / 256) + 1 := by rw [blen, dif_neg h]
theorem blen_le (k n : Nat) (h : n < 256 ^ k) : blen n ≤ k := by
  induction k generalizing n with
  | zero => have : n = 0 := by simpa using h
            rw [this, blen_zero]; exact Nat.le_refl _
  | succ k ih =>
    by_cases h0 : n = 0
    · rw [h0, blen_zero]; omega
    · rw [blen_pos h0]
      have : n / 256 < 256 ^ k := by rw [Nat.pow_succ] at h; omega
      have := ih _ this
      omega
theorem lt_blen (n : Nat) : n < 256 ^ blen n := by
  induction n using Nat.strongRecOn with
  | _ n ih =>
    by_cases h0 : n = 0
    · rw [h0, blen_zero]; decide
    · rw [blen_pos h0, Nat.pow_succ]
      have := ih (n / 256) (by omega)
      omega
theorem blen_iff (n k : Nat) : n / 256 ^ k = 0 ↔ blen n ≤ k := by
  constructor
  · intro h
    apply blen_le
    have := Nat.div_eq_zero_iff.1 h
    have hp : 256 ^ k > 0 := Nat.pow_pos (by omega)
    omega
  · intro h
    apply Nat.div_eq_of_lt
    exact Nat.lt_of_lt_of_le (lt_blen n) (Nat.pow_le_pow_right (by omega) h)
/-- A number's encoding. -/
def enc (n : Nat) : List UInt8 := UInt8.ofNat (blen n) :: dig (blen n) n
theorem dig_succ (k n : Nat) : dig (k + 1) n = UInt8.ofNat (n / 256 ^ k % 256) :: dig k n := rfl
/-- The number that bytes are. -/
def num (l : List UInt8) : Nat := l.foldl (fun n x => n * 256 + x.toNat) 0
theorem num_from (l : List UInt8) (a : Nat) : l.foldl (fun n x => n * 256 + x.toNat) a = a * 256 ^ l.length + num l := by
  induction l generalizing a with
  | nil => simp [num]
  | cons x l ih =>
    unfold num
    rw [List.foldl_cons, List.foldl_cons, ih, ih (0 * 256 + x.toNat), List.length_cons, Nat.pow_succ, Nat.add_mul, Nat.zero_mul, Nat.zero_add, Nat.mul_assoc, Nat.mul_comm 256]
    omega
theorem num_cons (x : UInt8) (l : List UInt8) : num (x :: l) = x.toNat * 256 ^ l.length + num l := by
  show l.foldl _ (0 * 256 + x.toNat) = _
  rw [num_from, Nat.zero_mul, Nat.zero_add]
theorem num_dig (k n : Nat) : num (dig k n) = n % 256 ^ k := by
  induction k with
  | zero => simp [dig, num, Nat.mod_one]
  | succ k ih =>
    have h1 : n / 256 ^ k % 256 % 2 ^ 8 = n / 256 ^ k % 256 := Nat.mod_eq_of_lt (by omega)
    have h2 : n % (256 ^ k * 256) = n % 256 ^ k + 256 ^ k * (n / 256 ^ k % 256) := Nat.mod_mul
    rw [dig_succ, num_cons, dig_len, ih, UInt8.toNat_ofNat', h1, Nat.pow_succ 256 k, h2, Nat.mul_comm]
    omega
theorem num_enc (n : Nat) : num (dig (blen n) n) = n := by rw [num_dig, Nat.mod_eq_of_lt (lt_blen n)]
theorem num_lt (l : List UInt8) : num l < 256 ^ l.length := by
  induction l with
  | nil => simp [num]
  | cons x l ih =>
    rw [num_cons, List.length_cons, Nat.pow_succ, Nat.mul_comm _ 256]
    have h1 := x.toNat_lt
    have h2 : x.toNat * 256 ^ l.length ≤ 255 * 256 ^ l.length := Nat.mul_le_mul_right _ (by omega)
    omega
/-- Two encodings, one the beginning of the other one with more behind: the numbers are the same. -/
theorem enc_begins (a b : Nat) (ha : a < 2 ^ 64) (hb : b < 2 ^ 64) (h : (enc b).take (enc a).length = enc a) : a = b := by
  unfold enc at h
  rw [List.length_cons, List.take_succ_cons, dig_len] at h
  injection h with h1 h2
  have la := blen_le 8 a (by omega)
  have lb := blen_le 8 b (by omega)
  have h3 : blen b = blen a := by
    have := congrArg UInt8.toNat h1
    rw [UInt8.toNat_ofNat', UInt8.toNat_ofNat', Nat.mod_eq_of_lt (by omega), Nat.mod_eq_of_lt (by omega)] at this
    exact this
  rw [← h3, List.take_of_length_le (by rw [dig_len]; exact Nat.le_refl _)] at h2
  have h4 := congrArg num h2
  rw [num_enc, h3, num_enc] at h4
  exact h4.symm
end Go.Proofs.Ytobcomognkokmaa
