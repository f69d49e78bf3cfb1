/- Package wire in plain Lean: what a reader finds. -/
import Derived.Test.YtobcomognkokmaaEnc
namespace Go.Proofs.Ytobcomognkokmaa
set_option linter.unusedVariables false

/-- A number at the beginning of bytes, and what is left. -/
def parseN (l : List UInt8) : Option (Nat × List UInt8) :=
  match l with
  | [] => none
  | h :: t => if 8 < h.toNat ∨ t.length < h.toNat ∨ (0 < h.toNat ∧ t.headD 1 = 0) then none else some (num (t.take h.toNat), t.drop h.toNat)

theorem blen_div (n k : Nat) : blen (n / 256 ^ k) = blen n - k := by
  induction k with
  | zero => simp
  | succ k ih =>
    rw [Nat.pow_succ, ← Nat.div_div_eq_div_mul]
    by_cases h : n / 256 ^ k = 0
    · have := (blen_iff n k).1 h
      rw [h, Nat.zero_div, blen_zero]; omega
    · have := blen_pos h
      omega
theorem top_pos (n : Nat) (h : n ≠ 0) : 0 < n / 256 ^ (blen n - 1) ∧ n / 256 ^ (blen n - 1) < 256 := by
  have hp := blen_pos h
  have h1 := blen_div n (blen n - 1)
  constructor
  · rcases Nat.eq_zero_or_pos (n / 256 ^ (blen n - 1)) with h0 | h0
    · rw [h0, blen_zero] at h1; omega
    · exact h0
  · have h2 := blen_div n (blen n)
    have h3 : n / 256 ^ blen n = 0 := Nat.div_eq_of_lt (lt_blen n)
    have h4 : blen n = (blen n - 1) + 1 := by omega
    rw [h4, Nat.pow_succ, ← Nat.div_div_eq_div_mul] at h3
    have := Nat.div_eq_zero_iff.1 h3
    omega
theorem u8_zero (k : Nat) (h : k < 256) (h0 : 0 < k) : UInt8.ofNat k ≠ 0 := by
  intro e
  have := congrArg UInt8.toNat e
  rw [UInt8.toNat_ofNat', Nat.mod_eq_of_lt h] at this
  simp at this
  omega
theorem enc_head (n : Nat) (hn : n < 2 ^ 64) : (UInt8.ofNat (blen n)).toNat = blen n := by
  have := blen_le 8 n (by omega)
  rw [UInt8.toNat_ofNat', Nat.mod_eq_of_lt (by omega)]
theorem parseN_enc (n : Nat) (hn : n < 2 ^ 64) (t : List UInt8) : parseN (enc n ++ t) = some (n, t) := by
  have h8 := blen_le 8 n (by omega)
  have hh := enc_head n hn
  show parseN (UInt8.ofNat (blen n) :: (dig (blen n) n ++ t)) = _
  unfold parseN
  simp only
  rw [if_neg, hh]
  · rw [List.take_left' (dig_len _ _), List.drop_left' (dig_len _ _), num_enc]
  · rw [hh]
    rintro (h | h | ⟨h, h0⟩)
    · omega
    · rw [List.length_append, dig_len] at h; omega
    · obtain ⟨k, hk⟩ : ∃ k, blen n = k + 1 := ⟨blen n - 1, by omega⟩
      have hne : n ≠ 0 := by rintro rfl; rw [blen_zero] at h; omega
      have htp := top_pos n hne
      rw [hk] at h0 htp
      rw [dig_succ, List.cons_append, List.headD_cons, Nat.mod_eq_of_lt (by simpa using htp.2)] at h0
      exact u8_zero _ htp.2 htp.1 h0
theorem blen_num (x : UInt8) (l : List UInt8) (h : x ≠ 0) : blen (num (x :: l)) = l.length + 1 := by
  have hx : 0 < x.toNat := by
    rcases Nat.eq_zero_or_pos x.toNat with h0 | h0
    · exfalso; apply h; apply UInt8.toNat_inj.1; simpa using h0
    · exact h0
  have h1 := num_cons x l
  have h2 := num_lt (x :: l)
  have h3 := blen_le (l.length + 1) _ (by simpa using h2)
  have h4 : ¬ blen (num (x :: l)) ≤ l.length := by
    rw [← blen_iff]
    intro e
    have hp : 0 < 256 ^ l.length := Nat.pow_pos (by omega)
    have := (Nat.div_eq_zero_iff.1 e)
    have h5 : 1 * 256 ^ l.length ≤ x.toNat * 256 ^ l.length := Nat.mul_le_mul_right _ hx
    omega
  omega
theorem dig_num (l : List UInt8) (n : Nat) (h : n % 256 ^ l.length = num l) : dig l.length n = l := by
  induction l generalizing n with
  | nil => rfl
  | cons x l ih =>
    rw [List.length_cons] at h ⊢
    have hp : 0 < 256 ^ l.length := Nat.pow_pos (by omega)
    have h1 := num_cons x l
    have h2 := num_lt l
    have h3 : n % (256 ^ l.length * 256) = n % 256 ^ l.length + 256 ^ l.length * (n / 256 ^ l.length % 256) := Nat.mod_mul
    rw [Nat.pow_succ, h3, h1] at h
    have h4 : n % 256 ^ l.length < 256 ^ l.length := Nat.mod_lt _ hp
    have e1 : n % 256 ^ l.length = num l := by
      have := congrArg (· % 256 ^ l.length) h
      simp only [Nat.add_mul_mod_self_left] at this
      rw [Nat.mul_comm x.toNat, Nat.mul_add_mod, Nat.mod_mod, Nat.mod_eq_of_lt h2] at this
      exact this
    have e2 : n / 256 ^ l.length % 256 = x.toNat := by
      rw [e1, Nat.mul_comm x.toNat] at h
      have : 256 ^ l.length * (n / 256 ^ l.length % 256) = 256 ^ l.length * x.toNat := by omega
      exact Nat.eq_of_mul_eq_mul_left hp this
    rw [dig_succ, ih n e1, e2]
    congr 1
    exact UInt8.ofNat_toNat
/-- What is found has the bytes as its encoding. -/
theorem parseN_some {l t : List UInt8} {n : Nat} (h : parseN l = some (n, t)) : enc n ++ t = l ∧ n < 2 ^ 64 := by
  unfold parseN at h
  split at h
  · cases h
  · rename_i x r
    split at h
    · cases h
    · rename_i hc
      injection h with h
      injection h with h1 h2
      have hc1 : ¬ 8 < x.toNat := fun e => hc (.inl e)
      have hc2 : ¬ r.length < x.toNat := fun e => hc (.inr (.inl e))
      have hl : (r.take x.toNat).length = x.toNat := by rw [List.length_take]; omega
      have hb : blen n = x.toNat := by
        cases hr : r.take x.toNat with
        | nil =>
          rw [hr] at h1 hl
          rw [← h1, ← hl]; exact blen_zero
        | cons y s =>
          rw [hr] at h1 hl
          have hy : y ≠ 0 := by
            intro e
            apply hc
            refine .inr (.inr ⟨by rw [← hl]; simp, ?_⟩)
            cases r with
            | nil => simp at hr
            | cons z r' =>
              have : x.toNat = x.toNat - 1 + 1 := by rw [← hl]; simp
              rw [this, List.take_succ_cons] at hr
              injection hr with hz _
              rw [List.headD_cons, hz, e]
          rw [← h1, blen_num y s hy, ← hl]; simp
      have hlt := num_lt (r.take x.toNat)
      rw [hl, h1] at hlt
      have hp : (256 : Nat) ^ x.toNat ≤ 256 ^ 8 := Nat.pow_le_pow_right (by omega) (by omega)
      refine ⟨?_, by omega⟩
      have hd := dig_num (r.take x.toNat) n (by rw [hl, Nat.mod_eq_of_lt hlt, h1])
      rw [hl] at hd
      unfold enc
      rw [hb, hd, ← h2, UInt8.ofNat_toNat, List.cons_append, List.take_append_drop]

/-- The state of a reader: what is left, the error. -/
abbrev RS := List UInt8 × Int
def bad (c : Int) : RS := ([], c)
def rNum (r : RS) : RS × Nat := if r.2 = 0 then (match parseN r.1 with | some (n, t) => ((t, 0), n) | none => (bad 11, 0)) else (r, 0)
/-- The integer of a number. -/
def zag (n : Nat) : Int := if n % 2 = 0 then (n / 2 : Nat) else -((n / 2 : Nat) : Int) - 1
def rInt (r : RS) : RS × Int := ((rNum r).1, zag (rNum r).2)
def rBool (r : RS) : RS × Bool := if r.2 = 0 then (match r.1 with | [] => (bad 11, false) | h :: t => if 1 < h.toNat then (bad 11, false) else ((t, 0), h.toNat == 1)) else (r, false)
def rText (r : RS) : RS × List UInt8 := if r.2 = 0 then (match parseN r.1 with | some (n, t) => if t.length < n then (bad 11, []) else ((t.drop n, 0), t.take n) | none => (bad 11, [])) else (r, [])
def rCount (most : Int) (r : RS) : RS × Nat := if r.2 = 0 then (match parseN r.1 with | some (n, t) => if most < (n : Int) then (bad 8, 0) else ((t, 0), n) | none => (bad 11, 0)) else (r, 0)
def rEnd (r : RS) : Int := if r.2 = 0 ∧ 0 < r.1.length then 11 else r.2
end Go.Proofs.Ytobcomognkokmaa
