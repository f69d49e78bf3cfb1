/- Package wire in plain Lean: what a reader finds. -/
import Derived.Test.YtpbgelhjbfckcaaV08
import Derived.Test.YtpbgelhjbfckcaaV01
namespace Go.Proofs.Ytpbgelhjbfckcaa
set_option linter.unusedVariables false
/-- A number at the beginning of bytes, and what is left. -/
def parseN (l : List UInt8) : Option (Nat × List UInt8) :=
 match l with
 | [] => none
 | h :: t => if 8 < h.toNat ∨ t.length < h.toNat ∨ (0 < h.toNat ∧ t.headD 1 = 0) then none else some (num (t.take h.toNat), t.drop h.toNat)
theorem blen_div (n k : Nat) : blen (n / 256 ^ k) = blen n - k := by
 induction k with
 | zero => simp
 | succ k ih =>
  rw [Nat.pow_succ, ← Nat.div_div_eq_div_mul]
  by_cases h : n / 256 ^ k = 0
  ·have := (blen_iff n k).1 h
   rw [h, Nat.zero_div, blen_zero]; omega
  ·have := blen_pos h
   omega
theorem top_pos (n : Nat) (h : n ≠ 0) : 0 < n / 256 ^ (blen n - 1) ∧ n / 256 ^ (blen n - 1) < 256 := by
 have hp := blen_pos h
 have h1 := blen_div n (blen n - 1)
 constructor
 ·rcases Nat.eq_zero_or_pos (n / 256 ^ (blen n - 1)) with h0 | h0
  ·rw [h0, blen_zero] at h1; omega
  ·exact h0
 ·have h2 := blen_div n (blen n)
  have h3 : n / 256 ^ blen n = 0 := Nat.div_eq_of_lt (lt_blen n)
  have h4 : blen n = (blen n - 1) + 1 := by omega
  rw [h4, Nat.pow_succ, ← Nat.div_div_eq_div_mul] at h3
  have := Nat.div_eq_zero_iff.1 h3
  omega
theorem u8_zero (k : Nat) (h : k < 256) (h0 : 0 < k) : UInt8.ofNat k ≠ 0 := by
 intro e
 have := congrArg UInt8.toNat e
 rw [UInt8.toNat_ofNat', Nat.mod_eq_of_lt h] at this
 simp at this
 omega
theorem enc_head (n : Nat) (hn : n < 2 ^ 64) : (UInt8.ofNat (blen n)).toNat = blen n := by
 have := blen_le 8 n (by omega)
 rw [UInt8.toNat_ofNat', Nat.mod_eq_of_lt (by omega)]
theorem parseN_enc (n : Nat) (hn : n < 2 ^ 64) (t : List UInt8) : parseN (enc n ++ t) = some (n, t) := by
 have h8 := blen_le 8 n (by omega)
 have hh := enc_head n hn
 show parseN (UInt8.ofNat (blen n) :: (dig (blen n) n ++ t)) = _
 unfold parseN
 simp only
 rw [if_neg, hh]
 ·rw [List.take_left' (dig_len _ _), List.drop_left' (dig_len _ _), num_enc]
 ·rw [hh]
  rintro (h | h | ⟨h, h0⟩)
  ·omega
  ·rw [List.length_append, dig_len] at h; omega
  ·obtain ⟨k, hk⟩ : ∃ k, blen n = k + 1 := ⟨blen n - 1, by omega⟩
   have hne : n ≠ 0 := by rintro rfl; rw [blen_zero] at h; omega
   have htp := top_pos n hne
   rw [hk] at h0 htp
   rw [dig_succ, List.cons_append, List.headD_cons, Nat.mod_eq_of_lt (by simpa using htp.2)] at h0
   exact u8_zero _ htp.2 htp.1 h0
theorem blen_num (x : UInt8) (l : List UInt8) (h : x ≠ 0) : blen (num (x :: l)) = l.length + 1 := by
 have hx : 0 < x.toNat := by
  rcases Nat.eq_zero_or_pos x.toNat with h0 | h0
  ·exfalso; apply h; apply UInt8.toNat_inj.1; simpa using h0
  ·exact h0
 have h1 := num_cons x l
 have h2 := num_lt (x :: l)
 have h3 := blen_le (l.length + 1) _ (by simpa using h2)
 have h4 : ¬ blen (num (x :: l)) ≤ l.length := by
  rw [← blen_iff]
  intro e
  have hp : 0 < 256 ^ l.length := Nat.pow_pos (by omega)
  have := (Nat.div_eq_zero_iff.1 e)
  have h5 : 1 * 256 ^ l.length ≤ x.toNat * 256 ^ l.length := Nat.mul_le_mul_right _ hx
  omega
 omega
theorem dig_num (l : List UInt8) (n : Nat) (h : n % 256 ^ l.length = num l) : dig l.length n = l := by
 induction l generalizing n with
 | nil => rfl
 | cons x l ih =>
  rw [List.length_cons] at h ⊢
  have hp : 0 < 256 ^ l.length := Nat.pow_pos (by omega)
  have h1 := num_cons x l;have h2 := num_lt l
  have h3 : n % (256 ^ l.length * 256) = n % 256 ^ l.length + 256 ^ l.length * (n / 256 ^ l.length % 256) := Nat.mod_mul
  rw [Nat.pow_succ, h3, h1] at h
  have h4 : n % 256 ^ l.length < 256 ^ l.length := Nat.mod_lt _ hp
  have e1 : n % 256 ^ l.length = num l := by
   have := congrArg (· % 256 ^ l.length) h
   simp only [Nat.add_mul_mod_self_left] at this
   rw [Nat.mul_comm x.toNat, Nat.mul_add_mod, Nat.mod_mod, Nat.mod_eq_of_lt h2] at this
   exact this
  have e2 : n / 256 ^ l.length % 256 = x.toNat := by
   rw [e1, Nat.mul_comm x.toNat] at h
   have : 256 ^ l.length * (n / 256 ^ l.length % 256) = 256 ^ l.length * x.toNat := by omega
   exact Nat.eq_of_mul_eq_mul_left hp this
  rw [dig_succ, ih n e1, e2]
  congr 1
  exact UInt8.ofNat_toNat
/-- What is found has the bytes as its encoding. -/
theorem parseN_some {l t : List UInt8} {n : Nat} (h : parseN l = some (n, t)) : enc n ++ t = l ∧ n < 2 ^ 64 := by
 unfold parseN at h
 split at h
 ·cases h
 ·rename_i x r
  split at h
  ·cases h
  ·rename_i hc
   injection h with h
   injection h with h1 h2
   have hc1 : ¬ 8 < x.toNat := fun e => hc (.inl e)
   have hc2 : ¬ r.length < x.toNat := fun e => hc (.inr (.inl e))
   have hl : (r.take x.toNat).length = x.toNat := by rw [List.length_take]; omega
   have hb : blen n = x.toNat := by
    cases hr : r.take x.toNat with
    | nil =>
     rw [hr] at h1 hl
     rw [← h1, ← hl]; exact blen_zero
    | cons y s =>
     rw [hr] at h1 hl
     have hy : y ≠ 0 := by
      intro e
      apply hc
      refine .inr (.inr ⟨by rw [← hl]; simp, ?_⟩)
      cases r with
      | nil => simp at hr
      | cons z r' =>
       have : x.toNat = x.toNat - 1 + 1 := by rw [← hl]; simp
       rw [this, List.take_succ_cons] at hr
       injection hr with hz _
       rw [List.headD_cons, hz, e]
     rw [← h1, blen_num y s hy, ← hl]; simp
   have hlt := num_lt (r.take x.toNat)
   rw [hl, h1] at hlt
   have hp : (256 : Nat) ^ x.toNat ≤ 256 ^ 8 := Nat.pow_le_pow_right (by omega) (by omega)
   refine ⟨?_, by omega⟩
   have hd := dig_num (r.take x.toNat) n (by rw [hl, Nat.mod_eq_of_lt hlt, h1])
   rw [hl] at hd
   unfold enc
   rw [hb, hd, ← h2, UInt8.ofNat_toNat, List.cons_append, List.take_append_drop]
/-- The state of a reader: what is left, the error. -/
abbrev RS := List UInt8 × Int
def bad (c : Int) : RS := ([], c)
def rNum (r : RS) : RS × Nat := if r.2 = 0 then (match parseN r.1 with | some (n, t) => ((t, 0), n) | none => (bad 11, 0)) else (r, 0)
/-- The integer of a number. -/
def zag (n : Nat) : Int := if n % 2 = 0 then (n / 2 : Nat) else -((n / 2 : Nat) : Int) - 1
def rInt (r : RS) : RS × Int := ((rNum r).1, zag (rNum r).2)
def rBool (r : RS) : RS × Bool := if r.2 = 0 then (match r.1 with | [] => (bad 11, false) | h :: t => if 1 < h.toNat then (bad 11, false) else ((t, 0), h.toNat == 1)) else (r, false)
def rText (r : RS) : RS × List UInt8 := if r.2 = 0 then (match parseN r.1 with | some (n, t) => if t.length < n then (bad 11, []) else ((t.drop n, 0), t.take n) | none => (bad 11, [])) else (r, [])
def rCount (most : Int) (r : RS) : RS × Nat := if r.2 = 0 then (match parseN r.1 with | some (n, t) => if most < (n : Int) then (bad 8, 0) else ((t, 0), n) | none => (bad 11, 0)) else (r, 0)
def rEnd (r : RS) : Int := if r.2 = 0 ∧ 0 < r.1.length then 11 else r.2
section
open Go.ChangeShapes Go.WideShapes Go.ChangeAt Go.RowKit
/-- Block b is a reader with the bytes l left, in block k if anywhere, and the error c. -/
def Rd (w : World) (b : Nat) (k : Option Nat) (l : List UInt8) (c : Int) : Prop :=
 ∃ v, Blk w b 140 #[v, .int .i64 c] ∧ Bs w v l ∧ (∀ j, v.ownBlock = some j → k = some j) ∧ k ≠ some b
theorem own_take (A : Option Addr) (n m c c' : Nat) : (Value.slice A n c).ownBlock = (Value.slice A m c').ownBlock := by cases A <;> rfl
theorem own_drop (A : Option Addr) (n m c c' k : Nat) (j : Nat) (h : (Value.slice (if c = k then A else A.map (·.add k)) n c').ownBlock = some j) : (Value.slice A m c).ownBlock = some j := by
 cases A with
 | none => split at h <;> cases h
 | some a =>
  split at h
  ·exact h
  ·simp only [Option.map_some, Value.ownBlock] at h ⊢
   unfold Addr.add at h
   split at h <;> exact h
theorem Rd.far {w w' : World} {b : Nat} {k : Option Nat} {l : List UInt8} {c : Int} {row : Option Nat} (h : Rd w b k l c) (hg : w.grownBy w' row) (h1 : row ≠ some b) (h2 : ∀ j, k = some j → row ≠ some j) : Rd w' b k l c := by
 obtain ⟨v, hB, hbs, hk, hne⟩ := h
 refine ⟨v, hB.grown hg (Ne.symm h1), hbs.grown hg ?_, hk, hne⟩
 cases hv : v.ownBlock with
 | none => exact .inl rfl
 | some j => right; exact fun e => h2 j (hk j hv) e.symm
theorem Rd.step {w w' : World} {b : Nat} {k : Option Nat} {l : List UInt8} {c : Int} (h : Rd w b k l c) (hg : Below w.heap.size w w') : Rd w' b k l c := h.far (grown_of_below hg none) (by simp) (by simp)
theorem Rd.alloc {w : World} {b : Nat} {k : Option Nat} {l : List UInt8} {c : Int} (h : Rd w b k l c) (o : Obj) : Rd (w.alloc o) b k l c := h.far (grown_alloc (grown_refl w none) o) (by simp) (by simp)
theorem Rd.drew {w : World} {b : Nat} {k : Option Nat} {l : List UInt8} {c : Int} (h : Rd w b k l c) : Rd w.drew b k l c := h
theorem Rd.lt {w : World} {b : Nat} {k : Option Nat} {l : List UInt8} {c : Int} (h : Rd w b k l c) : b < w.heap.size := by obtain ⟨v, hB, _⟩ := h; exact hB.lt
/-- What take does where there are enough bytes. -/
def Taken (w : World) (b : Nat) (k : Option Nat) (l : List UInt8) (c : Int) (n : Nat) (e : Ending) (w' : World) : Prop :=
 ∃ v, e = .returned (.tuple #[v, .bool true]) ∧ Bs w' v (l.take n) ∧ (∀ j, v.ownBlock = some j → k = some j) ∧ Rd w' b k (l.drop n) c ∧ w.grownBy w' (some b)
set_option maxHeartbeats 1000000 in
theorem take_yes (b : Nat) (k : Option Nat) (l : List UInt8) (c : Int) (n : Nat) (w : World) (h : Rd w b k l c) (hn : n ≤ l.length) (hl : l.length ≤ 140737488355328) :
 Calls Try.prog 93 #[.pointer (some ⟨b, 0, none⟩), .int .u64 n] w (Taken w b k l c n) := by
 obtain ⟨v, hB, hbs, hk, hne⟩ := h
 obtain ⟨A, cp, rfl, hc, hm⟩ := hbs.form
 have HT := hide (hbs.take hn)
 have HD := hide (hbs.drop hn)
 have HB := hide hB
 have HK : Hid (∀ j, (Value.slice A n cp).ownBlock = some j → k = some j) := hide fun j hj => hk j (by rw [own_take A _ n _ cp]; exact hj)
 have HO : Hid (∀ j, (Value.slice (if cp = n then A else A.map (·.add n)) (l.length - n) (cp - n)).ownBlock = some j → k = some j) := hide fun j hj => hk j (own_drop A _ _ _ _ n j hj)
 have HF : ∀ (v' : Value) (w' : World), w.grownBy w' (some b) → (∀ j, v'.ownBlock = some j → k = some j) → v'.ownBlock = none ∨ v'.ownBlock ≠ some b := by
  intro v' w' _ hj
  cases hv : v'.ownBlock with
  | none => exact .inl rfl
  | some j => right; intro e; injection e with e; exact hne (by rw [hj j hv, e])
 have HF := hide HF;have c0 := hB.cell 0;have f0 := hB.froz 0
 simp only [List.getElem?_toArray, List.getElem?_cons_zero] at c0
 have hx : ¬ ((l.length : Int) < (n : Int)) := by omega
 clear hbs hB hk
 generalize l.length = m at *
 by_cases hcn : cp = n
 ·obtain rfl : m = n := by omega
  subst hcn
  rw [if_pos rfl, Nat.sub_self] at HD HO
  go_enter Try.func93, Try.ntmps93
  go_wp2_with fail
  go_ret2
  have hg := grown_set (grown_refl w (some b)) 0 (Value.slice A 0 0)
  exact ⟨_, rfl, HT.out.grown hg (HF.out _ _ hg HK.out), HK.out, ⟨_, HB.out.put 0 _, HD.out.grown hg (HF.out _ _ hg HO.out), HO.out, hne⟩, hg⟩
 ·rw [if_neg hcn] at HD HO
  go_enter Try.func93, Try.ntmps93
  go_wp2_with fail
  go_ret2
  have hg := grown_set (grown_refl w (some b)) 0 (Value.slice (A.map (·.add n)) (m - n) (cp - n))
  exact ⟨_, rfl, HT.out.grown hg (HF.out _ _ hg HK.out), HK.out, ⟨_, HB.out.put 0 _, HD.out.grown hg (HF.out _ _ hg HO.out), HO.out, hne⟩, hg⟩
set_option maxHeartbeats 1000000 in
theorem take_no (b : Nat) (k : Option Nat) (l : List UInt8) (c : Int) (n : Nat) (w : World) (h : Rd w b k l c) (hn : l.length < n) (hl : l.length ≤ 140737488355328) :
 Calls Try.prog 93 #[.pointer (some ⟨b, 0, none⟩), .int .u64 n] w fun e w' => e = .returned (.tuple #[.slice none 0 0, .bool false]) ∧ w = w' := by
 obtain ⟨v, hB, hbs, hk, hne⟩ := h
 obtain ⟨A, cp, rfl, hc, hm⟩ := hbs.form
 have c0 := hB.cell 0
 simp only [List.getElem?_toArray, List.getElem?_cons_zero] at c0
 have hx : ((l.length : Int) < (n : Int)) := by omega
 clear hbs hB hk
 generalize l.length = m at *
 go_enter Try.func93, Try.ntmps93
 go_wp2_with fail
 go_ret2
 exact ⟨rfl, rfl⟩
theorem takeZ_yes (b : Nat) (k : Option Nat) (l : List UInt8) (c : Int) (n : Nat) (z : Int) (hz : z = (n : Int)) (w : World) (h : Rd w b k l c) (hn : n ≤ l.length) (hl : l.length ≤ 140737488355328) :
 Calls Try.prog 93 #[.pointer (some ⟨b, 0, none⟩), .int .u64 z] w (Taken w b k l c n) := by
 subst hz; exact take_yes b k l c n w h hn hl
theorem takeZ_no (b : Nat) (k : Option Nat) (l : List UInt8) (c : Int) (n : Nat) (z : Int) (hz : z = (n : Int)) (w : World) (h : Rd w b k l c) (hn : l.length < n) (hl : l.length ≤ 140737488355328) :
 Calls Try.prog 93 #[.pointer (some ⟨b, 0, none⟩), .int .u64 z] w fun e w' => e = .returned (.tuple #[.slice none 0 0, .bool false]) ∧ w = w' := by
 subst hz; exact take_no b k l c n w h hn hl
end
section
open Go.ChangeShapes Go.WideShapes Go.ChangeAt Go.RowKit
theorem or_byte (a : Nat) (x : UInt8) (ha : a < 2 ^ 56) : bits BinOp.or IntKind.u64 ((a : Int) * 256) (u8 x) = ((a * 256 + x.toNat : Nat) : Int) := by
 show IntKind.u64.wrap ((BitVec.ofInt 64 ((a : Int) * 256) ||| BitVec.ofInt 64 (u8 x)).toNat : Int) = _
 have hx := x.toNat_lt
 have e1 : (a : Int) * 256 = ((a * 256 : Nat) : Int) := by simp
 rw [e1, show u8 x = ((x.toNat : Nat) : Int) from rfl, BitVec.ofInt_natCast, BitVec.ofInt_natCast, BitVec.toNat_or, BitVec.toNat_ofNat, BitVec.toNat_ofNat, Nat.mod_eq_of_lt (by omega), Nat.mod_eq_of_lt (by omega)]
 have e2 : a * 256 ||| x.toNat = a * 256 + x.toNat := by
  have := Nat.two_pow_add_eq_or_of_lt (i := 8) (b := x.toNat) (by omega) a
  rw [Nat.mul_comm a 256]
  exact this.symm
 rw [e2]
 simp [IntKind.wrap, IntKind.signed, IntKind.bits]
 omega
theorem num_snoc (l : List UInt8) (x : UInt8) : num (l ++ [x]) = num l * 256 + x.toNat := by unfold num; rw [List.foldl_append]; rfl
theorem num_take (l : List UInt8) (j : Nat) (h : j < l.length) : num (l.take (j + 1)) = num (l.take j) * 256 + l[j].toNat := by
 rw [List.take_succ_eq_append_getElem h, num_snoc]
theorem num_take_lt (l : List UInt8) (j : Nat) (h : l.length ≤ 8) (hj : j < l.length) : num (l.take j) < 2 ^ 56 := by
 have h1 := num_lt (l.take j)
 rw [List.length_take, Nat.min_eq_left (by omega)] at h1
 have h2 : (256 : Nat) ^ j ≤ 256 ^ 7 := Nat.pow_le_pow_right (by omega) (by omega)
 omega
theorem ret_num {z : Int} {b : Nat} (h : z = (b : Int)) : Ending.returned (.tuple #[.int .u64 z, .int .i64 0]) = .returned (.tuple #[.int .u64 b, .int .i64 0]) := by rw [h]
/-- What number does. -/
def NumGot (w : World) (b : Nat) (k : Option Nat) (n : Nat) (t : List UInt8) (c : Int) (e : Ending) (w' : World) : Prop :=
 e = .returned (.tuple #[.int .u64 n, .int .i64 0]) ∧ Rd w' b k t c ∧ w.grownBy w' (some b)
def NumBad (w : World) (b : Nat) (k : Option Nat) (m : Nat) (c : Int) (e : Ending) (w' : World) : Prop :=
 e = .returned (.tuple #[.int .u64 0, .int .i64 11]) ∧ (∃ l', Rd w' b k l' c ∧ l'.length ≤ m) ∧ w.grownBy w' (some b)
set_option maxHeartbeats 1000000 in
theorem number_nil (b : Nat) (k : Option Nat) (c : Int) (w : World) (h : Rd w b k [] c) :
 Calls Try.prog 81 #[.pointer (some ⟨b, 0, none⟩)] w (NumBad w b k 0 c) := by
 go_enter Try.func81, Try.ntmps81
 go_wp2_with fail
 refine (take_no b k [] c 1 w h (by simp) (by simp)).mono ?_
 rintro e w1 ⟨rfl, rfl⟩
 go_wp2_with fail
 go_ret2
 exact ⟨rfl, ⟨[], h, Nat.le_refl _⟩, grown_refl _ _⟩
set_option maxHeartbeats 1000000 in
theorem number_high (b : Nat) (k : Option Nat) (x : UInt8) (t : List UInt8) (c : Int) (w : World) (h : Rd w b k (x :: t) c) (hl : (x :: t).length ≤ 140737488355328) (hx : 8 < x.toNat) :
 Calls Try.prog 81 #[.pointer (some ⟨b, 0, none⟩)] w (NumBad w b k (x :: t).length c) := by
 have hu : (8 : Int) < u8 x := by unfold u8; omega
 have H := hide h;clear h hx
 go_enter Try.func81, Try.ntmps81
 go_wp2_with fail
 refine (take_yes b k (x :: t) c 1 w H.out (by simp) hl).mono ?_
 rintro e w1 ⟨v1, rfl, hb1, hk1, hr1, hg1⟩
 obtain ⟨A1, c1, rfl, h11, h12⟩ := hb1.form
 obtain ⟨b1, off1, y, rfl, hlt1, hy, hc1⟩ := hb1.at_ (k := 0) (by simp)
 obtain rfl : x = y := by simpa using hy
 have HR := hide hr1;have HG := hide hg1;clear hr1 hg1 hb1 hk1 hy
 simp only [Nat.add_zero] at hc1
 go_wp2_with fail
 go_ret2
 exact ⟨rfl, ⟨_, HR.out, by simp⟩, HG.out⟩
set_option maxHeartbeats 1000000 in
theorem number_short (b : Nat) (k : Option Nat) (x : UInt8) (t : List UInt8) (c : Int) (w : World) (h : Rd w b k (x :: t) c) (hl : (x :: t).length ≤ 140737488355328) (hx : x.toNat ≤ 8) (ht : t.length < x.toNat) :
 Calls Try.prog 81 #[.pointer (some ⟨b, 0, none⟩)] w (NumBad w b k (x :: t).length c) := by
 have hu : u8 x ≤ 8 := by unfold u8; omega
 have hu0 : 0 ≤ u8 x := (u8_lt x).1
 have H := hide h;have HT := hide ht;have HL := hide hl;clear h hx ht hl
 go_enter Try.func81, Try.ntmps81
 go_wp2_with fail
 refine (take_yes b k (x :: t) c 1 w H.out (by simp) HL.out).mono ?_
 rintro e w1 ⟨v1, rfl, hb1, hk1, hr1, hg1⟩
 obtain ⟨A1, c1, rfl, h11, h12⟩ := hb1.form
 obtain ⟨b1, off1, y, rfl, hlt1, hy, hc1⟩ := hb1.at_ (k := 0) (by simp)
 obtain rfl : x = y := by simpa using hy
 have HR : Hid (Rd w1 b k t c) := hide (by simpa using hr1)
 have HG := hide hg1;clear hr1 hg1 hb1 hk1 hy
 simp only [Nat.add_zero] at hc1
 go_wp2_with fail
 refine (takeZ_no b k t c x.toNat (u8 x) rfl _ HR.out HT.out (by have := HL.out; simp at this; omega)).mono ?_
 rintro e w2 ⟨rfl, rfl⟩
 go_wp2_with fail
 go_ret2
 exact ⟨rfl, ⟨_, HR.out, by simp⟩, HG.out⟩
set_option maxHeartbeats 1000000 in
theorem number_zero (b : Nat) (k : Option Nat) (x : UInt8) (t : List UInt8) (c : Int) (w : World) (h : Rd w b k (x :: 0 :: t) c) (hl : (x :: 0 :: t).length ≤ 140737488355328) (hx : x.toNat ≤ 8) (h0 : 0 < x.toNat) (ht : x.toNat ≤ t.length + 1) :
 Calls Try.prog 81 #[.pointer (some ⟨b, 0, none⟩)] w (NumBad w b k (x :: 0 :: t).length c) := by
 have hu : u8 x ≤ 8 := by unfold u8; omega
 have hu0 : 0 ≤ u8 x := (u8_lt x).1
 have H := hide h;have HT := hide ht;have HL := hide hl;have HX := hide hx;have H0 := hide h0;clear h hx ht hl h0
 go_enter Try.func81, Try.ntmps81
 go_wp2_with fail
 refine (take_yes b k (x :: 0 :: t) c 1 w H.out (by simp) HL.out).mono ?_
 rintro e w1 ⟨v1, rfl, hb1, hk1, hr1, hg1⟩
 obtain ⟨A1, c1, rfl, h11, h12⟩ := hb1.form
 obtain ⟨b1, off1, y, rfl, hlt1, hy, hc1⟩ := hb1.at_ (k := 0) (by simp)
 obtain rfl : x = y := by simpa using hy
 have HR : Hid (Rd w1 b k (0 :: t) c) := hide (by simpa using hr1)
 have HG := hide hg1;clear hr1 hg1 hb1 hk1 hy
 simp only [Nat.add_zero] at hc1
 go_wp2_with fail
 refine (takeZ_yes b k (0 :: t) c x.toNat (u8 x) rfl _ HR.out HT.out (by have := HL.out; simp at this ⊢; omega)).mono ?_
 rintro e w2 ⟨v2, rfl, hb2, hk2, hr2, hg2⟩
 obtain ⟨m, hm⟩ : ∃ m, x.toNat = m + 1 := ⟨x.toNat - 1, by have := H0.out; omega⟩
 have hlen : ((0 :: t).take x.toNat).length = m + 1 := by rw [List.length_take, List.length_cons, Nat.min_eq_left HT.out, hm]
 obtain ⟨A2, c2, rfl, h21, h22⟩ := hb2.form
 rw [hlen] at hb2 h21
 obtain ⟨b2, off2, y, rfl, hlt2, hy, hc2⟩ := hb2.at_ (k := 0) (by omega)
 obtain rfl : 0 = y := by rw [hm] at hy; simpa using hy
 rw [show u8 0 = 0 from rfl] at hc2
 have HG2 := hide (grown_trans HG.out hg2)
 have HR2 := hide hr2
 rw [hlen]
 clear hr2 hg2 hb2 hk2 hy hm hlen
 simp only [Nat.add_zero] at hc2
 have hq : ((0 : Int) < ((m + 1 : Nat) : Int)) := by omega
 go_wp2_with fail
 go_ret2
 exact ⟨rfl, ⟨_, HR2.out, by simp; omega⟩, HG2.out⟩
set_option maxHeartbeats 2000000 in
theorem number_some (b : Nat) (k : Option Nat) (x : UInt8) (t : List UInt8) (c : Int) (w : World) (h : Rd w b k (x :: t) c) (hl : (x :: t).length ≤ 140737488355328) (hx : x.toNat ≤ 8) (ht : x.toNat ≤ t.length) (h0 : ¬ (0 < x.toNat ∧ t.headD 1 = 0)) :
 Calls Try.prog 81 #[.pointer (some ⟨b, 0, none⟩)] w (NumGot w b k (num (t.take x.toNat)) (t.drop x.toNat) c) := by
 have hu : u8 x ≤ 8 := by unfold u8; omega
 have hu0 : 0 ≤ u8 x := (u8_lt x).1
 have H := hide h;have HT := hide ht;have HL := hide hl;have HX := hide hx;have H0 := hide h0;clear h hx ht hl h0
 go_enter Try.func81, Try.ntmps81
 go_wp2_with fail
 refine (take_yes b k (x :: t) c 1 w H.out (by simp) HL.out).mono ?_
 rintro e w1 ⟨v1, rfl, hb1, hk1, hr1, hg1⟩
 obtain ⟨A1, c1, rfl, h11, h12⟩ := hb1.form
 obtain ⟨b1, off1, y, rfl, hlt1, hy, hc1⟩ := hb1.at_ (k := 0) (by simp)
 obtain rfl : x = y := by simpa using hy
 have HR : Hid (Rd w1 b k t c) := hide (by simpa using hr1)
 have HG := hide hg1;clear hr1 hg1 hb1 hk1 hy
 simp only [Nat.add_zero] at hc1
 go_wp2_with fail
 refine (takeZ_yes b k t c x.toNat (u8 x) rfl _ HR.out HT.out (by have := HL.out; simp at this ⊢; omega)).mono ?_
 rintro e w2 ⟨v2, rfl, hb2, hk2, hr2, hg2⟩
 have HG2 := hide (grown_trans HG.out hg2)
 have HR2 := hide hr2
 have hlen : (t.take x.toNat).length = x.toNat := by rw [List.length_take, Nat.min_eq_left HT.out]
 have hnz : ∀ y, (t.take x.toNat)[0]? = some y → y ≠ 0 := by
  intro y hy e
  have h1 : 0 < x.toNat := by have := (List.getElem?_eq_some_iff.1 hy).1; omega
  apply H0.out
  refine ⟨h1, ?_⟩
  cases t with
  | nil => simp at hy
  | cons z r =>
   rw [List.getElem?_take, if_pos h1] at hy
   simp at hy
   rw [List.headD_cons, hy, e]
 obtain ⟨l2, hl2⟩ : ∃ l2, l2 = t.take x.toNat := ⟨_, rfl⟩
 rw [← hl2] at hb2 hlen hnz ⊢
 have HE := hide hl2
 have hm8 : l2.length ≤ 8 := by rw [hlen]; exact HX.out
 clear hr2 hg2 hl2 hk2
 obtain ⟨A2, c2, rfl, h21, h22⟩ := hb2.form
 have HB2 := hide hb2;have HNZ := hide hnz;clear hb2 hlen hnz
 by_cases hz : l2.length = 0
 ·have hnil : l2 = [] := List.eq_nil_of_length_eq_zero hz
  subst hnil
  clear hm8 hz h21
  go_wp2_with fail
  go_loop [7, 47] (fun n i => n = .int .u64 0 ∧ i = .int .i64 0) (fun _ _ => 0)
  case atStart => exact ⟨rfl, rfl⟩
  case round =>
   obtain ⟨rfl, rfl⟩ := hrel
   go_wp2_with fail
   go_ret2
   exact ⟨ret_num (by rw [← HE.out]; rfl), HR2.out, HG2.out⟩
 ·have h21' := hide h21
  obtain ⟨b2, off2, y, rfl, hlt2, hy, hc2⟩ := HB2.out.at_ (k := 0) (by omega)
  have hy0 : u8 y ≠ 0 := by
   have := HNZ.out y hy
   intro e; apply this; apply UInt8.toNat_inj.1
   unfold u8 at e
   have : y.toNat = 0 := by omega
   simpa using this
  have hyf : (u8 y == 0) = false := by simpa using hy0
  have hq : ((0 : Int) < (l2.length : Int)) := by omega
  obtain ⟨m, hm⟩ : ∃ m, m = l2.length := ⟨_, rfl⟩
  have HM := hide hm
  rw [← hm] at hm8 hz h21 hq ⊢
  clear hm hy hy0
  simp only [Nat.add_zero] at hc2
  go_wp2_with fail
  go_loop [7, 47] (fun n i => ∃ j : Nat, j ≤ m ∧ i = .int .i64 j ∧ n = .int .u64 (num (l2.take j))) (fun _ i => m - (intOf i).toNat)
  case atStart => exact ⟨0, Nat.zero_le _, rfl, rfl⟩
  case round =>
   clear hc2 hyf hq
   obtain ⟨j, hj, rfl, rfl⟩ := hrel
   by_cases hlt : j < m
   ·have hjl : j < l2.length := by rw [← HM.out]; exact hlt
    have hs := num_take l2 j hjl
    have hn := num_take_lt l2 j (by rw [← HM.out]; exact hm8) hjl
    obtain ⟨bb, oo, z, e1, _, hzz, hc3⟩ := HB2.out.at_ (k := j) hjl
    injection e1 with e1
    injection e1 with e1 e2
    subst e1 e2
    obtain rfl : l2[j] = z := by rw [List.getElem?_eq_getElem hjl] at hzz; injection hzz
    have HS := hide hs;clear hs hzz
    obtain ⟨a, ha⟩ : ∃ a, a = num (l2.take j) := ⟨_, rfl⟩
    rw [← ha] at hn HS ⊢
    obtain ⟨x2, hx2⟩ : ∃ x2, x2 = l2[j] := ⟨_, rfl⟩
    rw [← hx2] at hc3 HS
    have HX2 := u8_lt x2
    obtain ⟨q1, q2⟩ := HX2
    clear ha hx2 hjl
    go_wp2_with fail
    go_round
    case rel => exact ⟨j + 1, by omega, by go_num, by rw [HS.out, ← or_byte a x2 hn]⟩
    case measure => simp [intOf]; omega
   ·obtain rfl : j = m := by omega
    go_wp2_with fail
    go_ret2
    exact ⟨ret_num (by rw [← HE.out, HM.out, List.take_length]), HR2.out, HG2.out⟩
end
section
open Go.ChangeShapes Go.WideShapes Go.ChangeAt Go.RowKit
theorem Rd.touch {S : List Nat} {w w' : World} {b : Nat} {k : Option Nat} {l : List UInt8} {c : Int} (h : Rd w b k l c) (hg : Touch S w w') (h1 : b ∉ S) (h2 : ∀ j, k = some j → j ∉ S) : Rd w' b k l c := by
 obtain ⟨v, hB, hbs, hk, hne⟩ := h
 exact ⟨v, hB.touch hg h1, hbs.touch hg (fun j hj => h2 j (hk j hj)), hk, hne⟩
/-- The reader's error is set. -/
theorem Rd.fail {w : World} {b : Nat} {k : Option Nat} {l : List UInt8} {c : Int} (h : Rd w b k l c) (e : Int) : Rd ((w.setCell ⟨b, 1, none⟩ (.int .i64 e)).setCell ⟨b, 0, none⟩ (.slice none 0 0)) b k [] e := by
 obtain ⟨v, hB, hbs, hk, hne⟩ := h
 refine ⟨.slice none 0 0, ?_, Bs.nil _, (fun j hj => by cases hj), hne⟩
 exact (hB.put 1 (.int .i64 e)).put 0 _
theorem Rd.cells {w : World} {b : Nat} {k : Option Nat} {l : List UInt8} {c : Int} (h : Rd w b k l c) : ∃ v, w.cell? ⟨b, 0, none⟩ = some v ∧ w.cell? ⟨b, 1, none⟩ = some (.int .i64 c) ∧ w.frozen? ⟨b, 0, none⟩ = false ∧ w.frozen? ⟨b, 1, none⟩ = false ∧ Bs w v l := by
 obtain ⟨v, hB, hbs, hk, hne⟩ := h
 exact ⟨v, hB.cell 0, hB.cell 1, hB.froz 0, hB.froz 1, hbs⟩
/-- A function that read is handed has found a number. -/
def FnGot (S : List Nat) (w : World) (b : Nat) (k : Option Nat) (n : Nat) (t : List UInt8) (E : World → Prop) (e : Ending) (w' : World) : Prop :=
 e = .returned (.tuple #[.int .u64 n, .int .i64 0]) ∧ Rd w' b k t 0 ∧ Touch S w w' ∧ E w'
def FnBad (S : List Nat) (w : World) (b : Nat) (k : Option Nat) (code : Int) (E : World → Prop) (e : Ending) (w' : World) : Prop :=
 e = .returned (.tuple #[.int .u64 0, .int .i64 code]) ∧ (∃ l', Rd w' b k l' 0) ∧ Touch S w w' ∧ E w'
/-- What read does then. -/
def ReadGot (S : List Nat) (w : World) (b : Nat) (k : Option Nat) (n : Nat) (t : List UInt8) (E : World → Prop) (e : Ending) (w' : World) : Prop :=
 e = .returned (.int .u64 n) ∧ Rd w' b k t 0 ∧ Touch S w w' ∧ E w'
def ReadBad (S : List Nat) (w : World) (b : Nat) (k : Option Nat) (code : Int) (E : World → Prop) (e : Ending) (w' : World) : Prop :=
 e = .returned (.int .u64 0) ∧ Rd w' b k [] code ∧ Touch S w w' ∧ ∃ w1, E w1 ∧ Touch [b] w1 w'
set_option maxHeartbeats 1000000 in
theorem read_stopped (b : Nat) (k : Option Nat) (l : List UInt8) (c : Int) (fv : Value) (w : World) (h : Rd w b k l c) (hc : c ≠ 0) :
 Calls Try.prog 79 #[.pointer (some ⟨b, 0, none⟩), fv] w fun e w' => e = .returned (.int .u64 0) ∧ w = w' := by
 obtain ⟨v, c0, c1, f0, f1, _⟩ := h.cells
 have hcb : (c == 0) = false := by simpa using hc
 clear h hc
 go_enter Try.func79, Try.ntmps79
 go_wp2_with fail
 go_ret
 exact ⟨rfl, rfl⟩
set_option maxHeartbeats 1000000 in
theorem readNumber_got (S : List Nat) (b : Nat) (k : Option Nat) (l : List UInt8) (n : Nat) (t : List UInt8) (E : World → Prop) (w : World) (h : Rd w b k l 0)
 (hf : Calls Try.prog 81 #[.pointer (some ⟨b, 0, none⟩)] w (FnGot S w b k n t E)) :
 Calls Try.prog 79 #[.pointer (some ⟨b, 0, none⟩), .func (.func 81) #[.pointer (some ⟨b, 0, none⟩)] #[]] w (ReadGot S w b k n t E) := by
 obtain ⟨v, c0, c1, f0, f1, _⟩ := h.cells
 have HF := hide hf;clear h hf
 go_enter Try.func79, Try.ntmps79
 go_wp2_with fail
 refine HF.out.mono ?_
 rintro e w1 ⟨rfl, h1, h2, h3⟩
 go_wp2_with fail
 go_ret
 exact ⟨rfl, h1, h2, h3⟩
set_option maxHeartbeats 1000000 in
theorem readNumber_bad (S : List Nat) (b : Nat) (k : Option Nat) (l : List UInt8) (code : Int) (hcode : code ≠ 0) (E : World → Prop) (w : World) (h : Rd w b k l 0) (hb : b ∈ S)
 (hf : Calls Try.prog 81 #[.pointer (some ⟨b, 0, none⟩)] w (FnBad S w b k code E)) :
 Calls Try.prog 79 #[.pointer (some ⟨b, 0, none⟩), .func (.func 81) #[.pointer (some ⟨b, 0, none⟩)] #[]] w (ReadBad S w b k code E) := by
 obtain ⟨v, c0, c1, f0, f1, _⟩ := h.cells
 have HF := hide hf
 have hcb : (code == 0) = false := by simpa using hcode
 clear h hf hcode
 go_enter Try.func79, Try.ntmps79
 go_wp2_with fail
 refine HF.out.mono ?_
 rintro e w1 ⟨rfl, ⟨l', h1⟩, h2, h3⟩
 clear c0 c1 f0 f1
 obtain ⟨v1, c0, c1, f0, f1, _⟩ := h1.cells
 have H1 := hide h1;have H2 := hide h2;clear h1 h2
 go_wp2_with fail
 go_ret
 exact ⟨rfl, H1.out.fail code, (H2.out.set (.inl hb) 1 _).set (.inl hb) 0 _, w1, h3, ((Touch.refl [b] w1).set (by simp) 1 _).set (by simp) 0 _⟩
set_option maxHeartbeats 1000000 in
theorem readBool_got (q : Nat) (S : List Nat) (b : Nat) (k : Option Nat) (l : List UInt8) (n : Nat) (t : List UInt8) (E : World → Prop) (w : World) (h : Rd w b k l 0)
 (hf : Calls Try.prog 104 #[.pointer (some ⟨q, 0, none⟩)] w (FnGot S w b k n t E)) :
 Calls Try.prog 79 #[.pointer (some ⟨b, 0, none⟩), .func (.func 104) #[] #[.pointer (some ⟨q, 0, none⟩)]] w (ReadGot S w b k n t E) := by
 obtain ⟨v, c0, c1, f0, f1, _⟩ := h.cells
 have HF := hide hf;clear h hf
 go_enter Try.func79, Try.ntmps79
 go_wp2_with fail
 refine HF.out.mono ?_
 rintro e w1 ⟨rfl, h1, h2, h3⟩
 go_wp2_with fail
 go_ret
 exact ⟨rfl, h1, h2, h3⟩
set_option maxHeartbeats 1000000 in
theorem readBool_bad (q : Nat) (S : List Nat) (b : Nat) (k : Option Nat) (l : List UInt8) (code : Int) (hcode : code ≠ 0) (E : World → Prop) (w : World) (h : Rd w b k l 0) (hb : b ∈ S)
 (hf : Calls Try.prog 104 #[.pointer (some ⟨q, 0, none⟩)] w (FnBad S w b k code E)) :
 Calls Try.prog 79 #[.pointer (some ⟨b, 0, none⟩), .func (.func 104) #[] #[.pointer (some ⟨q, 0, none⟩)]] w (ReadBad S w b k code E) := by
 obtain ⟨v, c0, c1, f0, f1, _⟩ := h.cells
 have HF := hide hf
 have hcb : (code == 0) = false := by simpa using hcode
 clear h hf hcode
 go_enter Try.func79, Try.ntmps79
 go_wp2_with fail
 refine HF.out.mono ?_
 rintro e w1 ⟨rfl, ⟨l', h1⟩, h2, h3⟩
 clear c0 c1 f0 f1
 obtain ⟨v1, c0, c1, f0, f1, _⟩ := h1.cells
 have H1 := hide h1;have H2 := hide h2;clear h1 h2
 go_wp2_with fail
 go_ret
 exact ⟨rfl, H1.out.fail code, (H2.out.set (.inl hb) 1 _).set (.inl hb) 0 _, w1, h3, ((Touch.refl [b] w1).set (by simp) 1 _).set (by simp) 0 _⟩
set_option maxHeartbeats 1000000 in
theorem readText_got (q s : Nat) (S : List Nat) (b : Nat) (k : Option Nat) (l : List UInt8) (n : Nat) (t : List UInt8) (E : World → Prop) (w : World) (h : Rd w b k l 0)
 (hf : Calls Try.prog 92 #[.pointer (some ⟨q, 0, none⟩), .pointer (some ⟨s, 0, none⟩)] w (FnGot S w b k n t E)) :
 Calls Try.prog 79 #[.pointer (some ⟨b, 0, none⟩), .func (.func 92) #[] #[.pointer (some ⟨q, 0, none⟩), .pointer (some ⟨s, 0, none⟩)]] w (ReadGot S w b k n t E) := by
 obtain ⟨v, c0, c1, f0, f1, _⟩ := h.cells
 have HF := hide hf;clear h hf
 go_enter Try.func79, Try.ntmps79
 go_wp2_with fail
 refine HF.out.mono ?_
 rintro e w1 ⟨rfl, h1, h2, h3⟩
 go_wp2_with fail
 go_ret
 exact ⟨rfl, h1, h2, h3⟩
set_option maxHeartbeats 1000000 in
theorem readText_bad (q s : Nat) (S : List Nat) (b : Nat) (k : Option Nat) (l : List UInt8) (code : Int) (hcode : code ≠ 0) (E : World → Prop) (w : World) (h : Rd w b k l 0) (hb : b ∈ S)
 (hf : Calls Try.prog 92 #[.pointer (some ⟨q, 0, none⟩), .pointer (some ⟨s, 0, none⟩)] w (FnBad S w b k code E)) :
 Calls Try.prog 79 #[.pointer (some ⟨b, 0, none⟩), .func (.func 92) #[] #[.pointer (some ⟨q, 0, none⟩), .pointer (some ⟨s, 0, none⟩)]] w (ReadBad S w b k code E) := by
 obtain ⟨v, c0, c1, f0, f1, _⟩ := h.cells
 have HF := hide hf
 have hcb : (code == 0) = false := by simpa using hcode
 clear h hf hcode
 go_enter Try.func79, Try.ntmps79
 go_wp2_with fail
 refine HF.out.mono ?_
 rintro e w1 ⟨rfl, ⟨l', h1⟩, h2, h3⟩
 clear c0 c1 f0 f1
 obtain ⟨v1, c0, c1, f0, f1, _⟩ := h1.cells
 have H1 := hide h1;have H2 := hide h2;clear h1 h2
 go_wp2_with fail
 go_ret
 exact ⟨rfl, H1.out.fail code, (H2.out.set (.inl hb) 1 _).set (.inl hb) 0 _, w1, h3, ((Touch.refl [b] w1).set (by simp) 1 _).set (by simp) 0 _⟩
set_option maxHeartbeats 1000000 in
theorem readCount_got (q s : Nat) (S : List Nat) (b : Nat) (k : Option Nat) (l : List UInt8) (n : Nat) (t : List UInt8) (E : World → Prop) (w : World) (h : Rd w b k l 0)
 (hf : Calls Try.prog 80 #[.pointer (some ⟨q, 0, none⟩), .pointer (some ⟨s, 0, none⟩)] w (FnGot S w b k n t E)) :
 Calls Try.prog 79 #[.pointer (some ⟨b, 0, none⟩), .func (.func 80) #[] #[.pointer (some ⟨q, 0, none⟩), .pointer (some ⟨s, 0, none⟩)]] w (ReadGot S w b k n t E) := by
 obtain ⟨v, c0, c1, f0, f1, _⟩ := h.cells
 have HF := hide hf;clear h hf
 go_enter Try.func79, Try.ntmps79
 go_wp2_with fail
 refine HF.out.mono ?_
 rintro e w1 ⟨rfl, h1, h2, h3⟩
 go_wp2_with fail
 go_ret
 exact ⟨rfl, h1, h2, h3⟩
set_option maxHeartbeats 1000000 in
theorem readCount_bad (q s : Nat) (S : List Nat) (b : Nat) (k : Option Nat) (l : List UInt8) (code : Int) (hcode : code ≠ 0) (E : World → Prop) (w : World) (h : Rd w b k l 0) (hb : b ∈ S)
 (hf : Calls Try.prog 80 #[.pointer (some ⟨q, 0, none⟩), .pointer (some ⟨s, 0, none⟩)] w (FnBad S w b k code E)) :
 Calls Try.prog 79 #[.pointer (some ⟨b, 0, none⟩), .func (.func 80) #[] #[.pointer (some ⟨q, 0, none⟩), .pointer (some ⟨s, 0, none⟩)]] w (ReadBad S w b k code E) := by
 obtain ⟨v, c0, c1, f0, f1, _⟩ := h.cells
 have HF := hide hf
 have hcb : (code == 0) = false := by simpa using hcode
 clear h hf hcode
 go_enter Try.func79, Try.ntmps79
 go_wp2_with fail
 refine HF.out.mono ?_
 rintro e w1 ⟨rfl, ⟨l', h1⟩, h2, h3⟩
 clear c0 c1 f0 f1
 obtain ⟨v1, c0, c1, f0, f1, _⟩ := h1.cells
 have H1 := hide h1;have H2 := hide h2;clear h1 h2
 go_wp2_with fail
 go_ret
 exact ⟨rfl, H1.out.fail code, (H2.out.set (.inl hb) 1 _).set (.inl hb) 0 _, w1, h3, ((Touch.refl [b] w1).set (by simp) 1 _).set (by simp) 0 _⟩
end
section
open Go.ChangeShapes Go.WideShapes Go.ChangeAt Go.RowKit
/-- A method's call: the reader makes the step, nothing else that lay there has turned. -/
def Step1 (w : World) (b : Nat) (k : Option Nat) (r : RS) (v : Value) (e : Ending) (w' : World) : Prop := e = .returned v ∧ Rd w' b k r.1 r.2 ∧ Touch [b] w w'
/-- Shapes of the bytes at a number. -/
theorem parse_cases (l : List UInt8) :
 (l = [] ∧ parseN l = none) ∨ (∃ x t, l = x :: t ∧ 8 < x.toNat ∧ parseN l = none) ∨ (∃ x t, l = x :: t ∧ x.toNat ≤ 8 ∧ t.length < x.toNat ∧ parseN l = none) ∨
 (∃ x t, l = x :: 0 :: t ∧ x.toNat ≤ 8 ∧ 0 < x.toNat ∧ x.toNat ≤ t.length + 1 ∧ parseN l = none) ∨
 (∃ x t, l = x :: t ∧ x.toNat ≤ 8 ∧ x.toNat ≤ t.length ∧ ¬ (0 < x.toNat ∧ t.headD 1 = 0) ∧ parseN l = some (num (t.take x.toNat), t.drop x.toNat)) := by
 cases l with
 | nil => exact .inl ⟨rfl, rfl⟩
 | cons x t =>
  right
  by_cases h1 : 8 < x.toNat
  ·exact .inl ⟨x, t, rfl, h1, by unfold parseN; exact if_pos (.inl h1)⟩
  right
  by_cases h2 : t.length < x.toNat
  ·exact .inl ⟨x, t, rfl, by omega, h2, by unfold parseN; exact if_pos (.inr (.inl h2))⟩
  right
  by_cases h3 : 0 < x.toNat ∧ t.headD 1 = 0
  ·left
   have hp : parseN (x :: t) = none := by unfold parseN; exact if_pos (.inr (.inr h3))
   obtain ⟨h3, h4⟩ := h3
   cases t with
   | nil => simp at h4
   | cons y t =>
    rw [List.headD_cons] at h4
    subst h4
    exact ⟨x, t, rfl, by omega, h3, by simp at h2; omega, hp⟩
  ·right
   refine ⟨x, t, rfl, by omega, by omega, h3, ?_⟩
   unfold parseN
   exact if_neg (fun h => h.elim h1 (fun h => h.elim h2 h3))
theorem number_bad (b : Nat) (k : Option Nat) (l : List UInt8) (c : Int) (w : World) (h : Rd w b k l c) (hl : l.length ≤ 140737488355328) (hp : parseN l = none) :
 Calls Try.prog 81 #[.pointer (some ⟨b, 0, none⟩)] w (NumBad w b k l.length c) := by
 rcases parse_cases l with ⟨rfl, _⟩ | ⟨x, t, rfl, h1, _⟩ | ⟨x, t, rfl, h1, h2, _⟩ | ⟨x, t, rfl, h1, h2, h3, _⟩ | ⟨x, t, rfl, h1, h2, h3, h4⟩
 ·exact number_nil b k c w h
 ·exact number_high b k x t c w h hl h1
 ·exact number_short b k x t c w h hl h1 h2
 ·exact number_zero b k x t c w h hl h1 h2 h3
 ·rw [h4] at hp; cases hp
theorem number_got (b : Nat) (k : Option Nat) (l : List UInt8) (c : Int) (w : World) (h : Rd w b k l c) (hl : l.length ≤ 140737488355328) {n : Nat} {t : List UInt8} (hp : parseN l = some (n, t)) :
 Calls Try.prog 81 #[.pointer (some ⟨b, 0, none⟩)] w (NumGot w b k n t c) := by
 rcases parse_cases l with ⟨rfl, h4⟩ | ⟨x, t, rfl, h1, h4⟩ | ⟨x, t, rfl, h1, h2, h4⟩ | ⟨x, t, rfl, h1, h2, h3, h4⟩ | ⟨x, t, rfl, h1, h2, h3, h4⟩
 ·rw [h4] at hp; cases hp
 ·rw [h4] at hp; cases hp
 ·rw [h4] at hp; cases hp
 ·rw [h4] at hp; cases hp
 ·rw [h4] at hp
  injection hp with hp
  injection hp with e1 e2
  subst e1 e2
  exact number_some b k x t c w h hl h1 h2 h3
theorem parse_len {l t : List UInt8} {n : Nat} (h : parseN l = some (n, t)) : t.length < l.length := by
 have := congrArg List.length (parseN_some h).1
 simp [enc] at this
 omega
set_option maxHeartbeats 1000000 in
theorem rdNumber_c (b : Nat) (k : Option Nat) (l : List UInt8) (c : Int) (w : World) (h : Rd w b k l c) (hl : l.length ≤ 140737488355328) :
 Calls Try.prog 87 #[.pointer (some ⟨b, 0, none⟩)] w (Step1 w b k (rNum (l, c)).1 (.int .u64 (rNum (l, c)).2)) := by
 have H := hide h
 by_cases hc : c = 0
 ·subst hc
  cases hp : parseN l with
  | none =>
   have hr : rNum (l, 0) = (bad 11, 0) := by simp [rNum, hp]
   rw [hr]
   have HF := hide ((number_bad b k l 0 w h hl hp).mono (R' := FnBad [b] w b k 11 (fun _ => True)) (fun e w' ⟨h1, ⟨l', h2, _⟩, h3⟩ => ⟨h1, ⟨l', h2⟩, Touch.one h3, trivial⟩))
   clear h hp hr
   go_enter Try.func87, Try.ntmps87
   go_wp2_with fail
   refine (readNumber_bad [b] b k l 11 (by decide) (fun _ => True) w H.out (by simp) HF.out).mono ?_
   rintro e w1 ⟨rfl, h1, h2, _⟩
   go_wp2_with fail
   go_ret
   exact ⟨rfl, h1, h2⟩
  | some p =>
   obtain ⟨n, t⟩ := p
   have hr : rNum (l, 0) = ((t, 0), n) := by simp [rNum, hp]
   rw [hr]
   have HF := hide ((number_got b k l 0 w h hl hp).mono (R' := FnGot [b] w b k n t (fun _ => True)) (fun e w' ⟨h1, h2, h3⟩ => ⟨h1, h2, Touch.one h3, trivial⟩))
   clear h hp hr
   go_enter Try.func87, Try.ntmps87
   go_wp2_with fail
   refine (readNumber_got [b] b k l n t (fun _ => True) w H.out HF.out).mono ?_
   rintro e w1 ⟨rfl, h1, h2, _⟩
   go_wp2_with fail
   go_ret
   exact ⟨rfl, h1, h2⟩
 ·have hr : rNum (l, c) = ((l, c), 0) := by simp [rNum, hc]
  rw [hr]
  clear h hr;have HC := hide hc;clear hc
  go_enter Try.func87, Try.ntmps87
  go_wp2_with fail
  refine (read_stopped b k l c _ w H.out HC.out).mono ?_
  rintro e w1 ⟨rfl, rfl⟩
  go_wp2_with fail
  go_ret
  exact ⟨rfl, H.out, Touch.refl _ _⟩
end
end Go.Proofs.Ytpbgelhjbfckcaa
