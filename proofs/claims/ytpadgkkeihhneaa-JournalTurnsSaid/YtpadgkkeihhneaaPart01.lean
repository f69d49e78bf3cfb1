/- A disk in plain Lean. -/
import Derived.Test.YtpadgkkeihhneaaRows
import Derived.WalkKit
import Derived.ProofKit
import Derived.OpenShut
import Derived.Handy
import Derived.Deep.SlicePairs
import Derived.Deep.Draws
import Derived.Maps.AppendAt
import Derived.Deep.AppendLies
import Derived.Laws.BytesArg
import Derived.Deep.MidRow
import Derived.Laws.MakeOwn
import Derived.Deep.RegionHeld3
import Derived.Laws.MathBits
import Derived.Shelf.Small.Bits
namespace Go.Proofs.Ytpadgkkeihhneaa
set_option maxRecDepth 100000
set_option linter.unusedSimpArgs false
set_option linter.unusedVariables false
set_option linter.unusedVariables false

/-- A disk: durable pages, pending writes, the fuse (negative: absent), whether it has failed. -/
structure DS where
  pages : List (List UInt8)
  pend : List (Nat × List UInt8)
  fuse : Int
  failed : Bool

/-- Every page has 128 bytes, every pending write is to a page that exists. -/
structure DS.Ok (D : DS) : Prop where
  pages : ∀ p ∈ D.pages, p.length = 128
  pend : ∀ w ∈ D.pend, w.1 < D.pages.length ∧ w.2.length = 128
  fuse : -1 ≤ D.fuse ∧ D.fuse ≤ 9223372036854775807

/-- The contents that a page has had, the newest last. -/
def hist (D : DS) (i : Nat) : List (List UInt8) := D.pages.getD i [] :: (D.pend.filter (fun w => w.1 == i)).map (·.2)
def content (D : DS) (i : Nat) : List UInt8 := (hist D i).getLast?.getD []
def thereB (D : DS) (p : Int) : Bool := decide (0 ≤ p) && decide (p < D.pages.length)
/-- What Read returns. -/
def dRead (D : DS) (p : Int) : List UInt8 × Int := if D.failed then ([], 10) else if thereB D p then (content D p.toNat, 0) else ([], 2)
/-- The fuse burns. -/
def dBurn (D : DS) : DS × Int := if D.fuse = 0 then ({ D with failed := true }, 10) else if 0 < D.fuse then ({ D with fuse := D.fuse - 1 }, 0) else (D, 0)
/-- What Write does. -/
def dWrite (D : DS) (p : Int) (data : List UInt8) : DS × Int :=
  if D.failed then (D, 10) else if data.length ≠ 128 then (D, 1) else if ¬ thereB D p then (D, 2) else
    if (dBurn D).2 = 0 then ({ (dBurn D).1 with pend := (dBurn D).1.pend ++ [(p.toNat, data)] }, 0) else dBurn D
/-- The first n bytes of a page are replaced. -/
def mixed (page data : List UInt8) (n : Int) : List UInt8 := data.take (min (max n 0) 128).toNat ++ page.drop (min (max n 0) 128).toNat
def settleFrom (f : Nat → Int) : Nat → List (Nat × List UInt8) → List (List UInt8) → List (List UInt8)
  | _, [], ps => ps
  | i, w :: ws, ps => settleFrom f (i + 1) ws (ps.set w.1 (mixed (ps.getD w.1 []) w.2 (f i)))
def dSettle (D : DS) (f : Nat → Int) : DS := { D with pages := settleFrom f 0 D.pend D.pages, pend := [] }
def dSync (D : DS) : DS × Int := if D.failed then (D, 10) else if (dBurn D).2 = 0 then (dSettle (dBurn D).1 (fun _ => 128), 0) else dBurn D
def dFailAfter (D : DS) (n : Int) : DS := { D with fuse := max n (-1) }
def dCrash (D : DS) (s : List Int) : DS := { dSettle D (fun i => s.getD i 0) with fuse := -1, failed := false }
def dNew (n : Nat) : DS := ⟨List.replicate n (List.replicate 128 0), [], -1, false⟩

theorem mixed_len (page data : List UInt8) (n : Int) (h1 : page.length = 128) (h2 : data.length = 128) : (mixed page data n).length = 128 := by
  unfold mixed; rw [List.length_append, List.length_take, List.length_drop]; omega
theorem settleFrom_ok (f : Nat → Int) (i : Nat) (ws : List (Nat × List UInt8)) (ps : List (List UInt8)) (h : ∀ p ∈ ps, p.length = 128) (hw : ∀ w ∈ ws, w.1 < ps.length ∧ w.2.length = 128) :
    (settleFrom f i ws ps).length = ps.length ∧ ∀ p ∈ settleFrom f i ws ps, p.length = 128 := by
  induction ws generalizing i ps with
  | nil => exact ⟨rfl, h⟩
  | cons w ws ih =>
    have h1 := hw w (by simp)
    have hg : (ps.getD w.1 []).length = 128 := by
      rw [List.getD_eq_getElem?_getD, List.getElem?_eq_getElem h1.1]
      exact h _ (List.getElem_mem _)
    have := ih (i + 1) (ps.set w.1 (mixed (ps.getD w.1 []) w.2 (f i))) (fun p hp => by
      rcases List.mem_or_eq_of_mem_set hp with hp | hp
      · exact h p hp
      · rw [hp]; exact mixed_len _ _ _ hg h1.2) (fun x hx => by rw [List.length_set]; exact hw x (by simp [hx]))
    rw [List.length_set] at this
    exact this
theorem dBurn_ok {D : DS} (h : D.Ok) : (dBurn D).1.Ok := by
  unfold dBurn
  split
  · exact ⟨h.pages, h.pend, h.fuse⟩
  · split
    · exact ⟨h.pages, h.pend, by have := h.fuse; simp; omega⟩
    · exact h
theorem dSettle_ok {D : DS} (h : D.Ok) (f : Nat → Int) : (dSettle D f).Ok := by
  have := settleFrom_ok f 0 D.pend D.pages h.pages h.pend
  exact ⟨this.2, (fun w hw => by cases hw), h.fuse⟩
theorem dBurn_pages (D : DS) : (dBurn D).1.pages = D.pages ∧ (dBurn D).1.pend = D.pend := by
  unfold dBurn
  split
  · exact ⟨rfl, rfl⟩
  · split <;> exact ⟨rfl, rfl⟩
theorem thereB_iff (D : DS) (p : Int) : thereB D p = true ↔ 0 ≤ p ∧ p < D.pages.length := by unfold thereB; simp
theorem dWrite_ok {D : DS} (h : D.Ok) (p : Int) (data : List UInt8) : (dWrite D p data).1.Ok := by
  unfold dWrite
  split
  · exact h
  split
  · exact h
  split
  · exact h
  rename_i h1 h2 h3
  have hb := dBurn_ok h
  have hp := dBurn_pages D
  split
  · refine ⟨hb.pages, fun w hw => ?_, hb.fuse⟩
    rcases List.mem_append.1 hw with hw | hw
    · exact hb.pend w hw
    · obtain rfl : w = (p.toNat, data) := by simpa using hw
      have h4 : thereB D p = true := by simpa using h3
      have := (thereB_iff D p).1 h4
      refine ⟨?_, by simpa using h2⟩
      show p.toNat < (dBurn D).1.pages.length
      rw [hp.1]; omega
  · exact hb
theorem dSync_ok {D : DS} (h : D.Ok) : (dSync D).1.Ok := by
  unfold dSync
  split
  · exact h
  split
  · exact dSettle_ok (dBurn_ok h) _
  · exact dBurn_ok h
theorem dCrash_ok {D : DS} (h : D.Ok) (s : List Int) : (dCrash D s).Ok := by
  have := dSettle_ok h (fun i => s.getD i 0)
  exact ⟨this.pages, this.pend, by show -1 ≤ (-1 : Int) ∧ (-1 : Int) ≤ 9223372036854775807; omega⟩
theorem dNew_ok (n : Nat) : (dNew n).Ok := ⟨(fun p hp => by have := List.eq_of_mem_replicate hp; rw [this]; simp), (fun w hw => by cases hw), (by show -1 ≤ (-1 : Int) ∧ (-1 : Int) ≤ 9223372036854775807; omega)⟩
end Go.Proofs.Ytpadgkkeihhneaa
/- Package wire in plain Lean: a number's bytes. -/
namespace Go.Proofs.Ytpadgkkeihhneaa
set_option maxRecDepth 100000
set_option linter.unusedSimpArgs false
set_option linter.unusedVariables false
set_option linter.unusedVariables false

/-- The last k bytes of n, the greatest first. -/
def dig : Nat → Nat → List UInt8
  | 0, _ => []
  | k + 1, n => UInt8.ofNat (n / 256 ^ k % 256) :: dig k n
theorem dig_len (k n : Nat) : (dig k n).length = k := by
  induction k with
  | zero => rfl
  | succ k ih => simp [dig, ih]
/-- How many bytes n takes. -/
def blen (n : Nat) : Nat := if h : n = 0 then 0 else blen (n / 256) + 1
termination_by n
decreasing_by omega
theorem blen_zero : blen 0 = 0 := by rw [blen]; simp
theorem blen_pos {n : Nat} (h : n ≠ 0) : blen n = blen (n / 256) + 1 := by rw [blen, dif_neg h]
theorem blen_le (k n : Nat) (h : n < 256 ^ k) : blen n ≤ k := by
  induction k generalizing n with
  | zero => have : n = 0 := by simpa using h
            rw [this, blen_zero]; exact Nat.le_refl _
  | succ k ih =>
    by_cases h0 : n = 0
    · rw [h0, blen_zero]; omega
    · rw [blen_pos h0]
      have : n / 256 < 256 ^ k := by rw [Nat.pow_succ] at h; omega
      have := ih _ this
      omega
theorem lt_blen (n : Nat) : n < 256 ^ blen n := by
  induction n using Nat.strongRecOn with
  | _ n ih =>
    by_cases h0 : n = 0
    · rw [h0, blen_zero]; decide
    · rw [blen_pos h0, Nat.pow_succ]
      have := ih (n / 256) (by omega)
      omega
theorem blen_iff (n k : Nat) : n / 256 ^ k = 0 ↔ blen n ≤ k := by
  constructor
  · intro h
    apply blen_le
    have := Nat.div_eq_zero_iff.1 h
    have hp : 256 ^ k > 0 := Nat.pow_pos (by omega)
    omega
  · intro h
    apply Nat.div_eq_of_lt
    exact Nat.lt_of_lt_of_le (lt_blen n) (Nat.pow_le_pow_right (by omega) h)
/-- A number's encoding. -/
def enc (n : Nat) : List UInt8 := UInt8.ofNat (blen n) :: dig (blen n) n
theorem dig_succ (k n : Nat) : dig (k + 1) n = UInt8.ofNat (n / 256 ^ k % 256) :: dig k n := rfl
/-- The number that bytes are. -/
def num (l : List UInt8) : Nat := l.foldl (fun n x => n * 256 + x.toNat) 0
theorem num_from (l : List UInt8) (a : Nat) : l.foldl (fun n x => n * 256 + x.toNat) a = a * 256 ^ l.length + num l := by
  induction l generalizing a with
  | nil => simp [num]
  | cons x l ih =>
    unfold num
    rw [List.foldl_cons, List.foldl_cons, ih, ih (0 * 256 + x.toNat), List.length_cons, Nat.pow_succ, Nat.add_mul, Nat.zero_mul, Nat.zero_add, Nat.mul_assoc, Nat.mul_comm 256]
    omega
theorem num_cons (x : UInt8) (l : List UInt8) : num (x :: l) = x.toNat * 256 ^ l.length + num l := by
  show l.foldl _ (0 * 256 + x.toNat) = _
  rw [num_from, Nat.zero_mul, Nat.zero_add]
theorem num_dig (k n : Nat) : num (dig k n) = n % 256 ^ k := by
  induction k with
  | zero => simp [dig, num, Nat.mod_one]
  | succ k ih =>
    have h1 : n / 256 ^ k % 256 % 2 ^ 8 = n / 256 ^ k % 256 := Nat.mod_eq_of_lt (by omega)
    have h2 : n % (256 ^ k * 256) = n % 256 ^ k + 256 ^ k * (n / 256 ^ k % 256) := Nat.mod_mul
    rw [dig_succ, num_cons, dig_len, ih, UInt8.toNat_ofNat', h1, Nat.pow_succ 256 k, h2, Nat.mul_comm]
    omega
theorem num_enc (n : Nat) : num (dig (blen n) n) = n := by rw [num_dig, Nat.mod_eq_of_lt (lt_blen n)]
theorem num_lt (l : List UInt8) : num l < 256 ^ l.length := by
  induction l with
  | nil => simp [num]
  | cons x l ih =>
    rw [num_cons, List.length_cons, Nat.pow_succ, Nat.mul_comm _ 256]
    have h1 := x.toNat_lt
    have h2 : x.toNat * 256 ^ l.length ≤ 255 * 256 ^ l.length := Nat.mul_le_mul_right _ (by omega)
    omega
/-- Two encodings, one the beginning of the other one with more behind: the numbers are the same. -/
theorem enc_begins (a b : Nat) (ha : a < 2 ^ 64) (hb : b < 2 ^ 64) (h : (enc b).take (enc a).length = enc a) : a = b := by
  unfold enc at h
  rw [List.length_cons, List.take_succ_cons, dig_len] at h
  injection h with h1 h2
  have la := blen_le 8 a (by omega)
  have lb := blen_le 8 b (by omega)
  have h3 : blen b = blen a := by
    have := congrArg UInt8.toNat h1
    rw [UInt8.toNat_ofNat', UInt8.toNat_ofNat', Nat.mod_eq_of_lt (by omega), Nat.mod_eq_of_lt (by omega)] at this
    exact this
  rw [← h3, List.take_of_length_le (by rw [dig_len]; exact Nat.le_refl _)] at h2
  have h4 := congrArg num h2
  rw [num_enc, h3, num_enc] at h4
  exact h4.symm
end Go.Proofs.Ytpadgkkeihhneaa
/- Package wire in plain Lean: what a reader finds. -/
namespace Go.Proofs.Ytpadgkkeihhneaa
set_option maxRecDepth 100000
set_option linter.unusedSimpArgs false
set_option linter.unusedVariables false
set_option linter.unusedVariables false

/-- A number at the beginning of bytes, and what is left. -/
def parseN (l : List UInt8) : Option (Nat × List UInt8) :=
  match l with
  | [] => none
  | h :: t => if 8 < h.toNat ∨ t.length < h.toNat ∨ (0 < h.toNat ∧ t.headD 1 = 0) then none else some (num (t.take h.toNat), t.drop h.toNat)

theorem blen_div (n k : Nat) : blen (n / 256 ^ k) = blen n - k := by
  induction k with
  | zero => simp
  | succ k ih =>
    rw [Nat.pow_succ, ← Nat.div_div_eq_div_mul]
    by_cases h : n / 256 ^ k = 0
    · have := (blen_iff n k).1 h
      rw [h, Nat.zero_div, blen_zero]; omega
    · have := blen_pos h
      omega
theorem top_pos (n : Nat) (h : n ≠ 0) : 0 < n / 256 ^ (blen n - 1) ∧ n / 256 ^ (blen n - 1) < 256 := by
  have hp := blen_pos h
  have h1 := blen_div n (blen n - 1)
  constructor
  · rcases Nat.eq_zero_or_pos (n / 256 ^ (blen n - 1)) with h0 | h0
    · rw [h0, blen_zero] at h1; omega
    · exact h0
  · have h2 := blen_div n (blen n)
    have h3 : n / 256 ^ blen n = 0 := Nat.div_eq_of_lt (lt_blen n)
    have h4 : blen n = (blen n - 1) + 1 := by omega
    rw [h4, Nat.pow_succ, ← Nat.div_div_eq_div_mul] at h3
    have := Nat.div_eq_zero_iff.1 h3
    omega
theorem u8_zero (k : Nat) (h : k < 256) (h0 : 0 < k) : UInt8.ofNat k ≠ 0 := by
  intro e
  have := congrArg UInt8.toNat e
  rw [UInt8.toNat_ofNat', Nat.mod_eq_of_lt h] at this
  simp at this
  omega
theorem enc_head (n : Nat) (hn : n < 2 ^ 64) : (UInt8.ofNat (blen n)).toNat = blen n := by
  have := blen_le 8 n (by omega)
  rw [UInt8.toNat_ofNat', Nat.mod_eq_of_lt (by omega)]
theorem parseN_enc (n : Nat) (hn : n < 2 ^ 64) (t : List UInt8) : parseN (enc n ++ t) = some (n, t) := by
  have h8 := blen_le 8 n (by omega)
  have hh := enc_head n hn
  show parseN (UInt8.ofNat (blen n) :: (dig (blen n) n ++ t)) = _
  unfold parseN
  simp only
  rw [if_neg, hh]
  · rw [List.take_left' (dig_len _ _), List.drop_left' (dig_len _ _), num_enc]
  · rw [hh]
    rintro (h | h | ⟨h, h0⟩)
    · omega
    · rw [List.length_append, dig_len] at h; omega
    · obtain ⟨k, hk⟩ : ∃ k, blen n = k + 1 := ⟨blen n - 1, by omega⟩
      have hne : n ≠ 0 := by rintro rfl; rw [blen_zero] at h; omega
      have htp := top_pos n hne
      rw [hk] at h0 htp
      rw [dig_succ, List.cons_append, List.headD_cons, Nat.mod_eq_of_lt (by simpa using htp.2)] at h0
      exact u8_zero _ htp.2 htp.1 h0
theorem blen_num (x : UInt8) (l : List UInt8) (h : x ≠ 0) : blen (num (x :: l)) = l.length + 1 := by
  have hx : 0 < x.toNat := by
    rcases Nat.eq_zero_or_pos x.toNat with h0 | h0
    · exfalso; apply h; apply UInt8.toNat_inj.1; simpa using h0
    · exact h0
  have h1 := num_cons x l
  have h2 := num_lt (x :: l)
  have h3 := blen_le (l.length + 1) _ (by simpa using h2)
  have h4 : ¬ blen (num (x :: l)) ≤ l.length := by
    rw [← blen_iff]
    intro e
    have hp : 0 < 256 ^ l.length := Nat.pow_pos (by omega)
    have := (Nat.div_eq_zero_iff.1 e)
    have h5 : 1 * 256 ^ l.length ≤ x.toNat * 256 ^ l.length := Nat.mul_le_mul_right _ hx
    omega
  omega
theorem dig_num (l : List UInt8) (n : Nat) (h : n % 256 ^ l.length = num l) : dig l.length n = l := by
  induction l generalizing n with
  | nil => rfl
  | cons x l ih =>
    rw [List.length_cons] at h ⊢
    have hp : 0 < 256 ^ l.length := Nat.pow_pos (by omega)
    have h1 := num_cons x l
    have h2 := num_lt l
    have h3 : n % (256 ^ l.length * 256) = n % 256 ^ l.length + 256 ^ l.length * (n / 256 ^ l.length % 256) := Nat.mod_mul
    rw [Nat.pow_succ, h3, h1] at h
    have h4 : n % 256 ^ l.length < 256 ^ l.length := Nat.mod_lt _ hp
    have e1 : n % 256 ^ l.length = num l := by
      have := congrArg (· % 256 ^ l.length) h
      simp only [Nat.add_mul_mod_self_left] at this
      rw [Nat.mul_comm x.toNat, Nat.mul_add_mod, Nat.mod_mod, Nat.mod_eq_of_lt h2] at this
      exact this
    have e2 : n / 256 ^ l.length % 256 = x.toNat := by
      rw [e1, Nat.mul_comm x.toNat] at h
      have : 256 ^ l.length * (n / 256 ^ l.length % 256) = 256 ^ l.length * x.toNat := by omega
      exact Nat.eq_of_mul_eq_mul_left hp this
    rw [dig_succ, ih n e1, e2]
    congr 1
    exact UInt8.ofNat_toNat
/-- What is found has the bytes as its encoding. -/
theorem parseN_some {l t : List UInt8} {n : Nat} (h : parseN l = some (n, t)) : enc n ++ t = l ∧ n < 2 ^ 64 := by
  unfold parseN at h
  split at h
  · cases h
  · rename_i x r
    split at h
    · cases h
    · rename_i hc
      injection h with h
      injection h with h1 h2
      have hc1 : ¬ 8 < x.toNat := fun e => hc (.inl e)
      have hc2 : ¬ r.length < x.toNat := fun e => hc (.inr (.inl e))
      have hl : (r.take x.toNat).length = x.toNat := by rw [List.length_take]; omega
      have hb : blen n = x.toNat := by
        cases hr : r.take x.toNat with
        | nil =>
          rw [hr] at h1 hl
          rw [← h1, ← hl]; exact blen_zero
        | cons y s =>
          rw [hr] at h1 hl
          have hy : y ≠ 0 := by
            intro e
            apply hc
            refine .inr (.inr ⟨by rw [← hl]; simp, ?_⟩)
            cases r with
            | nil => simp at hr
            | cons z r' =>
              have : x.toNat = x.toNat - 1 + 1 := by rw [← hl]; simp
              rw [this, List.take_succ_cons] at hr
              injection hr with hz _
              rw [List.headD_cons, hz, e]
          rw [← h1, blen_num y s hy, ← hl]; simp
      have hlt := num_lt (r.take x.toNat)
      rw [hl, h1] at hlt
      have hp : (256 : Nat) ^ x.toNat ≤ 256 ^ 8 := Nat.pow_le_pow_right (by omega) (by omega)
      refine ⟨?_, by omega⟩
      have hd := dig_num (r.take x.toNat) n (by rw [hl, Nat.mod_eq_of_lt hlt, h1])
      rw [hl] at hd
      unfold enc
      rw [hb, hd, ← h2, UInt8.ofNat_toNat, List.cons_append, List.take_append_drop]

/-- The state of a reader: what is left, the error. -/
abbrev RS := List UInt8 × Int
def bad (c : Int) : RS := ([], c)
def rNum (r : RS) : RS × Nat := if r.2 = 0 then (match parseN r.1 with | some (n, t) => ((t, 0), n) | none => (bad 11, 0)) else (r, 0)
/-- The integer of a number. -/
def zag (n : Nat) : Int := if n % 2 = 0 then (n / 2 : Nat) else -((n / 2 : Nat) : Int) - 1
def rInt (r : RS) : RS × Int := ((rNum r).1, zag (rNum r).2)
def rBool (r : RS) : RS × Bool := if r.2 = 0 then (match r.1 with | [] => (bad 11, false) | h :: t => if 1 < h.toNat then (bad 11, false) else ((t, 0), h.toNat == 1)) else (r, false)
def rText (r : RS) : RS × List UInt8 := if r.2 = 0 then (match parseN r.1 with | some (n, t) => if t.length < n then (bad 11, []) else ((t.drop n, 0), t.take n) | none => (bad 11, [])) else (r, [])
def rCount (most : Int) (r : RS) : RS × Nat := if r.2 = 0 then (match parseN r.1 with | some (n, t) => if most < (n : Int) then (bad 8, 0) else ((t, 0), n) | none => (bad 11, 0)) else (r, 0)
def rEnd (r : RS) : Int := if r.2 = 0 ∧ 0 < r.1.length then 11 else r.2
end Go.Proofs.Ytpadgkkeihhneaa
/- Shared ground of this seat's proofs: from a walk to the law's statement; facts on blocks of memory; slices of integers that came in. -/
namespace Go.Proofs.Ytpadgkkeihhneaa
set_option maxRecDepth 100000
set_option linter.unusedSimpArgs false
set_option linter.unusedVariables false
open Go.ChangeShapes Go.WideShapes Go.ChangeAt Go.RowKit

/-! ### From a walk to the statement -/

theorem own_knob : ownKnob Try.prog.godebug = none := by kernel_rfl
theorem laid_out : laidOutB Try.prog = true := by kernel_rfl

theorem args_again {H : Type} {enc : TypeId × Value → H} {P : Program} {W W' : World} (hl : laidOutB P = true) (hb : Below W.heap.size W W') :
    ∀ {ts : List TypeId} {vs : List Value} {ds : List (DataW H)} {ps : List MemPlace}, (∀ t ∈ ts, P.readableRec t = true ∧ t < P.types.size) → DataW.TrodAll enc P W 0 (fun _ => true) true ts vs ds ps →
      (∀ x ∈ ps, x.block < W.heap.size) → DataW.TrodAll enc P W' 0 (fun b => decide (b < W.heap.size)) true ts vs ds ps
  | [], [], [], _, _, h, _ => h
  | t :: ts, v :: vs, d :: ds, ps, hr, h, hlt => by
    obtain ⟨p, q, h1, h2, rfl⟩ := h
    exact ⟨p, q, Below.trod hl (hr t (by simp)).1 (hr t (by simp)).2 h1 hb (fun x hx => hlt x (by simp [hx])),
      args_again hl hb (fun t' ht' => hr t' (by simp [ht'])) h2 (fun x hx => hlt x (by simp [hx])), rfl⟩
  | [], _ :: _, _, _, _, h, _ => by cases h
  | [], [], _ :: _, _, _, h, _ => by cases h
  | _ :: _, [], _, _, _, h, _ => by cases h
  | _ :: _, _ :: _, [], _, _, h, _ => by cases h

theorem args_length {H : Type} {enc : TypeId × Value → H} {P : Program} {W : World} : ∀ {ts : List TypeId} {vs : List Value} {ds : List (DataW H)} {ps : List MemPlace}, DataW.TrodAll enc P W 0 (fun _ => true) true ts vs ds ps → ds.length = ts.length
  | [], vs, ds, ps, h => by obtain ⟨_, rfl, _⟩ := trodAll_nil h; rfl
  | t :: ts, vs, ds, ps, h => by
    obtain ⟨v, vs', d, ds', p', q', _, rfl, _, _, hA'⟩ := trodAll_cons h
    simp [args_length hA']

/-- A call that answers true and leaves what was there as it was meets a law's statement. -/
theorem law_contract {H : Type} {enc : TypeId × Value → H} {P : Program} {fn : Func} {s : ChangeSpec} {tb : TypeId} {f : FuncId} {W : World} {args : Array Value} {ds gs : List (DataW H)} {before : List MemPlace}
    (hl : laidOutB P = true) (hpar : ∀ t ∈ fn.params.toList, P.readableRec t = true ∧ t < P.types.size) (hres : fn.resultTypes = #[tb]) (htb : P.underlying tb = some .bool) (hv : s.vars = [])
    (hspec : ∀ xs : List (DataW H), xs.length = fn.params.toList.length → s.fn H (xs ++ []) = { results := [.lit (.bool true)], args := xs })
    (hW : DataW.Whole enc P fn.params.toList s.vars false W args.toList ds gs before)
    (hwalk : Calls P f args W fun e W' => e = .returned (.bool true) ∧ Below W.heap.size W W') :
    Calls P f args W fun e W' => ∃ v, e = .returned v ∧ s.post enc P fn false true false false W args v W' := by
  refine hwalk.mono fun e W' ⟨he, hb⟩ => ⟨.bool true, he, ?_⟩
  have hlt := hW.lt
  have hW' := hW
  obtain ⟨p, q, hA, hV, rfl, hfz, hnd⟩ := hW
  rw [hv] at hV
  obtain ⟨rfl, rfl⟩ := trodVars_none hV
  have hlen := args_length hA
  have hs := hspec ds hlen
  refine ⟨ds, [], _, [], p, [], hW', ?_, ?_, ?_, ?_, fun h => by cases h⟩
  · rw [hs, hres]
    exact ⟨[], [], shut_bool htb true, rfl, rfl⟩
  · rw [hs]
    exact args_again hl hb hpar hA (fun x hx => hlt x (by simpa using hx))
  · rw [hs, hv]
    rfl
  · exact World.keptBut_mono (fun p hp => ⟨hp, by simpa using hp⟩) (hb.frame (· ∈ _))

/-! ### Facts kept from the walk -/
theorem hide {p : Prop} (h : p) : Hid p := h

/-! ### Blocks -/
theorem grown_refl (w : World) (row : Option Nat) : w.grownBy w row := ⟨rfl, rfl, rfl, Nat.le_refl _, fun _ _ _ => rfl⟩
theorem grown_set {a w : World} {g : Nat} (h : a.grownBy w (some g)) (o : Nat) (v : Value) : a.grownBy (w.setCell ⟨g, o, none⟩ v) (some g) :=
  ⟨h.os, h.tape, h.output, by simpa [World.setCell] using h.size, fun k hk hne => (Below.heap_setCell _ _ _ _ (fun e => hne (by rw [e]))).trans (h.block k hk hne)⟩
theorem grown_alloc {a w : World} {row : Option Nat} (h : a.grownBy w row) (o : Obj) : a.grownBy (w.alloc o) row :=
  ⟨h.os, h.tape, h.output, Nat.le_trans h.size (by simp), fun k hk hne => (Below.heap_alloc _ _ _ (Nat.lt_of_lt_of_le hk h.size)).trans (h.block k hk hne)⟩
theorem grown_drew {a w : World} {row : Option Nat} (h : a.grownBy w row) : a.grownBy w.drew row := ⟨h.os, h.tape, h.output, h.size, h.block⟩
theorem grown_drewN {a w : World} {row : Option Nat} (h : a.grownBy w row) (n : Nat) : a.grownBy (w.drewN n) row := ⟨h.os, h.tape, h.output, h.size, h.block⟩
theorem grown_trans {a b c : World} {row : Option Nat} (h : a.grownBy b row) (k : b.grownBy c row) : a.grownBy c row :=
  ⟨k.os.trans h.os, k.tape.trans h.tape, k.output.trans h.output, Nat.le_trans h.size k.size, fun i hi hne => (k.block i (Nat.lt_of_lt_of_le hi h.size) hne).trans (h.block i hi hne)⟩
theorem grown_of_below {a w : World} (h : Below a.heap.size a w) (row : Option Nat) : a.grownBy w row := ⟨h.os, h.tape, h.output, h.size, fun i hi _ => h.block i hi⟩
theorem below_of_grown {a w : World} (h : a.grownBy w none) : Below a.heap.size a w := ⟨h.os, h.tape, h.output, h.size, fun i hi => h.block i hi (by simp)⟩
theorem below_grown {B : Nat} {a b c : World} {g : Nat} (h : Below B a b) (k : b.grownBy c (some g)) (hB : B ≤ b.heap.size) (hg : B ≤ g) : Below B a c := h.grown k hB (by rintro _ ⟨⟩; exact hg)
theorem below_step {B : Nat} {a b c : World} (h : Below B a b) (k : Below b.heap.size b c) (hB : B ≤ b.heap.size) : Below B a c := h.trans (k.mono hB)
theorem below_drewN {B : Nat} {a w : World} (h : Below B a w) (n : Nat) : Below B a (w.drewN n) := ⟨h.os, h.tape, h.output, h.size, h.block⟩

/-- Block g is just the cells cs of element type t; none is frozen. -/
def Blk (w : World) (g : Nat) (t : TypeId) (cs : Array Value) : Prop := w.heap[g]? = some (.cells cs t (0, 0))
section
variable {w w' : World} {g : Nat} {t : TypeId} {cs : Array Value}
theorem Blk.lt (h : Blk w g t cs) : g < w.heap.size := by
  rcases Nat.lt_or_ge g w.heap.size with hlt | hge
  · exact hlt
  · unfold Blk at h; rw [Array.getElem?_eq_none hge] at h; cases h
theorem Blk.cell (h : Blk w g t cs) (i : Nat) : w.cell? ⟨g, i, none⟩ = cs[i]? := by unfold Blk at h; simp [World.cell?, h]
theorem Blk.froz (h : Blk w g t cs) (i : Nat) : w.frozen? ⟨g, i, none⟩ = false := by unfold Blk at h; simp [World.frozen?, h]
theorem Blk.new (w : World) (t : TypeId) (cs : Array Value) : Blk (w.alloc (.cells cs t)) w.heap.size t cs := heap_alloc_new w _
theorem Blk.alloc (h : Blk w g t cs) (o : Obj) : Blk (w.alloc o) g t cs := (Below.heap_alloc w o g h.lt).trans h
theorem Blk.drew (h : Blk w g t cs) : Blk w.drew g t cs := h
theorem Blk.drewN (h : Blk w g t cs) (n : Nat) : Blk (w.drewN n) g t cs := h
theorem Blk.put (h : Blk w g t cs) (i : Nat) (u : Value) : Blk (w.setCell ⟨g, i, none⟩ u) g t (cs.setIfInBounds i u) := by
  unfold Blk at h ⊢
  simp [World.setCell, Array.getElem?_modify, h]
theorem Blk.far (h : Blk w g t cs) {p : Addr} (hp : g ≠ p.block) (u : Value) : Blk (w.setCell p u) g t cs := (Below.heap_setCell w p u g hp).trans h
theorem Blk.below {B : Nat} (h : Blk w g t cs) (hb : Below B w w') (hg : g < B) : Blk w' g t cs := (hb.block g hg).trans h
theorem Blk.step (h : Blk w g t cs) (hb : Below w.heap.size w w') : Blk w' g t cs := (hb.block g h.lt).trans h
theorem Blk.grown {row : Option Nat} (h : Blk w g t cs) (hb : w.grownBy w' row) (hg : some g ≠ row) : Blk w' g t cs := (hb.block g h.lt hg).trans h
end

/-! ### A slice of integers that came in -/
/-- The slice v holds the integers l of kind k, in blocks that are there. -/
def IntsIn (w : World) (v : Value) (k : IntKind) (l : List Int) : Prop :=
  ∃ A c, v = .slice A l.length c ∧ l.length ≤ c ∧ c ≤ maxLen ∧ (∀ n ∈ l, (Lit.int k n).wf = true) ∧
    (0 < l.length → ∃ b off, A = some ⟨b, off, none⟩ ∧ b < w.heap.size ∧ ∀ j (h : j < l.length), w.cell? ⟨b, off + j, none⟩ = some (.int k l[j]))

theorem cell_plain {w : World} {a : Addr} {v : Value} (h : w.cell? a = some v) : a = ⟨a.block, a.off, none⟩ ∧ a.block < w.heap.size := by
  refine ⟨?_, World.block_lt_of_cell? w a h⟩
  obtain ⟨b, o, s⟩ := a
  cases s with
  | none => rfl
  | some x =>
    simp only [World.cell?] at h
    split at h <;> simp at h
theorem add_plain (b o i : Nat) : (⟨b, o, none⟩ : Addr).add i = ⟨b, o + i, none⟩ := by unfold Addr.add; split <;> simp_all

theorem open_intsIn {H : Type} {enc : TypeId × Value → H} {P : Program} {W : World} {r : Reach} {b0 : Nat} {t e : TypeId} {k : IntKind} {v : Value} {d : DataW H} {p : List MemPlace} (ht : P.underlying t = some (.slice e)) (he : P.underlying e = some (.int k)) (hc : P.cellsOf e = 1)
    (hv : Value.okWide P W r b0 t v) (h : DataW.Trod enc P W 0 (fun _ => true) true t v d p) : ∃ l, IntsIn W v k l := by
  obtain ⟨a, n, c, rfl⟩ := okWide_slice ht hv
  obtain ⟨fuel, hf⟩ := h
  rcases open_ints ht he hc hf with ⟨hcs, _⟩ | ⟨a', len, cap, zs, hcs, _, hl, hm, hz, _, hcell, hwf⟩
  · simp [Value.cells] at hcs
    obtain ⟨rfl, rfl, rfl⟩ := hcs
    exact ⟨[], none, 0, rfl, Nat.le_refl _, by unfold maxLen; omega, by simp, fun h => by simp at h⟩
  · simp [Value.cells] at hcs
    obtain ⟨rfl, rfl, rfl⟩ := hcs
    simp at hz
    have hlen : (zs.take n).length = n := by rw [List.length_take]; omega
    refine ⟨zs.take n, some a', c, by rw [hlen], by omega, hm, fun x hx => hwf x (List.mem_of_mem_take hx), fun h0 => ?_⟩
    obtain ⟨e1, e2⟩ := cell_plain (hcell 0 (by omega))
    have e3 : a' = ⟨a'.block, a'.off, none⟩ := by
      obtain ⟨b, o, s⟩ := a'
      have := congrArg Addr.spot e1
      simp only [Addr.add] at this
      simp at this
      simp [this]
    refine ⟨a'.block, a'.off, by rw [← e3], ?_, fun j hj => ?_⟩
    · have : (a'.add 0).block = a'.block := by simp [Addr.add]
      omega
    · rw [hlen] at hj
      have hj' := hcell j (by omega)
      rw [e3, add_plain] at hj'
      rw [hj']
      simp [List.getElem_take, List.getD, List.getElem?_eq_getElem (show j < zs.length by omega)]

theorem IntsIn.len {w : World} {v : Value} {k : IntKind} {l : List Int} (h : IntsIn w v k l) : l.length ≤ maxLen := by
  obtain ⟨_, _, _, h1, h2, _⟩ := h
  omega
end Go.Proofs.Ytpadgkkeihhneaa
/- Byte slices in memory: one that is read (Bs), one that the call itself made (Ow); what len, string(..), append, a cut and an index do to them. -/
namespace Go.Proofs.Ytpadgkkeihhneaa
set_option maxRecDepth 100000
set_option linter.unusedSimpArgs false
set_option linter.unusedVariables false
open Go.ChangeShapes Go.WideShapes Go.ChangeAt Go.RowKit
set_option linter.unusedVariables false

/-- A byte as a number, kept whole by the walk. -/
def u8 (c : UInt8) : Int := (c.toNat : Int)
theorem u8_lt (c : UInt8) : 0 ≤ u8 c ∧ u8 c ≤ 255 := by unfold u8; have := c.toNat_lt; omega
/-- A byte as a value. -/
def bv (c : UInt8) : Value := .int .u8 (u8 c)
theorem bv_one (c : UInt8) : (bv c).oneCell' = true := rfl

/-- The slice v holds the bytes l. -/
def Bs (w : World) (v : Value) (l : List UInt8) : Prop :=
  ∃ A c, v = .slice A l.length c ∧ l.length ≤ c ∧ c ≤ maxLen ∧
    (0 < l.length → ∃ b off, A = some ⟨b, off, none⟩ ∧ b < w.heap.size ∧ ∀ j (h : j < l.length), w.cell? ⟨b, off + j, none⟩ = some (bv l[j]))

/-- The slice v is nil or the call's own (blocks from base on), its array begins with the bytes l. -/
def Ow (w : World) (base : Nat) (v : Value) (l : List UInt8) : Prop := w.ownsRow base 5 1 v l.length (l.map bv)

theorem Bs.nil (w : World) : Bs w (.slice none 0 0) [] := ⟨none, 0, rfl, Nat.le_refl _, by unfold maxLen; omega, fun h => by simp at h⟩
theorem Bs.form {w : World} {v : Value} {l : List UInt8} (h : Bs w v l) : ∃ A c, v = .slice A l.length c ∧ l.length ≤ c ∧ c ≤ 9223372036854775807 := by
  obtain ⟨A, c, hv, h1, h2, _⟩ := h
  exact ⟨A, c, hv, h1, by unfold maxLen at h2; omega⟩
theorem Bs.keep {w w' : World} {v : Value} {l : List UInt8} (h : Bs w v l) (hs : w.heap.size ≤ w'.heap.size) (hc : ∀ p : Addr, p.block < w.heap.size → v.ownBlock = some p.block → w'.cell? p = w.cell? p) : Bs w' v l := by
  obtain ⟨A, c, rfl, h1, h2, h3⟩ := h
  refine ⟨A, c, rfl, h1, h2, fun h0 => ?_⟩
  obtain ⟨b, off, rfl, hb, hcell⟩ := h3 h0
  exact ⟨b, off, rfl, Nat.lt_of_lt_of_le hb hs, fun j hj => (hc ⟨b, off + j, none⟩ hb rfl).trans (hcell j hj)⟩
theorem Bs.step {w w' : World} {v : Value} {l : List UInt8} (h : Bs w v l) (hb : Below w.heap.size w w') : Bs w' v l := h.keep hb.size fun p hp _ => hb.cell hp
theorem Bs.drew {w : World} {v : Value} {l : List UInt8} (h : Bs w v l) : Bs w.drew v l := h
theorem Bs.alloc {w : World} {v : Value} {l : List UInt8} (h : Bs w v l) (o : Obj) : Bs (w.alloc o) v l := h.step ((Below.refl _ _).alloc (Nat.le_refl _) o)
theorem Bs.grown {w w' : World} {v : Value} {l : List UInt8} {row : Option Nat} (h : Bs w v l) (hg : w.grownBy w' row) (hne : v.ownBlock = none ∨ v.ownBlock ≠ row) : Bs w' v l := by
  refine h.keep hg.size fun p hp hv => World.cell?_of_block (hg.block p.block hp ?_)
  rcases hne with hne | hne
  · rw [hne] at hv; cases hv
  · rw [hv] at hne; exact hne
theorem Bs.at_ {w : World} {A : Option Addr} {n c : Nat} {l : List UInt8} (h : Bs w (.slice A n c) l) {k : Nat} (hk : k < n) :
    ∃ b off x, A = some ⟨b, off, none⟩ ∧ b < w.heap.size ∧ l[k]? = some x ∧ w.cell? ⟨b, off + k, none⟩ = some (.int .u8 (u8 x)) := by
  obtain ⟨A', c', hv, _, _, hc⟩ := h
  injection hv with e1 e2 e3
  subst e1 e2 e3
  obtain ⟨b, off, rfl, hb, hcell⟩ := hc (by omega)
  exact ⟨b, off, l[k], rfl, hb, List.getElem?_eq_getElem hk, hcell k hk⟩
theorem Bs.len_eq {w : World} {A : Option Addr} {n c : Nat} {l : List UInt8} (h : Bs w (.slice A n c) l) : n = l.length ∧ n ≤ c ∧ c ≤ maxLen := by
  obtain ⟨A', c', hv, h1, h2, _⟩ := h
  injection hv with e1 e2 e3
  subst e1 e2 e3
  exact ⟨rfl, h1, h2⟩
/-- v[:k] -/
theorem Bs.take {w : World} {A : Option Addr} {n c : Nat} {l : List UInt8} (h : Bs w (.slice A n c) l) {k : Nat} (hk : k ≤ n) : Bs w (.slice A k c) (l.take k) := by
  obtain ⟨A', c', hv, h1, h2, hc⟩ := h
  injection hv with e1 e2 e3
  subst e1 e2 e3
  have hl : (l.take k).length = k := by rw [List.length_take]; omega
  refine ⟨A, c, by rw [hl], by omega, h2, fun h0 => ?_⟩
  obtain ⟨b, off, rfl, hb, hcell⟩ := hc (by omega)
  exact ⟨b, off, rfl, hb, fun j hj => by rw [hcell j (by omega)]; simp [List.getElem_take]⟩
/-- v[k:] -/
theorem Bs.drop {w : World} {A : Option Addr} {n c : Nat} {l : List UInt8} (h : Bs w (.slice A n c) l) {k : Nat} (hk : k ≤ n) : Bs w (.slice (if c = k then A else A.map (·.add k)) (n - k) (c - k)) (l.drop k) := by
  obtain ⟨A', c', hv, h1, h2, hc⟩ := h
  injection hv with e1 e2 e3
  subst e1 e2 e3
  have hl : (l.drop k).length = l.length - k := by rw [List.length_drop]
  refine ⟨_, c - k, by rw [hl], by omega, by omega, fun h0 => ?_⟩
  obtain ⟨b, off, rfl, hb, hcell⟩ := hc (by omega)
  rw [if_neg (by omega)]
  refine ⟨b, off + k, by simp [add_plain], hb, fun j hj => ?_⟩
  rw [Nat.add_assoc, hcell (k + j) (by omega)]
  simp

theorem Ow.nil (w : World) (base : Nat) : Ow w base (.slice none 0 0) [] := World.ownsRow_nil w base 5 1
theorem Ow.bs {w : World} {base : Nat} {v : Value} {l : List UInt8} (h : Ow w base v l) : Bs w v l := by
  obtain ⟨hl, ⟨rfl, h0⟩ | ⟨g, cap, cur, rfl, hg, hh, hn, hm, hs, ht⟩⟩ := h
  · have : l = [] := List.eq_nil_of_length_eq_zero h0
    subst this
    exact Bs.nil w
  · refine ⟨_, cap, rfl, hn, hm, fun h0 => ⟨g, 0, rfl, (Array.getElem?_eq_some_iff.1 hh).1, fun j hj => ?_⟩⟩
    rw [Nat.zero_add, cell_of_row w g j cur _ _ hh]
    have h1 : (cur.toList.take (l.length * 1))[j]? = (l.map bv)[j]? := by rw [ht]
    rw [List.getElem?_take, if_pos (by omega)] at h1
    rw [Array.getElem?_toList] at h1
    rw [h1]
    simp [hj]
theorem Ow.form {w : World} {base : Nat} {v : Value} {l : List UInt8} (h : Ow w base v l) : ∃ A c, v = .slice A l.length c ∧ l.length ≤ c ∧ c ≤ 9223372036854775807 := h.bs.form
theorem Ow.lt {w : World} {base : Nat} {v : Value} {l : List UInt8} (h : Ow w base v l) : ∀ k, v.ownBlock = some k → base ≤ k ∧ k < w.heap.size := World.ownsRow.lt h
theorem Ow.mono {w : World} {base base' : Nat} {v : Value} {l : List UInt8} (h : Ow w base v l) (hb : base' ≤ base) : Ow w base' v l := by
  obtain ⟨hl, h1 | ⟨g, cap, cur, hv, hg, r⟩⟩ := h
  · exact ⟨hl, .inl h1⟩
  · exact ⟨hl, .inr ⟨g, cap, cur, hv, Nat.le_trans hb hg, r⟩⟩
theorem Ow.grown {w w' : World} {base : Nat} {v : Value} {l : List UInt8} {row : Option Nat} (h : Ow w base v l) (hg : w.grownBy w' row) (hne : v.ownBlock = none ∨ v.ownBlock ≠ row) : Ow w' base v l := World.ownsRow.kept h hg hne
theorem Ow.step {w w' : World} {base : Nat} {v : Value} {l : List UInt8} (h : Ow w base v l) (hb : Below w.heap.size w w') : Ow w' base v l :=
  World.ownsRow.kept h (grown_of_below hb none) (by cases v.ownBlock <;> simp)
theorem Ow.alloc {w : World} {base : Nat} {v : Value} {l : List UInt8} (h : Ow w base v l) (o : Obj) : Ow (w.alloc o) base v l := World.ownsRow.alloc h o
theorem Ow.drew {w : World} {base : Nat} {v : Value} {l : List UInt8} (h : Ow w base v l) : Ow w.drew base v l := h
/-- A new array of just these bytes. -/
theorem Ow.made {w : World} {base : Nat} (l : List UInt8) (cs : Array Value) (hcs : cs.toList = l.map bv) (hb : base ≤ w.heap.size) (hl : l.length ≤ maxLen) :
    Ow (w.alloc (.cells cs 5)) base (.slice (some ⟨w.heap.size, 0, none⟩) l.length l.length) l := by
  have hsz : cs.size = l.length := by rw [← Array.length_toList, hcs, List.length_map]
  refine ⟨by simp, .inr ⟨w.heap.size, l.length, cs, rfl, hb, heap_alloc_new w _, Nat.le_refl _, hl, by omega, ?_⟩⟩
  rw [hcs, List.take_of_length_le (by simp)]

/-- A new array of just these bytes, marked or not. -/
theorem Bs.made {w : World} (l : List UInt8) (cs : Array Value) (fr : Nat × Nat) (hcs : cs.toList = l.map bv) (n : Nat) (hn : n = l.length) (hl : l.length ≤ maxLen) :
    Bs (w.alloc (.cells cs 5 fr)) (.slice (some ⟨w.heap.size, 0, none⟩) n n) l := by
  subst hn
  refine ⟨_, _, rfl, Nat.le_refl _, hl, fun h0 => ⟨w.heap.size, 0, rfl, by simp, fun j hj => ?_⟩⟩
  rw [Nat.zero_add, cell_of_row _ w.heap.size j cs 5 fr (heap_alloc_new w _)]
  rw [← Array.getElem?_toList, hcs]
  simp [hj]
/-- A block that is just these bytes, as a slice. -/
theorem Bs.blk {w : World} {g : Nat} {cs : Array Value} {l : List UInt8} (h : Blk w g 5 cs) (hcs : cs.toList = l.map bv) (n : Nat) (hn : n = l.length) (hl : l.length ≤ maxLen) : Bs w (.slice (some ⟨g, 0, none⟩) n n) l := by
  subst hn
  refine ⟨_, _, rfl, Nat.le_refl _, hl, fun h0 => ⟨g, 0, rfl, h.lt, fun j hj => ?_⟩⟩
  rw [Nat.zero_add, h.cell, ← Array.getElem?_toList, hcs]
  simp [hj]
/-- n zero bytes in memory. -/
@[irreducible] def zb (n : Nat) : Array Value := Array.replicate n (bv 0)
theorem zb_list (n : Nat) : (zb n).toList = (List.replicate n (0 : UInt8)).map bv := by unfold zb; simp
theorem zb_made (n : Nat) : madeCells #[.int .u8 0] (n * 1) = zb n := by
  unfold zb madeCells
  apply Array.ext_getElem?
  intro i
  by_cases hi : i < n
  · simp [hi, bv, u8, Nat.mod_one]
  · simp [hi]
theorem info_u8 : (Try.prog.info? 5).map (fun i => (i.zero, i.size, i.bytes)) = some (some (.int .u8 0), 1, 1) := by kernel_rfl

/-- make([]byte, n) -/
theorem run_make_bytes (n : Nat) (hn : n ≤ 140737488355328) (W : World) : (Instr.makeSlice 59 (.int .i64 (n : Int)) (.int .i64 (n : Int))).run Try.prog W = .ok (.slice (some ⟨W.heap.size, 0, none⟩) n n) (W.alloc (.cells (zb n) 5)) := by
  obtain ⟨i0, hi0, hz0, hz1, hz2⟩ := info_parts info_u8
  have h := run_make (P := Try.prog) W 59 5 i0 (.int .u8 0) Try.underlying59 hi0 hz0 .i64 .i64 (n : Int) (n : Int) (by omega) (by omega) (by rw [hz2]; omega) (by omega)
  rw [hz1] at h
  simp only [Int.toNat_natCast] at h
  rw [show (Value.int IntKind.u8 0).cells = #[.int .u8 0] from rfl, zb_made] at h
  exact h

/-- append(v, x...) onto an own array. -/
theorem run_append_bs {w : World} (base : Nat) (ty : TypeId) {v x : Value} {l m : List UInt8} (hv : Ow w base v l) (hx : Bs w x m) (hlen : l.length + m.length ≤ 140737488355328) (hbase : base ≤ w.heap.size) :
    ∃ v' w', (Builtin.append_ #[59, 59] ty #[v, x]).run Try.prog w = .ok v' w' ∧ Ow w' base v' (l ++ m) ∧ w.grownBy w' v.ownBlock ∧ (v'.ownBlock = v.ownBlock ∨ v'.ownBlock = some w.heap.size) := by
  obtain ⟨i0, hi0, hz0, hz1, hz2⟩ := info_parts info_u8
  obtain ⟨A, c, rfl, h1, h2, h3⟩ := hx
  rcases Nat.eq_zero_or_pos m.length with h0 | h0
  · have hm : m = [] := List.eq_nil_of_length_eq_zero h0
    subst hm
    cases A with
    | none =>
      refine ⟨v, w, ?_, by simpa using hv, grown_refl _ _, .inl rfl⟩
      obtain ⟨_, ⟨rfl, _⟩ | ⟨g, cap, cur, rfl, _, _, hn, _⟩⟩ := hv
      · simp [Builtin.append_, run_underlying Try.underlying59, sizeOf, typeInfo, hi0, Builtin.lenOf, Builtin.firstCells]
      · simp [Builtin.append_, run_underlying Try.underlying59, sizeOf, typeInfo, hi0, Builtin.lenOf, Builtin.firstCells, hn, storeCells]
    | some a =>
      obtain ⟨v', w', h4, h5, h6, _, h7⟩ := run_append_own_at (P := Try.prog) w base 59 ty 5 i0 (.int .u8 0) 1 1 Try.underlying59 hi0 hz0 hz1 hz2 rfl (by omega) v l.length (l.map bv) hv a 0 c [] rfl (by simp) (by simp) (by unfold maxLen; omega) (by omega) hbase
      exact ⟨v', w', h4, by simpa [Ow] using h5, h6, h7⟩
  · obtain ⟨b, off, rfl, hb, hcell⟩ := h3 h0
    obtain ⟨v', w', h4, h5, h6, _, h7⟩ := run_append_own_at (P := Try.prog) w base 59 ty 5 i0 (.int .u8 0) 1 1 Try.underlying59 hi0 hz0 hz1 hz2 rfl (by omega) v l.length (l.map bv) hv ⟨b, off, none⟩ m.length c (m.map bv) (by simp)
      (fun j u hu => by
        have hj : j < m.length := by
          have := (List.getElem?_eq_some_iff.1 hu).1
          simpa using this
        rw [add_plain, hcell j hj]
        rw [List.getElem?_map, List.getElem?_eq_getElem hj] at hu
        exact hu)
      (fun u hu => by obtain ⟨x, _, rfl⟩ := List.mem_map.1 hu; exact bv_one x) (by unfold maxLen; omega) (by omega) hbase
    exact ⟨v', w', h4, by simpa [Ow] using h5, h6, h7⟩

/-- An own slice is still there when its array was appended to. -/
theorem Ow.of_append {w w' : World} {base : Nat} {v v' : Value} {l m : List UInt8} (h : Ow w base v l) (hg : w.grownBy w' v.ownBlock) (h' : Ow w' base v' (l ++ m)) (hb : v'.ownBlock = v.ownBlock ∨ v'.ownBlock = some w.heap.size)
    (hcur : ∀ g cur t, v.ownBlock = some g → w.heap[g]? = some (.cells cur t (0, 0)) → ∃ cur', w'.heap[g]? = some (.cells cur' t (0, 0)) ∧ cur'.size = cur.size ∧ cur'.toList.take l.length = cur.toList.take l.length) : Ow w' base v l := by
  obtain ⟨hl, h1 | ⟨g, cap, cur, rfl, hg1, hh, hn, hm, hs, ht⟩⟩ := h
  · exact ⟨hl, .inl h1⟩
  · obtain ⟨cur', e1, e2, e3⟩ := hcur g cur _ rfl hh
    exact ⟨hl, .inr ⟨g, cap, cur', rfl, hg1, e1, hn, hm, by rw [e2, hs], by rw [Nat.mul_one] at ht ⊢; rw [e3, ht]⟩⟩

theorem wpList_append_bs {ops : Array Oper} {rest : List Oper} {o : Oper} {a : Act} {w : World} {Q : Exit → Act → World → Prop} (hgd : o.guard = none) (s x : Operand)
    (ho : o.op = .call { callee := .builtin .append, args := #[s, x], argTypes := #[59, 59] }) (base : Nat) {v vx : Value} {l m : List UInt8}
    (hs : a.eval s = v) (hv : Ow w base v l) (hx : a.eval x = vx) (hm : Bs w vx m) (hlen : l.length + m.length ≤ 140737488355328) (hbase : base ≤ w.heap.size)
    (h : ∀ v' w', Ow w' base v' (l ++ m) → w.grownBy w' v.ownBlock → (v'.ownBlock = v.ownBlock ∨ v'.ownBlock = some w.heap.size) → wpList Try.prog ops Q rest (a.put o.dst v') w') : wpList Try.prog ops Q (o :: rest) a w := by
  refine wpList_plain hgd fun K hK => ?_
  obtain ⟨v', w', h1, h2, h3, h4⟩ := run_append_bs base o.type hv hm hlen hbase
  unfold Oper.wp execOp
  simp only [ho, resolve, invoke, builtin, Sem.run_bind, Sem.run_pure, Result.andThen_ok, List.map_toArray, List.map_cons, List.map_nil, hs, hx, h1]
  exact hK _ _ (h v' w' h2 h3 h4)

set_option maxRecDepth 100000 in
/-- What came in as a []byte. -/
theorem open_bytes {H : Type} {enc : TypeId × Value → H} {W : World} {r : Reach} {b0 : Nat} {v : Value} {d : DataW H} {p : List MemPlace}
    (hv : Value.okWide Try.prog W r b0 59 v) (h : DataW.Trod enc Try.prog W 0 (fun _ => true) true 59 v d p) : ∃ l, Bs W v l := by
  obtain ⟨l, A, c, rfl, h1, h2, h3, h4⟩ := open_intsIn Try.underlying59 Try.underlying5 (by kernel_rfl) hv h
  refine ⟨l.map fun n => UInt8.ofNat n.toNat, A, c, by rw [List.length_map], by rw [List.length_map]; exact h1, h2, fun h0 => ?_⟩
  rw [List.length_map] at h0
  obtain ⟨b, off, rfl, hb, hcell⟩ := h4 h0
  refine ⟨b, off, rfl, hb, fun j hj => ?_⟩
  rw [List.length_map] at hj
  rw [hcell j hj]
  have hw := h3 l[j] (List.getElem_mem _)
  have ⟨w0, w1⟩ : 0 ≤ l[j] ∧ l[j] ≤ 255 := by simpa [Lit.wf, IntKind.min, IntKind.max, IntKind.signed, IntKind.bits] using hw
  simp only [bv, u8, List.getElem_map, UInt8.toNat_ofNat']
  congr 2
  omega

/-- string(v) -/
theorem run_string_bs {w : World} {v : Value} {l : List UInt8} (h : Bs w v l) : (convert 59 9 v).run Try.prog w = .ok (.string ⟨l.toArray⟩) w := by
  obtain ⟨A, c, rfl, h1, h2, h3⟩ := h
  rcases Nat.eq_zero_or_pos l.length with h0 | h0
  · have hl : l = [] := List.eq_nil_of_length_eq_zero h0
    subst hl
    cases A with
    | none => exact run_convert_bytes_nil w 59 5 Try.underlying59 Try.underlying5 0 c 9 Try.underlying9
    | some a =>
      have hb := run_bytesToString (P := Try.prog) w a 0 c [] (run_loadCells_list (P := Try.prog) w a [] (by simp))
      rw [List.length_nil, run_convert_bytes_string w 59 9 5 (some a) 0 c Try.underlying59 Try.underlying5 Try.underlying9, hb]
      rfl
  · obtain ⟨b, off, rfl, hb, hcell⟩ := h3 h0
    have := run_convert_bytes_arg (P := Try.prog) w 59 5 Try.underlying59 Try.underlying5 b off l.length c (l.map fun x => (x.toNat : Int)) (by simp)
      (fun i hi => by rw [hcell i hi]; simp [bv, u8, List.getD, hi]) 9 Try.underlying9
    rw [this]
    have e : ∀ l : List UInt8, strOfNums (l.map fun x => (x.toNat : Int)) = ⟨l.toArray⟩ := fun l => by
      unfold strOfNums
      rw [List.map_map, List.map_congr_left (g := id) (fun x _ => by simp), List.map_id]
    rw [e]
end Go.Proofs.Ytpadgkkeihhneaa
/- A region that draws its order: the condition on worlds may grow on the way. -/
namespace Go.Proofs.Ytpadgkkeihhneaa
set_option maxRecDepth 100000
set_option linter.unusedSimpArgs false
set_option linter.unusedVariables false
open Go.RowKit

theorem heldMono {P : Program} {md : Region.Mode} {ops : Array Oper} {Q : Exit → Act → World → Prop} {S S' : World → Prop} (h : ∀ w, S' w → S w) :
    ∀ (fuel : Nat) (listed : Array Bool) (a : Act) (w : World), wpAnyH P md ops Q S' fuel listed a w → wpAnyH P md ops Q S fuel listed a w
  | 0, _, _, _, hw => hw
  | fuel + 1, _, _, _, hw => ⟨hw.1, fun i hi => wpOp_mono (fun a' w' h' => ⟨h w' h'.1, heldMono h fuel _ a' w' h'.2⟩) (hw.2 i hi)⟩
end Go.Proofs.Ytpadgkkeihhneaa
/- Package wire's appending functions, and the reference's. -/
namespace Go.Proofs.Ytpadgkkeihhneaa
set_option maxRecDepth 100000
set_option linter.unusedSimpArgs false
set_option linter.unusedVariables false
open Go.ChangeShapes Go.WideShapes Go.ChangeAt Go.RowKit
set_option linter.unusedVariables false

theorem bitLen_bytes (n : Nat) : (bitLen n + 7) / 8 = blen n := by
  induction n using Nat.strongRecOn with
  | _ n ih =>
    by_cases h0 : n = 0
    · rw [h0, blen_zero]; rfl
    · rw [blen_pos h0]
      by_cases h1 : n / 256 = 0
      · rw [h1, blen_zero]
        have := bitLen_le8 n (by omega)
        have h2 : bitLen n ≠ 0 := by unfold bitLen; rw [if_neg h0]; omega
        omega
      · have := bitLen_shift n 8 (by simpa using h1)
        rw [this]
        have h3 := ih (n / 256) (by omega)
        have e : n / 2 ^ 8 = n / 256 := rfl
        rw [e]
        omega

/-- One byte behind an own slice. -/
theorem byte_mod (n k : Nat) : ((n / 256 ^ k % 256 : Nat) : Int) = u8 (UInt8.ofNat (n / 256 ^ k % 256)) := by
  unfold u8
  rw [UInt8.toNat_ofNat', Nat.mod_eq_of_lt (show n / 256 ^ k % 256 < 2 ^ 8 by omega)]

def bb (b : Bool) : UInt8 := if b then 1 else 0
/-- append leaves the slice that it was given as it was. -/
theorem run_append_keep {w : World} (base : Nat) (ty : TypeId) {v x : Value} {l m : List UInt8} (hv : Ow w base v l) (hx : Bs w x m) (hlen : l.length + m.length ≤ 140737488355328) (hbase : base ≤ w.heap.size)
    {v' : Value} {w' : World} (hr : (Builtin.append_ #[59, 59] ty #[v, x]).run Try.prog w = .ok v' w') : Ow w' base v l := by
  obtain ⟨i0, hi0, hz0, hz1, hz2⟩ := info_parts info_u8
  have hv0 := hv
  obtain ⟨hl, ⟨rfl, h0⟩ | ⟨g, cap, cur, rfl, hg, hh, hn, hm, hs, ht⟩⟩ := hv
  · have : l = [] := List.eq_nil_of_length_eq_zero h0
    subst this
    exact Ow.nil _ _
  · rw [Nat.mul_one] at hs ht
    obtain ⟨A, c, rfl, h1, h2, h3⟩ := hx
    rcases Nat.eq_zero_or_pos m.length with h0 | h0
    · have hmn : m = [] := List.eq_nil_of_length_eq_zero h0
      subst hmn
      have hst : (Builtin.append_ #[59, 59] ty #[.slice (some ⟨g, 0, none⟩) l.length cap, .slice A ([] : List UInt8).length c]).run Try.prog w = .ok (.slice (some ⟨g, 0, none⟩) l.length cap) w := by
        cases A with
        | none => simp [Builtin.append_, run_underlying Try.underlying59, sizeOf, typeInfo, hi0, Builtin.lenOf, Builtin.firstCells, hn, storeCells]
        | some a => simp [Builtin.append_, run_underlying Try.underlying59, sizeOf, typeInfo, hi0, Builtin.lenOf, Builtin.firstCells, hn, storeCells, loadCells, loadCellsFrom]
      rw [hst] at hr
      injection hr with _ e2
      rw [← e2]; exact hv0
    · obtain ⟨b, off, rfl, hb, hcell⟩ := h3 h0
      have hnews : ∀ j u, (m.map bv)[j]? = some u → w.cell? ((⟨b, off, none⟩ : Addr).add j) = some u := fun j u hu => by
        have hj : j < m.length := by
          have := (List.getElem?_eq_some_iff.1 hu).1
          simpa using this
        rw [add_plain, hcell j hj]
        rw [List.getElem?_map, List.getElem?_eq_getElem hj] at hu
        exact hu
      have hone : ∀ u ∈ m.map bv, u.oneCell' = true := fun u hu => by obtain ⟨x, _, rfl⟩ := List.mem_map.1 hu; exact bv_one x
      by_cases hroom : l.length + m.length ≤ cap
      · have h4 := run_append_room (P := Try.prog) w 59 ty 5 i0 Try.underlying59 hi0 g l.length cap cur hh ⟨b, off, none⟩ m.length c (m.map bv) (by simp [hz1]) hnews hone hroom (by rw [hz1]; simp; omega)
        rw [h4] at hr
        injection hr with _ e2
        rw [← e2]
        refine ⟨hl, .inr ⟨g, cap, _, rfl, hg, setRow_heap w g cur _ _ _ hh, hn, hm, ?_, ?_⟩⟩
        · simp only [hz1, Nat.mul_one, List.size_toArray, List.length_append, List.length_take, List.length_drop, Array.length_toList, List.length_map]
          omega
        · rw [Nat.mul_one, hz1, Nat.mul_one, List.append_assoc, List.take_append_of_le_length (by have hcl := Array.length_toList (xs := cur); rw [List.length_take]; omega), List.take_take, Nat.min_self]
          exact ht
      · have h4 := run_append_grow (P := Try.prog) w 59 ty 5 i0 (.int .u8 0) Try.underlying59 hi0 hz0 ⟨g, 0, none⟩ l.length cap (l.map bv) (by simp [hz1]) (World.ownsRow.cells hv0 (g := g) rfl) ⟨b, off, none⟩ m.length c (m.map bv) (by simp [hz1]) hnews (by omega) (by omega) (growslice_fits (by omega) (by rw [hz2]; omega))
        rw [h4] at hr
        injection hr with _ e2
        rw [← e2]
        exact Ow.alloc (Ow.drew hv0) _

theorem wpList_append_bk {ops : Array Oper} {rest : List Oper} {o : Oper} {a : Act} {w : World} {Q : Exit → Act → World → Prop} (hgd : o.guard = none) (s x : Operand)
    (ho : o.op = .call { callee := .builtin .append, args := #[s, x], argTypes := #[59, 59] }) (base : Nat) {v vx : Value} {l m : List UInt8}
    (hs : a.eval s = v) (hv : Ow w base v l) (hx : a.eval x = vx) (hm : Bs w vx m) (hlen : l.length + m.length ≤ 140737488355328) (hbase : base ≤ w.heap.size)
    (h : ∀ v' w', Ow w' base v' (l ++ m) → Ow w' base v l → w.grownBy w' v.ownBlock → (v'.ownBlock = v.ownBlock ∨ v'.ownBlock = some w.heap.size) → wpList Try.prog ops Q rest (a.put o.dst v') w') : wpList Try.prog ops Q (o :: rest) a w := by
  refine wpList_plain hgd fun K hK => ?_
  obtain ⟨v', w', h1, h2, h3, h4⟩ := run_append_bs base o.type hv hm hlen hbase
  have hk := run_append_keep base o.type hv hm hlen hbase h1
  unfold Oper.wp execOp
  simp only [ho, resolve, invoke, builtin, Sem.run_bind, Sem.run_pure, Result.andThen_ok, List.map_toArray, List.map_cons, List.map_nil, hs, hx, h1]
  exact hK _ _ (h v' w' h2 hk h3 h4)

/-- Two own slices over one block: what keeps the longer one keeps the shorter one. -/
theorem Ow.pfx {w w' : World} {base : Nat} {v u : Value} {l r : List UInt8} (h : Ow w base v l) (k : Ow w base u r) (k' : Ow w' base u r) (hs : u.ownBlock = v.ownBlock) (hle : l.length ≤ r.length) : Ow w' base v l := by
  obtain ⟨hl, ⟨rfl, h0⟩ | ⟨g, cap, cur, rfl, hg, hh, hn, hm, hsz, ht⟩⟩ := h
  · have : l = [] := List.eq_nil_of_length_eq_zero h0
    subst this
    exact Ow.nil _ _
  · obtain ⟨_, ⟨rfl, _⟩ | ⟨g1, cap1, cur1, rfl, _, hh1, hn1, _, hsz1, ht1⟩⟩ := k
    · cases hs
    · have e : g1 = g := by injection hs
      subst e
      rw [hh] at hh1
      injection hh1 with e1
      injection e1 with e1
      subst e1
      obtain ⟨_, ⟨e2, _⟩ | ⟨g2, cap2, cur2, e2, _, hh2, hn2, _, hsz2, ht2⟩⟩ := k'
      · cases e2
      · injection e2 with e3 e4 e5
        injection e3 with e3
        injection e3 with e3
        subst e3 e5
        refine ⟨hl, .inr ⟨g1, cap, cur2, rfl, hg, hh2, hn, hm, by omega, ?_⟩⟩
        rw [Nat.mul_one] at ht ht1 ht2 ⊢
        have e6 : cur2.toList.take l.length = (cur2.toList.take r.length).take l.length := by rw [List.take_take, Nat.min_eq_left hle]
        rw [e6, ht2, ← ht1, List.take_take, Nat.min_eq_left hle, ht]
/-- The call appends m to an own slice, which stays as it is. -/
def Appends (w : World) (base : Nat) (v : Value) (l m : List UInt8) (e : Ending) (w' : World) : Prop :=
  ∃ v', e = .returned v' ∧ Ow w' base v' (l ++ m) ∧ Ow w' base v l ∧ w.grownBy w' v.ownBlock ∧ (v'.ownBlock = v.ownBlock ∨ ∃ g, v'.ownBlock = some g ∧ w.heap.size ≤ g)
theorem grown_next {w w1 w2 : World} {row row1 : Option Nat} (h : w.grownBy w1 row) (k : w1.grownBy w2 row1) (hr : row1 = row ∨ ∃ g, row1 = some g ∧ w.heap.size ≤ g) : w.grownBy w2 row := by
  refine ⟨k.os.trans h.os, k.tape.trans h.tape, k.output.trans h.output, Nat.le_trans h.size k.size, fun i hi hne => ?_⟩
  rw [k.block i (Nat.lt_of_lt_of_le hi h.size) ?_, h.block i hi hne]
  rcases hr with rfl | ⟨g, rfl, hg⟩
  · exact hne
  · intro e; injection e with e; omega
/-- A slice of before, where what is written is a later slice's block. -/
theorem Ow.later {w w1 w2 : World} {base : Nat} {v u : Value} {l r : List UInt8} (hw : ∀ g, v.ownBlock = some g → g < w.heap.size) (h1 : Ow w1 base v l) (u1 : Ow w1 base u r) (u2 : Ow w2 base u r) (hg : w1.grownBy w2 u.ownBlock)
    (hu : u.ownBlock = v.ownBlock ∨ ∃ g, u.ownBlock = some g ∧ w.heap.size ≤ g) (hle : l.length ≤ r.length) : Ow w2 base v l := by
  rcases hu with hu | ⟨g, hu, hgw⟩
  · exact h1.pfx u1 u2 hu hle
  · refine h1.grown hg ?_
    cases hv : v.ownBlock with
    | none => exact .inl rfl
    | some k => right; rw [hu]; intro e; injection e with e; have := hw k hv; omega
theorem own_next {w w1 : World} {v u x : Value} (hs : w.heap.size ≤ w1.heap.size) (hu : u.ownBlock = v.ownBlock ∨ ∃ g, u.ownBlock = some g ∧ w.heap.size ≤ g) (hx : x.ownBlock = u.ownBlock ∨ ∃ g, x.ownBlock = some g ∧ w1.heap.size ≤ g) : x.ownBlock = v.ownBlock ∨ ∃ g, x.ownBlock = some g ∧ w.heap.size ≤ g := by
  rcases hx with hx | ⟨g, hx, hg⟩
  · rw [hx]; exact hu
  · exact .inr ⟨g, hx, by omega⟩

theorem grown_pre {w w' : World} {row : Option Nat} {o : Obj} (hg : (w.alloc o).grownBy w' row) (h : row ≠ some w.heap.size) : w.grownBy w' row := grown_trans (grown_alloc (grown_refl w row) o) hg

end Go.Proofs.Ytpadgkkeihhneaa
/- bits.Len64 off the kit's shelf. -/
namespace Go.Proofs.Ytpadgkkeihhneaa
set_option maxRecDepth 100000
set_option linter.unusedSimpArgs false
set_option linter.unusedVariables false
open Go.Shelf
def lays129_ren : Go.Shelf.Ren := ⟨fun | 129 => 43 | n => n, fun | 53 => 62 | 3 => 3 | 4 => 4 | 46 => 96 | 5 => 5 | 9 => 9 | n => n, fun | n => n⟩
theorem lays129 : Go.Proofs.Lays.n129 Try.prog lays129_ren := {
  mixed := by kernel_rfl,
  f129 := Try.func43.trans (congrArg some (by kernel_rfl)),
  t3 := Try.underlying3,
  a3 := Try.isAgg3,
  z3 := Try.sizeOf3,
  v3 := Try.zeroValue3,
  t4 := Try.underlying4,
  a4 := Try.isAgg4,
  z4 := Try.sizeOf4,
  v4 := Try.zeroValue4,
  t5 := Try.underlying5,
  a5 := Try.isAgg5,
  z5 := Try.sizeOf5,
  v5 := Try.zeroValue5,
  t9 := Try.underlying9,
  a9 := Try.isAgg9,
  z9 := Try.sizeOf9,
  v9 := Try.zeroValue9,
  t46 := Try.underlying96,
  a46 := Try.isAgg96,
  z46 := Try.sizeOf96,
  v46 := Try.zeroValue96,
  t53 := Try.underlying62,
  a53 := Try.isAgg62,
  z53 := Try.sizeOf62,
  v53 := Try.zeroValue62 }

theorem lib_len (f x : Nat) (h : x < 2 ^ f) : Lib.bitLenAux f x = bitLen x := by
  induction f generalizing x with
  | zero => have : x = 0 := by simpa using h
            rw [this]; rfl
  | succ f ih =>
    rw [Lib.bitLenAux]
    by_cases h0 : x = 0
    · rw [h0]; rfl
    · rw [if_neg h0, ih (x / 2) (by rw [Nat.pow_succ] at h; omega)]
      by_cases h1 : x / 2 = 0
      · have : x = 1 := by omega
        rw [this]; decide
      · exact (bitLen_shift x 1 (by simpa using h1)).symm

/-- bits.Len64, as the number of bytes. -/
theorem len64_c (x : Nat) (w : World) (h1 : x < 2 ^ 64) :
    Calls Try.prog 43 #[.int .u64 x] w fun e w' => e = .returned (.int .i64 (bitLen x)) ∧ w' = w := by
  have h := Any.bits_Len64 lays129 (x : Int) w (by omega) (by omega)
  rw [Int.toNat_natCast, show Lib.bitLen x = bitLen x from lib_len 64 x h1] at h
  exact h
end Go.Proofs.Ytpadgkkeihhneaa
