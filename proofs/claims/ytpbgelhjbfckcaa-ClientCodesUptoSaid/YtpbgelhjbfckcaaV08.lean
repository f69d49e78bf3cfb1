/- What a message's fields say of it: zero, valid. -/
import Derived.Test.YtpbgelhjbfckcaaV07
import Derived.Test.YtpbgelhjbfckcaaV01
import Derived.Laws.MathBits
import Derived.Shelf.Small.Bits
import Derived.Lib.AppendStr
namespace Go.Proofs.Ytpbgelhjbfckcaa
set_option maxRecDepth 100000
set_option linter.unusedVariables false
set_option linter.unusedSimpArgs false
section
open Go.ChangeMaps Go.ChangeShapes Go.WideShapes Go.ChangeAt Go.RowKit
def I64 (x : Int) : Prop := -9223372036854775808 ≤ x ∧ x ≤ 9223372036854775807
def iOffs : List Nat := [0, 1, 2, 3, 4, 6, 7, 8, 9, 10, 13, 14, 15, 16, 17, 18, 19, 20, 21, 22, 23, 24, 25, 34, 35, 36, 37, 38, 39, 40, 41, 44]
def sOffs : List Nat := [11, 12, 26, 27, 28, 29, 30, 31, 32, 33, 43]
/-- The cells of a message. -/
structure MsgT (cs : List Value) : Prop where
 len : cs.length = 47
 ints : ∀ o ∈ iOffs, ∃ x, cs[o]? = some (.int .i64 x)
 kind : ∀ x, cs[0]? = some (.int .i64 x) → I64 x
 slices : ∀ o ∈ sOffs, ∃ A n c, cs[o]? = some (.slice A n c)
 body : ∃ s, cs[5]? = some (.string s)
 data : ∃ s, cs[45]? = some (.string s)
 gr : ∃ x, cs[42]? = some (.bool x)
 dn : ∃ x, cs[46]? = some (.bool x)
def strAt (cs : List Value) (o : Nat) : ByteArray := match cs[o]? with | some (.string s) => s | _ => ⟨#[]⟩
def boolAt (cs : List Value) (o : Nat) : Bool := match cs[o]? with | some (.bool x) => x | _ => false
def slAt (cs : List Value) (o : Nat) : Value := match cs[o]? with | some (.slice A n c) => .slice A n c | _ => .slice none 0 0
theorem numAt_eq {cs : List Value} {o : Nat} {x : Int} (h : cs[o]? = some (.int .i64 x)) : numAt cs o = x := by unfold numAt; rw [h]
theorem lenAt_eq {cs : List Value} {o : Nat} {A : Option Addr} {n c : Nat} (h : cs[o]? = some (.slice A n c)) : lenAt cs o = n := by unfold lenAt; rw [h]
theorem strAt_eq {cs : List Value} {o : Nat} {s : ByteArray} (h : cs[o]? = some (.string s)) : strAt cs o = s := by unfold strAt; rw [h]
theorem boolAt_eq {cs : List Value} {o : Nat} {x : Bool} (h : cs[o]? = some (.bool x)) : boolAt cs o = x := by unfold boolAt; rw [h]
theorem slAt_eq {cs : List Value} {o : Nat} {A : Option Addr} {n c : Nat} (h : cs[o]? = some (.slice A n c)) : slAt cs o = .slice A n c := by unfold slAt; rw [h]
def zF (cs : List Value) (k : Nat) : Bool :=
 match k with
 | 0 => decide (numAt cs 1 = 0)
 | 1 => decide (numAt cs 2 = 0)
 | 2 => decide (numAt cs 3 = 0)
 | 3 => decide (numAt cs 4 = 0)
 | 4 => decide (numAt cs 6 = 0)
 | 5 => decide (numAt cs 7 = 0)
 | 6 => decide (numAt cs 8 = 0)
 | 7 => decide ((strAt cs 5).size = 0)
 | 8 => decide (numAt cs 17 = 0)
 | 9 => zeroP cs [9, 10] [11, 12]
 | 10 => zeroP cs [13, 14, 15] [] && decide (numAt cs 16 = 0)
 | 11 => zeroP cs [] [33]
 | 12 => zeroP cs [18, 19, 20, 21, 22, 23, 24, 25] [26, 27, 28, 29, 30, 31, 32]
 | _ => gmZ [numAt cs 34, numAt cs 35, numAt cs 36, numAt cs 37, numAt cs 38, numAt cs 39, numAt cs 40, numAt cs 41, numAt cs 44, (lenAt cs 43 : Int), ((strAt cs 45).size : Int)] (boolAt cs 42) (boolAt cs 46)
def inB (x lo hi : Int) : Bool := decide (lo ≤ x) && decide (x ≤ hi)
def vF (cs : List Value) (ml : List Int) (k : Nat) : Bool :=
 match k with
 | 0 => inB (numAt cs 1) 0 8
 | 1 => inB (numAt cs 2) 1 8
 | 2 => inB (numAt cs 3) 1 9223372036854775807
 | 3 => inB (numAt cs 4) 0 17
 | 4 => inB (numAt cs 6) 0 9223372036854775807
 | 5 => inB (numAt cs 7) 1 9223372036854775807
 | 6 => inB (numAt cs 8) 1 9223372036854775807
 | 7 => decide ((strAt cs 5).size ≤ 4096)
 | 10 => uOk (numAt cs 13) (numAt cs 14) (numAt cs 15)
 | 11 => incr ml
 | _ => true
/-- A call of the function enters it. -/
def Ent (f : FuncId) : Prop := ∀ args w, (callFunc f args).run Try.prog w = .ok (.enter f args) w
theorem ent_any : Ent 70 := enters Try.func70 (by kernel_rfl) (by kernel_rfl)
theorem ent_n3 : Ent 90 := enters Try.func90 (by kernel_rfl) (by kernel_rfl)
theorem ent_n4 : Ent 91 := enters Try.func91 (by kernel_rfl) (by kernel_rfl)
theorem ent_p3 : Ent 86 := enters Try.func86 (by kernel_rfl) (by kernel_rfl)
theorem ent_f3 : Ent 56 := enters Try.func56 (by kernel_rfl) (by kernel_rfl)
theorem ent_f4 : Ent 57 := enters Try.func57 (by kernel_rfl) (by kernel_rfl)
theorem ent_f5 : Ent 58 := enters Try.func58 (by kernel_rfl) (by kernel_rfl)
theorem ent_f8 : Ent 65 := enters Try.func65 (by kernel_rfl) (by kernel_rfl)
theorem ent_f9 : Ent 66 := enters Try.func66 (by kernel_rfl) (by kernel_rfl)
theorem ent_f12 : Ent 69 := enters Try.func69 (by kernel_rfl) (by kernel_rfl)
theorem ent_f15 : Ent 75 := enters Try.func75 (by kernel_rfl) (by kernel_rfl)
/-- What a function's call says. -/
def Says (w : World) (f : FuncId) (args : List Value) (x : Bool) : Prop := Ent f ∧ Calls Try.prog f args.toArray w fun e w' => e = .returned (.bool x) ∧ Below w.heap.size w w'
def FieldOf (w : World) (v : Value) (z o : Bool) : Prop := ∃ fw fr fz fo cw cr cz co, v = .agg (fv fw fr fz fo cw cr cz co).toArray ∧ Says w fz cz z ∧ Says w fo co o
theorem Says.of {w : World} {f : FuncId} {args : List Value} {a : Array Value} {x : Bool} (he : Ent f) (ha : a = args.toArray) (h : Calls Try.prog f a w fun e w' => e = .returned (.bool x) ∧ w = w') : Says w f args x := by
 subst ha
 exact ⟨he, h.mono fun e w' h => ⟨h.1, h.2 ▸ Below.refl _ _⟩⟩
theorem says_any (w : World) : Says w 70 [] true := Says.of ent_any rfl (any_c w)
section
variable {w : World} {L : LB} {b bm : Nat} {cs : List Value}
theorem blk_cell0 {g : Nat} {t : TypeId} {v : Value} (hL : ∀ e ∈ L, Blk w e.1 e.2.1 e.2.2.toArray) (h : (g, t, [v]) ∈ L) : w.cell? ⟨g, 0, none⟩ = some v := (hL _ h).cell 0
theorem PtrL.ptrs {t : TypeId} {offs : List Nat} {v : Value} (hL : ∀ e ∈ L, Blk w e.1 e.2.1 e.2.2.toArray) (h : PtrL L t b offs v) (hs : offs.length ≤ 100) : Ptrs w v b offs := by
 rcases h with ⟨rfl, rfl⟩ | ⟨g, rfl, hm⟩
 ·exact Ptrs.nil w b
 ·refine ⟨_, _, rfl, Nat.le_refl _, by unfold maxLen; omega, fun _ => ⟨g, 0, rfl, fun i hi => ?_⟩⟩
  have h1 := (hL _ hm).cell i
  rw [Nat.zero_add, h1]
  simp [ptrL, hi]
theorem num_field {o : Nat} {lo hi x : Int} {v : Value} (hL : ∀ e ∈ L, Blk w e.1 e.2.1 e.2.2.toArray) (h : NumF L b o lo hi v) (hx : w.cell? ⟨b, o, none⟩ = some (.int .i64 x)) : FieldOf w v (decide (x = 0)) (inB x lo hi) := by
 obtain ⟨bp, bl, bh, rfl, h1, h2, h3⟩ := h
 exact ⟨_, _, _, _, _, _, _, _, rfl, Says.of ent_n3 rfl (nzero_c bp b o x w (blk_cell0 hL h1) hx), ent_n4, nvalid_c bp bl bh b o x lo hi w (blk_cell0 hL h1) hx (blk_cell0 hL h2) (blk_cell0 hL h3)⟩
theorem part_zero {ns ls : List Nat} {bn bl : Nat} (hL : ∀ e ∈ L, Blk w e.1 e.2.1 e.2.2.toArray) (h : PartB L b ns ls bn bl) (hc : ∀ o, w.cell? ⟨b, o, none⟩ = cs[o]?) (hT : MsgT cs) (h1 : ns.length ≤ 100) (h2 : ls.length ≤ 100) (hn : ∀ o ∈ ns, o ∈ iOffs) (hl : ∀ o ∈ ls, o ∈ sOffs) :
 Calls Try.prog 86 #[at0 bn, at0 bl] w fun e w' => e = .returned (.bool (zeroP cs ns ls)) ∧ w = w' := by
 obtain ⟨vn, vl, q1, q2, q3, q4⟩ := h
 exact pzero_c bn bl b vn vl ns ls cs w (blk_cell0 hL q1) (blk_cell0 hL q2) (q3.ptrs hL h1) (q4.ptrs hL h2) hc (fun o ho => hT.ints o (hn o ho)) (fun o ho => hT.slices o (hl o ho))
/-- Of each field: whether it is zero, whether it is valid. -/
theorem field_at {ml : List Int} {k : Nat} {v : Value} (hk : k < 14) (h : FValI L b bm k v) (hL : ∀ e ∈ L, Blk w e.1 e.2.1 e.2.2.toArray) (hbm : (bm, 72, [at0 b]) ∈ L) (hc : ∀ o, w.cell? ⟨b, o, none⟩ = cs[o]?) (hT : MsgT cs) (hm : Li w (slAt cs 33) ml) : FieldOf w v (zF cs k) (vF cs ml k) := by
 have hb := blk_cell0 hL hbm
 have num : ∀ (o : Nat) (lo hi : Int), o ∈ iOffs → NumF L b o lo hi v → FieldOf w v (decide (numAt cs o = 0)) (inB (numAt cs o) lo hi) := fun o lo hi ho hf => by
  obtain ⟨x, hx⟩ := hT.ints o ho
  rw [numAt_eq hx]
  exact num_field hL hf ((hc o).trans hx)
 have : k = 0 ∨ k = 1 ∨ k = 2 ∨ k = 3 ∨ k = 4 ∨ k = 5 ∨ k = 6 ∨ k = 7 ∨ k = 8 ∨ k = 9 ∨ k = 10 ∨ k = 11 ∨ k = 12 ∨ k = 13 := by omega
 rcases this with rfl | rfl | rfl | rfl | rfl | rfl | rfl | rfl | rfl | rfl | rfl | rfl | rfl | rfl
 ·exact num 1 0 8 (by decide) h
 ·exact num 2 1 8 (by decide) h
 ·exact num 3 1 9223372036854775807 (by decide) h
 ·exact num 4 0 17 (by decide) h
 ·exact num 6 0 9223372036854775807 (by decide) h
 ·exact num 7 1 9223372036854775807 (by decide) h
 ·exact num 8 1 9223372036854775807 (by decide) h
 ·obtain ⟨s, hs⟩ := hT.body
  refine ⟨_, _, _, _, _, _, _, _, h, ?_, ?_⟩
  ·show Says w _ _ (decide ((strAt cs 5).size = 0))
   rw [strAt_eq hs]
   exact Says.of ent_f8 rfl (bzero_c bm b s w hb ((hc 5).trans hs))
  ·show Says w _ _ (decide ((strAt cs 5).size ≤ 4096))
   rw [strAt_eq hs]
   exact Says.of ent_f9 rfl (bvalid_c bm b s w hb ((hc 5).trans hs))
 ·obtain ⟨x, hx⟩ := hT.ints 17 (by decide)
  refine ⟨_, _, _, _, _, _, _, _, h, ?_, says_any w⟩
  show Says w _ _ (decide (numAt cs 17 = 0))
  rw [numAt_eq hx]
  exact Says.of ent_f12 rfl (vzero_c bm b x w hb ((hc 17).trans hx))
 ·obtain ⟨bn, bl, rfl, hp⟩ := h
  exact ⟨_, _, _, _, _, _, _, _, rfl, Says.of ent_p3 rfl (part_zero hL hp hc hT (by decide) (by decide) (by decide) (by decide)), says_any w⟩
 ·obtain ⟨b7, b8, b9, bn, bl, rfl, h7, h8, h9, hp⟩ := h
  obtain ⟨x, hx⟩ := hT.ints 16 (by decide)
  obtain ⟨x13, h13⟩ := hT.ints 13 (by decide)
  obtain ⟨x14, h14⟩ := hT.ints 14 (by decide)
  obtain ⟨x15, h15⟩ := hT.ints 15 (by decide)
  obtain ⟨vn, vl, q1, q2, q3, q4⟩ := hp
  refine ⟨_, _, _, _, _, _, _, _, rfl, ?_, ?_⟩
  ·show Says w _ _ (zeroP cs [13, 14, 15] [] && decide (numAt cs 16 = 0))
   rw [numAt_eq hx]
   exact Says.of ent_f3 rfl (uzero_c b9 bn bl bm b vn vl [13, 14, 15] [] cs x w (blk_cell0 hL h9) (blk_cell0 hL q1) (blk_cell0 hL q2) (q3.ptrs hL (by decide)) (q4.ptrs hL (by decide)) hc (fun o ho => hT.ints o (by revert o; decide)) (fun o ho => by cases ho) hb ((hc 16).trans hx))
  ·show Says w _ _ (uOk (numAt cs 13) (numAt cs 14) (numAt cs 15))
   rw [numAt_eq h13, numAt_eq h14, numAt_eq h15]
   exact ⟨ent_f4, uvalid_c bm b x13 x14 x15 x w hb ((hc 13).trans h13) ((hc 14).trans h14) ((hc 15).trans h15) ((hc 16).trans hx)⟩
 ·obtain ⟨bn, bl, rfl, hp⟩ := h
  obtain ⟨A, n, c, h33⟩ := hT.slices 33 (by decide)
  rw [slAt_eq h33] at hm
  exact ⟨_, _, _, _, _, _, _, _, rfl, Says.of ent_p3 rfl (part_zero hL hp hc hT (by decide) (by decide) (by decide) (by decide)), Says.of ent_f5 rfl (mvalid_c bm b _ ml w hb ((hc 33).trans h33) hm)⟩
 ·obtain ⟨bn, bl, rfl, hp⟩ := h
  exact ⟨_, _, _, _, _, _, _, _, rfl, Says.of ent_p3 rfl (part_zero hL hp hc hT (by decide) (by decide) (by decide) (by decide)), says_any w⟩
 ·refine ⟨_, _, _, _, _, _, _, _, h, ?_, says_any w⟩
  obtain ⟨i0, k0⟩ := hT.ints 34 (by decide)
  obtain ⟨i1, k1⟩ := hT.ints 35 (by decide)
  obtain ⟨i2, k2⟩ := hT.ints 36 (by decide)
  obtain ⟨i3, k3⟩ := hT.ints 37 (by decide)
  obtain ⟨i4, k4⟩ := hT.ints 38 (by decide)
  obtain ⟨i5, k5⟩ := hT.ints 39 (by decide)
  obtain ⟨i6, k6⟩ := hT.ints 40 (by decide)
  obtain ⟨i7, k7⟩ := hT.ints 41 (by decide)
  obtain ⟨i8, k8⟩ := hT.ints 44 (by decide)
  obtain ⟨gr, k9⟩ := hT.gr
  obtain ⟨dn, k10⟩ := hT.dn
  obtain ⟨d, k11⟩ := hT.data
  obtain ⟨A, n, c, k12⟩ := hT.slices 43 (by decide)
  show Says w _ _ (gmZ [numAt cs 34, numAt cs 35, numAt cs 36, numAt cs 37, numAt cs 38, numAt cs 39, numAt cs 40, numAt cs 41, numAt cs 44, (lenAt cs 43 : Int), ((strAt cs 45).size : Int)] (boolAt cs 42) (boolAt cs 46))
  rw [numAt_eq k0, numAt_eq k1, numAt_eq k2, numAt_eq k3, numAt_eq k4, numAt_eq k5, numAt_eq k6, numAt_eq k7, numAt_eq k8, lenAt_eq k12, strAt_eq k11, boolAt_eq k9, boolAt_eq k10]
  refine ⟨ent_f15, mzero_c bm b i0 i1 i2 i3 i4 i5 i6 i7 i8 gr dn A n c d w hb ?_⟩
  intro j v hj
  match j, hj with
  | 0, hj => simp at hj; subst hj; exact (hc 34).trans k0
  | 1, hj => simp at hj; subst hj; exact (hc 35).trans k1
  | 2, hj => simp at hj; subst hj; exact (hc 36).trans k2
  | 3, hj => simp at hj; subst hj; exact (hc 37).trans k3
  | 4, hj => simp at hj; subst hj; exact (hc 38).trans k4
  | 5, hj => simp at hj; subst hj; exact (hc 39).trans k5
  | 6, hj => simp at hj; subst hj; exact (hc 40).trans k6
  | 7, hj => simp at hj; subst hj; exact (hc 41).trans k7
  | 8, hj => simp at hj; subst hj; exact (hc 42).trans k9
  | 9, hj => simp at hj; subst hj; exact (hc 43).trans k12
  | 10, hj => simp at hj; subst hj; exact (hc 44).trans k8
  | 11, hj => simp at hj; subst hj; exact (hc 45).trans k11
  | 12, hj => simp at hj; subst hj; exact (hc 46).trans k10
  | j + 13, hj => simp at hj
end
end
/-- The last k bytes of n, the greatest first. -/
def dig : Nat → Nat → List UInt8
 | 0, _ => []
 | k + 1, n => UInt8.ofNat (n / 256 ^ k % 256) :: dig k n
theorem dig_len (k n : Nat) : (dig k n).length = k := by
 induction k with
 | zero => rfl
 | succ k ih => simp [dig, ih]
/-- How many bytes n takes. -/
def blen (n : Nat) : Nat := if h : n = 0 then 0 else blen (n / 256) + 1
termination_by n
decreasing_by omega
theorem blen_zero : blen 0 = 0 := by rw [blen]; simp
theorem blen_pos {n : Nat} (h : n ≠ 0) : blen n = blen (n / 256) + 1 := by rw [blen, dif_neg h]
theorem blen_le (k n : Nat) (h : n < 256 ^ k) : blen n ≤ k := by
 induction k generalizing n with
 | zero => have : n = 0 := by simpa using h
           rw [this, blen_zero]; exact Nat.le_refl _
 | succ k ih =>
  by_cases h0 : n = 0
  ·rw [h0, blen_zero]; omega
  ·rw [blen_pos h0]
   have : n / 256 < 256 ^ k := by rw [Nat.pow_succ] at h; omega
   have := ih _ this
   omega
theorem lt_blen (n : Nat) : n < 256 ^ blen n := by
 induction n using Nat.strongRecOn with
 | _ n ih =>
  by_cases h0 : n = 0
  ·rw [h0, blen_zero]; decide
  ·rw [blen_pos h0, Nat.pow_succ]
   have := ih (n / 256) (by omega)
   omega
theorem blen_iff (n k : Nat) : n / 256 ^ k = 0 ↔ blen n ≤ k := by
 constructor
 ·intro h
  apply blen_le
  have := Nat.div_eq_zero_iff.1 h
  have hp : 256 ^ k > 0 := Nat.pow_pos (by omega)
  omega
 ·intro h
  apply Nat.div_eq_of_lt
  exact Nat.lt_of_lt_of_le (lt_blen n) (Nat.pow_le_pow_right (by omega) h)
/-- A number's encoding. -/
def enc (n : Nat) : List UInt8 := UInt8.ofNat (blen n) :: dig (blen n) n
theorem dig_succ (k n : Nat) : dig (k + 1) n = UInt8.ofNat (n / 256 ^ k % 256) :: dig k n := rfl
/-- The number that bytes are. -/
def num (l : List UInt8) : Nat := l.foldl (fun n x => n * 256 + x.toNat) 0
theorem num_from (l : List UInt8) (a : Nat) : l.foldl (fun n x => n * 256 + x.toNat) a = a * 256 ^ l.length + num l := by
 induction l generalizing a with
 | nil => simp [num]
 | cons x l ih =>
  unfold num
  rw [List.foldl_cons, List.foldl_cons, ih, ih (0 * 256 + x.toNat), List.length_cons, Nat.pow_succ, Nat.add_mul, Nat.zero_mul, Nat.zero_add, Nat.mul_assoc, Nat.mul_comm 256]
  omega
theorem num_cons (x : UInt8) (l : List UInt8) : num (x :: l) = x.toNat * 256 ^ l.length + num l := by
 show l.foldl _ (0 * 256 + x.toNat) = _
 rw [num_from, Nat.zero_mul, Nat.zero_add]
theorem num_dig (k n : Nat) : num (dig k n) = n % 256 ^ k := by
 induction k with
 | zero => simp [dig, num, Nat.mod_one]
 | succ k ih =>
  have h1 : n / 256 ^ k % 256 % 2 ^ 8 = n / 256 ^ k % 256 := Nat.mod_eq_of_lt (by omega)
  have h2 : n % (256 ^ k * 256) = n % 256 ^ k + 256 ^ k * (n / 256 ^ k % 256) := Nat.mod_mul
  rw [dig_succ, num_cons, dig_len, ih, UInt8.toNat_ofNat', h1, Nat.pow_succ 256 k, h2, Nat.mul_comm]
  omega
theorem num_enc (n : Nat) : num (dig (blen n) n) = n := by rw [num_dig, Nat.mod_eq_of_lt (lt_blen n)]
theorem num_lt (l : List UInt8) : num l < 256 ^ l.length := by
 induction l with
 | nil => simp [num]
 | cons x l ih =>
  rw [num_cons, List.length_cons, Nat.pow_succ, Nat.mul_comm _ 256]
  have h1 := x.toNat_lt
  have h2 : x.toNat * 256 ^ l.length ≤ 255 * 256 ^ l.length := Nat.mul_le_mul_right _ (by omega)
  omega
section
open Go.ChangeShapes Go.WideShapes Go.ChangeAt Go.RowKit
theorem bitLen_bytes (n : Nat) : (bitLen n + 7) / 8 = blen n := by
 induction n using Nat.strongRecOn with
 | _ n ih =>
  by_cases h0 : n = 0
  ·rw [h0, blen_zero]; rfl
  ·rw [blen_pos h0]
   by_cases h1 : n / 256 = 0
   ·rw [h1, blen_zero]
    have := bitLen_le8 n (by omega)
    have h2 : bitLen n ≠ 0 := by unfold bitLen; rw [if_neg h0]; omega
    omega
   ·have := bitLen_shift n 8 (by simpa using h1)
    rw [this]
    have h3 := ih (n / 256) (by omega)
    have e : n / 2 ^ 8 = n / 256 := rfl
    rw [e]
    omega
/-- One byte behind an own slice. -/
theorem byte_mod (n k : Nat) : ((n / 256 ^ k % 256 : Nat) : Int) = u8 (UInt8.ofNat (n / 256 ^ k % 256)) := by
 unfold u8
 rw [UInt8.toNat_ofNat', Nat.mod_eq_of_lt (show n / 256 ^ k % 256 < 2 ^ 8 by omega)]
def bb (b : Bool) : UInt8 := if b then 1 else 0
/-- append leaves the slice that it was given as it was. -/
theorem run_append_keep {w : World} (base : Nat) (ty : TypeId) {v x : Value} {l m : List UInt8} (hv : Ow w base v l) (hx : Bs w x m) (hlen : l.length + m.length ≤ 140737488355328) (hbase : base ≤ w.heap.size)
 {v' : Value} {w' : World} (hr : (Builtin.append_ #[102, 102] ty #[v, x]).run Try.prog w = .ok v' w') : Ow w' base v l := by
 obtain ⟨i0, hi0, hz0, hz1, hz2⟩ := info_parts info_u8
 have hv0 := hv
 obtain ⟨hl, ⟨rfl, h0⟩ | ⟨g, cap, cur, rfl, hg, hh, hn, hm, hs, ht⟩⟩ := hv
 ·have : l = [] := List.eq_nil_of_length_eq_zero h0
  subst this
  exact Ow.nil _ _
 ·rw [Nat.mul_one] at hs ht
  obtain ⟨A, c, rfl, h1, h2, h3⟩ := hx
  rcases Nat.eq_zero_or_pos m.length with h0 | h0
  ·have hmn : m = [] := List.eq_nil_of_length_eq_zero h0
   subst hmn
   have hst : (Builtin.append_ #[102, 102] ty #[.slice (some ⟨g, 0, none⟩) l.length cap, .slice A ([] : List UInt8).length c]).run Try.prog w = .ok (.slice (some ⟨g, 0, none⟩) l.length cap) w := by
    cases A with
    | none => simp [Builtin.append_, run_underlying Try.underlying102, sizeOf, typeInfo, hi0, Builtin.lenOf, Builtin.firstCells, hn, storeCells]
    | some a => simp [Builtin.append_, run_underlying Try.underlying102, sizeOf, typeInfo, hi0, Builtin.lenOf, Builtin.firstCells, hn, storeCells, loadCells, loadCellsFrom]
   rw [hst] at hr
   injection hr with _ e2
   rw [← e2]; exact hv0
  ·obtain ⟨b, off, rfl, hb, hcell⟩ := h3 h0
   have hnews : ∀ j u, (m.map bv)[j]? = some u → w.cell? ((⟨b, off, none⟩ : Addr).add j) = some u := fun j u hu => by
    have hj : j < m.length := by
     have := (List.getElem?_eq_some_iff.1 hu).1
     simpa using this
    rw [add_plain, hcell j hj]
    rw [List.getElem?_map, List.getElem?_eq_getElem hj] at hu
    exact hu
   have hone : ∀ u ∈ m.map bv, u.oneCell' = true := fun u hu => by obtain ⟨x, _, rfl⟩ := List.mem_map.1 hu; exact bv_one x
   by_cases hroom : l.length + m.length ≤ cap
   ·have h4 := run_append_room (P := Try.prog) w 102 ty 5 i0 Try.underlying102 hi0 g l.length cap cur hh ⟨b, off, none⟩ m.length c (m.map bv) (by simp [hz1]) hnews hone hroom (by rw [hz1]; simp; omega)
    rw [h4] at hr
    injection hr with _ e2
    rw [← e2]
    refine ⟨hl, .inr ⟨g, cap, _, rfl, hg, setRow_heap w g cur _ _ _ hh, hn, hm, ?_, ?_⟩⟩
    ·simp only [hz1, Nat.mul_one, List.size_toArray, List.length_append, List.length_take, List.length_drop, Array.length_toList, List.length_map]
     omega
    ·rw [Nat.mul_one, hz1, Nat.mul_one, List.append_assoc, List.take_append_of_le_length (by have hcl := Array.length_toList (xs := cur); rw [List.length_take]; omega), List.take_take, Nat.min_self]
     exact ht
   ·have h4 := run_append_grow (P := Try.prog) w 102 ty 5 i0 (.int .u8 0) Try.underlying102 hi0 hz0 ⟨g, 0, none⟩ l.length cap (l.map bv) (by simp [hz1]) (World.ownsRow.cells hv0 (g := g) rfl) ⟨b, off, none⟩ m.length c (m.map bv) (by simp [hz1]) hnews (by omega) (by omega) (growslice_fits (by omega) (by rw [hz2]; omega))
    rw [h4] at hr
    injection hr with _ e2
    rw [← e2]
    exact Ow.alloc (Ow.drew hv0) _
theorem wpList_append_bk {ops : Array Oper} {rest : List Oper} {o : Oper} {a : Act} {w : World} {Q : Exit → Act → World → Prop} (hgd : o.guard = none) (s x : Operand)
 (ho : o.op = .call { callee := .builtin .append, args := #[s, x], argTypes := #[102, 102] }) (base : Nat) {v vx : Value} {l m : List UInt8}
 (hs : a.eval s = v) (hv : Ow w base v l) (hx : a.eval x = vx) (hm : Bs w vx m) (hlen : l.length + m.length ≤ 140737488355328) (hbase : base ≤ w.heap.size)
 (h : ∀ v' w', Ow w' base v' (l ++ m) → Ow w' base v l → w.grownBy w' v.ownBlock → (v'.ownBlock = v.ownBlock ∨ v'.ownBlock = some w.heap.size) → wpList Try.prog ops Q rest (a.put o.dst v') w') : wpList Try.prog ops Q (o :: rest) a w := by
 refine wpList_plain hgd fun K hK => ?_
 obtain ⟨v', w', h1, h2, h3, h4⟩ := run_append_bs base o.type hv hm hlen hbase
 have hk := run_append_keep base o.type hv hm hlen hbase h1
 unfold Oper.wp execOp
 simp only [ho, resolve, invoke, builtin, Sem.run_bind, Sem.run_pure, Result.andThen_ok, List.map_toArray, List.map_cons, List.map_nil, hs, hx, h1]
 exact hK _ _ (h v' w' h2 hk h3 h4)
/-- Two own slices over one block: what keeps the longer one keeps the shorter one. -/
theorem Ow.pfx {w w' : World} {base : Nat} {v u : Value} {l r : List UInt8} (h : Ow w base v l) (k : Ow w base u r) (k' : Ow w' base u r) (hs : u.ownBlock = v.ownBlock) (hle : l.length ≤ r.length) : Ow w' base v l := by
 obtain ⟨hl, ⟨rfl, h0⟩ | ⟨g, cap, cur, rfl, hg, hh, hn, hm, hsz, ht⟩⟩ := h
 ·have : l = [] := List.eq_nil_of_length_eq_zero h0
  subst this
  exact Ow.nil _ _
 ·obtain ⟨_, ⟨rfl, _⟩ | ⟨g1, cap1, cur1, rfl, _, hh1, hn1, _, hsz1, ht1⟩⟩ := k
  ·cases hs
  ·have e : g1 = g := by injection hs
   subst e
   rw [hh] at hh1
   injection hh1 with e1
   injection e1 with e1
   subst e1
   obtain ⟨_, ⟨e2, _⟩ | ⟨g2, cap2, cur2, e2, _, hh2, hn2, _, hsz2, ht2⟩⟩ := k'
   ·cases e2
   ·injection e2 with e3 e4 e5
    injection e3 with e3
    injection e3 with e3
    subst e3 e5
    refine ⟨hl, .inr ⟨g1, cap, cur2, rfl, hg, hh2, hn, hm, by omega, ?_⟩⟩
    rw [Nat.mul_one] at ht ht1 ht2 ⊢
    have e6 : cur2.toList.take l.length = (cur2.toList.take r.length).take l.length := by rw [List.take_take, Nat.min_eq_left hle]
    rw [e6, ht2, ← ht1, List.take_take, Nat.min_eq_left hle, ht]
/-- The call appends m to an own slice, which stays as it is. -/
def Appends (w : World) (base : Nat) (v : Value) (l m : List UInt8) (e : Ending) (w' : World) : Prop :=
 ∃ v', e = .returned v' ∧ Ow w' base v' (l ++ m) ∧ Ow w' base v l ∧ w.grownBy w' v.ownBlock ∧ (v'.ownBlock = v.ownBlock ∨ ∃ g, v'.ownBlock = some g ∧ w.heap.size ≤ g)
theorem grown_next {w w1 w2 : World} {row row1 : Option Nat} (h : w.grownBy w1 row) (k : w1.grownBy w2 row1) (hr : row1 = row ∨ ∃ g, row1 = some g ∧ w.heap.size ≤ g) : w.grownBy w2 row := by
 refine ⟨k.os.trans h.os, k.tape.trans h.tape, k.output.trans h.output, Nat.le_trans h.size k.size, fun i hi hne => ?_⟩
 rw [k.block i (Nat.lt_of_lt_of_le hi h.size) ?_, h.block i hi hne]
 rcases hr with rfl | ⟨g, rfl, hg⟩
 ·exact hne
 ·intro e; injection e with e; omega
/-- A slice of before, where what is written is a later slice's block. -/
theorem Ow.later {w w1 w2 : World} {base : Nat} {v u : Value} {l r : List UInt8} (hw : ∀ g, v.ownBlock = some g → g < w.heap.size) (h1 : Ow w1 base v l) (u1 : Ow w1 base u r) (u2 : Ow w2 base u r) (hg : w1.grownBy w2 u.ownBlock)
 (hu : u.ownBlock = v.ownBlock ∨ ∃ g, u.ownBlock = some g ∧ w.heap.size ≤ g) (hle : l.length ≤ r.length) : Ow w2 base v l := by
 rcases hu with hu | ⟨g, hu, hgw⟩
 ·exact h1.pfx u1 u2 hu hle
 ·refine h1.grown hg ?_
  cases hv : v.ownBlock with
  | none => exact .inl rfl
  | some k => right; rw [hu]; intro e; injection e with e; have := hw k hv; omega
theorem own_next {w w1 : World} {v u x : Value} (hs : w.heap.size ≤ w1.heap.size) (hu : u.ownBlock = v.ownBlock ∨ ∃ g, u.ownBlock = some g ∧ w.heap.size ≤ g) (hx : x.ownBlock = u.ownBlock ∨ ∃ g, x.ownBlock = some g ∧ w1.heap.size ≤ g) : x.ownBlock = v.ownBlock ∨ ∃ g, x.ownBlock = some g ∧ w.heap.size ≤ g := by
 rcases hx with hx | ⟨g, hx, hg⟩
 ·rw [hx]; exact hu
 ·exact .inr ⟨g, hx, by omega⟩
theorem grown_pre {w w' : World} {row : Option Nat} {o : Obj} (hg : (w.alloc o).grownBy w' row) (h : row ≠ some w.heap.size) : w.grownBy w' row := grown_trans (grown_alloc (grown_refl w row) o) hg
set_option maxHeartbeats 400000 in
theorem appendBool_c (base : Nat) (v : Value) (l : List UInt8) (b : Bool) (w : World) (h : Ow w base v l) (hl : l.length ≤ 70368744177664) (hbase : base ≤ w.heap.size) :
 Calls Try.prog 95 #[v, .bool b] w (Appends w base v l [bb b]) := by
 have HB := hide hbase
 have HL : Hid (l.length + ([bb b]).length ≤ 140737488355328) := by unfold Hid; simp; omega
 have HV : Hid (v.ownBlock ≠ some w.heap.size) := by
  unfold Hid; intro hv; have := (h.lt _ hv).2; omega
 obtain ⟨A, c, rfl, _, _⟩ := h.form
 have H := hide h;clear h hl hbase
 generalize hr : ([bb b]) = r
 have HR := hide hr;clear hr
 cases b with
 | true =>
  have HO : Hid ((#[.int .u8 1] : Array Value).toList = ([bb true]).map bv) := by unfold Hid; rfl
  go_enter Try.func95, Try.ntmps95
  go_wp2_with (at_builtin; refine wpList_append_bk rfl _ _ rfl base rfl (H.out.alloc _) rfl (Ow.made (base := w.heap.size) [bb true] _ HO.out (Nat.le_refl _) (by simp [maxLen])).bs HL.out (by have := HB.out; simp; omega) ?_; intro v1 w3 how hol hg hw)
  go_ret
  exact ⟨v1, rfl, by rw [← HR.out]; exact how, hol, grown_pre hg HV.out, hw.imp_right fun h => ⟨_, h, by simp⟩⟩
 | false =>
  have HO : Hid ((#[.int .u8 0] : Array Value).toList = ([bb false]).map bv) := by unfold Hid; rfl
  go_enter Try.func95, Try.ntmps95
  go_wp2_with (at_builtin; refine wpList_append_bk rfl _ _ rfl base rfl (H.out.alloc _) rfl (Ow.made (base := w.heap.size) [bb false] _ HO.out (Nat.le_refl _) (by simp [maxLen])).bs HL.out (by have := HB.out; simp; omega) ?_; intro v1 w3 how hol hg hw)
  go_ret
  exact ⟨v1, rfl, by rw [← HR.out]; exact how, hol, grown_pre hg HV.out, hw.imp_right fun h => ⟨_, h, by simp⟩⟩
end
section
open Go.Shelf
def lays129_ren : Go.Shelf.Ren := ⟨fun | 129 => 77 | n => n, fun | 53 => 104 | 3 => 3 | 4 => 4 | 46 => 146 | 5 => 5 | 9 => 9 | n => n, fun | n => n⟩
theorem lays129 : Go.Proofs.Lays.n129 Try.prog lays129_ren := {
  mixed := by kernel_rfl,
  f129 := Try.func77.trans (congrArg some (by kernel_rfl)),
  t3 := Try.underlying3,
  a3 := Try.isAgg3,
  z3 := Try.sizeOf3,
  v3 := Try.zeroValue3,
  t4 := Try.underlying4,
  a4 := Try.isAgg4,
  z4 := Try.sizeOf4,
  v4 := Try.zeroValue4,
  t5 := Try.underlying5,
  a5 := Try.isAgg5,
  z5 := Try.sizeOf5,
  v5 := Try.zeroValue5,
  t9 := Try.underlying9,
  a9 := Try.isAgg9,
  z9 := Try.sizeOf9,
  v9 := Try.zeroValue9,
  t46 := Try.underlying146,
  a46 := Try.isAgg146,
  z46 := Try.sizeOf146,
  v46 := Try.zeroValue146,
  t53 := Try.underlying104,
  a53 := Try.isAgg104,
  z53 := Try.sizeOf104,
  v53 := Try.zeroValue104 }
theorem lib_len (f x : Nat) (h : x < 2 ^ f) : Lib.bitLenAux f x = bitLen x := by
 induction f generalizing x with
 | zero => have : x = 0 := by simpa using h
           rw [this]; rfl
 | succ f ih =>
  rw [Lib.bitLenAux]
  by_cases h0 : x = 0
  ·rw [h0]; rfl
  ·rw [if_neg h0, ih (x / 2) (by rw [Nat.pow_succ] at h; omega)]
   by_cases h1 : x / 2 = 0
   ·have : x = 1 := by omega
    rw [this]; decide
   ·exact (bitLen_shift x 1 (by simpa using h1)).symm
/-- bits.Len64, as the number of bytes. -/
theorem len64_c (x : Nat) (w : World) (h1 : x < 2 ^ 64) :
 Calls Try.prog 77 #[.int .u64 x] w fun e w' => e = .returned (.int .i64 (bitLen x)) ∧ w' = w := by
 have h := Any.bits_Len64 lays129 (x : Int) w (by omega) (by omega)
 rw [Int.toNat_natCast, show Lib.bitLen x = bitLen x from lib_len 64 x h1] at h
 exact h
end
section
open Go.ChangeShapes Go.WideShapes Go.ChangeAt Go.RowKit
/-- What AppendNumber's loop keeps. -/
def NumWR (w : World) (base n : Nat) (r : List UInt8) (v0 : Value) (l : List UInt8) (v vi : Value) (wr : World) : Prop :=
 ∃ (j : Nat) (acc : List UInt8), j ≤ blen n ∧ vi = .int .i64 ((j : Int) - 1) ∧ Ow wr base v acc ∧ acc ++ dig j n = r ∧ w.grownBy wr v0.ownBlock ∧ (v.ownBlock = v0.ownBlock ∨ ∃ g, v.ownBlock = some g ∧ w.heap.size ≤ g) ∧ Ow wr base v0 l ∧ l.length ≤ acc.length
set_option maxHeartbeats 1000000 in
theorem appendNumber_c (base : Nat) (v : Value) (l : List UInt8) (n : Nat) (hn : n < 2 ^ 64) (w : World) (h : Ow w base v l) (hl : l.length ≤ 70368744177664) (hbase : base ≤ w.heap.size) :
 Calls Try.prog 42 #[v, .int .u64 n] w (Appends w base v l (enc n)) := by
 have HB := hide hbase;have HN := hide hn
 have hk := blen_le 8 n (by omega)
 have hbl := bitLen_bytes n
 have hb64 : bitLen n ≤ 64 := by omega
 have hq : ((bitLen n : Int) + 7) / 8 = (blen n : Int) := by omega
 have HV : Hid (v.ownBlock ≠ some w.heap.size) := by
  unfold Hid; intro hv; have := (h.lt _ hv).2; omega
 obtain ⟨A, c, rfl, _, _⟩ := h.form
 have H := hide h;have HL := hide hl
 have HL1 : Hid (l.length + [UInt8.ofNat (blen n)].length ≤ 140737488355328) := by unfold Hid; simp; omega
 clear h hl hbase hn hbl
 go_enter Try.func42, Try.ntmps42
 go_wp2_with fail
 refine (len64_c n _ HN.out).mono ?_
 rintro e w1 ⟨rfl, rfl⟩
 have HO : Hid ((#[.int .u8 (blen n : Int)] : Array Value).toList = ([UInt8.ofNat (blen n)]).map bv) := by
  unfold Hid; simp only [List.map_cons, List.map_nil, bv, u8]; rw [UInt8.toNat_ofNat', Nat.mod_eq_of_lt (by omega)]
 go_wp2_with (at_builtin; refine wpList_append_bk rfl _ _ rfl base rfl (H.out.alloc _) rfl (Ow.made (base := w1.heap.size) [UInt8.ofNat (blen n)] _ HO.out (Nat.le_refl _) (by simp [maxLen])).bs HL1.out (by have := HB.out; simp; omega) ?_; intro v1 w3 how hol hg hw)
 have hg1 := grown_pre hg HV.out
 have hv1 : v1.ownBlock = (Value.slice A l.length c).ownBlock ∨ ∃ g, v1.ownBlock = some g ∧ w1.heap.size ≤ g := by
  rcases hw with hw | hw
  ·exact .inl hw
  ·exact .inr ⟨_, hw, by simp⟩
 have hst : (l ++ [UInt8.ofNat (blen n)]) ++ dig (blen n) n = l ++ enc n := by simp [enc]
 clear hg hw hq hb64
 generalize hr : l ++ enc n = r at *
 have HR : Hid (r.length ≤ 70368744177673) := by unfold Hid; rw [← hr]; unfold enc; simp [dig_len]; have := HL.out; omega
 have HQ := hide hr;clear hr
 generalize l.length = ln at *
 have HLL : Hid (l.length ≤ (l ++ [UInt8.ofNat (blen n)]).length) := by unfold Hid; simp
 go_loopw [0, 6] (fun v i wr => NumWR w1 base n r (Value.slice A ln c) l v i wr) (fun _ i _ => (intOf i + 1).toNat)
 case atStart => exact ⟨blen n, _, Nat.le_refl _, rfl, how, hst, hg1, hv1, hol, HLL.out⟩
 case round =>
  clear how hg1 hv1 hst hol HLL
  obtain ⟨j, acc, hj, rfl, ho, he, hg, hv, hkl, hla⟩ := hrel
  obtain ⟨A', c', rfl, _, _⟩ := ho.form
  by_cases h0 : j = 0
  ·subst h0
   have he2 : acc = r := by simpa [dig] using he
   subst he2
   have HO := hide ho;have HG := hide hg;have HKL := hide hkl;have HV2 := hide hv;clear ho hg hv he hkl hla
   go_wp2_with fail
   go_ret
   exact ⟨_, rfl, by rw [HQ.out]; exact HO.out, HKL.out, HG.out, HV2.out⟩
  ·obtain ⟨i, rfl⟩ : ∃ i, j = i + 1 := ⟨j - 1, by omega⟩
   rw [dig_succ] at he
   have hi : ((i + 1 : Nat) : Int) - 1 = (i : Int) := by omega
   rw [hi]
   have hi8 : i < 8 := by omega
   have HO := hide ho;have HG := hide hg;have HE := hide he;have HV2 := hide hv;have HKL := hide hkl;have HLA := hide hla;clear ho hg he hv hkl hla
   have HO2 : Hid ((#[.int .u8 ((n : Int) / 2 ^ (8 * i) % 256)] : Array Value).toList = ([UInt8.ofNat (n / 256 ^ i % 256)]).map bv) := by
    unfold Hid; simp only [List.map_cons, List.map_nil, bv]
    rw [← byte_mod, show 256 ^ i = 2 ^ (8 * i) from by rw [Nat.pow_mul]]
    simp
   have HL2 : Hid (acc.length + [UInt8.ofNat (n / 256 ^ i % 256)].length ≤ 140737488355328) := by
    have h1 := congrArg List.length HE.out;have h2 := HR.out
    simp only [List.length_append, List.length_cons] at h1
    unfold Hid; simp only [List.length_cons, List.length_nil]; omega
   have HS := hide HG.out.size
   go_wp2_with (at_builtin; refine wpList_append_bk rfl _ _ rfl base rfl (HO.out.alloc _) rfl (Ow.made (base := wr.heap.size) [UInt8.ofNat (n / 256 ^ i % 256)] _ HO2.out (Nat.le_refl _) (by simp [maxLen])).bs HL2.out (by have := HB.out; have := HS.out; simp; omega) ?_; intro v4 w4 how hol4 hg4 hw4)
   have hlt : ∀ k, (Value.slice A' acc.length c').ownBlock = some k → k < wr.heap.size := fun k hk => (HO.out.lt k hk).2
   have hgn := grown_pre hg4 (fun e => by have := hlt _ e; omega)
   have hgw := grown_next HG.out hgn HV2.out
   have hvv : v4.ownBlock = (Value.slice A ln c).ownBlock ∨ ∃ g, v4.ownBlock = some g ∧ w1.heap.size ≤ g := by
    rcases hw4 with hw4 | hw4
    ·rw [hw4]; exact HV2.out
    ·exact .inr ⟨_, hw4, by have := HS.out; simp; omega⟩
   have hen : (acc ++ [UInt8.ofNat (n / 256 ^ i % 256)]) ++ dig i n = r := by rw [← HE.out]; simp
   have hold := HKL.out.alloc (.cells #[.int .u8 ((n : Int) / 2 ^ (8 * i) % 256)] 5)
   have hkk : Ow w4 base (Value.slice A ln c) l := Ow.later (fun g hg => (H.out.lt g hg).2) hold (HO.out.alloc _) hol4 hg4 HV2.out HLA.out
   have hlx : l.length ≤ (acc ++ [UInt8.ofNat (n / 256 ^ i % 256)]).length := by have := HLA.out; simp; omega
   clear hold
   go_roundw
   case rel => exact ⟨i, _, by omega, rfl, how, hen, hgw, hvv, hkk, hlx⟩
   case measure => simp [intOf]
end
section
open Go.ChangeShapes Go.WideShapes Go.ChangeAt Go.RowKit
def zig (i : Int) : Nat := if 0 ≤ i then (2 * i).toNat else (2 * (-(i + 1)) + 1).toNat
theorem zig_lt (i : Int) (h0 : -9223372036854775808 ≤ i) (h1 : i ≤ 9223372036854775807) : zig i < 2 ^ 64 := by unfold zig; split <;> omega
theorem zig_bits (i : Int) (h0 : -9223372036854775808 ≤ i) (h1 : i ≤ 9223372036854775807) : bits BinOp.xor IntKind.u64 (IntKind.u64.wrap (IntKind.u64.wrap i * 2)) (IntKind.u64.wrap (i / 9223372036854775808)) = (zig i : Int) := by
 show IntKind.u64.wrap ((BitVec.ofInt 64 (IntKind.u64.wrap (IntKind.u64.wrap i * 2)) ^^^ BitVec.ofInt 64 (IntKind.u64.wrap (i / 9223372036854775808))).toNat : Int) = _
 have hw : ∀ z : Int, IntKind.u64.wrap z = z % 18446744073709551616 := fun z => by simp [IntKind.wrap, IntKind.signed, IntKind.bits]
 rw [hw, hw, hw, hw]
 by_cases hi : 0 ≤ i
 ·have e1 : i / 9223372036854775808 = 0 := by omega
  have e2 : i % 18446744073709551616 * 2 % 18446744073709551616 = ((2 * i).toNat : Int) := by omega
  rw [e1, e2, BitVec.ofInt_natCast, show BitVec.ofInt 64 (0 % 18446744073709551616) = 0#64 from rfl, BitVec.xor_zero, BitVec.toNat_ofNat]
  unfold zig
  rw [if_pos hi]
  omega
 ·have e1 : i / 9223372036854775808 = -1 := by omega
  have e2 : i % 18446744073709551616 * 2 % 18446744073709551616 = ((2 * i + 18446744073709551616).toNat : Int) := by omega
  rw [e1, e2, BitVec.ofInt_natCast, show BitVec.ofInt 64 (-1 % 18446744073709551616) = BitVec.allOnes 64 from rfl, BitVec.xor_allOnes, BitVec.toNat_not, BitVec.toNat_ofNat]
  unfold zig
  rw [if_neg hi]
  omega
set_option maxHeartbeats 1000000 in
theorem appendInt_c (base : Nat) (v : Value) (l : List UInt8) (i : Int) (h0 : -9223372036854775808 ≤ i) (h1 : i ≤ 9223372036854775807) (w : World) (h : Ow w base v l) (hl : l.length ≤ 70368744177664) (hbase : base ≤ w.heap.size) :
 Calls Try.prog 53 #[v, .int .i64 i] w (Appends w base v l (enc (zig i))) := by
 obtain ⟨A, c, rfl, _, _⟩ := h.form
 have H := hide h;clear h
 go_enter Try.func53, Try.ntmps53
 go_wp2_with fail
 rw [zig_bits i h0 h1]
 refine (appendNumber_c base _ l (zig i) (zig_lt i h0 h1) _ H.out hl hbase).mono ?_
 rintro e w1 ⟨v1, rfl, ho, hol, hg, hv⟩
 go_wp2_with fail
 go_ret
 exact ⟨v1, rfl, ho, hol, hg, hv⟩
end
section
open Go.ChangeShapes Go.WideShapes Go.ChangeAt Go.RowKit
theorem strCells_bv (s : ByteArray) : Lib.strCells s = s.data.toList.map bv := rfl
theorem run_append_str_keep {w : World} (base : Nat) (ty : TypeId) {v : Value} {l : List UInt8} (s : ByteArray) (hv : Ow w base v l) (hlen : l.length + s.size ≤ 140737488355328) (hbase : base ≤ w.heap.size)
 {v' : Value} {w' : World} (hr : (Builtin.append_ #[102, 9] ty #[v, .string s]).run Try.prog w = .ok v' w') : Ow w' base v l ∧ (v'.ownBlock = v.ownBlock ∨ ∃ g, v'.ownBlock = some g ∧ w.heap.size ≤ g) := by
 obtain ⟨i0, hi0, hz0, hz1, hz2⟩ := info_parts info_u8
 have hv0 := hv
 obtain ⟨hl, ⟨rfl, h0⟩ | ⟨g, cap, cur, rfl, hg, hh, hn, hm, hs, ht⟩⟩ := hv
 ·have : l = [] := List.eq_nil_of_length_eq_zero h0
  subst this
  refine ⟨Ow.nil _ _, ?_⟩
  by_cases h1 : s.size = 0
  ·have hc : Lib.strCells s = [] := List.eq_nil_of_length_eq_zero (by rw [Lib.strCells_length]; exact h1)
   have hf := Lib.run_firstCells_string (P := Try.prog) w 1 s
   rw [h1] at hf
   have hst : (Builtin.append_ #[102, 9] ty #[.slice none 0 0, .string s]).run Try.prog w = .ok (.slice none 0 0) w := by
    simp [Builtin.append_, run_underlying Try.underlying102, run_underlying Try.underlying9, sizeOf, typeInfo, hi0, hz1, Builtin.lenOf, h1, hf]
   rw [hst] at hr
   injection hr with e1 _
   rw [← e1]; exact .inl rfl
  ·have h4 := run_append_nil_string (P := Try.prog) w 102 9 ty 5 i0 (.int .u8 0) Try.underlying102 Try.underlying9 hi0 hz0 s (by omega) (by omega) (by rw [hz2]; omega)
   rw [h4] at hr
   injection hr with e1 _
   rw [← e1]; exact .inr ⟨_, rfl, Nat.le_refl _⟩
 ·rw [Nat.mul_one] at hs ht
  by_cases hroom : l.length + s.size ≤ cap
  ·have h4 := Lib.run_append_room_string (P := Try.prog) w 102 9 ty 5 i0 Try.underlying102 Try.underlying9 hi0 hz1 g l.length cap cur hh s hroom (by omega)
   rw [h4] at hr
   injection hr with e1 e2
   rw [← e1, ← e2]
   refine ⟨⟨hl, .inr ⟨g, cap, _, rfl, hg, setRow_heap w g cur _ _ _ hh, hn, hm, ?_, ?_⟩⟩, .inl rfl⟩
   ·simp only [Nat.mul_one, List.size_toArray, List.length_append, List.length_take, List.length_drop, Array.length_toList, Lib.strCells_length]
    omega
   ·rw [Nat.mul_one, List.append_assoc, List.take_append_of_le_length (by have hcl := Array.length_toList (xs := cur); rw [List.length_take]; omega), List.take_take, Nat.min_self]
    exact ht
  ·have h4 := Lib.run_append_grow_string (P := Try.prog) w 102 9 ty 5 i0 (.int .u8 0) Try.underlying102 Try.underlying9 hi0 hz0 ⟨g, 0, none⟩ l.length cap (l.map bv) (by simp [hz1]) (World.ownsRow.cells hv0 (g := g) rfl) s (by omega) (by omega) (by rw [hz2]; exact growslice_fits (by omega) (by omega))
   rw [h4] at hr
   injection hr with e1 e2
   rw [← e1, ← e2]
   exact ⟨Ow.alloc (Ow.drew hv0) _, .inr ⟨_, rfl, Nat.le_refl _⟩⟩
theorem wpList_append_str {ops : Array Oper} {rest : List Oper} {o : Oper} {a : Act} {w : World} {Q : Exit → Act → World → Prop} (hgd : o.guard = none) (s x : Operand)
 (ho : o.op = .call { callee := .builtin .append, args := #[s, x], argTypes := #[102, 9] }) (base : Nat) {v : Value} {l : List UInt8} {t : ByteArray}
 (hs : a.eval s = v) (hv : Ow w base v l) (hx : a.eval x = .string t) (hlen : l.length + t.size ≤ 140737488355328) (hbase : base ≤ w.heap.size)
 (h : ∀ v' w', Ow w' base v' (l ++ t.data.toList) → Ow w' base v l → w.grownBy w' v.ownBlock → (v'.ownBlock = v.ownBlock ∨ ∃ g, v'.ownBlock = some g ∧ w.heap.size ≤ g) → wpList Try.prog ops Q rest (a.put o.dst v') w') : wpList Try.prog ops Q (o :: rest) a w := by
 refine wpList_plain hgd fun K hK => ?_
 obtain ⟨i0, hi0, hz0, hz1, hz2⟩ := info_parts info_u8
 obtain ⟨v', w', h0, h1, h2, _⟩ := Lib.run_append_own_string (P := Try.prog) w base 102 9 o.type 5 i0 Try.underlying102 Try.underlying9 hi0 hz0 hz1 hz2 v l.length (l.map bv) hv t (by unfold maxLen; omega) hlen hbase
 obtain ⟨hk, hx2⟩ := run_append_str_keep base o.type t hv hlen hbase h0
 have hl : l.length + t.size = (l ++ t.data.toList).length := by rw [List.length_append]; rfl
 have h1' : Ow w' base v' (l ++ t.data.toList) := by
  unfold Ow
  rw [← hl, List.map_append, ← strCells_bv]
  exact h1
 unfold Oper.wp execOp
 simp only [ho, resolve, invoke, builtin, Sem.run_bind, Sem.run_pure, Result.andThen_ok, List.map_toArray, List.map_cons, List.map_nil, hs, hx, h0]
 exact hK _ _ (h v' w' h1' hk h2 hx2)
/-- A text's encoding. -/
def encT (s : ByteArray) : List UInt8 := enc s.size ++ s.data.toList
set_option maxHeartbeats 1000000 in
theorem appendText_c (base : Nat) (v : Value) (l : List UInt8) (s : ByteArray) (w : World) (h : Ow w base v l) (hl : l.length ≤ 35184372088832) (hs : s.size ≤ 35184372088832) (hbase : base ≤ w.heap.size) :
 Calls Try.prog 62 #[v, .string s] w (Appends w base v l (encT s)) := by
 obtain ⟨A, c, rfl, _, _⟩ := h.form
 have H := hide h
 have hb := blen_le 8 s.size (by omega)
 have HL : Hid ((l ++ enc s.size).length + s.size ≤ 140737488355328) := by unfold Hid enc; simp [dig_len]; omega
 clear h
 go_enter Try.func62, Try.ntmps62
 go_wp2_with fail
 refine (appendNumber_c base _ l s.size (by omega) _ H.out (by omega) hbase).mono ?_
 rintro e w1 ⟨v1, rfl, ho, hol, hg, hv⟩
 have HO := hide ho;have HOL := hide hol;have HG := hide hg;have HV := hide hv
 have HB : Hid (base ≤ w1.heap.size) := hide (Nat.le_trans hbase hg.size)
 clear ho hg hol hv
 go_wp2_with (at_builtin; refine wpList_append_str rfl _ _ rfl base rfl HO.out rfl HL.out HB.out ?_; intro v2 w2 ho2 hol2 hg2 hv2)
 go_ret
 exact ⟨v2, rfl, by rw [encT, ← List.append_assoc]; exact ho2, Ow.later (fun g hg => (H.out.lt g hg).2) HOL.out HO.out hol2 hg2 HV.out (by simp), grown_next HG.out hg2 HV.out, own_next HG.out.size HV.out hv2⟩
end
section
open Go.ChangeShapes Go.WideShapes Go.ChangeAt Go.RowKit
/-- An integer's bytes; a list's. -/
def encI (x : Int) : List UInt8 := enc (zig x)
def encL (l : List Int) : List UInt8 := enc l.length ++ l.flatMap encI
theorem enc_len (n : Nat) (h : n < 2 ^ 64) : (enc n).length ≤ 9 := by
 unfold enc
 rw [List.length_cons, dig_len]
 have := blen_le 8 n h
 omega
theorem encI_len {x : Int} (h : I64 x) : (encI x).length ≤ 9 := enc_len _ (zig_lt x h.1 h.2)
theorem flat_len {l : List Int} (h : ∀ x ∈ l, I64 x) : (l.flatMap encI).length ≤ 9 * l.length := by
 induction l with
 | nil => simp
 | cons x l ih =>
  rw [List.flatMap_cons, List.length_append, List.length_cons]
  have h1 := encI_len (h x (by simp))
  have h2 := ih (fun y hy => h y (by simp [hy]))
  omega
/-- The call hands back an own slice with these bytes; below the base nothing is turned. -/
def AppR (w : World) (base : Nat) (m : List UInt8) (e : Ending) (w' : World) : Prop := ∃ v', e = .returned v' ∧ Ow w' base v' m ∧ Below base w w' ∧ w.heap.size ≤ w'.heap.size
theorem Appends.app {w : World} {base : Nat} {v : Value} {l m : List UInt8} {e : Ending} {w' : World} (h : Appends w base v l m e w') (hv : Ow w base v l) (hb : base ≤ w.heap.size) : AppR w base (l ++ m) e w' := by
 obtain ⟨v', e1, h1, _, h3, _⟩ := h
 exact ⟨v', e1, h1, (Below.refl _ _).grown h3 hb (fun k hk => (hv.lt k hk).1), h3.size⟩
/-- A list of numbers in a block below B. -/
def LiB (w : World) (B : Nat) (v : Value) (l : List Int) : Prop :=
 ∃ A c, v = .slice A l.length c ∧ l.length ≤ c ∧ c ≤ maxLen ∧ (∀ x ∈ l, I64 x) ∧ (0 < l.length → ∃ g o, A = some ⟨g, o, none⟩ ∧ g < B ∧ ∀ i (h : i < l.length), w.cell? ⟨g, o + i, none⟩ = some (.int .i64 l[i]))
theorem Li.low {w : World} {v : Value} {l : List Int} (h : Li w v l) : LiB w w.heap.size v l := h
theorem LiB.mono {w : World} {B B' : Nat} {v : Value} {l : List Int} (h : LiB w B v l) (hb : B ≤ B') : LiB w B' v l := by
 obtain ⟨A, c, e, h1, h2, h3, h4⟩ := h
 exact ⟨A, c, e, h1, h2, h3, fun h0 => by obtain ⟨g, o, e1, hg, hc⟩ := h4 h0; exact ⟨g, o, e1, by omega, hc⟩⟩
theorem LiB.below {w w' : World} {B : Nat} {v : Value} {l : List Int} (h : LiB w B v l) (k : Below B w w') : LiB w' B v l := by
 obtain ⟨A, c, e, h1, h2, h3, h4⟩ := h
 exact ⟨A, c, e, h1, h2, h3, fun h0 => by obtain ⟨g, o, e1, hg, hc⟩ := h4 h0; exact ⟨g, o, e1, hg, fun i hi => (k.cell (p := ⟨g, o + i, none⟩) hg).trans (hc i hi)⟩⟩
theorem LiB.form {w : World} {B : Nat} {v : Value} {l : List Int} (h : LiB w B v l) : ∃ A n c, v = .slice A n c ∧ Hid (n = l.length) ∧ n ≤ c ∧ c ≤ 9223372036854775807 := by
 obtain ⟨A, c, e, h1, h2, _⟩ := h; exact ⟨A, _, c, e, rfl, h1, by unfold maxLen at h2; omega⟩
theorem LiB.at_ {w : World} {B : Nat} {A : Option Addr} {n c : Nat} {l : List Int} (h : LiB w B (.slice A n c) l) (i : Nat) (hi : i < l.length) : ∃ g o, A = some ⟨g, o, none⟩ ∧ g < B ∧ w.cell? ⟨g, o + i, none⟩ = some (.int .i64 l[i]) ∧ I64 l[i] := by
 obtain ⟨A', c', e, h1, h2, h3, h4⟩ := h
 obtain ⟨rfl, rfl, rfl⟩ : A = A' ∧ n = l.length ∧ c = c' := by injection e with e1 e2 e3; exact ⟨e1, e2, e3⟩
 obtain ⟨g, o, rfl, hg, hc⟩ := h4 (by omega)
 exact ⟨g, o, rfl, hg, hc i hi, h3 _ (List.getElem_mem hi)⟩
theorem below_trans {B : Nat} {a b c : World} (h : Below B a b) (k : Below B b c) : Below B a c := h.trans k
theorem flat_snoc {α : Type} (f : α → List UInt8) (l : List α) (k : Nat) (h : k < l.length) : (l.take (k + 1)).flatMap f = (l.take k).flatMap f ++ f l[k] := by
 rw [List.take_add_one, List.getElem?_eq_getElem h, List.flatMap_append]
 simp
set_option maxHeartbeats 2000000 in
theorem appendInts_c (base : Nat) (v : Value) (l0 : List UInt8) (lv : Value) (l : List Int) (w : World) (h : Ow w base v l0) (hb : base ≤ w.heap.size) (hl : LiB w base lv l) (hs : l0.length + 9 * (l.length + 1) ≤ 35184372088832) :
 Calls Try.prog 83 #[v, lv] w (AppR w base (l0 ++ encL l)) := by
 obtain ⟨A, n, c, rfl, hn, hnc, hcm⟩ := hl.form
 have H := hide h;have HL := hide hl;have HB := hide hb;have HS := hide hs
 have HLT : Hid (l.length < 2 ^ 64) := hide (by omega)
 clear h hl hb hs
 go_enter Try.func83, Try.ntmps83
 go_wp2_with fail
 rw [show (n : Int) = ((l.length : Nat) : Int) by rw [hn.out]]
 refine (appendNumber_c base v l0 l.length HLT.out w H.out (by have := HS.out; omega) HB.out).mono ?_
 rintro e w1 ha
 obtain ⟨v1, rfl, ho1, hb1, hs1⟩ := ha.app H.out HB.out
 have HO := hide ho1;have HB1 := hide hb1
 have HS1 : Hid (base ≤ w1.heap.size) := hide (Nat.le_trans HB.out hs1)
 clear ha ho1 hb1 hs1
 go_wp2_with fail
 go_loopw [0, 14] (fun v0 v14 wr => ∃ k : Nat, v14 = .int .i64 k ∧ k ≤ n ∧ Ow wr base v0 (l0 ++ (enc l.length ++ (l.take k).flatMap encI)) ∧ Below base w wr ∧ base ≤ wr.heap.size) (fun _ v14 _ => n - (intOf v14).toNat)
 case atStart => exact ⟨0, rfl, Nat.zero_le _, by simpa using HO.out, HB1.out, HS1.out⟩
 case round =>
  obtain ⟨k, rfl, hk, ho, hbl, hsz⟩ := hrel
  clear HO HB1 HS1
  by_cases hlt : k < n
  ·have hkl : k < l.length := by rw [← hn.out]; exact hlt
   obtain ⟨g, o, rfl, hg, hcell, hx⟩ := (HL.out.below hbl).at_ k hkl
   have HFL := hide (flat_snoc encI l k hkl)
   have HLN : Hid (((l.take k).flatMap encI).length ≤ 9 * l.length) := hide (by
    have h1 := flat_len (l := l.take k) (fun x hx => by obtain ⟨A, c, _, _, _, h3, _⟩ := HL.out; exact h3 x (List.mem_of_mem_take hx))
    rw [List.length_take] at h1; omega)
   have HE9 : Hid ((enc l.length).length ≤ 9) := hide (enc_len _ HLT.out)
   have HX := hide hx
   generalize l[k] = x at *
   have HO := hide ho;have HBL := hide hbl;have HSZ := hide hsz;have HKT := hide hlt
   have hki : (k : Int) < (n : Int) := by omega
   clear ho hbl hsz hx hkl hlt hk hg
   go_wp2_with fail
   refine (appendInt_c base u0 _ x HX.out.1 HX.out.2 wr HO.out (by rw [List.length_append, List.length_append]; have := HS.out; have := HLN.out; have := HE9.out; omega) HSZ.out).mono ?_
   rintro e w2 ha
   obtain ⟨v2, rfl, ho2, hb2, hs2⟩ := ha.app HO.out HSZ.out
   have HO2 := hide ho2
   have HB2 := hide (below_trans HBL.out hb2)
   have HS2 : Hid (base ≤ w2.heap.size) := hide (Nat.le_trans HSZ.out hs2)
   clear ha ho2 hb2 hs2 hcell HO HBL
   go_wp2_with fail
   go_roundw
   case rel => exact ⟨k + 1, by go_num, HKT.out, by rw [HFL.out]; have := HO2.out; simpa [List.append_assoc, encI] using this, HB2.out, HS2.out⟩
   case measure => have := HKT.out; simp [intOf]; omega
  ·obtain rfl : k = n := by omega
   have HO : Hid (Ow wr base u0 (l0 ++ encL l)) := hide (by rw [hn.out, List.take_length] at ho; exact ho)
   have HBL := hide hbl;clear ho hbl hsz hlt hk
   go_wp2_with fail
   go_ret
   exact ⟨_, rfl, HO.out, HBL.out, HBL.out.size⟩
/-- What a writer needs of the message: whatever is turned at the base or above it. -/
structure FB (w : World) (base : Nat) (L : LB) (b bm : Nat) (cs : List Value) : Prop where
 blks : ∀ e ∈ L, e.1 < base ∧ Blk w e.1 e.2.1 e.2.2.toArray
 bm : (bm, 72, [at0 b]) ∈ L
 msg : b < base ∧ Blk w b 41 cs.toArray
theorem FB.below {w w' : World} {base : Nat} {L : LB} {b bm : Nat} {cs : List Value} (h : FB w base L b bm cs) (k : Below base w w') : FB w' base L b bm cs :=
 ⟨fun e he => ⟨(h.blks e he).1, (h.blks e he).2.below k (h.blks e he).1⟩, h.bm, h.msg.1, h.msg.2.below k h.msg.1⟩
theorem FB.cell {w : World} {base : Nat} {L : LB} {b bm : Nat} {cs : List Value} (h : FB w base L b bm cs) (o : Nat) : w.cell? ⟨b, o, none⟩ = cs[o]? := (h.msg.2.cell o).trans (by simp)
theorem FB.box {w : World} {base : Nat} {L : LB} {b bm : Nat} {cs : List Value} (h : FB w base L b bm cs) {g : Nat} {t : TypeId} {v : Value} (hm : (g, t, [v]) ∈ L) : w.cell? ⟨g, 0, none⟩ = some v := (h.blks _ hm).2.cell 0
theorem FB.all {w : World} {base : Nat} {L : LB} {b bm : Nat} {cs : List Value} (h : FB w base L b bm cs) : ∀ e ∈ L, Blk w e.1 e.2.1 e.2.2.toArray := fun e he => (h.blks e he).2
/-- A writer: it appends m. -/
def Writes (w : World) (f : FuncId) (caps : List Value) (base : Nat) (m : List UInt8) : Prop := ∀ (v : Value) (l0 : List UInt8), Ow w base v l0 → base ≤ w.heap.size → l0.length ≤ 17592186044416 → Calls Try.prog f (#[v] ++ caps.toArray) w (AppR w base (l0 ++ m))
section
variable {w : World} {base : Nat} {L : LB} {b bm : Nat} {cs : List Value}
theorem nwrite_c {bp o : Nat} {x : Int} (h1 : w.cell? ⟨bp, 0, none⟩ = some (.pointer (some ⟨b, o, none⟩))) (h2 : w.cell? ⟨b, o, none⟩ = some (.int .i64 x)) (hx : I64 x) : Writes w 88 [at0 bp] base (encI x) := by
 intro v l0 ho hb hl
 have HO := hide ho;have HB := hide hb;have HL := hide hl;have HX := hide hx;clear ho hb hl hx
 show Calls Try.prog _ #[v, at0 bp] w _
 go_enter Try.func88, Try.ntmps88
 go_wp2_with fail
 refine (appendInt_c base v l0 x HX.out.1 HX.out.2 w HO.out (by have := HL.out; omega) HB.out).mono ?_
 rintro e w1 ha
 obtain ⟨v1, rfl, ho1, hb1, hs1⟩ := ha.app HO.out HB.out
 have HO1 := hide ho1;have HB1 := hide hb1;clear ha ho1 hb1 hs1
 go_wp2_with fail
 go_ret
 exact ⟨_, rfl, HO1.out, HB1.out, HB1.out.size⟩
theorem vwrite_c (h : FB w base L b bm cs) {x : Int} (h2 : cs[17]? = some (.int .i64 x)) (hx : I64 x) : Writes w 67 [at0 bm] base (encI x) := by
 intro v l0 ho hb hl
 have h1 := h.box h.bm
 have h3 := (h.cell 17).trans h2
 have HO := hide ho;have HB := hide hb;have HL := hide hl;have HX := hide hx;clear ho hb hl hx h h2
 show Calls Try.prog _ #[v, at0 bm] w _
 go_enter Try.func67, Try.ntmps67
 go_wp2_with fail
 refine (appendInt_c base v l0 x HX.out.1 HX.out.2 w HO.out (by have := HL.out; omega) HB.out).mono ?_
 rintro e w1 ha
 obtain ⟨v1, rfl, ho1, hb1, hs1⟩ := ha.app HO.out HB.out
 have HO1 := hide ho1;have HB1 := hide hb1;clear ha ho1 hb1 hs1
 go_wp2_with fail
 go_ret
 exact ⟨_, rfl, HO1.out, HB1.out, HB1.out.size⟩
theorem bwrite_c (h : FB w base L b bm cs) {s : ByteArray} (h2 : cs[5]? = some (.string s)) (hx : s.size ≤ 35184372088832) : Writes w 61 [at0 bm] base (encT s) := by
 intro v l0 ho hb hl
 have h1 := h.box h.bm
 have h3 := (h.cell 5).trans h2
 have HO := hide ho;have HB := hide hb;have HL := hide hl;have HX := hide hx;clear ho hb hl hx h h2
 show Calls Try.prog _ #[v, at0 bm] w _
 go_enter Try.func61, Try.ntmps61
 go_wp2_with fail
 refine (appendText_c base v l0 s w HO.out (by have := HL.out; omega) HX.out HB.out).mono ?_
 rintro e w1 ha
 obtain ⟨v1, rfl, ho1, hb1, hs1⟩ := ha.app HO.out HB.out
 have HO1 := hide ho1;have HB1 := hide hb1;clear ha ho1 hb1 hs1
 go_wp2_with fail
 go_ret
 exact ⟨_, rfl, HO1.out, HB1.out, HB1.out.size⟩
end
end
end Go.Proofs.Ytpbgelhjbfckcaa
