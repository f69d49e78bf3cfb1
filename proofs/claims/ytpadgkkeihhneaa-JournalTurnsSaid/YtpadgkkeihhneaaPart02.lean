/- AppendNumber. -/
import Derived.Test.YtpadgkkeihhneaaPart01
import Derived.Lib.AppendStr
import Derived.Laws.BitsAllLaws
import Derived.Deep.DeepCutAuto
import Derived.WalkSpells
namespace Go.Proofs.Ytpadgkkeihhneaa
set_option maxRecDepth 100000
set_option linter.unusedSimpArgs false
set_option linter.unusedVariables false
open Go.ChangeShapes Go.WideShapes Go.ChangeAt Go.RowKit
set_option linter.unusedVariables false

/-- What AppendNumber's loop keeps. -/
def NumR (w : World) (base n : Nat) (r : List UInt8) (v0 : Value) (l : List UInt8) (v vi : Value) (wr : World) : Prop :=
  ∃ (j : Nat) (acc : List UInt8), j ≤ blen n ∧ vi = .int .i64 ((j : Int) - 1) ∧ Ow wr base v acc ∧ acc ++ dig j n = r ∧ w.grownBy wr v0.ownBlock ∧ (v.ownBlock = v0.ownBlock ∨ ∃ g, v.ownBlock = some g ∧ w.heap.size ≤ g) ∧ Ow wr base v0 l ∧ l.length ≤ acc.length

set_option maxHeartbeats 1000000 in
theorem appendNumber_c (base : Nat) (v : Value) (l : List UInt8) (n : Nat) (hn : n < 2 ^ 64) (w : World) (h : Ow w base v l) (hl : l.length ≤ 70368744177664) (hbase : base ≤ w.heap.size) :
    Calls Try.prog 25 #[v, .int .u64 n] w (Appends w base v l (enc n)) := by
  have HB := hide hbase
  have HN := hide hn
  have hk := blen_le 8 n (by omega)
  have hbl := bitLen_bytes n
  have hb64 : bitLen n ≤ 64 := by omega
  have hq : ((bitLen n : Int) + 7) / 8 = (blen n : Int) := by omega
  have HV : Hid (v.ownBlock ≠ some w.heap.size) := by
    unfold Hid; intro hv; have := (h.lt _ hv).2; omega
  obtain ⟨A, c, rfl, _, _⟩ := h.form
  have H := hide h
  have HL := hide hl
  have HL1 : Hid (l.length + [UInt8.ofNat (blen n)].length ≤ 140737488355328) := by unfold Hid; simp; omega
  clear h hl hbase hn hbl
  go_enter Try.func25, Try.ntmps25
  go_wp2_with fail
  refine (len64_c n _ HN.out).mono ?_
  rintro e w1 ⟨rfl, rfl⟩
  have HO : Hid ((#[.int .u8 (blen n : Int)] : Array Value).toList = ([UInt8.ofNat (blen n)]).map bv) := by
    unfold Hid; simp only [List.map_cons, List.map_nil, bv, u8]; rw [UInt8.toNat_ofNat', Nat.mod_eq_of_lt (by omega)]
  go_wp2_with (at_builtin; refine wpList_append_bk rfl _ _ rfl base rfl (H.out.alloc _) rfl (Ow.made (base := w1.heap.size) [UInt8.ofNat (blen n)] _ HO.out (Nat.le_refl _) (by simp [maxLen])).bs HL1.out (by have := HB.out; simp; omega) ?_; intro v1 w3 how hol hg hw)
  have hg1 := grown_pre hg HV.out
  have hv1 : v1.ownBlock = (Value.slice A l.length c).ownBlock ∨ ∃ g, v1.ownBlock = some g ∧ w1.heap.size ≤ g := by
    rcases hw with hw | hw
    · exact .inl hw
    · exact .inr ⟨_, hw, by simp⟩
  have hst : (l ++ [UInt8.ofNat (blen n)]) ++ dig (blen n) n = l ++ enc n := by simp [enc]
  clear hg hw hq hb64
  generalize hr : l ++ enc n = r at *
  have HR : Hid (r.length ≤ 70368744177673) := by unfold Hid; rw [← hr]; unfold enc; simp [dig_len]; have := HL.out; omega
  have HQ := hide hr
  clear hr
  generalize l.length = ln at *
  have HLL : Hid (l.length ≤ (l ++ [UInt8.ofNat (blen n)]).length) := by unfold Hid; simp
  go_loopw [0, 6] (fun v i wr => NumR w1 base n r (Value.slice A ln c) l v i wr) (fun _ i _ => (intOf i + 1).toNat)
  case atStart => exact ⟨blen n, _, Nat.le_refl _, rfl, how, hst, hg1, hv1, hol, HLL.out⟩
  case round =>
    clear how hg1 hv1 hst hol HLL
    obtain ⟨j, acc, hj, rfl, ho, he, hg, hv, hkl, hla⟩ := hrel
    obtain ⟨A', c', rfl, _, _⟩ := ho.form
    by_cases h0 : j = 0
    · subst h0
      have he2 : acc = r := by simpa [dig] using he
      subst he2
      have HO := hide ho
      have HG := hide hg
      have HKL := hide hkl
      have HV2 := hide hv
      clear ho hg hv he hkl hla
      go_wp2_with fail
      go_ret
      exact ⟨_, rfl, by rw [HQ.out]; exact HO.out, HKL.out, HG.out, HV2.out⟩
    · obtain ⟨i, rfl⟩ : ∃ i, j = i + 1 := ⟨j - 1, by omega⟩
      rw [dig_succ] at he
      have hi : ((i + 1 : Nat) : Int) - 1 = (i : Int) := by omega
      rw [hi]
      have hi8 : i < 8 := by omega
      have HO := hide ho
      have HG := hide hg
      have HE := hide he
      have HV2 := hide hv
      have HKL := hide hkl
      have HLA := hide hla
      clear ho hg he hv hkl hla
      have HO2 : Hid ((#[.int .u8 ((n : Int) / 2 ^ (8 * i) % 256)] : Array Value).toList = ([UInt8.ofNat (n / 256 ^ i % 256)]).map bv) := by
        unfold Hid; simp only [List.map_cons, List.map_nil, bv]
        rw [← byte_mod, show 256 ^ i = 2 ^ (8 * i) from by rw [Nat.pow_mul]]
        simp
      have HL2 : Hid (acc.length + [UInt8.ofNat (n / 256 ^ i % 256)].length ≤ 140737488355328) := by
        have h1 := congrArg List.length HE.out
        have h2 := HR.out
        simp only [List.length_append, List.length_cons] at h1
        unfold Hid; simp only [List.length_cons, List.length_nil]; omega
      have HS := hide HG.out.size
      go_wp2_with (at_builtin; refine wpList_append_bk rfl _ _ rfl base rfl (HO.out.alloc _) rfl (Ow.made (base := wr.heap.size) [UInt8.ofNat (n / 256 ^ i % 256)] _ HO2.out (Nat.le_refl _) (by simp [maxLen])).bs HL2.out (by have := HB.out; have := HS.out; simp; omega) ?_; intro v4 w4 how hol4 hg4 hw4)
      have hlt : ∀ k, (Value.slice A' acc.length c').ownBlock = some k → k < wr.heap.size := fun k hk => (HO.out.lt k hk).2
      have hgn := grown_pre hg4 (fun e => by have := hlt _ e; omega)
      have hgw := grown_next HG.out hgn HV2.out
      have hvv : v4.ownBlock = (Value.slice A ln c).ownBlock ∨ ∃ g, v4.ownBlock = some g ∧ w1.heap.size ≤ g := by
        rcases hw4 with hw4 | hw4
        · rw [hw4]; exact HV2.out
        · exact .inr ⟨_, hw4, by have := HS.out; simp; omega⟩
      have hen : (acc ++ [UInt8.ofNat (n / 256 ^ i % 256)]) ++ dig i n = r := by rw [← HE.out]; simp
      have hold := HKL.out.alloc (.cells #[.int .u8 ((n : Int) / 2 ^ (8 * i) % 256)] 5)
      have hkk : Ow w4 base (Value.slice A ln c) l := Ow.later (fun g hg => (H.out.lt g hg).2) hold (HO.out.alloc _) hol4 hg4 HV2.out HLA.out
      have hlx : l.length ≤ (acc ++ [UInt8.ofNat (n / 256 ^ i % 256)]).length := by have := HLA.out; simp; omega
      clear hold
      go_roundw
      case rel => exact ⟨i, _, by omega, rfl, how, hen, hgw, hvv, hkk, hlx⟩
      case measure => simp [intOf]
end Go.Proofs.Ytpadgkkeihhneaa
/- AppendInt. -/
namespace Go.Proofs.Ytpadgkkeihhneaa
set_option maxRecDepth 100000
set_option linter.unusedSimpArgs false
set_option linter.unusedVariables false
open Go.ChangeShapes Go.WideShapes Go.ChangeAt Go.RowKit
set_option linter.unusedVariables false

def zig (i : Int) : Nat := if 0 ≤ i then (2 * i).toNat else (2 * (-(i + 1)) + 1).toNat

theorem zig_inj (i j : Int) (h : zig i = zig j) : i = j := by unfold zig at h; split at h <;> split at h <;> omega
theorem zig_lt (i : Int) (h0 : -9223372036854775808 ≤ i) (h1 : i ≤ 9223372036854775807) : zig i < 2 ^ 64 := by unfold zig; split <;> omega
theorem zig_bits (i : Int) (h0 : -9223372036854775808 ≤ i) (h1 : i ≤ 9223372036854775807) : bits BinOp.xor IntKind.u64 (IntKind.u64.wrap (IntKind.u64.wrap i * 2)) (IntKind.u64.wrap (i / 9223372036854775808)) = (zig i : Int) := by
  show IntKind.u64.wrap ((BitVec.ofInt 64 (IntKind.u64.wrap (IntKind.u64.wrap i * 2)) ^^^ BitVec.ofInt 64 (IntKind.u64.wrap (i / 9223372036854775808))).toNat : Int) = _
  have hw : ∀ z : Int, IntKind.u64.wrap z = z % 18446744073709551616 := fun z => by simp [IntKind.wrap, IntKind.signed, IntKind.bits]
  rw [hw, hw, hw, hw]
  by_cases hi : 0 ≤ i
  · have e1 : i / 9223372036854775808 = 0 := by omega
    have e2 : i % 18446744073709551616 * 2 % 18446744073709551616 = ((2 * i).toNat : Int) := by omega
    rw [e1, e2, BitVec.ofInt_natCast, show BitVec.ofInt 64 (0 % 18446744073709551616) = 0#64 from rfl, BitVec.xor_zero, BitVec.toNat_ofNat]
    unfold zig
    rw [if_pos hi]
    omega
  · have e1 : i / 9223372036854775808 = -1 := by omega
    have e2 : i % 18446744073709551616 * 2 % 18446744073709551616 = ((2 * i + 18446744073709551616).toNat : Int) := by omega
    rw [e1, e2, BitVec.ofInt_natCast, show BitVec.ofInt 64 (-1 % 18446744073709551616) = BitVec.allOnes 64 from rfl, BitVec.xor_allOnes, BitVec.toNat_not, BitVec.toNat_ofNat]
    unfold zig
    rw [if_neg hi]
    omega

end Go.Proofs.Ytpadgkkeihhneaa
/- append(b, s...), s a string; AppendText. -/
namespace Go.Proofs.Ytpadgkkeihhneaa
set_option maxRecDepth 100000
set_option linter.unusedSimpArgs false
set_option linter.unusedVariables false
open Go.ChangeShapes Go.WideShapes Go.ChangeAt Go.RowKit
set_option linter.unusedVariables false

theorem strCells_bv (s : ByteArray) : Lib.strCells s = s.data.toList.map bv := rfl

theorem run_append_str_keep {w : World} (base : Nat) (ty : TypeId) {v : Value} {l : List UInt8} (s : ByteArray) (hv : Ow w base v l) (hlen : l.length + s.size ≤ 140737488355328) (hbase : base ≤ w.heap.size)
    {v' : Value} {w' : World} (hr : (Builtin.append_ #[59, 9] ty #[v, .string s]).run Try.prog w = .ok v' w') : Ow w' base v l ∧ (v'.ownBlock = v.ownBlock ∨ ∃ g, v'.ownBlock = some g ∧ w.heap.size ≤ g) := by
  obtain ⟨i0, hi0, hz0, hz1, hz2⟩ := info_parts info_u8
  have hv0 := hv
  obtain ⟨hl, ⟨rfl, h0⟩ | ⟨g, cap, cur, rfl, hg, hh, hn, hm, hs, ht⟩⟩ := hv
  · have : l = [] := List.eq_nil_of_length_eq_zero h0
    subst this
    refine ⟨Ow.nil _ _, ?_⟩
    by_cases h1 : s.size = 0
    · have hc : Lib.strCells s = [] := List.eq_nil_of_length_eq_zero (by rw [Lib.strCells_length]; exact h1)
      have hf := Lib.run_firstCells_string (P := Try.prog) w 1 s
      rw [h1] at hf
      have hst : (Builtin.append_ #[59, 9] ty #[.slice none 0 0, .string s]).run Try.prog w = .ok (.slice none 0 0) w := by
        simp [Builtin.append_, run_underlying Try.underlying59, run_underlying Try.underlying9, sizeOf, typeInfo, hi0, hz1, Builtin.lenOf, h1, hf]
      rw [hst] at hr
      injection hr with e1 _
      rw [← e1]; exact .inl rfl
    · have h4 := run_append_nil_string (P := Try.prog) w 59 9 ty 5 i0 (.int .u8 0) Try.underlying59 Try.underlying9 hi0 hz0 s (by omega) (by omega) (by rw [hz2]; omega)
      rw [h4] at hr
      injection hr with e1 _
      rw [← e1]; exact .inr ⟨_, rfl, Nat.le_refl _⟩
  · rw [Nat.mul_one] at hs ht
    by_cases hroom : l.length + s.size ≤ cap
    · have h4 := Lib.run_append_room_string (P := Try.prog) w 59 9 ty 5 i0 Try.underlying59 Try.underlying9 hi0 hz1 g l.length cap cur hh s hroom (by omega)
      rw [h4] at hr
      injection hr with e1 e2
      rw [← e1, ← e2]
      refine ⟨⟨hl, .inr ⟨g, cap, _, rfl, hg, setRow_heap w g cur _ _ _ hh, hn, hm, ?_, ?_⟩⟩, .inl rfl⟩
      · simp only [Nat.mul_one, List.size_toArray, List.length_append, List.length_take, List.length_drop, Array.length_toList, Lib.strCells_length]
        omega
      · rw [Nat.mul_one, List.append_assoc, List.take_append_of_le_length (by have hcl := Array.length_toList (xs := cur); rw [List.length_take]; omega), List.take_take, Nat.min_self]
        exact ht
    · have h4 := Lib.run_append_grow_string (P := Try.prog) w 59 9 ty 5 i0 (.int .u8 0) Try.underlying59 Try.underlying9 hi0 hz0 ⟨g, 0, none⟩ l.length cap (l.map bv) (by simp [hz1]) (World.ownsRow.cells hv0 (g := g) rfl) s (by omega) (by omega) (by rw [hz2]; exact growslice_fits (by omega) (by omega))
      rw [h4] at hr
      injection hr with e1 e2
      rw [← e1, ← e2]
      exact ⟨Ow.alloc (Ow.drew hv0) _, .inr ⟨_, rfl, Nat.le_refl _⟩⟩

theorem wpList_append_str {ops : Array Oper} {rest : List Oper} {o : Oper} {a : Act} {w : World} {Q : Exit → Act → World → Prop} (hgd : o.guard = none) (s x : Operand)
    (ho : o.op = .call { callee := .builtin .append, args := #[s, x], argTypes := #[59, 9] }) (base : Nat) {v : Value} {l : List UInt8} {t : ByteArray}
    (hs : a.eval s = v) (hv : Ow w base v l) (hx : a.eval x = .string t) (hlen : l.length + t.size ≤ 140737488355328) (hbase : base ≤ w.heap.size)
    (h : ∀ v' w', Ow w' base v' (l ++ t.data.toList) → Ow w' base v l → w.grownBy w' v.ownBlock → (v'.ownBlock = v.ownBlock ∨ ∃ g, v'.ownBlock = some g ∧ w.heap.size ≤ g) → wpList Try.prog ops Q rest (a.put o.dst v') w') : wpList Try.prog ops Q (o :: rest) a w := by
  refine wpList_plain hgd fun K hK => ?_
  obtain ⟨i0, hi0, hz0, hz1, hz2⟩ := info_parts info_u8
  obtain ⟨v', w', h0, h1, h2, _⟩ := Lib.run_append_own_string (P := Try.prog) w base 59 9 o.type 5 i0 Try.underlying59 Try.underlying9 hi0 hz0 hz1 hz2 v l.length (l.map bv) hv t (by unfold maxLen; omega) hlen hbase
  obtain ⟨hk, hx2⟩ := run_append_str_keep base o.type t hv hlen hbase h0
  have hl : l.length + t.size = (l ++ t.data.toList).length := by rw [List.length_append]; rfl
  have h1' : Ow w' base v' (l ++ t.data.toList) := by
    unfold Ow
    rw [← hl, List.map_append, ← strCells_bv]
    exact h1
  unfold Oper.wp execOp
  simp only [ho, resolve, invoke, builtin, Sem.run_bind, Sem.run_pure, Result.andThen_ok, List.map_toArray, List.map_cons, List.map_nil, hs, hx, h0]
  exact hK _ _ (h v' w' h1' hk h2 hx2)

/-- A text's encoding. -/
def encT (s : ByteArray) : List UInt8 := enc s.size ++ s.data.toList

set_option maxHeartbeats 1000000 in
theorem appendText_c (base : Nat) (v : Value) (l : List UInt8) (s : ByteArray) (w : World) (h : Ow w base v l) (hl : l.length ≤ 35184372088832) (hs : s.size ≤ 35184372088832) (hbase : base ≤ w.heap.size) :
    Calls Try.prog 53 #[v, .string s] w (Appends w base v l (encT s)) := by
  obtain ⟨A, c, rfl, _, _⟩ := h.form
  have H := hide h
  have hb := blen_le 8 s.size (by omega)
  have HL : Hid ((l ++ enc s.size).length + s.size ≤ 140737488355328) := by unfold Hid enc; simp [dig_len]; omega
  clear h
  go_enter Try.func53, Try.ntmps53
  go_wp2_with fail
  refine (appendNumber_c base _ l s.size (by omega) _ H.out (by omega) hbase).mono ?_
  rintro e w1 ⟨v1, rfl, ho, hol, hg, hv⟩
  have HO := hide ho
  have HOL := hide hol
  have HG := hide hg
  have HV := hide hv
  have HB : Hid (base ≤ w1.heap.size) := hide (Nat.le_trans hbase hg.size)
  clear ho hg hol hv
  go_wp2_with (at_builtin; refine wpList_append_str rfl _ _ rfl base rfl HO.out rfl HL.out HB.out ?_; intro v2 w2 ho2 hol2 hg2 hv2)
  go_ret
  exact ⟨v2, rfl, by rw [encT, ← List.append_assoc]; exact ho2, Ow.later (fun g hg => (H.out.lt g hg).2) HOL.out HO.out hol2 hg2 HV.out (by simp), grown_next HG.out hg2 HV.out, own_next HG.out.size HV.out hv2⟩
end Go.Proofs.Ytpadgkkeihhneaa
/- CRC-32 in plain Lean: one bit's step, a byte's step, the table, sums; they are linear. -/
namespace Go.Proofs.Ytpadgkkeihhneaa
set_option maxRecDepth 100000
set_option linter.unusedSimpArgs false
set_option linter.unusedVariables false
set_option linter.unusedVariables false

/-- One step of the register. -/
def st (x : BitVec 32) : BitVec 32 := if x &&& 1#32 = 1#32 then (x >>> 1) ^^^ 3988292384#32 else x >>> 1
def stN : Nat → BitVec 32 → BitVec 32
  | 0, x => x
  | n + 1, x => stN n (st x)
/-- A byte as a register. -/
def ext (c : UInt8) : BitVec 32 := c.toBitVec.setWidth 32
def reg (r : BitVec 32) (l : List UInt8) : BitVec 32 := l.foldl (fun r c => stN 8 (r ^^^ ext c)) r
def upd (s : BitVec 32) (l : List UInt8) : BitVec 32 := ~~~ (reg (~~~ s) l)
def tab (i : Nat) : BitVec 32 := stN 8 (BitVec.ofNat 32 i)

theorem stN_add (m n : Nat) (x : BitVec 32) : stN (m + n) x = stN n (stN m x) := by
  induction m generalizing x with
  | zero => simp [stN]
  | succ m ih => rw [Nat.succ_add]; simp only [stN]; exact ih _
theorem stN_succ (n : Nat) (x : BitVec 32) : stN (n + 1) x = st (stN n x) := by rw [stN_add]; rfl

theorem and_one (x : BitVec 32) : (x &&& 1#32 = 1#32) ↔ x.getLsbD 0 = true := by
  constructor
  · intro h
    have := congrArg (fun y => y.getLsbD 0) h
    simpa using this
  · intro h
    apply BitVec.eq_of_getLsbD_eq
    intro i hi
    rw [BitVec.getLsbD_and]
    cases i with
    | zero => simpa using h
    | succ i =>
      have : (1#32).getLsbD (i + 1) = false := by
        rw [BitVec.getLsbD_one]; simp
      rw [this]; simp
theorem st_def (x : BitVec 32) : st x = if x.getLsbD 0 then (x >>> 1) ^^^ 3988292384#32 else x >>> 1 := by
  unfold st
  by_cases h : x.getLsbD 0 = true
  · rw [if_pos ((and_one x).2 h), if_pos h]
  · rw [if_neg (fun e => h ((and_one x).1 e)), if_neg h]
theorem ushr_xor (a b : BitVec 32) (n : Nat) : (a ^^^ b) >>> n = (a >>> n) ^^^ (b >>> n) := by
  apply BitVec.eq_of_getLsbD_eq
  intro i hi
  simp
theorem st_xor (a b : BitVec 32) : st (a ^^^ b) = st a ^^^ st b := by
  rw [st_def, st_def, st_def, ushr_xor, BitVec.getLsbD_xor]
  generalize a >>> 1 = x
  generalize b >>> 1 = y
  generalize 3988292384#32 = p
  cases a.getLsbD 0 <;> cases b.getLsbD 0 <;> simp
  · rw [BitVec.xor_assoc]
  · rw [BitVec.xor_assoc, BitVec.xor_assoc, BitVec.xor_comm y p]
  · rw [show x ^^^ p ^^^ (y ^^^ p) = (x ^^^ y) ^^^ (p ^^^ p) from by rw [BitVec.xor_assoc, BitVec.xor_assoc, ← BitVec.xor_assoc p y p, BitVec.xor_comm p y, BitVec.xor_assoc y p p], BitVec.xor_self, BitVec.xor_zero]
theorem stN_xor (n : Nat) (a b : BitVec 32) : stN n (a ^^^ b) = stN n a ^^^ stN n b := by
  induction n generalizing a b with
  | zero => rfl
  | succ n ih => simp only [stN]; rw [st_xor, ih]
theorem st_zero : st 0#32 = 0#32 := by decide
theorem stN_zero (n : Nat) : stN n 0#32 = 0#32 := by
  induction n with
  | zero => rfl
  | succ n ih => simp only [stN, st_zero]; exact ih
theorem st_inj0 (x : BitVec 32) (h : st x = 0#32) : x = 0#32 := by
  rw [st_def] at h
  by_cases h0 : x.getLsbD 0 = true
  · rw [if_pos h0] at h
    have h31 := congrArg (fun y => y.getLsbD 31) h
    simp at h31
  · rw [if_neg h0] at h
    apply BitVec.eq_of_getLsbD_eq
    intro i hi
    cases i with
    | zero => simpa using h0
    | succ i =>
      have hb := congrArg (fun y => y.getLsbD i) h
      simp at hb
      rw [Nat.add_comm] at hb
      simpa using hb
theorem stN_inj0 (n : Nat) (x : BitVec 32) (h : stN n x = 0#32) : x = 0#32 := by
  induction n generalizing x with
  | zero => exact h
  | succ n ih => exact st_inj0 x (ih _ h)
theorem xor_self_zero {a b : BitVec 32} (h : a ^^^ b = 0#32) : a = b := by
  have := congrArg (· ^^^ b) h
  simpa [BitVec.xor_assoc] using this
theorem stN_inj (n : Nat) {a b : BitVec 32} (h : stN n a = stN n b) : a = b := by
  apply xor_self_zero
  apply stN_inj0 n
  rw [stN_xor, h, BitVec.xor_self]

/-- What has no low bits is only shifted. -/
theorem stN_high (n : Nat) (x : BitVec 32) (h : ∀ i, i < n → x.getLsbD i = false) : stN n x = x >>> n := by
  induction n generalizing x with
  | zero => simp [stN]
  | succ n ih =>
    have hs : st x = x >>> 1 := by rw [st_def, if_neg (by rw [h 0 (by omega)]; simp)]
    simp only [stN]
    rw [hs, ih]
    · rw [Nat.add_comm]; exact (BitVec.shiftRight_add x 1 n).symm
    · intro i hi
      rw [BitVec.getLsbD_ushiftRight]
      exact h (1 + i) (by omega)
/-- The table's step. -/
theorem table_step (x : BitVec 32) (c : UInt8) : (x >>> 8) ^^^ tab (x.setWidth 8 ^^^ c.toBitVec).toNat = stN 8 (x ^^^ ext c) := by
  have hx : x = (x >>> 8 <<< 8) ^^^ (x.setWidth 8).setWidth 32 := by
    apply BitVec.eq_of_getLsbD_eq
    intro i hi
    rw [BitVec.getLsbD_xor, BitVec.getLsbD_shiftLeft, BitVec.getLsbD_ushiftRight, BitVec.getLsbD_setWidth, BitVec.getLsbD_setWidth]
    by_cases h8 : i < 8
    · simp [h8, hi]
    · simp [h8, hi, show 8 + (i - 8) = i by omega]
  have ht : BitVec.ofNat 32 (x.setWidth 8 ^^^ c.toBitVec).toNat = (x.setWidth 8).setWidth 32 ^^^ ext c := by
    unfold ext
    apply BitVec.eq_of_toNat_eq
    generalize x.setWidth 8 = y
    have h1 := y.isLt
    have h2 := c.toBitVec.isLt
    rw [BitVec.toNat_ofNat, BitVec.toNat_xor, BitVec.toNat_xor, BitVec.toNat_setWidth 32 y, BitVec.toNat_setWidth 32 c.toBitVec]
    rw [Nat.mod_eq_of_lt (by omega : y.toNat < 2 ^ 32), Nat.mod_eq_of_lt (by omega : c.toBitVec.toNat < 2 ^ 32)]
    exact Nat.mod_eq_of_lt (Nat.lt_of_lt_of_le (Nat.xor_lt_two_pow h1 h2) (by decide))
  have hh : stN 8 (x >>> 8 <<< 8) = x >>> 8 := by
    rw [stN_high]
    · apply BitVec.eq_of_getLsbD_eq
      intro i hi
      simp only [BitVec.getLsbD_ushiftRight, BitVec.getLsbD_shiftLeft]
      by_cases h : 8 + i < 32
      · simp [h]
      · simp [h]
        exact BitVec.getLsbD_of_ge x _ (by omega)
    · intro i hi
      simp [BitVec.getLsbD_shiftLeft, hi]
  unfold tab
  rw [ht]
  conv => rhs; rw [hx]
  rw [BitVec.xor_assoc, stN_xor 8 (x >>> 8 <<< 8), hh]

theorem reg_cons (r : BitVec 32) (c : UInt8) (l : List UInt8) : reg r (c :: l) = reg (stN 8 (r ^^^ ext c)) l := rfl
theorem reg_append (r : BitVec 32) (a b : List UInt8) : reg r (a ++ b) = reg (reg r a) b := by unfold reg; rw [List.foldl_append]
theorem reg_snoc (r : BitVec 32) (l : List UInt8) (c : UInt8) : reg r (l ++ [c]) = stN 8 (reg r l ^^^ ext c) := by rw [reg_append]; rfl
theorem reg_take_succ (r : BitVec 32) (l : List UInt8) (k : Nat) (x : UInt8) (h : l[k]? = some x) : reg r (l.take (k + 1)) = stN 8 (reg r (l.take k) ^^^ ext x) := by
  rw [List.take_add_one, h]
  exact reg_snoc _ _ _
theorem ext_xor (a b : UInt8) : ext (a ^^^ b) = ext a ^^^ ext b := by
  unfold ext
  apply BitVec.eq_of_getLsbD_eq
  intro i hi
  rw [BitVec.getLsbD_xor, BitVec.getLsbD_setWidth, BitVec.getLsbD_setWidth, BitVec.getLsbD_setWidth]
  show (decide (i < 32) && (a.toBitVec ^^^ b.toBitVec).getLsbD i) = _
  rw [BitVec.getLsbD_xor]
  simp [hi]
/-- Registers add up. -/
theorem reg_xor (a b : List UInt8) (h : a.length = b.length) (r s : BitVec 32) : reg (r ^^^ s) (List.zipWith (· ^^^ ·) a b) = reg r a ^^^ reg s b := by
  induction a generalizing b r s with
  | nil => cases b with | nil => rfl | cons y b => simp at h
  | cons x a ih =>
    cases b with
    | nil => simp at h
    | cons y b =>
      rw [List.zipWith_cons_cons, reg_cons, reg_cons, reg_cons, ext_xor, ← ih b (by simpa using h), ← stN_xor]
      rw [show r ^^^ s ^^^ (ext x ^^^ ext y) = r ^^^ ext x ^^^ (s ^^^ ext y) from by
        rw [BitVec.xor_assoc, BitVec.xor_assoc, ← BitVec.xor_assoc s, BitVec.xor_comm s (ext x), BitVec.xor_assoc]]
theorem not_xor_not (a b : BitVec 32) : ~~~ a ^^^ ~~~ b = a ^^^ b := by
  apply BitVec.eq_of_getLsbD_eq
  intro i hi
  simp [hi]
theorem zip_zero (d : List UInt8) : List.zipWith (· ^^^ ·) d (List.replicate d.length 0) = d := by
  induction d with
  | nil => rfl
  | cons x d ih => simp only [List.length_cons, List.replicate_succ, List.zipWith_cons_cons, ih]; congr 1; simp
/-- The law ChecksumLinear. -/
theorem linear_law (a b : List UInt8) (h : a.length = b.length) (n : Nat) (hn : a.length = n) :
    upd 0#32 a ^^^ upd 0#32 b = upd 0#32 (List.zipWith (· ^^^ ·) a b) ^^^ upd 0#32 (List.replicate n 0) := by
  unfold upd
  rw [not_xor_not, not_xor_not, ← reg_xor a b h, ← reg_xor _ _ (by rw [List.length_zipWith, List.length_replicate, ← hn, h]; simp), BitVec.xor_self]
  have hl : (List.zipWith (fun (x1 x2 : UInt8) => x1 ^^^ x2) a b).length = n := by rw [List.length_zipWith, ← hn, h]; simp
  have := zip_zero (List.zipWith (fun (x1 x2 : UInt8) => x1 ^^^ x2) a b)
  rw [hl] at this
  rw [this]
end Go.Proofs.Ytpadgkkeihhneaa
/- The walk's words on uint32 and uint8, where the numbers are bit vectors. -/
namespace Go.Proofs.Ytpadgkkeihhneaa
set_option maxRecDepth 100000
set_option linter.unusedSimpArgs false
set_option linter.unusedVariables false
open Go.RowKit
set_option linter.unusedVariables false

theorem ofInt_u32 (a : BitVec 32) : BitVec.ofInt 32 (a.toNat : Int) = a := by
  rw [BitVec.ofInt_natCast]; simp
theorem bits_u32 (f : BitVec 32 → BitVec 32 → BitVec 32) (op : BinOp) (hop : ∀ x y : Int, bits op .u32 x y = IntKind.u32.wrap ((f (BitVec.ofInt 32 x) (BitVec.ofInt 32 y)).toNat : Int)) (a b : BitVec 32) :
    bits op .u32 (a.toNat : Int) (b.toNat : Int) = ((f a b).toNat : Int) := by
  rw [hop, ofInt_u32, ofInt_u32]
  have := (f a b).isLt
  rw [IntKind.wrap_u32]; omega
/-- A register as a number, kept whole by the walk. -/
def u32 (x : BitVec 32) : Int := (x.toNat : Int)
theorem u32_lt (a : BitVec 32) : 0 ≤ u32 a ∧ u32 a ≤ 4294967295 := by unfold u32; have := a.isLt; omega
theorem u32_inj {a b : BitVec 32} (h : u32 a = u32 b) : a = b := by unfold u32 at h; apply BitVec.eq_of_toNat_eq; omega
theorem u32_xor (a b : BitVec 32) : bits .xor .u32 (u32 a) (u32 b) = u32 (a ^^^ b) := bits_u32 (· ^^^ ·) .xor (fun _ _ => rfl) a b
theorem u32_poly (a : BitVec 32) : bits .xor .u32 (u32 a) 3988292384 = u32 (a ^^^ 3988292384#32) := u32_xor a 3988292384#32
theorem u32_not (a : BitVec 32) : bits .xor .u32 IntKind.u32.max (u32 a) = u32 (~~~ a) := by
  have h := u32_xor (BitVec.allOnes 32) a
  rw [show (BitVec.allOnes 32 ^^^ a) = ~~~ a from by rw [BitVec.allOnes_xor]] at h
  exact h
theorem u32_and1 (a : BitVec 32) : bits .and .u32 (u32 a) 1 = u32 (a &&& 1#32) := bits_u32 (· &&& ·) .and (fun _ _ => rfl) a 1#32
theorem u32_shr (a : BitVec 32) (n k : Nat) (hk : k = 2 ^ n) : u32 a / (k : Int) = u32 (a >>> n) := by
  unfold u32
  rw [BitVec.toNat_ushiftRight, Nat.shiftRight_eq_div_pow, hk]; rfl
theorem u32_shr1 (a : BitVec 32) : u32 a / (2 : Int) = u32 (a >>> 1) := u32_shr a 1 2 rfl
theorem u32_shr8 (a : BitVec 32) : u32 a / (256 : Int) = u32 (a >>> 8) := u32_shr a 8 256 rfl
theorem u32_shr16 (a : BitVec 32) : u32 a / (65536 : Int) = u32 (a >>> 16) := u32_shr a 16 65536 rfl
theorem u32_shr24 (a : BitVec 32) : u32 a / (16777216 : Int) = u32 (a >>> 24) := u32_shr a 24 16777216 rfl
/-- The low byte. -/
def lo8 (a : BitVec 32) : UInt8 := ⟨a.setWidth 8⟩
theorem u32_lo (a : BitVec 32) : u32 a % 256 = u8 (lo8 a) := by
  show _ = (((a.setWidth 8).toNat : Nat) : Int)
  unfold u32
  rw [BitVec.toNat_setWidth]; omega
theorem u8_ext (c : UInt8) : u8 c % 4294967296 = u32 (ext c) := by
  unfold ext u32 u8
  rw [BitVec.toNat_setWidth]
  have : c.toBitVec.toNat = c.toNat := rfl
  omega
theorem ofInt_u8 (a : UInt8) : BitVec.ofInt 8 (a.toNat : Int) = a.toBitVec := by
  rw [BitVec.ofInt_natCast]; show BitVec.ofNat 8 a.toBitVec.toNat = _; simp
theorem u8_xor (a b : UInt8) : bits .xor .u8 (u8 a) (u8 b) = u8 (a ^^^ b) := by
  show IntKind.u8.wrap ((BitVec.ofInt 8 (a.toNat : Int) ^^^ BitVec.ofInt 8 (b.toNat : Int)).toNat : Int) = ((a ^^^ b).toNat : Int)
  rw [ofInt_u8, ofInt_u8]
  have h : ((a ^^^ b).toNat : Nat) = (a.toBitVec ^^^ b.toBitVec).toNat := rfl
  rw [h]
  have := (a.toBitVec ^^^ b.toBitVec).isLt
  rw [IntKind.wrap_u8]; omega
theorem u32_one (a : BitVec 32) : (u32 (a &&& 1#32) == 1) = (a &&& 1#32 == 1#32) := by
  rw [Bool.eq_iff_iff]
  simp only [beq_iff_eq]
  constructor
  · intro h
    exact u32_inj h
  · intro h
    rw [h]; rfl
end Go.Proofs.Ytpadgkkeihhneaa
/- Package checksum and its reference, function by function (Sum, Update, table, register). -/
namespace Go.Proofs.Ytpadgkkeihhneaa
set_option maxRecDepth 100000
set_option linter.unusedSimpArgs false
set_option linter.unusedVariables false
open Go.ChangeShapes Go.WideShapes Go.ChangeAt Go.RowKit
set_option linter.unusedVariables false
attribute [local go_sem] u32_xor u32_and1 u32_poly u32_not u32_shr1 u32_shr8 u32_lo u8_ext u8_xor

theorem st_pos {x : BitVec 32} (h : x &&& 1#32 = 1#32) : st x = (x >>> 1) ^^^ 3988292384#32 := if_pos h
theorem st_neg {x : BitVec 32} (h : ¬ x &&& 1#32 = 1#32) : st x = x >>> 1 := if_neg h

/-! ### The table -/
/-- The table's block when k entries are filled. -/
@[irreducible] def tabTo (k : Nat) : Array Value := Array.ofFn (n := 256) fun i => .int .u32 (if i.val < k then (u32 (tab i.val)) else 0)
theorem tabTo_size (k : Nat) : (tabTo k).size = 256 := by unfold tabTo; simp
theorem tabTo_get (k i : Nat) (hi : i < 256) : (tabTo k)[i]? = some (.int .u32 (if i < k then (u32 (tab i)) else 0)) := by
  unfold tabTo
  rw [Array.getElem?_ofFn, dif_pos hi]
theorem tabTo_succ (k : Nat) (hk : k < 256) : (tabTo k).setIfInBounds k (.int .u32 (u32 (tab k))) = tabTo (k + 1) := by
  apply Array.ext_getElem?
  intro i
  rw [Array.getElem?_setIfInBounds]
  by_cases hi : i < 256
  · rw [tabTo_get k i hi, tabTo_get (k + 1) i hi]
    by_cases he : k = i
    · subst he
      rw [if_pos rfl, if_pos (by rw [tabTo_size]; exact hk), if_pos (by omega)]
    · rw [if_neg he]
      by_cases hl : i < k
      · rw [if_pos hl, if_pos (by omega)]
      · rw [if_neg hl, if_neg (by omega)]
  · rw [if_neg (by omega), Array.getElem?_eq_none (by rw [tabTo_size]; omega), Array.getElem?_eq_none (by rw [tabTo_size]; omega)]
theorem tabTo_one (k : Nat) : (tabTo k).all (·.oneCell') = true := by
  unfold tabTo
  rw [Array.all_eq_true]
  intro i hi
  simp [Value.oneCell']
/-- The table as a value's cells. -/
def tabAll : Array Value := tabTo 256
def tabZero : Array Value := tabTo 0
theorem zero_rep (w : World) : (zeroValue 109).run Try.prog w = .ok (.agg (Array.replicate 256 (.int .u32 0))) w := by kernel_rfl
theorem zero_tab (w : World) : (zeroValue 109).run Try.prog w = .ok (.agg tabZero) w := by
  have h : tabZero = Array.replicate 256 (.int .u32 0) := by
    unfold tabZero
    apply Array.ext_getElem?
    intro i
    by_cases hi : i < 256
    · rw [tabTo_get _ _ hi, Array.getElem?_replicate, if_pos hi]; simp
    · rw [Array.getElem?_eq_none (by rw [tabTo_size]; omega), Array.getElem?_eq_none (by simp; omega)]
  rw [h]
  exact zero_rep w
/-- A block written over from its beginning. -/
theorem Blk.over {w : World} {g : Nat} {t : TypeId} {old cs : Array Value} (h : Blk w g t old) (hs : cs.size = old.size) : Blk (w.setCells g 0 cs.toList) g t cs ∧ w.grownBy (w.setCells g 0 cs.toList) (some g) := by
  have key : ∀ (vs : List Value) (o : Nat) (w : World) (old : Array Value), Blk w g t old → ∃ new, Blk (w.setCells g o vs) g t new ∧ new.size = old.size ∧ (∀ j, new[j]? = if o ≤ j ∧ j < o + vs.length ∧ j < old.size then vs[j - o]? else old[j]?) ∧ w.grownBy (w.setCells g o vs) (some g) := by
    intro vs
    induction vs with
    | nil => intro o w old h; exact ⟨old, h, rfl, fun j => by rw [if_neg (by simp; omega)], grown_refl _ _⟩
    | cons v r ih =>
      intro o w old h
      obtain ⟨new, h1, h2, h3, h4⟩ := ih (o + 1) (w.setCell ⟨g, o, none⟩ v) _ (h.put o v)
      refine ⟨new, h1, by rw [h2]; simp, fun j => ?_, grown_trans (grown_set (grown_refl _ _) o v) h4⟩
      rw [h3]
      simp only [Array.size_setIfInBounds, List.length_cons]
      by_cases hj : j < old.size
      · by_cases ho : o = j
        · subst ho
          rw [if_neg (by omega), if_pos (by omega), Array.getElem?_setIfInBounds, if_pos rfl, if_pos hj]; simp
        · by_cases hr : o + 1 ≤ j ∧ j < o + 1 + r.length
          · rw [if_pos (by omega), if_pos (by omega), show j - o = (j - (o + 1)) + 1 from by omega, List.getElem?_cons_succ]
          · rw [if_neg (by omega), if_neg (by omega), Array.getElem?_setIfInBounds, if_neg ho]
      · rw [if_neg (by omega), if_neg (by omega), Array.getElem?_eq_none (by simp; omega), Array.getElem?_eq_none (by omega)]
  obtain ⟨new, h1, h2, h3, h4⟩ := key cs.toList 0 w old h
  have : new = cs := by
    apply Array.ext_getElem?
    intro j
    rw [h3]
    by_cases hj : j < cs.size
    · rw [if_pos (by simp; omega)]; simp
    · rw [if_neg (by simp; omega), Array.getElem?_eq_none (by omega), Array.getElem?_eq_none (by omega)]
  exact ⟨this ▸ h1, h4⟩
theorem Blk.there {w : World} {g : Nat} {t : TypeId} {cs : Array Value} (h : Blk w g t cs) {n : Nat} (hn : n = cs.size) : w.there g 0 n := fun j hj => by
  rw [Nat.zero_add]
  exact ⟨by rw [h.cell, Array.getElem?_eq_getElem (by omega)]; rfl, h.froz j⟩

theorem u32_ofNat (z : Int) (h0 : 0 ≤ z) (h : z < 256) : u32 (BitVec.ofNat 32 z.toNat) = z := by unfold u32; rw [BitVec.toNat_ofNat]; omega
theorem size_eq : tabAll.size = tabZero.size := (tabTo_size 256).trans (tabTo_size 0).symm
theorem size_info : (Try.prog.info? 109).map (·.size) = some 256 := by kernel_rfl
theorem size_tab : (Try.prog.info? 109).map (·.size) = some tabAll.size := size_info.trans (by rw [show tabAll.size = 256 from tabTo_size 256])

set_option maxHeartbeats 1000000 in
theorem table_c (w : World) : Calls Try.prog 69 #[] w fun e w' => e = .returned (.agg tabAll) ∧ Below w.heap.size w w' := by
  have hz := zero_tab
  go_enter Try.func69, Try.ntmps69
  go_wp2_with fail
  have h0 : Blk ((w.alloc (.cells tabZero 109)).alloc (.cells tabZero 109)) w.heap.size 109 tabZero := (Blk.new _ _ _).alloc _
  have h1 : Blk ((w.alloc (.cells tabZero 109)).alloc (.cells tabZero 109)) (w.heap.size + 1) 109 tabZero := by
    have := Blk.new (w.alloc (.cells tabZero 109)) 109 tabZero
    simpa using this
  have hb : Below w.heap.size w ((w.alloc (.cells tabZero 109)).alloc (.cells tabZero 109)) := by go_grown
  clear hz
  generalize (w.alloc (.cells tabZero 109)).alloc (.cells tabZero 109) = w1 at *
  have hg2 : w.heap.size ≤ w.heap.size + 1 := by omega
  have hne : w.heap.size ≠ w.heap.size + 1 := by omega
  generalize w.heap.size + 1 = g2 at *
  go_loopw [5] (fun i wr => ∃ z : Int, 0 ≤ z ∧ z ≤ 256 ∧ i = .int .i64 z ∧ Blk wr w.heap.size 109 tabZero ∧ Blk wr g2 109 (tabTo z.toNat) ∧ Below w.heap.size w wr) (fun i _ => (256 - intOf i).toNat)
  case atStart => exact ⟨0, by omega, by omega, rfl, h0, h1, hb⟩
  case round =>
    clear h0 h1 hb
    obtain ⟨z, hz0, hz1, rfl, h0, h1, hb⟩ := hrel
    by_cases hlt : z < 256
    · have hc : wr.cell? ⟨g2, z.toNat, none⟩ = some (.int .u32 0) := by rw [h1.cell, tabTo_get _ _ (by omega), if_neg (by omega)]
      have hf := h1.froz z.toNat
      have HT := hide (tabTo_succ z.toNat (by omega))
      have HK := hide (u32_ofNat z hz0 hlt)
      have H0 := hide h0
      have H1 := hide h1
      have HB := hide hb
      clear h0 h1 hb
      go_wp2_with fail
      have HC := hide hc
      have HF := hide hf
      have HZ := hide hlt
      have HZ1 := hide hz1
      clear hc hf hlt hz1
      go_loop [3, 10] (fun s j => ∃ m : Nat, m ≤ 8 ∧ j = .int .i64 m ∧ s = .int .u32 (u32 (stN m (BitVec.ofNat 32 z.toNat)))) (fun _ j => 8 - (intOf j).toNat)
      case atStart => exact ⟨0, Nat.zero_le _, rfl, by simp only [stN]; rw [HK.out]⟩
      case round =>
        obtain ⟨m, hm8, rfl, rfl⟩ := hrel
        have HS := hide (stN_succ m (BitVec.ofNat 32 z.toNat))
        by_cases hlt8 : m < 8
        · generalize stN m (BitVec.ofNat 32 z.toNat) = S at *
          by_cases hbit : S &&& 1#32 = 1#32
          · have hq : (u32 (S &&& 1#32) == 1) = true := by rw [u32_one]; simpa using hbit
            have HU := hide (st_pos hbit)
            clear hbit
            go_wp2_with fail
            go_round
            case rel => exact ⟨m + 1, by omega, by go_num, by rw [HS.out, HU.out, ← u32_poly, ← u32_shr1]⟩
            case measure => simp [intOf]; omega
          · have hq : (u32 (S &&& 1#32) == 1) = false := by rw [u32_one]; simpa using hbit
            have HU := hide (st_neg hbit)
            clear hbit
            go_wp2_with fail
            go_round
            case rel => exact ⟨m + 1, by omega, by go_num, by rw [HS.out, HU.out, ← u32_shr1]⟩
            case measure => simp [intOf]; omega
        · obtain rfl : m = 8 := by omega
          have hc := HC.out
          have hf := HF.out
          have hlt := HZ.out
          go_wp2_with fail
          go_roundw
          case rel =>
            refine ⟨z + 1, by omega, by omega, rfl, H0.out.far (p := ⟨g2, z.toNat, none⟩) hne _, ?_, HB.out.setCell (p := ⟨g2, z.toNat, none⟩) hg2 _⟩
            have := H1.out.put z.toNat (.int .u32 (u32 (tab z.toNat)))
            rw [HT.out] at this
            rw [show (z + 1).toNat = z.toNat + 1 from by omega]
            exact this
          case measure => simp [intOf]; omega
    · have h2 : Blk wr g2 109 tabAll := by
        have e : z.toNat = 256 := by omega
        rw [e] at h1
        exact h1
      clear h1
      have H0 := hide h0
      have HB := hide hb
      clear h0 hb
      go_upto_region 15 with fail
      go_step
      refine wpList_load_row rfl 109 _ rfl g2 rfl 109 tabAll (0, 0) _ h2 Try.underlying109 rfl size_tab ?_
      refine wpList_store_mid rfl 109 _ _ rfl w.heap.size 0 tabAll rfl rfl (H0.out.there size_eq) size_tab (tabTo_one 256) ?_
      obtain ⟨h3, h4⟩ := H0.out.over (cs := tabAll) size_eq
      have hb2 := below_grown HB.out h4 HB.out.size (Nat.le_refl _)
      generalize wr.setCells w.heap.size 0 tabAll.toList = w5 at *
      clear h4 h2
      go_step
      go_step
      go_step
      refine wp_ret ?_
      refine bodyPost_ret (results_cell_row rfl _ _ w.heap.size 109 tabAll (0, 0) _ rfl h3 Try.underlying109 rfl size_tab) rfl ⟨rfl, hb2⟩
end Go.Proofs.Ytpadgkkeihhneaa
/- Package checksum and its reference, function by function: Update, Sum. -/
namespace Go.Proofs.Ytpadgkkeihhneaa
set_option maxRecDepth 100000
set_option linter.unusedSimpArgs false
set_option linter.unusedVariables false
open Go.ChangeShapes Go.WideShapes Go.ChangeAt Go.RowKit
set_option linter.unusedVariables false
attribute [local go_sem] u32_xor u32_not

theorem lo_xor (x : BitVec 32) (c : UInt8) : bits .xor .u8 (u32 x % 256) (u8 c) = u8 (lo8 x ^^^ c) := by rw [u32_lo, u8_xor]
theorem step_spell (x : BitVec 32) (c : UInt8) : bits .xor .u32 (u32 x / 256) (u32 (tab (lo8 x ^^^ c).toNat)) = u32 (stN 8 (x ^^^ ext c)) := by
  rw [u32_shr8, u32_xor, ← table_step]
  rfl
theorem tab_cell {w : World} {g : Nat} (h : Blk w g 109 tabAll) (y : UInt8) : w.cell? ⟨g, (u8 y).toNat, none⟩ = some (.int .u32 (u32 (tab y.toNat))) := by
  have h1 : (u8 y).toNat = y.toNat := by unfold u8; omega
  have h2 := y.toNat_lt
  rw [h.cell, h1]
  exact (tabTo_get 256 y.toNat (by omega)).trans (by rw [if_pos (by omega)])

set_option maxHeartbeats 1000000 in
theorem update_c (s : BitVec 32) (v : Value) (l : List UInt8) (w : World) (h : Bs w v l) :
    Calls Try.prog 66 #[.int .u32 (u32 s), v] w fun e w' => e = .returned (.int .u32 (u32 (upd s l))) ∧ Below w.heap.size w w' := by
  obtain ⟨A, c, rfl, hc, hm⟩ := h.form
  generalize hn : l.length = n at *
  have Hn := hide hn
  clear hn
  have HZ := hide zero_tab
  go_enter Try.func66, Try.ntmps66
  go_wp2_with fail
  refine (table_c _).mono ?_
  rintro e w1 ⟨rfl, hb⟩
  have hz := HZ.out w1
  go_upto_region 2 with (first
    | (refine wpList_store_mid rfl 109 _ _ rfl w1.heap.size 0 tabAll rfl rfl ((Blk.new w1 109 tabZero).there size_eq) size_tab (tabTo_one 256) ?_))
  obtain ⟨h3, h4⟩ := (Blk.new w1 109 tabZero).over (cs := tabAll) size_eq
  have hb2 : Below w.heap.size w ((w1.alloc (.cells tabZero 109)).setCells w1.heap.size 0 tabAll.toList) := below_grown (hb.alloc hb.size _) h4 (by simp; have := hb.size; omega) hb.size
  have hm : bits BinOp.xor IntKind.u32 (if IntKind.u32.signed = true then -1 else IntKind.u32.max) (u32 s) = u32 (~~~ s) := u32_not s
  rw [hm]
  clear hm h4 hz
  generalize w1.heap.size = g at *
  generalize (w1.alloc (.cells tabZero 109)).setCells g 0 tabAll.toList = w2 at *
  have h2 := h.step hb2
  go_wp2_with fail
  go_loop [6, 14] (fun x i => ∃ k : Nat, k ≤ n ∧ i = .int .i64 k ∧ x = .int .u32 (u32 (reg (~~~ s) (l.take k)))) (fun _ i => n - (intOf i).toNat)
  case atStart => exact ⟨0, Nat.zero_le _, rfl, rfl⟩
  case round =>
    obtain ⟨k, hk, rfl, rfl⟩ := hrel
    by_cases hlt : k < n
    · obtain ⟨b, off, y, rfl, hbl, hy, hcell⟩ := h2.at_ hlt
      have HS := hide (reg_take_succ (~~~ s) l k y hy)
      clear hy
      generalize reg (~~~ s) (l.take k) = R at *
      have hx := lo_xor R y
      have ht := tab_cell h3 (lo8 R ^^^ y)
      have HT := hide (step_spell R y)
      generalize lo8 R ^^^ y = yy at *
      have ⟨hl0, hl1⟩ := u8_lt yy
      go_wp2_with fail
      go_round
      case rel => exact ⟨k + 1, by omega, by go_num, by rw [HS.out, ← HT.out]⟩
      case measure => simp [intOf]; omega
    · obtain rfl : k = n := by omega
      rw [List.take_of_length_le (by rw [Hn.out]; exact Nat.le_refl _)]
      go_wp2_with fail
      go_ret
      exact ⟨by unfold upd; rw [← u32_not]; rfl, hb2⟩

theorem sum_c (v : Value) (l : List UInt8) (w : World) (h : Bs w v l) :
    Calls Try.prog 54 #[v] w fun e w' => e = .returned (.int .u32 (u32 (upd 0#32 l))) ∧ Below w.heap.size w w' := by
  have H := hide h
  clear h
  go_enter Try.func54, Try.ntmps54
  go_wp2_with fail
  refine (update_c 0#32 _ l _ H.out).mono ?_
  rintro e w1 ⟨rfl, hb⟩
  go_wp2_with fail
  go_ret
  exact ⟨rfl, hb⟩

end Go.Proofs.Ytpadgkkeihhneaa
/- bytes.Clone, bytes.Equal. -/
namespace Go.Proofs.Ytpadgkkeihhneaa
set_option maxRecDepth 100000
set_option linter.unusedSimpArgs false
set_option linter.unusedVariables false
open Go.ChangeShapes Go.WideShapes Go.ChangeAt Go.RowKit
set_option linter.unusedVariables false

/-- The call returns new memory with the bytes l; nothing that was there has turned. -/
def Fresh (w : World) (l : List UInt8) (e : Ending) (w' : World) : Prop := ∃ v, e = .returned v ∧ Ow w' w.heap.size v l ∧ Below w.heap.size w w'

theorem below_append {B base : Nat} {a w w' : World} {v : Value} {l : List UInt8} (h : Below B a w) (ho : Ow w base v l) (hg : w.grownBy w' v.ownBlock) (hB : B ≤ w.heap.size) (hbase : B ≤ base) : Below B a w' :=
  h.grown hg hB fun k hk => Nat.le_trans hbase (ho.lt k hk).1

set_option maxHeartbeats 1000000 in
theorem clone_b (v : Value) (l : List UInt8) (w : World) (h : Bs w v l) (hl : l.length ≤ 140737488355328) : Calls Try.prog 55 #[v] w (Fresh w l) := by
  obtain ⟨A, c, rfl, hc, hm⟩ := h.form
  have H := hide h
  have HL := hide hl
  clear h hl hc hm
  have heq := fun (w : World) (A : Option Addr) (n c : Nat) => Lib.run_eql_slice_nil (P := Try.prog) w 59 5 A n c 0 0 Try.underlying59
  have HL2 : Hid (0 + l.length ≤ 140737488355328) := by unfold Hid; have := HL.out; omega
  generalize hn : l.length = n at H heq
  clear hn
  cases A with
  | none =>
    have hnil : l = [] := by
      obtain ⟨A', c', hv, _, _, h3⟩ := H.out
      injection hv with e1 e2 e3
      rcases Nat.eq_zero_or_pos l.length with h0 | h0
      · exact List.eq_nil_of_length_eq_zero h0
      · obtain ⟨b, off, e, _⟩ := h3 h0
        rw [← e1] at e; cases e
    have HN := hide hnil
    clear hnil
    go_enter Try.func55, Try.ntmps55
    go_wp2_with fail
    go_ret
    exact ⟨_, rfl, by rw [HN.out]; exact Ow.nil _ _, Below.refl _ _⟩
  | some a =>
    go_enter Try.func55, Try.ntmps55
    go_wp2_with (at_builtin; refine wpList_append_bs rfl _ _ rfl w.heap.size (l := []) (m := l) rfl (Ow.made [] #[] rfl (Nat.le_refl _) (by simp)) rfl (H.out.alloc _) HL2.out (by simp) ?_; intro v1 w1 how hg hw)
    go_ret
    exact ⟨_, rfl, how, below_grown ((Below.refl _ _).alloc (Nat.le_refl _) _) hg (by simp) (Nat.le_refl _)⟩

set_option maxHeartbeats 1000000 in
theorem equal_b (v1 v2 : Value) (l1 l2 : List UInt8) (w : World) (h1 : Bs w v1 l1) (h2 : Bs w v2 l2) :
    Calls Try.prog 47 #[v1, v2] w fun e w' => e = .returned (.bool (l1 == l2)) ∧ w = w' := by
  have c1 := run_string_bs h1
  have c2 := run_string_bs h2
  clear h1 h2
  go_enter Try.func47, Try.ntmps47
  go_wp2_with fail
  go_ret
  exact ⟨rfl, rfl⟩
end Go.Proofs.Ytpadgkkeihhneaa
/- bytes.Clone, bytes.Equal; package checksum and its reference, function by function: Seal, Open. -/
namespace Go.Proofs.Ytpadgkkeihhneaa
set_option maxRecDepth 100000
set_option linter.unusedSimpArgs false
set_option linter.unusedVariables false
open Go.ChangeShapes Go.WideShapes Go.ChangeAt Go.RowKit
set_option linter.unusedVariables false

/-- A sum's four bytes. -/
def le4 (x : BitVec 32) : List UInt8 := [lo8 x, lo8 (x >>> 8), lo8 (x >>> 16), lo8 (x >>> 24)]
def seal_ (l : List UInt8) : List UInt8 := l ++ le4 (upd 0#32 l)

theorem le4_cells (x : BitVec 32) : (#[Value.int .u8 (u32 x % 256), Value.int .u8 (u32 x / 256 % 256), Value.int .u8 (u32 x / 65536 % 256), Value.int .u8 (u32 x / 16777216 % 256)] : Array Value).toList = (le4 x).map bv := by
  simp only [le4, bv, List.map_cons, List.map_nil, u32_shr8, u32_shr16, u32_shr24, u32_lo]
set_option maxHeartbeats 1000000 in
theorem seal_c (v : Value) (l : List UInt8) (w : World) (h : Bs w v l) (hl : l.length ≤ 70368744177664) : Calls Try.prog 42 #[v] w (Fresh w (seal_ l)) := by
  have H := hide h
  have HL := hide hl
  clear h hl
  go_enter Try.func42, Try.ntmps42
  go_wp2_with fail
  refine (sum_c _ l _ H.out).mono ?_
  rintro e w1 ⟨rfl, hb⟩
  go_wp2_with fail
  refine (clone_b _ l _ (H.out.step hb) (by have := HL.out; omega)).mono ?_
  rintro e w2 ⟨v2, rfl, ho, hb2⟩
  have hlt := ho.lt
  have HB := hide (show Below w.heap.size w w2 from hb.trans (hb2.mono hb.size))
  have HO := hide (ho.mono hb.size)
  clear hb hb2 ho hlt
  have HL2 : Hid (l.length + (le4 (upd 0#32 l)).length ≤ 140737488355328) := by unfold Hid; have := HL.out; simp [le4]; omega
  have HC := hide (le4_cells (upd 0#32 l))
  go_wp2_with (at_builtin; refine wpList_append_bs rfl _ _ rfl w.heap.size rfl (HO.out.alloc _) rfl (Ow.made _ _ HC.out (Nat.le_refl _) (by simp [le4, maxLen])).bs HL2.out (by have := HB.out.size; simp; omega) ?_; intro v1 w3 how hg hw)
  go_ret
  exact ⟨_, rfl, how, below_append (HB.out.alloc HB.out.size _) (HO.out.alloc _) hg (by have := HB.out.size; simp; omega) (Nat.le_refl _)⟩

/-- What Open finds. -/
def open_ (l : List UInt8) : Option (List UInt8) := if 4 ≤ l.length ∧ seal_ (l.take (l.length - 4)) = l then some (l.take (l.length - 4)) else none
/-- The call returns new memory with the bytes, or none and the error. -/
def FreshE (w : World) (r : Option (List UInt8)) (e : Ending) (w' : World) : Prop := ∃ v c, e = .returned (.tuple #[v, .int .i64 c]) ∧ Ow w' w.heap.size v (r.getD []) ∧ Below w.heap.size w w' ∧ c = (if r.isSome then 0 else 11)

end Go.Proofs.Ytpadgkkeihhneaa
/- A journal in plain Lean. -/
namespace Go.Proofs.Ytpadgkkeihhneaa
set_option maxRecDepth 100000
set_option linter.unusedSimpArgs false
set_option linter.unusedVariables false
set_option linter.unusedVariables false

/-! ### Pages -/
def encL (l : List UInt8) : List UInt8 := enc l.length ++ l
/-- A page that begins with a sealed byte string. -/
def pageOf (b : List UInt8) : List UInt8 := seal_ b ++ List.replicate (128 - (seal_ b).length) 0
/-- A part of a block. -/
structure Prt where
  turn : Nat
  index : Nat
  p : Nat
  q : Nat
  text : List UInt8
def prtBytes (x : Prt) : List UInt8 := enc x.turn ++ enc x.index ++ enc x.p ++ enc x.q ++ encL x.text
def prtPage (x : Prt) : List UInt8 := pageOf (prtBytes x)
def hdrPage (t : Nat) : List UInt8 := pageOf (enc t)
def rd0 (b : List UInt8) : RS × Nat := rNum (b, 0)
def rd1 (b : List UInt8) : RS × Nat := rNum (rd0 b).1
def rd2 (b : List UInt8) : RS × Nat := rNum (rd1 b).1
def rd3 (b : List UInt8) : RS × Nat := rNum (rd2 b).1
def rd4 (b : List UInt8) : RS × List UInt8 := rText (rd3 b).1
/-- What the numbers and the text of a page say. -/
def prtRead (b : List UInt8) : Prt := ⟨(rd0 b).2, (rd1 b).2, (rd2 b).2, (rd3 b).2, (rd4 b).2⟩
/-- The numbers are in range. -/
def Prt.fit (x : Prt) : Bool := decide (x.turn < 2 ^ 40) && decide (x.index < 2 ^ 40) && decide (1 ≤ x.q) && decide (x.q ≤ 4096) && decide (x.p < x.q) && decide (x.text.length ≤ 96)
def Prt.full (x : Prt) : Bool := (decide (x.p + 1 = x.q) || decide (x.text.length = 96)) && (decide (0 < x.text.length) || decide (x.q = 1))
def prtOk (b : List UInt8) : Bool := (prtRead b).fit && (prtRead b).full && (prtPage (prtRead b) == b)
/-- The part that a page has. -/
def prtOf (b : List UInt8) : Option Prt := if prtOk b then some (prtRead b) else none
/-- The turn of a header page, or 0. -/
def hdrOf (n : Nat) (b : List UInt8) : Nat := if (rd0 b).2 < 2 ^ 40 ∧ (rd0 b).2 % 2 = n ∧ hdrPage (rd0 b).2 = b then (rd0 b).2 else 0

/-! ### What a disk has -/
def half (D : DS) : Nat := (D.pages.length - 2) / 2
def first (D : DS) (t : Nat) : Nat := 2 + t % 2 * half D
def pagesN (n : Nat) : Nat := max 1 ((n + 95) / 96)
/-- A block from its part p on; q: the number of parts as the first one says. -/
def blkF (D : DS) (t i a : Nat) : Nat → Nat → Nat → List UInt8 → Option (List UInt8 × Nat)
  | 0, _, _, _ => none
  | f + 1, p, q, s =>
    if half D ≤ a + p then none else
      match prtOf (content D (first D t + a + p)) with
      | none => none
      | some x => if x.turn = t ∧ x.index = i ∧ x.p = p ∧ (p = 0 ∨ x.q = q) then
          (if p + 1 = x.q then some (s ++ x.text, x.q) else blkF D t i a f (p + 1) x.q (s ++ x.text)) else none
/-- The block of a turn with an index at a page of the half. -/
def blk (D : DS) (t i a : Nat) : Option (List UInt8 × Nat) := blkF D t i a (half D - a) 0 1 []
/-- The turn found. -/
def find0 (D : DS) : Nat := if 0 < hdrOf 0 (content D 0) ∧ (blk D (hdrOf 0 (content D 0)) 0 0).isSome then hdrOf 0 (content D 0) else 0
def find1 (D : DS) : Nat := if find0 D < hdrOf 1 (content D 1) ∧ (blk D (hdrOf 1 (content D 1)) 0 0).isSome then hdrOf 1 (content D 1) else find0 D
/-- The blocks of a turn from an index on, each with the page behind it. -/
def blks (D : DS) (t : Nat) : Nat → Nat → Nat → List (List UInt8 × Nat)
  | 0, _, _ => []
  | f + 1, i, a => match blk D t i a with
    | none => []
    | some (s, n) => (s, a + n) :: blks D t f (i + 1) (a + n)
def blocks (D : DS) (t : Nat) : List (List UInt8 × Nat) := blks D t (half D) 0 0
/-- Pages behind the last block that are not zero. -/
def dirty (D : DS) (t u : Nat) : List Nat := ((List.range (half D - u)).map (first D t + u + ·)).filter fun n => content D n != List.replicate 128 0
def stale (D : DS) (t u : Nat) : Bool := (List.range (half D - u)).any fun k => match prtOf (content D (first D t + u + k)) with
  | some x => x.turn == t
  | none => false
/-- Pages are written, then synced. -/
def dWrites : DS → List (Nat × List UInt8) → DS × Int
  | D, [] => dSync D
  | D, (n, b) :: l => if (dWrite D n b).2 = 0 then dWrites (dWrite D n b).1 l else dWrite D n b
def erase (D : DS) (t u : Nat) : DS × Int := if stale D t u then dWrites D ((dirty D t u).map (·, List.replicate 128 0)) else (D, 0)

/-! ### The journal -/
structure JS where
  turn : Nat
  state : List UInt8
  records : List (List UInt8)
  used : Nat
  broken : Bool
def js0 : JS := ⟨0, [], [], 0, false⟩
/-- What the blocks of the turn found say. -/
def jFind (D : DS) : JS := if find1 D = 0 then js0 else ⟨find1 D, ((blocks D (find1 D)).head?.map (·.1)).getD [], (blocks D (find1 D)).tail.map (·.1), ((blocks D (find1 D)).getLast?.map (·.2)).getD 0, false⟩
/-- What Open does: the journal, the disk behind it, the code. -/
def jOpen (D : DS) : JS × DS × Int :=
  if D.pages.length < 8 then (js0, D, 2) else if D.failed then (js0, D, 10) else
    if find1 D = 0 then (js0, D, 0) else (jFind D, erase D (find1 D) (jFind D).used)
def jFree (D : DS) (J : JS) : Nat := if J.turn = 0 then 0 else half D - J.used
/-- The parts of a block. -/
def prts (t i : Nat) (s : List UInt8) : List (List UInt8) := (List.range (pagesN s.length)).map fun p => prtPage ⟨t, i, p, pagesN s.length, (s.drop (p * 96)).take 96⟩
def at_ (a : Nat) (l : List (List UInt8)) : List (Nat × List UInt8) := (List.range l.length).map fun k => (a + k, l.getD k [])
def jPut (D : DS) (t i a : Nat) (s : List UInt8) : DS × Int := dWrites D (at_ (first D t + a) (prts t i s))
def jAppend (D : DS) (J : JS) (s : List UInt8) : DS × JS × Int :=
  if J.broken ∨ J.turn = 0 then (D, J, 9) else if jFree D J < pagesN s.length then (D, J, 8) else
    if (jPut D J.turn (J.records.length + 1) J.used s).2 = 0 then ((jPut D J.turn (J.records.length + 1) J.used s).1, { J with records := J.records ++ [s], used := J.used + pagesN s.length }, 0)
    else ((jPut D J.turn (J.records.length + 1) J.used s).1, { J with broken := true }, (jPut D J.turn (J.records.length + 1) J.used s).2)
/-- The state's block, then the header. -/
def jSaved (D : DS) (t : Nat) (s : List UInt8) : DS × Int :=
  if (jPut D t 0 0 s).2 = 0 then dWrites (jPut D t 0 0 s).1 [(t % 2, hdrPage t)] else jPut D t 0 0 s
def jSave (D : DS) (J : JS) (s : List UInt8) : DS × JS × Int :=
  if J.broken then (D, J, 9) else if half D < pagesN s.length then (D, J, 8) else
    if (jSaved D (J.turn + 1) s).2 = 0 then ((jSaved D (J.turn + 1) s).1, ⟨J.turn + 1, s, [], pagesN s.length, false⟩, 0)
    else ((jSaved D (J.turn + 1) s).1, { J with broken := true }, (jSaved D (J.turn + 1) s).2)
end Go.Proofs.Ytpadgkkeihhneaa
/- Pages of a journal: what is written is read. -/
namespace Go.Proofs.Ytpadgkkeihhneaa
set_option maxRecDepth 100000
set_option linter.unusedSimpArgs false
set_option linter.unusedVariables false
set_option linter.unusedVariables false

theorem encT_list (l : List UInt8) : encT ⟨l.toArray⟩ = encL l := by
  unfold encT encL
  rfl
theorem enc_len (n : Nat) : (enc n).length = blen n + 1 := by unfold enc; rw [List.length_cons, dig_len]
theorem enc_le (n k : Nat) (h : n < 256 ^ k) : (enc n).length ≤ k + 1 := by rw [enc_len]; have := blen_le k n h; omega
theorem le4_len (x : BitVec 32) : (le4 x).length = 4 := rfl
theorem seal_len (l : List UInt8) : (seal_ l).length = l.length + 4 := by unfold seal_; rw [List.length_append, le4_len]
theorem pageOf_len (b : List UInt8) (h : b.length ≤ 124) : (pageOf b).length = 128 := by
  unfold pageOf; rw [List.length_append, seal_len, List.length_replicate]; omega
theorem Prt.fits (x : Prt) : x.fit = true ↔ x.turn < 2 ^ 40 ∧ x.index < 2 ^ 40 ∧ 1 ≤ x.q ∧ x.q ≤ 4096 ∧ x.p < x.q ∧ x.text.length ≤ 96 := by
  unfold Prt.fit; simp only [Bool.and_eq_true, decide_eq_true_eq]; omega
theorem Prt.fulls (x : Prt) : x.full = true ↔ (x.p + 1 = x.q ∨ x.text.length = 96) ∧ (0 < x.text.length ∨ x.q = 1) := by
  unfold Prt.full; simp only [Bool.and_eq_true, Bool.or_eq_true, decide_eq_true_eq]
/-- A part that may be written (the turn may be one more than what is read). -/
structure Prt.Small (x : Prt) : Prop where
  turn : x.turn ≤ 1099511629000
  index : x.index ≤ 2 ^ 40
  p : x.p < 65536
  q : x.q < 65536
  text : x.text.length ≤ 96
theorem Prt.small_of {x : Prt} (h : x.fit = true) : x.Small := by
  have := x.fits.1 h
  exact ⟨by omega, by omega, by omega, by omega, by omega⟩
theorem prtBytes_len (x : Prt) (h : x.Small) : (prtBytes x).length ≤ 118 := by
  obtain ⟨h1, h2, h3, h4, h5⟩ := h
  have a := enc_le x.turn 6 (by omega)
  have b := enc_le x.index 6 (by omega)
  have c := enc_le x.p 2 (by omega)
  have d := enc_le x.q 2 (by omega)
  have e := enc_le x.text.length 1 (by omega)
  unfold prtBytes encL
  simp only [List.length_append]
  omega
theorem prtPage_len (x : Prt) (h : x.Small) : (prtPage x).length = 128 := pageOf_len _ (by have := prtBytes_len x h; omega)
theorem hdrPage_len (t : Nat) (h : t < 2 ^ 64) : (hdrPage t).length = 128 := pageOf_len _ (by have := enc_le t 8 (by omega); omega)
theorem rNum_enc (n : Nat) (h : n < 2 ^ 64) (t : List UInt8) : rNum (enc n ++ t, 0) = ((t, 0), n) := by
  unfold rNum
  rw [if_pos rfl]
  show (match parseN (enc n ++ t) with | some (n, t) => ((t, 0), n) | none => (bad 11, 0)) = _
  rw [parseN_enc n h]
theorem rText_enc (s : List UInt8) (h : s.length < 2 ^ 64) (t : List UInt8) : rText (encL s ++ t, 0) = ((t, 0), s) := by
  unfold rText encL
  rw [if_pos rfl]
  show (match parseN ((enc s.length ++ s) ++ t) with | some (n, t) => if t.length < n then (bad 11, []) else ((t.drop n, 0), t.take n) | none => (bad 11, [])) = _
  rw [List.append_assoc, parseN_enc _ h]
  show (if (s ++ t).length < s.length then (bad 11, []) else (((s ++ t).drop s.length, 0), (s ++ t).take s.length)) = _
  rw [if_neg (by rw [List.length_append]; omega), List.drop_left, List.take_left]
theorem reads_of (x : Prt) (h : x.Small) (t : List UInt8) :
    rd0 (prtBytes x ++ t) = ((enc x.index ++ enc x.p ++ enc x.q ++ encL x.text ++ t, 0), x.turn) ∧ rd1 (prtBytes x ++ t) = ((enc x.p ++ enc x.q ++ encL x.text ++ t, 0), x.index) ∧
    rd2 (prtBytes x ++ t) = ((enc x.q ++ encL x.text ++ t, 0), x.p) ∧ rd3 (prtBytes x ++ t) = ((encL x.text ++ t, 0), x.q) ∧ rd4 (prtBytes x ++ t) = ((t, 0), x.text) := by
  obtain ⟨h1, h2, h3, h4, h5⟩ := h
  have e0 : rd0 (prtBytes x ++ t) = ((enc x.index ++ enc x.p ++ enc x.q ++ encL x.text ++ t, 0), x.turn) := by
    unfold rd0 prtBytes
    simp only [List.append_assoc]
    exact rNum_enc _ (by omega) _
  have e1 : rd1 (prtBytes x ++ t) = ((enc x.p ++ enc x.q ++ encL x.text ++ t, 0), x.index) := by
    unfold rd1; rw [e0]; simp only [List.append_assoc]; exact rNum_enc _ (by omega) _
  have e2 : rd2 (prtBytes x ++ t) = ((enc x.q ++ encL x.text ++ t, 0), x.p) := by
    unfold rd2; rw [e1]; simp only [List.append_assoc]; exact rNum_enc _ (by omega) _
  have e3 : rd3 (prtBytes x ++ t) = ((encL x.text ++ t, 0), x.q) := by
    unfold rd3; rw [e2]; simp only [List.append_assoc]; exact rNum_enc _ (by omega) _
  have e4 : rd4 (prtBytes x ++ t) = ((t, 0), x.text) := by
    unfold rd4; rw [e3]; exact rText_enc _ (by omega) _
  exact ⟨e0, e1, e2, e3, e4⟩
theorem prtPage_form (x : Prt) : ∃ t, prtPage x = prtBytes x ++ t := ⟨_, by unfold prtPage pageOf seal_; rw [List.append_assoc]⟩
theorem prtRead_page (x : Prt) (h : x.Small) : prtRead (prtPage x) = x ∧ (rd4 (prtPage x)).1.2 = 0 := by
  obtain ⟨t, ht⟩ := prtPage_form x
  obtain ⟨e0, e1, e2, e3, e4⟩ := reads_of x h t
  rw [ht]
  unfold prtRead
  rw [e0, e1, e2, e3, e4]
  exact ⟨rfl, rfl⟩
theorem prtOk_iff (b : List UInt8) : prtOk b = true ↔ (prtRead b).fit = true ∧ (prtRead b).full = true ∧ prtPage (prtRead b) = b := by
  unfold prtOk; simp only [Bool.and_eq_true, beq_iff_eq, and_assoc]
/-- The reference looks at the reader's code too. -/
theorem prtOk_code (b : List UInt8) (h : prtOk b = true) : (rd4 b).1.2 = 0 := by
  obtain ⟨h1, h2, h3⟩ := (prtOk_iff b).1 h
  have := (prtRead_page (prtRead b) (Prt.small_of h1)).2
  rwa [h3] at this
theorem prtOf_page (x : Prt) (h1 : x.fit = true) (h2 : x.full = true) : prtOf (prtPage x) = some x := by
  have e := (prtRead_page x (Prt.small_of h1)).1
  unfold prtOf
  rw [if_pos ((prtOk_iff _).2 (by rw [e]; exact ⟨h1, h2, rfl⟩)), e]
theorem hdrRead (t : Nat) (h : t < 2 ^ 64) : (rd0 (hdrPage t)).2 = t ∧ (rd0 (hdrPage t)).1.2 = 0 := by
  have e : rd0 (hdrPage t) = ((le4 (upd 0#32 (enc t)) ++ List.replicate (128 - (seal_ (enc t)).length) 0, 0), t) := by
    unfold rd0 hdrPage pageOf seal_
    rw [List.append_assoc]
    exact rNum_enc t h _
  rw [e]
  exact ⟨rfl, rfl⟩
/-- What the reference asks of a header page. -/
theorem hdrOf_ref (n : Nat) (b : List UInt8) : hdrOf n b = if (rd0 b).1.2 = 0 ∧ 1 ≤ (rd0 b).2 ∧ (rd0 b).2 < 2 ^ 40 ∧ (rd0 b).2 % 2 = n ∧ hdrPage (rd0 b).2 = b then (rd0 b).2 else 0 := by
  unfold hdrOf
  by_cases h : (rd0 b).2 < 2 ^ 40 ∧ (rd0 b).2 % 2 = n ∧ hdrPage (rd0 b).2 = b
  · rw [if_pos h]
    have hc : (rd0 b).1.2 = 0 := by
      have := (hdrRead (rd0 b).2 (by omega)).2
      rwa [h.2.2] at this
    by_cases h0 : 1 ≤ (rd0 b).2
    · rw [if_pos ⟨hc, h0, h⟩]
    · rw [if_neg (fun x => h0 x.2.1)]; omega
  · rw [if_neg h, if_neg (fun x => h x.2.2)]
end Go.Proofs.Ytpadgkkeihhneaa
