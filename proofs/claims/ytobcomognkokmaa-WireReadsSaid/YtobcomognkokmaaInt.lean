/- AppendInt. -/
import Derived.Test.YtobcomognkokmaaNumber
namespace Go.Proofs.Ytobcomognkokmaa
open Go.ChangeShapes Go.WideShapes Go.ChangeAt Go.RowKit
set_option linter.unusedVariables false

def zig (i : Int) : Nat := if 0 ≤ i then (2 * i).toNat else (2 * (-(i + 1)) + 1).toNat

theorem zig_inj (i j : Int) (h : zig i = zig j) : i = j := by unfold zig at h; split at h <;> split at h <;> omega
theorem zig_lt (i : Int) (h0 : -9223372036854775808 ≤ i) (h1 : i ≤ 9223372036854775807) : zig i < 2 ^ 64 := by unfold zig; split <;> omega
theorem zig_bits (i : Int) (h0 : -9223372036854775808 ≤ i) (h1 : i ≤ 9223372036854775807) : bits BinOp.xor IntKind.u64 (IntKind.u64.wrap (IntKind.u64.wrap i * 2)) (IntKind.u64.wrap (i / 9223372036854775808)) = (zig i : Int) := by
  show IntKind.u64.wrap ((BitVec.ofInt 64 (IntKind.u64.wrap (IntKind.u64.wrap i * 2)) ^^^ BitVec.ofInt 64 (IntKind.u64.wrap (i / 9223372036854775808))).toNat : Int) = _
  have hw : ∀ z : Int, IntKind.u64.wrap z = z % 18446744073709551616 := fun z => by simp [IntKind.wrap, IntKind.signed, IntKind.bits]
  rw [hw, hw, hw, hw]
  by_cases hi : 0 ≤ i
  · have e1 : i / 9223372036854775808 = 0 := by omega
    have e2 : i % 18446744073709551616 * 2 % 18446744073709551616 = ((2 * i).toNat : Int) := by omega
    rw [e1, e2, BitVec.ofInt_natCast, show BitVec.ofInt 64 (0 % 18446744073709551616) = 0#64 from rfl, BitVec.xor_zero, BitVec.toNat_ofNat]
    unfold zig
    rw [if_pos hi]
    omega
  · have e1 : i / 9223372036854775808 = -1 := by omega
    have e2 : i % 18446744073709551616 * 2 % 18446744073709551616 = ((2 * i + 18446744073709551616).toNat : Int) := by omega
    rw [e1, e2, BitVec.ofInt_natCast, show BitVec.ofInt 64 (-1 % 18446744073709551616) = BitVec.allOnes 64 from rfl, BitVec.xor_allOnes, BitVec.toNat_not, BitVec.toNat_ofNat]
    unfold zig
    rw [if_neg hi]
    omega

set_option maxHeartbeats 1000000 in
theorem appendInt_c (base : Nat) (v : Value) (l : List UInt8) (i : Int) (h0 : -9223372036854775808 ≤ i) (h1 : i ≤ 9223372036854775807) (w : World) (h : Ow w base v l) (hl : l.length ≤ 70368744177664) (hbase : base ≤ w.heap.size) :
    Calls Try.prog 13 #[v, .int .i64 i] w (Appends w base v l (enc (zig i))) := by
  obtain ⟨A, c, rfl, _, _⟩ := h.form
  have H := hide h
  clear h
  go_enter Try.func13, Try.ntmps13
  go_wp2_with fail
  rw [zig_bits i h0 h1]
  refine (appendNumber_c base _ l (zig i) (zig_lt i h0 h1) _ H.out hl hbase).mono ?_
  rintro e w1 ⟨v1, rfl, ho, hol, hg, hv⟩
  go_wp2_with fail
  go_ret
  exact ⟨v1, rfl, ho, hol, hg, hv⟩
end Go.Proofs.Ytobcomognkokmaa
