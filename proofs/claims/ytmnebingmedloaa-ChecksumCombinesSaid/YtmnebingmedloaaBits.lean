/- The walk's words on uint32 and uint8, where the numbers are bit vectors. -/
import Derived.Test.YtmnebingmedloaaCrc
import Derived.Test.YtmnebingmedloaaBytes
import Derived.Laws.BitsAllLaws
namespace Go.Proofs.Ytmnebingmedloaa
open Go.RowKit
set_option linter.unusedVariables false

theorem ofInt_u32 (a : BitVec 32) : BitVec.ofInt 32 (a.toNat : Int) = a := by
  rw [BitVec.ofInt_natCast]; simp
theorem bits_u32 (f : BitVec 32 → BitVec 32 → BitVec 32) (op : BinOp) (hop : ∀ x y : Int, bits op .u32 x y = IntKind.u32.wrap ((f (BitVec.ofInt 32 x) (BitVec.ofInt 32 y)).toNat : Int)) (a b : BitVec 32) :
    bits op .u32 (a.toNat : Int) (b.toNat : Int) = ((f a b).toNat : Int) := by
  rw [hop, ofInt_u32, ofInt_u32]
  have := (f a b).isLt
  rw [IntKind.wrap_u32]; omega
/-- A register as a number, kept whole by the walk. -/
def u32 (x : BitVec 32) : Int := (x.toNat : Int)
theorem u32_lt (a : BitVec 32) : 0 ≤ u32 a ∧ u32 a ≤ 4294967295 := by unfold u32; have := a.isLt; omega
theorem u32_inj {a b : BitVec 32} (h : u32 a = u32 b) : a = b := by unfold u32 at h; apply BitVec.eq_of_toNat_eq; omega
theorem u32_xor (a b : BitVec 32) : bits .xor .u32 (u32 a) (u32 b) = u32 (a ^^^ b) := bits_u32 (· ^^^ ·) .xor (fun _ _ => rfl) a b
theorem u32_poly (a : BitVec 32) : bits .xor .u32 (u32 a) 3988292384 = u32 (a ^^^ 3988292384#32) := u32_xor a 3988292384#32
theorem u32_not (a : BitVec 32) : bits .xor .u32 IntKind.u32.max (u32 a) = u32 (~~~ a) := by
  have h := u32_xor (BitVec.allOnes 32) a
  rw [show (BitVec.allOnes 32 ^^^ a) = ~~~ a from by rw [BitVec.allOnes_xor]] at h
  exact h
theorem u32_and1 (a : BitVec 32) : bits .and .u32 (u32 a) 1 = u32 (a &&& 1#32) := bits_u32 (· &&& ·) .and (fun _ _ => rfl) a 1#32
theorem u32_shr (a : BitVec 32) (n k : Nat) (hk : k = 2 ^ n) : u32 a / (k : Int) = u32 (a >>> n) := by
  unfold u32
  rw [BitVec.toNat_ushiftRight, Nat.shiftRight_eq_div_pow, hk]; rfl
theorem u32_shr1 (a : BitVec 32) : u32 a / (2 : Int) = u32 (a >>> 1) := u32_shr a 1 2 rfl
theorem u32_shr8 (a : BitVec 32) : u32 a / (256 : Int) = u32 (a >>> 8) := u32_shr a 8 256 rfl
theorem u32_shr16 (a : BitVec 32) : u32 a / (65536 : Int) = u32 (a >>> 16) := u32_shr a 16 65536 rfl
theorem u32_shr24 (a : BitVec 32) : u32 a / (16777216 : Int) = u32 (a >>> 24) := u32_shr a 24 16777216 rfl
/-- The low byte. -/
def lo8 (a : BitVec 32) : UInt8 := ⟨a.setWidth 8⟩
theorem u32_lo (a : BitVec 32) : u32 a % 256 = u8 (lo8 a) := by
  show _ = (((a.setWidth 8).toNat : Nat) : Int)
  unfold u32
  rw [BitVec.toNat_setWidth]; omega
theorem u8_ext (c : UInt8) : u8 c % 4294967296 = u32 (ext c) := by
  unfold ext u32 u8
  rw [BitVec.toNat_setWidth]
  have : c.toBitVec.toNat = c.toNat := rfl
  omega
theorem ofInt_u8 (a : UInt8) : BitVec.ofInt 8 (a.toNat : Int) = a.toBitVec := by
  rw [BitVec.ofInt_natCast]; show BitVec.ofNat 8 a.toBitVec.toNat = _; simp
theorem u8_xor (a b : UInt8) : bits .xor .u8 (u8 a) (u8 b) = u8 (a ^^^ b) := by
  show IntKind.u8.wrap ((BitVec.ofInt 8 (a.toNat : Int) ^^^ BitVec.ofInt 8 (b.toNat : Int)).toNat : Int) = ((a ^^^ b).toNat : Int)
  rw [ofInt_u8, ofInt_u8]
  have h : ((a ^^^ b).toNat : Nat) = (a.toBitVec ^^^ b.toBitVec).toNat := rfl
  rw [h]
  have := (a.toBitVec ^^^ b.toBitVec).isLt
  rw [IntKind.wrap_u8]; omega
theorem u32_one (a : BitVec 32) : (u32 (a &&& 1#32) == 1) = (a &&& 1#32 == 1#32) := by
  rw [Bool.eq_iff_iff]
  simp only [beq_iff_eq]
  constructor
  · intro h
    exact u32_inj h
  · intro h
    rw [h]; rfl
end Go.Proofs.Ytmnebingmedloaa
