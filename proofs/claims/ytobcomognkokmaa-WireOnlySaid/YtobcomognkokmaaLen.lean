/- bits.Len64 off the kit's shelf. -/
import Derived.Test.YtobcomognkokmaaAppend
import Derived.Shelf.Small.Bits
namespace Go.Proofs.Ytobcomognkokmaa
open Go.Shelf
def lays129_ren : Go.Shelf.Ren := ⟨fun | 129 => 34 | n => n, fun | 53 => 23 | 3 => 3 | 4 => 4 | 46 => 60 | 5 => 5 | 9 => 9 | n => n, fun | n => n⟩
theorem lays129 : Go.Proofs.Lays.n129 Try.prog lays129_ren := {
  mixed := by kernel_rfl,
  f129 := Try.func34.trans (congrArg some (by kernel_rfl)),
  t3 := Try.underlying3,
  a3 := Try.isAgg3,
  z3 := Try.sizeOf3,
  v3 := Try.zeroValue3,
  t4 := Try.underlying4,
  a4 := Try.isAgg4,
  z4 := Try.sizeOf4,
  v4 := Try.zeroValue4,
  t5 := Try.underlying5,
  a5 := Try.isAgg5,
  z5 := Try.sizeOf5,
  v5 := Try.zeroValue5,
  t9 := Try.underlying9,
  a9 := Try.isAgg9,
  z9 := Try.sizeOf9,
  v9 := Try.zeroValue9,
  t46 := Try.underlying60,
  a46 := Try.isAgg60,
  z46 := Try.sizeOf60,
  v46 := Try.zeroValue60,
  t53 := Try.underlying23,
  a53 := Try.isAgg23,
  z53 := Try.sizeOf23,
  v53 := Try.zeroValue23 }

theorem lib_len (f x : Nat) (h : x < 2 ^ f) : Lib.bitLenAux f x = bitLen x := by
  induction f generalizing x with
  | zero => have : x = 0 := by simpa using h
            rw [this]; rfl
  | succ f ih =>
    rw [Lib.bitLenAux]
    by_cases h0 : x = 0
    · rw [h0]; rfl
    · rw [if_neg h0, ih (x / 2) (by rw [Nat.pow_succ] at h; omega)]
      by_cases h1 : x / 2 = 0
      · have : x = 1 := by omega
        rw [this]; decide
      · exact (bitLen_shift x 1 (by simpa using h1)).symm

/-- bits.Len64, as the number of bytes. -/
theorem len64_c (x : Nat) (w : World) (h1 : x < 2 ^ 64) :
    Calls Try.prog 34 #[.int .u64 x] w fun e w' => e = .returned (.int .i64 (bitLen x)) ∧ w' = w := by
  have h := Any.bits_Len64 lays129 (x : Int) w (by omega) (by omega)
  rw [Int.toNat_natCast, show Lib.bitLen x = bitLen x from lib_len 64 x h1] at h
  exact h
end Go.Proofs.Ytobcomognkokmaa
