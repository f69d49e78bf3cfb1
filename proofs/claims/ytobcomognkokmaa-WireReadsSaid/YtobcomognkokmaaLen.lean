/- bits.Len64 off the kit's shelf. -/
import Derived.Test.YtobcomognkokmaaAppend
import Derived.Shelf.Lay
import Derived.Shelf.Small.Bits
namespace Go.Proofs.Ytobcomognkokmaa
open Go.Shelf
shelf_lay Lays.n129 Nm 129 at Try as lays129

theorem lib_len (f x : Nat) (h : x < 2 ^ f) : Lib.bitLenAux f x = bitLen x := by
  induction f generalizing x with
  | zero => have : x = 0 := by simpa using h
            rw [this]; rfl
  | succ f ih =>
    rw [Lib.bitLenAux]
    by_cases h0 : x = 0
    · rw [h0]; rfl
    · rw [if_neg h0, ih (x / 2) (by rw [Nat.pow_succ] at h; omega)]
      by_cases h1 : x / 2 = 0
      · have : x = 1 := by omega
        rw [this]; decide
      · exact (bitLen_shift x 1 (by simpa using h1)).symm

/-- bits.Len64, as the number of bytes. -/
theorem len64_c (x : Nat) (w : World) (h1 : x < 2 ^ 64) :
    Calls Try.prog 34 #[.int .u64 x] w fun e w' => e = .returned (.int .i64 (bitLen x)) ∧ w' = w := by
  have h := Any.bits_Len64 lays129 (x : Int) w (by omega) (by omega)
  rw [Int.toNat_natCast, show Lib.bitLen x = bitLen x from lib_len 64 x h1] at h
  exact h
end Go.Proofs.Ytobcomognkokmaa
