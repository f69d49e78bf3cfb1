/- The matrices of the checksum: the map 'j zero bits' by the images of the bits; times, square. -/
import Derived.Test.YtmnebingmedloaaBurst
namespace Go.Proofs.Ytmnebingmedloaa
open Go.ChangeShapes Go.WideShapes Go.ChangeAt Go.RowKit
set_option linter.unusedVariables false
attribute [local go_sem] u32_xor u32_and1 u32_shr1

/-- The image of the low k bits of x under j zero bits. -/
def acc (j : Nat) (x : BitVec 32) (k : Nat) : BitVec 32 := stN j (vf x.getLsbD 0 k)
theorem acc_zero (j : Nat) (x : BitVec 32) : acc j x 0 = 0#32 := stN_zero j
theorem acc_set (j : Nat) (x : BitVec 32) (k : Nat) (h : x.getLsbD k = true) : acc j x (k + 1) = acc j x k ^^^ stN j (1#32 <<< k) := by
  unfold acc
  rw [vf, Nat.zero_add, h, stN_xor]; rfl
theorem acc_same (j : Nat) (x : BitVec 32) (k : Nat) (h : x.getLsbD k = false) : acc j x (k + 1) = acc j x k := by
  unfold acc
  rw [vf, Nat.zero_add, h, stN_xor]
  have : bit false <<< k = 0#32 := by unfold bit; simp
  rw [this, stN_zero]; simp
theorem acc_end (j : Nat) (x : BitVec 32) (k : Nat) (hk : k ≤ 32) (h : x >>> k = 0#32) : acc j x k = stN j x := by
  unfold acc
  congr 1
  apply BitVec.eq_of_getLsbD_eq
  intro i hi
  rw [vf_get _ _ _ _ hk, Nat.zero_add]
  by_cases h1 : i < k
  · simp [h1]
  · have := congrArg (fun y => y.getLsbD (i - k)) h
    simp only [BitVec.getLsbD_ushiftRight, BitVec.getLsbD_zero] at this
    rw [show k + (i - k) = i from by omega] at this
    rw [this]; simp
theorem shr_bit (x : BitVec 32) (k : Nat) : ((x >>> k) &&& 1#32 = 1#32) ↔ x.getLsbD k = true := by
  rw [and_one, BitVec.getLsbD_ushiftRight, Nat.add_zero]
theorem shr_more (x : BitVec 32) (k : Nat) : x >>> k >>> 1 = x >>> (k + 1) := (BitVec.shiftRight_add x k 1).symm
theorem shr_end (x : BitVec 32) (k : Nat) (hk : 32 ≤ k) : x >>> k = 0#32 := by
  apply BitVec.eq_of_getLsbD_eq
  intro i hi
  rw [BitVec.getLsbD_ushiftRight, BitVec.getLsbD_of_ge _ _ (by omega)]; simp

/-- The matrix of j zero bits, its first k rows. -/
@[irreducible] def matTo (j k : Nat) : Array Value := Array.ofFn (n := 32) fun i => .int .u32 (if i.val < k then u32 (stN j (1#32 <<< i.val)) else 0)
theorem matTo_size (j k : Nat) : (matTo j k).size = 32 := by unfold matTo; simp
theorem matTo_get (j k i : Nat) (hi : i < 32) : (matTo j k)[i]? = some (.int .u32 (if i < k then u32 (stN j (1#32 <<< i)) else 0)) := by
  unfold matTo
  rw [Array.getElem?_ofFn, dif_pos hi]
theorem matTo_succ (j k : Nat) (hk : k < 32) : (matTo j k).setIfInBounds k (.int .u32 (u32 (stN j (1#32 <<< k)))) = matTo j (k + 1) := by
  apply Array.ext_getElem?
  intro i
  rw [Array.getElem?_setIfInBounds]
  by_cases hi : i < 32
  · rw [matTo_get j k i hi, matTo_get j (k + 1) i hi]
    by_cases he : k = i
    · subst he
      rw [if_pos rfl, if_pos (by rw [matTo_size]; exact hk), if_pos (by omega)]
    · rw [if_neg he]
      by_cases hl : i < k
      · rw [if_pos hl, if_pos (by omega)]
      · rw [if_neg hl, if_neg (by omega)]
  · rw [if_neg (by omega), Array.getElem?_eq_none (by rw [matTo_size]; omega), Array.getElem?_eq_none (by rw [matTo_size]; omega)]
def matZero : Array Value := matTo 0 0
theorem matTo_none (j : Nat) : matTo j 0 = matZero := by
  unfold matZero
  apply Array.ext_getElem?
  intro i
  by_cases hi : i < 32
  · rw [matTo_get j 0 i hi, matTo_get 0 0 i hi]; simp
  · rw [Array.getElem?_eq_none (by rw [matTo_size]; omega), Array.getElem?_eq_none (by rw [matTo_size]; omega)]
theorem zero_mrep (w : World) : (zeroValue 43).run Try.prog w = .ok (.agg (Array.replicate 32 (.int .u32 0))) w := by kernel_rfl
theorem zero_mat (w : World) : (zeroValue 43).run Try.prog w = .ok (.agg matZero) w := by
  have h : matZero = Array.replicate 32 (.int .u32 0) := by
    unfold matZero
    apply Array.ext_getElem?
    intro i
    by_cases hi : i < 32
    · rw [matTo_get _ _ _ hi, Array.getElem?_replicate, if_pos hi]; simp
    · rw [Array.getElem?_eq_none (by rw [matTo_size]; omega), Array.getElem?_eq_none (by simp; omega)]
  rw [h]
  exact zero_mrep w
theorem mat_cell {w : World} {g j : Nat} (h : Blk w g 43 (matTo j 32)) (k : Nat) (hk : k < 32) : w.cell? ⟨g, k, none⟩ = some (.int .u32 (u32 (stN j (1#32 <<< k)))) := by
  rw [h.cell, matTo_get _ _ _ hk, if_pos hk]

set_option maxHeartbeats 1000000 in
theorem times_c (g j : Nat) (x : BitVec 32) (w : World) (h : Blk w g 43 (matTo j 32)) :
    Calls Try.prog 24 #[.pointer (some ⟨g, 0, none⟩), .int .u32 (u32 x)] w fun e w' => e = .returned (.int .u32 (u32 (stN j x))) ∧ w = w' := by
  have H := hide h
  clear h
  go_enter Try.func24, Try.ntmps24
  go_wp2_with fail
  go_loop [1, 5, 6] (fun s y i => ∃ k : Nat, k ≤ 32 ∧ i = .int .i64 k ∧ s = .int .u32 (u32 (x >>> k)) ∧ y = .int .u32 (u32 (acc j x k))) (fun _ _ i => 32 - (intOf i).toNat)
  case atStart => exact ⟨0, Nat.zero_le _, rfl, by simp, by rw [acc_zero]; rfl⟩
  case round =>
    obtain ⟨k, hk, rfl, rfl, rfl⟩ := hrel
    have HM := hide (shr_more x k)
    by_cases hz : x >>> k = 0#32
    · have HE := hide (acc_end j x k hk hz)
      have hq : (u32 (x >>> k) == 0) = true := by rw [hz]; rfl
      have hq2 : (u32 (x >>> k) != 0) = false := by rw [hz]; rfl
      clear hz
      rw [HE.out]
      generalize x >>> k = S at *
      go_wp2_with fail
      go_ret
      exact ⟨rfl, rfl⟩
    · have hlt : k < 32 := by
        rcases Nat.lt_or_ge k 32 with h | h
        · exact h
        · exact absurd (shr_end x k h) hz
      have hq : (u32 (x >>> k) == 0) = false := by rw [beq_eq_false_iff_ne]; intro h; exact hz (u32_inj h)
      have hq2 : (u32 (x >>> k) != 0) = true := by rw [bne, hq]; rfl
      have hc := mat_cell H.out k hlt
      cases hb : x.getLsbD k with
      | true =>
        have hq3 : (u32 ((x >>> k) &&& 1#32) == 1) = true := by rw [u32_one]; simpa using (shr_bit x k).2 hb
        have HA := hide (acc_set j x k hb)
        clear hb hz
        generalize x >>> k = S at *
        go_wp2_with fail
        go_round
        case rel => exact ⟨k + 1, by omega, by go_num, by rw [← HM.out, ← u32_shr1], by rw [HA.out]⟩
        case measure => simp [intOf]; omega
      | false =>
        have hq3 : (u32 ((x >>> k) &&& 1#32) == 1) = false := by rw [u32_one, beq_eq_false_iff_ne]; intro h; rw [(shr_bit x k).1 h] at hb; cases hb
        have HA := hide (acc_same j x k hb)
        clear hb hz
        generalize x >>> k = S at *
        go_wp2_with fail
        go_round
        case rel => exact ⟨k + 1, by omega, by go_num, by rw [← HM.out, ← u32_shr1], by rw [HA.out]⟩
        case measure => simp [intOf]; omega
end Go.Proofs.Ytmnebingmedloaa
