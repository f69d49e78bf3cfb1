/- square, zero, Combine of the checksum. -/
import Derived.Test.YtmnebingmedloaaComb
namespace Go.Proofs.Ytmnebingmedloaa
open Go.ChangeShapes Go.WideShapes Go.ChangeAt Go.RowKit
set_option linter.unusedVariables false
attribute [local go_sem] u32_xor u32_and1 u32_shr8 u32_lo

/-- The call returns a new matrix of j zero bits. -/
def MFresh (w : World) (j : Nat) (e : Ending) (w' : World) : Prop := ∃ g, e = .returned (.pointer (some ⟨g, 0, none⟩)) ∧ w.heap.size ≤ g ∧ Blk w' g 43 (matTo j 32) ∧ Below w.heap.size w w'

set_option maxHeartbeats 1000000 in
theorem square_c (g j : Nat) (w : World) (h : Blk w g 43 (matTo j 32)) :
    Calls Try.prog 25 #[.pointer (some ⟨g, 0, none⟩)] w (MFresh w (j + j)) := by
  have hz := zero_mat
  have H := hide h
  clear h
  go_enter Try.func25, Try.ntmps25
  go_wp2_with fail
  have h0 : Blk (w.alloc (.cells matZero 43)) w.heap.size 43 (matTo (j + j) 0) := by rw [matTo_none]; exact Blk.new _ _ _
  have hb : Below w.heap.size w (w.alloc (.cells matZero 43)) := (Below.refl _ _).alloc (Nat.le_refl _) _
  clear hz
  generalize w.alloc (.cells matZero 43) = w1 at *
  generalize hG : w.heap.size = go at *
  have HG := hide hG
  clear hG
  go_loopw [5] (fun i wr => ∃ k : Nat, k ≤ 32 ∧ i = .int .i64 k ∧ Blk wr go 43 (matTo (j + j) k) ∧ Below go w wr) (fun i _ => 32 - (intOf i).toNat)
  case atStart => exact ⟨0, by omega, rfl, h0, hb⟩
  case round =>
    clear h0 hb
    obtain ⟨k, hk, rfl, h0, hb⟩ := hrel
    by_cases hlt : k < 32
    · have hm : Blk wr g 43 (matTo j 32) := H.out.below hb (by rw [← HG.out]; exact H.out.lt)
      have hc := mat_cell hm k hlt
      have hd : wr.cell? ⟨go, k, none⟩ = some (.int .u32 0) := by rw [h0.cell, matTo_get _ _ _ hlt, if_neg (by omega)]
      have hf := h0.froz k
      have HT := hide (matTo_succ (j + j) k hlt)
      have HJ := hide (stN_add j j (1#32 <<< k))
      have H0 := hide h0
      have HB := hide hb
      have HM := hide hm
      clear h0 hb hm
      go_wp2_with fail
      refine (times_c g j (stN j (1#32 <<< k)) _ HM.out).mono ?_
      rintro e w2 ⟨rfl, rfl⟩
      go_wp2_with fail
      go_roundw
      case rel => exact ⟨k + 1, by omega, by go_num, by rw [← HT.out, HJ.out]; exact H0.out.put k _, HB.out.setCell (p := ⟨go, k, none⟩) (Nat.le_refl _) _⟩
      case measure => simp [intOf]; omega
    · obtain rfl : k = 32 := by omega
      have H0 := hide h0
      have HB := hide hb
      clear h0 hb
      go_wp2_with fail
      go_ret
      exact ⟨go, rfl, by rw [HG.out]; exact Nat.le_refl _, H0.out, by rw [HG.out]; exact HB.out⟩

theorem one_shl : ∀ k : Nat, k < 32 → (2 ^ k % 4294967296 : Int) = u32 (1#32 <<< k) := by decide
theorem zero_spell (x : BitVec 32) : u32 (x >>> 8 ^^^ tab (lo8 x).toNat) = u32 (stN 8 x) := by
  have h := step_spell x 0
  rw [show lo8 x ^^^ 0 = lo8 x from by simp, show ext 0 = 0#32 from rfl, BitVec.xor_zero, u32_shr8, u32_xor] at h
  exact h

set_option maxHeartbeats 1000000 in
theorem zero_c (w : World) : Calls Try.prog 23 #[] w (MFresh w 8) := by
  have HZ := hide zero_tab
  have HZM := hide zero_mat
  go_enter Try.func23, Try.ntmps23
  go_wp2_with fail
  refine (table_c _).mono ?_
  rintro e w1 ⟨rfl, hb⟩
  have hz := HZ.out w1
  go_upto_region 2 with (first
    | (refine wpList_store_mid rfl 36 _ _ rfl w1.heap.size 0 tabAll rfl rfl ((Blk.new w1 36 tabZero).there size_eq) size_tab (tabTo_one 256) ?_))
  obtain ⟨h3, h4⟩ := (Blk.new w1 36 tabZero).over (cs := tabAll) size_eq
  have hb2 : Below w.heap.size w ((w1.alloc (.cells tabZero 36)).setCells w1.heap.size 0 tabAll.toList) := below_grown (hb.alloc hb.size _) h4 (by simp; have := hb.size; omega) hb.size
  clear h4 hz hb
  generalize w1.heap.size = gt at *
  generalize (w1.alloc (.cells tabZero 36)).setCells gt 0 tabAll.toList = w2 at *
  have hz2 := HZM.out w2
  go_wp2_with fail
  have h0 : Blk (w2.alloc (.cells matZero 43)) w2.heap.size 43 (matTo 8 0) := by rw [matTo_none]; exact Blk.new _ _ _
  have ht := h3.alloc (.cells matZero 43)
  have hb := hb2.alloc hb2.size (.cells matZero 43)
  have hgo : w.heap.size ≤ w2.heap.size := hb2.size
  have hne : gt ≠ w2.heap.size := by have := h3.lt; omega
  clear hz2 h3 hb2
  generalize w2.alloc (.cells matZero 43) = w3 at *
  generalize w2.heap.size = go at *
  go_loopw [6] (fun i wr => ∃ k : Nat, k ≤ 32 ∧ i = .int .i64 k ∧ Blk wr go 43 (matTo 8 k) ∧ Blk wr gt 36 tabAll ∧ Below w.heap.size w wr) (fun i _ => 32 - (intOf i).toNat)
  case atStart => exact ⟨0, by omega, rfl, h0, ht, hb⟩
  case round =>
    clear h0 hb ht
    obtain ⟨k, hk, rfl, h0, ht, hb⟩ := hrel
    by_cases hlt : k < 32
    · have hx := one_shl k hlt
      have hd : wr.cell? ⟨go, k, none⟩ = some (.int .u32 0) := by rw [h0.cell, matTo_get _ _ _ hlt, if_neg (by omega)]
      have hf := h0.froz k
      have HT := hide (matTo_succ 8 k hlt)
      have HJ := hide (zero_spell (1#32 <<< k))
      have hc := tab_cell ht (lo8 (1#32 <<< k))
      have hlo := u32_lo (1#32 <<< k)
      have H0 := hide h0
      have HB := hide hb
      have HTB := hide ht
      clear h0 hb ht
      rw [← HJ.out] at HT
      generalize 1#32 <<< k = X at *
      generalize lo8 X = y at *
      have ⟨hl0, hl1⟩ := u8_lt y
      go_wp2_with fail
      go_roundw
      case rel => exact ⟨k + 1, by omega, by go_num, by rw [← HT.out]; exact H0.out.put k _, HTB.out.far (p := ⟨go, k, none⟩) hne _, HB.out.setCell (p := ⟨go, k, none⟩) hgo _⟩
      case measure => simp [intOf]; omega
    · obtain rfl : k = 32 := by omega
      have H0 := hide h0
      have HB := hide hb
      clear h0 hb ht
      go_wp2_with fail
      go_ret
      exact ⟨go, rfl, hgo, H0.out, HB.out⟩
end Go.Proofs.Ytmnebingmedloaa
