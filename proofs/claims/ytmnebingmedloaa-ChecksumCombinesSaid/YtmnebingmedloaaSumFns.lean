/- Package checksum and its reference, function by function: Update, Sum. -/
import Derived.Test.YtmnebingmedloaaCrcFns
namespace Go.Proofs.Ytmnebingmedloaa
open Go.ChangeShapes Go.WideShapes Go.ChangeAt Go.RowKit
set_option linter.unusedVariables false
attribute [local go_sem] u32_xor u32_not

theorem lo_xor (x : BitVec 32) (c : UInt8) : bits .xor .u8 (u32 x % 256) (u8 c) = u8 (lo8 x ^^^ c) := by rw [u32_lo, u8_xor]
theorem step_spell (x : BitVec 32) (c : UInt8) : bits .xor .u32 (u32 x / 256) (u32 (tab (lo8 x ^^^ c).toNat)) = u32 (stN 8 (x ^^^ ext c)) := by
  rw [u32_shr8, u32_xor, ← table_step]
  rfl
theorem tab_cell {w : World} {g : Nat} (h : Blk w g 36 tabAll) (y : UInt8) : w.cell? ⟨g, (u8 y).toNat, none⟩ = some (.int .u32 (u32 (tab y.toNat))) := by
  have h1 : (u8 y).toNat = y.toNat := by unfold u8; omega
  have h2 := y.toNat_lt
  rw [h.cell, h1]
  exact (tabTo_get 256 y.toNat (by omega)).trans (by rw [if_pos (by omega)])

set_option maxHeartbeats 1000000 in
theorem update_c (s : BitVec 32) (v : Value) (l : List UInt8) (w : World) (h : Bs w v l) :
    Calls Try.prog 12 #[.int .u32 (u32 s), v] w fun e w' => e = .returned (.int .u32 (u32 (upd s l))) ∧ Below w.heap.size w w' := by
  obtain ⟨A, c, rfl, hc, hm⟩ := h.form
  generalize hn : l.length = n at *
  have Hn := hide hn
  clear hn
  have HZ := hide zero_tab
  go_enter Try.func12, Try.ntmps12
  go_wp2_with fail
  refine (table_c _).mono ?_
  rintro e w1 ⟨rfl, hb⟩
  have hz := HZ.out w1
  go_upto_region 2 with (first
    | (refine wpList_store_mid rfl 36 _ _ rfl w1.heap.size 0 tabAll rfl rfl ((Blk.new w1 36 tabZero).there size_eq) size_tab (tabTo_one 256) ?_))
  obtain ⟨h3, h4⟩ := (Blk.new w1 36 tabZero).over (cs := tabAll) size_eq
  have hb2 : Below w.heap.size w ((w1.alloc (.cells tabZero 36)).setCells w1.heap.size 0 tabAll.toList) := below_grown (hb.alloc hb.size _) h4 (by simp; have := hb.size; omega) hb.size
  have hm : bits BinOp.xor IntKind.u32 (if IntKind.u32.signed = true then -1 else IntKind.u32.max) (u32 s) = u32 (~~~ s) := u32_not s
  rw [hm]
  clear hm h4 hz
  generalize w1.heap.size = g at *
  generalize (w1.alloc (.cells tabZero 36)).setCells g 0 tabAll.toList = w2 at *
  have h2 := h.step hb2
  go_wp2_with fail
  go_loop [6, 14] (fun x i => ∃ k : Nat, k ≤ n ∧ i = .int .i64 k ∧ x = .int .u32 (u32 (reg (~~~ s) (l.take k)))) (fun _ i => n - (intOf i).toNat)
  case atStart => exact ⟨0, Nat.zero_le _, rfl, rfl⟩
  case round =>
    obtain ⟨k, hk, rfl, rfl⟩ := hrel
    by_cases hlt : k < n
    · obtain ⟨b, off, y, rfl, hbl, hy, hcell⟩ := h2.at_ hlt
      have HS := hide (reg_take_succ (~~~ s) l k y hy)
      clear hy
      generalize reg (~~~ s) (l.take k) = R at *
      have hx := lo_xor R y
      have ht := tab_cell h3 (lo8 R ^^^ y)
      have HT := hide (step_spell R y)
      generalize lo8 R ^^^ y = yy at *
      have ⟨hl0, hl1⟩ := u8_lt yy
      go_wp2_with fail
      go_round
      case rel => exact ⟨k + 1, by omega, by go_num, by rw [HS.out, ← HT.out]⟩
      case measure => simp [intOf]; omega
    · obtain rfl : k = n := by omega
      rw [List.take_of_length_le (by rw [Hn.out]; exact Nat.le_refl _)]
      go_wp2_with fail
      go_ret
      exact ⟨by unfold upd; rw [← u32_not]; rfl, hb2⟩

theorem sum_c (v : Value) (l : List UInt8) (w : World) (h : Bs w v l) :
    Calls Try.prog 10 #[v] w fun e w' => e = .returned (.int .u32 (u32 (upd 0#32 l))) ∧ Below w.heap.size w w' := by
  have H := hide h
  clear h
  go_enter Try.func10, Try.ntmps10
  go_wp2_with fail
  refine (update_c 0#32 _ l _ H.out).mono ?_
  rintro e w1 ⟨rfl, hb⟩
  go_wp2_with fail
  go_ret
  exact ⟨rfl, hb⟩

theorem refUpdate_c (s : BitVec 32) (v : Value) (l : List UInt8) (w : World) (h : Bs w v l) :
    Calls Try.prog 13 #[.int .u32 (u32 s), v] w fun e w' => e = .returned (.int .u32 (u32 (upd s l))) ∧ w = w' := by
  have H := hide h
  clear h
  have hm := u32_not s
  go_enter Try.func13, Try.ntmps13
  go_wp2_with fail
  refine (register_c (~~~ s) _ l _ H.out).mono ?_
  rintro e w1 ⟨rfl, rfl⟩
  go_wp2_with fail
  go_ret
  exact ⟨by unfold upd; rw [← u32_not]; rfl, rfl⟩

theorem refSum_c (v : Value) (l : List UInt8) (w : World) (h : Bs w v l) :
    Calls Try.prog 11 #[v] w fun e w' => e = .returned (.int .u32 (u32 (upd 0#32 l))) ∧ w = w' := by
  have H := hide h
  clear h
  go_enter Try.func11, Try.ntmps11
  go_wp2_with fail
  refine (refUpdate_c 0#32 _ l _ H.out).mono ?_
  rintro e w1 ⟨rfl, rfl⟩
  go_wp2_with fail
  go_ret
  exact ⟨rfl, rfl⟩
end Go.Proofs.Ytmnebingmedloaa
