/- The example calls of package checksum's laws: 'awake' returns true. The walk of ChecksumSums. -/
import Derived.Test.YtmnebingmedloaaRefSeal
import Derived.Lib.SlBytesConst
namespace Go.Proofs.Ytmnebingmedloaa
open Go.ChangeShapes Go.WideShapes Go.ChangeAt Go.RowKit
set_option linter.unusedVariables false

theorem sum_nine : u32 (upd 0#32 [49, 50, 51, 52, 53, 54, 55, 56, 57]) = 3421780262 := by decide +kernel
theorem sum_nil : u32 (upd 0#32 []) = 0 := by decide +kernel
theorem open_ab : open_ (seal_ [97, 98]) = some [97, 98] := by decide +kernel

set_option maxHeartbeats 1000000 in
theorem awake_c (w : World) : Calls Try.prog 9 #[] w fun e w' => e = .returned (.bool true) ∧ Below w.heap.size w w' := by
  have HAB : Hid ((#[.int .u8 97, .int .u8 98] : Array Value).toList = ([97, 98] : List UInt8).map bv) := by unfold Hid; rfl
  have H9 : Hid ((#[.int .u8 49, .int .u8 50, .int .u8 51, .int .u8 52, .int .u8 53, .int .u8 54, .int .u8 55, .int .u8 56, .int .u8 57] : Array Value).toList = ([49, 50, 51, 52, 53, 54, 55, 56, 57] : List UInt8).map bv) := by unfold Hid; rfl
  have kc := fun (w : World) (C : Array Value) (n c : Nat) => Lib.run_convert_bytes_const (P := Try.prog) w 23 5 C n c Try.underlying23 Try.underlying5
  go_enter Try.func9, Try.ntmps9
  go_wp2_with fail
  refine (seal_c _ [97, 98] _ (Bs.made _ _ _ HAB.out 2 rfl (by decide)) (by decide)).mono ?_
  rintro e w1 ⟨v1, rfl, ho1, hb1⟩
  have HB1 := hide (show Below w.heap.size w w1 from ((Below.refl _ _).alloc (Nat.le_refl _) _).trans (hb1.mono (by simp)))
  have HO1 := hide ho1.bs
  clear ho1 hb1
  go_wp2_with fail
  refine (open_c _ _ _ HO1.out (by decide +kernel)).mono ?_
  rintro e w2 ⟨v2, c, rfl, ho2, hb2, hc⟩
  rw [open_ab] at hc ho2
  obtain rfl : c = 0 := hc
  have HB2 := hide (HB1.out.trans (hb2.mono HB1.out.size))
  have HO2 := hide ho2.bs
  clear ho2 hb2 HB1 HO1
  go_wp2_with fail
  go_outline
  refine (sum_c _ [49, 50, 51, 52, 53, 54, 55, 56, 57] _ (Bs.made _ _ _ H9.out 9 rfl (by decide))).mono ?_
  rintro e w3 ⟨rfl, hb3⟩
  have HB3 := hide ((HB2.out.alloc HB2.out.size _).trans (hb3.mono (by have := HB2.out.size; simp; omega)))
  have HO3 := hide ((HO2.out.alloc _).step hb3)
  clear hb3 HB2 HO2
  have q9 := sum_nine
  go_wp2_with fail
  refine (sum_c _ [] _ (Bs.nil _)).mono ?_
  rintro e w4 ⟨rfl, hb4⟩
  have c1 := run_string_bs (HO3.out.step hb4)
  have q0 := sum_nil
  go_wp2_with fail
  go_ret
  exact ⟨rfl, HB3.out.trans (hb4.mono HB3.out.size)⟩

set_option maxHeartbeats 1000000 in
theorem walkChecksumSums (W : World) (s : Int) (ws : (Lit.int .u32 s).wf = true) (v : Value) (l : List UInt8) (h : Bs W v l) :
    Calls Try.prog 3 #[.int .u32 s, v] W fun e w' => e = .returned (.bool true) ∧ Below W.heap.size W w' := by
  have ⟨s0, s1⟩ : 0 ≤ s ∧ s ≤ 4294967295 := by simpa [Lit.wf, IntKind.min, IntKind.max, IntKind.signed, IntKind.bits] using ws
  obtain ⟨x, rfl⟩ : ∃ x : BitVec 32, s = u32 x := ⟨BitVec.ofNat 32 s.toNat, by unfold u32; rw [BitVec.toNat_ofNat]; omega⟩
  obtain ⟨A, c, rfl, hc, hm⟩ := h.form
  have H := hide h
  clear h s0 s1 ws
  generalize l.length = n at *
  by_cases h300 : 300 < n
  · go_enter Try.func3, Try.ntmps3
    go_wp2_with fail
    refine (awake_c _).mono ?_
    rintro e w1 ⟨rfl, hb⟩
    go_wp2_with fail
    go_ret
    exact ⟨rfl, hb⟩
  · go_enter Try.func3, Try.ntmps3
    go_wp2_with fail
    refine (awake_c _).mono ?_
    rintro e w1 ⟨rfl, hb⟩
    have H1 := hide (H.out.step hb)
    go_wp2_with fail
    refine (sum_c _ l _ H1.out).mono ?_
    rintro e w2 ⟨rfl, hb2⟩
    have H2 := hide (H1.out.step hb2)
    go_wp2_with fail
    refine (refSum_c _ l _ H2.out).mono ?_
    rintro e w3 ⟨rfl, rfl⟩
    go_wp2_with fail
    refine (update_c x _ l _ H2.out).mono ?_
    rintro e w3 ⟨rfl, hb3⟩
    have H3 := hide (H2.out.step hb3)
    go_wp2_with fail
    refine (refUpdate_c x _ l _ H3.out).mono ?_
    rintro e w4 ⟨rfl, rfl⟩
    go_wp2_with fail
    go_ret
    exact ⟨rfl, (hb.trans (hb2.mono hb.size)).trans (hb3.mono (Nat.le_trans hb.size hb2.size))⟩
end Go.Proofs.Ytmnebingmedloaa
