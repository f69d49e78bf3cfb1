/- The example calls of package wire's laws: 'awake' returns true; WireCounts, WireInverts. -/
import Derived.Test.YtobcomognkokmaaRefApp
import Derived.Test.YtobcomognkokmaaMethods4
import Derived.Test.YtobcomognkokmaaRefGet3
namespace Go.Proofs.Ytobcomognkokmaa
open Go.ChangeShapes Go.WideShapes Go.ChangeAt Go.RowKit
set_option linter.unusedVariables false

theorem fresh_of {w : World} {l m : List UInt8} (e : Ending) (w' : World) (h : Appends w w.heap.size (.slice none 0 0) l m e w') (hl : l = []) : Fresh w m e w' := by
  subst hl
  obtain ⟨v, he, ho, _, hg, _⟩ := h
  exact ⟨v, he, ho, below_of_grown hg⟩
theorem nilNumber_c (n : Nat) (hn : n < 2 ^ 64) (w : World) : Calls Try.prog 11 #[.slice none 0 0, .int .u64 n] w (Fresh w (enc n)) :=
  (appendNumber_c w.heap.size _ [] n hn w (Ow.nil _ _) (by simp) (Nat.le_refl _)).mono fun e w' h => fresh_of e w' h rfl
theorem nilInt_c (i : Int) (h0 : -9223372036854775808 ≤ i) (h1 : i ≤ 9223372036854775807) (w : World) : Calls Try.prog 13 #[.slice none 0 0, .int .i64 i] w (Fresh w (enc (zig i))) :=
  (appendInt_c w.heap.size _ [] i h0 h1 w (Ow.nil _ _) (by simp) (Nat.le_refl _)).mono fun e w' h => fresh_of e w' h rfl
theorem nilBool_c (b : Bool) (w : World) : Calls Try.prog 15 #[.slice none 0 0, .bool b] w (Fresh w ([bb b])) :=
  (appendBool_c w.heap.size _ [] b w (Ow.nil _ _) (by simp) (Nat.le_refl _)).mono fun e w' h => fresh_of e w' h rfl
theorem nilText_c (s : ByteArray) (hs : s.size ≤ 35184372088832) (w : World) : Calls Try.prog 17 #[.slice none 0 0, .string s] w (Fresh w (encT s)) :=
  (appendText_c w.heap.size _ [] s w (Ow.nil _ _) (by simp) hs (Nat.le_refl _)).mono fun e w' h => fresh_of e w' h rfl
theorem aw0 : enc 0 = ([0] : List UInt8) := by decide +kernel
theorem aw1 : enc 5 = ([1, 5] : List UInt8) := by decide +kernel
theorem aw2 : enc 300 = ([2, 1, 44] : List UInt8) := by decide +kernel
theorem aw3 : enc (zig (-3)) = ([1, 5] : List UInt8) := by decide +kernel
theorem aw4 : [bb true] = ([1] : List UInt8) := by rfl
theorem aw5 : encT ⟨#[97]⟩ = ([1, 1, 97] : List UInt8) := by decide +kernel
theorem aw6 : rNum ([1, 5], 0) = (([], 0), 5) := by decide +kernel

set_option maxHeartbeats 2000000 in
theorem awake_c (w : World) : Calls Try.prog 10 #[] w fun e w' => e = .returned (.bool true) ∧ Below w.heap.size w w' := by
  have HB0 := hide (Below.refl w.heap.size w)
  have HC : Hid ((#[.int .u8 1, .int .u8 5] : Array Value).toList = ([1, 5] : List UInt8).map bv) := by unfold Hid; rfl
  go_enter Try.func10, Try.ntmps10
  go_wp2_with fail
  refine (nilNumber_c 0 (by decide) _).mono ?_
  rintro e w1 ⟨v1, rfl, ho, hb⟩
  rw [aw0] at ho
  have c1 := run_string_bs ho.bs
  replace HB0 := hide (HB0.out.trans (hb.mono HB0.out.size))
  obtain ⟨A1, m1, q1, rfl, hm, _, _⟩ := ho.formN
  clear ho hb hm
  go_wp2_with fail
  refine (nilNumber_c 5 (by decide) _).mono ?_
  rintro e w2 ⟨v2, rfl, ho, hb⟩
  rw [aw1] at ho
  have c2 := run_string_bs ho.bs
  replace HB0 := hide (HB0.out.trans (hb.mono HB0.out.size))
  obtain ⟨A2, m2, q2, rfl, hm, _, _⟩ := ho.formN
  clear ho hb hm
  go_wp2_with fail
  refine (nilNumber_c 300 (by decide) _).mono ?_
  rintro e w3 ⟨v3, rfl, ho, hb⟩
  rw [aw2] at ho
  have c3 := run_string_bs ho.bs
  replace HB0 := hide (HB0.out.trans (hb.mono HB0.out.size))
  obtain ⟨A3, m3, q3, rfl, hm, _, _⟩ := ho.formN
  clear ho hb hm
  go_wp2_with fail
  refine (nilInt_c (-3) (by decide) (by decide) _).mono ?_
  rintro e w4 ⟨v4, rfl, ho, hb⟩
  rw [aw3] at ho
  have c4 := run_string_bs ho.bs
  replace HB0 := hide (HB0.out.trans (hb.mono HB0.out.size))
  obtain ⟨A4, m4, q4, rfl, hm, _, _⟩ := ho.formN
  clear ho hb hm
  go_wp2_with fail
  refine (nilBool_c true _).mono ?_
  rintro e w5 ⟨v5, rfl, ho, hb⟩
  rw [aw4] at ho
  have c5 := run_string_bs ho.bs
  replace HB0 := hide (HB0.out.trans (hb.mono HB0.out.size))
  obtain ⟨A5, m5, q5, rfl, hm, _, _⟩ := ho.formN
  clear ho hb hm
  go_wp2_with fail
  refine (nilText_c ⟨#[97]⟩ (by decide) _).mono ?_
  rintro e w6 ⟨v6, rfl, ho, hb⟩
  rw [aw5] at ho
  have c6 := run_string_bs ho.bs
  replace HB0 := hide (HB0.out.trans (hb.mono HB0.out.size))
  obtain ⟨A6, m6, q6, rfl, hm, _, _⟩ := ho.formN
  clear ho hb hm
  go_wp2_with fail
  refine (newReader_c _ [1, 5] _ (Bs.made _ _ _ HC.out 2 rfl (by decide)) (by decide)).mono ?_
  rintro e w7 ⟨b7, k7, rfl, hr7, hb7, _, _⟩
  replace HB0 := hide ((HB0.out.alloc HB0.out.size _).trans (hb7.mono (by have := HB0.out.size; simp; omega)))
  clear hr7 hb7
  go_wp2_with fail
  refine (newReader_c _ [1, 5] _ (Bs.made _ _ _ HC.out 2 rfl (by decide)) (by decide)).mono ?_
  rintro e w8 ⟨b8, k8, rfl, hr8, hb8, hge, _⟩
  have HG : Hid (w.heap.size ≤ b8) := hide (by have := HB0.out.size; simp at hge; omega)
  replace HB0 := hide ((HB0.out.alloc HB0.out.size _).trans (hb8.mono (by have := HB0.out.size; simp; omega)))
  have HR := hide (rdNumber_c b8 k8 [1, 5] 0 _ hr8 (by decide))
  rw [aw6] at HR
  clear hr8 hb8 hge
  go_wp2_with fail
  refine HR.out.mono ?_
  rintro e w9 ⟨rfl, hr, ht⟩
  have HT := hide ht
  clear hr ht
  go_wp2_with fail
  go_ret
  exact ⟨rfl, Below.touch HB0.out HT.out (by simp; exact HG.out) HB0.out.size⟩
end Go.Proofs.Ytobcomognkokmaa
