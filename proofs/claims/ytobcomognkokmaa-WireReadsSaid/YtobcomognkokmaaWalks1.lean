/- The walks of WireCounts, WireInverts, WireStops. -/
import Derived.Test.YtobcomognkokmaaAwake
namespace Go.Proofs.Ytobcomognkokmaa
open Go.ChangeShapes Go.WideShapes Go.ChangeAt Go.RowKit
set_option linter.unusedVariables false

theorem inv_num (n : Nat) (hn : n < 2 ^ 64) (t : List UInt8) : rNum (enc n ++ t, 0) = ((t, 0), n) := by simp [rNum, parseN_enc n hn]
theorem inv_int (i : Int) (h0 : -9223372036854775808 ≤ i) (h1 : i ≤ 9223372036854775807) (t : List UInt8) : rInt (enc (zig i) ++ t, 0) = ((t, 0), i) := by
  unfold rInt; rw [inv_num _ (zig_lt i h0 h1), zag_zig]
theorem inv_bool (x : Bool) (t : List UInt8) : rBool ([bb x] ++ t, 0) = ((t, 0), x) := by cases x <;> rfl
theorem inv_text (s : ByteArray) (hs : s.size < 2 ^ 64) (t : List UInt8) : rText (encT s ++ t, 0) = ((t, 0), s.data.toList) := by
  have hl : s.data.toList.length = s.size := rfl
  unfold rText encT
  simp only [if_true]
  rw [List.append_assoc, parseN_enc _ hs]
  simp only
  rw [if_neg (by rw [List.length_append]; omega), ← hl, List.drop_left, List.take_left]
theorem inv_count (x : Int) (n : Nat) (hn : n < 2 ^ 64) (h : ¬ x < (n : Int)) (t : List UInt8) : rCount x (enc n ++ t, 0) = ((t, 0), n) := by
  unfold rCount
  simp [parseN_enc n hn, h]
theorem inv_large (x : Int) (n : Nat) (hn : n < 2 ^ 64) (h : x < (n : Int)) (t : List UInt8) : rCount x (enc n ++ t, 0) = (bad 8, 0) := by
  unfold rCount
  simp [parseN_enc n hn, h]
theorem str_same (s : ByteArray) : (⟨s.data.toList.toArray⟩ : ByteArray) = s := by cases s; simp
theorem enc_len (n : Nat) (hn : n < 2 ^ 64) : (enc n).length ≤ 9 := by have := blen_le 8 n (by omega); simp [enc, dig_len]; omega
theorem u64_nat (a : Int) (w : (Lit.int .u64 a).wf = true) : ∃ n : Nat, a = n ∧ n < 2 ^ 64 := by
  have ⟨h0, h1⟩ : 0 ≤ a ∧ a ≤ 18446744073709551615 := by simpa [Lit.wf, IntKind.min, IntKind.max, IntKind.signed, IntKind.bits] using w
  exact ⟨a.toNat, by omega, by omega⟩
theorem i64_bd (a : Int) (w : (Lit.int .i64 a).wf = true) : -9223372036854775808 ≤ a ∧ a ≤ 9223372036854775807 := by
  simpa [Lit.wf, IntKind.min, IntKind.max, IntKind.signed, IntKind.bits] using w

set_option maxHeartbeats 2000000 in
theorem walkWireCounts (W : World) (a0 : Int) (ws0 : (Lit.int .u64 a0).wf = true) (x : Int) (ws1 : (Lit.int .i64 x).wf = true) :
    Calls Try.prog 5 #[.int .u64 a0, .int .i64 x] W fun e w' => e = .returned (.bool true) ∧ Below W.heap.size W w' := by
  obtain ⟨n, rfl, hn⟩ := u64_nat a0 ws0
  obtain ⟨h0, h1⟩ := i64_bd x ws1
  clear ws0 ws1
  by_cases hle : x < (n : Int)
  · by_cases hx : x < 0
    · have hx' : ¬ 0 ≤ x := by omega
      have hge : (0 : Int) ≤ (n : Int) := by omega
      go_enter Try.func5, Try.ntmps5
      go_wp2_with fail
      refine (awake_c _).mono ?_
      rintro e w11 ⟨rfl, hb⟩
      have HB := hide hb
      clear hb
      go_wp2_with fail
      refine (nilNumber_c n hn w11).mono ?_
      rintro e w12 ⟨v, rfl, ho, hb⟩
      have HO := hide ho.bs
      replace HB := hide (HB.out.trans (hb.mono HB.out.size))
      obtain ⟨A, q, c, rfl, hq, _, _⟩ := ho.formN
      clear ho hb hq
      go_wp2_with fail
      refine (newReader_c _ (enc n) w12 HO.out (by have := enc_len n hn; omega)).mono ?_
      rintro e w13 ⟨b, k, rfl, hr, hb, hge, hk⟩
      have HR := hide hr
      have HK : Hid (∀ j, k = some j → j < w13.heap.size) := hide fun j hj => (hk j hj).2
      have HBG : Hid (W.heap.size ≤ b) := hide (Nat.le_trans HB.out.size hge)
      replace HB := hide (HB.out.trans (hb.mono HB.out.size))
      clear hr hb hge hk
      rw [← List.append_nil (enc n)] at HR
      go_wp2_with fail
      have HC := hide (rdCount_c b k (enc n ++ []) (0) x h1 w13 HR.out (by have := enc_len n hn; simp; omega) HK.out)
      rw [inv_large x n hn hle] at HC
      refine HC.out.mono ?_
      rintro e w14 ⟨rfl, hr, ht⟩
      replace HR := hide hr
      replace HB := hide (Below.touch HB.out ht (by simp; exact HBG.out) HB.out.size)
      replace HK : Hid (∀ j, k = some j → j < w14.heap.size) := hide fun j hj => Nat.lt_of_lt_of_le (HK.out j hj) ht.size
      clear hr ht HC
      go_wp2_with fail
      have HC := hide (end_c b k ([]) (8) w14 HR.out )
      refine HC.out.mono ?_
      rintro e w15 ⟨rfl, rfl⟩
      clear HC
      go_wp2_with fail
      go_ret
      exact ⟨rfl, HB.out⟩
    · have hx' : 0 ≤ x := by omega
      have hge : (0 : Int) ≤ (n : Int) := by omega
      go_enter Try.func5, Try.ntmps5
      go_wp2_with fail
      refine (awake_c _).mono ?_
      rintro e w11 ⟨rfl, hb⟩
      have HB := hide hb
      clear hb
      go_wp2_with fail
      refine (nilNumber_c n hn w11).mono ?_
      rintro e w12 ⟨v, rfl, ho, hb⟩
      have HO := hide ho.bs
      replace HB := hide (HB.out.trans (hb.mono HB.out.size))
      obtain ⟨A, q, c, rfl, hq, _, _⟩ := ho.formN
      clear ho hb hq
      go_wp2_with fail
      refine (newReader_c _ (enc n) w12 HO.out (by have := enc_len n hn; omega)).mono ?_
      rintro e w13 ⟨b, k, rfl, hr, hb, hge, hk⟩
      have HR := hide hr
      have HK : Hid (∀ j, k = some j → j < w13.heap.size) := hide fun j hj => (hk j hj).2
      have HBG : Hid (W.heap.size ≤ b) := hide (Nat.le_trans HB.out.size hge)
      replace HB := hide (HB.out.trans (hb.mono HB.out.size))
      clear hr hb hge hk
      rw [← List.append_nil (enc n)] at HR
      go_wp2_with fail
      have HC := hide (rdCount_c b k (enc n ++ []) (0) x h1 w13 HR.out (by have := enc_len n hn; simp; omega) HK.out)
      rw [inv_large x n hn hle] at HC
      refine HC.out.mono ?_
      rintro e w14 ⟨rfl, hr, ht⟩
      replace HR := hide hr
      replace HB := hide (Below.touch HB.out ht (by simp; exact HBG.out) HB.out.size)
      replace HK : Hid (∀ j, k = some j → j < w14.heap.size) := hide fun j hj => Nat.lt_of_lt_of_le (HK.out j hj) ht.size
      clear hr ht HC
      go_wp2_with fail
      have HC := hide (end_c b k ([]) (8) w14 HR.out )
      refine HC.out.mono ?_
      rintro e w15 ⟨rfl, rfl⟩
      clear HC
      go_wp2_with fail
      go_ret
      exact ⟨rfl, HB.out⟩
  · have hx' : 0 ≤ x := by omega
    have hge : (0 : Int) ≤ (n : Int) := by omega
    have hnx : (n : Int) ≤ x := by omega
    go_enter Try.func5, Try.ntmps5
    go_wp2_with fail
    refine (awake_c _).mono ?_
    rintro e w11 ⟨rfl, hb⟩
    have HB := hide hb
    clear hb
    go_wp2_with fail
    refine (nilNumber_c n hn w11).mono ?_
    rintro e w12 ⟨v, rfl, ho, hb⟩
    have HO := hide ho.bs
    replace HB := hide (HB.out.trans (hb.mono HB.out.size))
    obtain ⟨A, q, c, rfl, hq, _, _⟩ := ho.formN
    clear ho hb hq
    go_wp2_with fail
    refine (newReader_c _ (enc n) w12 HO.out (by have := enc_len n hn; omega)).mono ?_
    rintro e w13 ⟨b, k, rfl, hr, hb, hge, hk⟩
    have HR := hide hr
    have HK : Hid (∀ j, k = some j → j < w13.heap.size) := hide fun j hj => (hk j hj).2
    have HBG : Hid (W.heap.size ≤ b) := hide (Nat.le_trans HB.out.size hge)
    replace HB := hide (HB.out.trans (hb.mono HB.out.size))
    clear hr hb hge hk
    rw [← List.append_nil (enc n)] at HR
    go_wp2_with fail
    have HC := hide (rdCount_c b k (enc n ++ []) (0) x h1 w13 HR.out (by have := enc_len n hn; simp; omega) HK.out)
    rw [inv_count x n hn (by omega)] at HC
    refine HC.out.mono ?_
    rintro e w14 ⟨rfl, hr, ht⟩
    replace HR := hide hr
    replace HB := hide (Below.touch HB.out ht (by simp; exact HBG.out) HB.out.size)
    replace HK : Hid (∀ j, k = some j → j < w14.heap.size) := hide fun j hj => Nat.lt_of_lt_of_le (HK.out j hj) ht.size
    clear hr ht HC
    go_wp2_with fail
    have HC := hide (end_c b k ([]) (0) w14 HR.out )
    refine HC.out.mono ?_
    rintro e w15 ⟨rfl, rfl⟩
    clear HC
    go_wp2_with fail
    go_ret
    exact ⟨rfl, HB.out⟩

theorem end_enc (n : Nat) : rEnd (enc n, 0) = 11 := by simp [rEnd, enc]
set_option maxHeartbeats 4000000 in
theorem walkWireInverts (W : World) (a0 : Int) (ws0 : (Lit.int .u64 a0).wf = true) (i : Int) (ws1 : (Lit.int .i64 i).wf = true) (x : Bool) (s : ByteArray) (hsm : s.size ≤ maxLen) :
    Calls Try.prog 8 #[.int .u64 a0, .int .i64 i, .bool x, .string s] W fun e w' => e = .returned (.bool true) ∧ Below W.heap.size W w' := by
  obtain ⟨n, rfl, hn⟩ := u64_nat a0 ws0
  obtain ⟨h0, h1⟩ := i64_bd i ws1
  clear ws0 ws1
  unfold maxLen at hsm
  by_cases h200 : 200 < s.size
  · have hi : (200 : Int) < (s.size : Int) := by omega
    go_enter Try.func8, Try.ntmps8
    go_wp2_with fail
    refine (awake_c _).mono ?_
    rintro e w1 ⟨rfl, hb⟩
    go_wp2_with fail
    go_ret
    exact ⟨rfl, hb⟩
  have hi : ¬ (200 : Int) < (s.size : Int) := by omega
  have hs64 : s.size < 2 ^ 64 := by omega
  have HE := hide (end_enc s.size)
  have hc200 : ¬ (200 : Int) < (s.size : Int) := hi
  have l1 := enc_len n hn
  have l2 := enc_len (zig i) (zig_lt i h0 h1)
  have l3 := enc_len s.size hs64
  have l4 : (encT s).length ≤ 209 := by have : s.data.toList.length = s.size := rfl; simp only [encT, List.length_append]; omega
  have hp : 0 < (enc s.size).length := by simp [enc]
  have HS35 : Hid (s.size ≤ 35184372088832) := hide (by omega)
  have HL0 : Hid (([] : List UInt8).length ≤ 70368744177664) := hide (by simp)
  have HL1 : Hid ((enc n).length ≤ 70368744177664) := hide (by omega)
  have HL2 : Hid ((enc n ++ enc (zig i)).length ≤ 70368744177664) := hide (by simp only [List.length_append]; omega)
  have HL3 : Hid ((enc n ++ enc (zig i) ++ [bb x]).length ≤ 35184372088832) := hide (by simp only [List.length_append, List.length_singleton]; omega)
  have HL4 : Hid ((enc n ++ enc (zig i) ++ [bb x] ++ encT s).length ≤ 70368744177664) := hide (by simp only [List.length_append, List.length_singleton]; omega)
  have HL5 : Hid ((enc n ++ enc (zig i) ++ [bb x] ++ encT s ++ enc s.size).length ≤ 140737488355328) := hide (by simp only [List.length_append, List.length_singleton]; omega)
  have HM1 : Hid ((enc n ++ (enc (zig i) ++ ([bb x] ++ (encT s ++ enc s.size)))).length ≤ 140737488355328) := hide (by simp only [List.length_append, List.length_singleton]; omega)
  have HM2 : Hid ((enc (zig i) ++ ([bb x] ++ (encT s ++ enc s.size))).length ≤ 140737488355328) := hide (by simp only [List.length_append, List.length_singleton]; omega)
  have HM3 : Hid (([bb x] ++ (encT s ++ enc s.size)).length ≤ 140737488355328) := hide (by simp only [List.length_append, List.length_singleton]; omega)
  have HM4 : Hid ((encT s ++ enc s.size).length ≤ 140737488355328) := hide (by simp only [List.length_append]; omega)
  have HM5 : Hid ((enc s.size ++ []).length ≤ 140737488355328) := hide (by simp only [List.length_append, List.length_nil]; omega)
  have hpi : (0 : Int) < ((enc s.size).length : Int) := by omega
  clear l1 l2 l3 l4 hp h200 hsm
  go_enter Try.func8, Try.ntmps8
  go_wp2_with fail
  refine (awake_c _).mono ?_
  rintro e w11 ⟨rfl, hb⟩
  have HB := hide hb
  clear hb
  have HO : Hid (Ow w11 W.heap.size (.slice none 0 0) []) := hide (Ow.nil _ _)
  go_wp2_with fail
  refine (appendNumber_c W.heap.size _ ([]) n hn w11 HO.out (HL0.out) HB.out.size).mono ?_
  rintro e w12 ⟨v, rfl, ho, _, hg, _⟩
  replace HB := hide (below_append HB.out HO.out hg HB.out.size (Nat.le_refl _))
  obtain ⟨A0, q0, c0, rfl, hq, _, _⟩ := ho.formN
  replace HO := hide ho
  clear ho hg hq
  simp only [List.nil_append] at HO
  go_wp2_with fail
  refine (appendInt_c W.heap.size _ (enc n) i h0 h1 w12 HO.out (HL1.out) HB.out.size).mono ?_
  rintro e w13 ⟨v, rfl, ho, _, hg, _⟩
  replace HB := hide (below_append HB.out HO.out hg HB.out.size (Nat.le_refl _))
  obtain ⟨A1, q1, c1, rfl, hq, _, _⟩ := ho.formN
  replace HO := hide ho
  clear ho hg hq
  go_wp2_with fail
  refine (appendBool_c W.heap.size _ (enc n ++ enc (zig i)) x w13 HO.out (HL2.out) HB.out.size).mono ?_
  rintro e w14 ⟨v, rfl, ho, _, hg, _⟩
  replace HB := hide (below_append HB.out HO.out hg HB.out.size (Nat.le_refl _))
  obtain ⟨A2, q2, c2, rfl, hq, _, _⟩ := ho.formN
  replace HO := hide ho
  clear ho hg hq
  go_wp2_with fail
  refine (appendText_c W.heap.size _ (enc n ++ enc (zig i) ++ [bb x]) s w14 HO.out (HL3.out) HS35.out HB.out.size).mono ?_
  rintro e w15 ⟨v, rfl, ho, _, hg, _⟩
  replace HB := hide (below_append HB.out HO.out hg HB.out.size (Nat.le_refl _))
  obtain ⟨A3, q3, c3, rfl, hq, _, _⟩ := ho.formN
  replace HO := hide ho
  clear ho hg hq
  go_wp2_with fail
  refine (appendNumber_c W.heap.size _ (enc n ++ enc (zig i) ++ [bb x] ++ encT s) s.size hs64 w15 HO.out (HL4.out) HB.out.size).mono ?_
  rintro e w16 ⟨v, rfl, ho, _, hg, _⟩
  replace HB := hide (below_append HB.out HO.out hg HB.out.size (Nat.le_refl _))
  obtain ⟨A4, q4, c4, rfl, hq, _, _⟩ := ho.formN
  replace HO := hide ho
  clear ho hg hq
  go_wp2_with fail
  refine (newReader_c _ (enc n ++ enc (zig i) ++ [bb x] ++ encT s ++ enc s.size) w16 HO.out.bs HL5.out).mono ?_
  rintro e w17 ⟨b, k, rfl, hr, hb, hge, hk⟩
  have HR := hide hr
  have HK : Hid (∀ j, k = some j → j < w17.heap.size) := hide fun j hj => (hk j hj).2
  have HBG : Hid (W.heap.size ≤ b) := hide (Nat.le_trans HB.out.size hge)
  replace HB := hide (HB.out.trans (hb.mono HB.out.size))
  clear hr hb hge hk
  simp only [List.append_assoc] at HR
  go_wp2_with fail
  have HC := hide (rdNumber_c b k (enc n ++ (enc (zig i) ++ ([bb x] ++ (encT s ++ enc s.size)))) (0) w17 HR.out HM1.out)
  rw [inv_num n hn] at HC
  refine HC.out.mono ?_
  rintro e w18 ⟨rfl, hr, ht⟩
  replace HR := hide hr
  replace HB := hide (Below.touch HB.out ht (by simp; exact HBG.out) HB.out.size)
  replace HK : Hid (∀ j, k = some j → j < w18.heap.size) := hide fun j hj => Nat.lt_of_lt_of_le (HK.out j hj) ht.size
  clear hr ht HC
  go_wp2_with fail
  have HC := hide (rdInt_c b k (enc (zig i) ++ ([bb x] ++ (encT s ++ enc s.size))) (0) w18 HR.out HM2.out)
  rw [inv_int i h0 h1] at HC
  refine HC.out.mono ?_
  rintro e w19 ⟨rfl, hr, ht⟩
  replace HR := hide hr
  replace HB := hide (Below.touch HB.out ht (by simp; exact HBG.out) HB.out.size)
  replace HK : Hid (∀ j, k = some j → j < w19.heap.size) := hide fun j hj => Nat.lt_of_lt_of_le (HK.out j hj) ht.size
  clear hr ht HC
  go_wp2_with fail
  have HC := hide (rdBool_c b k ([bb x] ++ (encT s ++ enc s.size)) (0) w19 HR.out HM3.out)
  rw [inv_bool x] at HC
  refine HC.out.mono ?_
  rintro e w20 ⟨rfl, hr, ht⟩
  replace HR := hide hr
  replace HB := hide (Below.touch HB.out ht (by simp; exact HBG.out) HB.out.size)
  replace HK : Hid (∀ j, k = some j → j < w20.heap.size) := hide fun j hj => Nat.lt_of_lt_of_le (HK.out j hj) ht.size
  clear hr ht HC
  go_wp2_with fail
  have HC := hide (rdText_c b k (encT s ++ enc s.size) (0) w20 HR.out HM4.out HK.out)
  rw [inv_text s hs64, str_same] at HC
  refine HC.out.mono ?_
  rintro e w21 ⟨rfl, hr, ht⟩
  replace HR := hide hr
  replace HB := hide (Below.touch HB.out ht (by simp; exact HBG.out) HB.out.size)
  replace HK : Hid (∀ j, k = some j → j < w21.heap.size) := hide fun j hj => Nat.lt_of_lt_of_le (HK.out j hj) ht.size
  clear hr ht HC
  go_wp2_with fail
  have HC := hide (left_c b k (enc s.size) (0) w21 HR.out )
  refine HC.out.mono ?_
  rintro e w22 ⟨rfl, rfl⟩
  clear HC
  go_wp2_with fail
  have HC := hide (end_c b k (enc s.size) (0) w21 HR.out )
  rw [HE.out] at HC
  refine HC.out.mono ?_
  rintro e w23 ⟨rfl, rfl⟩
  clear HC
  rw [← List.append_nil (enc s.size)] at HR
  go_wp2_with fail
  have HC := hide (rdCount_c b k (enc s.size ++ []) (0) 200 (by decide) w21 HR.out HM5.out HK.out)
  rw [inv_count 200 s.size hs64 (by omega)] at HC
  refine HC.out.mono ?_
  rintro e w24 ⟨rfl, hr, ht⟩
  replace HR := hide hr
  replace HB := hide (Below.touch HB.out ht (by simp; exact HBG.out) HB.out.size)
  replace HK : Hid (∀ j, k = some j → j < w24.heap.size) := hide fun j hj => Nat.lt_of_lt_of_le (HK.out j hj) ht.size
  clear hr ht HC
  go_wp2_with fail
  have HC := hide (left_c b k ([]) (0) w24 HR.out )
  refine HC.out.mono ?_
  rintro e w25 ⟨rfl, rfl⟩
  clear HC
  go_wp2_with fail
  have HC := hide (end_c b k ([]) (0) w24 HR.out )
  refine HC.out.mono ?_
  rintro e w26 ⟨rfl, rfl⟩
  clear HC
  go_wp2_with fail
  go_ret
  exact ⟨rfl, HB.out⟩
end Go.Proofs.Ytobcomognkokmaa
