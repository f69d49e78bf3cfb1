/- A reader's number. -/
import Derived.Test.YtobcomognkokmaaReader
namespace Go.Proofs.Ytobcomognkokmaa
open Go.ChangeShapes Go.WideShapes Go.ChangeAt Go.RowKit
set_option linter.unusedVariables false

theorem or_byte (a : Nat) (x : UInt8) (ha : a < 2 ^ 56) : bits BinOp.or IntKind.u64 ((a : Int) * 256) (u8 x) = ((a * 256 + x.toNat : Nat) : Int) := by
  show IntKind.u64.wrap ((BitVec.ofInt 64 ((a : Int) * 256) ||| BitVec.ofInt 64 (u8 x)).toNat : Int) = _
  have hx := x.toNat_lt
  have e1 : (a : Int) * 256 = ((a * 256 : Nat) : Int) := by simp
  rw [e1, show u8 x = ((x.toNat : Nat) : Int) from rfl, BitVec.ofInt_natCast, BitVec.ofInt_natCast, BitVec.toNat_or, BitVec.toNat_ofNat, BitVec.toNat_ofNat, Nat.mod_eq_of_lt (by omega), Nat.mod_eq_of_lt (by omega)]
  have e2 : a * 256 ||| x.toNat = a * 256 + x.toNat := by
    have := Nat.two_pow_add_eq_or_of_lt (i := 8) (b := x.toNat) (by omega) a
    rw [Nat.mul_comm a 256]
    exact this.symm
  rw [e2]
  simp [IntKind.wrap, IntKind.signed, IntKind.bits]
  omega
theorem num_snoc (l : List UInt8) (x : UInt8) : num (l ++ [x]) = num l * 256 + x.toNat := by unfold num; rw [List.foldl_append]; rfl
theorem num_take (l : List UInt8) (j : Nat) (h : j < l.length) : num (l.take (j + 1)) = num (l.take j) * 256 + l[j].toNat := by
  rw [List.take_succ_eq_append_getElem h, num_snoc]
theorem num_take_lt (l : List UInt8) (j : Nat) (h : l.length ≤ 8) (hj : j < l.length) : num (l.take j) < 2 ^ 56 := by
  have h1 := num_lt (l.take j)
  rw [List.length_take, Nat.min_eq_left (by omega)] at h1
  have h2 : (256 : Nat) ^ j ≤ 256 ^ 7 := Nat.pow_le_pow_right (by omega) (by omega)
  omega

theorem ret_num {z : Int} {b : Nat} (h : z = (b : Int)) : Ending.returned (.tuple #[.int .u64 z, .int .i64 0]) = .returned (.tuple #[.int .u64 b, .int .i64 0]) := by rw [h]
/-- What number does. -/
def NumGot (w : World) (b : Nat) (k : Option Nat) (n : Nat) (t : List UInt8) (c : Int) (e : Ending) (w' : World) : Prop :=
  e = .returned (.tuple #[.int .u64 n, .int .i64 0]) ∧ Rd w' b k t c ∧ w.grownBy w' (some b)
def NumBad (w : World) (b : Nat) (k : Option Nat) (m : Nat) (c : Int) (e : Ending) (w' : World) : Prop :=
  e = .returned (.tuple #[.int .u64 0, .int .i64 11]) ∧ (∃ l', Rd w' b k l' c ∧ l'.length ≤ m) ∧ w.grownBy w' (some b)

set_option maxHeartbeats 1000000 in
theorem number_nil (b : Nat) (k : Option Nat) (c : Int) (w : World) (h : Rd w b k [] c) :
    Calls Try.prog 38 #[.pointer (some ⟨b, 0, none⟩)] w (NumBad w b k 0 c) := by
  go_enter Try.func38, Try.ntmps38
  go_wp2_with fail
  refine (take_no b k [] c 1 w h (by simp) (by simp)).mono ?_
  rintro e w1 ⟨rfl, rfl⟩
  go_wp2_with fail
  go_ret2
  exact ⟨rfl, ⟨[], h, Nat.le_refl _⟩, grown_refl _ _⟩

set_option maxHeartbeats 1000000 in
theorem number_high (b : Nat) (k : Option Nat) (x : UInt8) (t : List UInt8) (c : Int) (w : World) (h : Rd w b k (x :: t) c) (hl : (x :: t).length ≤ 140737488355328) (hx : 8 < x.toNat) :
    Calls Try.prog 38 #[.pointer (some ⟨b, 0, none⟩)] w (NumBad w b k (x :: t).length c) := by
  have hu : (8 : Int) < u8 x := by unfold u8; omega
  have H := hide h
  clear h hx
  go_enter Try.func38, Try.ntmps38
  go_wp2_with fail
  refine (take_yes b k (x :: t) c 1 w H.out (by simp) hl).mono ?_
  rintro e w1 ⟨v1, rfl, hb1, hk1, hr1, hg1⟩
  obtain ⟨A1, c1, rfl, h11, h12⟩ := hb1.form
  obtain ⟨b1, off1, y, rfl, hlt1, hy, hc1⟩ := hb1.at_ (k := 0) (by simp)
  obtain rfl : x = y := by simpa using hy
  have HR := hide hr1
  have HG := hide hg1
  clear hr1 hg1 hb1 hk1 hy
  simp only [Nat.add_zero] at hc1
  go_wp2_with fail
  go_ret2
  exact ⟨rfl, ⟨_, HR.out, by simp⟩, HG.out⟩

set_option maxHeartbeats 1000000 in
theorem number_short (b : Nat) (k : Option Nat) (x : UInt8) (t : List UInt8) (c : Int) (w : World) (h : Rd w b k (x :: t) c) (hl : (x :: t).length ≤ 140737488355328) (hx : x.toNat ≤ 8) (ht : t.length < x.toNat) :
    Calls Try.prog 38 #[.pointer (some ⟨b, 0, none⟩)] w (NumBad w b k (x :: t).length c) := by
  have hu : u8 x ≤ 8 := by unfold u8; omega
  have hu0 : 0 ≤ u8 x := (u8_lt x).1
  have H := hide h
  have HT := hide ht
  have HL := hide hl
  clear h hx ht hl
  go_enter Try.func38, Try.ntmps38
  go_wp2_with fail
  refine (take_yes b k (x :: t) c 1 w H.out (by simp) HL.out).mono ?_
  rintro e w1 ⟨v1, rfl, hb1, hk1, hr1, hg1⟩
  obtain ⟨A1, c1, rfl, h11, h12⟩ := hb1.form
  obtain ⟨b1, off1, y, rfl, hlt1, hy, hc1⟩ := hb1.at_ (k := 0) (by simp)
  obtain rfl : x = y := by simpa using hy
  have HR : Hid (Rd w1 b k t c) := hide (by simpa using hr1)
  have HG := hide hg1
  clear hr1 hg1 hb1 hk1 hy
  simp only [Nat.add_zero] at hc1
  go_wp2_with fail
  refine (takeZ_no b k t c x.toNat (u8 x) rfl _ HR.out HT.out (by have := HL.out; simp at this; omega)).mono ?_
  rintro e w2 ⟨rfl, rfl⟩
  go_wp2_with fail
  go_ret2
  exact ⟨rfl, ⟨_, HR.out, by simp⟩, HG.out⟩

set_option maxHeartbeats 1000000 in
theorem number_zero (b : Nat) (k : Option Nat) (x : UInt8) (t : List UInt8) (c : Int) (w : World) (h : Rd w b k (x :: 0 :: t) c) (hl : (x :: 0 :: t).length ≤ 140737488355328) (hx : x.toNat ≤ 8) (h0 : 0 < x.toNat) (ht : x.toNat ≤ t.length + 1) :
    Calls Try.prog 38 #[.pointer (some ⟨b, 0, none⟩)] w (NumBad w b k (x :: 0 :: t).length c) := by
  have hu : u8 x ≤ 8 := by unfold u8; omega
  have hu0 : 0 ≤ u8 x := (u8_lt x).1
  have H := hide h
  have HT := hide ht
  have HL := hide hl
  have HX := hide hx
  have H0 := hide h0
  clear h hx ht hl h0
  go_enter Try.func38, Try.ntmps38
  go_wp2_with fail
  refine (take_yes b k (x :: 0 :: t) c 1 w H.out (by simp) HL.out).mono ?_
  rintro e w1 ⟨v1, rfl, hb1, hk1, hr1, hg1⟩
  obtain ⟨A1, c1, rfl, h11, h12⟩ := hb1.form
  obtain ⟨b1, off1, y, rfl, hlt1, hy, hc1⟩ := hb1.at_ (k := 0) (by simp)
  obtain rfl : x = y := by simpa using hy
  have HR : Hid (Rd w1 b k (0 :: t) c) := hide (by simpa using hr1)
  have HG := hide hg1
  clear hr1 hg1 hb1 hk1 hy
  simp only [Nat.add_zero] at hc1
  go_wp2_with fail
  refine (takeZ_yes b k (0 :: t) c x.toNat (u8 x) rfl _ HR.out HT.out (by have := HL.out; simp at this ⊢; omega)).mono ?_
  rintro e w2 ⟨v2, rfl, hb2, hk2, hr2, hg2⟩
  obtain ⟨m, hm⟩ : ∃ m, x.toNat = m + 1 := ⟨x.toNat - 1, by have := H0.out; omega⟩
  have hlen : ((0 :: t).take x.toNat).length = m + 1 := by rw [List.length_take, List.length_cons, Nat.min_eq_left HT.out, hm]
  obtain ⟨A2, c2, rfl, h21, h22⟩ := hb2.form
  rw [hlen] at hb2 h21
  obtain ⟨b2, off2, y, rfl, hlt2, hy, hc2⟩ := hb2.at_ (k := 0) (by omega)
  obtain rfl : 0 = y := by rw [hm] at hy; simpa using hy
  rw [show u8 0 = 0 from rfl] at hc2
  have HG2 := hide (grown_trans HG.out hg2)
  have HR2 := hide hr2
  rw [hlen]
  clear hr2 hg2 hb2 hk2 hy hm hlen
  simp only [Nat.add_zero] at hc2
  have hq : ((0 : Int) < ((m + 1 : Nat) : Int)) := by omega
  go_wp2_with fail
  go_ret2
  exact ⟨rfl, ⟨_, HR2.out, by simp; omega⟩, HG2.out⟩

set_option maxHeartbeats 2000000 in
theorem number_some (b : Nat) (k : Option Nat) (x : UInt8) (t : List UInt8) (c : Int) (w : World) (h : Rd w b k (x :: t) c) (hl : (x :: t).length ≤ 140737488355328) (hx : x.toNat ≤ 8) (ht : x.toNat ≤ t.length) (h0 : ¬ (0 < x.toNat ∧ t.headD 1 = 0)) :
    Calls Try.prog 38 #[.pointer (some ⟨b, 0, none⟩)] w (NumGot w b k (num (t.take x.toNat)) (t.drop x.toNat) c) := by
  have hu : u8 x ≤ 8 := by unfold u8; omega
  have hu0 : 0 ≤ u8 x := (u8_lt x).1
  have H := hide h
  have HT := hide ht
  have HL := hide hl
  have HX := hide hx
  have H0 := hide h0
  clear h hx ht hl h0
  go_enter Try.func38, Try.ntmps38
  go_wp2_with fail
  refine (take_yes b k (x :: t) c 1 w H.out (by simp) HL.out).mono ?_
  rintro e w1 ⟨v1, rfl, hb1, hk1, hr1, hg1⟩
  obtain ⟨A1, c1, rfl, h11, h12⟩ := hb1.form
  obtain ⟨b1, off1, y, rfl, hlt1, hy, hc1⟩ := hb1.at_ (k := 0) (by simp)
  obtain rfl : x = y := by simpa using hy
  have HR : Hid (Rd w1 b k t c) := hide (by simpa using hr1)
  have HG := hide hg1
  clear hr1 hg1 hb1 hk1 hy
  simp only [Nat.add_zero] at hc1
  go_wp2_with fail
  refine (takeZ_yes b k t c x.toNat (u8 x) rfl _ HR.out HT.out (by have := HL.out; simp at this ⊢; omega)).mono ?_
  rintro e w2 ⟨v2, rfl, hb2, hk2, hr2, hg2⟩
  have HG2 := hide (grown_trans HG.out hg2)
  have HR2 := hide hr2
  have hlen : (t.take x.toNat).length = x.toNat := by rw [List.length_take, Nat.min_eq_left HT.out]
  have hnz : ∀ y, (t.take x.toNat)[0]? = some y → y ≠ 0 := by
    intro y hy e
    have h1 : 0 < x.toNat := by have := (List.getElem?_eq_some_iff.1 hy).1; omega
    apply H0.out
    refine ⟨h1, ?_⟩
    cases t with
    | nil => simp at hy
    | cons z r =>
      rw [List.getElem?_take, if_pos h1] at hy
      simp at hy
      rw [List.headD_cons, hy, e]
  obtain ⟨l2, hl2⟩ : ∃ l2, l2 = t.take x.toNat := ⟨_, rfl⟩
  rw [← hl2] at hb2 hlen hnz ⊢
  have HE := hide hl2
  have hm8 : l2.length ≤ 8 := by rw [hlen]; exact HX.out
  clear hr2 hg2 hl2 hk2
  obtain ⟨A2, c2, rfl, h21, h22⟩ := hb2.form
  have HB2 := hide hb2
  have HNZ := hide hnz
  clear hb2 hlen hnz
  by_cases hz : l2.length = 0
  · have hnil : l2 = [] := List.eq_nil_of_length_eq_zero hz
    subst hnil
    clear hm8 hz h21
    go_wp2_with fail
    go_loop [7, 47] (fun n i => n = .int .u64 0 ∧ i = .int .i64 0) (fun _ _ => 0)
    case atStart => exact ⟨rfl, rfl⟩
    case round =>
      obtain ⟨rfl, rfl⟩ := hrel
      go_wp2_with fail
      go_ret2
      exact ⟨ret_num (by rw [← HE.out]; rfl), HR2.out, HG2.out⟩
  · have h21' := hide h21
    obtain ⟨b2, off2, y, rfl, hlt2, hy, hc2⟩ := HB2.out.at_ (k := 0) (by omega)
    have hy0 : u8 y ≠ 0 := by
      have := HNZ.out y hy
      intro e; apply this; apply UInt8.toNat_inj.1
      unfold u8 at e
      have : y.toNat = 0 := by omega
      simpa using this
    have hyf : (u8 y == 0) = false := by simpa using hy0
    have hq : ((0 : Int) < (l2.length : Int)) := by omega
    obtain ⟨m, hm⟩ : ∃ m, m = l2.length := ⟨_, rfl⟩
    have HM := hide hm
    rw [← hm] at hm8 hz h21 hq ⊢
    clear hm hy hy0
    simp only [Nat.add_zero] at hc2
    go_wp2_with fail
    go_loop [7, 47] (fun n i => ∃ j : Nat, j ≤ m ∧ i = .int .i64 j ∧ n = .int .u64 (num (l2.take j))) (fun _ i => m - (intOf i).toNat)
    case atStart => exact ⟨0, Nat.zero_le _, rfl, rfl⟩
    case round =>
      clear hc2 hyf hq
      obtain ⟨j, hj, rfl, rfl⟩ := hrel
      by_cases hlt : j < m
      · have hjl : j < l2.length := by rw [← HM.out]; exact hlt
        have hs := num_take l2 j hjl
        have hn := num_take_lt l2 j (by rw [← HM.out]; exact hm8) hjl
        obtain ⟨bb, oo, z, e1, _, hzz, hc3⟩ := HB2.out.at_ (k := j) hjl
        injection e1 with e1
        injection e1 with e1 e2
        subst e1 e2
        obtain rfl : l2[j] = z := by rw [List.getElem?_eq_getElem hjl] at hzz; injection hzz
        have HS := hide hs
        clear hs hzz
        obtain ⟨a, ha⟩ : ∃ a, a = num (l2.take j) := ⟨_, rfl⟩
        rw [← ha] at hn HS ⊢
        obtain ⟨x2, hx2⟩ : ∃ x2, x2 = l2[j] := ⟨_, rfl⟩
        rw [← hx2] at hc3 HS
        have HX2 := u8_lt x2
        obtain ⟨q1, q2⟩ := HX2
        clear ha hx2 hjl
        go_wp2_with fail
        go_round
        case rel => exact ⟨j + 1, by omega, by go_num, by rw [HS.out, ← or_byte a x2 hn]⟩
        case measure => simp [intOf]; omega
      · obtain rfl : j = m := by omega
        go_wp2_with fail
        go_ret2
        exact ⟨ret_num (by rw [← HE.out, HM.out, List.take_length]), HR2.out, HG2.out⟩
end Go.Proofs.Ytobcomognkokmaa
