/- A reader's number. -/
import Derived.Test.YtpbgelhjbfckcaaT11
import Derived.Test.YtpbgelhjbfckcaaT01
import Derived.WalkSpells
namespace Go.Proofs.Ytpbgelhjbfckcaa
set_option linter.unusedSimpArgs false
open Go.ChangeShapes Go.WideShapes Go.ChangeAt Go.RowKit
set_option linter.unusedVariables false

theorem or_byte (a : Nat) (x : UInt8) (ha : a < 2 ^ 56) : bits BinOp.or IntKind.u64 ((a : Int) * 256) (u8 x) = ((a * 256 + x.toNat : Nat) : Int) := by
  show IntKind.u64.wrap ((BitVec.ofInt 64 ((a : Int) * 256) ||| BitVec.ofInt 64 (u8 x)).toNat : Int) = _
  have hx := x.toNat_lt
  have e1 : (a : Int) * 256 = ((a * 256 : Nat) : Int) := by simp
  rw [e1, show u8 x = ((x.toNat : Nat) : Int) from rfl, BitVec.ofInt_natCast, BitVec.ofInt_natCast, BitVec.toNat_or, BitVec.toNat_ofNat, BitVec.toNat_ofNat, Nat.mod_eq_of_lt (by omega), Nat.mod_eq_of_lt (by omega)]
  have e2 : a * 256 ||| x.toNat = a * 256 + x.toNat := by
    have := Nat.two_pow_add_eq_or_of_lt (i := 8) (b := x.toNat) (by omega) a
    rw [Nat.mul_comm a 256]
    exact this.symm
  rw [e2]
  simp [IntKind.wrap, IntKind.signed, IntKind.bits]
  omega
theorem num_snoc (l : List UInt8) (x : UInt8) : num (l ++ [x]) = num l * 256 + x.toNat := by unfold num; rw [List.foldl_append]; rfl
theorem num_take (l : List UInt8) (j : Nat) (h : j < l.length) : num (l.take (j + 1)) = num (l.take j) * 256 + l[j].toNat := by
  rw [List.take_succ_eq_append_getElem h, num_snoc]
theorem num_take_lt (l : List UInt8) (j : Nat) (h : l.length ≤ 8) (hj : j < l.length) : num (l.take j) < 2 ^ 56 := by
  have h1 := num_lt (l.take j)
  rw [List.length_take, Nat.min_eq_left (by omega)] at h1
  have h2 : (256 : Nat) ^ j ≤ 256 ^ 7 := Nat.pow_le_pow_right (by omega) (by omega)
  omega

theorem ret_num {z : Int} {b : Nat} (h : z = (b : Int)) : Ending.returned (.tuple #[.int .u64 z, .int .i64 0]) = .returned (.tuple #[.int .u64 b, .int .i64 0]) := by rw [h]
/-- What number does. -/
def NumGot (w : World) (b : Nat) (k : Option Nat) (n : Nat) (t : List UInt8) (c : Int) (e : Ending) (w' : World) : Prop :=
  e = .returned (.tuple #[.int .u64 n, .int .i64 0]) ∧ Rd w' b k t c ∧ w.grownBy w' (some b)
def NumBad (w : World) (b : Nat) (k : Option Nat) (m : Nat) (c : Int) (e : Ending) (w' : World) : Prop :=
  e = .returned (.tuple #[.int .u64 0, .int .i64 11]) ∧ (∃ l', Rd w' b k l' c ∧ l'.length ≤ m) ∧ w.grownBy w' (some b)

set_option maxHeartbeats 1000000 in
theorem number_nil (b : Nat) (k : Option Nat) (c : Int) (w : World) (h : Rd w b k [] c) :
    Calls Try.prog 81 #[.pointer (some ⟨b, 0, none⟩)] w (NumBad w b k 0 c) := by
  go_enter Try.func81, Try.ntmps81
  go_wp2_with fail
  refine (take_no b k [] c 1 w h (by simp) (by simp)).mono ?_
  rintro e w1 ⟨rfl, rfl⟩
  go_wp2_with fail
  go_ret2
  exact ⟨rfl, ⟨[], h, Nat.le_refl _⟩, grown_refl _ _⟩

set_option maxHeartbeats 1000000 in
theorem number_high (b : Nat) (k : Option Nat) (x : UInt8) (t : List UInt8) (c : Int) (w : World) (h : Rd w b k (x :: t) c) (hl : (x :: t).length ≤ 140737488355328) (hx : 8 < x.toNat) :
    Calls Try.prog 81 #[.pointer (some ⟨b, 0, none⟩)] w (NumBad w b k (x :: t).length c) := by
  have hu : (8 : Int) < u8 x := by unfold u8; omega
  have H := hide h
  clear h hx
  go_enter Try.func81, Try.ntmps81
  go_wp2_with fail
  refine (take_yes b k (x :: t) c 1 w H.out (by simp) hl).mono ?_
  rintro e w1 ⟨v1, rfl, hb1, hk1, hr1, hg1⟩
  obtain ⟨A1, c1, rfl, h11, h12⟩ := hb1.form
  obtain ⟨b1, off1, y, rfl, hlt1, hy, hc1⟩ := hb1.at_ (k := 0) (by simp)
  obtain rfl : x = y := by simpa using hy
  have HR := hide hr1
  have HG := hide hg1
  clear hr1 hg1 hb1 hk1 hy
  simp only [Nat.add_zero] at hc1
  go_wp2_with fail
  go_ret2
  exact ⟨rfl, ⟨_, HR.out, by simp⟩, HG.out⟩

set_option maxHeartbeats 1000000 in
theorem number_short (b : Nat) (k : Option Nat) (x : UInt8) (t : List UInt8) (c : Int) (w : World) (h : Rd w b k (x :: t) c) (hl : (x :: t).length ≤ 140737488355328) (hx : x.toNat ≤ 8) (ht : t.length < x.toNat) :
    Calls Try.prog 81 #[.pointer (some ⟨b, 0, none⟩)] w (NumBad w b k (x :: t).length c) := by
  have hu : u8 x ≤ 8 := by unfold u8; omega
  have hu0 : 0 ≤ u8 x := (u8_lt x).1
  have H := hide h
  have HT := hide ht
  have HL := hide hl
  clear h hx ht hl
  go_enter Try.func81, Try.ntmps81
  go_wp2_with fail
  refine (take_yes b k (x :: t) c 1 w H.out (by simp) HL.out).mono ?_
  rintro e w1 ⟨v1, rfl, hb1, hk1, hr1, hg1⟩
  obtain ⟨A1, c1, rfl, h11, h12⟩ := hb1.form
  obtain ⟨b1, off1, y, rfl, hlt1, hy, hc1⟩ := hb1.at_ (k := 0) (by simp)
  obtain rfl : x = y := by simpa using hy
  have HR : Hid (Rd w1 b k t c) := hide (by simpa using hr1)
  have HG := hide hg1
  clear hr1 hg1 hb1 hk1 hy
  simp only [Nat.add_zero] at hc1
  go_wp2_with fail
  refine (takeZ_no b k t c x.toNat (u8 x) rfl _ HR.out HT.out (by have := HL.out; simp at this; omega)).mono ?_
  rintro e w2 ⟨rfl, rfl⟩
  go_wp2_with fail
  go_ret2
  exact ⟨rfl, ⟨_, HR.out, by simp⟩, HG.out⟩

set_option maxHeartbeats 1000000 in
theorem number_zero (b : Nat) (k : Option Nat) (x : UInt8) (t : List UInt8) (c : Int) (w : World) (h : Rd w b k (x :: 0 :: t) c) (hl : (x :: 0 :: t).length ≤ 140737488355328) (hx : x.toNat ≤ 8) (h0 : 0 < x.toNat) (ht : x.toNat ≤ t.length + 1) :
    Calls Try.prog 81 #[.pointer (some ⟨b, 0, none⟩)] w (NumBad w b k (x :: 0 :: t).length c) := by
  have hu : u8 x ≤ 8 := by unfold u8; omega
  have hu0 : 0 ≤ u8 x := (u8_lt x).1
  have H := hide h
  have HT := hide ht
  have HL := hide hl
  have HX := hide hx
  have H0 := hide h0
  clear h hx ht hl h0
  go_enter Try.func81, Try.ntmps81
  go_wp2_with fail
  refine (take_yes b k (x :: 0 :: t) c 1 w H.out (by simp) HL.out).mono ?_
  rintro e w1 ⟨v1, rfl, hb1, hk1, hr1, hg1⟩
  obtain ⟨A1, c1, rfl, h11, h12⟩ := hb1.form
  obtain ⟨b1, off1, y, rfl, hlt1, hy, hc1⟩ := hb1.at_ (k := 0) (by simp)
  obtain rfl : x = y := by simpa using hy
  have HR : Hid (Rd w1 b k (0 :: t) c) := hide (by simpa using hr1)
  have HG := hide hg1
  clear hr1 hg1 hb1 hk1 hy
  simp only [Nat.add_zero] at hc1
  go_wp2_with fail
  refine (takeZ_yes b k (0 :: t) c x.toNat (u8 x) rfl _ HR.out HT.out (by have := HL.out; simp at this ⊢; omega)).mono ?_
  rintro e w2 ⟨v2, rfl, hb2, hk2, hr2, hg2⟩
  obtain ⟨m, hm⟩ : ∃ m, x.toNat = m + 1 := ⟨x.toNat - 1, by have := H0.out; omega⟩
  have hlen : ((0 :: t).take x.toNat).length = m + 1 := by rw [List.length_take, List.length_cons, Nat.min_eq_left HT.out, hm]
  obtain ⟨A2, c2, rfl, h21, h22⟩ := hb2.form
  rw [hlen] at hb2 h21
  obtain ⟨b2, off2, y, rfl, hlt2, hy, hc2⟩ := hb2.at_ (k := 0) (by omega)
  obtain rfl : 0 = y := by rw [hm] at hy; simpa using hy
  rw [show u8 0 = 0 from rfl] at hc2
  have HG2 := hide (grown_trans HG.out hg2)
  have HR2 := hide hr2
  rw [hlen]
  clear hr2 hg2 hb2 hk2 hy hm hlen
  simp only [Nat.add_zero] at hc2
  have hq : ((0 : Int) < ((m + 1 : Nat) : Int)) := by omega
  go_wp2_with fail
  go_ret2
  exact ⟨rfl, ⟨_, HR2.out, by simp; omega⟩, HG2.out⟩

set_option maxHeartbeats 2000000 in
theorem number_some (b : Nat) (k : Option Nat) (x : UInt8) (t : List UInt8) (c : Int) (w : World) (h : Rd w b k (x :: t) c) (hl : (x :: t).length ≤ 140737488355328) (hx : x.toNat ≤ 8) (ht : x.toNat ≤ t.length) (h0 : ¬ (0 < x.toNat ∧ t.headD 1 = 0)) :
    Calls Try.prog 81 #[.pointer (some ⟨b, 0, none⟩)] w (NumGot w b k (num (t.take x.toNat)) (t.drop x.toNat) c) := by
  have hu : u8 x ≤ 8 := by unfold u8; omega
  have hu0 : 0 ≤ u8 x := (u8_lt x).1
  have H := hide h
  have HT := hide ht
  have HL := hide hl
  have HX := hide hx
  have H0 := hide h0
  clear h hx ht hl h0
  go_enter Try.func81, Try.ntmps81
  go_wp2_with fail
  refine (take_yes b k (x :: t) c 1 w H.out (by simp) HL.out).mono ?_
  rintro e w1 ⟨v1, rfl, hb1, hk1, hr1, hg1⟩
  obtain ⟨A1, c1, rfl, h11, h12⟩ := hb1.form
  obtain ⟨b1, off1, y, rfl, hlt1, hy, hc1⟩ := hb1.at_ (k := 0) (by simp)
  obtain rfl : x = y := by simpa using hy
  have HR : Hid (Rd w1 b k t c) := hide (by simpa using hr1)
  have HG := hide hg1
  clear hr1 hg1 hb1 hk1 hy
  simp only [Nat.add_zero] at hc1
  go_wp2_with fail
  refine (takeZ_yes b k t c x.toNat (u8 x) rfl _ HR.out HT.out (by have := HL.out; simp at this ⊢; omega)).mono ?_
  rintro e w2 ⟨v2, rfl, hb2, hk2, hr2, hg2⟩
  have HG2 := hide (grown_trans HG.out hg2)
  have HR2 := hide hr2
  have hlen : (t.take x.toNat).length = x.toNat := by rw [List.length_take, Nat.min_eq_left HT.out]
  have hnz : ∀ y, (t.take x.toNat)[0]? = some y → y ≠ 0 := by
    intro y hy e
    have h1 : 0 < x.toNat := by have := (List.getElem?_eq_some_iff.1 hy).1; omega
    apply H0.out
    refine ⟨h1, ?_⟩
    cases t with
    | nil => simp at hy
    | cons z r =>
      rw [List.getElem?_take, if_pos h1] at hy
      simp at hy
      rw [List.headD_cons, hy, e]
  obtain ⟨l2, hl2⟩ : ∃ l2, l2 = t.take x.toNat := ⟨_, rfl⟩
  rw [← hl2] at hb2 hlen hnz ⊢
  have HE := hide hl2
  have hm8 : l2.length ≤ 8 := by rw [hlen]; exact HX.out
  clear hr2 hg2 hl2 hk2
  obtain ⟨A2, c2, rfl, h21, h22⟩ := hb2.form
  have HB2 := hide hb2
  have HNZ := hide hnz
  clear hb2 hlen hnz
  by_cases hz : l2.length = 0
  · have hnil : l2 = [] := List.eq_nil_of_length_eq_zero hz
    subst hnil
    clear hm8 hz h21
    go_wp2_with fail
    go_loop [7, 47] (fun n i => n = .int .u64 0 ∧ i = .int .i64 0) (fun _ _ => 0)
    case atStart => exact ⟨rfl, rfl⟩
    case round =>
      obtain ⟨rfl, rfl⟩ := hrel
      go_wp2_with fail
      go_ret2
      exact ⟨ret_num (by rw [← HE.out]; rfl), HR2.out, HG2.out⟩
  · have h21' := hide h21
    obtain ⟨b2, off2, y, rfl, hlt2, hy, hc2⟩ := HB2.out.at_ (k := 0) (by omega)
    have hy0 : u8 y ≠ 0 := by
      have := HNZ.out y hy
      intro e; apply this; apply UInt8.toNat_inj.1
      unfold u8 at e
      have : y.toNat = 0 := by omega
      simpa using this
    have hyf : (u8 y == 0) = false := by simpa using hy0
    have hq : ((0 : Int) < (l2.length : Int)) := by omega
    obtain ⟨m, hm⟩ : ∃ m, m = l2.length := ⟨_, rfl⟩
    have HM := hide hm
    rw [← hm] at hm8 hz h21 hq ⊢
    clear hm hy hy0
    simp only [Nat.add_zero] at hc2
    go_wp2_with fail
    go_loop [7, 47] (fun n i => ∃ j : Nat, j ≤ m ∧ i = .int .i64 j ∧ n = .int .u64 (num (l2.take j))) (fun _ i => m - (intOf i).toNat)
    case atStart => exact ⟨0, Nat.zero_le _, rfl, rfl⟩
    case round =>
      clear hc2 hyf hq
      obtain ⟨j, hj, rfl, rfl⟩ := hrel
      by_cases hlt : j < m
      · have hjl : j < l2.length := by rw [← HM.out]; exact hlt
        have hs := num_take l2 j hjl
        have hn := num_take_lt l2 j (by rw [← HM.out]; exact hm8) hjl
        obtain ⟨bb, oo, z, e1, _, hzz, hc3⟩ := HB2.out.at_ (k := j) hjl
        injection e1 with e1
        injection e1 with e1 e2
        subst e1 e2
        obtain rfl : l2[j] = z := by rw [List.getElem?_eq_getElem hjl] at hzz; injection hzz
        have HS := hide hs
        clear hs hzz
        obtain ⟨a, ha⟩ : ∃ a, a = num (l2.take j) := ⟨_, rfl⟩
        rw [← ha] at hn HS ⊢
        obtain ⟨x2, hx2⟩ : ∃ x2, x2 = l2[j] := ⟨_, rfl⟩
        rw [← hx2] at hc3 HS
        have HX2 := u8_lt x2
        obtain ⟨q1, q2⟩ := HX2
        clear ha hx2 hjl
        go_wp2_with fail
        go_round
        case rel => exact ⟨j + 1, by omega, by go_num, by rw [HS.out, ← or_byte a x2 hn]⟩
        case measure => simp [intOf]; omega
      · obtain rfl : j = m := by omega
        go_wp2_with fail
        go_ret2
        exact ⟨ret_num (by rw [← HE.out, HM.out, List.take_length]), HR2.out, HG2.out⟩
end Go.Proofs.Ytpbgelhjbfckcaa
/- A reader's methods. -/
namespace Go.Proofs.Ytpbgelhjbfckcaa
set_option linter.unusedSimpArgs false
open Go.ChangeShapes Go.WideShapes Go.ChangeAt Go.RowKit
set_option linter.unusedVariables false

theorem Rd.touch {S : List Nat} {w w' : World} {b : Nat} {k : Option Nat} {l : List UInt8} {c : Int} (h : Rd w b k l c) (hg : Touch S w w') (h1 : b ∉ S) (h2 : ∀ j, k = some j → j ∉ S) : Rd w' b k l c := by
  obtain ⟨v, hB, hbs, hk, hne⟩ := h
  exact ⟨v, hB.touch hg h1, hbs.touch hg (fun j hj => h2 j (hk j hj)), hk, hne⟩
/-- The reader's error is set. -/
theorem Rd.fail {w : World} {b : Nat} {k : Option Nat} {l : List UInt8} {c : Int} (h : Rd w b k l c) (e : Int) : Rd ((w.setCell ⟨b, 1, none⟩ (.int .i64 e)).setCell ⟨b, 0, none⟩ (.slice none 0 0)) b k [] e := by
  obtain ⟨v, hB, hbs, hk, hne⟩ := h
  refine ⟨.slice none 0 0, ?_, Bs.nil _, (fun j hj => by cases hj), hne⟩
  exact (hB.put 1 (.int .i64 e)).put 0 _
theorem Rd.cells {w : World} {b : Nat} {k : Option Nat} {l : List UInt8} {c : Int} (h : Rd w b k l c) : ∃ v, w.cell? ⟨b, 0, none⟩ = some v ∧ w.cell? ⟨b, 1, none⟩ = some (.int .i64 c) ∧ w.frozen? ⟨b, 0, none⟩ = false ∧ w.frozen? ⟨b, 1, none⟩ = false ∧ Bs w v l := by
  obtain ⟨v, hB, hbs, hk, hne⟩ := h
  exact ⟨v, hB.cell 0, hB.cell 1, hB.froz 0, hB.froz 1, hbs⟩

/-- A function that read is handed has found a number. -/
def FnGot (S : List Nat) (w : World) (b : Nat) (k : Option Nat) (n : Nat) (t : List UInt8) (E : World → Prop) (e : Ending) (w' : World) : Prop :=
  e = .returned (.tuple #[.int .u64 n, .int .i64 0]) ∧ Rd w' b k t 0 ∧ Touch S w w' ∧ E w'
def FnBad (S : List Nat) (w : World) (b : Nat) (k : Option Nat) (code : Int) (E : World → Prop) (e : Ending) (w' : World) : Prop :=
  e = .returned (.tuple #[.int .u64 0, .int .i64 code]) ∧ (∃ l', Rd w' b k l' 0) ∧ Touch S w w' ∧ E w'
/-- What read does then. -/
def ReadGot (S : List Nat) (w : World) (b : Nat) (k : Option Nat) (n : Nat) (t : List UInt8) (E : World → Prop) (e : Ending) (w' : World) : Prop :=
  e = .returned (.int .u64 n) ∧ Rd w' b k t 0 ∧ Touch S w w' ∧ E w'
def ReadBad (S : List Nat) (w : World) (b : Nat) (k : Option Nat) (code : Int) (E : World → Prop) (e : Ending) (w' : World) : Prop :=
  e = .returned (.int .u64 0) ∧ Rd w' b k [] code ∧ Touch S w w' ∧ ∃ w1, E w1 ∧ Touch [b] w1 w'

set_option maxHeartbeats 1000000 in
theorem read_stopped (b : Nat) (k : Option Nat) (l : List UInt8) (c : Int) (fv : Value) (w : World) (h : Rd w b k l c) (hc : c ≠ 0) :
    Calls Try.prog 79 #[.pointer (some ⟨b, 0, none⟩), fv] w fun e w' => e = .returned (.int .u64 0) ∧ w = w' := by
  obtain ⟨v, c0, c1, f0, f1, _⟩ := h.cells
  have hcb : (c == 0) = false := by simpa using hc
  clear h hc
  go_enter Try.func79, Try.ntmps79
  go_wp2_with fail
  go_ret
  exact ⟨rfl, rfl⟩

set_option maxHeartbeats 1000000 in
theorem readNumber_got (S : List Nat) (b : Nat) (k : Option Nat) (l : List UInt8) (n : Nat) (t : List UInt8) (E : World → Prop) (w : World) (h : Rd w b k l 0)
    (hf : Calls Try.prog 81 #[.pointer (some ⟨b, 0, none⟩)] w (FnGot S w b k n t E)) :
    Calls Try.prog 79 #[.pointer (some ⟨b, 0, none⟩), .func (.func 81) #[.pointer (some ⟨b, 0, none⟩)] #[]] w (ReadGot S w b k n t E) := by
  obtain ⟨v, c0, c1, f0, f1, _⟩ := h.cells
  have HF := hide hf
  clear h hf
  go_enter Try.func79, Try.ntmps79
  go_wp2_with fail
  refine HF.out.mono ?_
  rintro e w1 ⟨rfl, h1, h2, h3⟩
  go_wp2_with fail
  go_ret
  exact ⟨rfl, h1, h2, h3⟩

set_option maxHeartbeats 1000000 in
theorem readNumber_bad (S : List Nat) (b : Nat) (k : Option Nat) (l : List UInt8) (code : Int) (hcode : code ≠ 0) (E : World → Prop) (w : World) (h : Rd w b k l 0) (hb : b ∈ S)
    (hf : Calls Try.prog 81 #[.pointer (some ⟨b, 0, none⟩)] w (FnBad S w b k code E)) :
    Calls Try.prog 79 #[.pointer (some ⟨b, 0, none⟩), .func (.func 81) #[.pointer (some ⟨b, 0, none⟩)] #[]] w (ReadBad S w b k code E) := by
  obtain ⟨v, c0, c1, f0, f1, _⟩ := h.cells
  have HF := hide hf
  have hcb : (code == 0) = false := by simpa using hcode
  clear h hf hcode
  go_enter Try.func79, Try.ntmps79
  go_wp2_with fail
  refine HF.out.mono ?_
  rintro e w1 ⟨rfl, ⟨l', h1⟩, h2, h3⟩
  clear c0 c1 f0 f1
  obtain ⟨v1, c0, c1, f0, f1, _⟩ := h1.cells
  have H1 := hide h1
  have H2 := hide h2
  clear h1 h2
  go_wp2_with fail
  go_ret
  exact ⟨rfl, H1.out.fail code, (H2.out.set (.inl hb) 1 _).set (.inl hb) 0 _, w1, h3, ((Touch.refl [b] w1).set (by simp) 1 _).set (by simp) 0 _⟩

set_option maxHeartbeats 1000000 in
theorem readBool_got (q : Nat) (S : List Nat) (b : Nat) (k : Option Nat) (l : List UInt8) (n : Nat) (t : List UInt8) (E : World → Prop) (w : World) (h : Rd w b k l 0)
    (hf : Calls Try.prog 104 #[.pointer (some ⟨q, 0, none⟩)] w (FnGot S w b k n t E)) :
    Calls Try.prog 79 #[.pointer (some ⟨b, 0, none⟩), .func (.func 104) #[] #[.pointer (some ⟨q, 0, none⟩)]] w (ReadGot S w b k n t E) := by
  obtain ⟨v, c0, c1, f0, f1, _⟩ := h.cells
  have HF := hide hf
  clear h hf
  go_enter Try.func79, Try.ntmps79
  go_wp2_with fail
  refine HF.out.mono ?_
  rintro e w1 ⟨rfl, h1, h2, h3⟩
  go_wp2_with fail
  go_ret
  exact ⟨rfl, h1, h2, h3⟩

set_option maxHeartbeats 1000000 in
theorem readBool_bad (q : Nat) (S : List Nat) (b : Nat) (k : Option Nat) (l : List UInt8) (code : Int) (hcode : code ≠ 0) (E : World → Prop) (w : World) (h : Rd w b k l 0) (hb : b ∈ S)
    (hf : Calls Try.prog 104 #[.pointer (some ⟨q, 0, none⟩)] w (FnBad S w b k code E)) :
    Calls Try.prog 79 #[.pointer (some ⟨b, 0, none⟩), .func (.func 104) #[] #[.pointer (some ⟨q, 0, none⟩)]] w (ReadBad S w b k code E) := by
  obtain ⟨v, c0, c1, f0, f1, _⟩ := h.cells
  have HF := hide hf
  have hcb : (code == 0) = false := by simpa using hcode
  clear h hf hcode
  go_enter Try.func79, Try.ntmps79
  go_wp2_with fail
  refine HF.out.mono ?_
  rintro e w1 ⟨rfl, ⟨l', h1⟩, h2, h3⟩
  clear c0 c1 f0 f1
  obtain ⟨v1, c0, c1, f0, f1, _⟩ := h1.cells
  have H1 := hide h1
  have H2 := hide h2
  clear h1 h2
  go_wp2_with fail
  go_ret
  exact ⟨rfl, H1.out.fail code, (H2.out.set (.inl hb) 1 _).set (.inl hb) 0 _, w1, h3, ((Touch.refl [b] w1).set (by simp) 1 _).set (by simp) 0 _⟩

set_option maxHeartbeats 1000000 in
theorem readText_got (q s : Nat) (S : List Nat) (b : Nat) (k : Option Nat) (l : List UInt8) (n : Nat) (t : List UInt8) (E : World → Prop) (w : World) (h : Rd w b k l 0)
    (hf : Calls Try.prog 92 #[.pointer (some ⟨q, 0, none⟩), .pointer (some ⟨s, 0, none⟩)] w (FnGot S w b k n t E)) :
    Calls Try.prog 79 #[.pointer (some ⟨b, 0, none⟩), .func (.func 92) #[] #[.pointer (some ⟨q, 0, none⟩), .pointer (some ⟨s, 0, none⟩)]] w (ReadGot S w b k n t E) := by
  obtain ⟨v, c0, c1, f0, f1, _⟩ := h.cells
  have HF := hide hf
  clear h hf
  go_enter Try.func79, Try.ntmps79
  go_wp2_with fail
  refine HF.out.mono ?_
  rintro e w1 ⟨rfl, h1, h2, h3⟩
  go_wp2_with fail
  go_ret
  exact ⟨rfl, h1, h2, h3⟩

set_option maxHeartbeats 1000000 in
theorem readText_bad (q s : Nat) (S : List Nat) (b : Nat) (k : Option Nat) (l : List UInt8) (code : Int) (hcode : code ≠ 0) (E : World → Prop) (w : World) (h : Rd w b k l 0) (hb : b ∈ S)
    (hf : Calls Try.prog 92 #[.pointer (some ⟨q, 0, none⟩), .pointer (some ⟨s, 0, none⟩)] w (FnBad S w b k code E)) :
    Calls Try.prog 79 #[.pointer (some ⟨b, 0, none⟩), .func (.func 92) #[] #[.pointer (some ⟨q, 0, none⟩), .pointer (some ⟨s, 0, none⟩)]] w (ReadBad S w b k code E) := by
  obtain ⟨v, c0, c1, f0, f1, _⟩ := h.cells
  have HF := hide hf
  have hcb : (code == 0) = false := by simpa using hcode
  clear h hf hcode
  go_enter Try.func79, Try.ntmps79
  go_wp2_with fail
  refine HF.out.mono ?_
  rintro e w1 ⟨rfl, ⟨l', h1⟩, h2, h3⟩
  clear c0 c1 f0 f1
  obtain ⟨v1, c0, c1, f0, f1, _⟩ := h1.cells
  have H1 := hide h1
  have H2 := hide h2
  clear h1 h2
  go_wp2_with fail
  go_ret
  exact ⟨rfl, H1.out.fail code, (H2.out.set (.inl hb) 1 _).set (.inl hb) 0 _, w1, h3, ((Touch.refl [b] w1).set (by simp) 1 _).set (by simp) 0 _⟩

set_option maxHeartbeats 1000000 in
theorem readCount_got (q s : Nat) (S : List Nat) (b : Nat) (k : Option Nat) (l : List UInt8) (n : Nat) (t : List UInt8) (E : World → Prop) (w : World) (h : Rd w b k l 0)
    (hf : Calls Try.prog 80 #[.pointer (some ⟨q, 0, none⟩), .pointer (some ⟨s, 0, none⟩)] w (FnGot S w b k n t E)) :
    Calls Try.prog 79 #[.pointer (some ⟨b, 0, none⟩), .func (.func 80) #[] #[.pointer (some ⟨q, 0, none⟩), .pointer (some ⟨s, 0, none⟩)]] w (ReadGot S w b k n t E) := by
  obtain ⟨v, c0, c1, f0, f1, _⟩ := h.cells
  have HF := hide hf
  clear h hf
  go_enter Try.func79, Try.ntmps79
  go_wp2_with fail
  refine HF.out.mono ?_
  rintro e w1 ⟨rfl, h1, h2, h3⟩
  go_wp2_with fail
  go_ret
  exact ⟨rfl, h1, h2, h3⟩

set_option maxHeartbeats 1000000 in
theorem readCount_bad (q s : Nat) (S : List Nat) (b : Nat) (k : Option Nat) (l : List UInt8) (code : Int) (hcode : code ≠ 0) (E : World → Prop) (w : World) (h : Rd w b k l 0) (hb : b ∈ S)
    (hf : Calls Try.prog 80 #[.pointer (some ⟨q, 0, none⟩), .pointer (some ⟨s, 0, none⟩)] w (FnBad S w b k code E)) :
    Calls Try.prog 79 #[.pointer (some ⟨b, 0, none⟩), .func (.func 80) #[] #[.pointer (some ⟨q, 0, none⟩), .pointer (some ⟨s, 0, none⟩)]] w (ReadBad S w b k code E) := by
  obtain ⟨v, c0, c1, f0, f1, _⟩ := h.cells
  have HF := hide hf
  have hcb : (code == 0) = false := by simpa using hcode
  clear h hf hcode
  go_enter Try.func79, Try.ntmps79
  go_wp2_with fail
  refine HF.out.mono ?_
  rintro e w1 ⟨rfl, ⟨l', h1⟩, h2, h3⟩
  clear c0 c1 f0 f1
  obtain ⟨v1, c0, c1, f0, f1, _⟩ := h1.cells
  have H1 := hide h1
  have H2 := hide h2
  clear h1 h2
  go_wp2_with fail
  go_ret
  exact ⟨rfl, H1.out.fail code, (H2.out.set (.inl hb) 1 _).set (.inl hb) 0 _, w1, h3, ((Touch.refl [b] w1).set (by simp) 1 _).set (by simp) 0 _⟩
end Go.Proofs.Ytpbgelhjbfckcaa
/- A reader's methods: what each does, as a step of the plain reader. -/
namespace Go.Proofs.Ytpbgelhjbfckcaa
set_option linter.unusedSimpArgs false
open Go.ChangeShapes Go.WideShapes Go.ChangeAt Go.RowKit
set_option linter.unusedVariables false

/-- A method's call: the reader makes the step, nothing else that lay there has turned. -/
def Step1 (w : World) (b : Nat) (k : Option Nat) (r : RS) (v : Value) (e : Ending) (w' : World) : Prop := e = .returned v ∧ Rd w' b k r.1 r.2 ∧ Touch [b] w w'

/-- Shapes of the bytes at a number. -/
theorem parse_cases (l : List UInt8) :
    (l = [] ∧ parseN l = none) ∨ (∃ x t, l = x :: t ∧ 8 < x.toNat ∧ parseN l = none) ∨ (∃ x t, l = x :: t ∧ x.toNat ≤ 8 ∧ t.length < x.toNat ∧ parseN l = none) ∨
    (∃ x t, l = x :: 0 :: t ∧ x.toNat ≤ 8 ∧ 0 < x.toNat ∧ x.toNat ≤ t.length + 1 ∧ parseN l = none) ∨
    (∃ x t, l = x :: t ∧ x.toNat ≤ 8 ∧ x.toNat ≤ t.length ∧ ¬ (0 < x.toNat ∧ t.headD 1 = 0) ∧ parseN l = some (num (t.take x.toNat), t.drop x.toNat)) := by
  cases l with
  | nil => exact .inl ⟨rfl, rfl⟩
  | cons x t =>
    right
    by_cases h1 : 8 < x.toNat
    · exact .inl ⟨x, t, rfl, h1, by unfold parseN; exact if_pos (.inl h1)⟩
    right
    by_cases h2 : t.length < x.toNat
    · exact .inl ⟨x, t, rfl, by omega, h2, by unfold parseN; exact if_pos (.inr (.inl h2))⟩
    right
    by_cases h3 : 0 < x.toNat ∧ t.headD 1 = 0
    · left
      have hp : parseN (x :: t) = none := by unfold parseN; exact if_pos (.inr (.inr h3))
      obtain ⟨h3, h4⟩ := h3
      cases t with
      | nil => simp at h4
      | cons y t =>
        rw [List.headD_cons] at h4
        subst h4
        exact ⟨x, t, rfl, by omega, h3, by simp at h2; omega, hp⟩
    · right
      refine ⟨x, t, rfl, by omega, by omega, h3, ?_⟩
      unfold parseN
      exact if_neg (fun h => h.elim h1 (fun h => h.elim h2 h3))

theorem number_bad (b : Nat) (k : Option Nat) (l : List UInt8) (c : Int) (w : World) (h : Rd w b k l c) (hl : l.length ≤ 140737488355328) (hp : parseN l = none) :
    Calls Try.prog 81 #[.pointer (some ⟨b, 0, none⟩)] w (NumBad w b k l.length c) := by
  rcases parse_cases l with ⟨rfl, _⟩ | ⟨x, t, rfl, h1, _⟩ | ⟨x, t, rfl, h1, h2, _⟩ | ⟨x, t, rfl, h1, h2, h3, _⟩ | ⟨x, t, rfl, h1, h2, h3, h4⟩
  · exact number_nil b k c w h
  · exact number_high b k x t c w h hl h1
  · exact number_short b k x t c w h hl h1 h2
  · exact number_zero b k x t c w h hl h1 h2 h3
  · rw [h4] at hp; cases hp
theorem number_got (b : Nat) (k : Option Nat) (l : List UInt8) (c : Int) (w : World) (h : Rd w b k l c) (hl : l.length ≤ 140737488355328) {n : Nat} {t : List UInt8} (hp : parseN l = some (n, t)) :
    Calls Try.prog 81 #[.pointer (some ⟨b, 0, none⟩)] w (NumGot w b k n t c) := by
  rcases parse_cases l with ⟨rfl, h4⟩ | ⟨x, t, rfl, h1, h4⟩ | ⟨x, t, rfl, h1, h2, h4⟩ | ⟨x, t, rfl, h1, h2, h3, h4⟩ | ⟨x, t, rfl, h1, h2, h3, h4⟩
  · rw [h4] at hp; cases hp
  · rw [h4] at hp; cases hp
  · rw [h4] at hp; cases hp
  · rw [h4] at hp; cases hp
  · rw [h4] at hp
    injection hp with hp
    injection hp with e1 e2
    subst e1 e2
    exact number_some b k x t c w h hl h1 h2 h3
theorem parse_len {l t : List UInt8} {n : Nat} (h : parseN l = some (n, t)) : t.length < l.length := by
  have := congrArg List.length (parseN_some h).1
  simp [enc] at this
  omega

set_option maxHeartbeats 1000000 in
theorem rdNumber_c (b : Nat) (k : Option Nat) (l : List UInt8) (c : Int) (w : World) (h : Rd w b k l c) (hl : l.length ≤ 140737488355328) :
    Calls Try.prog 87 #[.pointer (some ⟨b, 0, none⟩)] w (Step1 w b k (rNum (l, c)).1 (.int .u64 (rNum (l, c)).2)) := by
  have H := hide h
  by_cases hc : c = 0
  · subst hc
    cases hp : parseN l with
    | none =>
      have hr : rNum (l, 0) = (bad 11, 0) := by simp [rNum, hp]
      rw [hr]
      have HF := hide ((number_bad b k l 0 w h hl hp).mono (R' := FnBad [b] w b k 11 (fun _ => True)) (fun e w' ⟨h1, ⟨l', h2, _⟩, h3⟩ => ⟨h1, ⟨l', h2⟩, Touch.one h3, trivial⟩))
      clear h hp hr
      go_enter Try.func87, Try.ntmps87
      go_wp2_with fail
      refine (readNumber_bad [b] b k l 11 (by decide) (fun _ => True) w H.out (by simp) HF.out).mono ?_
      rintro e w1 ⟨rfl, h1, h2, _⟩
      go_wp2_with fail
      go_ret
      exact ⟨rfl, h1, h2⟩
    | some p =>
      obtain ⟨n, t⟩ := p
      have hr : rNum (l, 0) = ((t, 0), n) := by simp [rNum, hp]
      rw [hr]
      have HF := hide ((number_got b k l 0 w h hl hp).mono (R' := FnGot [b] w b k n t (fun _ => True)) (fun e w' ⟨h1, h2, h3⟩ => ⟨h1, h2, Touch.one h3, trivial⟩))
      clear h hp hr
      go_enter Try.func87, Try.ntmps87
      go_wp2_with fail
      refine (readNumber_got [b] b k l n t (fun _ => True) w H.out HF.out).mono ?_
      rintro e w1 ⟨rfl, h1, h2, _⟩
      go_wp2_with fail
      go_ret
      exact ⟨rfl, h1, h2⟩
  · have hr : rNum (l, c) = ((l, c), 0) := by simp [rNum, hc]
    rw [hr]
    clear h hr
    have HC := hide hc
    clear hc
    go_enter Try.func87, Try.ntmps87
    go_wp2_with fail
    refine (read_stopped b k l c _ w H.out HC.out).mono ?_
    rintro e w1 ⟨rfl, rfl⟩
    go_wp2_with fail
    go_ret
    exact ⟨rfl, H.out, Touch.refl _ _⟩
end Go.Proofs.Ytpbgelhjbfckcaa
/- A reader's methods: Int, Bool, Left, End, NewReader. -/
namespace Go.Proofs.Ytpbgelhjbfckcaa
set_option linter.unusedSimpArgs false
open Go.ChangeShapes Go.WideShapes Go.ChangeAt Go.RowKit
set_option linter.unusedVariables false

theorem rNum_lt (l : List UInt8) (c : Int) : (rNum (l, c)).2 < 2 ^ 64 := by
  unfold rNum
  split
  · split
    · rename_i h; exact (parseN_some h).2
    · simp
  · simp
theorem rNum_len (l : List UInt8) (c : Int) : (rNum (l, c)).1.1.length ≤ l.length := by
  unfold rNum
  split
  · split
    · rename_i h; exact Nat.le_of_lt (parse_len h)
    · simp [bad]
  · simp

set_option maxHeartbeats 1000000 in
theorem left_c (b : Nat) (k : Option Nat) (l : List UInt8) (c : Int) (w : World) (h : Rd w b k l c) :
    Calls Try.prog 101 #[.pointer (some ⟨b, 0, none⟩)] w fun e w' => e = .returned (.int .i64 l.length) ∧ w = w' := by
  obtain ⟨v, c0, c1, f0, f1, hb⟩ := h.cells
  obtain ⟨A, cp, rfl, _, _⟩ := hb.form
  clear h hb
  generalize l.length = m at *
  go_enter Try.func101, Try.ntmps101
  go_wp2_with fail
  go_ret
  exact ⟨rfl, rfl⟩

theorem ret_i64 {a b : Int} (h : a = b) : Ending.returned (.int .i64 a) = .returned (.int .i64 b) := by rw [h]
set_option maxHeartbeats 1000000 in
theorem end_c (b : Nat) (k : Option Nat) (l : List UInt8) (c : Int) (w : World) (h : Rd w b k l c) :
    Calls Try.prog 46 #[.pointer (some ⟨b, 0, none⟩)] w fun e w' => e = .returned (.int .i64 (rEnd (l, c))) ∧ w = w' := by
  obtain ⟨v, c0, c1, f0, f1, hb⟩ := h.cells
  obtain ⟨A, cp, rfl, _, _⟩ := hb.form
  clear h hb
  by_cases hc : c = 0
  · subst hc
    by_cases hl : 0 < l.length
    · have hr : rEnd (l, 0) = 11 := by simp [rEnd, hl]
      rw [hr]
      clear hr
      generalize l.length = m at *
      have hx : (0 : Int) < (m : Int) := by omega
      go_enter Try.func46, Try.ntmps46
      go_wp2_with fail
      go_ret
      exact ⟨rfl, rfl⟩
    · have hr : rEnd (l, 0) = 0 := by simp [rEnd, hl]
      rw [hr]
      clear hr
      generalize l.length = m at *
      have hx : ¬ (0 : Int) < (m : Int) := by omega
      go_enter Try.func46, Try.ntmps46
      go_wp2_with fail
      go_ret
      exact ⟨rfl, rfl⟩
  · have hr : rEnd (l, c) = c := by simp [rEnd, hc]
    rw [hr]
    have hcb : (c == 0) = false := by simpa using hc
    clear hr hc
    generalize l.length = m at *
    go_enter Try.func46, Try.ntmps46
    go_wp2_with fail
    go_ret
    exact ⟨rfl, rfl⟩

theorem zag_bits (n : Nat) (hn : n < 2 ^ 64) : bits BinOp.xor IntKind.i64 ((n : Int) / 2) (wrap64 (-wrap64 (bits BinOp.and IntKind.u64 (n : Int) 1))) = zag n := by
  have hw : ∀ z : Int, IntKind.u64.wrap z = z % 18446744073709551616 := fun z => by simp [IntKind.wrap, IntKind.signed, IntKind.bits]
  have hs : ∀ z : Int, 0 ≤ z → z < 18446744073709551616 → IntKind.i64.wrap z = if z < 9223372036854775808 then z else z - 18446744073709551616 := fun z h0 h1 => by
    simp only [IntKind.wrap, IntKind.signed, IntKind.bits, Bool.true_and, decide_eq_true_eq]
    by_cases h : z < 9223372036854775808
    · rw [if_pos h, if_neg (by simp; omega)]; simp; omega
    · rw [if_neg h, if_pos (by simp; omega)]; simp; omega
  have ha : bits BinOp.and IntKind.u64 (n : Int) 1 = ((n % 2 : Nat) : Int) := by
    show IntKind.u64.wrap ((BitVec.ofInt 64 (n : Int) &&& BitVec.ofInt 64 1).toNat : Int) = _
    rw [hw, show (1 : Int) = ((1 : Nat) : Int) from rfl, BitVec.ofInt_natCast, BitVec.ofInt_natCast, BitVec.toNat_and, BitVec.toNat_ofNat, BitVec.toNat_ofNat, Nat.mod_eq_of_lt hn, Nat.mod_eq_of_lt (show 1 < 2 ^ 64 by decide), Nat.and_one_is_mod]
    omega
  rw [ha]
  have hd : (n : Int) / 2 = ((n / 2 : Nat) : Int) := by omega
  rw [hd]
  show IntKind.i64.wrap ((BitVec.ofInt 64 ((n / 2 : Nat) : Int) ^^^ BitVec.ofInt 64 (wrap64 (-wrap64 ((n % 2 : Nat) : Int)))).toNat : Int) = _
  unfold zag
  by_cases h2 : n % 2 = 0
  · rw [if_pos h2, h2, show wrap64 (-wrap64 ((0 : Nat) : Int)) = 0 from by decide +kernel, show BitVec.ofInt 64 0 = 0#64 from rfl, BitVec.xor_zero, BitVec.ofInt_natCast, BitVec.toNat_ofNat, Nat.mod_eq_of_lt (by omega), hs _ (by omega) (by omega), if_pos (by omega)]
  · rw [if_neg h2, show n % 2 = 1 by omega, show wrap64 (-wrap64 ((1 : Nat) : Int)) = -1 from by decide +kernel, show BitVec.ofInt 64 (-1) = BitVec.allOnes 64 from rfl, BitVec.xor_allOnes, BitVec.toNat_not, BitVec.ofInt_natCast, BitVec.toNat_ofNat, Nat.mod_eq_of_lt (show n / 2 < 2 ^ 64 by omega), hs _ (by omega) (by omega), if_neg (by omega)]
    omega
theorem zag_lt (n : Nat) (hn : n < 2 ^ 64) : -9223372036854775808 ≤ zag n ∧ zag n ≤ 9223372036854775807 := by unfold zag; split <;> omega
theorem zag_zig (i : Int) : zag (zig i) = i := by unfold zag zig; split <;> split <;> omega
theorem zig_zag (n : Nat) : zig (zag n) = n := by unfold zag zig; split <;> split <;> omega
set_option maxHeartbeats 1000000 in
theorem rdInt_c (b : Nat) (k : Option Nat) (l : List UInt8) (c : Int) (w : World) (h : Rd w b k l c) (hl : l.length ≤ 140737488355328) :
    Calls Try.prog 55 #[.pointer (some ⟨b, 0, none⟩)] w (Step1 w b k (rInt (l, c)).1 (.int .i64 (rInt (l, c)).2)) := by
  have hn := rNum_lt l c
  show Calls _ _ _ _ (Step1 w b k (rNum (l, c)).1 (.int .i64 (zag (rNum (l, c)).2)))
  have H := hide (rdNumber_c b k l c w h hl)
  clear h
  generalize (rNum (l, c)).1 = r at *
  generalize (rNum (l, c)).2 = n at *
  go_enter Try.func55, Try.ntmps55
  go_wp2_with fail
  refine H.out.mono ?_
  rintro e w1 ⟨rfl, h1, h2⟩
  have H1 := hide h1
  have H2 := hide h2
  clear h1 h2
  go_wp2_with fail
  go_ret
  exact ⟨ret_i64 (zag_bits n hn), H1.out, H2.out⟩

/-- A box that holds a pointer to the reader. -/
def BoxP (w : World) (q b : Nat) : Prop := w.cell? ⟨q, 0, none⟩ = some (.pointer (some ⟨b, 0, none⟩))
theorem boxP_new (w : World) (b : Nat) : BoxP (w.alloc (.cells #[.pointer (some ⟨b, 0, none⟩)] 106)) w.heap.size b := (Blk.new w _ _).cell 0

set_option maxHeartbeats 1000000 in
theorem boolC_nil (q b : Nat) (k : Option Nat) (w : World) (h : Rd w b k [] 0) (hq : BoxP w q b) :
    Calls Try.prog 104 #[.pointer (some ⟨q, 0, none⟩)] w (FnBad [b] w b k 11 (fun _ => True)) := by
  unfold BoxP at hq
  go_enter Try.func104, Try.ntmps104
  go_wp2_with fail
  refine (take_no b k [] 0 1 w h (by simp) (by simp)).mono ?_
  rintro e w1 ⟨rfl, rfl⟩
  go_wp2_with fail
  go_ret2
  exact ⟨rfl, ⟨[], h⟩, Touch.refl _ _, trivial⟩

set_option maxHeartbeats 1000000 in
theorem boolC_high (q b : Nat) (k : Option Nat) (x : UInt8) (t : List UInt8) (w : World) (h : Rd w b k (x :: t) 0) (hl : (x :: t).length ≤ 140737488355328) (hx : 1 < x.toNat) (hq : BoxP w q b) :
    Calls Try.prog 104 #[.pointer (some ⟨q, 0, none⟩)] w (FnBad [b] w b k 11 (fun _ => True)) := by
  unfold BoxP at hq
  have hu : (1 : Int) < u8 x := by unfold u8; omega
  have hu0 : 0 ≤ u8 x := (u8_lt x).1
  have H := hide h
  clear h hx
  go_enter Try.func104, Try.ntmps104
  go_wp2_with fail
  refine (take_yes b k (x :: t) 0 1 w H.out (by simp) hl).mono ?_
  rintro e w1 ⟨v1, rfl, hb1, hk1, hr1, hg1⟩
  obtain ⟨A1, c1, rfl, h11, h12⟩ := hb1.form
  obtain ⟨b1, off1, y, rfl, hlt1, hy, hc1⟩ := hb1.at_ (k := 0) (by simp)
  obtain rfl : x = y := by simpa using hy
  have HR := hide hr1
  have HG := hide hg1
  clear hr1 hg1 hb1 hk1 hy hq
  simp only [Nat.add_zero] at hc1
  go_wp2_with fail
  go_ret2
  exact ⟨rfl, ⟨_, HR.out⟩, Touch.one HG.out, trivial⟩

set_option maxHeartbeats 1000000 in
theorem boolC_got (q b : Nat) (k : Option Nat) (x : UInt8) (t : List UInt8) (w : World) (h : Rd w b k (x :: t) 0) (hl : (x :: t).length ≤ 140737488355328) (hx : x.toNat ≤ 1) (hq : BoxP w q b) :
    Calls Try.prog 104 #[.pointer (some ⟨q, 0, none⟩)] w (FnGot [b] w b k x.toNat t (fun _ => True)) := by
  unfold BoxP at hq
  have hu : u8 x ≤ 1 := by unfold u8; omega
  have hu0 : 0 ≤ u8 x := (u8_lt x).1
  have H := hide h
  clear h hx
  go_enter Try.func104, Try.ntmps104
  go_wp2_with fail
  refine (take_yes b k (x :: t) 0 1 w H.out (by simp) hl).mono ?_
  rintro e w1 ⟨v1, rfl, hb1, hk1, hr1, hg1⟩
  obtain ⟨A1, c1, rfl, h11, h12⟩ := hb1.form
  obtain ⟨b1, off1, y, rfl, hlt1, hy, hc1⟩ := hb1.at_ (k := 0) (by simp)
  obtain rfl : x = y := by simpa using hy
  have HR : Hid (Rd w1 b k t 0) := hide (by simpa using hr1)
  have HG := hide hg1
  clear hr1 hg1 hb1 hk1 hy hq
  simp only [Nat.add_zero] at hc1
  go_wp2_with fail
  go_ret2
  exact ⟨rfl, HR.out, Touch.one HG.out, trivial⟩

theorem touch_alloc {S : List Nat} {w w' : World} {o : Obj} (h : Touch S (w.alloc o) w') : Touch S w w' := ((Touch.refl S w).alloc o).trans h
theorem ret_bool {a b : Bool} (h : a = b) : Ending.returned (.bool a) = .returned (.bool b) := by rw [h]

set_option maxHeartbeats 1000000 in
theorem rdBool_c (b : Nat) (k : Option Nat) (l : List UInt8) (c : Int) (w : World) (h : Rd w b k l c) (hl : l.length ≤ 140737488355328) :
    Calls Try.prog 99 #[.pointer (some ⟨b, 0, none⟩)] w (Step1 w b k (rBool (l, c)).1 (.bool (rBool (l, c)).2)) := by
  have H := hide (h.alloc (.cells #[.pointer (some ⟨b, 0, none⟩)] 106))
  clear h
  have hq := boxP_new w b
  by_cases hc : c = 0
  · subst hc
    have HX : ∀ (HF : Calls Try.prog 104 #[.pointer (some ⟨w.heap.size, 0, none⟩)] (w.alloc (.cells #[.pointer (some ⟨b, 0, none⟩)] 106)) (FnBad [b] (w.alloc (.cells #[.pointer (some ⟨b, 0, none⟩)] 106)) b k 11 (fun _ => True))),
        Calls Try.prog 99 #[.pointer (some ⟨b, 0, none⟩)] w (Step1 w b k (bad 11) (.bool false)) := by
      intro HF
      have HF := hide HF
      clear hq
      go_enter Try.func99, Try.ntmps99
      go_wp2_with fail
      refine (readBool_bad w.heap.size [b] b k l 11 (by decide) (fun _ => True) _ H.out (by simp) HF.out).mono ?_
      rintro e w1 ⟨rfl, h1, h2, _⟩
      go_wp2_with fail
      go_ret
      exact ⟨rfl, h1, touch_alloc h2⟩
    cases l with
    | nil =>
      have hr : rBool ([], 0) = (bad 11, false) := rfl
      rw [hr]
      exact HX (boolC_nil _ b k _ H.out hq)
    | cons x t =>
      by_cases hx : 1 < x.toNat
      · have hr : rBool (x :: t, 0) = (bad 11, false) := by simp [rBool, hx]
        rw [hr]
        exact HX (boolC_high _ b k x t _ H.out hl hx hq)
      · have hr : rBool (x :: t, 0) = ((t, 0), x.toNat == 1) := by simp [rBool, hx]
        rw [hr]
        have HF := hide (boolC_got _ b k x t _ H.out hl (by omega) hq)
        have hxl : x.toNat ≤ 1 := by omega
        clear hq hr HX hx
        generalize x.toNat = n at *
        go_enter Try.func99, Try.ntmps99
        go_wp2_with fail
        refine (readBool_got w.heap.size [b] b k (x :: t) n t (fun _ => True) _ H.out HF.out).mono ?_
        rintro e w1 ⟨rfl, h1, h2, _⟩
        have H1 := hide h1
        have H2 := hide h2
        clear h1 h2
        go_wp2_with fail
        go_ret
        exact ⟨ret_bool (by rcases Nat.le_one_iff_eq_zero_or_eq_one.1 hxl with rfl | rfl <;> rfl), H1.out, touch_alloc H2.out⟩
  · have hr : rBool (l, c) = ((l, c), false) := by simp [rBool, hc]
    rw [hr]
    clear hr hq
    have HC := hide hc
    clear hc
    go_enter Try.func99, Try.ntmps99
    go_wp2_with fail
    refine (read_stopped b k l c _ _ H.out HC.out).mono ?_
    rintro e w1 ⟨rfl, rfl⟩
    go_wp2_with fail
    go_ret
    exact ⟨rfl, H.out, (Touch.refl _ _).alloc _⟩
end Go.Proofs.Ytpbgelhjbfckcaa
/- bytes.Clone, bytes.Equal. -/
namespace Go.Proofs.Ytpbgelhjbfckcaa
set_option linter.unusedSimpArgs false
open Go.ChangeShapes Go.WideShapes Go.ChangeAt Go.RowKit
set_option linter.unusedVariables false

/-- The call returns new memory with the bytes l; nothing that was there has turned. -/
def Fresh (w : World) (l : List UInt8) (e : Ending) (w' : World) : Prop := ∃ v, e = .returned v ∧ Ow w' w.heap.size v l ∧ Below w.heap.size w w'

theorem below_append {B base : Nat} {a w w' : World} {v : Value} {l : List UInt8} (h : Below B a w) (ho : Ow w base v l) (hg : w.grownBy w' v.ownBlock) (hB : B ≤ w.heap.size) (hbase : B ≤ base) : Below B a w' :=
  h.grown hg hB fun k hk => Nat.le_trans hbase (ho.lt k hk).1

set_option maxHeartbeats 1000000 in
theorem clone_b (v : Value) (l : List UInt8) (w : World) (h : Bs w v l) (hl : l.length ≤ 140737488355328) : Calls Try.prog 78 #[v] w (Fresh w l) := by
  obtain ⟨A, c, rfl, hc, hm⟩ := h.form
  have H := hide h
  have HL := hide hl
  clear h hl hc hm
  have heq := fun (w : World) (A : Option Addr) (n c : Nat) => Lib.run_eql_slice_nil (P := Try.prog) w 102 5 A n c 0 0 Try.underlying102
  have HL2 : Hid (0 + l.length ≤ 140737488355328) := by unfold Hid; have := HL.out; omega
  generalize hn : l.length = n at H heq
  clear hn
  cases A with
  | none =>
    have hnil : l = [] := by
      obtain ⟨A', c', hv, _, _, h3⟩ := H.out
      injection hv with e1 e2 e3
      rcases Nat.eq_zero_or_pos l.length with h0 | h0
      · exact List.eq_nil_of_length_eq_zero h0
      · obtain ⟨b, off, e, _⟩ := h3 h0
        rw [← e1] at e; cases e
    have HN := hide hnil
    clear hnil
    go_enter Try.func78, Try.ntmps78
    go_wp2_with fail
    go_ret
    exact ⟨_, rfl, by rw [HN.out]; exact Ow.nil _ _, Below.refl _ _⟩
  | some a =>
    go_enter Try.func78, Try.ntmps78
    go_wp2_with (at_builtin; refine wpList_append_bs rfl _ _ rfl w.heap.size (l := []) (m := l) rfl (Ow.made [] #[] rfl (Nat.le_refl _) (by simp)) rfl (H.out.alloc _) HL2.out (by simp) ?_; intro v1 w1 how hg hw)
    go_ret
    exact ⟨_, rfl, how, below_grown ((Below.refl _ _).alloc (Nat.le_refl _) _) hg (by simp) (Nat.le_refl _)⟩

end Go.Proofs.Ytpbgelhjbfckcaa
/- A reader's methods: Text, Count, NewReader. -/
namespace Go.Proofs.Ytpbgelhjbfckcaa
set_option linter.unusedSimpArgs false
open Go.ChangeShapes Go.WideShapes Go.ChangeAt Go.RowKit
set_option linter.unusedVariables false

/-- A box that holds a text. -/
def BoxS (w : World) (s : Nat) (x : ByteArray) : Prop := Blk w s 9 #[.string x]
theorem BoxS.cells {w : World} {s : Nat} {x : ByteArray} (h : BoxS w s x) : w.cell? ⟨s, 0, none⟩ = some (.string x) ∧ w.frozen? ⟨s, 0, none⟩ = false := ⟨Blk.cell h 0, Blk.froz h 0⟩

set_option maxHeartbeats 1000000 in
theorem textC_bad (q s b : Nat) (k : Option Nat) (l : List UInt8) (x : ByteArray) (w : World) (h : Rd w b k l 0) (hl : l.length ≤ 140737488355328) (hp : parseN l = none) (hq : BoxP w q b) (hs : BoxS w s x) (hqb : q ≠ b) (hsb : s ≠ b) (hql : q < w.heap.size) :
    Calls Try.prog 92 #[.pointer (some ⟨q, 0, none⟩), .pointer (some ⟨s, 0, none⟩)] w (FnBad [b, s] w b k 11 (fun w' => BoxS w' s x)) := by
  have HN := hide (number_bad b k l 0 w h hl hp)
  have HS := hide hs
  have hq0 := hq
  unfold BoxP at hq
  clear hs h
  go_enter Try.func92, Try.ntmps92
  go_wp2_with fail
  refine HN.out.mono ?_
  rintro e w1 ⟨rfl, ⟨l', hr, hl'⟩, hg⟩
  have hq1 : w1.cell? ⟨q, 0, none⟩ = some (.pointer (some ⟨b, 0, none⟩)) := (World.cell?_of_block (hg.block q hql (by intro e; injection e with e; exact hqb e))).trans hq
  have HS1 := hide (Blk.grown HS.out hg (by intro e; injection e with e; exact hsb e))
  have HG := hide hg
  have HR := hide hr
  have HL := hide (show l'.length ≤ 140737488355328 by omega)
  clear hg hr hq hl' hq0
  go_wp2_with fail
  refine (take_yes b k l' 0 0 w1 HR.out (Nat.zero_le _) HL.out).mono ?_
  rintro e w2 ⟨v2, rfl, _, _, hr2, hg2⟩
  have HG2 := hide (grown_trans HG.out hg2)
  have HR2 := hide hr2
  have HS2 : Hid (BoxS w2 s x) := hide (Blk.grown HS1.out hg2 (by intro e; injection e with e; exact hsb e))
  clear hg2 hr2
  go_wp2_with fail
  go_ret2
  exact ⟨rfl, ⟨_, HR2.out⟩, (Touch.one HG2.out).mono (by simp), HS2.out⟩

set_option maxHeartbeats 1000000 in
theorem textC_short (q s b : Nat) (k : Option Nat) (l : List UInt8) (x : ByteArray) (w : World) (h : Rd w b k l 0) (hl : l.length ≤ 140737488355328) {n : Nat} {t : List UInt8} (hp : parseN l = some (n, t)) (ht : t.length < n) (hq : BoxP w q b) (hs : BoxS w s x) (hqb : q ≠ b) (hsb : s ≠ b) (hql : q < w.heap.size) :
    Calls Try.prog 92 #[.pointer (some ⟨q, 0, none⟩), .pointer (some ⟨s, 0, none⟩)] w (FnBad [b, s] w b k 11 (fun w' => BoxS w' s x)) := by
  have HN := hide (number_got b k l 0 w h hl hp)
  have HS := hide hs
  have HT := hide ht
  have hlt := parse_len hp
  have HL := hide (show t.length ≤ 140737488355328 by omega)
  unfold BoxP at hq
  clear hs h ht hp hlt hl
  go_enter Try.func92, Try.ntmps92
  go_wp2_with fail
  refine HN.out.mono ?_
  rintro e w1 ⟨rfl, hr, hg⟩
  have hq1 : w1.cell? ⟨q, 0, none⟩ = some (.pointer (some ⟨b, 0, none⟩)) := (World.cell?_of_block (hg.block q hql (by intro e; injection e with e; exact hqb e))).trans hq
  have HS1 : Hid (BoxS w1 s x) := hide (Blk.grown HS.out hg (by intro e; injection e with e; exact hsb e))
  have HG := hide hg
  have HR := hide hr
  clear hg hr hq
  go_wp2_with fail
  refine (take_no b k t 0 n w1 HR.out HT.out HL.out).mono ?_
  rintro e w2 ⟨rfl, rfl⟩
  go_wp2_with fail
  go_ret2
  exact ⟨rfl, ⟨_, HR.out⟩, (Touch.one HG.out).mono (by simp), HS1.out⟩

set_option maxHeartbeats 1000000 in
theorem textC_got (q s b : Nat) (k : Option Nat) (l : List UInt8) (x : ByteArray) (w : World) (h : Rd w b k l 0) (hl : l.length ≤ 140737488355328) {n : Nat} {t : List UInt8} (hp : parseN l = some (n, t)) (ht : n ≤ t.length) (hq : BoxP w q b) (hs : BoxS w s x) (hqb : q ≠ b) (hsb : s ≠ b) (hsk : k ≠ some s) (hql : q < w.heap.size) :
    Calls Try.prog 92 #[.pointer (some ⟨q, 0, none⟩), .pointer (some ⟨s, 0, none⟩)] w (FnGot [b, s] w b k 0 (t.drop n) (fun w' => BoxS w' s ⟨(t.take n).toArray⟩)) := by
  have HN := hide (number_got b k l 0 w h hl hp)
  have HS := hide hs
  have HT := hide ht
  have hlt := parse_len hp
  have HL := hide (show t.length ≤ 140737488355328 by omega)
  unfold BoxP at hq
  clear hs h ht hp hlt hl
  go_enter Try.func92, Try.ntmps92
  go_wp2_with fail
  refine HN.out.mono ?_
  rintro e w1 ⟨rfl, hr, hg⟩
  have hq1 : w1.cell? ⟨q, 0, none⟩ = some (.pointer (some ⟨b, 0, none⟩)) := (World.cell?_of_block (hg.block q hql (by intro e; injection e with e; exact hqb e))).trans hq
  have HS1 : Hid (BoxS w1 s x) := hide (Blk.grown HS.out hg (by intro e; injection e with e; exact hsb e))
  have HG := hide hg
  have HR := hide hr
  clear hg hr hq
  go_wp2_with fail
  refine (take_yes b k t 0 n w1 HR.out HT.out HL.out).mono ?_
  rintro e w2 ⟨v2, rfl, hb2, _, hr2, hg2⟩
  have HG2 := hide (grown_trans HG.out hg2)
  have HR2 := hide hr2
  have HS2 : Hid (BoxS w2 s x) := hide (Blk.grown HS1.out hg2 (by intro e; injection e with e; exact hsb e))
  have hcv := run_string_bs hb2
  obtain ⟨sc, sf⟩ := HS2.out.cells
  clear hg2 hr2 hb2 hq1
  go_wp2_with fail
  go_ret2
  refine ⟨rfl, HR2.out.far (grown_set (grown_refl _ (some s)) 0 _) (by simpa using hsb) (fun j hj e => hsk (by rw [hj]; exact e.symm)), ((Touch.one HG2.out).mono (T := [b, s]) (by simp)).set (by simp) 0 _, Blk.put HS2.out 0 _⟩

theorem rText_len (l : List UInt8) (c : Int) : (rText (l, c)).1.1.length ≤ l.length := by
  unfold rText
  split
  · split
    · rename_i h
      have h1 := parse_len h
      have h2 : l.length = (l, c).1.length := rfl
      split
      · simp [bad]
      · simp only [List.length_drop]; omega
    · simp [bad]
  · simp
theorem ret_str {a b : ByteArray} (h : a = b) : Ending.returned (.string a) = .returned (.string b) := by rw [h]

set_option maxHeartbeats 2000000 in
theorem rdText_c (b : Nat) (k : Option Nat) (l : List UInt8) (c : Int) (w : World) (h : Rd w b k l c) (hl : l.length ≤ 140737488355328) (hk : ∀ j, k = some j → j < w.heap.size) :
    Calls Try.prog 64 #[.pointer (some ⟨b, 0, none⟩)] w (Step1 w b k (rText (l, c)).1 (.string ⟨(rText (l, c)).2.toArray⟩)) := by
  have hblt := h.lt
  have H := hide ((h.alloc (.cells #[.pointer (some ⟨b, 0, none⟩)] 106)).alloc (.cells #[.string ⟨#[]⟩] 9))
  clear h
  obtain ⟨w0, hw0⟩ : ∃ w0, w0 = (w.alloc (.cells #[.pointer (some ⟨b, 0, none⟩)] 106)).alloc (.cells #[.string ⟨#[]⟩] 9) := ⟨_, rfl⟩
  have hq : BoxP w0 w.heap.size b := by rw [hw0]; exact ((Blk.new w _ _).alloc _).cell 0
  have hs : BoxS w0 (w.heap.size + 1) ⟨#[]⟩ := by rw [hw0]; have := Blk.new (w.alloc (.cells #[.pointer (some ⟨b, 0, none⟩)] 106)) 9 #[.string ⟨#[]⟩]; simp only [World.size_alloc] at this; exact this
  have hT : Touch [] w w0 := by rw [hw0]; exact ((Touch.refl [] w).alloc _).alloc _
  have hql : w.heap.size < w0.heap.size := by rw [hw0]; simp; omega
  have hback : ∀ (w1 : World), Touch [b, w.heap.size + 1] w0 w1 → Touch [b] w w1 := fun w1 h1 => (hT.mono (T := [b]) (by simp)).next h1 (by simp)
  rw [← hw0] at H
  have HB := hide hback
  have HW := hide hw0
  clear hback hw0
  by_cases hc : c = 0
  · subst hc
    have HX : ∀ (HF : Calls Try.prog 92 #[.pointer (some ⟨w.heap.size, 0, none⟩), .pointer (some ⟨w.heap.size + 1, 0, none⟩)] w0 (FnBad [b, w.heap.size + 1] w0 b k 11 (fun w' => BoxS w' (w.heap.size + 1) ⟨#[]⟩))),
        Calls Try.prog 64 #[.pointer (some ⟨b, 0, none⟩)] w (Step1 w b k (bad 11) (.string ⟨#[]⟩)) := by
      intro HF
      have HF := hide (readText_bad w.heap.size (w.heap.size + 1) [b, w.heap.size + 1] b k l 11 (by decide) (fun w' => BoxS w' (w.heap.size + 1) ⟨#[]⟩) w0 H.out (by simp) HF)
      clear hq hs hT hql
      go_enter Try.func64, Try.ntmps64
      go_wp2_with fail
      rw [HW.out] at HF HB
      refine HF.out.mono ?_
      rintro e w1 ⟨rfl, h1, h2, wx, hx1, hx2⟩
      have hb1 : BoxS w1 (w.heap.size + 1) ⟨#[]⟩ := Blk.touch hx1 hx2 (by simp; omega)
      obtain ⟨sc, sf⟩ := hb1.cells
      have H1 := hide h1
      have H2 := hide (HB.out _ h2)
      clear h1 h2 hx1 hx2 hb1
      go_wp2_with fail
      go_ret
      exact ⟨rfl, H1.out, H2.out⟩
    cases hp : parseN l with
    | none =>
      have hr : rText (l, 0) = (bad 11, []) := by simp [rText, hp]
      rw [hr]
      exact HX (textC_bad _ _ b k l _ _ H.out hl hp hq hs (by omega) (by omega) hql)
    | some p =>
      obtain ⟨n, t⟩ := p
      by_cases ht : t.length < n
      · have hr : rText (l, 0) = (bad 11, []) := by simp [rText, hp, ht]
        rw [hr]
        exact HX (textC_short _ _ b k l _ _ H.out hl hp ht hq hs (by omega) (by omega) hql)
      · have hr : rText (l, 0) = ((t.drop n, 0), t.take n) := by simp [rText, hp, ht]
        rw [hr]
        have HF := hide (readText_got w.heap.size (w.heap.size + 1) [b, w.heap.size + 1] b k l 0 (t.drop n) (fun w' => BoxS w' (w.heap.size + 1) ⟨(t.take n).toArray⟩) w0 H.out (textC_got _ _ b k l _ _ H.out hl hp (by omega) hq hs (by omega) (by omega) (fun e => by have := hk _ e; omega) hql))
        clear hq hs hT hql hr HX ht hp
        generalize (t.take n).toArray = xs at *
        generalize t.drop n = r at *
        go_enter Try.func64, Try.ntmps64
        go_wp2_with fail
        rw [HW.out] at HF HB
        refine HF.out.mono ?_
        rintro e w1 ⟨rfl, h1, h2, hb1⟩
        obtain ⟨sc, sf⟩ := BoxS.cells hb1
        have H1 := hide h1
        have H2 := hide (HB.out _ h2)
        clear h1 h2 hb1
        go_wp2_with fail
        go_ret
        exact ⟨rfl, H1.out, H2.out⟩
  · have hr : rText (l, c) = ((l, c), []) := by simp [rText, hc]
    rw [hr]
    have HF := hide (read_stopped b k l c (.func (.func 92) #[] #[.pointer (some ⟨w.heap.size, 0, none⟩), .pointer (some ⟨w.heap.size + 1, 0, none⟩)]) w0 H.out hc)
    have HT := hide hT
    have HSS := hide hs
    clear hq hs hT hql hr hc
    go_enter Try.func64, Try.ntmps64
    go_wp2_with fail
    rw [HW.out] at HF HB HT H HSS
    refine HF.out.mono ?_
    rintro e w1 ⟨rfl, rfl⟩
    obtain ⟨sc, sf⟩ := HSS.out.cells
    go_wp2_with fail
    go_ret
    exact ⟨rfl, H.out, HT.out.mono (by simp)⟩
end Go.Proofs.Ytpbgelhjbfckcaa
