/- The reference's reading functions: GetNumber. -/
import Derived.Test.YtobcomognkokmaaMethods4
import Derived.Deep.QuietTactic
import Derived.BigQuiet
import Derived.IntWalk
namespace Go.Proofs.Ytobcomognkokmaa
open Go.ChangeShapes Go.WideShapes Go.ChangeAt Go.RowKit
set_option linter.unusedVariables false

theorem ret_got {rv : Value} {a b : Nat} (h : a = b) : Ending.returned (.tuple #[rv, .int .u64 (a : Int)]) = .returned (.tuple #[rv, .int .u64 (b : Int)]) := by rw [h]
/-- A reader of the reference, its bytes in block K if anywhere. -/
def RVal (w : World) (K : Option Nat) (rv : Value) (l : List UInt8) (c : Int) : Prop := ∃ v, rv = .agg #[v, .int .i64 c] ∧ Bs w v l ∧ (l ≠ [] → ∀ j, v.ownBlock = some j → K = some j)
def Got (w : World) (K : Option Nat) (r : RS) (val : Value) (e : Ending) (w' : World) : Prop := ∃ rv, e = .returned (.tuple #[rv, val]) ∧ RVal w' K rv r.1 r.2 ∧ Below w.heap.size w w'

theorem RVal.step {w w' : World} {K : Option Nat} {rv : Value} {l : List UInt8} {c : Int} (h : RVal w K rv l c) (hb : Below w.heap.size w w') : RVal w' K rv l c := by
  obtain ⟨v, e, hbs, hk⟩ := h
  exact ⟨v, e, hbs.step hb, hk⟩
theorem RVal.touch {S : List Nat} {w w' : World} {K : Option Nat} {rv : Value} {l : List UInt8} {c : Int} (h : RVal w K rv l c) (hg : Touch S w w') (h2 : ∀ j, K = some j → j ∉ S) : RVal w' K rv l c := by
  obtain ⟨v, e, hbs, hk⟩ := h
  exact ⟨v, e, hbs.touchN hg (fun hne j hj => h2 j (hk hne j hj)), hk⟩
theorem RVal.bad (w : World) (K : Option Nat) (c : Int) : RVal w K (.agg #[.slice none 0 0, .int .i64 c]) [] c := ⟨_, rfl, Bs.nil w, fun h => absurd rfl h⟩

set_option maxHeartbeats 1000000 in
theorem fail_c (c : Int) (w : World) :
    Calls Try.prog 42 #[.int .i64 c] w fun e w' => e = .returned (.agg #[.slice none 0 0, .int .i64 c]) ∧ w.alloc (.cells #[.slice none 0 0, .int .i64 c] 43) = w' := by
  go_enter Try.func42, Try.ntmps42
  go_wp2_with fail
  exact bodyPost_ret (v := .agg #[.slice none 0 0, .int .i64 c]) (by simp [results, Try.results42, go_sem]) rfl ⟨rfl, rfl⟩

set_option maxHeartbeats 2000000 in
theorem getNumber_nil (K : Option Nat) (v : Value) (w : World) (h : Bs w v []) :
    Calls Try.prog 27 #[.agg #[v, .int .i64 0]] w (Got w K (bad 11) (.int .u64 0)) := by
  obtain ⟨A, c, rfl, h1, h2⟩ := h.form
  clear h
  simp only [List.length_nil] at *
  go_enter Try.func27, Try.ntmps27
  go_wp2_with fail
  go_quiet (fail)
  go_wp2_with fail
  refine (fail_c 11 _).mono ?_
  rintro e w1 ⟨rfl, rfl⟩
  go_wp2_with fail
  exact bodyPost_ret (v := .tuple #[.agg #[.slice none 0 0, .int .i64 11], .int .u64 0]) (by simp [results, Try.results27, go_sem]) rfl ⟨_, rfl, RVal.bad _ _ _, by
    (repeat (first | refine Below.alloc ?_ ?_ _ | refine Below.setCell ?_ ?_ _ | refine below_drewN ?_ _ | refine Below.drew ?_)) <;> first | exact Below.refl _ _ | (simp; done) | (simp; omega)⟩

set_option maxHeartbeats 2000000 in
theorem getNumber_high (K : Option Nat) (v : Value) (x : UInt8) (t : List UInt8) (w : World) (h : Bs w v (x :: t)) (hx : 8 < x.toNat) :
    Calls Try.prog 27 #[.agg #[v, .int .i64 0]] w (Got w K (bad 11) (.int .u64 0)) := by
  obtain ⟨A, n, c, rfl, hn, h1, h2⟩ := h.formN
  obtain ⟨b1, off1, y, rfl, hlt1, hy, hc1⟩ := h.at_ (k := 0) (by rw [hn.out]; simp)
  obtain rfl : x = y := by simpa using hy
  have hu0 : 0 ≤ u8 x := (u8_lt x).1
  have hu1 : u8 x ≤ 255 := (u8_lt x).2
  simp only [Nat.add_zero] at hc1
  have hw0 : IntKind.i64.wrap (u8 x) = u8 x := IntWalk.i64_in _ (by omega)
  have hu : (8 : Int) < u8 x := by unfold u8; omega
  have hn0 : 0 < n := by rw [hn.out]; simp
  have hz : ((n : Int) == 0) = false := by simp; omega
  clear h hx hy
  go_enter Try.func27, Try.ntmps27
  go_wp2_with fail
  go_quiet (fail)
  go_wp2_with fail
  refine (fail_c 11 _).mono ?_
  rintro e w1 ⟨rfl, rfl⟩
  go_wp2_with fail
  exact bodyPost_ret (v := .tuple #[.agg #[.slice none 0 0, .int .i64 11], .int .u64 0]) (by simp [results, Try.results27, go_sem]) rfl ⟨_, rfl, RVal.bad _ _ _, by
    (repeat (first | refine Below.alloc ?_ ?_ _ | refine Below.setCell ?_ ?_ _ | refine below_drewN ?_ _ | refine Below.drew ?_)) <;> first | exact Below.refl _ _ | (simp; done) | (simp; omega)⟩

set_option maxHeartbeats 2000000 in
theorem getNumber_short (K : Option Nat) (v : Value) (x : UInt8) (t : List UInt8) (w : World) (h : Bs w v (x :: t)) (hx : x.toNat ≤ 8) (ht : t.length < x.toNat) :
    Calls Try.prog 27 #[.agg #[v, .int .i64 0]] w (Got w K (bad 11) (.int .u64 0)) := by
  obtain ⟨A, n, c, rfl, hn, h1, h2⟩ := h.formN
  obtain ⟨b1, off1, y, rfl, hlt1, hy, hc1⟩ := h.at_ (k := 0) (by rw [hn.out]; simp)
  obtain rfl : x = y := by simpa using hy
  have hu0 : 0 ≤ u8 x := (u8_lt x).1
  have hu1 : u8 x ≤ 255 := (u8_lt x).2
  simp only [Nat.add_zero] at hc1
  have hw0 : IntKind.i64.wrap (u8 x) = u8 x := IntWalk.i64_in _ (by omega)
  have hu : u8 x ≤ 8 := by unfold u8; omega
  have hn0 : 0 < n := by rw [hn.out]; simp
  have hz : ((n : Int) == 0) = false := by simp; omega
  have hs : (n : Int) < 1 + u8 x := by have := hn.out; unfold u8; simp at this; omega
  have hw : IntKind.i64.wrap (1 + u8 x) = 1 + u8 x := IntWalk.i64_in _ (by omega)
  clear h hx hy ht
  go_enter Try.func27, Try.ntmps27
  go_wp2_with fail
  go_quiet (fail)
  go_wp2_with fail
  refine (fail_c 11 _).mono ?_
  rintro e w1 ⟨rfl, rfl⟩
  go_wp2_with fail
  exact bodyPost_ret (v := .tuple #[.agg #[.slice none 0 0, .int .i64 11], .int .u64 0]) (by simp [results, Try.results27, go_sem]) rfl ⟨_, rfl, RVal.bad _ _ _, by
    (repeat (first | refine Below.alloc ?_ ?_ _ | refine Below.setCell ?_ ?_ _ | refine below_drewN ?_ _ | refine Below.drew ?_)) <;> first | exact Below.refl _ _ | (simp; done) | (simp; omega)⟩

set_option maxHeartbeats 2000000 in
theorem getNumber_zero (K : Option Nat) (v : Value) (x : UInt8) (t : List UInt8) (w : World) (h : Bs w v (x :: 0 :: t)) (hx : x.toNat ≤ 8) (h0 : 0 < x.toNat) (ht : x.toNat ≤ t.length + 1) :
    Calls Try.prog 27 #[.agg #[v, .int .i64 0]] w (Got w K (bad 11) (.int .u64 0)) := by
  obtain ⟨A, n, c, rfl, hn, h1, h2⟩ := h.formN
  obtain ⟨b1, off1, y, rfl, hlt1, hy, hc1⟩ := h.at_ (k := 0) (by rw [hn.out]; simp)
  obtain rfl : x = y := by simpa using hy
  have hu0 : 0 ≤ u8 x := (u8_lt x).1
  have hu1 : u8 x ≤ 255 := (u8_lt x).2
  simp only [Nat.add_zero] at hc1
  have hw0 : IntKind.i64.wrap (u8 x) = u8 x := IntWalk.i64_in _ (by omega)
  obtain ⟨b2, off2, z, e2, _, hz2, hc2⟩ := h.at_ (k := 1) (by rw [hn.out]; simp)
  obtain rfl : 0 = z := by simpa using hz2
  injection e2 with e2
  injection e2 with e2 e3
  subst e2 e3
  rw [show u8 0 = 0 from rfl] at hc2
  have hu : u8 x ≤ 8 := by unfold u8; omega
  have hn1 : 1 < n := by rw [hn.out]; simp
  have hn0 : 0 < n := by omega
  have hup : (0 : Int) < u8 x := by unfold u8; omega
  have hz : ((n : Int) == 0) = false := by simp; omega
  have hs : ¬ (n : Int) < 1 + u8 x := by have := hn.out; unfold u8; simp at this; omega
  have hw : IntKind.i64.wrap (1 + u8 x) = 1 + u8 x := IntWalk.i64_in _ (by omega)
  clear h hx hy ht hz2 h0
  go_enter Try.func27, Try.ntmps27
  go_wp2_with fail
  go_quiet (fail)
  go_wp2_with fail
  refine (fail_c 11 _).mono ?_
  rintro e w1 ⟨rfl, rfl⟩
  go_wp2_with fail
  exact bodyPost_ret (v := .tuple #[.agg #[.slice none 0 0, .int .i64 11], .int .u64 0]) (by simp [results, Try.results27, go_sem]) rfl ⟨_, rfl, RVal.bad _ _ _, by
    (repeat (first | refine Below.alloc ?_ ?_ _ | refine Below.setCell ?_ ?_ _ | refine below_drewN ?_ _ | refine Below.drew ?_)) <;> first | exact Below.refl _ _ | (simp; done) | (simp; omega)⟩

theorem num_take_lt8 (l : List UInt8) (j : Nat) (hj : j < l.length) (h8 : j < 8) : num (l.take j) < 2 ^ 56 := by
  have h1 := num_lt (l.take j)
  rw [List.length_take, Nat.min_eq_left (by omega)] at h1
  have h2 : (256 : Nat) ^ j ≤ 256 ^ 7 := Nat.pow_le_pow_right (by omega) (by omega)
  omega

set_option maxHeartbeats 2000000 in
theorem getNumber_zeros (K : Option Nat) (b1 off1 n c : Nat) (x : UInt8) (t : List UInt8) (w : World) (h : Bs w (.slice (some ⟨b1, off1, none⟩) n c) (x :: t)) (hK : K = some b1) (hn : n = t.length + 1) (hnc : n ≤ c) (hc : c ≤ 9223372036854775807)
    (hc1 : w.cell? ⟨b1, off1, none⟩ = some (.int .u8 0)) :
    Calls Try.prog 27 #[.agg #[.slice (some ⟨b1, off1, none⟩) n c, .int .i64 0]] w (Got w K (t, 0) (.int .u64 0)) := by
  have HB := hide h
  have hn0 : 0 < n := by omega
  have hz : ((n : Int) == 0) = false := by simp; omega
  have hs : decide ((n : Int) < 1) = false := by simp; omega
  have hw : IntKind.i64.wrap (1 + 0) = 1 := rfl
  have hlt1 : b1 < w.heap.size := World.block_lt_of_cell? w _ hc1
  have HN := hide hn
  clear h hn
  go_enter Try.func27, Try.ntmps27
  go_wp2_with fail
  go_quiet (fail)
  go_wp2_with fail
  go_loop [5, 6] (fun a i => i = .int .i64 1 ∧ a = .int .u64 0) (fun _ i => 0)
  case atStart => exact ⟨rfl, rfl⟩
  case round =>
    obtain ⟨rfl, rfl⟩ := hrel

    by_cases hcm : c = 1
    · have hnm : n = 1 := by have := HN.out; omega
      subst hcm
      subst hnm
      have HD := hide (Bs.drop HB.out (k := 1) (Nat.le_refl _))
      rw [if_pos rfl, Nat.sub_self] at HD
      go_wp2_with fail
      refine bodyPost_ret (v := .tuple #[.agg #[.slice (some ⟨b1, off1, none⟩) 0 0, .int .i64 0], .int .u64 0]) (by simp [results, Try.results27, go_sem]) rfl ⟨_, rfl, ⟨_, rfl, HD.out.step ?hb1, ?hk1⟩, ?hb1⟩
      case hk1 => intro _ j hj; rw [← hj]; first | rfl | (rw [hK]; rfl)
      case hb1 =>
        (repeat (first | refine Below.alloc ?_ ?_ _ | refine Below.setCell ?_ ?_ _ | refine below_drewN ?_ _ | refine Below.drew ?_)) <;> first | exact Below.refl _ _ | (simp; done) | (simp; omega)
    · have HD := hide (Bs.drop HB.out (k := 1) (by have := HN.out; omega))
      rw [if_neg hcm] at HD
      simp only [Option.map_some, add_plain] at HD
      go_wp2_with fail
      refine bodyPost_ret (v := .tuple #[.agg #[.slice (some ⟨b1, off1 + 1, none⟩) (n - 1) (c - 1), .int .i64 0], .int .u64 0]) (by simp [results, Try.results27, go_sem]) rfl ⟨_, rfl, ⟨_, rfl, HD.out.step ?hb2, ?hk2⟩, ?hb2⟩
      case hk2 => intro _ j hj; rw [← hj]; first | rfl | (rw [hK]; rfl)
      case hb2 =>
        (repeat (first | refine Below.alloc ?_ ?_ _ | refine Below.setCell ?_ ?_ _ | refine below_drewN ?_ _ | refine Below.drew ?_)) <;> first | exact Below.refl _ _ | (simp; done) | (simp; omega)

set_option maxHeartbeats 2000000 in
theorem getNumber_more (K : Option Nat) (b1 off1 n c m : Nat) (x : UInt8) (t : List UInt8) (w : World) (h : Bs w (.slice (some ⟨b1, off1, none⟩) n c) (x :: t)) (hK : K = some b1) (hn : n = t.length + 1) (hnc : n ≤ c) (hc : c ≤ 9223372036854775807)
    (hc1 : w.cell? ⟨b1, off1, none⟩ = some (.int .u8 (m : Int))) (hm8 : m ≤ 8) (hm0 : 0 < m) (hmt : m ≤ t.length) (z : Int) (hc2 : w.cell? ⟨b1, off1 + 1, none⟩ = some (.int .u8 z)) (hz2 : (z == 0) = false) :
    Calls Try.prog 27 #[.agg #[.slice (some ⟨b1, off1, none⟩) n c, .int .i64 0]] w (Got w K (t.drop m, 0) (.int .u64 (num (t.take m)))) := by
  have HB := hide h
  have hn0 : 0 < n := by omega
  have hn1 : 1 < n := by omega
  have hmi : (0 : Int) < (m : Int) := by omega
  have hm8i : ¬ (8 : Int) < (m : Int) := by omega
  have hz : ((n : Int) == 0) = false := by simp; omega
  have hw0 : IntKind.i64.wrap (m : Int) = m := IntWalk.i64_in _ (by omega)
  have hw : IntKind.i64.wrap (1 + (m : Int)) = 1 + m := IntWalk.i64_in _ (by omega)
  have hs : decide ((n : Int) < 1 + (m : Int)) = false := by simp; omega
  have h8 : decide ((8 : Int) < (m : Int)) = false := by simp; omega
  have hlt1 : b1 < w.heap.size := World.block_lt_of_cell? w _ hc1
  have HN := hide hn
  have HMT := hide hmt
  clear h hn hmt
  go_enter Try.func27, Try.ntmps27
  go_wp2_with fail
  go_quiet (fail)
  clear hw hw0
  go_wp2_with fail
  go_loop [5, 6] (fun a i => ∃ j : Nat, 1 ≤ j ∧ j ≤ m + 1 ∧ i = .int .i64 j ∧ a = .int .u64 (num (t.take (j - 1)))) (fun _ i => m + 1 - (intOf i).toNat)
  case atStart => exact ⟨1, by omega, by omega, rfl, rfl⟩
  case round =>
    clear hc2 hz2
    obtain ⟨j, hj1, hj, rfl, rfl⟩ := hrel
    by_cases hlt : j ≤ m
    · have hjl : j - 1 < t.length := by have := HMT.out; omega
      have hs1 := num_take t (j - 1) hjl
      have hnl := num_take_lt8 t (j - 1) hjl (by omega)
      obtain ⟨bb, oo, y, e1, _, hzz, hc3⟩ := HB.out.at_ (k := j) (by have := HN.out; have := HMT.out; omega)
      injection e1 with e1
      injection e1 with e1 e2
      subst e1 e2
      obtain rfl : t[j - 1] = y := by
        obtain ⟨i, rfl⟩ : ∃ i, j = i + 1 := ⟨j - 1, by omega⟩
        have h2 : i < t.length := by omega
        rw [List.getElem?_cons_succ, List.getElem?_eq_getElem h2] at hzz
        injection hzz
      have HS : Hid (num (t.take (j + 1 - 1)) = num (t.take (j - 1)) * 256 + t[j - 1].toNat) := hide (by
        have e : j + 1 - 1 = j - 1 + 1 := by omega
        rw [e]; exact hs1)
      clear hs1 hzz
      obtain ⟨a, ha⟩ : ∃ a, a = num (t.take (j - 1)) := ⟨_, rfl⟩
      rw [← ha] at hnl HS ⊢
      obtain ⟨x2, hx2⟩ : ∃ x2, x2 = t[j - 1] := ⟨_, rfl⟩
      rw [← hx2] at hc3 HS
      have q1 : 0 ≤ u8 x2 := (u8_lt x2).1
      have q2 : u8 x2 ≤ 255 := (u8_lt x2).2
      have hjn : (j : Int) < (n : Int) := by have := HN.out; have := HMT.out; omega
      clear ha hx2 hjl
      go_wp2_with fail
      go_round
      case rel => exact ⟨j + 1, by omega, by omega, by go_num, by rw [HS.out]; unfold u8; go_num⟩
      case measure => simp [intOf]; omega
    · obtain rfl : j = m + 1 := by omega
      rw [Nat.add_sub_cancel]
      obtain ⟨a, ha⟩ : ∃ a, a = num (t.take m) := ⟨_, rfl⟩
      rw [← ha]
      have HA := hide ha
      have HDR : Hid ((x :: t).drop (1 + m) = t.drop m) := hide (by rw [Nat.add_comm]; rfl)
      clear ha

      by_cases hcm : c = (1 + m)
      · have hnm : n = (1 + m) := by have := HN.out; have := HMT.out; omega
        subst hcm
        subst hnm
        have HD := hide (Bs.drop HB.out (k := (1 + m)) (Nat.le_refl _))
        rw [if_pos rfl, Nat.sub_self, HDR.out] at HD
        go_wp2_with fail
        refine bodyPost_ret (v := .tuple #[.agg #[.slice (some ⟨b1, off1, none⟩) 0 0, .int .i64 0], .int .u64 a]) (by simp [results, Try.results27, go_sem]) rfl ⟨_, ret_got HA.out, ⟨_, rfl, HD.out.step ?hb1, ?hk1⟩, ?hb1⟩
        case hk1 => intro _ j hj; rw [← hj]; first | rfl | (rw [hK]; rfl)
        case hb1 =>
          (repeat (first | refine Below.alloc ?_ ?_ _ | refine Below.setCell ?_ ?_ _ | refine below_drewN ?_ _ | refine Below.drew ?_)) <;> first | exact Below.refl _ _ | (simp; done) | (simp; omega)
      · have HD := hide (Bs.drop HB.out (k := (1 + m)) (by have := HN.out; have := HMT.out; omega))
        rw [if_neg hcm, HDR.out] at HD
        simp only [Option.map_some, add_plain] at HD
        have hbn : 1 + (m : Int) ≤ (n : Int) := by have := HN.out; have := HMT.out; omega
        go_wp2_with fail
        refine bodyPost_ret (v := .tuple #[.agg #[.slice (some ⟨b1, off1 + (1 + m), none⟩) (n - (1 + m)) (c - (1 + m)), .int .i64 0], .int .u64 a]) (by simp [results, Try.results27, go_sem]) rfl ⟨_, ret_got HA.out, ⟨_, rfl, HD.out.step ?hb2, ?hk2⟩, ?hb2⟩
        case hk2 => intro _ j hj; rw [← hj]; first | rfl | (rw [hK]; rfl)
        case hb2 =>
          (repeat (first | refine Below.alloc ?_ ?_ _ | refine Below.setCell ?_ ?_ _ | refine below_drewN ?_ _ | refine Below.drew ?_)) <;> first | exact Below.refl _ _ | (simp; done) | (simp; omega)

set_option maxHeartbeats 2000000 in
theorem getNumber_stopped (K : Option Nat) (rv : Value) (l : List UInt8) (c : Int) (w : World) (h : RVal w K rv l c) (hc : c ≠ 0) :
    Calls Try.prog 27 #[rv] w (Got w K (l, c) (.int .u64 0)) := by
  obtain ⟨v, rfl, hb, hk⟩ := h
  have hcb : (c == 0) = false := by simpa using hc
  have HB := hide hb
  have HK := hide hk
  obtain ⟨A, n, cp, rfl, hn, h1, h2⟩ := hb.formN
  clear hb hc hk
  go_enter Try.func27, Try.ntmps27
  go_wp2_with fail
  refine bodyPost_ret (v := .tuple #[.agg #[.slice A n cp, .int .i64 c], .int .u64 0]) (by simp [results, Try.results27, go_sem]) rfl ⟨_, rfl, ⟨_, rfl, HB.out.step ?hb1, HK.out⟩, ?hb1⟩
  case hb1 =>
    (repeat (first | refine Below.alloc ?_ ?_ _ | refine Below.setCell ?_ ?_ _ | refine below_drewN ?_ _ | refine Below.drew ?_)) <;> first | exact Below.refl _ _ | (simp; done) | (simp; omega)

theorem getNumber_c (K : Option Nat) (rv : Value) (l : List UInt8) (c : Int) (w : World) (h : RVal w K rv l c) :
    Calls Try.prog 27 #[rv] w (Got w K (rNum (l, c)).1 (.int .u64 (rNum (l, c)).2)) := by
  by_cases hc : c = 0
  · subst hc
    obtain ⟨v, rfl, hb, hk⟩ := h
    rcases parse_cases l with ⟨rfl, h4⟩ | ⟨x, t, rfl, h1, h4⟩ | ⟨x, t, rfl, h1, h2, h4⟩ | ⟨x, t, rfl, h1, h2, h3, h4⟩ | ⟨x, t, rfl, h1, h2, h3, h4⟩
    · have hr : rNum (([] : List UInt8), 0) = (bad 11, 0) := by simp [rNum, h4]
      rw [hr]; exact getNumber_nil K v w hb
    · have hr : rNum (x :: t, 0) = (bad 11, 0) := by simp [rNum, h4]
      rw [hr]; exact getNumber_high K v x t w hb h1
    · have hr : rNum (x :: t, 0) = (bad 11, 0) := by simp [rNum, h4]
      rw [hr]; exact getNumber_short K v x t w hb h1 h2
    · have hr : rNum (x :: 0 :: t, 0) = (bad 11, 0) := by simp [rNum, h4]
      rw [hr]; exact getNumber_zero K v x t w hb h1 h2 h3
    · have hr : rNum (x :: t, 0) = ((t.drop x.toNat, 0), num (t.take x.toNat)) := by simp [rNum, h4]
      rw [hr]
      obtain ⟨A, n, cp, rfl, hn, h5, h6⟩ := hb.formN
      obtain ⟨b1, off1, y, rfl, hlt1, hy, hc1⟩ := hb.at_ (k := 0) (by rw [hn.out]; simp)
      obtain rfl : x = y := by simpa using hy
      simp only [Nat.add_zero] at hc1
      have hK := hk (by simp) b1 rfl
      have hnl : n = t.length + 1 := hn.out
      by_cases hx0 : x.toNat = 0
      · have hux : u8 x = 0 := by unfold u8; omega
        rw [hux] at hc1
        rw [hx0]
        exact getNumber_zeros K b1 off1 n cp x t w hb hK hnl h5 h6 hc1
      · obtain ⟨b2, off2, z, e2, _, hz2, hc2⟩ := hb.at_ (k := 1) (by omega)
        injection e2 with e2
        injection e2 with e2 e3
        subst e2 e3
        have hzn : (u8 z == 0) = false := by
          have : z ≠ 0 := by
            intro e
            apply h3
            refine ⟨by omega, ?_⟩
            cases t with
            | nil => simp at hz2
            | cons a r =>
              simp at hz2
              rw [List.headD_cons, hz2, e]
          simp only [beq_eq_false_iff_ne, ne_eq]
          intro e
          apply this
          apply UInt8.toNat_inj.1
          unfold u8 at e
          have : z.toNat = 0 := by omega
          simpa using this
        exact getNumber_more K b1 off1 n cp x.toNat x t w hb hK hnl h5 h6 hc1 h1 (by omega) h2 (u8 z) hc2 hzn
  · have hr : rNum (l, c) = ((l, c), 0) := by simp [rNum, hc]
    rw [hr]
    exact getNumber_stopped K rv l c w h hc
end Go.Proofs.Ytobcomognkokmaa
