/- The reference's reading functions: GetBool, End. -/
import Derived.Test.YtobcomognkokmaaRefGet2
namespace Go.Proofs.Ytobcomognkokmaa
open Go.ChangeShapes Go.WideShapes Go.ChangeAt Go.RowKit
set_option linter.unusedVariables false
set_option linter.unusedSimpArgs false

theorem ret_gotb {rv : Value} {a b : Bool} (h : a = b) : Ending.returned (.tuple #[rv, .bool a]) = .returned (.tuple #[rv, .bool b]) := by rw [h]
set_option maxHeartbeats 2000000 in
theorem getBool_c (K : Option Nat) (rv : Value) (l : List UInt8) (c : Int) (w : World) (h : RVal w K rv l c) :
    Calls Try.prog 30 #[rv] w (Got w K (rBool (l, c)).1 (.bool (rBool (l, c)).2)) := by
  obtain ⟨v, rfl, hb, hk⟩ := h
  have HB := hide hb
  have HK := hide hk
  obtain ⟨A, n, cp, rfl, hn, h1, h2⟩ := hb.formN
  clear hk
  by_cases hc : c = 0
  · subst hc
    cases l with
    | nil =>
      obtain rfl : n = 0 := hn.out
      have hr : rBool (([] : List UInt8), 0) = (bad 11, false) := rfl
      rw [hr]
      clear hb hn hr
      go_enter Try.func30, Try.ntmps30
      go_wp2_with fail
      refine (fail_c 11 _).mono ?_
      rintro e w1 ⟨rfl, rfl⟩
      go_wp2_with fail
      refine bodyPost_ret (v := .tuple #[.agg #[.slice none 0 0, .int .i64 11], .bool false]) (by simp [results, Try.results30, go_sem]) rfl ⟨_, rfl, RVal.bad _ _ _, ?hb1⟩
      case hb1 =>
        (repeat (with_reducible first | exact Below.refl _ _ | refine Below.alloc ?_ ?_ _ | refine Below.setCell ?_ ?_ _ | refine below_drewN ?_ _ | refine Below.drew ?_)) <;> first | (simp; done) | (simp; omega)
    | cons x t =>
      have hnl : n = t.length + 1 := hn.out
      obtain ⟨b1, off1, y, rfl, hlt1, hy, hc1⟩ := hb.at_ (k := 0) (by omega)
      obtain rfl : x = y := by simpa using hy
      have hu0 : 0 ≤ u8 x := (u8_lt x).1
      simp only [Nat.add_zero] at hc1
      have hn0 : 0 < n := by omega
      have hz : ((n : Int) == 0) = false := by simp; omega
      by_cases hx : 1 < x.toNat
      · have hr : rBool (x :: t, 0) = (bad 11, false) := by simp [rBool, hx]
        rw [hr]
        have hu : (1 : Int) < u8 x := by unfold u8; omega
        clear hb hn hr hnl hy hx
        go_enter Try.func30, Try.ntmps30
        go_wp2_with fail
        refine (fail_c 11 _).mono ?_
        rintro e w1 ⟨rfl, rfl⟩
        go_wp2_with fail
        refine bodyPost_ret (v := .tuple #[.agg #[.slice none 0 0, .int .i64 11], .bool false]) (by simp [results, Try.results30, go_sem]) rfl ⟨_, rfl, RVal.bad _ _ _, ?hb2⟩
        case hb2 =>
          (repeat (with_reducible first | exact Below.refl _ _ | refine Below.alloc ?_ ?_ _ | refine Below.setCell ?_ ?_ _ | refine below_drewN ?_ _ | refine Below.drew ?_)) <;> first | (simp; done) | (simp; omega)
      · have hr : rBool (x :: t, 0) = ((t, 0), x.toNat == 1) := by simp [rBool, hx]
        rw [hr]
        have hu : u8 x ≤ 1 := by unfold u8; omega
        have hxe : (x.toNat == 1) = (u8 x == 1) := by
          unfold u8; rw [Bool.eq_iff_iff]; simp; omega
        rw [hxe]
        have HN := hide hnl
        by_cases hcm : cp = 1
        · have hnm : n = 1 := by omega
          subst hcm
          subst hnm
          have HD := hide (Bs.drop HB.out (k := 1) (Nat.le_refl _))
          rw [if_pos rfl, Nat.sub_self] at HD
          clear hb hn hr hnl hy hx hxe
          go_enter Try.func30, Try.ntmps30
          go_wp2_with fail
          refine bodyPost_ret (v := .tuple #[.agg #[.slice (some ⟨b1, off1, none⟩) 0 0, .int .i64 0], .bool (u8 x == 1)]) (by simp [results, Try.results30, go_sem]) rfl ⟨_, rfl, ⟨_, rfl, HD.out.step ?hb3, fun _ => HK.out (by simp)⟩, ?hb3⟩
          case hb3 =>
            (repeat (with_reducible first | exact Below.refl _ _ | refine Below.alloc ?_ ?_ _ | refine Below.setCell ?_ ?_ _ | refine below_drewN ?_ _ | refine Below.drew ?_)) <;> first | (simp; done) | (simp; omega)
        · have HD := hide (Bs.drop HB.out (k := 1) (by omega))
          rw [if_neg hcm] at HD
          simp only [Option.map_some, add_plain] at HD
          clear hb hn hr hnl hy hx hxe
          go_enter Try.func30, Try.ntmps30
          go_wp2_with fail
          refine bodyPost_ret (v := .tuple #[.agg #[.slice (some ⟨b1, off1 + 1, none⟩) (n - 1) (cp - 1), .int .i64 0], .bool (u8 x == 1)]) (by simp [results, Try.results30, go_sem]) rfl ⟨_, rfl, ⟨_, rfl, HD.out.step ?hb4, fun _ => HK.out (by simp)⟩, ?hb4⟩
          case hb4 =>
            (repeat (with_reducible first | exact Below.refl _ _ | refine Below.alloc ?_ ?_ _ | refine Below.setCell ?_ ?_ _ | refine below_drewN ?_ _ | refine Below.drew ?_)) <;> first | (simp; done) | (simp; omega)
  · have hr : rBool (l, c) = ((l, c), false) := by simp [rBool, hc]
    rw [hr]
    have hcb : (c == 0) = false := by simpa using hc
    clear hb hr hc
    go_enter Try.func30, Try.ntmps30
    go_wp2_with fail
    refine bodyPost_ret (v := .tuple #[.agg #[.slice A n cp, .int .i64 c], .bool false]) (by simp [results, Try.results30, go_sem]) rfl ⟨_, rfl, ⟨_, rfl, HB.out.step ?hb5, HK.out⟩, ?hb5⟩
    case hb5 =>
      (repeat (with_reducible first | exact Below.refl _ _ | refine Below.alloc ?_ ?_ _ | refine Below.setCell ?_ ?_ _ | refine below_drewN ?_ _ | refine Below.drew ?_)) <;> first | (simp; done) | (simp; omega)

set_option maxHeartbeats 2000000 in
theorem refEnd_c (K : Option Nat) (rv : Value) (l : List UInt8) (c : Int) (w : World) (h : RVal w K rv l c) :
    Calls Try.prog 33 #[rv] w fun e w' => e = .returned (.int .i64 (rEnd (l, c))) ∧ Below w.heap.size w w' := by
  obtain ⟨v, rfl, hb, hk⟩ := h
  obtain ⟨A, n, cp, rfl, hn, h1, h2⟩ := hb.formN
  clear hb hk
  by_cases hc : c = 0
  · subst hc
    by_cases hl : 0 < l.length
    · have hr : rEnd (l, 0) = 11 := by simp [rEnd, hl]
      rw [hr]
      have hx : (0 : Int) < (n : Int) := by have := hn.out; omega
      clear hr hl hn
      go_enter Try.func33, Try.ntmps33
      go_wp2_with fail
      go_ret
      exact ⟨rfl, (Below.refl _ _).alloc (Nat.le_refl _) _⟩
    · have hr : rEnd (l, 0) = 0 := by simp [rEnd, hl]
      rw [hr]
      have hx : ¬ (0 : Int) < (n : Int) := by have := hn.out; omega
      clear hr hl hn
      go_enter Try.func33, Try.ntmps33
      go_wp2_with fail
      go_ret
      exact ⟨rfl, (Below.refl _ _).alloc (Nat.le_refl _) _⟩
  · have hr : rEnd (l, c) = c := by simp [rEnd, hc]
    rw [hr]
    have hcb : (c == 0) = false := by simpa using hc
    clear hr hc hn
    go_enter Try.func33, Try.ntmps33
    go_wp2_with fail
    go_ret
    exact ⟨rfl, (Below.refl _ _).alloc (Nat.le_refl _) _⟩
end Go.Proofs.Ytobcomognkokmaa
