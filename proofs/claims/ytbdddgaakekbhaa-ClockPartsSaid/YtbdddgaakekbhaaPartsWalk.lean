/- ClockParts' walk. -/
import Derived.Test.YtbdddgaakekbhaaAwake
import Derived.Test.YtbdddgaakekbhaaSteps
import Derived.Deep.RegionHeld3
import Derived.Deep.AppendLies
namespace Go.Proofs.Ytbdddgaakekbhaa
open Go.ChangeShapes Go.WideShapes Go.ChangeAt Go.RowKit

theorem adv_ge {u t k r : Int} : u ≤ advU u t k r := by
  unfold advU
  by_cases e : advE t k r = 0
  · rw [if_pos e]
    unfold advE at e
    split at e
    · omega
    · split at e
      · omega
      · have := mul_rate (k := k) (r := r) (by omega) (by omega) (by omega)
        omega
  · rw [if_neg e]; omega
theorem parts_law {u t a b r : Int} (ha : 0 ≤ a) (hb : 0 ≤ b) (h : advE t (a + b) r = 0) :
    advE t a r = 0 ∧ advE (advT t a r) b r = 0 ∧ advU (advU u t a r) (advT t a r) b r = advU u t (a + b) r := by
  have h1 : advE t a r = 0 := by
    unfold advE at *
    split at h
    · omega
    · rename_i hr
      rw [if_neg hr]
      split at h
      · omega
      · rw [if_neg (by omega)]
  have h2 : advE (advT t a r) b r = 0 := by
    rw [advT_ok h1]
    unfold advE at *
    split at h
    · omega
    · rename_i hr
      rw [if_neg hr]
      split at h
      · omega
      · rw [if_neg (by omega)]
  refine ⟨h1, h2, ?_⟩
  unfold advU
  rw [if_pos h1, if_pos h2, if_pos h, Int.add_mul]
  omega

set_option maxHeartbeats 2000000 in
theorem walkClockParts (W : World) (v0 : Value) (l0 : List (Int × Int)) (h0 : StepsIn W v0 l0) (a : Int) (wa : (Lit.int .u32 a).wf = true) (b : Int) (wb : (Lit.int .u32 b).wf = true) (rate : Int) (wr : (Lit.int .u8 rate).wf = true) :
    Calls Try.prog 7 #[v0, .int .u32 a, .int .u32 b, .int .u8 rate] W fun e w' => e = .returned (.bool true) ∧ Below W.heap.size W w' := by
  obtain ⟨A, ca, rfl, ma⟩ := h0.form
  generalize l0.length = n at *
  have ⟨ha0, ha1⟩ : 0 ≤ a ∧ a ≤ 4294967295 := by simpa [Lit.wf, IntKind.min, IntKind.max, IntKind.signed, IntKind.bits] using wa
  have ⟨hb0, hb1⟩ : 0 ≤ b ∧ b ≤ 4294967295 := by simpa [Lit.wf, IntKind.min, IntKind.max, IntKind.signed, IntKind.bits] using wb
  have ⟨hr0, hr1⟩ : 0 ≤ rate ∧ rate ≤ 255 := by simpa [Lit.wf, IntKind.min, IntKind.max, IntKind.signed, IntKind.bits] using wr
  clear wa wb wr
  by_cases c1 : 40 < n
  · go_enter Try.func7, Try.ntmps7
    go_wp2_with fail
    refine (awake_any _).mono ?_
    rintro e w1 ⟨rfl, hb⟩
    go_wp2_with fail
    go_ret
    exact ⟨rfl, hb⟩
  go_enter Try.func7, Try.ntmps7
  go_wp2_with fail
  refine (awake_any _).mono ?_
  rintro e wa ⟨rfl, hb⟩
  go_wp2_with fail
  refine (new_c _).mono ?_
  rintro e w1 ⟨rfl, rfl⟩
  have hst : At W wa.heap.size 0 0 (wa.alloc (.cells #[.int .i64 0, .int .i64 0] 47)) := ⟨CB.new _ _ _, by unfold Fits; omega, hb.alloc hb.size _, hb.size⟩
  generalize wa.heap.size = g at *
  generalize wa.alloc (.cells #[.int .i64 0, .int .i64 0] 47) = w1 at *
  clear hb wa
  go_wp2_with fail
  refine (now_c _ g 0 0 hst.1 (by omega) (by omega)).mono ?_
  rintro e w2 ⟨rfl, rfl⟩
  go_wp2_with fail
  go_loopw [10, 11] (fun s i wr => ∃ k : Nat, k ≤ n ∧ i = .int .i64 k ∧ ∃ u t, s = .int .i64 (u / 64) ∧ At W g u t wr) (fun _ i _ => n - (intOf i).toNat)
  case atStart => exact ⟨0, Nat.zero_le _, rfl, 0, 0, rfl, hst⟩
  case round =>
    obtain ⟨k, hk, rfl, u, t, rfl, hat⟩ := hrel
    by_cases hlt : k < n
    · obtain ⟨bk, off, tk, rt, rfl, hbl, _, hlo, hhi, hc0, hc1⟩ := h0.at_ hat.2.2.1 hlt
      have hbg : some bk ≠ some g := by have := hat.2.2.2; simp; omega
      have hblt : bk < wr.heap.size := by have := hat.2.2.1.size; omega
      have hge : u / 64 ≤ advU u t tk rt / 64 := Int.ediv_le_ediv (by omega) adv_ge
      have ⟨hn0, hn1⟩ := now_bd (fits_adv (k := tk) (r := rt) hat.2.1)
      go_wp2_with fail
      go_region_held3 (fun w' => w'.cell? ⟨bk, off + k * 2, none⟩ = some (.int .i64 tk) ∧ w'.cell? ⟨bk, off + k * 2 + 1, none⟩ = some (.int .i64 rt))
        (first | go_keep | exact ⟨(hgr.cell_far ⟨bk, _, none⟩ hblt hbg).trans hc0, (hgr.cell_far ⟨bk, _, none⟩ hblt hbg).trans hc1⟩)
        (first | (go_at_call 14; refine (advance_c _ g u t _ _ (CB.drew hat.1) hat.2.1).mono ?_; rintro e w2 ⟨rfl, hcb, hgr⟩))
      have hat2 := hat.adv hcb (grown_undrew hgr)
      go_wp2_with fail
      refine (now_c _ g _ _ hat2.1 hn0 hn1).mono ?_
      rintro e w3 ⟨rfl, rfl⟩
      go_wp2_with fail
      refine (now_c _ g _ _ hat2.1 hn0 hn1).mono ?_
      rintro e w3 ⟨rfl, rfl⟩
      go_wp2_with fail
      go_roundw
      case rel => exact ⟨k + 1, by omega, by go_num, _, _, rfl, hat2⟩
      case measure => simp [intOf]; omega
    · obtain ⟨r, hr⟩ : ∃ r, r = 63 + rate % 3 := ⟨_, rfl⟩
      have hrb0 : 63 ≤ r := by omega
      have hrb1 : r ≤ 65 := by omega
      have HR := hide hr.symm
      clear hr
      go_wp2_with fail
      refine (clone_c _ g u t hat.1).mono ?_
      rintro e w2 ⟨rfl, rfl⟩
      have hg := hat.1.lt
      have hd : At W wr.heap.size u t (wr.alloc (.cells #[.int .i64 u, .int .i64 t] 47)) := ⟨CB.new _ _ _, hat.2.1, hat.2.2.1.alloc hat.2.2.1.size _, hat.2.2.1.size⟩
      have hc : CB (wr.alloc (.cells #[.int .i64 u, .int .i64 t] 47)) g u t := hat.1.alloc _
      have hne : wr.heap.size ≠ g := by omega
      have hg0 := hat.2.2.2
      have hfit := hat.2.1
      clear hat hg
      generalize wr.heap.size = gd at *
      generalize wr.alloc (.cells #[.int .i64 u, .int .i64 t] 47) = w2 at *
      have hcA : At W g u t w2 := ⟨hc, hfit, hd.2.2.1, hg0⟩
      have hng : some gd ≠ some g := by simpa using hne
      have hng' : some g ≠ some gd := by simpa using Ne.symm hne
      by_cases e0 : advE t (a + b) r = 0
      · obtain ⟨e1, e2, e3⟩ := parts_law (u := u) ha0 hb0 e0
        have q0 : (advE t (a + b) r != 0) = false := by simp [e0]
        have q1 : (advE t a r == 0) = true := by simp [e1]
        have q2 : (advE (advT t a r) b r == 0) = true := by simp [e2]
        have hge : u / 64 ≤ advU u t (a + b) r / 64 := Int.ediv_le_ediv (by omega) adv_ge
        have ⟨hn0, hn1⟩ := now_bd (fits_adv (k := a + b) (r := r) hfit)
        have E3 := hide e3
        clear e0 e1 e2 e3
        go_wp2_with fail
        rw [HR.out]
        refine (advance_c _ g u t _ _ hc hfit).mono ?_
        rintro e w3 ⟨rfl, hc3, hgr3⟩
        have hA3 := hcA.adv hc3 hgr3
        have hd3 : At W gd u t w3 := ⟨hd.1.grown hgr3 hng, hfit, hA3.2.2.1, hd.2.2.2⟩
        go_wp2_with fail
        refine (advance_c _ gd u t _ _ hd3.1 hfit).mono ?_
        rintro e w4 ⟨rfl, hd4, hgr4⟩
        have hD4 := hd3.adv hd4 hgr4
        have hc4 := hc3.grown hgr4 hng'
        go_wp2_with fail
        refine (advance_c _ gd _ _ _ _ hd4 hD4.2.1).mono ?_
        rintro e w5 ⟨rfl, hd5, hgr5⟩
        have hD5 := hD4.adv hd5 hgr5
        have hc5 := hc4.grown hgr5 hng'
        rw [E3.out] at hd5
        go_wp2_with fail
        refine (now_c _ g _ _ hc5 hn0 hn1).mono ?_
        rintro e w6 ⟨rfl, rfl⟩
        go_wp2_with fail
        refine (now_c _ gd _ _ hd5 hn0 hn1).mono ?_
        rintro e w6 ⟨rfl, rfl⟩
        go_wp2_with fail
        refine (now_c _ g _ _ hc5 hn0 hn1).mono ?_
        rintro e w6 ⟨rfl, rfl⟩
        go_wp2_with fail
        go_ret
        exact ⟨rfl, hD5.2.2.1⟩
      · have q0 : (advE t (a + b) r != 0) = true := by simp [e0]
        clear e0
        go_wp2_with fail
        rw [HR.out]
        refine (advance_c _ g u t _ _ hc hfit).mono ?_
        rintro e w3 ⟨rfl, hc3, hgr3⟩
        have hA3 := hcA.adv hc3 hgr3
        go_wp2_with fail
        go_ret
        exact ⟨rfl, hA3.2.2.1⟩
end Go.Proofs.Ytbdddgaakekbhaa
