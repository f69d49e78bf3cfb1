/- ClockTrue's walk. -/
import Derived.Test.YtbdddgaakekbhaaAwake
import Derived.Test.YtbdddgaakekbhaaSteps
import Derived.Deep.RegionHeld3
import Derived.Deep.AppendLies
namespace Go.Proofs.Ytbdddgaakekbhaa
open Go.ChangeShapes Go.WideShapes Go.ChangeAt Go.RowKit

set_option maxHeartbeats 2000000 in
theorem walkClockTrue (W : World) (v0 : Value) (l0 : List (Int × Int)) (h0 : StepsIn W v0 l0) (v1 : Value) (l1 : List (Int × Int)) (h1 : StepsIn W v1 l1) :
    Calls Try.prog 5 #[v0, v1] W fun e w' => e = .returned (.bool true) ∧ Below W.heap.size W w' := by
  obtain ⟨A, ca, rfl, ma⟩ := h0.form
  obtain ⟨B, cb, rfl, mb⟩ := h1.form
  generalize l0.length = n at *
  generalize l1.length = m at *
  by_cases c1 : 40 < n
  · go_enter Try.func5, Try.ntmps5
    go_wp2_with fail
    refine (awake_any _).mono ?_
    rintro e w1 ⟨rfl, hb⟩
    go_wp2_with fail
    go_ret
    exact ⟨rfl, hb⟩
  by_cases c2 : 40 < m
  · go_enter Try.func5, Try.ntmps5
    go_wp2_with fail
    refine (awake_any _).mono ?_
    rintro e w1 ⟨rfl, hb⟩
    go_wp2_with fail
    go_ret
    exact ⟨rfl, hb⟩
  go_enter Try.func5, Try.ntmps5
  go_wp2_with fail
  refine (awake_any _).mono ?_
  rintro e wa ⟨rfl, hb⟩
  go_wp2_with fail
  refine (new_c _).mono ?_
  rintro e w1 ⟨rfl, rfl⟩
  have hst : At W wa.heap.size 0 0 (wa.alloc (.cells #[.int .i64 0, .int .i64 0] 47)) := ⟨CB.new _ _ _, by unfold Fits; omega, hb.alloc hb.size _, hb.size⟩
  generalize wa.heap.size = g at *
  generalize wa.alloc (.cells #[.int .i64 0, .int .i64 0] 47) = w1 at *
  clear hb wa
  go_wp2_with fail
  go_loopw [6] (fun i wr => ∃ k : Nat, k ≤ n ∧ i = .int .i64 k ∧ ∃ u t, At W g u t wr) (fun i _ => n - (intOf i).toNat)
  case atStart => exact ⟨0, Nat.zero_le _, rfl, 0, 0, hst⟩
  case round =>
    obtain ⟨k, hk, rfl, u, t, hat⟩ := hrel
    by_cases hlt : k < n
    · obtain ⟨b, off, tk, rt, rfl, hbl, _, hlo, hhi, hc0, hc1⟩ := h0.at_ hat.2.2.1 hlt
      have hbg : some b ≠ some g := by have := hat.2.2.2; simp; omega
      have hblt : b < wr.heap.size := by have := hat.2.2.1.size; omega
      go_wp2_with fail
      go_region_held3 (fun w' => w'.cell? ⟨b, off + k * 2, none⟩ = some (.int .i64 tk) ∧ w'.cell? ⟨b, off + k * 2 + 1, none⟩ = some (.int .i64 rt))
        (first | go_keep | exact ⟨(hgr.cell_far ⟨b, _, none⟩ hblt hbg).trans hc0, (hgr.cell_far ⟨b, _, none⟩ hblt hbg).trans hc1⟩)
        (first | (go_at_call 14; refine (advance_c _ g u t _ _ (CB.drew hat.1) hat.2.1).mono ?_; rintro e w2 ⟨rfl, hcb, hgr⟩))
      go_wp2_with fail
      go_roundw
      case rel => exact ⟨k + 1, by omega, by go_num, _, _, hat.adv hcb (grown_undrew hgr)⟩
      case measure => simp [intOf]; omega
    · have hnow := now_bd hat.2.1
      obtain ⟨hn0, hn1⟩ := hnow
      go_wp2_with fail
      refine (now_c _ g u t hat.1 hn0 hn1).mono ?_
      rintro e w2 ⟨rfl, rfl⟩
      go_wp2_with fail
      obtain ⟨wo, rfl⟩ : ∃ wo : World, wo = wr := ⟨_, rfl⟩
      go_loopw [8, 9] (fun s i w2 => ∃ k : Nat, k ≤ m ∧ i = .int .i64 k ∧ ∃ u' t', s = .int .i64 (t' - t) ∧ At W g u' t' w2 ∧ Went u t u' t') (fun _ i _ => m - (intOf i).toNat)
      case atStart => exact ⟨0, Nat.zero_le _, rfl, u, t, by simp, hat, by unfold Went; omega⟩
      case round =>
        obtain ⟨k2, hk2, rfl, u', t', rfl, hat2, hwent⟩ := hrel
        have hf := hat2.2.1
        by_cases hlt2 : k2 < m
        · obtain ⟨b, off, tk, rt, rfl, hbl, _, hlo, hhi, hc0, hc1⟩ := h1.at_ hat2.2.2.1 hlt2
          have hbg : some b ≠ some g := by have := hat2.2.2.2; simp; omega
          have hblt : b < wr.heap.size := by have := hat2.2.2.1.size; omega
          have hbd := adv_bd hf (k := tk) (r := rt)
          by_cases e0 : advE t' tk rt = 0
          · have hbeq : (advE t' tk rt == 0) = true := by simp [e0]
            have HT := hide (advT_ok e0)
            obtain ⟨hbd1, hbd2⟩ := hbd e0
            have hf1 := hf.1
            have hf2 := hf.2.1
            have hw3 := hwent.2.2
            have ht0 := hat.2.1.1
            clear e0
            go_wp2_with fail
            go_region_held3 (fun w' => w'.cell? ⟨b, off + k2 * 2, none⟩ = some (.int .i64 tk) ∧ w'.cell? ⟨b, off + k2 * 2 + 1, none⟩ = some (.int .i64 rt))
              (first | go_keep | exact ⟨(hgr.cell_far ⟨b, _, none⟩ hblt hbg).trans hc0, (hgr.cell_far ⟨b, _, none⟩ hblt hbg).trans hc1⟩)
              (first | (go_at_call 14; refine (advance_c _ g u' t' _ _ (CB.drew hat2.1) hat2.2.1).mono ?_; rintro e w2 ⟨rfl, hcb, hgr⟩))
            have hd0 : w2.cell? ⟨b, off + k2 * 2, none⟩ = some (.int .i64 tk) := (hgr.cell_far ⟨b, _, none⟩ hblt hbg).trans hc0
            go_wp2_with fail
            go_roundw
            case rel => exact ⟨k2 + 1, by omega, by go_num, _, _, by rw [HT.out]; go_num, hat2.adv hcb (grown_undrew hgr), went_adv hwent⟩
            case measure => simp [intOf]; omega
          · have hbeq : (advE t' tk rt == 0) = false := by simp [e0]
            have HT := hide (advT_no e0)
            clear e0 hbd
            go_wp2_with fail
            go_region_held3 (fun w' => w'.cell? ⟨b, off + k2 * 2, none⟩ = some (.int .i64 tk) ∧ w'.cell? ⟨b, off + k2 * 2 + 1, none⟩ = some (.int .i64 rt))
              (first | go_keep | exact ⟨(hgr.cell_far ⟨b, _, none⟩ hblt hbg).trans hc0, (hgr.cell_far ⟨b, _, none⟩ hblt hbg).trans hc1⟩)
              (first | (go_at_call 14; refine (advance_c _ g u' t' _ _ (CB.drew hat2.1) hat2.2.1).mono ?_; rintro e w2 ⟨rfl, hcb, hgr⟩))
            go_wp2_with fail
            go_roundw
            case rel => exact ⟨k2 + 1, by omega, by go_num, _, _, by rw [HT.out], hat2.adv hcb (grown_undrew hgr), went_adv hwent⟩
            case measure => simp [intOf]; omega
        · obtain ⟨hm0, hm1⟩ := now_bd hat2.2.1
          obtain ⟨d0, d1, d2, d3⟩ := true_law hat.2.1 hf hwent
          go_wp2_with fail
          refine (now_c _ g u' t' hat2.1 hm0 hm1).mono ?_
          rintro e w2 ⟨rfl, rfl⟩
          go_wp2_with (first
            | (go_at_call 19; refine (least_c _ _ (by omega)).mono ?_; rintro e w1 ⟨rfl, rfl⟩)
            | (go_at_call 21; refine (most_c _ _ (by omega)).mono ?_; rintro e w1 ⟨rfl, rfl⟩))
          go_ret
          exact ⟨rfl, hat2.2.2.1⟩
end Go.Proofs.Ytbdddgaakekbhaa
