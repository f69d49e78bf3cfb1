/- ClockDrift's walk. -/
import Derived.Test.YtbdddgaakekbhaaAwake
import Derived.Test.YtbdddgaakekbhaaSteps
import Derived.Deep.RegionHeld3
import Derived.Deep.AppendLies
namespace Go.Proofs.Ytbdddgaakekbhaa
open Go.ChangeShapes Go.WideShapes Go.ChangeAt Go.RowKit
set_option linter.unusedVariables false

theorem IntsIn.at_ {w w' : World} {A : Option Addr} {n c : Nat} {kd : IntKind} {l : List Int} (h : IntsIn w (.slice A n c) kd l) (hb : Below w.heap.size w w') {k : Nat} (hk : k < n) :
    ∃ b off x, A = some ⟨b, off, none⟩ ∧ b < w.heap.size ∧ l[k]? = some x ∧ (Lit.int kd x).wf = true ∧ w'.cell? ⟨b, off + k, none⟩ = some (.int kd x) := by
  obtain ⟨A', c', hv, _, hm, hwf, hc⟩ := h
  injection hv with e1 e2 e3
  subst e1 e2 e3
  obtain ⟨b, off, rfl, hbl, hcell⟩ := hc (by omega)
  refine ⟨b, off, l[k], rfl, hbl, List.getElem?_eq_getElem hk, hwf _ (List.getElem_mem _), ?_⟩
  rw [hb.cell (p := ⟨b, _, none⟩) hbl]; exact hcell k hk
theorem IntsIn.form {w : World} {v : Value} {kd : IntKind} {l : List Int} (h : IntsIn w v kd l) : ∃ A c, v = .slice A l.length c ∧ l.length ≤ 9223372036854775807 := by
  obtain ⟨A, c, hv, h1, h2, _⟩ := h
  exact ⟨A, c, hv, by unfold maxLen at h2; omega⟩

/-- Two clocks that have advanced side by side, the second one by no more. -/
def Both (W : World) (g1 g2 : Nat) (u1 t1 u2 t2 : Int) (w : World) : Prop := At W g1 u1 t1 w ∧ At W g2 u2 t2 w ∧ g1 ≠ g2 ∧ t2 ≤ t1
theorem pair_adv {t1 t2 k r K : Int} (h0 : 0 ≤ t2) (h : t2 ≤ t1) (h1 : t1 ≤ K) (hK : K ≤ 107374182400) (hk0 : 0 ≤ k) (hk1 : k ≤ 1073741824) :
    advT t2 (k / 2) r ≤ advT t1 k r ∧ advT t1 k r ≤ K + 1073741824 := by
  unfold advT advE
  by_cases hr : r < 63 ∨ 65 < r
  · simp only [if_pos hr]; simp; omega
  · simp only [if_neg hr]
    rw [if_neg (by omega : ¬ (k / 2 < 0 ∨ 1099511627776 - t2 < k / 2)), if_neg (by omega : ¬ (k < 0 ∨ 1099511627776 - t1 < k))]
    simp; omega
theorem Both.adv {W w w' w'' : World} {g1 g2 : Nat} {u1 t1 u2 t2 k r k' r' : Int} (h : Both W g1 g2 u1 t1 u2 t2 w) (hc : CB w' g1 (advU u1 t1 k r) (advT t1 k r)) (hg : w.grownBy w' (some g1))
    (hc' : CB w'' g2 (advU u2 t2 k' r') (advT t2 k' r')) (hg' : w'.grownBy w'' (some g2)) (hle : advT t2 k' r' ≤ advT t1 k r) :
    Both W g1 g2 (advU u1 t1 k r) (advT t1 k r) (advU u2 t2 k' r') (advT t2 k' r') w'' := by
  obtain ⟨a1, a2, hne, _⟩ := h
  have b1 := a1.adv hc hg
  have b2 : At W g2 u2 t2 w' := ⟨a2.1.grown hg (by simpa using Ne.symm hne), a2.2.1, b1.2.2.1, a2.2.2.2⟩
  have b3 := b2.adv hc' hg'
  exact ⟨⟨b1.1.grown hg' (by simpa using hne), b1.2.1, b3.2.2.1, b1.2.2.2⟩, b3, hne, hle⟩
/-- How the two clocks have gone on from (u1, t1), (u2, t2). -/
def Drifted (u1 t1 u2 t2 u1' t1' u2' t2' : Int) : Prop := Went u1 t1 u1' t1' ∧ Went u2 t2 u2' t2' ∧ t1' - t1 = t2' - t2
theorem drift_law {u1 t1 u2 t2 u1' t1' u2' t2' d : Int} (h : Drifted u1 t1 u2 t2 u1' t1' u2' t2') : u1' / 64 - u1 / 64 < mg d ∨ d ≤ u2' / 64 - u2 / 64 := by
  unfold Drifted Went mg at *
  split <;> omega

theorem drift_step {n m k k2 : Nat} {u1 t1 u2 t2 u1' t1' u2' t2' tk rt r2 : Int} (h0 : 0 ≤ t2') (hle : t2' ≤ t1') (hk0 : 0 ≤ tk) (hk1 : tk ≤ 1073741824) (hr0 : 63 ≤ r2) (hr1 : r2 ≤ 65) (e0 : advE t1' tk rt = 0)
    (hd : Drifted u1 t1 u2 t2 u1' t1' u2' t2') (hle2 : t1' ≤ t1 + k2 * 1073741824) (hle1 : t1 ≤ k * 1073741824) (hk : k ≤ n) (hk2 : k2 ≤ m) (c1 : n ≤ 40) (c2 : m ≤ 40) :
    advE t2' tk r2 = 0 ∧ advT t2' tk r2 ≤ advT t1' tk rt ∧ Drifted u1 t1 u2 t2 (advU u1' t1' tk rt) (advT t1' tk rt) (advU u2' t2' tk r2) (advT t2' tk r2) ∧ advT t1' tk rt ≤ t1 + (k2 + 1) * 1073741824 := by
  have ez : advE t2' tk r2 = 0 := by
    unfold advE
    rw [if_neg (by omega), if_neg (by omega)]
  refine ⟨ez, ?_, ⟨went_adv hd.1, went_adv hd.2.1, ?_⟩, ?_⟩
  · rw [advT_ok ez, advT_ok e0]; omega
  · rw [advT_ok ez, advT_ok e0]; have := hd.2.2; omega
  · rw [advT_ok e0]; omega

set_option maxHeartbeats 4000000 in
theorem walkClockDrift (W : World) (v0 : Value) (l0 : List (Int × Int)) (h0 : StepsIn W v0 l0) (v1 : Value) (l1 : List (Int × Int)) (h1 : StepsIn W v1 l1) (v2 : Value) (l2 : List Int) (h2 : IntsIn W v2 .u8 l2) (d : Int) (wd : (Lit.int .i64 d).wf = true) :
    Calls Try.prog 6 #[v0, v1, v2, .int .i64 d] W fun e w' => e = .returned (.bool true) ∧ Below W.heap.size W w' := by
  obtain ⟨A, ca, rfl, ma⟩ := h0.form
  obtain ⟨B, cb, rfl, mb⟩ := h1.form
  obtain ⟨C, cc, rfl, mc⟩ := h2.form
  generalize l0.length = n at *
  generalize l1.length = m at *
  generalize l2.length = q at *
  by_cases c : 40 < n ∨ 40 < m ∨ q = 0 ∨ 1125899906842624 < d
  · by_cases c1 : 40 < n
    · go_enter Try.func6, Try.ntmps6
      go_wp2_with fail
      refine (awake_any _).mono ?_
      rintro e w1 ⟨rfl, hb⟩
      clear c
      go_wp2_with fail
      go_ret
      exact ⟨rfl, hb⟩
    by_cases c2 : 40 < m
    · go_enter Try.func6, Try.ntmps6
      go_wp2_with fail
      refine (awake_any _).mono ?_
      rintro e w1 ⟨rfl, hb⟩
      clear c
      go_wp2_with fail
      go_ret
      exact ⟨rfl, hb⟩
    by_cases c3 : q = 0
    · subst c3
      go_enter Try.func6, Try.ntmps6
      go_wp2_with fail
      refine (awake_any _).mono ?_
      rintro e w1 ⟨rfl, hb⟩
      clear c
      go_wp2_with fail
      go_ret
      exact ⟨rfl, hb⟩
    have c4 : 1125899906842624 < d := by omega
    have c5 : ((q : Int) == 0) = false := by rw [beq_eq_false_iff_ne]; omega
    go_enter Try.func6, Try.ntmps6
    go_wp2_with fail
    refine (awake_any _).mono ?_
    rintro e w1 ⟨rfl, hb⟩
    clear c c3
    go_wp2_with fail
    go_ret
    exact ⟨rfl, hb⟩
  have c1 : n ≤ 40 := by omega
  have c2 : m ≤ 40 := by omega
  have c3 : 0 < q := by omega
  have c4 : d ≤ 1125899906842624 := by omega
  have c5 : ((q : Int) == 0) = false := by rw [beq_eq_false_iff_ne]; omega
  clear c
  go_enter Try.func6, Try.ntmps6
  go_wp2_with fail
  refine (awake_any _).mono ?_
  rintro e wa ⟨rfl, hb⟩
  go_wp2_with fail
  refine (new_c _).mono ?_
  rintro e w1 ⟨rfl, rfl⟩
  go_wp2_with fail
  refine (new_c _).mono ?_
  rintro e w2 ⟨rfl, rfl⟩
  have hst : Both W wa.heap.size (wa.heap.size + 1) 0 0 0 0 ((wa.alloc (.cells #[.int .i64 0, .int .i64 0] 47)).alloc (.cells #[.int .i64 0, .int .i64 0] 47)) := by
    have hs := hb.size
    refine ⟨⟨(CB.new _ _ _).alloc _, by unfold Fits; omega, (hb.alloc hb.size _).alloc (by simp; omega) _, hb.size⟩, ⟨?_, by unfold Fits; omega, (hb.alloc hb.size _).alloc (by simp; omega) _, by omega⟩, by omega, by omega⟩
    have := CB.new (wa.alloc (.cells #[.int .i64 0, .int .i64 0] 47)) 0 0
    simpa using this
  simp only [World.size_alloc] 
  generalize wa.heap.size + 1 = g2 at *
  generalize wa.heap.size = g1 at *
  generalize (wa.alloc (.cells #[.int .i64 0, .int .i64 0] 47)).alloc (.cells #[.int .i64 0, .int .i64 0] 47) = w2 at *
  clear hb wa
  go_wp2_with fail
  go_loopw [11] (fun i wr => ∃ k : Nat, k ≤ n ∧ i = .int .i64 k ∧ ∃ u1 t1 u2 t2, Both W g1 g2 u1 t1 u2 t2 wr ∧ t1 ≤ k * 1073741824) (fun i _ => n - (intOf i).toNat)
  case atStart => exact ⟨0, Nat.zero_le _, rfl, 0, 0, 0, 0, hst, by omega⟩
  case round =>
    obtain ⟨k, hk, rfl, u1, t1, u2, t2, hat, hle⟩ := hrel
    by_cases hlt : k < n
    · obtain ⟨bk, off, tk, rt, rfl, hbl, _, hlo, hhi, hc0, hc1⟩ := h0.at_ hat.1.2.2.1 hlt
      have hb1 : some bk ≠ some g1 := by have := hat.1.2.2.2; simp; omega
      have hblt : bk < wr.heap.size := by have := hat.1.2.2.1.size; omega
      by_cases hr : 0 ≤ tk ∧ tk ≤ 1073741824
      · obtain ⟨hr0, hr1⟩ := hr
        obtain ⟨hp1, hp2⟩ := pair_adv (r := rt) hat.2.1.2.1.1 hat.2.2.2 hle (by omega) hr0 hr1
        have hp0 : 0 ≤ tk / 2 := by omega
        go_wp2_with fail
        refine (advance_c _ g1 u1 t1 _ _ hat.1.1 hat.1.2.1).mono ?_
        rintro e w3 ⟨rfl, hcb, hgr⟩
        have hcb2 : CB w3 g2 u2 t2 := hat.2.1.1.grown hgr (by have := hat.2.2.1; simp; omega)
        have hd1 : w3.cell? ⟨bk, off + k * 2 + 1, none⟩ = some (.int .i64 rt) := (hgr.cell_far ⟨bk, _, none⟩ hblt hb1).trans hc1
        go_wp2_with fail
        refine (advance_c _ g2 u2 t2 _ _ hcb2 hat.2.1.2.1).mono ?_
        rintro e w4 ⟨rfl, hcb3, hgr3⟩
        go_wp2_with fail
        go_roundw
        case rel => exact ⟨k + 1, by omega, by go_num, _, _, _, _, hat.adv hcb hgr hcb3 hgr3 hp1, by omega⟩
        case measure => simp [intOf]; omega
      · by_cases hr0 : 0 ≤ tk
        · have hr1 : ¬ tk ≤ 1073741824 := fun h => hr ⟨hr0, h⟩
          clear hr
          go_wp2_with fail
          go_roundw
          case rel => exact ⟨k + 1, by omega, by go_num, _, _, _, _, hat, by omega⟩
          case measure => simp [intOf]; omega
        · clear hr
          go_wp2_with fail
          go_roundw
          case rel => exact ⟨k + 1, by omega, by go_num, _, _, _, _, hat, by omega⟩
          case measure => simp [intOf]; omega
    · have ⟨hn0, hn1⟩ := now_bd hat.1.2.1
      have ⟨hn2, hn3⟩ := now_bd hat.2.1.2.1
      go_wp2_with fail
      refine (now_c _ g1 u1 t1 hat.1.1 hn0 hn1).mono ?_
      rintro e w3 ⟨rfl, rfl⟩
      go_wp2_with fail
      refine (now_c _ g2 u2 t2 hat.2.1.1 hn2 hn3).mono ?_
      rintro e w3 ⟨rfl, rfl⟩
      go_wp2_with fail
      obtain ⟨wo, rfl⟩ : ∃ wo : World, wo = wr := ⟨_, rfl⟩
      go_loopw [15] (fun i wr => ∃ k2 : Nat, k2 ≤ m ∧ i = .int .i64 k2 ∧ ∃ u1' t1' u2' t2', Both W g1 g2 u1' t1' u2' t2' wr ∧ Drifted u1 t1 u2 t2 u1' t1' u2' t2' ∧ t1' ≤ t1 + k2 * 1073741824) (fun i _ => m - (intOf i).toNat)
      case atStart => exact ⟨0, Nat.zero_le _, rfl, u1, t1, u2, t2, hat, by unfold Drifted Went; omega, by omega⟩
      case round =>
        obtain ⟨k2, hk2, rfl, u1', t1', u2', t2', hat2, hdr, hle2⟩ := hrel
        by_cases hlt2 : k2 < m
        · obtain ⟨bk, off, tk, rt, rfl, hbl, _, hlo, hhi, hc0, hc1⟩ := h1.at_ hat2.1.2.2.1 hlt2
          obtain ⟨br, offr, rv, rfl, hbr, _, hwr, hcr⟩ := h2.at_ hat2.1.2.2.1 (Nat.mod_lt k2 c3)
          have ⟨hv0, hv1⟩ : 0 ≤ rv ∧ rv ≤ 255 := by simpa [Lit.wf, IntKind.min, IntKind.max, IntKind.signed, IntKind.bits] using hwr
          have hb1 : some bk ≠ some g1 := by have := hat2.1.2.2.2; simp; omega
          have hb2 : some br ≠ some g1 := by have := hat2.1.2.2.2; simp; omega
          have hblt : bk < wr.heap.size := by have := hat2.1.2.2.1.size; omega
          have hblr : br < wr.heap.size := by have := hat2.1.2.2.1.size; omega
          by_cases hneg : tk < 0
          · go_wp2_with fail
            go_roundw
            case rel => exact ⟨k2 + 1, by omega, by go_num, _, _, _, _, hat2, hdr, by omega⟩
            case measure => simp [intOf]; omega
          have hr0 : 0 ≤ tk := by omega
          clear hneg
          by_cases hbig : 1073741824 < tk
          · go_wp2_with fail
            go_roundw
            case rel => exact ⟨k2 + 1, by omega, by go_num, _, _, _, _, hat2, hdr, by omega⟩
            case measure => simp [intOf]; omega
          have hr1 : tk ≤ 1073741824 := by omega
          have hq1 : (0 : Int) ≤ (k2 : Int) % (q : Int) := Int.emod_nonneg _ (by omega)
          have hq2 : (k2 : Int) % (q : Int) < (q : Int) := Int.emod_lt_of_pos _ (by omega)
          clear hbig
          by_cases e0 : advE t1' tk rt = 0
          · obtain ⟨r2, hr2⟩ : ∃ r2, r2 = 63 + rv % 3 := ⟨_, rfl⟩
            have hz := drift_step (rt := rt) (r2 := r2) hat2.2.1.2.1.1 hat2.2.2.2 (by omega) (by omega) (by omega) (by omega) e0 hdr hle2 hle hk hk2 c1 c2
            obtain ⟨ez, hz1, hz2, hz3⟩ := hz
            have q0 : (advE t1' tk rt != 0) = false := by simp [e0]
            have q1 : (advE t2' tk r2 != 0) = false := by simp [ez]
            have HR := hide hr2.symm
            clear e0 ez hr2
            go_wp2_with fail
            refine (advance_c _ g1 u1' t1' _ _ hat2.1.1 hat2.1.2.1).mono ?_
            rintro e w3 ⟨rfl, hcb, hgr⟩
            have hcb2 : CB w3 g2 u2' t2' := hat2.2.1.1.grown hgr (by have := hat2.2.2.1; simp; omega)
            have hdr0 : w3.cell? ⟨br, offr + k2 % q, none⟩ = some (.int .u8 rv) := (hgr.cell_far ⟨br, _, none⟩ hblr hb2).trans hcr
            go_wp2_with fail
            rw [HR.out]
            refine (advance_c _ g2 u2' t2' _ _ hcb2 hat2.2.1.2.1).mono ?_
            rintro e w4 ⟨rfl, hcb3, hgr3⟩
            go_wp2_with fail
            go_roundw
            case rel => exact ⟨k2 + 1, by omega, by go_num, _, _, _, _, hat2.adv hcb hgr hcb3 hgr3 hz1, hz2, by omega⟩
            case measure => simp [intOf]; omega
          · have q0 : (advE t1' tk rt != 0) = true := by simp [e0]
            have e1 : advT t1' tk rt = t1' := advT_no e0
            have e2 : advU u1' t1' tk rt = u1' := by unfold advU; rw [if_neg e0]
            have E1 := hide e1
            have E2 := hide e2
            clear e0 e1 e2
            go_wp2_with fail
            refine (advance_c _ g1 u1' t1' _ _ hat2.1.1 hat2.1.2.1).mono ?_
            rintro e w3 ⟨rfl, hcb, hgr⟩
            rw [E1.out, E2.out] at hcb
            have hB : Both W g1 g2 u1' t1' u2' t2' w3 := ⟨⟨hcb, hat2.1.2.1, below_grown hat2.1.2.2.1 hgr hat2.1.2.2.1.size hat2.1.2.2.2, hat2.1.2.2.2⟩,
              ⟨hat2.2.1.1.grown hgr (by have := hat2.2.2.1; simp; omega), hat2.2.1.2.1, below_grown hat2.1.2.2.1 hgr hat2.1.2.2.1.size hat2.1.2.2.2, hat2.2.1.2.2.2⟩, hat2.2.2.1, hat2.2.2.2⟩
            go_wp2_with fail
            go_roundw
            case rel => exact ⟨k2 + 1, by omega, by go_num, _, _, _, _, hB, hdr, by omega⟩
            case measure => simp [intOf]; omega
        · have ⟨hm0, hm1⟩ := now_bd hat2.1.2.1
          have ⟨hm2, hm3⟩ := now_bd hat2.2.1.2.1
          by_cases hlaw : u1' / 64 - u1 / 64 < mg d
          · go_wp2_with fail
            refine (now_c _ g1 _ _ hat2.1.1 hm0 hm1).mono ?_
            rintro e w3 ⟨rfl, rfl⟩
            go_wp2_with fail
            refine (margin_c _ _ (by omega)).mono ?_
            rintro e w3 ⟨rfl, rfl⟩
            go_wp2_with fail
            go_ret
            exact ⟨rfl, hat2.1.2.2.1⟩
          · have hlaw2 : d ≤ u2' / 64 - u2 / 64 := (drift_law hdr).resolve_left hlaw
            go_wp2_with fail
            refine (now_c _ g1 _ _ hat2.1.1 hm0 hm1).mono ?_
            rintro e w3 ⟨rfl, rfl⟩
            go_wp2_with fail
            refine (margin_c _ _ (by omega)).mono ?_
            rintro e w3 ⟨rfl, rfl⟩
            go_wp2_with fail
            refine (now_c _ g2 _ _ hat2.2.1.1 hm2 hm3).mono ?_
            rintro e w3 ⟨rfl, rfl⟩
            go_wp2_with fail
            go_ret
            exact ⟨rfl, hat2.1.2.2.1⟩
end Go.Proofs.Ytbdddgaakekbhaa
