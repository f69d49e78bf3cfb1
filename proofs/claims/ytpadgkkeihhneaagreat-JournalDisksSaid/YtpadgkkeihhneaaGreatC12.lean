/- partOf. -/
import Derived.Test.YtpadgkkeihhneaaGreatC09
import Derived.Test.YtpadgkkeihhneaaGreatC11
namespace Go.Proofs.YtpadgkkeihhneaaGreat
set_option maxRecDepth 100000
set_option linter.unusedSimpArgs false
set_option linter.unusedVariables false
open List renaming getElem_toArray → qa, getElem_cons_zero → qb, getElem_cons_succ → qc, setIfInBounds_toArray → qd, set_cons_zero → qe, set_cons_succ → qf
open Go.ChangeShapes Go.WideShapes Go.ChangeAt Go.RowKit
/-- What partOf hands back. -/
def PartR (w : World) (b : List UInt8) (e : Ending) (w' : World) : Prop := ∃ y : Prt, e = .returned (.tuple #[pv y, .bool (prtOk b)]) ∧ (prtOk b = true → y = prtRead b) ∧ Below w.heap.size w w'
def zpart : Prt := ⟨0, 0, 0, 0, []⟩
/-- The numbers that are read, and the reader behind k of them. -/
def gots (b : List UInt8) : List Nat := [(rd0 b).2, (rd1 b).2, (rd2 b).2, (rd3 b).2]
def rdK (b : List UInt8) : Nat → RS
 | 0 => (b, 0)
 | k + 1 => (rNum (rdK b k)).1
theorem rdK_got (b : List UInt8) (k : Nat) (h : k < 4) : (rNum (rdK b k)).2 = (gots b).getD k 0 := by
 rcases (show k = 0 ∨ k = 1 ∨ k = 2 ∨ k = 3 by omega) with rfl | rfl | rfl | rfl <;> rfl
theorem rdK_len (b : List UInt8) (k : Nat) : (rdK b k).1.length ≤ b.length := by
 induction k with
 | zero => exact Nat.le_refl _
 | succ k ih => exact Nat.le_trans (rNum_len (rdK b k).1 (rdK b k).2) ih
theorem gots_lt (b : List UInt8) (k : Nat) (h : k < 4) : (gots b).getD k 0 < 2 ^ 64 := by
 rw [← rdK_got b k h]; exact rNum_lt (rdK b k).1 (rdK b k).2
/-- The array behind k numbers. -/
def arrK (b : List UInt8) (k : Nat) : List Value := ((gots b).take k ++ List.replicate (4 - k) 0).map fun n : Nat => Value.int .u64 (n : Int)
theorem arrK_set (b : List UInt8) (k : Nat) (h : k < 4) : (arrK b k).set k (.int .u64 ((gots b).getD k 0 : Nat)) = arrK b (k + 1) := by
 rcases (show k = 0 ∨ k = 1 ∨ k = 2 ∨ k = 3 by omega) with rfl | rfl | rfl | rfl <;> rfl
/-- Between two rounds of partOf's loop. -/
def PlR (w : World) (b : List UInt8) (b2 bl rb : Nat) (kb : Option Nat) (k : Nat) (W : World) : Prop :=
 Own w [] [(b2, 126, [.int .i64 0, .int .i64 0, .int .i64 0, .int .i64 0, .string ⟨#[]⟩]), (bl, 148, arrK b k)] W ∧ Rd W rb kb (rdK b k).1 (rdK b k).2 ∧ (∀ j, kb = some j → j < W.heap.size)
theorem full_yes {b : List UInt8} {n0 n1 n2 n3 : Nat} {s : List UInt8} (h : prtRead b = ⟨n0, n1, n2, n3, s⟩) (hf : ((n2 : Int) = n3 - 1 ∨ (s.length : Int) = 96) ∧ (0 < (s.length : Int) ∨ (n3 : Int) = 1)) : (prtRead b).full = true := by
 rw [h]; exact (Prt.fulls _).2 (by dsimp only; omega)
theorem full_no {b : List UInt8} {n0 n1 n2 n3 : Nat} {s : List UInt8} (h : prtRead b = ⟨n0, n1, n2, n3, s⟩) (hf : ¬ (((n2 : Int) = n3 - 1 ∨ (s.length : Int) = 96) ∧ (0 < (s.length : Int) ∨ (n3 : Int) = 1))) : (prtRead b).full = false := by
 cases hc : (prtRead b).full with
 | false => rfl
 | true =>
  rw [h] at hc
  have := (Prt.fulls _).1 hc
  dsimp only at this
  exact absurd (by omega) hf
theorem prtOk_full {b : List UInt8} (h1 : (prtRead b).fit = true) (h2 : (prtRead b).full = true) : prtOk b = (prtPage (prtRead b) == b) := by unfold prtOk; rw [h1, h2]; rfl
theorem prtOk_nfull {b : List UInt8} (h2 : (prtRead b).full = false) : prtOk b = false := by unfold prtOk; rw [h2]; simp
def zpartC : List Value := [.int .i64 0, .int .i64 0, .int .i64 0, .int .i64 0, .string ⟨#[]⟩]
theorem zpart_info : (Tryz.prog.info? 126).map (·.zero) = some (some (.agg zpartC.toArray)) := by kernel_rfl
theorem zpart_size : (Tryz.prog.info? 126).map (·.size) = some zpartC.length := by kernel_rfl
theorem zpart_size2 : (Tryz.prog.info? 126).map (·.size) = some zpartC.toArray.size := by kernel_rfl
def zarr : List Value := [.int .u64 0, .int .u64 0, .int .u64 0, .int .u64 0]
theorem zarr_info : (Tryz.prog.info? 148).map (·.zero) = some (some (.agg zarr.toArray)) := by kernel_rfl
theorem zarr_size : (Tryz.prog.info? 148).map (·.size) = some zarr.length := by kernel_rfl
theorem u64_size : (Tryz.prog.info? 116).map (·.size) = some 1 := by kernel_rfl
theorem arrK_len (b : List UInt8) (k : Nat) (h : k ≤ 4) : (arrK b k).length = 4 := by
 unfold arrK gots; simp; omega
theorem prtOk_not {b : List UInt8} (h : (prtRead b).fit = false) : prtOk b = false := by unfold prtOk; rw [h]; rfl
theorem fit_not (b : List UInt8) {n0 n1 n2 n3 : Nat} {s : List UInt8} (h0 : n0 = (rd0 b).2) (h1 : n1 = (rd1 b).2) (h2 : n2 = (rd2 b).2) (h3 : n3 = (rd3 b).2) (h4 : s = (rd4 b).2) :
 ¬ (n0 < 2 ^ 40 ∧ n1 < 2 ^ 40 ∧ 1 ≤ n3 ∧ n3 ≤ 4096 ∧ n2 < n3 ∧ s.length ≤ 96) → (prtRead b).fit = false := by
 intro h
 cases hf : (prtRead b).fit with
 | false => rfl
 | true => subst h0 h1 h2 h3 h4; exact absurd ((prtRead b).fits.1 hf) h
set_option maxHeartbeats 4000000 in
theorem partOf_c (v : Value) (b : List UInt8) (hl : b.length ≤ 1000000) (w : World) (h : Bs w v b) : Calls Tryz.prog 83 #[v] w (PartR w b) := by
 have H := hide h
 have HL := hide hl
 obtain ⟨A, m, c, rfl, _, _, _⟩ := h.formN
 clear h hl
 have HO := hide (Own.nil w [] (by simp))
 go_enter Tryz.func83, Tryz.ntmps83
 go_wp2_with (first
  | ((with_reducible refine at_alloc 126 ?_); refine wpList_alloc_own HO.out rfl 126 rfl (zpartC) zpart_info ?_; intro WA b2 hO; replace HO := hide hO; clear hO))
 refine (newReader_c _ b _ (H.out.step HO.out.below) (by have := HL.out; omega)).mono ?_
 rintro e w1 ⟨rb, kb, rfl, hr, hb1, hge, hkb⟩
 have HRN : Hid (w.heap.size ≤ rb ∧ rb ≠ b2) := hide ⟨Nat.le_trans HO.out.size hge, fun e => by have := (HO.out.blk 0 rfl).lt; omega⟩
 have HKB : Hid (∀ j, kb = some j → w.heap.size ≤ j ∧ j ≠ b2) := hide (fun j hj => ⟨Nat.le_trans HO.out.size (hkb j hj).1, fun e => by have := (HO.out.blk 0 rfl).lt; have := (hkb j hj).1; omega⟩)
 have HKL := hide (fun j hj => (hkb j hj).2)
 replace HO := hide (HO.out.step hb1)
 have HR := hide hr
 clear hr hb1 hge hkb
 go_wp2_with (first
  | ((with_reducible refine at_alloc 148 ?_); refine wpList_alloc_own_n HO.out rfl 148 rfl (zarr) zarr_info ?_; intro WA bl hbn hO hbl; have HNB : Hid (rb ≠ bl ∧ ∀ j, kb = some j → j ≠ bl) := hide ⟨fun e => (by have := HR.out.lt; omega), (fun j hj => by have := HKL.out j hj; omega)⟩; replace HKL := hide (fun j hj => Nat.lt_of_lt_of_le (HKL.out j hj) hbl.size); replace HR := hide (HR.out.step hbl); replace HO := hide hO; clear hO hbl hbn)
  | ((with_reducible refine at_store 148 (.tmp 5) ?_); refine wpList_store_own_t HO.out rfl 148 (.tmp 5) (.tmp 13) rfl 1 _ 0 _ _ (zarr) (zarr) rfl (.agg (zarr).toArray) rfl rfl (fits_agg _) (by decide) (splice_all rfl) zarr_size rfl ?_; intro WA hO _ ht; replace HR := hide (HR.out.touch ht (by simp; exact HNB.out.1) (fun j hj => by simp; exact HNB.out.2 j hj)); replace HKL := hide (fun j hj => Nat.lt_of_lt_of_le (HKL.out j hj) ht.size); replace HO := hide hO; clear hO ht))
 go_loopw [14] (fun v14 wr => ∃ k : Nat, k ≤ 4 ∧ v14 = .int .i64 k ∧ PlR w b b2 bl rb kb k wr) (fun v14 _ => 4 - (intOf v14).toNat)
 case atStart => exact ⟨0, Nat.zero_le _, rfl, HO.out, HR.out, HKL.out⟩
 case round =>
  clear HO HR HKL
  obtain ⟨k, hk, rfl, ho, hr, hkl⟩ := hrel
  have HO := hide ho
  have HR := hide hr
  have HKL := hide hkl
  clear ho hr hkl
  by_cases hlt : k < 4
  ·go_wp2_with fail
   refine (rdNumber_c rb kb (rdK b k).1 (rdK b k).2 wr HR.out (by have := rdK_len b k; have := HL.out; omega)).mono ?_
   rintro e w4 ⟨rfl, hr4, ht4⟩
   have HN : Hid ((rNum ((rdK b k).1, (rdK b k).2)).2 = (gots b).getD k 0) := hide (rdK_got b k hlt)
   rw [HN.out]
   have HAS := hide (arrK_set b k hlt)
   have HLE := hide (arrK_len b k hk)
   replace HO := hide (HO.out.away ht4 (fun s hs => .inr (by simp at hs; subst hs; exact ⟨HRN.out.1, by simp; exact ⟨HRN.out.2, HNB.out.1⟩⟩)))
   replace HKL := hide (fun j hj => Nat.lt_of_lt_of_le (HKL.out j hj) ht4.size)
   have HR4 := hide hr4
   clear hr4 ht4 HR HN
   generalize (gots b).getD k 0 = n at *
   go_wp2_with (first
    | ((with_reducible refine at_store 116 (.tmp 20) ?_); refine wpList_store_own_t HO.out rfl 116 (.tmp 20) (.tmp 19) rfl 1 _ k _ _ ([.int .u64 n]) (arrK b (k + 1)) rfl (.int .u64 n) rfl rfl (fits_one rfl) (by rw [HLE.out]; simp; omega) (by rw [← HAS.out]; exact splice_set k _ (by rw [HLE.out]; exact hlt)) u64_size rfl ?_; intro WA hO _ ht; replace HR4 := hide (HR4.out.touch ht (by simp; exact HNB.out.1) (fun j hj => by simp; exact HNB.out.2 j hj)); replace HKL := hide (fun j hj => Nat.lt_of_lt_of_le (HKL.out j hj) ht.size); replace HO := hide hO; clear hO ht))
   go_roundw
   case rel => exact ⟨k + 1, by omega, by go_num, HO.out, HR4.out, HKL.out⟩
   case measure => simp [intOf]; omega
  ·obtain rfl : k = 4 := by omega
   go_wp2_with fail
   refine (rdText_c rb kb (rdK b 4).1 (rdK b 4).2 wr HR.out (by have := rdK_len b 4; have := HL.out; omega) HKL.out).mono ?_
   rintro e w4 ⟨rfl, hr4, ht4⟩
   have HS : Hid ((rText ((rdK b 4).1, (rdK b 4).2)).2 = (rd4 b).2) := hide rfl
   rw [HS.out]
   replace HO := hide (HO.out.away ht4 (fun s hs => .inr (by simp at hs; subst hs; exact ⟨HRN.out.1, by simp; exact ⟨HRN.out.2, HNB.out.1⟩⟩)))
   clear hr4 ht4 HR HS HRN HNB HKL HKB
   have kl : ∀ j, w4.cell? ⟨bl, j, none⟩ = ([.int .u64 ((rd0 b).2 : Nat), .int .u64 ((rd1 b).2 : Nat), .int .u64 ((rd2 b).2 : Nat), .int .u64 ((rd3 b).2 : Nat)] : List Value)[j]? := HO.out.cells 1 rfl
   have g0 := gots_lt b 0 (by omega)
   have g1 := gots_lt b 1 (by omega)
   have g2 := gots_lt b 2 (by omega)
   have g3 := gots_lt b 3 (by omega)
   change (rd0 b).2 < _ at g0
   change (rd1 b).2 < _ at g1
   change (rd2 b).2 < _ at g2
   change (rd3 b).2 < _ at g3
   have HE : Hid (prtRead b = ⟨(rd0 b).2, (rd1 b).2, (rd2 b).2, (rd3 b).2, (rd4 b).2⟩) := hide rfl
   have HFT := hide (fit_not b (n0 := (rd0 b).2) (n1 := (rd1 b).2) (n2 := (rd2 b).2) (n3 := (rd3 b).2) (s := (rd4 b).2) rfl rfl rfl rfl rfl)
   generalize (rd0 b).2 = n0 at *
   generalize (rd1 b).2 = n1 at *
   generalize (rd2 b).2 = n2 at *
   generalize (rd3 b).2 = n3 at *
   generalize (rd4 b).2 = s at *
   have k0 := kl 0
   have k1 := kl 1
   have k2 := kl 2
   have k3 := kl 3
   simp only [List.getElem?_cons_zero, List.getElem?_cons_succ] at k0 k1 k2 k3
   have z0 : (n0 : Int) ≤ 18446744073709551615 := by omega
   have z1 : (n1 : Int) ≤ 18446744073709551615 := by omega
   have z2 : (n2 : Int) ≤ 18446744073709551615 := by omega
   have z3 : (n3 : Int) ≤ 18446744073709551615 := by omega
   have HFT2 : Hid (¬(n0 < 2 ^ 40 ∧ n1 < 2 ^ 40 ∧ 1 ≤ n3 ∧ n3 ≤ 4096 ∧ n2 < n3 ∧ s.length ≤ 96) → (prtRead b).fit = false) := HFT
   clear HFT kl g0 g1 g2 g3
   have HFT := HFT2
   clear HFT2
   obtain ⟨m0, hm0⟩ : ∃ m : Int, (n0 : Int) = m := ⟨_, rfl⟩
   obtain ⟨m1, hm1⟩ : ∃ m : Int, (n1 : Int) = m := ⟨_, rfl⟩
   obtain ⟨m2, hm2⟩ : ∃ m : Int, (n2 : Int) = m := ⟨_, rfl⟩
   obtain ⟨m3, hm3⟩ : ∃ m : Int, (n3 : Int) = m := ⟨_, rfl⟩
   have p0 : 0 ≤ m0 := by omega
   have p1 : 0 ≤ m1 := by omega
   have p2 : 0 ≤ m2 := by omega
   have p3 : 0 ≤ m3 := by omega
   have HM := hide (And.intro hm0 (And.intro hm1 (And.intro hm2 hm3)))
   rw [hm0] at k0 z0
   rw [hm1] at k1 z1
   rw [hm2] at k2 z2
   rw [hm3] at k3 z3
   clear hm0 hm1 hm2 hm3
   obtain ⟨T, hT⟩ : ∃ T : ByteArray, T = ⟨s.toArray⟩ := ⟨_, rfl⟩
   have HTT := hide hT
   have HTS0 : Hid (T.size = s.length) := hide (by rw [hT]; rfl)
   rw [← hT]
   clear hT
   obtain ⟨zs, hzs⟩ : ∃ zs : Int, (T.size : Int) = zs := ⟨_, rfl⟩
   have HTS : Hid (zs = (s.length : Int)) := hide (by have := HTS0.out; omega)
   clear HTS0
   by_cases hq5 : 1099511627776 ≤ m0
   ·have hd5 : decide (1099511627776 ≤ m0) = true := by simpa using hq5
    have HOK : Hid (prtOk b = false) := hide (prtOk_not (HFT.out (by have := HTS.out; have := HM.out; omega)))
    clear hq5
    go_wp2_with (first
     | ((with_reducible refine at_store 126 (.tmp 2) ?_); refine wpList_store_own HO.out rfl 126 (.tmp 2) (.tmp 54) rfl 0 _ 0 _ _ (zpartC) (zpartC) rfl (.agg (zpartC).toArray) rfl rfl (fits_agg _) (by decide) (splice_all rfl) zpart_size rfl ?_; intro WA hO; replace HO := hide hO; clear hO))
    refine bodyPost_ret (v := .tuple #[.agg zpartC.toArray, .bool false]) (results_row_tmp rfl _ _ b2 126 zpartC.toArray (0, 0) _ _ rfl rfl (HO.out.blk 0 rfl) Tryz.underlying126 rfl zpart_size2) rfl ?_
    exact ⟨zpart, by rw [HOK.out]; rfl, (fun h => by rw [HOK.out] at h; cases h), HO.out.below⟩
   ·have hd5 : decide (1099511627776 ≤ m0) = false := by simpa using hq5
    have HQ5 := hide hq5
    clear hq5
    by_cases hq4 : 1099511627776 ≤ m1
    ·have hd4 : decide (1099511627776 ≤ m1) = true := by simpa using hq4
     have HOK : Hid (prtOk b = false) := hide (prtOk_not (HFT.out (by have := HTS.out; have := HM.out; have := HQ5.out; omega)))
     clear hq4
     go_wp2_with (first
      | ((with_reducible refine at_store 126 (.tmp 2) ?_); refine wpList_store_own HO.out rfl 126 (.tmp 2) (.tmp 54) rfl 0 _ 0 _ _ (zpartC) (zpartC) rfl (.agg (zpartC).toArray) rfl rfl (fits_agg _) (by decide) (splice_all rfl) zpart_size rfl ?_; intro WA hO; replace HO := hide hO; clear hO))
     refine bodyPost_ret (v := .tuple #[.agg zpartC.toArray, .bool false]) (results_row_tmp rfl _ _ b2 126 zpartC.toArray (0, 0) _ _ rfl rfl (HO.out.blk 0 rfl) Tryz.underlying126 rfl zpart_size2) rfl ?_
     exact ⟨zpart, by rw [HOK.out]; rfl, (fun h => by rw [HOK.out] at h; cases h), HO.out.below⟩
    ·have hd4 : decide (1099511627776 ≤ m1) = false := by simpa using hq4
     have HQ4 := hide hq4
     clear hq4
     by_cases hq3 : m3 < 1
     ·have hd3 : decide (m3 < 1) = true := by simpa using hq3
      have HOK : Hid (prtOk b = false) := hide (prtOk_not (HFT.out (by have := HTS.out; have := HM.out; have := HQ5.out; have := HQ4.out; omega)))
      clear hq3
      go_wp2_with (first
       | ((with_reducible refine at_store 126 (.tmp 2) ?_); refine wpList_store_own HO.out rfl 126 (.tmp 2) (.tmp 54) rfl 0 _ 0 _ _ (zpartC) (zpartC) rfl (.agg (zpartC).toArray) rfl rfl (fits_agg _) (by decide) (splice_all rfl) zpart_size rfl ?_; intro WA hO; replace HO := hide hO; clear hO))
      refine bodyPost_ret (v := .tuple #[.agg zpartC.toArray, .bool false]) (results_row_tmp rfl _ _ b2 126 zpartC.toArray (0, 0) _ _ rfl rfl (HO.out.blk 0 rfl) Tryz.underlying126 rfl zpart_size2) rfl ?_
      exact ⟨zpart, by rw [HOK.out]; rfl, (fun h => by rw [HOK.out] at h; cases h), HO.out.below⟩
     ·have hd3 : decide (m3 < 1) = false := by simpa using hq3
      have HQ3 := hide hq3
      clear hq3
      by_cases hq2 : 4096 < m3
      ·have hd2 : decide (4096 < m3) = true := by simpa using hq2
       have HOK : Hid (prtOk b = false) := hide (prtOk_not (HFT.out (by have := HTS.out; have := HM.out; have := HQ5.out; have := HQ4.out; have := HQ3.out; omega)))
       clear hq2
       go_wp2_with (first
        | ((with_reducible refine at_store 126 (.tmp 2) ?_); refine wpList_store_own HO.out rfl 126 (.tmp 2) (.tmp 54) rfl 0 _ 0 _ _ (zpartC) (zpartC) rfl (.agg (zpartC).toArray) rfl rfl (fits_agg _) (by decide) (splice_all rfl) zpart_size rfl ?_; intro WA hO; replace HO := hide hO; clear hO))
       refine bodyPost_ret (v := .tuple #[.agg zpartC.toArray, .bool false]) (results_row_tmp rfl _ _ b2 126 zpartC.toArray (0, 0) _ _ rfl rfl (HO.out.blk 0 rfl) Tryz.underlying126 rfl zpart_size2) rfl ?_
       exact ⟨zpart, by rw [HOK.out]; rfl, (fun h => by rw [HOK.out] at h; cases h), HO.out.below⟩
      ·have hd2 : decide (4096 < m3) = false := by simpa using hq2
       have HQ2 := hide hq2
       clear hq2
       by_cases hq1 : m3 ≤ m2
       ·have hd1 : decide (m3 ≤ m2) = true := by simpa using hq1
        have HOK : Hid (prtOk b = false) := hide (prtOk_not (HFT.out (by have := HTS.out; have := HM.out; have := HQ5.out; have := HQ4.out; have := HQ3.out; have := HQ2.out; omega)))
        clear hq1
        go_wp2_with (first
         | ((with_reducible refine at_store 126 (.tmp 2) ?_); refine wpList_store_own HO.out rfl 126 (.tmp 2) (.tmp 54) rfl 0 _ 0 _ _ (zpartC) (zpartC) rfl (.agg (zpartC).toArray) rfl rfl (fits_agg _) (by decide) (splice_all rfl) zpart_size rfl ?_; intro WA hO; replace HO := hide hO; clear hO))
        refine bodyPost_ret (v := .tuple #[.agg zpartC.toArray, .bool false]) (results_row_tmp rfl _ _ b2 126 zpartC.toArray (0, 0) _ _ rfl rfl (HO.out.blk 0 rfl) Tryz.underlying126 rfl zpart_size2) rfl ?_
        exact ⟨zpart, by rw [HOK.out]; rfl, (fun h => by rw [HOK.out] at h; cases h), HO.out.below⟩
       ·have hd1 : decide (m3 ≤ m2) = false := by simpa using hq1
        have HQ1 := hide hq1
        clear hq1
        by_cases hq0 : 96 < zs
        ·have hd0 : decide (96 < zs) = true := by simpa using hq0
         have HOK : Hid (prtOk b = false) := hide (prtOk_not (HFT.out (by have := HTS.out; have := HM.out; have := HQ5.out; have := HQ4.out; have := HQ3.out; have := HQ2.out; have := HQ1.out; omega)))
         clear hq0
         go_wp2_with (first
          | ((with_reducible refine at_store 126 (.tmp 2) ?_); refine wpList_store_own HO.out rfl 126 (.tmp 2) (.tmp 54) rfl 0 _ 0 _ _ (zpartC) (zpartC) rfl (.agg (zpartC).toArray) rfl rfl (fits_agg _) (by decide) (splice_all rfl) zpart_size rfl ?_; intro WA hO; replace HO := hide hO; clear hO))
         refine bodyPost_ret (v := .tuple #[.agg zpartC.toArray, .bool false]) (results_row_tmp rfl _ _ b2 126 zpartC.toArray (0, 0) _ _ rfl rfl (HO.out.blk 0 rfl) Tryz.underlying126 rfl zpart_size2) rfl ?_
         exact ⟨zpart, by rw [HOK.out]; rfl, (fun h => by rw [HOK.out] at h; cases h), HO.out.below⟩
        ·have hd0 : decide (96 < zs) = false := by simpa using hq0
         have HQ0 := hide hq0
         clear hq0
         have HFI : Hid ((prtRead b).fit = true) := hide (by have := HM.out; have := HTS.out; have := HQ5.out; have := HQ4.out; have := HQ3.out; have := HQ2.out; have := HQ1.out; have := HQ0.out; rw [HE.out]; exact (Prt.fits _).2 (by dsimp only; omega))
         have HPV : Hid (Value.agg ([.int .i64 m0, .int .i64 m1, .int .i64 m2, .int .i64 m3, .string T] : List Value).toArray = pv (prtRead b)) := hide (by rw [HE.out, HTT.out]; unfold pv sv; rw [← HM.out.1, ← HM.out.2.1, ← HM.out.2.2.1, ← HM.out.2.2.2])
         have HBY : Hid (∀ W, Calls Tryz.prog 90 #[.agg ([.int .i64 m0, .int .i64 m1, .int .i64 m2, .int .i64 m3, .string T] : List Value).toArray] W (Fresh W (prtPage (prtRead b)))) := hide (fun W => by rw [HPV.out]; exact bytes_c _ (Prt.small_of HFI.out) W)
         have y0 : m0 ≤ 1099511627775 := by have := HQ5.out; omega
         have y1 : m1 ≤ 1099511627775 := by have := HQ4.out; omega
         have y3 : m3 ≤ 4096 := by have := HQ2.out; omega
         have y2 : m2 ≤ 4096 := by have := HQ1.out; omega
         have y4 : 1 ≤ m3 := by have := HQ3.out; omega
         by_cases qla : m2 = m3 - 1
         ·have dla : (m2 == m3 - 1) = true := by simpa using qla
          have Qla := hide qla
          clear qla
          by_cases qpo : 0 < zs
          ·have dpo : (decide (0 < zs)) = true := by simpa using qpo
           have Qpo := hide qpo
           clear qpo
           have HFU : Hid ((prtRead b).full = true) := hide (by have := HM.out; have := HTS.out; have := Qla.out; have := Qpo.out; exact full_yes HE.out (by omega))
           go_wp2_with (first
            | ((with_reducible refine at_alloc 126 ?_); refine wpList_alloc_own HO.out rfl 126 rfl (zpartC) zpart_info ?_; intro WA b8 hO; replace HO := hide hO; clear hO)
            | ((with_reducible refine at_store 126 (.tmp 8) ?_); refine wpList_store_own HO.out rfl 126 (.tmp 8) (.tmp 68) rfl 2 _ 0 _ _ ([.int .i64 m0, .int .i64 m1, .int .i64 m2, .int .i64 m3, .string T]) ([.int .i64 m0, .int .i64 m1, .int .i64 m2, .int .i64 m3, .string T]) rfl (.agg ([.int .i64 m0, .int .i64 m1, .int .i64 m2, .int .i64 m3, .string T] : List Value).toArray) rfl rfl (fits_agg _) (by simp [zpartC]) (splice_all rfl) zpart_size rfl ?_; intro WA hO; replace HO := hide hO; clear hO; have k8 := HO.out.cells 2 rfl))
           refine wp_region_held_drew (S := fun W => (∀ j, W.cell? ⟨b8, j, none⟩ = ([.int .i64 m0, .int .i64 m1, .int .i64 m2, .int .i64 m3, .string T] : List Value)[j]?)) (by kernel_rfl) (HO.out.drew.cells 2 rfl) (fun hS0 => ?_)
           replace HO := hide HO.out.drew
           refine ty 0 (.agg ([.int .i64 m0, .int .i64 m1, .int .i64 m2, .int .i64 m3, .string T]).toArray) rfl (yieldsIf_load rfl 126 (.tmp 8) rfl b8 0 5 126 ([.int .i64 m0, .int .i64 m1, .int .i64 m2, .int .i64 m3, .string T]) ([.int .i64 m0, .int .i64 m1, .int .i64 m2, .int .i64 m3, .string T]) _ (fun w hw => hw) (take_all rfl) rfl Tryz.underlying126 rfl zpart_size) ?_
           refine tk 1 ?_
           refine tk 2 ?_
           refine ty 3 (.agg ([.int .i64 m0, .int .i64 m1, .int .i64 m2, .int .i64 m3, .string T]).toArray) rfl (yieldsIf_load rfl 126 (.tmp 8) rfl b8 0 5 126 ([.int .i64 m0, .int .i64 m1, .int .i64 m2, .int .i64 m3, .string T]) ([.int .i64 m0, .int .i64 m1, .int .i64 m2, .int .i64 m3, .string T]) _ (fun w hw => hw) (take_all rfl) rfl Tryz.underlying126 rfl zpart_size) ?_
           refine tk 5 ?_
           refine tr1 4 fun K hK => ?_
           go_simp
           refine (HBY.out _).mono ?_
           rintro e w5 ⟨v5, rfl, ho5, hb5⟩
           replace HO := hide (HO.out.step hb5)
           have HO5 := hide ho5.bs
           clear ho5 hb5
           refine hK.out _ _ (HO.out.cells 2 rfl) (fun hS5 => ?_)
           clear hK K
           try simp only [Act.put, qa, qb, qc, qd, qe, qf]
           refine tr1 6 fun K hK => ?_
           go_simp
           obtain ⟨A5, m5, c5, rfl, _, _, _⟩ := HO5.out.formN
           refine (equal_b _ _ _ _ _ HO5.out (H.out.step HO.out.below)).mono ?_
           rintro e w6 ⟨rfl, rfl⟩
           refine hK.out _ _ (HO.out.cells 2 rfl) (fun hS6 => ?_)
           clear hK K
           try simp only [Act.put, qa, qb, qc, qd, qe, qf]
           refine tk 7 ?_
           refine tr1 8 fun K hK => ?_
           refine step_store_own HO.out rfl 126 (.tmp 2) (.tmp 91) rfl 0 _ 0 _ _ ([.int .i64 m0, .int .i64 m1, .int .i64 m2, .int .i64 m3, .string T]) ([.int .i64 m0, .int .i64 m1, .int .i64 m2, .int .i64 m3, .string T]) rfl (.agg ([.int .i64 m0, .int .i64 m1, .int .i64 m2, .int .i64 m3, .string T]).toArray) rfl rfl (fits_agg _) (by simp [zpartC]) (splice_all rfl) zpart_size rfl ?_
           intro WA hO
           replace HO := hide hO
           clear hO
           refine hK.out _ _ (HO.out.cells 2 rfl) (fun hS8 => ?_)
           clear hK K
           try simp only [Act.put, qa, qb, qc, qd, qe, qf]
           refine tk 9 ?_
           refine wpAnyH_done (by kernel_rfl) ?_ _
           go_wp2_with fail
           refine bodyPost_ret (v := .tuple #[.agg ([.int .i64 m0, .int .i64 m1, .int .i64 m2, .int .i64 m3, .string T] : List Value).toArray, .bool (prtPage (prtRead b) == b)]) (results_row_tmp rfl _ _ b2 126 ([.int .i64 m0, .int .i64 m1, .int .i64 m2, .int .i64 m3, .string T] : List Value).toArray (0, 0) _ _ rfl rfl (HO.out.blk 0 rfl) Tryz.underlying126 rfl zpart_size2) rfl ?_
           exact ⟨prtRead b, by rw [← HPV.out, (prtOk_full HFI.out HFU.out)], fun _ => rfl, HO.out.below⟩
          ·have dpo : (decide (0 < zs)) = false := by simpa using qpo
           have Qpo := hide qpo
           clear qpo
           by_cases qqo : m3 = 1
           ·have dqo : (m3 == 1) = true := by simpa using qqo
            have Qqo := hide qqo
            clear qqo
            have HFU : Hid ((prtRead b).full = true) := hide (by have := HM.out; have := HTS.out; have := Qla.out; have := Qpo.out; have := Qqo.out; exact full_yes HE.out (by omega))
            go_wp2_with (first
             | ((with_reducible refine at_alloc 126 ?_); refine wpList_alloc_own HO.out rfl 126 rfl (zpartC) zpart_info ?_; intro WA b8 hO; replace HO := hide hO; clear hO)
             | ((with_reducible refine at_store 126 (.tmp 8) ?_); refine wpList_store_own HO.out rfl 126 (.tmp 8) (.tmp 68) rfl 2 _ 0 _ _ ([.int .i64 m0, .int .i64 m1, .int .i64 m2, .int .i64 m3, .string T]) ([.int .i64 m0, .int .i64 m1, .int .i64 m2, .int .i64 m3, .string T]) rfl (.agg ([.int .i64 m0, .int .i64 m1, .int .i64 m2, .int .i64 m3, .string T] : List Value).toArray) rfl rfl (fits_agg _) (by simp [zpartC]) (splice_all rfl) zpart_size rfl ?_; intro WA hO; replace HO := hide hO; clear hO; have k8 := HO.out.cells 2 rfl))
            refine wp_region_held_drew (S := fun W => (∀ j, W.cell? ⟨b8, j, none⟩ = ([.int .i64 m0, .int .i64 m1, .int .i64 m2, .int .i64 m3, .string T] : List Value)[j]?)) (by kernel_rfl) (HO.out.drew.cells 2 rfl) (fun hS0 => ?_)
            replace HO := hide HO.out.drew
            refine ty 0 (.agg ([.int .i64 m0, .int .i64 m1, .int .i64 m2, .int .i64 m3, .string T]).toArray) rfl (yieldsIf_load rfl 126 (.tmp 8) rfl b8 0 5 126 ([.int .i64 m0, .int .i64 m1, .int .i64 m2, .int .i64 m3, .string T]) ([.int .i64 m0, .int .i64 m1, .int .i64 m2, .int .i64 m3, .string T]) _ (fun w hw => hw) (take_all rfl) rfl Tryz.underlying126 rfl zpart_size) ?_
            refine tk 1 ?_
            refine tk 2 ?_
            refine ty 3 (.agg ([.int .i64 m0, .int .i64 m1, .int .i64 m2, .int .i64 m3, .string T]).toArray) rfl (yieldsIf_load rfl 126 (.tmp 8) rfl b8 0 5 126 ([.int .i64 m0, .int .i64 m1, .int .i64 m2, .int .i64 m3, .string T]) ([.int .i64 m0, .int .i64 m1, .int .i64 m2, .int .i64 m3, .string T]) _ (fun w hw => hw) (take_all rfl) rfl Tryz.underlying126 rfl zpart_size) ?_
            refine tk 5 ?_
            refine tr1 4 fun K hK => ?_
            go_simp
            refine (HBY.out _).mono ?_
            rintro e w5 ⟨v5, rfl, ho5, hb5⟩
            replace HO := hide (HO.out.step hb5)
            have HO5 := hide ho5.bs
            clear ho5 hb5
            refine hK.out _ _ (HO.out.cells 2 rfl) (fun hS5 => ?_)
            clear hK K
            try simp only [Act.put, qa, qb, qc, qd, qe, qf]
            refine tr1 6 fun K hK => ?_
            go_simp
            obtain ⟨A5, m5, c5, rfl, _, _, _⟩ := HO5.out.formN
            refine (equal_b _ _ _ _ _ HO5.out (H.out.step HO.out.below)).mono ?_
            rintro e w6 ⟨rfl, rfl⟩
            refine hK.out _ _ (HO.out.cells 2 rfl) (fun hS6 => ?_)
            clear hK K
            try simp only [Act.put, qa, qb, qc, qd, qe, qf]
            refine tk 7 ?_
            refine tr1 8 fun K hK => ?_
            refine step_store_own HO.out rfl 126 (.tmp 2) (.tmp 91) rfl 0 _ 0 _ _ ([.int .i64 m0, .int .i64 m1, .int .i64 m2, .int .i64 m3, .string T]) ([.int .i64 m0, .int .i64 m1, .int .i64 m2, .int .i64 m3, .string T]) rfl (.agg ([.int .i64 m0, .int .i64 m1, .int .i64 m2, .int .i64 m3, .string T]).toArray) rfl rfl (fits_agg _) (by simp [zpartC]) (splice_all rfl) zpart_size rfl ?_
            intro WA hO
            replace HO := hide hO
            clear hO
            refine hK.out _ _ (HO.out.cells 2 rfl) (fun hS8 => ?_)
            clear hK K
            try simp only [Act.put, qa, qb, qc, qd, qe, qf]
            refine tk 9 ?_
            refine wpAnyH_done (by kernel_rfl) ?_ _
            go_wp2_with fail
            refine bodyPost_ret (v := .tuple #[.agg ([.int .i64 m0, .int .i64 m1, .int .i64 m2, .int .i64 m3, .string T] : List Value).toArray, .bool (prtPage (prtRead b) == b)]) (results_row_tmp rfl _ _ b2 126 ([.int .i64 m0, .int .i64 m1, .int .i64 m2, .int .i64 m3, .string T] : List Value).toArray (0, 0) _ _ rfl rfl (HO.out.blk 0 rfl) Tryz.underlying126 rfl zpart_size2) rfl ?_
            exact ⟨prtRead b, by rw [← HPV.out, (prtOk_full HFI.out HFU.out)], fun _ => rfl, HO.out.below⟩
           ·have dqo : (m3 == 1) = false := by simpa using qqo
            have Qqo := hide qqo
            clear qqo
            have HFU : Hid ((prtRead b).full = false) := hide (by have := HM.out; have := HTS.out; have := Qla.out; have := Qpo.out; have := Qqo.out; exact full_no HE.out (by omega))
            go_wp2_with (first
             | ((with_reducible refine at_alloc 126 ?_); refine wpList_alloc_own HO.out rfl 126 rfl (zpartC) zpart_info ?_; intro WA b8 hO; replace HO := hide hO; clear hO)
             | ((with_reducible refine at_store 126 (.tmp 8) ?_); refine wpList_store_own HO.out rfl 126 (.tmp 8) (.tmp 68) rfl 2 _ 0 _ _ ([.int .i64 m0, .int .i64 m1, .int .i64 m2, .int .i64 m3, .string T]) ([.int .i64 m0, .int .i64 m1, .int .i64 m2, .int .i64 m3, .string T]) rfl (.agg ([.int .i64 m0, .int .i64 m1, .int .i64 m2, .int .i64 m3, .string T] : List Value).toArray) rfl rfl (fits_agg _) (by simp [zpartC]) (splice_all rfl) zpart_size rfl ?_; intro WA hO; replace HO := hide hO; clear hO; have k8 := HO.out.cells 2 rfl))
            refine wp_region_held_drew (S := fun W => (∀ j, W.cell? ⟨b8, j, none⟩ = ([.int .i64 m0, .int .i64 m1, .int .i64 m2, .int .i64 m3, .string T] : List Value)[j]?)) (by kernel_rfl) (HO.out.drew.cells 2 rfl) (fun hS0 => ?_)
            replace HO := hide HO.out.drew
            refine ty 0 (.agg ([.int .i64 m0, .int .i64 m1, .int .i64 m2, .int .i64 m3, .string T]).toArray) rfl (yieldsIf_load rfl 126 (.tmp 8) rfl b8 0 5 126 ([.int .i64 m0, .int .i64 m1, .int .i64 m2, .int .i64 m3, .string T]) ([.int .i64 m0, .int .i64 m1, .int .i64 m2, .int .i64 m3, .string T]) _ (fun w hw => hw) (take_all rfl) rfl Tryz.underlying126 rfl zpart_size) ?_
            refine tk 1 ?_
            refine tk 2 ?_
            refine ty 3 (undef) rfl (Or.inr ⟨by rfl, rfl⟩) ?_
            refine ty 4 (undef) rfl (Or.inr ⟨by rfl, rfl⟩) ?_
            refine ty 5 (undef) rfl (Or.inr ⟨by rfl, rfl⟩) ?_
            refine ty 6 (undef) rfl (Or.inr ⟨by rfl, rfl⟩) ?_
            refine tk 7 ?_
            refine tr1 8 fun K hK => ?_
            refine step_store_own HO.out rfl 126 (.tmp 2) (.tmp 91) rfl 0 _ 0 _ _ ([.int .i64 m0, .int .i64 m1, .int .i64 m2, .int .i64 m3, .string T]) ([.int .i64 m0, .int .i64 m1, .int .i64 m2, .int .i64 m3, .string T]) rfl (.agg ([.int .i64 m0, .int .i64 m1, .int .i64 m2, .int .i64 m3, .string T]).toArray) rfl rfl (fits_agg _) (by simp [zpartC]) (splice_all rfl) zpart_size rfl ?_
            intro WA hO
            replace HO := hide hO
            clear hO
            refine hK.out _ _ (HO.out.cells 2 rfl) (fun hS8 => ?_)
            clear hK K
            try simp only [Act.put, qa, qb, qc, qd, qe, qf]
            refine tk 9 ?_
            refine wpAnyH_done (by kernel_rfl) ?_ _
            go_wp2_with fail
            refine bodyPost_ret (v := .tuple #[.agg ([.int .i64 m0, .int .i64 m1, .int .i64 m2, .int .i64 m3, .string T] : List Value).toArray, .bool false]) (results_row_tmp rfl _ _ b2 126 ([.int .i64 m0, .int .i64 m1, .int .i64 m2, .int .i64 m3, .string T] : List Value).toArray (0, 0) _ _ rfl rfl (HO.out.blk 0 rfl) Tryz.underlying126 rfl zpart_size2) rfl ?_
            exact ⟨prtRead b, by rw [← HPV.out, prtOk_nfull HFU.out], fun h => rfl, HO.out.below⟩
         ·have dla : (m2 == m3 - 1) = false := by simpa using qla
          have Qla := hide qla
          clear qla
          by_cases qns : zs = 96
          ·have dns : (zs == 96) = true := by simpa using qns
           have Qns := hide qns
           clear qns
           by_cases qpo : 0 < zs
           ·have dpo : (decide (0 < zs)) = true := by simpa using qpo
            have Qpo := hide qpo
            clear qpo
            have HFU : Hid ((prtRead b).full = true) := hide (by have := HM.out; have := HTS.out; have := Qla.out; have := Qns.out; have := Qpo.out; exact full_yes HE.out (by omega))
            go_wp2_with (first
             | ((with_reducible refine at_alloc 126 ?_); refine wpList_alloc_own HO.out rfl 126 rfl (zpartC) zpart_info ?_; intro WA b8 hO; replace HO := hide hO; clear hO)
             | ((with_reducible refine at_store 126 (.tmp 8) ?_); refine wpList_store_own HO.out rfl 126 (.tmp 8) (.tmp 68) rfl 2 _ 0 _ _ ([.int .i64 m0, .int .i64 m1, .int .i64 m2, .int .i64 m3, .string T]) ([.int .i64 m0, .int .i64 m1, .int .i64 m2, .int .i64 m3, .string T]) rfl (.agg ([.int .i64 m0, .int .i64 m1, .int .i64 m2, .int .i64 m3, .string T] : List Value).toArray) rfl rfl (fits_agg _) (by simp [zpartC]) (splice_all rfl) zpart_size rfl ?_; intro WA hO; replace HO := hide hO; clear hO; have k8 := HO.out.cells 2 rfl))
            refine wp_region_held_drew (S := fun W => (∀ j, W.cell? ⟨b8, j, none⟩ = ([.int .i64 m0, .int .i64 m1, .int .i64 m2, .int .i64 m3, .string T] : List Value)[j]?)) (by kernel_rfl) (HO.out.drew.cells 2 rfl) (fun hS0 => ?_)
            replace HO := hide HO.out.drew
            refine ty 0 (.agg ([.int .i64 m0, .int .i64 m1, .int .i64 m2, .int .i64 m3, .string T]).toArray) rfl (yieldsIf_load rfl 126 (.tmp 8) rfl b8 0 5 126 ([.int .i64 m0, .int .i64 m1, .int .i64 m2, .int .i64 m3, .string T]) ([.int .i64 m0, .int .i64 m1, .int .i64 m2, .int .i64 m3, .string T]) _ (fun w hw => hw) (take_all rfl) rfl Tryz.underlying126 rfl zpart_size) ?_
            refine tk 1 ?_
            refine tk 2 ?_
            refine ty 3 (.agg ([.int .i64 m0, .int .i64 m1, .int .i64 m2, .int .i64 m3, .string T]).toArray) rfl (yieldsIf_load rfl 126 (.tmp 8) rfl b8 0 5 126 ([.int .i64 m0, .int .i64 m1, .int .i64 m2, .int .i64 m3, .string T]) ([.int .i64 m0, .int .i64 m1, .int .i64 m2, .int .i64 m3, .string T]) _ (fun w hw => hw) (take_all rfl) rfl Tryz.underlying126 rfl zpart_size) ?_
            refine tk 5 ?_
            refine tr1 4 fun K hK => ?_
            go_simp
            refine (HBY.out _).mono ?_
            rintro e w5 ⟨v5, rfl, ho5, hb5⟩
            replace HO := hide (HO.out.step hb5)
            have HO5 := hide ho5.bs
            clear ho5 hb5
            refine hK.out _ _ (HO.out.cells 2 rfl) (fun hS5 => ?_)
            clear hK K
            try simp only [Act.put, qa, qb, qc, qd, qe, qf]
            refine tr1 6 fun K hK => ?_
            go_simp
            obtain ⟨A5, m5, c5, rfl, _, _, _⟩ := HO5.out.formN
            refine (equal_b _ _ _ _ _ HO5.out (H.out.step HO.out.below)).mono ?_
            rintro e w6 ⟨rfl, rfl⟩
            refine hK.out _ _ (HO.out.cells 2 rfl) (fun hS6 => ?_)
            clear hK K
            try simp only [Act.put, qa, qb, qc, qd, qe, qf]
            refine tk 7 ?_
            refine tr1 8 fun K hK => ?_
            refine step_store_own HO.out rfl 126 (.tmp 2) (.tmp 91) rfl 0 _ 0 _ _ ([.int .i64 m0, .int .i64 m1, .int .i64 m2, .int .i64 m3, .string T]) ([.int .i64 m0, .int .i64 m1, .int .i64 m2, .int .i64 m3, .string T]) rfl (.agg ([.int .i64 m0, .int .i64 m1, .int .i64 m2, .int .i64 m3, .string T]).toArray) rfl rfl (fits_agg _) (by simp [zpartC]) (splice_all rfl) zpart_size rfl ?_
            intro WA hO
            replace HO := hide hO
            clear hO
            refine hK.out _ _ (HO.out.cells 2 rfl) (fun hS8 => ?_)
            clear hK K
            try simp only [Act.put, qa, qb, qc, qd, qe, qf]
            refine tk 9 ?_
            refine wpAnyH_done (by kernel_rfl) ?_ _
            go_wp2_with fail
            refine bodyPost_ret (v := .tuple #[.agg ([.int .i64 m0, .int .i64 m1, .int .i64 m2, .int .i64 m3, .string T] : List Value).toArray, .bool (prtPage (prtRead b) == b)]) (results_row_tmp rfl _ _ b2 126 ([.int .i64 m0, .int .i64 m1, .int .i64 m2, .int .i64 m3, .string T] : List Value).toArray (0, 0) _ _ rfl rfl (HO.out.blk 0 rfl) Tryz.underlying126 rfl zpart_size2) rfl ?_
            exact ⟨prtRead b, by rw [← HPV.out, (prtOk_full HFI.out HFU.out)], fun _ => rfl, HO.out.below⟩
           ·have dpo : (decide (0 < zs)) = false := by simpa using qpo
            have Qpo := hide qpo
            clear qpo
            by_cases qqo : m3 = 1
            ·have dqo : (m3 == 1) = true := by simpa using qqo
             have Qqo := hide qqo
             clear qqo
             have HFU : Hid ((prtRead b).full = true) := hide (by have := HM.out; have := HTS.out; have := Qla.out; have := Qns.out; have := Qpo.out; have := Qqo.out; exact full_yes HE.out (by omega))
             go_wp2_with (first
              | ((with_reducible refine at_alloc 126 ?_); refine wpList_alloc_own HO.out rfl 126 rfl (zpartC) zpart_info ?_; intro WA b8 hO; replace HO := hide hO; clear hO)
              | ((with_reducible refine at_store 126 (.tmp 8) ?_); refine wpList_store_own HO.out rfl 126 (.tmp 8) (.tmp 68) rfl 2 _ 0 _ _ ([.int .i64 m0, .int .i64 m1, .int .i64 m2, .int .i64 m3, .string T]) ([.int .i64 m0, .int .i64 m1, .int .i64 m2, .int .i64 m3, .string T]) rfl (.agg ([.int .i64 m0, .int .i64 m1, .int .i64 m2, .int .i64 m3, .string T] : List Value).toArray) rfl rfl (fits_agg _) (by simp [zpartC]) (splice_all rfl) zpart_size rfl ?_; intro WA hO; replace HO := hide hO; clear hO; have k8 := HO.out.cells 2 rfl))
             refine wp_region_held_drew (S := fun W => (∀ j, W.cell? ⟨b8, j, none⟩ = ([.int .i64 m0, .int .i64 m1, .int .i64 m2, .int .i64 m3, .string T] : List Value)[j]?)) (by kernel_rfl) (HO.out.drew.cells 2 rfl) (fun hS0 => ?_)
             replace HO := hide HO.out.drew
             refine ty 0 (.agg ([.int .i64 m0, .int .i64 m1, .int .i64 m2, .int .i64 m3, .string T]).toArray) rfl (yieldsIf_load rfl 126 (.tmp 8) rfl b8 0 5 126 ([.int .i64 m0, .int .i64 m1, .int .i64 m2, .int .i64 m3, .string T]) ([.int .i64 m0, .int .i64 m1, .int .i64 m2, .int .i64 m3, .string T]) _ (fun w hw => hw) (take_all rfl) rfl Tryz.underlying126 rfl zpart_size) ?_
             refine tk 1 ?_
             refine tk 2 ?_
             refine ty 3 (.agg ([.int .i64 m0, .int .i64 m1, .int .i64 m2, .int .i64 m3, .string T]).toArray) rfl (yieldsIf_load rfl 126 (.tmp 8) rfl b8 0 5 126 ([.int .i64 m0, .int .i64 m1, .int .i64 m2, .int .i64 m3, .string T]) ([.int .i64 m0, .int .i64 m1, .int .i64 m2, .int .i64 m3, .string T]) _ (fun w hw => hw) (take_all rfl) rfl Tryz.underlying126 rfl zpart_size) ?_
             refine tk 5 ?_
             refine tr1 4 fun K hK => ?_
             go_simp
             refine (HBY.out _).mono ?_
             rintro e w5 ⟨v5, rfl, ho5, hb5⟩
             replace HO := hide (HO.out.step hb5)
             have HO5 := hide ho5.bs
             clear ho5 hb5
             refine hK.out _ _ (HO.out.cells 2 rfl) (fun hS5 => ?_)
             clear hK K
             try simp only [Act.put, qa, qb, qc, qd, qe, qf]
             refine tr1 6 fun K hK => ?_
             go_simp
             obtain ⟨A5, m5, c5, rfl, _, _, _⟩ := HO5.out.formN
             refine (equal_b _ _ _ _ _ HO5.out (H.out.step HO.out.below)).mono ?_
             rintro e w6 ⟨rfl, rfl⟩
             refine hK.out _ _ (HO.out.cells 2 rfl) (fun hS6 => ?_)
             clear hK K
             try simp only [Act.put, qa, qb, qc, qd, qe, qf]
             refine tk 7 ?_
             refine tr1 8 fun K hK => ?_
             refine step_store_own HO.out rfl 126 (.tmp 2) (.tmp 91) rfl 0 _ 0 _ _ ([.int .i64 m0, .int .i64 m1, .int .i64 m2, .int .i64 m3, .string T]) ([.int .i64 m0, .int .i64 m1, .int .i64 m2, .int .i64 m3, .string T]) rfl (.agg ([.int .i64 m0, .int .i64 m1, .int .i64 m2, .int .i64 m3, .string T]).toArray) rfl rfl (fits_agg _) (by simp [zpartC]) (splice_all rfl) zpart_size rfl ?_
             intro WA hO
             replace HO := hide hO
             clear hO
             refine hK.out _ _ (HO.out.cells 2 rfl) (fun hS8 => ?_)
             clear hK K
             try simp only [Act.put, qa, qb, qc, qd, qe, qf]
             refine tk 9 ?_
             refine wpAnyH_done (by kernel_rfl) ?_ _
             go_wp2_with fail
             refine bodyPost_ret (v := .tuple #[.agg ([.int .i64 m0, .int .i64 m1, .int .i64 m2, .int .i64 m3, .string T] : List Value).toArray, .bool (prtPage (prtRead b) == b)]) (results_row_tmp rfl _ _ b2 126 ([.int .i64 m0, .int .i64 m1, .int .i64 m2, .int .i64 m3, .string T] : List Value).toArray (0, 0) _ _ rfl rfl (HO.out.blk 0 rfl) Tryz.underlying126 rfl zpart_size2) rfl ?_
             exact ⟨prtRead b, by rw [← HPV.out, (prtOk_full HFI.out HFU.out)], fun _ => rfl, HO.out.below⟩
            ·have dqo : (m3 == 1) = false := by simpa using qqo
             have Qqo := hide qqo
             clear qqo
             have HFU : Hid ((prtRead b).full = false) := hide (by have := HM.out; have := HTS.out; have := Qla.out; have := Qns.out; have := Qpo.out; have := Qqo.out; exact full_no HE.out (by omega))
             go_wp2_with (first
              | ((with_reducible refine at_alloc 126 ?_); refine wpList_alloc_own HO.out rfl 126 rfl (zpartC) zpart_info ?_; intro WA b8 hO; replace HO := hide hO; clear hO)
              | ((with_reducible refine at_store 126 (.tmp 8) ?_); refine wpList_store_own HO.out rfl 126 (.tmp 8) (.tmp 68) rfl 2 _ 0 _ _ ([.int .i64 m0, .int .i64 m1, .int .i64 m2, .int .i64 m3, .string T]) ([.int .i64 m0, .int .i64 m1, .int .i64 m2, .int .i64 m3, .string T]) rfl (.agg ([.int .i64 m0, .int .i64 m1, .int .i64 m2, .int .i64 m3, .string T] : List Value).toArray) rfl rfl (fits_agg _) (by simp [zpartC]) (splice_all rfl) zpart_size rfl ?_; intro WA hO; replace HO := hide hO; clear hO; have k8 := HO.out.cells 2 rfl))
             refine wp_region_held_drew (S := fun W => (∀ j, W.cell? ⟨b8, j, none⟩ = ([.int .i64 m0, .int .i64 m1, .int .i64 m2, .int .i64 m3, .string T] : List Value)[j]?)) (by kernel_rfl) (HO.out.drew.cells 2 rfl) (fun hS0 => ?_)
             replace HO := hide HO.out.drew
             refine ty 0 (.agg ([.int .i64 m0, .int .i64 m1, .int .i64 m2, .int .i64 m3, .string T]).toArray) rfl (yieldsIf_load rfl 126 (.tmp 8) rfl b8 0 5 126 ([.int .i64 m0, .int .i64 m1, .int .i64 m2, .int .i64 m3, .string T]) ([.int .i64 m0, .int .i64 m1, .int .i64 m2, .int .i64 m3, .string T]) _ (fun w hw => hw) (take_all rfl) rfl Tryz.underlying126 rfl zpart_size) ?_
             refine tk 1 ?_
             refine tk 2 ?_
             refine ty 3 (undef) rfl (Or.inr ⟨by rfl, rfl⟩) ?_
             refine ty 4 (undef) rfl (Or.inr ⟨by rfl, rfl⟩) ?_
             refine ty 5 (undef) rfl (Or.inr ⟨by rfl, rfl⟩) ?_
             refine ty 6 (undef) rfl (Or.inr ⟨by rfl, rfl⟩) ?_
             refine tk 7 ?_
             refine tr1 8 fun K hK => ?_
             refine step_store_own HO.out rfl 126 (.tmp 2) (.tmp 91) rfl 0 _ 0 _ _ ([.int .i64 m0, .int .i64 m1, .int .i64 m2, .int .i64 m3, .string T]) ([.int .i64 m0, .int .i64 m1, .int .i64 m2, .int .i64 m3, .string T]) rfl (.agg ([.int .i64 m0, .int .i64 m1, .int .i64 m2, .int .i64 m3, .string T]).toArray) rfl rfl (fits_agg _) (by simp [zpartC]) (splice_all rfl) zpart_size rfl ?_
             intro WA hO
             replace HO := hide hO
             clear hO
             refine hK.out _ _ (HO.out.cells 2 rfl) (fun hS8 => ?_)
             clear hK K
             try simp only [Act.put, qa, qb, qc, qd, qe, qf]
             refine tk 9 ?_
             refine wpAnyH_done (by kernel_rfl) ?_ _
             go_wp2_with fail
             refine bodyPost_ret (v := .tuple #[.agg ([.int .i64 m0, .int .i64 m1, .int .i64 m2, .int .i64 m3, .string T] : List Value).toArray, .bool false]) (results_row_tmp rfl _ _ b2 126 ([.int .i64 m0, .int .i64 m1, .int .i64 m2, .int .i64 m3, .string T] : List Value).toArray (0, 0) _ _ rfl rfl (HO.out.blk 0 rfl) Tryz.underlying126 rfl zpart_size2) rfl ?_
             exact ⟨prtRead b, by rw [← HPV.out, prtOk_nfull HFU.out], fun h => rfl, HO.out.below⟩
          ·have dns : (zs == 96) = false := by simpa using qns
           have Qns := hide qns
           clear qns
           have HFU : Hid ((prtRead b).full = false) := hide (by have := HM.out; have := HTS.out; have := Qla.out; have := Qns.out; exact full_no HE.out (by omega))
           go_wp2_with (first
            | ((with_reducible refine at_alloc 126 ?_); refine wpList_alloc_own HO.out rfl 126 rfl (zpartC) zpart_info ?_; intro WA b8 hO; replace HO := hide hO; clear hO)
            | ((with_reducible refine at_store 126 (.tmp 8) ?_); refine wpList_store_own HO.out rfl 126 (.tmp 8) (.tmp 68) rfl 2 _ 0 _ _ ([.int .i64 m0, .int .i64 m1, .int .i64 m2, .int .i64 m3, .string T]) ([.int .i64 m0, .int .i64 m1, .int .i64 m2, .int .i64 m3, .string T]) rfl (.agg ([.int .i64 m0, .int .i64 m1, .int .i64 m2, .int .i64 m3, .string T] : List Value).toArray) rfl rfl (fits_agg _) (by simp [zpartC]) (splice_all rfl) zpart_size rfl ?_; intro WA hO; replace HO := hide hO; clear hO; have k8 := HO.out.cells 2 rfl))
           refine wp_region_held_drew (S := fun W => (∀ j, W.cell? ⟨b8, j, none⟩ = ([.int .i64 m0, .int .i64 m1, .int .i64 m2, .int .i64 m3, .string T] : List Value)[j]?)) (by kernel_rfl) (HO.out.drew.cells 2 rfl) (fun hS0 => ?_)
           replace HO := hide HO.out.drew
           refine ty 0 (.agg ([.int .i64 m0, .int .i64 m1, .int .i64 m2, .int .i64 m3, .string T]).toArray) rfl (yieldsIf_load rfl 126 (.tmp 8) rfl b8 0 5 126 ([.int .i64 m0, .int .i64 m1, .int .i64 m2, .int .i64 m3, .string T]) ([.int .i64 m0, .int .i64 m1, .int .i64 m2, .int .i64 m3, .string T]) _ (fun w hw => hw) (take_all rfl) rfl Tryz.underlying126 rfl zpart_size) ?_
           refine tk 1 ?_
           refine tk 2 ?_
           refine ty 3 (undef) rfl (Or.inr ⟨by rfl, rfl⟩) ?_
           refine ty 4 (undef) rfl (Or.inr ⟨by rfl, rfl⟩) ?_
           refine ty 5 (undef) rfl (Or.inr ⟨by rfl, rfl⟩) ?_
           refine ty 6 (undef) rfl (Or.inr ⟨by rfl, rfl⟩) ?_
           refine tk 7 ?_
           refine tr1 8 fun K hK => ?_
           refine step_store_own HO.out rfl 126 (.tmp 2) (.tmp 91) rfl 0 _ 0 _ _ ([.int .i64 m0, .int .i64 m1, .int .i64 m2, .int .i64 m3, .string T]) ([.int .i64 m0, .int .i64 m1, .int .i64 m2, .int .i64 m3, .string T]) rfl (.agg ([.int .i64 m0, .int .i64 m1, .int .i64 m2, .int .i64 m3, .string T]).toArray) rfl rfl (fits_agg _) (by simp [zpartC]) (splice_all rfl) zpart_size rfl ?_
           intro WA hO
           replace HO := hide hO
           clear hO
           refine hK.out _ _ (HO.out.cells 2 rfl) (fun hS8 => ?_)
           clear hK K
           try simp only [Act.put, qa, qb, qc, qd, qe, qf]
           refine tk 9 ?_
           refine wpAnyH_done (by kernel_rfl) ?_ _
           go_wp2_with fail
           refine bodyPost_ret (v := .tuple #[.agg ([.int .i64 m0, .int .i64 m1, .int .i64 m2, .int .i64 m3, .string T] : List Value).toArray, .bool false]) (results_row_tmp rfl _ _ b2 126 ([.int .i64 m0, .int .i64 m1, .int .i64 m2, .int .i64 m3, .string T] : List Value).toArray (0, 0) _ _ rfl rfl (HO.out.blk 0 rfl) Tryz.underlying126 rfl zpart_size2) rfl ?_
           exact ⟨prtRead b, by rw [← HPV.out, prtOk_nfull HFU.out], fun h => rfl, HO.out.below⟩
end Go.Proofs.YtpadgkkeihhneaaGreat
