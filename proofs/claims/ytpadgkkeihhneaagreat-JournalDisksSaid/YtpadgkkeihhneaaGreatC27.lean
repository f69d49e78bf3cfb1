/- The reference's Read. -/
import Derived.Test.YtpadgkkeihhneaaGreatC25
import Derived.Test.YtpadgkkeihhneaaGreatC12
import Derived.Test.YtpadgkkeihhneaaGreatC26
namespace Go.Proofs.YtpadgkkeihhneaaGreat
set_option maxRecDepth 100000
set_option linter.unusedSimpArgs false
set_option linter.unusedVariables false
open List renaming getElem_toArray → qa, getElem_cons_zero → qb, getElem_cons_succ → qc, setIfInBounds_toArray → qd, set_cons_zero → qe, set_cons_succ → qf
open Go.ChangeShapes Go.WideShapes Go.ChangeAt Go.RowKit
theorem rpart_info : (Tryz.prog.info? 99).map (·.zero) = some (some (.agg zpartC.toArray)) := by kernel_rfl
theorem rpart_size : (Tryz.prog.info? 99).map (·.size) = some zpartC.length := by kernel_rfl
theorem rpart_size2 : (Tryz.prog.info? 99).map (·.size) = some zpartC.toArray.size := by kernel_rfl
def zrd : List Value := [.slice none 0 0, .int .i64 0]
theorem rrd_info : (Tryz.prog.info? 132).map (·.zero) = some (some (.agg zrd.toArray)) := by kernel_rfl
theorem rrd_size : (Tryz.prog.info? 132).map (·.size) = some zrd.length := by kernel_rfl
set_option maxHeartbeats 8000000 in
theorem rread33_c (v : Value) (b : List UInt8) (hl : b.length ≤ 1000000) (w : World) (h : Bs w v b) (hv : ∀ j, v.ownBlock = some j → j < w.heap.size) : Calls Tryz.prog 53 #[v] w (PartR w b) := by
 have H := hide h
 have HL := hide hl
 obtain ⟨K, hK⟩ : ∃ K, K = v.ownBlock := ⟨_, rfl⟩
 have HKB0 : Hid (∀ j, K = some j → j < w.heap.size) := hide (fun j hj => hv j (hK ▸ hj))
 have HR0 : Hid (RVal w K (.agg #[v, .int .i64 0]) b 0) := hide ⟨v, rfl, h, fun _ j hj => hK.trans hj⟩
 obtain ⟨l1, c1, n0, e0⟩ : ∃ l1 c1 n0, rNum (b, 0) = ((l1, c1), n0) := ⟨_, _, _, rfl⟩
 obtain ⟨l2, c2, n1, e1⟩ : ∃ l2 c2 n1, rNum (l1, c1) = ((l2, c2), n1) := ⟨_, _, _, rfl⟩
 obtain ⟨l3, c3, n2, e2⟩ : ∃ l3 c3 n2, rNum (l2, c2) = ((l3, c3), n2) := ⟨_, _, _, rfl⟩
 obtain ⟨l4, c4, n3, e3⟩ : ∃ l4 c4 n3, rNum (l3, c3) = ((l4, c4), n3) := ⟨_, _, _, rfl⟩
 obtain ⟨l5, c5, s, e4⟩ : ∃ l5 c5 s, rText (l4, c4) = ((l5, c5), s) := ⟨_, _, _, rfl⟩
 have HE : Hid (prtRead b = ⟨n0, n1, n2, n3, s⟩) := hide (by unfold prtRead rd4 rd3 rd2 rd1 rd0; rw [e0, e1, e2, e3, e4])
 have HC : Hid (c5 ≠ 0 → prtOk b = false) := hide (fun hc => by
  cases hp : prtOk b with
  | false => rfl
  | true =>
   have := prtOk_code b hp
   unfold rd4 rd3 rd2 rd1 rd0 at this
   rw [e0, e1, e2, e3, e4] at this
   exact absurd this hc)
 have HN0 : Hid (∀ (W : World) (rv : Value), RVal W K rv b 0 → Calls Tryz.prog 85 #[rv] W (Got W K (l1, c1) (.int .u64 n0))) := hide (fun W rv hr => by have := getNumber_c K rv b 0 W hr; rwa [e0] at this)
 have HN1 : Hid (∀ (W : World) (rv : Value), RVal W K rv l1 c1 → Calls Tryz.prog 85 #[rv] W (Got W K (l2, c2) (.int .u64 n1))) := hide (fun W rv hr => by have := getNumber_c K rv l1 c1 W hr; rwa [e1] at this)
 have HN2 : Hid (∀ (W : World) (rv : Value), RVal W K rv l2 c2 → Calls Tryz.prog 85 #[rv] W (Got W K (l3, c3) (.int .u64 n2))) := hide (fun W rv hr => by have := getNumber_c K rv l2 c2 W hr; rwa [e2] at this)
 have HN3 : Hid (∀ (W : World) (rv : Value), RVal W K rv l3 c3 → Calls Tryz.prog 85 #[rv] W (Got W K (l4, c4) (.int .u64 n3))) := hide (fun W rv hr => by have := getNumber_c K rv l3 c3 W hr; rwa [e3] at this)
 have HN4 : Hid (∀ (W : World) (rv : Value), RVal W K rv l4 c4 → w.heap.size ≤ W.heap.size → Calls Tryz.prog 86 #[rv] W (Got W K (l5, c5) (.string ⟨s.toArray⟩))) := hide (fun W rv hr hs => by have := getText_c K rv l4 c4 W hr (fun j hj => Nat.lt_of_lt_of_le (HKB0.out j hj) hs); rwa [e4] at this)
 have g0 : n0 < 2 ^ 64 := by have := rNum_lt b 0; rwa [e0] at this
 have g1 : n1 < 2 ^ 64 := by have := rNum_lt l1 c1; rwa [e1] at this
 have g2 : n2 < 2 ^ 64 := by have := rNum_lt l2 c2; rwa [e2] at this
 have g3 : n3 < 2 ^ 64 := by have := rNum_lt l3 c3; rwa [e3] at this
 have HFT : Hid (¬(n0 < 2 ^ 40 ∧ n1 < 2 ^ 40 ∧ 1 ≤ n3 ∧ n3 ≤ 4096 ∧ n2 < n3 ∧ s.length ≤ 96) → (prtRead b).fit = false) := hide (fun hx => by
  cases hf : (prtRead b).fit with
  | false => rfl
  | true => rw [HE.out] at hf; exact absurd ((Prt.fits _).1 hf) hx)
 obtain ⟨m0, hm0⟩ : ∃ m : Int, (n0 : Int) = m := ⟨_, rfl⟩
 obtain ⟨m1, hm1⟩ : ∃ m : Int, (n1 : Int) = m := ⟨_, rfl⟩
 obtain ⟨m2, hm2⟩ : ∃ m : Int, (n2 : Int) = m := ⟨_, rfl⟩
 obtain ⟨m3, hm3⟩ : ∃ m : Int, (n3 : Int) = m := ⟨_, rfl⟩
 have p0 : 0 ≤ m0 := by omega
 have p1 : 0 ≤ m1 := by omega
 have p2 : 0 ≤ m2 := by omega
 have p3 : 0 ≤ m3 := by omega
 have z0 : m0 ≤ 18446744073709551615 := by omega
 have z1 : m1 ≤ 18446744073709551615 := by omega
 have z2 : m2 ≤ 18446744073709551615 := by omega
 have z3 : m3 ≤ 18446744073709551615 := by omega
 have HM := hide (And.intro hm0 (And.intro hm1 (And.intro hm2 hm3)))
 rw [hm0] at HN0
 rw [hm1] at HN1
 rw [hm2] at HN2
 rw [hm3] at HN3
 obtain ⟨T, hT⟩ : ∃ T : ByteArray, T = ⟨s.toArray⟩ := ⟨_, rfl⟩
 have HTT := hide hT
 rw [← hT] at HN4
 obtain ⟨zs, hzs⟩ : ∃ zs : Int, (T.size : Int) = zs := ⟨_, rfl⟩
 have HTS : Hid (zs = (s.length : Int)) := hide (by rw [← hzs, hT, sv_size])
 clear hm0 hm1 hm2 hm3 g0 g1 g2 g3 e0 e1 e2 e3 e4 hT
 obtain ⟨A, m, c, rfl, _, _, _⟩ := h.formN
 clear h hl hK hv
 have HO := hide (Own.nil w [] (by simp))
 go_enter Tryz.func53, Tryz.ntmps53
 go_wp2_with fail
 have hs1 : (w.alloc (.cells #[.int .i64 0, .int .i64 0, .int .i64 0, .int .i64 0, .string ⟨#[]⟩] 99)).heap.size = w.heap.size + 1 := by simp
 have hO1 : Own w [] [(w.heap.size, 99, zpartC)] (w.alloc (.cells #[.int .i64 0, .int .i64 0, .int .i64 0, .int .i64 0, .string ⟨#[]⟩] 99)) := HO.out.push (Blk.new w _ _) ((Below.refl _ _).alloc (Nat.le_refl _) _)
 generalize w.alloc (.cells #[.int .i64 0, .int .i64 0, .int .i64 0, .int .i64 0, .string ⟨#[]⟩] 99) = wa at *
 have hO2 : Own w [] [(w.heap.size, 99, zpartC), (w.heap.size + 1, 132, [.slice A m c, .int .i64 0])] (wa.alloc (.cells #[.slice A m c, .int .i64 0] 132)) := by
  have := hO1.push (Blk.new wa _ _) ((Below.refl _ _).alloc (Nat.le_refl _) _) (t := 132) (cs := [.slice A m c, .int .i64 0])
  rw [hs1] at this
  exact this
 generalize wa.alloc (.cells #[.slice A m c, .int .i64 0] 132) = wb at *
 replace HO := hide hO2
 have HR := hide (HR0.out.step hO2.below)
 have HKB : Hid (∀ j, K = some j → j < w.heap.size + 1) := hide (fun j hj => Nat.lt_succ_of_lt (HKB0.out j hj))
 clear hO1 hO2 hs1 HR0
 generalize hb4 : w.heap.size + 1 = b4 at HO HKB ⊢
 generalize hb2 : w.heap.size = b2 at HO ⊢
 clear hb4
 refine (HN0.out _ _ HR.out).mono ?_
 rintro e w1 ⟨rv, he, ⟨v1, rfl, hbs, hkk⟩, hb⟩
 obtain ⟨A1, t1, q1, rfl⟩ := hbs.form2
 replace he : e = .returned (.tuple #[.agg #[.slice A1 t1 q1, .int .i64 c1], .int .u64 m0]) := he
 subst he
 replace HO := hide (HO.out.step hb)
 replace HR : Hid (RVal w1 K (.agg #[.slice A1 t1 q1, .int .i64 c1]) l1 c1) := hide ⟨_, rfl, hbs, hkk⟩
 clear hbs hkk hb HN0
 go_wp2_with (first
  | ((with_reducible refine at_store 132 (.tmp 4) ?_); refine wpList_store_own_t HO.out rfl 132 (.tmp 4) (.tmp 16) rfl 1 _ 0 _ _ ([.slice A1 t1 q1, .int .i64 c1]) ([.slice A1 t1 q1, .int .i64 c1]) rfl (.agg ([.slice A1 t1 q1, .int .i64 c1] : List Value).toArray) rfl rfl (fits_agg _) (by simp) (splice_all rfl) rrd_size rfl ?_; intro WA hO _ ht; replace HR := hide (HR.out.touch ht (fun j hj hm => by simp at hm; have := HKB.out j hj; omega)); replace HO := hide hO; clear hO ht)
  | ((with_reducible refine at_load 132 (.tmp 4) ?_); refine wpList_load_own HO.out rfl 132 (.tmp 4) rfl 1 _ 0 2 _ _ ([.slice A1 t1 q1, .int .i64 c1]) _ rfl (take_all rfl) rfl Tryz.underlying132 rfl rrd_size ?_))
 refine (HN1.out _ _ HR.out).mono ?_
 rintro e w2 ⟨rv, he, ⟨v2, rfl, hbs, hkk⟩, hb⟩
 obtain ⟨A2, t2, q2, rfl⟩ := hbs.form2
 replace he : e = .returned (.tuple #[.agg #[.slice A2 t2 q2, .int .i64 c2], .int .u64 m1]) := he
 subst he
 replace HO := hide (HO.out.step hb)
 replace HR : Hid (RVal w2 K (.agg #[.slice A2 t2 q2, .int .i64 c2]) l2 c2) := hide ⟨_, rfl, hbs, hkk⟩
 clear hbs hkk hb HN1
 go_wp2_with (first
  | ((with_reducible refine at_store 132 (.tmp 4) ?_); refine wpList_store_own_t HO.out rfl 132 (.tmp 4) (.tmp 21) rfl 1 _ 0 _ _ ([.slice A2 t2 q2, .int .i64 c2]) ([.slice A2 t2 q2, .int .i64 c2]) rfl (.agg ([.slice A2 t2 q2, .int .i64 c2] : List Value).toArray) rfl rfl (fits_agg _) (by simp) (splice_all rfl) rrd_size rfl ?_; intro WA hO _ ht; replace HR := hide (HR.out.touch ht (fun j hj hm => by simp at hm; have := HKB.out j hj; omega)); replace HO := hide hO; clear hO ht)
  | ((with_reducible refine at_load 132 (.tmp 4) ?_); refine wpList_load_own HO.out rfl 132 (.tmp 4) rfl 1 _ 0 2 _ _ ([.slice A2 t2 q2, .int .i64 c2]) _ rfl (take_all rfl) rfl Tryz.underlying132 rfl rrd_size ?_))
 refine (HN2.out _ _ HR.out).mono ?_
 rintro e w3 ⟨rv, he, ⟨v3, rfl, hbs, hkk⟩, hb⟩
 obtain ⟨A3, t3, q3, rfl⟩ := hbs.form2
 replace he : e = .returned (.tuple #[.agg #[.slice A3 t3 q3, .int .i64 c3], .int .u64 m2]) := he
 subst he
 replace HO := hide (HO.out.step hb)
 replace HR : Hid (RVal w3 K (.agg #[.slice A3 t3 q3, .int .i64 c3]) l3 c3) := hide ⟨_, rfl, hbs, hkk⟩
 clear hbs hkk hb HN2
 go_wp2_with (first
  | ((with_reducible refine at_store 132 (.tmp 4) ?_); refine wpList_store_own_t HO.out rfl 132 (.tmp 4) (.tmp 26) rfl 1 _ 0 _ _ ([.slice A3 t3 q3, .int .i64 c3]) ([.slice A3 t3 q3, .int .i64 c3]) rfl (.agg ([.slice A3 t3 q3, .int .i64 c3] : List Value).toArray) rfl rfl (fits_agg _) (by simp) (splice_all rfl) rrd_size rfl ?_; intro WA hO _ ht; replace HR := hide (HR.out.touch ht (fun j hj hm => by simp at hm; have := HKB.out j hj; omega)); replace HO := hide hO; clear hO ht)
  | ((with_reducible refine at_load 132 (.tmp 4) ?_); refine wpList_load_own HO.out rfl 132 (.tmp 4) rfl 1 _ 0 2 _ _ ([.slice A3 t3 q3, .int .i64 c3]) _ rfl (take_all rfl) rfl Tryz.underlying132 rfl rrd_size ?_))
 refine (HN3.out _ _ HR.out).mono ?_
 rintro e w4 ⟨rv, he, ⟨v4, rfl, hbs, hkk⟩, hb⟩
 obtain ⟨A4, t4, q4, rfl⟩ := hbs.form2
 replace he : e = .returned (.tuple #[.agg #[.slice A4 t4 q4, .int .i64 c4], .int .u64 m3]) := he
 subst he
 replace HO := hide (HO.out.step hb)
 replace HR : Hid (RVal w4 K (.agg #[.slice A4 t4 q4, .int .i64 c4]) l4 c4) := hide ⟨_, rfl, hbs, hkk⟩
 clear hbs hkk hb HN3
 go_wp2_with (first
  | ((with_reducible refine at_store 132 (.tmp 4) ?_); refine wpList_store_own_t HO.out rfl 132 (.tmp 4) (.tmp 31) rfl 1 _ 0 _ _ ([.slice A4 t4 q4, .int .i64 c4]) ([.slice A4 t4 q4, .int .i64 c4]) rfl (.agg ([.slice A4 t4 q4, .int .i64 c4] : List Value).toArray) rfl rfl (fits_agg _) (by simp) (splice_all rfl) rrd_size rfl ?_; intro WA hO _ ht; replace HR := hide (HR.out.touch ht (fun j hj hm => by simp at hm; have := HKB.out j hj; omega)); replace HO := hide hO; clear hO ht)
  | ((with_reducible refine at_load 132 (.tmp 4) ?_); refine wpList_load_own HO.out rfl 132 (.tmp 4) rfl 1 _ 0 2 _ _ ([.slice A4 t4 q4, .int .i64 c4]) _ rfl (take_all rfl) rfl Tryz.underlying132 rfl rrd_size ?_))
 refine (HN4.out _ _ HR.out HO.out.size).mono ?_
 rintro e w5 ⟨rv, he, ⟨v5, rfl, hbs, hkk⟩, hb⟩
 obtain ⟨A5, t5, q5, rfl⟩ := hbs.form2
 replace he : e = .returned (.tuple #[.agg #[.slice A5 t5 q5, .int .i64 c5], .string T]) := he
 subst he
 replace HO := hide (HO.out.step hb)
 replace HR : Hid (RVal w5 K (.agg #[.slice A5 t5 q5, .int .i64 c5]) l5 c5) := hide ⟨_, rfl, hbs, hkk⟩
 clear hbs hkk hb HN4
 by_cases hc5 : c5 = 0
 ·have hcb : (c5 != 0) = false := by simp [hc5]
  clear hc5
  by_cases hq0 : 1099511627776 ≤ m0
  ·have hd0 : decide (1099511627776 ≤ m0) = true := by simpa using hq0
   have HQ0 := hide hq0
   clear hq0
   have HOK : Hid (prtOk b = false) := hide (prtOk_not (HFT.out (by have := HTS.out; have := HM.out; have := HQ0.out; omega)))
   go_wp2_with (first
    | ((with_reducible refine at_store 132 (.tmp 4) ?_); refine wpList_store_own_t HO.out rfl 132 (.tmp 4) (.tmp 36) rfl 1 _ 0 _ _ ([.slice A5 t5 q5, .int .i64 c5]) ([.slice A5 t5 q5, .int .i64 c5]) rfl (.agg ([.slice A5 t5 q5, .int .i64 c5] : List Value).toArray) rfl rfl (fits_agg _) (by simp) (splice_all rfl) rrd_size rfl ?_; intro WA hO _ ht; replace HR := hide (HR.out.touch ht (fun j hj hm => by simp at hm; have := HKB.out j hj; omega)); replace HO := hide hO; clear hO ht; have k1 := HO.out.cells 1 rfl)
    | ((with_reducible refine at_store 99 (.tmp 2) ?_); refine wpList_store_own HO.out rfl 99 (.tmp 2) (.tmp 87) rfl 0 _ 0 _ _ (zpartC) (zpartC) rfl (.agg (zpartC).toArray) rfl rfl (fits_agg _) (by decide) (splice_all rfl) rpart_size rfl ?_; intro WA hO; replace HO := hide hO; clear hO))
   refine bodyPost_ret (v := .tuple #[.agg zpartC.toArray, .bool false]) (results_row_tmp rfl _ _ b2 99 zpartC.toArray (0, 0) _ _ rfl rfl (HO.out.blk 0 rfl) Tryz.underlying99 rfl rpart_size2) rfl ?_
   exact ⟨zpart, by rw [HOK.out]; rfl, (fun h => by rw [HOK.out] at h; cases h), HO.out.below⟩
  ·have hd0 : decide (1099511627776 ≤ m0) = false := by simpa using hq0
   have HQ0 := hide hq0
   clear hq0
   by_cases hq1 : 1099511627776 ≤ m1
   ·have hd1 : decide (1099511627776 ≤ m1) = true := by simpa using hq1
    have HQ1 := hide hq1
    clear hq1
    have HOK : Hid (prtOk b = false) := hide (prtOk_not (HFT.out (by have := HTS.out; have := HM.out; have := HQ0.out; have := HQ1.out; omega)))
    go_wp2_with (first
     | ((with_reducible refine at_store 132 (.tmp 4) ?_); refine wpList_store_own_t HO.out rfl 132 (.tmp 4) (.tmp 36) rfl 1 _ 0 _ _ ([.slice A5 t5 q5, .int .i64 c5]) ([.slice A5 t5 q5, .int .i64 c5]) rfl (.agg ([.slice A5 t5 q5, .int .i64 c5] : List Value).toArray) rfl rfl (fits_agg _) (by simp) (splice_all rfl) rrd_size rfl ?_; intro WA hO _ ht; replace HR := hide (HR.out.touch ht (fun j hj hm => by simp at hm; have := HKB.out j hj; omega)); replace HO := hide hO; clear hO ht; have k1 := HO.out.cells 1 rfl)
     | ((with_reducible refine at_store 99 (.tmp 2) ?_); refine wpList_store_own HO.out rfl 99 (.tmp 2) (.tmp 87) rfl 0 _ 0 _ _ (zpartC) (zpartC) rfl (.agg (zpartC).toArray) rfl rfl (fits_agg _) (by decide) (splice_all rfl) rpart_size rfl ?_; intro WA hO; replace HO := hide hO; clear hO))
    refine bodyPost_ret (v := .tuple #[.agg zpartC.toArray, .bool false]) (results_row_tmp rfl _ _ b2 99 zpartC.toArray (0, 0) _ _ rfl rfl (HO.out.blk 0 rfl) Tryz.underlying99 rfl rpart_size2) rfl ?_
    exact ⟨zpart, by rw [HOK.out]; rfl, (fun h => by rw [HOK.out] at h; cases h), HO.out.below⟩
   ·have hd1 : decide (1099511627776 ≤ m1) = false := by simpa using hq1
    have HQ1 := hide hq1
    clear hq1
    by_cases hq2 : m3 < 1
    ·have hd2 : decide (m3 < 1) = true := by simpa using hq2
     have HQ2 := hide hq2
     clear hq2
     have HOK : Hid (prtOk b = false) := hide (prtOk_not (HFT.out (by have := HTS.out; have := HM.out; have := HQ0.out; have := HQ1.out; have := HQ2.out; omega)))
     go_wp2_with (first
      | ((with_reducible refine at_store 132 (.tmp 4) ?_); refine wpList_store_own_t HO.out rfl 132 (.tmp 4) (.tmp 36) rfl 1 _ 0 _ _ ([.slice A5 t5 q5, .int .i64 c5]) ([.slice A5 t5 q5, .int .i64 c5]) rfl (.agg ([.slice A5 t5 q5, .int .i64 c5] : List Value).toArray) rfl rfl (fits_agg _) (by simp) (splice_all rfl) rrd_size rfl ?_; intro WA hO _ ht; replace HR := hide (HR.out.touch ht (fun j hj hm => by simp at hm; have := HKB.out j hj; omega)); replace HO := hide hO; clear hO ht; have k1 := HO.out.cells 1 rfl)
      | ((with_reducible refine at_store 99 (.tmp 2) ?_); refine wpList_store_own HO.out rfl 99 (.tmp 2) (.tmp 87) rfl 0 _ 0 _ _ (zpartC) (zpartC) rfl (.agg (zpartC).toArray) rfl rfl (fits_agg _) (by decide) (splice_all rfl) rpart_size rfl ?_; intro WA hO; replace HO := hide hO; clear hO))
     refine bodyPost_ret (v := .tuple #[.agg zpartC.toArray, .bool false]) (results_row_tmp rfl _ _ b2 99 zpartC.toArray (0, 0) _ _ rfl rfl (HO.out.blk 0 rfl) Tryz.underlying99 rfl rpart_size2) rfl ?_
     exact ⟨zpart, by rw [HOK.out]; rfl, (fun h => by rw [HOK.out] at h; cases h), HO.out.below⟩
    ·have hd2 : decide (m3 < 1) = false := by simpa using hq2
     have HQ2 := hide hq2
     clear hq2
     by_cases hq3 : 4096 < m3
     ·have hd3 : decide (4096 < m3) = true := by simpa using hq3
      have HQ3 := hide hq3
      clear hq3
      have HOK : Hid (prtOk b = false) := hide (prtOk_not (HFT.out (by have := HTS.out; have := HM.out; have := HQ0.out; have := HQ1.out; have := HQ2.out; have := HQ3.out; omega)))
      go_wp2_with (first
       | ((with_reducible refine at_store 132 (.tmp 4) ?_); refine wpList_store_own_t HO.out rfl 132 (.tmp 4) (.tmp 36) rfl 1 _ 0 _ _ ([.slice A5 t5 q5, .int .i64 c5]) ([.slice A5 t5 q5, .int .i64 c5]) rfl (.agg ([.slice A5 t5 q5, .int .i64 c5] : List Value).toArray) rfl rfl (fits_agg _) (by simp) (splice_all rfl) rrd_size rfl ?_; intro WA hO _ ht; replace HR := hide (HR.out.touch ht (fun j hj hm => by simp at hm; have := HKB.out j hj; omega)); replace HO := hide hO; clear hO ht; have k1 := HO.out.cells 1 rfl)
       | ((with_reducible refine at_store 99 (.tmp 2) ?_); refine wpList_store_own HO.out rfl 99 (.tmp 2) (.tmp 87) rfl 0 _ 0 _ _ (zpartC) (zpartC) rfl (.agg (zpartC).toArray) rfl rfl (fits_agg _) (by decide) (splice_all rfl) rpart_size rfl ?_; intro WA hO; replace HO := hide hO; clear hO))
      refine bodyPost_ret (v := .tuple #[.agg zpartC.toArray, .bool false]) (results_row_tmp rfl _ _ b2 99 zpartC.toArray (0, 0) _ _ rfl rfl (HO.out.blk 0 rfl) Tryz.underlying99 rfl rpart_size2) rfl ?_
      exact ⟨zpart, by rw [HOK.out]; rfl, (fun h => by rw [HOK.out] at h; cases h), HO.out.below⟩
     ·have hd3 : decide (4096 < m3) = false := by simpa using hq3
      have HQ3 := hide hq3
      clear hq3
      by_cases hq4 : m3 ≤ m2
      ·have hd4 : decide (m3 ≤ m2) = true := by simpa using hq4
       have HQ4 := hide hq4
       clear hq4
       have HOK : Hid (prtOk b = false) := hide (prtOk_not (HFT.out (by have := HTS.out; have := HM.out; have := HQ0.out; have := HQ1.out; have := HQ2.out; have := HQ3.out; have := HQ4.out; omega)))
       go_wp2_with (first
        | ((with_reducible refine at_store 132 (.tmp 4) ?_); refine wpList_store_own_t HO.out rfl 132 (.tmp 4) (.tmp 36) rfl 1 _ 0 _ _ ([.slice A5 t5 q5, .int .i64 c5]) ([.slice A5 t5 q5, .int .i64 c5]) rfl (.agg ([.slice A5 t5 q5, .int .i64 c5] : List Value).toArray) rfl rfl (fits_agg _) (by simp) (splice_all rfl) rrd_size rfl ?_; intro WA hO _ ht; replace HR := hide (HR.out.touch ht (fun j hj hm => by simp at hm; have := HKB.out j hj; omega)); replace HO := hide hO; clear hO ht; have k1 := HO.out.cells 1 rfl)
        | ((with_reducible refine at_store 99 (.tmp 2) ?_); refine wpList_store_own HO.out rfl 99 (.tmp 2) (.tmp 87) rfl 0 _ 0 _ _ (zpartC) (zpartC) rfl (.agg (zpartC).toArray) rfl rfl (fits_agg _) (by decide) (splice_all rfl) rpart_size rfl ?_; intro WA hO; replace HO := hide hO; clear hO))
       refine bodyPost_ret (v := .tuple #[.agg zpartC.toArray, .bool false]) (results_row_tmp rfl _ _ b2 99 zpartC.toArray (0, 0) _ _ rfl rfl (HO.out.blk 0 rfl) Tryz.underlying99 rfl rpart_size2) rfl ?_
       exact ⟨zpart, by rw [HOK.out]; rfl, (fun h => by rw [HOK.out] at h; cases h), HO.out.below⟩
      ·have hd4 : decide (m3 ≤ m2) = false := by simpa using hq4
       have HQ4 := hide hq4
       clear hq4
       by_cases hq5 : 96 < zs
       ·have hd5 : decide (96 < zs) = true := by simpa using hq5
        have HQ5 := hide hq5
        clear hq5
        have HOK : Hid (prtOk b = false) := hide (prtOk_not (HFT.out (by have := HTS.out; have := HM.out; have := HQ0.out; have := HQ1.out; have := HQ2.out; have := HQ3.out; have := HQ4.out; have := HQ5.out; omega)))
        go_wp2_with (first
         | ((with_reducible refine at_store 132 (.tmp 4) ?_); refine wpList_store_own_t HO.out rfl 132 (.tmp 4) (.tmp 36) rfl 1 _ 0 _ _ ([.slice A5 t5 q5, .int .i64 c5]) ([.slice A5 t5 q5, .int .i64 c5]) rfl (.agg ([.slice A5 t5 q5, .int .i64 c5] : List Value).toArray) rfl rfl (fits_agg _) (by simp) (splice_all rfl) rrd_size rfl ?_; intro WA hO _ ht; replace HR := hide (HR.out.touch ht (fun j hj hm => by simp at hm; have := HKB.out j hj; omega)); replace HO := hide hO; clear hO ht; have k1 := HO.out.cells 1 rfl)
         | ((with_reducible refine at_store 99 (.tmp 2) ?_); refine wpList_store_own HO.out rfl 99 (.tmp 2) (.tmp 87) rfl 0 _ 0 _ _ (zpartC) (zpartC) rfl (.agg (zpartC).toArray) rfl rfl (fits_agg _) (by decide) (splice_all rfl) rpart_size rfl ?_; intro WA hO; replace HO := hide hO; clear hO))
        refine bodyPost_ret (v := .tuple #[.agg zpartC.toArray, .bool false]) (results_row_tmp rfl _ _ b2 99 zpartC.toArray (0, 0) _ _ rfl rfl (HO.out.blk 0 rfl) Tryz.underlying99 rfl rpart_size2) rfl ?_
        exact ⟨zpart, by rw [HOK.out]; rfl, (fun h => by rw [HOK.out] at h; cases h), HO.out.below⟩
       ·have hd5 : decide (96 < zs) = false := by simpa using hq5
        have HQ5 := hide hq5
        clear hq5
        have HFI : Hid ((prtRead b).fit = true) := hide (by have := HM.out; have := HTS.out; have := HQ5.out; have := HQ4.out; have := HQ3.out; have := HQ2.out; have := HQ1.out; have := HQ0.out; rw [HE.out]; exact (Prt.fits _).2 (by dsimp only; omega))
        have y0 : m0 ≤ 1099511627775 := by have := HQ0.out; omega
        have y1 : m1 ≤ 1099511627775 := by have := HQ1.out; omega
        have y3 : m3 ≤ 4096 := by have := HQ3.out; omega
        have y2 : m2 ≤ 4096 := by have := HQ4.out; omega
        have y4 : 1 ≤ m3 := by have := HQ2.out; omega
        have w2 : IntKind.u64.wrap (m2 + 1) = m2 + 1 := IntWalk.u64_in _ (by omega)
        by_cases hq6 : m2 + 1 < m3
        ·have hd6 : decide (m2 + 1 < m3) = true := by simpa using hq6
         have HQ6 := hide hq6
         clear hq6
         by_cases hq7 : zs < 96
         ·have hd7 : decide (zs < 96) = true := by simpa using hq7
          have HQ7 := hide hq7
          clear hq7
          have HOK : Hid (prtOk b = false) := hide (prtOk_nfull (full_no HE.out (by have := HM.out; have := HTS.out; have := HQ6.out; have := HQ7.out; omega)))
          go_wp2_with (first
           | ((with_reducible refine at_store 132 (.tmp 4) ?_); refine wpList_store_own_t HO.out rfl 132 (.tmp 4) (.tmp 36) rfl 1 _ 0 _ _ ([.slice A5 t5 q5, .int .i64 c5]) ([.slice A5 t5 q5, .int .i64 c5]) rfl (.agg ([.slice A5 t5 q5, .int .i64 c5] : List Value).toArray) rfl rfl (fits_agg _) (by simp) (splice_all rfl) rrd_size rfl ?_; intro WA hO _ ht; replace HR := hide (HR.out.touch ht (fun j hj hm => by simp at hm; have := HKB.out j hj; omega)); replace HO := hide hO; clear hO ht; have k1 := HO.out.cells 1 rfl)
           | ((with_reducible refine at_store 99 (.tmp 2) ?_); refine wpList_store_own HO.out rfl 99 (.tmp 2) (.tmp 87) rfl 0 _ 0 _ _ (zpartC) (zpartC) rfl (.agg (zpartC).toArray) rfl rfl (fits_agg _) (by decide) (splice_all rfl) rpart_size rfl ?_; intro WA hO; replace HO := hide hO; clear hO))
          refine bodyPost_ret (v := .tuple #[.agg zpartC.toArray, .bool false]) (results_row_tmp rfl _ _ b2 99 zpartC.toArray (0, 0) _ _ rfl rfl (HO.out.blk 0 rfl) Tryz.underlying99 rfl rpart_size2) rfl ?_
          exact ⟨zpart, by rw [HOK.out]; rfl, (fun h => by rw [HOK.out] at h; cases h), HO.out.below⟩
         ·have hd7 : decide (zs < 96) = false := by simpa using hq7
          have HQ7 := hide hq7
          clear hq7
          by_cases hq8 : 1 < m3
          ·have hd8 : decide (1 < m3) = true := by simpa using hq8
           have HQ8 := hide hq8
           clear hq8
           by_cases hq9 : zs = 0
           ·have hd9 : (zs == 0) = true := by simpa using hq9
            have HQ9 := hide hq9
            clear hq9
            have HOK : Hid (prtOk b = false) := hide (prtOk_nfull (full_no HE.out (by have := HM.out; have := HTS.out; have := HQ8.out; have := HQ9.out; omega)))
            go_wp2_with (first
             | ((with_reducible refine at_store 132 (.tmp 4) ?_); refine wpList_store_own_t HO.out rfl 132 (.tmp 4) (.tmp 36) rfl 1 _ 0 _ _ ([.slice A5 t5 q5, .int .i64 c5]) ([.slice A5 t5 q5, .int .i64 c5]) rfl (.agg ([.slice A5 t5 q5, .int .i64 c5] : List Value).toArray) rfl rfl (fits_agg _) (by simp) (splice_all rfl) rrd_size rfl ?_; intro WA hO _ ht; replace HR := hide (HR.out.touch ht (fun j hj hm => by simp at hm; have := HKB.out j hj; omega)); replace HO := hide hO; clear hO ht; have k1 := HO.out.cells 1 rfl)
             | ((with_reducible refine at_store 99 (.tmp 2) ?_); refine wpList_store_own HO.out rfl 99 (.tmp 2) (.tmp 87) rfl 0 _ 0 _ _ (zpartC) (zpartC) rfl (.agg (zpartC).toArray) rfl rfl (fits_agg _) (by decide) (splice_all rfl) rpart_size rfl ?_; intro WA hO; replace HO := hide hO; clear hO))
            refine bodyPost_ret (v := .tuple #[.agg zpartC.toArray, .bool false]) (results_row_tmp rfl _ _ b2 99 zpartC.toArray (0, 0) _ _ rfl rfl (HO.out.blk 0 rfl) Tryz.underlying99 rfl rpart_size2) rfl ?_
            exact ⟨zpart, by rw [HOK.out]; rfl, (fun h => by rw [HOK.out] at h; cases h), HO.out.below⟩
           ·have hd9 : (zs == 0) = false := by simpa using hq9
            have HQ9 := hide hq9
            clear hq9
            have HFU : Hid ((prtRead b).full = true) := hide (full_yes HE.out (by have := HM.out; have := HTS.out; have := HQ6.out; have := HQ7.out; have := HQ5.out; have := HQ8.out; have := HQ9.out; omega))
            obtain ⟨P, hP⟩ : ∃ P, prtPage (prtRead b) = P := ⟨_, rfl⟩
            have HOK : Hid (prtOk b = (P == b)) := hide (by rw [← hP]; exact prtOk_full HFI.out HFU.out)
            have HPV : Hid (Value.agg ([.int .i64 m0, .int .i64 m1, .int .i64 m2, .int .i64 m3, .string T] : List Value).toArray = pv (prtRead b)) := hide (by rw [HE.out, HTT.out]; unfold pv sv; rw [← HM.out.1, ← HM.out.2.1, ← HM.out.2.2.1, ← HM.out.2.2.2])
            have HBY : Hid (∀ W, Calls Tryz.prog 42 #[.int .i64 m0, .int .i64 m1, .int .i64 m2, .int .i64 m3, .string T] W (Fresh W P)) := hide (fun W => by rw [← hP]; have := rpart_c (prtRead b) (Prt.small_of HFI.out) W; rw [HE.out] at this ⊢; dsimp only at this; rw [HTT.out, ← HM.out.1, ← HM.out.2.1, ← HM.out.2.2.1, ← HM.out.2.2.2]; exact this)
            clear hP
            go_wp2_with (first
             | ((with_reducible refine at_store 132 (.tmp 4) ?_); refine wpList_store_own_t HO.out rfl 132 (.tmp 4) (.tmp 36) rfl 1 _ 0 _ _ ([.slice A5 t5 q5, .int .i64 c5]) ([.slice A5 t5 q5, .int .i64 c5]) rfl (.agg ([.slice A5 t5 q5, .int .i64 c5] : List Value).toArray) rfl rfl (fits_agg _) (by simp) (splice_all rfl) rrd_size rfl ?_; intro WA hO _ ht; replace HR := hide (HR.out.touch ht (fun j hj hm => by simp at hm; have := HKB.out j hj; omega)); replace HO := hide hO; clear hO ht; have k1 := HO.out.cells 1 rfl)
             | ((with_reducible refine at_alloc 99 ?_); refine wpList_alloc_own HO.out rfl 99 rfl (zpartC) rpart_info ?_; intro WA b10 hO; replace HO := hide hO; clear hO)
             | ((with_reducible refine at_store 99 (.tmp 10) ?_); refine wpList_store_own HO.out rfl 99 (.tmp 10) (.tmp 97) rfl 2 _ 0 _ _ ([.int .i64 m0, .int .i64 m1, .int .i64 m2, .int .i64 m3, .string T]) ([.int .i64 m0, .int .i64 m1, .int .i64 m2, .int .i64 m3, .string T]) rfl (.agg ([.int .i64 m0, .int .i64 m1, .int .i64 m2, .int .i64 m3, .string T]).toArray) rfl rfl (fits_agg _) (by simp [zpartC]) (splice_all rfl) rpart_size rfl ?_; intro WA hO; replace HO := hide hO; clear hO))
            obtain ⟨bo, hbo⟩ : ∃ x, (P == b) = x := ⟨_, rfl⟩
            have HBO := hide hbo
            refine wp_region_held_drew (S := fun W => (∀ j, W.cell? ⟨b10, j, none⟩ = ([.int .i64 m0, .int .i64 m1, .int .i64 m2, .int .i64 m3, .string T] : List Value)[j]?) ∧ (convert 35 9 (.slice A m c)).run Tryz.prog W = .ok (.string ⟨b.toArray⟩) W) (by kernel_rfl) (⟨HO.out.drew.cells 2 rfl, run_string_bs (H.out.step HO.out.drew.below)⟩) (fun hS0 => ?_)
            replace HO := hide HO.out.drew
            refine ty 0 (.agg ([.int .i64 m0, .int .i64 m1, .int .i64 m2, .int .i64 m3, .string T] : List Value).toArray) rfl (yieldsIf_load rfl 99 (.tmp 10) rfl b10 0 5 99 ([.int .i64 m0, .int .i64 m1, .int .i64 m2, .int .i64 m3, .string T]) ([.int .i64 m0, .int .i64 m1, .int .i64 m2, .int .i64 m3, .string T]) _ (fun w hw => hw.1) (take_all rfl) rfl Tryz.underlying99 rfl rpart_size) ?_
            refine tk 1 ?_
            refine tk 2 ?_
            refine tk 3 ?_
            refine tk 4 ?_
            refine tk 5 ?_
            refine tk 6 ?_
            refine tk 7 ?_
            refine tk 8 ?_
            refine tk 9 ?_
            refine tk 12 ?_
            refine tk 13 ?_
            refine tr1 10 fun K hK => ?_
            go_simp
            refine (HBY.out _).mono ?_
            rintro e w5 ⟨v5, rfl, ho5, hb5⟩
            have HOP := HO; replace HO := hide (HO.out.step hb5)
            have HO5 := hide ho5.bs; have HOB : Hid (∀ j, v5.ownBlock = some j → b2 < j) := hide (fun j hj => by have h1 := (ho5.lt j hj).1; have h2 := (HOP.out.blk 0 rfl).lt; omega)
            clear ho5 hb5 HOP
            refine hK.out _ _ (⟨HO.out.cells 2 rfl, run_string_bs (H.out.step HO.out.below)⟩) (fun hS12 => ?_)
            clear hK K
            refine heldMono (S' := (fun W => ((∀ j, W.cell? ⟨b10, j, none⟩ = ([.int .i64 m0, .int .i64 m1, .int .i64 m2, .int .i64 m3, .string T] : List Value)[j]?) ∧ (convert 35 9 (.slice A m c)).run Tryz.prog W = .ok (.string ⟨b.toArray⟩) W) ∧ (convert 35 9 v5).run Tryz.prog W = .ok (.string ⟨P.toArray⟩) W)) (fun _ h => h.1) _ _ _ _ ?_
            have hT12 : (fun W => ((∀ j, W.cell? ⟨b10, j, none⟩ = ([.int .i64 m0, .int .i64 m1, .int .i64 m2, .int .i64 m3, .string T] : List Value)[j]?) ∧ (convert 35 9 (.slice A m c)).run Tryz.prog W = .ok (.string ⟨b.toArray⟩) W) ∧ (convert 35 9 v5).run Tryz.prog W = .ok (.string ⟨P.toArray⟩) W) _ := ⟨⟨HO.out.cells 2 rfl, run_string_bs (H.out.step HO.out.below)⟩, run_string_bs HO5.out⟩
            try simp only [Act.put, qa, qb, qc, qd, qe, qf]
            refine tk 11 ?_
            refine tk 14 ?_
            refine tr1 15 fun K hK => ?_
            refine step_store_own_t HO.out rfl 99 (.tmp 2) (.tmp 98) rfl 0 _ 0 _ _ ([.int .i64 m0, .int .i64 m1, .int .i64 m2, .int .i64 m3, .string T]) ([.int .i64 m0, .int .i64 m1, .int .i64 m2, .int .i64 m3, .string T]) rfl (.agg ([.int .i64 m0, .int .i64 m1, .int .i64 m2, .int .i64 m3, .string T]).toArray) rfl rfl (fits_agg _) (by simp [zpartC]) (splice_all rfl) rpart_size rfl ?_
            intro WA hO _ ht
            have HO5 := hide (HO5.out.touch ht (fun j hj hm => by simp at hm; have := HOB.out j hj; omega))
            replace HO := hide hO
            clear hO ht
            refine hK.out _ _ (⟨⟨HO.out.cells 2 rfl, run_string_bs (H.out.step HO.out.below)⟩, run_string_bs HO5.out⟩) (fun hS15 => ?_)
            clear hK K
            try simp only [Act.put, qa, qb, qc, qd, qe, qf]
            refine tk 16 ?_
            refine wpAnyH_done (by kernel_rfl) ?_ _
            go_wp2_with fail
            refine bodyPost_ret (v := .tuple #[.agg ([.int .i64 m0, .int .i64 m1, .int .i64 m2, .int .i64 m3, .string T] : List Value).toArray, .bool bo]) (results_row_tmp rfl _ _ b2 99 ([.int .i64 m0, .int .i64 m1, .int .i64 m2, .int .i64 m3, .string T] : List Value).toArray (0, 0) _ _ rfl rfl (HO.out.blk 0 rfl) Tryz.underlying99 rfl rpart_size2) rfl ?_
            exact ⟨prtRead b, by rw [← HPV.out, HOK.out, HBO.out], fun _ => rfl, HO.out.below⟩
          ·have hd8 : decide (1 < m3) = false := by simpa using hq8
           have HQ8 := hide hq8
           clear hq8
           have HFU : Hid ((prtRead b).full = true) := hide (full_yes HE.out (by have := HM.out; have := HTS.out; have := HQ6.out; have := HQ7.out; have := HQ5.out; have := HQ8.out; have := HQ2.out; omega))
           obtain ⟨P, hP⟩ : ∃ P, prtPage (prtRead b) = P := ⟨_, rfl⟩
           have HOK : Hid (prtOk b = (P == b)) := hide (by rw [← hP]; exact prtOk_full HFI.out HFU.out)
           have HPV : Hid (Value.agg ([.int .i64 m0, .int .i64 m1, .int .i64 m2, .int .i64 m3, .string T] : List Value).toArray = pv (prtRead b)) := hide (by rw [HE.out, HTT.out]; unfold pv sv; rw [← HM.out.1, ← HM.out.2.1, ← HM.out.2.2.1, ← HM.out.2.2.2])
           have HBY : Hid (∀ W, Calls Tryz.prog 42 #[.int .i64 m0, .int .i64 m1, .int .i64 m2, .int .i64 m3, .string T] W (Fresh W P)) := hide (fun W => by rw [← hP]; have := rpart_c (prtRead b) (Prt.small_of HFI.out) W; rw [HE.out] at this ⊢; dsimp only at this; rw [HTT.out, ← HM.out.1, ← HM.out.2.1, ← HM.out.2.2.1, ← HM.out.2.2.2]; exact this)
           clear hP
           go_wp2_with (first
            | ((with_reducible refine at_store 132 (.tmp 4) ?_); refine wpList_store_own_t HO.out rfl 132 (.tmp 4) (.tmp 36) rfl 1 _ 0 _ _ ([.slice A5 t5 q5, .int .i64 c5]) ([.slice A5 t5 q5, .int .i64 c5]) rfl (.agg ([.slice A5 t5 q5, .int .i64 c5] : List Value).toArray) rfl rfl (fits_agg _) (by simp) (splice_all rfl) rrd_size rfl ?_; intro WA hO _ ht; replace HR := hide (HR.out.touch ht (fun j hj hm => by simp at hm; have := HKB.out j hj; omega)); replace HO := hide hO; clear hO ht; have k1 := HO.out.cells 1 rfl)
            | ((with_reducible refine at_alloc 99 ?_); refine wpList_alloc_own HO.out rfl 99 rfl (zpartC) rpart_info ?_; intro WA b10 hO; replace HO := hide hO; clear hO)
            | ((with_reducible refine at_store 99 (.tmp 10) ?_); refine wpList_store_own HO.out rfl 99 (.tmp 10) (.tmp 97) rfl 2 _ 0 _ _ ([.int .i64 m0, .int .i64 m1, .int .i64 m2, .int .i64 m3, .string T]) ([.int .i64 m0, .int .i64 m1, .int .i64 m2, .int .i64 m3, .string T]) rfl (.agg ([.int .i64 m0, .int .i64 m1, .int .i64 m2, .int .i64 m3, .string T]).toArray) rfl rfl (fits_agg _) (by simp [zpartC]) (splice_all rfl) rpart_size rfl ?_; intro WA hO; replace HO := hide hO; clear hO))
           obtain ⟨bo, hbo⟩ : ∃ x, (P == b) = x := ⟨_, rfl⟩
           have HBO := hide hbo
           refine wp_region_held_drew (S := fun W => (∀ j, W.cell? ⟨b10, j, none⟩ = ([.int .i64 m0, .int .i64 m1, .int .i64 m2, .int .i64 m3, .string T] : List Value)[j]?) ∧ (convert 35 9 (.slice A m c)).run Tryz.prog W = .ok (.string ⟨b.toArray⟩) W) (by kernel_rfl) (⟨HO.out.drew.cells 2 rfl, run_string_bs (H.out.step HO.out.drew.below)⟩) (fun hS0 => ?_)
           replace HO := hide HO.out.drew
           refine ty 0 (.agg ([.int .i64 m0, .int .i64 m1, .int .i64 m2, .int .i64 m3, .string T] : List Value).toArray) rfl (yieldsIf_load rfl 99 (.tmp 10) rfl b10 0 5 99 ([.int .i64 m0, .int .i64 m1, .int .i64 m2, .int .i64 m3, .string T]) ([.int .i64 m0, .int .i64 m1, .int .i64 m2, .int .i64 m3, .string T]) _ (fun w hw => hw.1) (take_all rfl) rfl Tryz.underlying99 rfl rpart_size) ?_
           refine tk 1 ?_
           refine tk 2 ?_
           refine tk 3 ?_
           refine tk 4 ?_
           refine tk 5 ?_
           refine tk 6 ?_
           refine tk 7 ?_
           refine tk 8 ?_
           refine tk 9 ?_
           refine tk 12 ?_
           refine tk 13 ?_
           refine tr1 10 fun K hK => ?_
           go_simp
           refine (HBY.out _).mono ?_
           rintro e w5 ⟨v5, rfl, ho5, hb5⟩
           have HOP := HO; replace HO := hide (HO.out.step hb5)
           have HO5 := hide ho5.bs; have HOB : Hid (∀ j, v5.ownBlock = some j → b2 < j) := hide (fun j hj => by have h1 := (ho5.lt j hj).1; have h2 := (HOP.out.blk 0 rfl).lt; omega)
           clear ho5 hb5 HOP
           refine hK.out _ _ (⟨HO.out.cells 2 rfl, run_string_bs (H.out.step HO.out.below)⟩) (fun hS12 => ?_)
           clear hK K
           refine heldMono (S' := (fun W => ((∀ j, W.cell? ⟨b10, j, none⟩ = ([.int .i64 m0, .int .i64 m1, .int .i64 m2, .int .i64 m3, .string T] : List Value)[j]?) ∧ (convert 35 9 (.slice A m c)).run Tryz.prog W = .ok (.string ⟨b.toArray⟩) W) ∧ (convert 35 9 v5).run Tryz.prog W = .ok (.string ⟨P.toArray⟩) W)) (fun _ h => h.1) _ _ _ _ ?_
           have hT12 : (fun W => ((∀ j, W.cell? ⟨b10, j, none⟩ = ([.int .i64 m0, .int .i64 m1, .int .i64 m2, .int .i64 m3, .string T] : List Value)[j]?) ∧ (convert 35 9 (.slice A m c)).run Tryz.prog W = .ok (.string ⟨b.toArray⟩) W) ∧ (convert 35 9 v5).run Tryz.prog W = .ok (.string ⟨P.toArray⟩) W) _ := ⟨⟨HO.out.cells 2 rfl, run_string_bs (H.out.step HO.out.below)⟩, run_string_bs HO5.out⟩
           try simp only [Act.put, qa, qb, qc, qd, qe, qf]
           refine tk 11 ?_
           refine tk 14 ?_
           refine tr1 15 fun K hK => ?_
           refine step_store_own_t HO.out rfl 99 (.tmp 2) (.tmp 98) rfl 0 _ 0 _ _ ([.int .i64 m0, .int .i64 m1, .int .i64 m2, .int .i64 m3, .string T]) ([.int .i64 m0, .int .i64 m1, .int .i64 m2, .int .i64 m3, .string T]) rfl (.agg ([.int .i64 m0, .int .i64 m1, .int .i64 m2, .int .i64 m3, .string T]).toArray) rfl rfl (fits_agg _) (by simp [zpartC]) (splice_all rfl) rpart_size rfl ?_
           intro WA hO _ ht
           have HO5 := hide (HO5.out.touch ht (fun j hj hm => by simp at hm; have := HOB.out j hj; omega))
           replace HO := hide hO
           clear hO ht
           refine hK.out _ _ (⟨⟨HO.out.cells 2 rfl, run_string_bs (H.out.step HO.out.below)⟩, run_string_bs HO5.out⟩) (fun hS15 => ?_)
           clear hK K
           try simp only [Act.put, qa, qb, qc, qd, qe, qf]
           refine tk 16 ?_
           refine wpAnyH_done (by kernel_rfl) ?_ _
           go_wp2_with fail
           refine bodyPost_ret (v := .tuple #[.agg ([.int .i64 m0, .int .i64 m1, .int .i64 m2, .int .i64 m3, .string T] : List Value).toArray, .bool bo]) (results_row_tmp rfl _ _ b2 99 ([.int .i64 m0, .int .i64 m1, .int .i64 m2, .int .i64 m3, .string T] : List Value).toArray (0, 0) _ _ rfl rfl (HO.out.blk 0 rfl) Tryz.underlying99 rfl rpart_size2) rfl ?_
           exact ⟨prtRead b, by rw [← HPV.out, HOK.out, HBO.out], fun _ => rfl, HO.out.below⟩
        ·have hd6 : decide (m2 + 1 < m3) = false := by simpa using hq6
         have HQ6 := hide hq6
         clear hq6
         by_cases hq8 : 1 < m3
         ·have hd8 : decide (1 < m3) = true := by simpa using hq8
          have HQ8 := hide hq8
          clear hq8
          by_cases hq9 : zs = 0
          ·have hd9 : (zs == 0) = true := by simpa using hq9
           have HQ9 := hide hq9
           clear hq9
           have HOK : Hid (prtOk b = false) := hide (prtOk_nfull (full_no HE.out (by have := HM.out; have := HTS.out; have := HQ8.out; have := HQ9.out; omega)))
           go_wp2_with (first
            | ((with_reducible refine at_store 132 (.tmp 4) ?_); refine wpList_store_own_t HO.out rfl 132 (.tmp 4) (.tmp 36) rfl 1 _ 0 _ _ ([.slice A5 t5 q5, .int .i64 c5]) ([.slice A5 t5 q5, .int .i64 c5]) rfl (.agg ([.slice A5 t5 q5, .int .i64 c5] : List Value).toArray) rfl rfl (fits_agg _) (by simp) (splice_all rfl) rrd_size rfl ?_; intro WA hO _ ht; replace HR := hide (HR.out.touch ht (fun j hj hm => by simp at hm; have := HKB.out j hj; omega)); replace HO := hide hO; clear hO ht; have k1 := HO.out.cells 1 rfl)
            | ((with_reducible refine at_store 99 (.tmp 2) ?_); refine wpList_store_own HO.out rfl 99 (.tmp 2) (.tmp 87) rfl 0 _ 0 _ _ (zpartC) (zpartC) rfl (.agg (zpartC).toArray) rfl rfl (fits_agg _) (by decide) (splice_all rfl) rpart_size rfl ?_; intro WA hO; replace HO := hide hO; clear hO))
           refine bodyPost_ret (v := .tuple #[.agg zpartC.toArray, .bool false]) (results_row_tmp rfl _ _ b2 99 zpartC.toArray (0, 0) _ _ rfl rfl (HO.out.blk 0 rfl) Tryz.underlying99 rfl rpart_size2) rfl ?_
           exact ⟨zpart, by rw [HOK.out]; rfl, (fun h => by rw [HOK.out] at h; cases h), HO.out.below⟩
          ·have hd9 : (zs == 0) = false := by simpa using hq9
           have HQ9 := hide hq9
           clear hq9
           have HFU : Hid ((prtRead b).full = true) := hide (full_yes HE.out (by have := HM.out; have := HTS.out; have := HQ6.out; have := HQ4.out; have := HQ8.out; have := HQ9.out; omega))
           obtain ⟨P, hP⟩ : ∃ P, prtPage (prtRead b) = P := ⟨_, rfl⟩
           have HOK : Hid (prtOk b = (P == b)) := hide (by rw [← hP]; exact prtOk_full HFI.out HFU.out)
           have HPV : Hid (Value.agg ([.int .i64 m0, .int .i64 m1, .int .i64 m2, .int .i64 m3, .string T] : List Value).toArray = pv (prtRead b)) := hide (by rw [HE.out, HTT.out]; unfold pv sv; rw [← HM.out.1, ← HM.out.2.1, ← HM.out.2.2.1, ← HM.out.2.2.2])
           have HBY : Hid (∀ W, Calls Tryz.prog 42 #[.int .i64 m0, .int .i64 m1, .int .i64 m2, .int .i64 m3, .string T] W (Fresh W P)) := hide (fun W => by rw [← hP]; have := rpart_c (prtRead b) (Prt.small_of HFI.out) W; rw [HE.out] at this ⊢; dsimp only at this; rw [HTT.out, ← HM.out.1, ← HM.out.2.1, ← HM.out.2.2.1, ← HM.out.2.2.2]; exact this)
           clear hP
           go_wp2_with (first
            | ((with_reducible refine at_store 132 (.tmp 4) ?_); refine wpList_store_own_t HO.out rfl 132 (.tmp 4) (.tmp 36) rfl 1 _ 0 _ _ ([.slice A5 t5 q5, .int .i64 c5]) ([.slice A5 t5 q5, .int .i64 c5]) rfl (.agg ([.slice A5 t5 q5, .int .i64 c5] : List Value).toArray) rfl rfl (fits_agg _) (by simp) (splice_all rfl) rrd_size rfl ?_; intro WA hO _ ht; replace HR := hide (HR.out.touch ht (fun j hj hm => by simp at hm; have := HKB.out j hj; omega)); replace HO := hide hO; clear hO ht; have k1 := HO.out.cells 1 rfl)
            | ((with_reducible refine at_alloc 99 ?_); refine wpList_alloc_own HO.out rfl 99 rfl (zpartC) rpart_info ?_; intro WA b10 hO; replace HO := hide hO; clear hO)
            | ((with_reducible refine at_store 99 (.tmp 10) ?_); refine wpList_store_own HO.out rfl 99 (.tmp 10) (.tmp 97) rfl 2 _ 0 _ _ ([.int .i64 m0, .int .i64 m1, .int .i64 m2, .int .i64 m3, .string T]) ([.int .i64 m0, .int .i64 m1, .int .i64 m2, .int .i64 m3, .string T]) rfl (.agg ([.int .i64 m0, .int .i64 m1, .int .i64 m2, .int .i64 m3, .string T]).toArray) rfl rfl (fits_agg _) (by simp [zpartC]) (splice_all rfl) rpart_size rfl ?_; intro WA hO; replace HO := hide hO; clear hO))
           obtain ⟨bo, hbo⟩ : ∃ x, (P == b) = x := ⟨_, rfl⟩
           have HBO := hide hbo
           refine wp_region_held_drew (S := fun W => (∀ j, W.cell? ⟨b10, j, none⟩ = ([.int .i64 m0, .int .i64 m1, .int .i64 m2, .int .i64 m3, .string T] : List Value)[j]?) ∧ (convert 35 9 (.slice A m c)).run Tryz.prog W = .ok (.string ⟨b.toArray⟩) W) (by kernel_rfl) (⟨HO.out.drew.cells 2 rfl, run_string_bs (H.out.step HO.out.drew.below)⟩) (fun hS0 => ?_)
           replace HO := hide HO.out.drew
           refine ty 0 (.agg ([.int .i64 m0, .int .i64 m1, .int .i64 m2, .int .i64 m3, .string T] : List Value).toArray) rfl (yieldsIf_load rfl 99 (.tmp 10) rfl b10 0 5 99 ([.int .i64 m0, .int .i64 m1, .int .i64 m2, .int .i64 m3, .string T]) ([.int .i64 m0, .int .i64 m1, .int .i64 m2, .int .i64 m3, .string T]) _ (fun w hw => hw.1) (take_all rfl) rfl Tryz.underlying99 rfl rpart_size) ?_
           refine tk 1 ?_
           refine tk 2 ?_
           refine tk 3 ?_
           refine tk 4 ?_
           refine tk 5 ?_
           refine tk 6 ?_
           refine tk 7 ?_
           refine tk 8 ?_
           refine tk 9 ?_
           refine tk 12 ?_
           refine tk 13 ?_
           refine tr1 10 fun K hK => ?_
           go_simp
           refine (HBY.out _).mono ?_
           rintro e w5 ⟨v5, rfl, ho5, hb5⟩
           have HOP := HO; replace HO := hide (HO.out.step hb5)
           have HO5 := hide ho5.bs; have HOB : Hid (∀ j, v5.ownBlock = some j → b2 < j) := hide (fun j hj => by have h1 := (ho5.lt j hj).1; have h2 := (HOP.out.blk 0 rfl).lt; omega)
           clear ho5 hb5 HOP
           refine hK.out _ _ (⟨HO.out.cells 2 rfl, run_string_bs (H.out.step HO.out.below)⟩) (fun hS12 => ?_)
           clear hK K
           refine heldMono (S' := (fun W => ((∀ j, W.cell? ⟨b10, j, none⟩ = ([.int .i64 m0, .int .i64 m1, .int .i64 m2, .int .i64 m3, .string T] : List Value)[j]?) ∧ (convert 35 9 (.slice A m c)).run Tryz.prog W = .ok (.string ⟨b.toArray⟩) W) ∧ (convert 35 9 v5).run Tryz.prog W = .ok (.string ⟨P.toArray⟩) W)) (fun _ h => h.1) _ _ _ _ ?_
           have hT12 : (fun W => ((∀ j, W.cell? ⟨b10, j, none⟩ = ([.int .i64 m0, .int .i64 m1, .int .i64 m2, .int .i64 m3, .string T] : List Value)[j]?) ∧ (convert 35 9 (.slice A m c)).run Tryz.prog W = .ok (.string ⟨b.toArray⟩) W) ∧ (convert 35 9 v5).run Tryz.prog W = .ok (.string ⟨P.toArray⟩) W) _ := ⟨⟨HO.out.cells 2 rfl, run_string_bs (H.out.step HO.out.below)⟩, run_string_bs HO5.out⟩
           try simp only [Act.put, qa, qb, qc, qd, qe, qf]
           refine tk 11 ?_
           refine tk 14 ?_
           refine tr1 15 fun K hK => ?_
           refine step_store_own_t HO.out rfl 99 (.tmp 2) (.tmp 98) rfl 0 _ 0 _ _ ([.int .i64 m0, .int .i64 m1, .int .i64 m2, .int .i64 m3, .string T]) ([.int .i64 m0, .int .i64 m1, .int .i64 m2, .int .i64 m3, .string T]) rfl (.agg ([.int .i64 m0, .int .i64 m1, .int .i64 m2, .int .i64 m3, .string T]).toArray) rfl rfl (fits_agg _) (by simp [zpartC]) (splice_all rfl) rpart_size rfl ?_
           intro WA hO _ ht
           have HO5 := hide (HO5.out.touch ht (fun j hj hm => by simp at hm; have := HOB.out j hj; omega))
           replace HO := hide hO
           clear hO ht
           refine hK.out _ _ (⟨⟨HO.out.cells 2 rfl, run_string_bs (H.out.step HO.out.below)⟩, run_string_bs HO5.out⟩) (fun hS15 => ?_)
           clear hK K
           try simp only [Act.put, qa, qb, qc, qd, qe, qf]
           refine tk 16 ?_
           refine wpAnyH_done (by kernel_rfl) ?_ _
           go_wp2_with fail
           refine bodyPost_ret (v := .tuple #[.agg ([.int .i64 m0, .int .i64 m1, .int .i64 m2, .int .i64 m3, .string T] : List Value).toArray, .bool bo]) (results_row_tmp rfl _ _ b2 99 ([.int .i64 m0, .int .i64 m1, .int .i64 m2, .int .i64 m3, .string T] : List Value).toArray (0, 0) _ _ rfl rfl (HO.out.blk 0 rfl) Tryz.underlying99 rfl rpart_size2) rfl ?_
           exact ⟨prtRead b, by rw [← HPV.out, HOK.out, HBO.out], fun _ => rfl, HO.out.below⟩
         ·have hd8 : decide (1 < m3) = false := by simpa using hq8
          have HQ8 := hide hq8
          clear hq8
          have HFU : Hid ((prtRead b).full = true) := hide (full_yes HE.out (by have := HM.out; have := HTS.out; have := HQ6.out; have := HQ4.out; have := HQ8.out; have := HQ2.out; omega))
          obtain ⟨P, hP⟩ : ∃ P, prtPage (prtRead b) = P := ⟨_, rfl⟩
          have HOK : Hid (prtOk b = (P == b)) := hide (by rw [← hP]; exact prtOk_full HFI.out HFU.out)
          have HPV : Hid (Value.agg ([.int .i64 m0, .int .i64 m1, .int .i64 m2, .int .i64 m3, .string T] : List Value).toArray = pv (prtRead b)) := hide (by rw [HE.out, HTT.out]; unfold pv sv; rw [← HM.out.1, ← HM.out.2.1, ← HM.out.2.2.1, ← HM.out.2.2.2])
          have HBY : Hid (∀ W, Calls Tryz.prog 42 #[.int .i64 m0, .int .i64 m1, .int .i64 m2, .int .i64 m3, .string T] W (Fresh W P)) := hide (fun W => by rw [← hP]; have := rpart_c (prtRead b) (Prt.small_of HFI.out) W; rw [HE.out] at this ⊢; dsimp only at this; rw [HTT.out, ← HM.out.1, ← HM.out.2.1, ← HM.out.2.2.1, ← HM.out.2.2.2]; exact this)
          clear hP
          go_wp2_with (first
           | ((with_reducible refine at_store 132 (.tmp 4) ?_); refine wpList_store_own_t HO.out rfl 132 (.tmp 4) (.tmp 36) rfl 1 _ 0 _ _ ([.slice A5 t5 q5, .int .i64 c5]) ([.slice A5 t5 q5, .int .i64 c5]) rfl (.agg ([.slice A5 t5 q5, .int .i64 c5] : List Value).toArray) rfl rfl (fits_agg _) (by simp) (splice_all rfl) rrd_size rfl ?_; intro WA hO _ ht; replace HR := hide (HR.out.touch ht (fun j hj hm => by simp at hm; have := HKB.out j hj; omega)); replace HO := hide hO; clear hO ht; have k1 := HO.out.cells 1 rfl)
           | ((with_reducible refine at_alloc 99 ?_); refine wpList_alloc_own HO.out rfl 99 rfl (zpartC) rpart_info ?_; intro WA b10 hO; replace HO := hide hO; clear hO)
           | ((with_reducible refine at_store 99 (.tmp 10) ?_); refine wpList_store_own HO.out rfl 99 (.tmp 10) (.tmp 97) rfl 2 _ 0 _ _ ([.int .i64 m0, .int .i64 m1, .int .i64 m2, .int .i64 m3, .string T]) ([.int .i64 m0, .int .i64 m1, .int .i64 m2, .int .i64 m3, .string T]) rfl (.agg ([.int .i64 m0, .int .i64 m1, .int .i64 m2, .int .i64 m3, .string T]).toArray) rfl rfl (fits_agg _) (by simp [zpartC]) (splice_all rfl) rpart_size rfl ?_; intro WA hO; replace HO := hide hO; clear hO))
          obtain ⟨bo, hbo⟩ : ∃ x, (P == b) = x := ⟨_, rfl⟩
          have HBO := hide hbo
          refine wp_region_held_drew (S := fun W => (∀ j, W.cell? ⟨b10, j, none⟩ = ([.int .i64 m0, .int .i64 m1, .int .i64 m2, .int .i64 m3, .string T] : List Value)[j]?) ∧ (convert 35 9 (.slice A m c)).run Tryz.prog W = .ok (.string ⟨b.toArray⟩) W) (by kernel_rfl) (⟨HO.out.drew.cells 2 rfl, run_string_bs (H.out.step HO.out.drew.below)⟩) (fun hS0 => ?_)
          replace HO := hide HO.out.drew
          refine ty 0 (.agg ([.int .i64 m0, .int .i64 m1, .int .i64 m2, .int .i64 m3, .string T] : List Value).toArray) rfl (yieldsIf_load rfl 99 (.tmp 10) rfl b10 0 5 99 ([.int .i64 m0, .int .i64 m1, .int .i64 m2, .int .i64 m3, .string T]) ([.int .i64 m0, .int .i64 m1, .int .i64 m2, .int .i64 m3, .string T]) _ (fun w hw => hw.1) (take_all rfl) rfl Tryz.underlying99 rfl rpart_size) ?_
          refine tk 1 ?_
          refine tk 2 ?_
          refine tk 3 ?_
          refine tk 4 ?_
          refine tk 5 ?_
          refine tk 6 ?_
          refine tk 7 ?_
          refine tk 8 ?_
          refine tk 9 ?_
          refine tk 12 ?_
          refine tk 13 ?_
          refine tr1 10 fun K hK => ?_
          go_simp
          refine (HBY.out _).mono ?_
          rintro e w5 ⟨v5, rfl, ho5, hb5⟩
          have HOP := HO; replace HO := hide (HO.out.step hb5)
          have HO5 := hide ho5.bs; have HOB : Hid (∀ j, v5.ownBlock = some j → b2 < j) := hide (fun j hj => by have h1 := (ho5.lt j hj).1; have h2 := (HOP.out.blk 0 rfl).lt; omega)
          clear ho5 hb5 HOP
          refine hK.out _ _ (⟨HO.out.cells 2 rfl, run_string_bs (H.out.step HO.out.below)⟩) (fun hS12 => ?_)
          clear hK K
          refine heldMono (S' := (fun W => ((∀ j, W.cell? ⟨b10, j, none⟩ = ([.int .i64 m0, .int .i64 m1, .int .i64 m2, .int .i64 m3, .string T] : List Value)[j]?) ∧ (convert 35 9 (.slice A m c)).run Tryz.prog W = .ok (.string ⟨b.toArray⟩) W) ∧ (convert 35 9 v5).run Tryz.prog W = .ok (.string ⟨P.toArray⟩) W)) (fun _ h => h.1) _ _ _ _ ?_
          have hT12 : (fun W => ((∀ j, W.cell? ⟨b10, j, none⟩ = ([.int .i64 m0, .int .i64 m1, .int .i64 m2, .int .i64 m3, .string T] : List Value)[j]?) ∧ (convert 35 9 (.slice A m c)).run Tryz.prog W = .ok (.string ⟨b.toArray⟩) W) ∧ (convert 35 9 v5).run Tryz.prog W = .ok (.string ⟨P.toArray⟩) W) _ := ⟨⟨HO.out.cells 2 rfl, run_string_bs (H.out.step HO.out.below)⟩, run_string_bs HO5.out⟩
          try simp only [Act.put, qa, qb, qc, qd, qe, qf]
          refine tk 11 ?_
          refine tk 14 ?_
          refine tr1 15 fun K hK => ?_
          refine step_store_own_t HO.out rfl 99 (.tmp 2) (.tmp 98) rfl 0 _ 0 _ _ ([.int .i64 m0, .int .i64 m1, .int .i64 m2, .int .i64 m3, .string T]) ([.int .i64 m0, .int .i64 m1, .int .i64 m2, .int .i64 m3, .string T]) rfl (.agg ([.int .i64 m0, .int .i64 m1, .int .i64 m2, .int .i64 m3, .string T]).toArray) rfl rfl (fits_agg _) (by simp [zpartC]) (splice_all rfl) rpart_size rfl ?_
          intro WA hO _ ht
          have HO5 := hide (HO5.out.touch ht (fun j hj hm => by simp at hm; have := HOB.out j hj; omega))
          replace HO := hide hO
          clear hO ht
          refine hK.out _ _ (⟨⟨HO.out.cells 2 rfl, run_string_bs (H.out.step HO.out.below)⟩, run_string_bs HO5.out⟩) (fun hS15 => ?_)
          clear hK K
          try simp only [Act.put, qa, qb, qc, qd, qe, qf]
          refine tk 16 ?_
          refine wpAnyH_done (by kernel_rfl) ?_ _
          go_wp2_with fail
          refine bodyPost_ret (v := .tuple #[.agg ([.int .i64 m0, .int .i64 m1, .int .i64 m2, .int .i64 m3, .string T] : List Value).toArray, .bool bo]) (results_row_tmp rfl _ _ b2 99 ([.int .i64 m0, .int .i64 m1, .int .i64 m2, .int .i64 m3, .string T] : List Value).toArray (0, 0) _ _ rfl rfl (HO.out.blk 0 rfl) Tryz.underlying99 rfl rpart_size2) rfl ?_
          exact ⟨prtRead b, by rw [← HPV.out, HOK.out, HBO.out], fun _ => rfl, HO.out.below⟩
 ·have hcb : (c5 != 0) = true := by simpa using hc5
  have HOK : Hid (prtOk b = false) := hide (HC.out hc5)
  go_wp2_with (first
   | ((with_reducible refine at_store 132 (.tmp 4) ?_); refine wpList_store_own_t HO.out rfl 132 (.tmp 4) (.tmp 36) rfl 1 _ 0 _ _ ([.slice A5 t5 q5, .int .i64 c5]) ([.slice A5 t5 q5, .int .i64 c5]) rfl (.agg ([.slice A5 t5 q5, .int .i64 c5] : List Value).toArray) rfl rfl (fits_agg _) (by simp) (splice_all rfl) rrd_size rfl ?_; intro WA hO _ ht; replace HR := hide (HR.out.touch ht (fun j hj hm => by simp at hm; have := HKB.out j hj; omega)); replace HO := hide hO; clear hO ht; have k1 := HO.out.cells 1 rfl)
   | ((with_reducible refine at_store 99 (.tmp 2) ?_); refine wpList_store_own HO.out rfl 99 (.tmp 2) (.tmp 87) rfl 0 _ 0 _ _ (zpartC) (zpartC) rfl (.agg (zpartC).toArray) rfl rfl (fits_agg _) (by decide) (splice_all rfl) rpart_size rfl ?_; intro WA hO; replace HO := hide hO; clear hO))
  refine bodyPost_ret (v := .tuple #[.agg zpartC.toArray, .bool false]) (results_row_tmp rfl _ _ b2 99 zpartC.toArray (0, 0) _ _ rfl rfl (HO.out.blk 0 rfl) Tryz.underlying99 rfl rpart_size2) rfl ?_
  exact ⟨zpart, by rw [HOK.out]; rfl, (fun h => by rw [HOK.out] at h; cases h), HO.out.below⟩
end Go.Proofs.YtpadgkkeihhneaaGreat
