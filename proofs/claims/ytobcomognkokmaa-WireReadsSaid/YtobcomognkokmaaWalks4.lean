/- The walk of WireReads. -/
import Derived.Test.YtobcomognkokmaaWalks2
namespace Go.Proofs.Ytobcomognkokmaa
set_option linter.unusedSimpArgs false
open Go.ChangeShapes Go.WideShapes Go.ChangeAt Go.RowKit
set_option linter.unusedVariables false

/-- The reference's reader as a variable in block B. -/
def RBox (w : World) (B : Nat) (K : Option Nat) (l : List UInt8) (c : Int) : Prop := ∃ v, Blk w B 43 #[v, .int .i64 c] ∧ Bs w v l ∧ (l ≠ [] → ∀ j, v.ownBlock = some j → K = some j)
/-- What the loop of WireReads keeps. -/
def ReadsR (W w0 : World) (b : Nat) (k : Option Nat) (B : Nat) (K : Option Nat) (q m : Nat) (vi : Value) (wr : World) : Prop :=
  ∃ (j : Nat) (l : List UInt8) (c : Int), vi = .int .i64 j ∧ j ≤ q ∧ l.length ≤ m ∧ Rd wr b k l c ∧ RBox wr B K l c ∧ Below W.heap.size W wr ∧ w0.heap.size ≤ wr.heap.size
theorem ret_true : Ending.returned (.bool true) = .returned (.bool true) := rfl

set_option maxRecDepth 100000 in
set_option maxHeartbeats 16000000 in
theorem walkWireReads (W : World) (v0 : Value) (l0 : List UInt8) (h0 : Bs W v0 l0) (v1 : Value) (ks : List UInt8) (h1 : Bs W v1 ks) (x : Int) (ws2 : (Lit.int .i64 x).wf = true) :
    Calls Try.prog 7 #[v0, v1, .int .i64 x] W fun e w' => e = .returned (.bool true) ∧ Below W.heap.size W w' := by
  obtain ⟨hx0, hx1⟩ := i64_bd x ws2
  obtain ⟨A, n, ca, rfl, hn, hnc, hcm⟩ := h0.formN
  obtain ⟨A1, q, c1, rfl, hq, hqc, hcm1⟩ := h1.formN
  clear ws2
  by_cases h200 : 200 < n
  · have hi : (200 : Int) < (n : Int) := by omega
    clear h0 h1
    go_enter Try.func7, Try.ntmps7
    go_wp2_with fail
    refine (awake_c _).mono ?_
    rintro e w1 ⟨rfl, hb⟩
    go_wp2_with fail
    go_ret
    exact ⟨rfl, hb⟩
  have hi : ¬ (200 : Int) < (n : Int) := by omega
  by_cases h40 : 40 < q
  · have hi2 : (40 : Int) < (q : Int) := by omega
    clear h0 h1
    go_enter Try.func7, Try.ntmps7
    go_wp2_with fail
    refine (awake_c _).mono ?_
    rintro e w1 ⟨rfl, hb⟩
    go_wp2_with fail
    go_ret
    exact ⟨rfl, hb⟩
  have hi2 : ¬ (40 : Int) < (q : Int) := by omega
  have HLL : Hid (l0.length ≤ 140737488355328) := hide (by have := hn.out; omega)
  obtain ⟨KB, hK⟩ : ∃ KB : Option Nat, (∀ j, KB = some j → j < W.heap.size) ∧ (l0 ≠ [] → ∀ j, (Value.slice A n ca).ownBlock = some j → KB = some j) := by
    by_cases he : l0 = []
    · exact ⟨none, (fun j hj => by cases hj), fun h => absurd he h⟩
    · obtain ⟨b1, off1, y, rfl, hlt, _, _⟩ := h0.at_ (k := 0) (by rw [hn.out]; exact List.length_pos_iff.2 he)
      exact ⟨some b1, (fun j hj => by injection hj with hj; omega), fun _ j hj => hj⟩
  have HKL := hide hK.1
  have HKA := hide hK.2
  have H := hide h0
  have HV1 := hide h1
  clear h0 h1 hK
  go_enter Try.func7, Try.ntmps7
  go_wp2_with fail
  refine (awake_c _).mono ?_
  rintro e w11 ⟨rfl, hb⟩
  have HB := hide hb
  clear hb
  go_wp2_with fail
  refine (newReader_c _ l0 w11 (H.out.step HB.out) HLL.out).mono ?_
  rintro e w12 ⟨b, k, rfl, hr, hb, hge, hk⟩
  have HR := hide (hr.alloc (.cells #[.slice A n ca, .int .i64 0] 43))
  have HK0 : Hid (∀ j, k = some j → j < w12.heap.size) := hide fun j hj => (hk j hj).2
  have HBLT := hide hr.lt
  have HBG : Hid (W.heap.size ≤ b) := hide (Nat.le_trans HB.out.size hge)
  replace HB := hide (HB.out.trans (hb.mono HB.out.size))
  have HRB : Hid (RBox (w12.alloc (.cells #[.slice A n ca, .int .i64 0] 43)) w12.heap.size KB l0 0) := hide ⟨_, Blk.new _ _ _, (H.out.step HB.out).alloc _, HKA.out⟩
  have HB1 := hide (HB.out.alloc HB.out.size (.cells #[.slice A n ca, .int .i64 0] 43))
  have HWS := hide HB.out.size
  clear hr hb hge hk
  go_wp2_with fail
  go_loopw [38] (fun i wr => ReadsR W w12 b k w12.heap.size KB q l0.length i wr) (fun i _ => q - (intOf i).toNat)
  case atStart => exact ⟨0, l0, 0, rfl, Nat.zero_le _, Nat.le_refl _, HR.out, HRB.out, HB1.out, by simp⟩
  case round =>
    obtain ⟨j, l, c, rfl, hj, hlm, hr, hrb, hb, hs⟩ := hrel
    have HK := hide (show ∀ j, k = some j → j < wr.heap.size from fun j hj => Nat.lt_of_lt_of_le (HK0.out j hj) hs)
    have HKW := hide (show ∀ j, KB = some j → j < wr.heap.size from fun j hj => Nat.lt_of_lt_of_le (HKL.out j hj) hb.size)
    have hbB : b ≠ w12.heap.size := by have := HBLT.out; omega
    have hkB : ∀ j, k = some j → j ≠ w12.heap.size := fun j hj => by have := HK0.out j hj; omega
    have hKB : ∀ j, KB = some j → j ≠ w12.heap.size := fun j hj => by have := HKL.out j hj; have := HWS.out; omega
    have hKb : ∀ j, KB = some j → j ≠ b := fun j hj => by have := HKL.out j hj; have := HBG.out; omega
    have HBB1 := hide hbB
    have HBK := hide hkB
    have HKB := hide hKB
    have HKb := hide hKb
    have hBl : w12.heap.size < wr.heap.size := by obtain ⟨v, hB, _⟩ := hrb; exact hB.lt
    have HBl := hide hBl
    replace HR := hide hr
    replace HB := hide hb
    have HS := hide hs
    have HLM := hide hlm
    clear HRB HB1 hr hb hs hlm hbB hkB hKB hKb hBl
    by_cases hlt : j < q
    · obtain ⟨bb, oo, z, e1, _, hzz, hcell⟩ := (HV1.out.step HB.out).at_ (k := j) (by omega)
      subst e1
      obtain ⟨v, hx, hbs, hkk⟩ := hrb
      have x0 := hx.cell 0
      have x1 := hx.cell 1
      have y0 := hx.froz 0
      have y1 := hx.froz 1
      simp only [List.getElem?_toArray, List.getElem?_cons_zero, List.getElem?_cons_succ] at x0 x1
      obtain ⟨A2, n2, c2, rfl, hn2, _, _⟩ := hbs.formN
      have HX := hide hx
      have HBS := hide hbs
      have HKK := hide hkk
      clear hx hbs hkk hzz
      have hz0 := (u8_lt z).1
      by_cases hz : u8 z = 0
      · rw [hz] at hcell
        clear hz0
        go_wp2_with fail
        refine (getNumber_c KB (.agg #[.slice A2 n2 c2, .int .i64 c]) l c wr ⟨_, rfl, HBS.out, HKK.out⟩).mono ?_
        rintro e w20 ⟨rv, rfl, hrv, hb2⟩
        obtain ⟨v3, rfl, hbs3, hk3⟩ := hrv
        obtain ⟨A3, n3, c3, rfl, hn3, _, _⟩ := hbs3.formN
        replace HR := hide (HR.out.step hb2)
        replace HX := hide (HX.out.step hb2)
        replace HB := hide (HB.out.trans (hb2.mono HB.out.size))
        replace HS := hide (Nat.le_trans HS.out hb2.size)
        replace HK := hide (show ∀ j, k = some j → j < w20.heap.size from fun j hj => Nat.lt_of_lt_of_le (HK.out j hj) hb2.size)
        have HBl2 := hide (Nat.lt_of_lt_of_le HBl.out hb2.size)
        have HC := hide (rdNumber_c b k l c (w20.alloc (.cells #[.slice A3 n3 c3, .int .i64 (rNum (l, c)).1.2] 43)).drew (HR.out.alloc _).drew (by have := HLM.out; have := HLL.out; omega))
        replace HLM : Hid ((rNum (l, c)).1.1.length ≤ l0.length) := hide (Nat.le_trans (rNum_len l c) HLM.out)
        have HBS3 := hide hbs3
        have HKK3 := hide hk3
        have x0 := HX.out.cell 0
        have x1 := HX.out.cell 1
        have y0 := HX.out.froz 0
        have y1 := HX.out.froz 1
        simp only [List.getElem?_toArray, List.getElem?_cons_zero, List.getElem?_cons_succ] at x0 x1
        clear hbs3 hk3 HBS HKK hb2
        have HTL0 : Hid (n3 = (rNum (l, c)).1.1.length) := hn3
        generalize rNum (l, c) = r at *
        obtain ⟨⟨l3, d3⟩, val⟩ := r
        go_wp2_with fail
        refine wp_region_held_drew (S := (fun w' => w'.cell? ⟨w20.heap.size, 0, none⟩ = some (.slice A3 n3 c3) ∧ w'.cell? ⟨w20.heap.size, 1, none⟩ = some (.int .i64 d3))) (by kernel_rfl) (⟨(Blk.new w20 43 #[.slice A3 n3 c3, .int .i64 d3]).drew.cell 0, (Blk.new w20 43 #[.slice A3 n3 c3, .int .i64 d3]).drew.cell 1⟩) (fun hS0 => ?_)
        refine wpAnyH_take (i := 0) (v := ?vq00) rfl (by kernel_rfl) (by kernel_rfl) (by kernel_rfl) (fun _ _ _ h => h) (Or.inl ⟨by rfl, ?hyq00⟩) (by assumption) ?restq00
        case hyq00 => (intro w hSw; (try dsimp only at hSw); go_simp; first | done | (with_reducible rfl))
        try simp only [Act.put, List.getElem_toArray, List.getElem_cons_zero, List.getElem_cons_succ, List.setIfInBounds_toArray, List.set_cons_zero, List.set_cons_succ]
        refine wpAnyH_take (i := 1) (v := ?vq01) rfl (by kernel_rfl) (by kernel_rfl) (by kernel_rfl) (fun _ _ _ h => h) (Or.inl ⟨by rfl, ?hyq01⟩) (by assumption) ?restq01
        case hyq01 => (intro w hSw; (try dsimp only at hSw); go_simp; first | done | (with_reducible rfl))
        try simp only [Act.put, List.getElem_toArray, List.getElem_cons_zero, List.getElem_cons_succ, List.setIfInBounds_toArray, List.set_cons_zero, List.set_cons_succ]
        refine wpAnyH_take (i := 3) (v := ?vq02) rfl (by kernel_rfl) (by kernel_rfl) (by kernel_rfl) (fun _ _ _ h => h) (Or.inl ⟨by rfl, ?hyq02⟩) (by assumption) ?restq02
        case hyq02 => (intro w hSw; (try dsimp only at hSw); go_simp; first | done | (with_reducible rfl))
        try simp only [Act.put, List.getElem_toArray, List.getElem_cons_zero, List.getElem_cons_succ, List.setIfInBounds_toArray, List.set_cons_zero, List.set_cons_succ]
        refine wpAnyH_ready (rs := [2]) (by kernel_rfl) (by simp) ?_
        refine AllReadyH.cons rfl (fun K0 hK0 => ?_) AllReadyH.nil
        go_simp
        refine HC.out.mono ?_
        rintro e w21 ⟨rfl, hr, ht⟩
        have HN := hide (((Blk.new w20 43 #[.slice A3 n3 c3, .int .i64 d3]).drew).touch ht (by simp; have := HR.out.lt; omega))
        refine hK0.out _ _ (⟨HN.out.cell 0, HN.out.cell 1⟩) (fun hS1 => ?_)
        clear hK0 K0
        try simp only [Act.put, List.getElem_toArray, List.getElem_cons_zero, List.getElem_cons_succ, List.setIfInBounds_toArray, List.set_cons_zero, List.set_cons_succ]
        refine wpAnyH_take (i := 4) (v := ?vq0e) rfl (by kernel_rfl) (by kernel_rfl) (by kernel_rfl) (fun _ _ _ h => h) (Or.inl ⟨by rfl, ?hyq0e⟩) (by assumption) ?restq0e
        case hyq0e => (intro w hSw; (try dsimp only at hSw); go_simp; first | done | (with_reducible rfl))
        try simp only [Act.put, List.getElem_toArray, List.getElem_cons_zero, List.getElem_cons_succ, List.setIfInBounds_toArray, List.set_cons_zero, List.set_cons_succ]
        replace HR := hide hr
        replace HX := hide (((HX.out.alloc _).drew).touch ht (by simp; exact fun e => HBB1.out e.symm))
        have x0 := HX.out.cell 0
        have x1 := HX.out.cell 1
        have y0 := HX.out.froz 0
        have y1 := HX.out.froz 1
        simp only [List.getElem?_toArray, List.getElem?_cons_zero, List.getElem?_cons_succ] at x0 x1
        refine wpAnyH_ready (rs := [5]) (by kernel_rfl) (by simp) ?_
        refine AllReadyH.cons rfl (fun K0 hK0 => ?_) AllReadyH.nil
        go_simp
        have HN2 := hide (((HN.out.far (p := ⟨w12.heap.size, 0, none⟩) (by have := HBl2.out; simp; omega) (.slice A3 n3 c3)).far (p := ⟨w12.heap.size, 1, none⟩) (by have := HBl2.out; simp; omega) (.int .i64 d3)))
        refine hK0.out _ _ (⟨HN2.out.cell 0, HN2.out.cell 1⟩) (fun hS2 => ?_)
        clear hK0 K0
        try simp only [Act.put, List.getElem_toArray, List.getElem_cons_zero, List.getElem_cons_succ, List.setIfInBounds_toArray, List.set_cons_zero, List.set_cons_succ]
        refine wpAnyH_take (i := 6) (v := ?vq0f) rfl (by kernel_rfl) (by kernel_rfl) (by kernel_rfl) (fun _ _ _ h => h) (Or.inl ⟨by rfl, ?hyq0f⟩) (by assumption) ?restq0f
        case hyq0f => (intro w hSw; (try dsimp only at hSw); go_simp; first | done | (with_reducible rfl))
        try simp only [Act.put, List.getElem_toArray, List.getElem_cons_zero, List.getElem_cons_succ, List.setIfInBounds_toArray, List.set_cons_zero, List.set_cons_succ]
        refine wpAnyH_done (by kernel_rfl) ?_ _
        replace HX : Hid (Blk ((w21.setCell ⟨w12.heap.size, 0, none⟩ (.slice A3 n3 c3)).setCell ⟨w12.heap.size, 1, none⟩ (.int .i64 d3)) w12.heap.size 43 #[.slice A3 n3 c3, .int .i64 d3]) := hide ((HX.out.put 0 _).put 1 _)
        have HTS : Hid (Touch [w12.heap.size] w21 ((w21.setCell ⟨w12.heap.size, 0, none⟩ (.slice A3 n3 c3)).setCell ⟨w12.heap.size, 1, none⟩ (.int .i64 d3))) := hide (((Touch.refl [w12.heap.size] w21).set (by simp) 0 _).set (by simp) 1 _)
        replace HR := hide (HR.out.touch HTS.out (by simp; exact HBB1.out) (fun j hj => by simp; exact HBK.out j hj))
        have HT0 : Hid (Touch [b] w20 w21) := hide (((Touch.refl [b] w20).alloc _).drew.trans ht)
        have HBS : Hid (Bs ((w21.setCell ⟨w12.heap.size, 0, none⟩ (.slice A3 n3 c3)).setCell ⟨w12.heap.size, 1, none⟩ (.int .i64 d3)) (.slice A3 n3 c3) l3) := hide ((HBS3.out.touchN HT0.out (fun hne j hj => by simp; exact HKb.out j (HKK3.out hne j hj))).touchN HTS.out (fun hne j hj => by simp; exact HKB.out j (HKK3.out hne j hj)))
        have HKK := HKK3
        replace HB := hide (Below.touch (Below.touch HB.out HT0.out (by simp; exact HBG.out) HB.out.size) HTS.out (by simp; have := HWS.out; omega) (Nat.le_trans HB.out.size HT0.out.size))
        replace HS := hide (Nat.le_trans HS.out (Nat.le_trans HT0.out.size HTS.out.size))
        obtain ⟨w22, hw22⟩ : ∃ w22, w22 = (w21.setCell ⟨w12.heap.size, 0, none⟩ (.slice A3 n3 c3)).setCell ⟨w12.heap.size, 1, none⟩ (.int .i64 d3) := ⟨_, rfl⟩
        rw [← hw22] at HX HR HBS HB HS ⊢
        clear hw22 hS0 hS1 hS2 HN HN2 hr ht x0 x1 y0 y1 HT0 HTS HBS3 HKK3
        have HTL : Hid (l3.length = n3) := hide (HTL0.out.symm)
        have x0 := HX.out.cell 0
        have x1 := HX.out.cell 1
        simp only [List.getElem?_toArray, List.getElem?_cons_zero, List.getElem?_cons_succ] at x0 x1
        go_wp2_with fail
        refine wp_region_held_drew (S := (fun w' => w'.cell? ⟨w12.heap.size, 0, none⟩ = some (.slice A3 n3 c3) ∧ w'.cell? ⟨w12.heap.size, 1, none⟩ = some (.int .i64 d3))) (by kernel_rfl) (⟨x0, x1⟩) (fun hS0 => ?_)
        refine wpAnyH_take (i := 0) (v := ?vT00) rfl (by kernel_rfl) (by kernel_rfl) (by kernel_rfl) (fun _ _ _ h => h) (Or.inl ⟨by rfl, ?hyT00⟩) (by assumption) ?restT00
        case hyT00 => (intro w hSw; (try dsimp only at hSw); go_simp; first | done | (with_reducible rfl))
        try simp only [Act.put, List.getElem_toArray, List.getElem_cons_zero, List.getElem_cons_succ, List.setIfInBounds_toArray, List.set_cons_zero, List.set_cons_succ]
        refine wpAnyH_take (i := 1) (v := ?vT01) rfl (by kernel_rfl) (by kernel_rfl) (by kernel_rfl) (fun _ _ _ h => h) (Or.inl ⟨by rfl, ?hyT01⟩) (by assumption) ?restT01
        case hyT01 => (intro w hSw; (try dsimp only at hSw); go_simp; first | done | (with_reducible rfl))
        try simp only [Act.put, List.getElem_toArray, List.getElem_cons_zero, List.getElem_cons_succ, List.setIfInBounds_toArray, List.set_cons_zero, List.set_cons_succ]
        refine wpAnyH_take (i := 2) (v := ?vT02) rfl (by kernel_rfl) (by kernel_rfl) (by kernel_rfl) (fun _ _ _ h => h) (Or.inl ⟨by rfl, ?hyT02⟩) (by assumption) ?restT02
        case hyT02 => (intro w hSw; (try dsimp only at hSw); go_simp; first | done | (with_reducible rfl))
        try simp only [Act.put, List.getElem_toArray, List.getElem_cons_zero, List.getElem_cons_succ, List.setIfInBounds_toArray, List.set_cons_zero, List.set_cons_succ]
        refine wpAnyH_take (i := 3) (v := ?vT03) rfl (by kernel_rfl) (by kernel_rfl) (by kernel_rfl) (fun _ _ _ h => h) (Or.inl ⟨by rfl, ?hyT03⟩) (by assumption) ?restT03
        case hyT03 => (intro w hSw; (try dsimp only at hSw); go_simp; first | done | (with_reducible rfl))
        try simp only [Act.put, List.getElem_toArray, List.getElem_cons_zero, List.getElem_cons_succ, List.setIfInBounds_toArray, List.set_cons_zero, List.set_cons_succ]
        refine wpAnyH_take (i := 5) (v := ?vT04) rfl (by kernel_rfl) (by kernel_rfl) (by kernel_rfl) (fun _ _ _ h => h) (Or.inl ⟨by rfl, ?hyT04⟩) (by assumption) ?restT04
        case hyT04 => (intro w hSw; (try dsimp only at hSw); go_simp; first | done | (with_reducible rfl))
        try simp only [Act.put, List.getElem_toArray, List.getElem_cons_zero, List.getElem_cons_succ, List.setIfInBounds_toArray, List.set_cons_zero, List.set_cons_succ]
        refine wpAnyH_take (i := 6) (v := ?vT05) rfl (by kernel_rfl) (by kernel_rfl) (by kernel_rfl) (fun _ _ _ h => h) (Or.inl ⟨by rfl, ?hyT05⟩) (by assumption) ?restT05
        case hyT05 => (intro w hSw; (try dsimp only at hSw); go_simp; first | done | (with_reducible rfl))
        try simp only [Act.put, List.getElem_toArray, List.getElem_cons_zero, List.getElem_cons_succ, List.setIfInBounds_toArray, List.set_cons_zero, List.set_cons_succ]
        refine wpAnyH_take (i := 7) (v := ?vT06) rfl (by kernel_rfl) (by kernel_rfl) (by kernel_rfl) (fun _ _ _ h => h) (Or.inl ⟨by rfl, ?hyT06⟩) (by assumption) ?restT06
        case hyT06 => (intro w hSw; (try dsimp only at hSw); go_simp; first | done | (with_reducible rfl))
        try simp only [Act.put, List.getElem_toArray, List.getElem_cons_zero, List.getElem_cons_succ, List.setIfInBounds_toArray, List.set_cons_zero, List.set_cons_succ]
        refine wpAnyH_ready (rs := [4]) (by kernel_rfl) (by simp) ?_
        refine AllReadyH.cons rfl (fun K hK => ?_) AllReadyH.nil
        go_simp
        refine (left_c b k (l3) (d3) _ HR.out.drew).mono ?_
        rintro e wl1 ⟨rfl, rfl⟩
        rw [HTL.out]
        refine hK.out _ _ (⟨x0, x1⟩) (fun hS7 => ?_)
        clear hK K
        try simp only [Act.put, List.getElem_toArray, List.getElem_cons_zero, List.getElem_cons_succ, List.setIfInBounds_toArray, List.set_cons_zero, List.set_cons_succ]
        refine wpAnyH_take (i := 8) (v := ?vT08) rfl (by kernel_rfl) (by kernel_rfl) (by kernel_rfl) (fun _ _ _ h => h) (Or.inl ⟨by rfl, ?hyT08⟩) (by assumption) ?restT08
        case hyT08 => (intro w hSw; (try dsimp only at hSw); go_simp; first | done | (with_reducible rfl))
        try simp only [Act.put, List.getElem_toArray, List.getElem_cons_zero, List.getElem_cons_succ, List.setIfInBounds_toArray, List.set_cons_zero, List.set_cons_succ]
        refine wpAnyH_take (i := 9) (v := ?vT09) rfl (by kernel_rfl) (by kernel_rfl) (by kernel_rfl) (fun _ _ _ h => h) (Or.inl ⟨by rfl, ?hyT09⟩) (by assumption) ?restT09
        case hyT09 => (intro w hSw; (try dsimp only at hSw); go_simp; first | done | (with_reducible rfl))
        try simp only [Act.put, List.getElem_toArray, List.getElem_cons_zero, List.getElem_cons_succ, List.setIfInBounds_toArray, List.set_cons_zero, List.set_cons_succ]
        refine wpAnyH_take (i := 10) (v := ?vT010) rfl (by kernel_rfl) (by kernel_rfl) (by kernel_rfl) (fun _ _ _ h => h) (Or.inl ⟨by rfl, ?hyT010⟩) (by assumption) ?restT010
        case hyT010 => (intro w hSw; (try dsimp only at hSw); go_simp; first | done | (with_reducible rfl))
        try simp only [Act.put, List.getElem_toArray, List.getElem_cons_zero, List.getElem_cons_succ, List.setIfInBounds_toArray, List.set_cons_zero, List.set_cons_succ]
        refine wpAnyH_take (i := 11) (v := ?vT011) rfl (by kernel_rfl) (by kernel_rfl) (by kernel_rfl) (fun _ _ _ h => h) (Or.inl ⟨by rfl, ?hyT011⟩) (by assumption) ?restT011
        case hyT011 => (intro w hSw; (try dsimp only at hSw); go_simp; first | done | (with_reducible rfl))
        try simp only [Act.put, List.getElem_toArray, List.getElem_cons_zero, List.getElem_cons_succ, List.setIfInBounds_toArray, List.set_cons_zero, List.set_cons_succ]
        refine wpAnyH_take (i := 13) (v := ?vT012) rfl (by kernel_rfl) (by kernel_rfl) (by kernel_rfl) (fun _ _ _ h => h) (Or.inl ⟨by rfl, ?hyT012⟩) (by assumption) ?restT012
        case hyT012 => (intro w hSw; (try dsimp only at hSw); go_simp; first | done | (with_reducible rfl))
        try simp only [Act.put, List.getElem_toArray, List.getElem_cons_zero, List.getElem_cons_succ, List.setIfInBounds_toArray, List.set_cons_zero, List.set_cons_succ]
        refine wpAnyH_ready (rs := [12]) (by kernel_rfl) (by simp) ?_
        refine AllReadyH.cons rfl (fun K hK => ?_) AllReadyH.nil
        go_simp
        refine (end_c b k (l3) (d3) _ HR.out.drew).mono ?_
        rintro e wl2 ⟨rfl, rfl⟩
        refine hK.out _ _ (⟨x0, x1⟩) (fun hS13 => ?_)
        clear hK K
        try simp only [Act.put, List.getElem_toArray, List.getElem_cons_zero, List.getElem_cons_succ, List.setIfInBounds_toArray, List.set_cons_zero, List.set_cons_succ]
        refine wpAnyH_ready (rs := [14]) (by kernel_rfl) (by simp) ?_
        refine AllReadyH.cons rfl (fun K hK => ?_) AllReadyH.nil
        go_simp
        refine (refEnd_c KB (.agg #[(.slice A3 n3 c3), .int .i64 d3]) (l3) (d3) _ ⟨_, rfl, HBS.out.drew, HKK.out⟩).mono ?_
        rintro e wl3 ⟨rfl, hb⟩
        have HX2 := hide (HX.out.drew.step hb)
        refine hK.out _ _ (⟨HX2.out.cell 0, HX2.out.cell 1⟩) (fun hS14 => ?_)
        clear hK K
        try simp only [Act.put, List.getElem_toArray, List.getElem_cons_zero, List.getElem_cons_succ, List.setIfInBounds_toArray, List.set_cons_zero, List.set_cons_succ]
        refine wpAnyH_take (i := 15) (v := ?vT015) rfl (by kernel_rfl) (by kernel_rfl) (by kernel_rfl) (fun _ _ _ h => h) (Or.inl ⟨by rfl, ?hyT015⟩) (by assumption) ?restT015
        case hyT015 => (intro w hSw; (try dsimp only at hSw); go_simp; first | done | (with_reducible rfl))
        try simp only [Act.put, List.getElem_toArray, List.getElem_cons_zero, List.getElem_cons_succ, List.setIfInBounds_toArray, List.set_cons_zero, List.set_cons_succ]
        refine wpAnyH_take (i := 16) (v := ?vT016) rfl (by kernel_rfl) (by kernel_rfl) (by kernel_rfl) (fun _ _ _ h => h) (Or.inl ⟨by rfl, ?hyT016⟩) (by assumption) ?restT016
        case hyT016 => (intro w hSw; (try dsimp only at hSw); go_simp; first | done | (with_reducible rfl))
        try simp only [Act.put, List.getElem_toArray, List.getElem_cons_zero, List.getElem_cons_succ, List.setIfInBounds_toArray, List.set_cons_zero, List.set_cons_succ]
        refine wpAnyH_done (by kernel_rfl) ?_ _
        go_wp2_with fail
        go_roundw
        case rel => exact ⟨j + 1, l3, d3, by go_num, by omega, HLM.out, Rd.step HR.out.drew hb, ⟨_, HX2.out, HBS.out.drew.step hb, HKK.out⟩, HB.out.drew.trans (hb.mono HB.out.size), Nat.le_trans HS.out hb.size⟩
        case measure => simp [intOf]; omega
      have hz0 : (u8 z == 0) = false := by simpa using hz
      clear hz
      by_cases hz : u8 z = 1
      · rw [hz] at hcell
        clear hz0
        go_wp2_with fail
        refine (getInt_c KB (.agg #[.slice A2 n2 c2, .int .i64 c]) l c wr ⟨_, rfl, HBS.out, HKK.out⟩ HKW.out).mono ?_
        rintro e w20 ⟨rv, rfl, hrv, hb2⟩
        obtain ⟨v3, rfl, hbs3, hk3⟩ := hrv
        obtain ⟨A3, n3, c3, rfl, hn3, _, _⟩ := hbs3.formN
        replace HR := hide (HR.out.step hb2)
        replace HX := hide (HX.out.step hb2)
        replace HB := hide (HB.out.trans (hb2.mono HB.out.size))
        replace HS := hide (Nat.le_trans HS.out hb2.size)
        replace HK := hide (show ∀ j, k = some j → j < w20.heap.size from fun j hj => Nat.lt_of_lt_of_le (HK.out j hj) hb2.size)
        have HBl2 := hide (Nat.lt_of_lt_of_le HBl.out hb2.size)
        have HC := hide (rdInt_c b k l c (w20.alloc (.cells #[.slice A3 n3 c3, .int .i64 (rInt (l, c)).1.2] 43)).drew (HR.out.alloc _).drew (by have := HLM.out; have := HLL.out; omega))
        replace HLM : Hid ((rInt (l, c)).1.1.length ≤ l0.length) := hide (Nat.le_trans (rInt_len l c) HLM.out)
        have HBS3 := hide hbs3
        have HKK3 := hide hk3
        have x0 := HX.out.cell 0
        have x1 := HX.out.cell 1
        have y0 := HX.out.froz 0
        have y1 := HX.out.froz 1
        simp only [List.getElem?_toArray, List.getElem?_cons_zero, List.getElem?_cons_succ] at x0 x1
        clear hbs3 hk3 HBS HKK hb2
        have HTL0 : Hid (n3 = (rInt (l, c)).1.1.length) := hn3
        generalize rInt (l, c) = r at *
        obtain ⟨⟨l3, d3⟩, val⟩ := r
        go_wp2_with fail
        refine wp_region_held_drew (S := (fun w' => w'.cell? ⟨w20.heap.size, 0, none⟩ = some (.slice A3 n3 c3) ∧ w'.cell? ⟨w20.heap.size, 1, none⟩ = some (.int .i64 d3))) (by kernel_rfl) (⟨(Blk.new w20 43 #[.slice A3 n3 c3, .int .i64 d3]).drew.cell 0, (Blk.new w20 43 #[.slice A3 n3 c3, .int .i64 d3]).drew.cell 1⟩) (fun hS0 => ?_)
        refine wpAnyH_take (i := 0) (v := ?vq10) rfl (by kernel_rfl) (by kernel_rfl) (by kernel_rfl) (fun _ _ _ h => h) (Or.inl ⟨by rfl, ?hyq10⟩) (by assumption) ?restq10
        case hyq10 => (intro w hSw; (try dsimp only at hSw); go_simp; first | done | (with_reducible rfl))
        try simp only [Act.put, List.getElem_toArray, List.getElem_cons_zero, List.getElem_cons_succ, List.setIfInBounds_toArray, List.set_cons_zero, List.set_cons_succ]
        refine wpAnyH_take (i := 1) (v := ?vq11) rfl (by kernel_rfl) (by kernel_rfl) (by kernel_rfl) (fun _ _ _ h => h) (Or.inl ⟨by rfl, ?hyq11⟩) (by assumption) ?restq11
        case hyq11 => (intro w hSw; (try dsimp only at hSw); go_simp; first | done | (with_reducible rfl))
        try simp only [Act.put, List.getElem_toArray, List.getElem_cons_zero, List.getElem_cons_succ, List.setIfInBounds_toArray, List.set_cons_zero, List.set_cons_succ]
        refine wpAnyH_take (i := 3) (v := ?vq12) rfl (by kernel_rfl) (by kernel_rfl) (by kernel_rfl) (fun _ _ _ h => h) (Or.inl ⟨by rfl, ?hyq12⟩) (by assumption) ?restq12
        case hyq12 => (intro w hSw; (try dsimp only at hSw); go_simp; first | done | (with_reducible rfl))
        try simp only [Act.put, List.getElem_toArray, List.getElem_cons_zero, List.getElem_cons_succ, List.setIfInBounds_toArray, List.set_cons_zero, List.set_cons_succ]
        refine wpAnyH_ready (rs := [2]) (by kernel_rfl) (by simp) ?_
        refine AllReadyH.cons rfl (fun K0 hK0 => ?_) AllReadyH.nil
        go_simp
        refine HC.out.mono ?_
        rintro e w21 ⟨rfl, hr, ht⟩
        have HN := hide (((Blk.new w20 43 #[.slice A3 n3 c3, .int .i64 d3]).drew).touch ht (by simp; have := HR.out.lt; omega))
        refine hK0.out _ _ (⟨HN.out.cell 0, HN.out.cell 1⟩) (fun hS1 => ?_)
        clear hK0 K0
        try simp only [Act.put, List.getElem_toArray, List.getElem_cons_zero, List.getElem_cons_succ, List.setIfInBounds_toArray, List.set_cons_zero, List.set_cons_succ]
        refine wpAnyH_take (i := 4) (v := ?vq1e) rfl (by kernel_rfl) (by kernel_rfl) (by kernel_rfl) (fun _ _ _ h => h) (Or.inl ⟨by rfl, ?hyq1e⟩) (by assumption) ?restq1e
        case hyq1e => (intro w hSw; (try dsimp only at hSw); go_simp; first | done | (with_reducible rfl))
        try simp only [Act.put, List.getElem_toArray, List.getElem_cons_zero, List.getElem_cons_succ, List.setIfInBounds_toArray, List.set_cons_zero, List.set_cons_succ]
        replace HR := hide hr
        replace HX := hide (((HX.out.alloc _).drew).touch ht (by simp; exact fun e => HBB1.out e.symm))
        have x0 := HX.out.cell 0
        have x1 := HX.out.cell 1
        have y0 := HX.out.froz 0
        have y1 := HX.out.froz 1
        simp only [List.getElem?_toArray, List.getElem?_cons_zero, List.getElem?_cons_succ] at x0 x1
        refine wpAnyH_ready (rs := [5]) (by kernel_rfl) (by simp) ?_
        refine AllReadyH.cons rfl (fun K0 hK0 => ?_) AllReadyH.nil
        go_simp
        have HN2 := hide (((HN.out.far (p := ⟨w12.heap.size, 0, none⟩) (by have := HBl2.out; simp; omega) (.slice A3 n3 c3)).far (p := ⟨w12.heap.size, 1, none⟩) (by have := HBl2.out; simp; omega) (.int .i64 d3)))
        refine hK0.out _ _ (⟨HN2.out.cell 0, HN2.out.cell 1⟩) (fun hS2 => ?_)
        clear hK0 K0
        try simp only [Act.put, List.getElem_toArray, List.getElem_cons_zero, List.getElem_cons_succ, List.setIfInBounds_toArray, List.set_cons_zero, List.set_cons_succ]
        refine wpAnyH_take (i := 6) (v := ?vq1f) rfl (by kernel_rfl) (by kernel_rfl) (by kernel_rfl) (fun _ _ _ h => h) (Or.inl ⟨by rfl, ?hyq1f⟩) (by assumption) ?restq1f
        case hyq1f => (intro w hSw; (try dsimp only at hSw); go_simp; first | done | (with_reducible rfl))
        try simp only [Act.put, List.getElem_toArray, List.getElem_cons_zero, List.getElem_cons_succ, List.setIfInBounds_toArray, List.set_cons_zero, List.set_cons_succ]
        refine wpAnyH_done (by kernel_rfl) ?_ _
        replace HX : Hid (Blk ((w21.setCell ⟨w12.heap.size, 0, none⟩ (.slice A3 n3 c3)).setCell ⟨w12.heap.size, 1, none⟩ (.int .i64 d3)) w12.heap.size 43 #[.slice A3 n3 c3, .int .i64 d3]) := hide ((HX.out.put 0 _).put 1 _)
        have HTS : Hid (Touch [w12.heap.size] w21 ((w21.setCell ⟨w12.heap.size, 0, none⟩ (.slice A3 n3 c3)).setCell ⟨w12.heap.size, 1, none⟩ (.int .i64 d3))) := hide (((Touch.refl [w12.heap.size] w21).set (by simp) 0 _).set (by simp) 1 _)
        replace HR := hide (HR.out.touch HTS.out (by simp; exact HBB1.out) (fun j hj => by simp; exact HBK.out j hj))
        have HT0 : Hid (Touch [b] w20 w21) := hide (((Touch.refl [b] w20).alloc _).drew.trans ht)
        have HBS : Hid (Bs ((w21.setCell ⟨w12.heap.size, 0, none⟩ (.slice A3 n3 c3)).setCell ⟨w12.heap.size, 1, none⟩ (.int .i64 d3)) (.slice A3 n3 c3) l3) := hide ((HBS3.out.touchN HT0.out (fun hne j hj => by simp; exact HKb.out j (HKK3.out hne j hj))).touchN HTS.out (fun hne j hj => by simp; exact HKB.out j (HKK3.out hne j hj)))
        have HKK := HKK3
        replace HB := hide (Below.touch (Below.touch HB.out HT0.out (by simp; exact HBG.out) HB.out.size) HTS.out (by simp; have := HWS.out; omega) (Nat.le_trans HB.out.size HT0.out.size))
        replace HS := hide (Nat.le_trans HS.out (Nat.le_trans HT0.out.size HTS.out.size))
        obtain ⟨w22, hw22⟩ : ∃ w22, w22 = (w21.setCell ⟨w12.heap.size, 0, none⟩ (.slice A3 n3 c3)).setCell ⟨w12.heap.size, 1, none⟩ (.int .i64 d3) := ⟨_, rfl⟩
        rw [← hw22] at HX HR HBS HB HS ⊢
        clear hw22 hS0 hS1 hS2 HN HN2 hr ht x0 x1 y0 y1 HT0 HTS HBS3 HKK3
        have HTL : Hid (l3.length = n3) := hide (HTL0.out.symm)
        have x0 := HX.out.cell 0
        have x1 := HX.out.cell 1
        simp only [List.getElem?_toArray, List.getElem?_cons_zero, List.getElem?_cons_succ] at x0 x1
        go_wp2_with fail
        refine wp_region_held_drew (S := (fun w' => w'.cell? ⟨w12.heap.size, 0, none⟩ = some (.slice A3 n3 c3) ∧ w'.cell? ⟨w12.heap.size, 1, none⟩ = some (.int .i64 d3))) (by kernel_rfl) (⟨x0, x1⟩) (fun hS0 => ?_)
        refine wpAnyH_take (i := 0) (v := ?vT10) rfl (by kernel_rfl) (by kernel_rfl) (by kernel_rfl) (fun _ _ _ h => h) (Or.inl ⟨by rfl, ?hyT10⟩) (by assumption) ?restT10
        case hyT10 => (intro w hSw; (try dsimp only at hSw); go_simp; first | done | (with_reducible rfl))
        try simp only [Act.put, List.getElem_toArray, List.getElem_cons_zero, List.getElem_cons_succ, List.setIfInBounds_toArray, List.set_cons_zero, List.set_cons_succ]
        refine wpAnyH_take (i := 1) (v := ?vT11) rfl (by kernel_rfl) (by kernel_rfl) (by kernel_rfl) (fun _ _ _ h => h) (Or.inl ⟨by rfl, ?hyT11⟩) (by assumption) ?restT11
        case hyT11 => (intro w hSw; (try dsimp only at hSw); go_simp; first | done | (with_reducible rfl))
        try simp only [Act.put, List.getElem_toArray, List.getElem_cons_zero, List.getElem_cons_succ, List.setIfInBounds_toArray, List.set_cons_zero, List.set_cons_succ]
        refine wpAnyH_take (i := 2) (v := ?vT12) rfl (by kernel_rfl) (by kernel_rfl) (by kernel_rfl) (fun _ _ _ h => h) (Or.inl ⟨by rfl, ?hyT12⟩) (by assumption) ?restT12
        case hyT12 => (intro w hSw; (try dsimp only at hSw); go_simp; first | done | (with_reducible rfl))
        try simp only [Act.put, List.getElem_toArray, List.getElem_cons_zero, List.getElem_cons_succ, List.setIfInBounds_toArray, List.set_cons_zero, List.set_cons_succ]
        refine wpAnyH_take (i := 3) (v := ?vT13) rfl (by kernel_rfl) (by kernel_rfl) (by kernel_rfl) (fun _ _ _ h => h) (Or.inl ⟨by rfl, ?hyT13⟩) (by assumption) ?restT13
        case hyT13 => (intro w hSw; (try dsimp only at hSw); go_simp; first | done | (with_reducible rfl))
        try simp only [Act.put, List.getElem_toArray, List.getElem_cons_zero, List.getElem_cons_succ, List.setIfInBounds_toArray, List.set_cons_zero, List.set_cons_succ]
        refine wpAnyH_take (i := 5) (v := ?vT14) rfl (by kernel_rfl) (by kernel_rfl) (by kernel_rfl) (fun _ _ _ h => h) (Or.inl ⟨by rfl, ?hyT14⟩) (by assumption) ?restT14
        case hyT14 => (intro w hSw; (try dsimp only at hSw); go_simp; first | done | (with_reducible rfl))
        try simp only [Act.put, List.getElem_toArray, List.getElem_cons_zero, List.getElem_cons_succ, List.setIfInBounds_toArray, List.set_cons_zero, List.set_cons_succ]
        refine wpAnyH_take (i := 6) (v := ?vT15) rfl (by kernel_rfl) (by kernel_rfl) (by kernel_rfl) (fun _ _ _ h => h) (Or.inl ⟨by rfl, ?hyT15⟩) (by assumption) ?restT15
        case hyT15 => (intro w hSw; (try dsimp only at hSw); go_simp; first | done | (with_reducible rfl))
        try simp only [Act.put, List.getElem_toArray, List.getElem_cons_zero, List.getElem_cons_succ, List.setIfInBounds_toArray, List.set_cons_zero, List.set_cons_succ]
        refine wpAnyH_take (i := 7) (v := ?vT16) rfl (by kernel_rfl) (by kernel_rfl) (by kernel_rfl) (fun _ _ _ h => h) (Or.inl ⟨by rfl, ?hyT16⟩) (by assumption) ?restT16
        case hyT16 => (intro w hSw; (try dsimp only at hSw); go_simp; first | done | (with_reducible rfl))
        try simp only [Act.put, List.getElem_toArray, List.getElem_cons_zero, List.getElem_cons_succ, List.setIfInBounds_toArray, List.set_cons_zero, List.set_cons_succ]
        refine wpAnyH_ready (rs := [4]) (by kernel_rfl) (by simp) ?_
        refine AllReadyH.cons rfl (fun K hK => ?_) AllReadyH.nil
        go_simp
        refine (left_c b k (l3) (d3) _ HR.out.drew).mono ?_
        rintro e wl1 ⟨rfl, rfl⟩
        rw [HTL.out]
        refine hK.out _ _ (⟨x0, x1⟩) (fun hS7 => ?_)
        clear hK K
        try simp only [Act.put, List.getElem_toArray, List.getElem_cons_zero, List.getElem_cons_succ, List.setIfInBounds_toArray, List.set_cons_zero, List.set_cons_succ]
        refine wpAnyH_take (i := 8) (v := ?vT18) rfl (by kernel_rfl) (by kernel_rfl) (by kernel_rfl) (fun _ _ _ h => h) (Or.inl ⟨by rfl, ?hyT18⟩) (by assumption) ?restT18
        case hyT18 => (intro w hSw; (try dsimp only at hSw); go_simp; first | done | (with_reducible rfl))
        try simp only [Act.put, List.getElem_toArray, List.getElem_cons_zero, List.getElem_cons_succ, List.setIfInBounds_toArray, List.set_cons_zero, List.set_cons_succ]
        refine wpAnyH_take (i := 9) (v := ?vT19) rfl (by kernel_rfl) (by kernel_rfl) (by kernel_rfl) (fun _ _ _ h => h) (Or.inl ⟨by rfl, ?hyT19⟩) (by assumption) ?restT19
        case hyT19 => (intro w hSw; (try dsimp only at hSw); go_simp; first | done | (with_reducible rfl))
        try simp only [Act.put, List.getElem_toArray, List.getElem_cons_zero, List.getElem_cons_succ, List.setIfInBounds_toArray, List.set_cons_zero, List.set_cons_succ]
        refine wpAnyH_take (i := 10) (v := ?vT110) rfl (by kernel_rfl) (by kernel_rfl) (by kernel_rfl) (fun _ _ _ h => h) (Or.inl ⟨by rfl, ?hyT110⟩) (by assumption) ?restT110
        case hyT110 => (intro w hSw; (try dsimp only at hSw); go_simp; first | done | (with_reducible rfl))
        try simp only [Act.put, List.getElem_toArray, List.getElem_cons_zero, List.getElem_cons_succ, List.setIfInBounds_toArray, List.set_cons_zero, List.set_cons_succ]
        refine wpAnyH_take (i := 11) (v := ?vT111) rfl (by kernel_rfl) (by kernel_rfl) (by kernel_rfl) (fun _ _ _ h => h) (Or.inl ⟨by rfl, ?hyT111⟩) (by assumption) ?restT111
        case hyT111 => (intro w hSw; (try dsimp only at hSw); go_simp; first | done | (with_reducible rfl))
        try simp only [Act.put, List.getElem_toArray, List.getElem_cons_zero, List.getElem_cons_succ, List.setIfInBounds_toArray, List.set_cons_zero, List.set_cons_succ]
        refine wpAnyH_take (i := 13) (v := ?vT112) rfl (by kernel_rfl) (by kernel_rfl) (by kernel_rfl) (fun _ _ _ h => h) (Or.inl ⟨by rfl, ?hyT112⟩) (by assumption) ?restT112
        case hyT112 => (intro w hSw; (try dsimp only at hSw); go_simp; first | done | (with_reducible rfl))
        try simp only [Act.put, List.getElem_toArray, List.getElem_cons_zero, List.getElem_cons_succ, List.setIfInBounds_toArray, List.set_cons_zero, List.set_cons_succ]
        refine wpAnyH_ready (rs := [12]) (by kernel_rfl) (by simp) ?_
        refine AllReadyH.cons rfl (fun K hK => ?_) AllReadyH.nil
        go_simp
        refine (end_c b k (l3) (d3) _ HR.out.drew).mono ?_
        rintro e wl2 ⟨rfl, rfl⟩
        refine hK.out _ _ (⟨x0, x1⟩) (fun hS13 => ?_)
        clear hK K
        try simp only [Act.put, List.getElem_toArray, List.getElem_cons_zero, List.getElem_cons_succ, List.setIfInBounds_toArray, List.set_cons_zero, List.set_cons_succ]
        refine wpAnyH_ready (rs := [14]) (by kernel_rfl) (by simp) ?_
        refine AllReadyH.cons rfl (fun K hK => ?_) AllReadyH.nil
        go_simp
        refine (refEnd_c KB (.agg #[(.slice A3 n3 c3), .int .i64 d3]) (l3) (d3) _ ⟨_, rfl, HBS.out.drew, HKK.out⟩).mono ?_
        rintro e wl3 ⟨rfl, hb⟩
        have HX2 := hide (HX.out.drew.step hb)
        refine hK.out _ _ (⟨HX2.out.cell 0, HX2.out.cell 1⟩) (fun hS14 => ?_)
        clear hK K
        try simp only [Act.put, List.getElem_toArray, List.getElem_cons_zero, List.getElem_cons_succ, List.setIfInBounds_toArray, List.set_cons_zero, List.set_cons_succ]
        refine wpAnyH_take (i := 15) (v := ?vT115) rfl (by kernel_rfl) (by kernel_rfl) (by kernel_rfl) (fun _ _ _ h => h) (Or.inl ⟨by rfl, ?hyT115⟩) (by assumption) ?restT115
        case hyT115 => (intro w hSw; (try dsimp only at hSw); go_simp; first | done | (with_reducible rfl))
        try simp only [Act.put, List.getElem_toArray, List.getElem_cons_zero, List.getElem_cons_succ, List.setIfInBounds_toArray, List.set_cons_zero, List.set_cons_succ]
        refine wpAnyH_take (i := 16) (v := ?vT116) rfl (by kernel_rfl) (by kernel_rfl) (by kernel_rfl) (fun _ _ _ h => h) (Or.inl ⟨by rfl, ?hyT116⟩) (by assumption) ?restT116
        case hyT116 => (intro w hSw; (try dsimp only at hSw); go_simp; first | done | (with_reducible rfl))
        try simp only [Act.put, List.getElem_toArray, List.getElem_cons_zero, List.getElem_cons_succ, List.setIfInBounds_toArray, List.set_cons_zero, List.set_cons_succ]
        refine wpAnyH_done (by kernel_rfl) ?_ _
        go_wp2_with fail
        go_roundw
        case rel => exact ⟨j + 1, l3, d3, by go_num, by omega, HLM.out, Rd.step HR.out.drew hb, ⟨_, HX2.out, HBS.out.drew.step hb, HKK.out⟩, HB.out.drew.trans (hb.mono HB.out.size), Nat.le_trans HS.out hb.size⟩
        case measure => simp [intOf]; omega
      have hz1 : (u8 z == 1) = false := by simpa using hz
      clear hz
      by_cases hz : u8 z = 2
      · rw [hz] at hcell
        clear hz0
        go_wp2_with fail
        refine (getBool_c KB (.agg #[.slice A2 n2 c2, .int .i64 c]) l c wr ⟨_, rfl, HBS.out, HKK.out⟩).mono ?_
        rintro e w20 ⟨rv, rfl, hrv, hb2⟩
        obtain ⟨v3, rfl, hbs3, hk3⟩ := hrv
        obtain ⟨A3, n3, c3, rfl, hn3, _, _⟩ := hbs3.formN
        replace HR := hide (HR.out.step hb2)
        replace HX := hide (HX.out.step hb2)
        replace HB := hide (HB.out.trans (hb2.mono HB.out.size))
        replace HS := hide (Nat.le_trans HS.out hb2.size)
        replace HK := hide (show ∀ j, k = some j → j < w20.heap.size from fun j hj => Nat.lt_of_lt_of_le (HK.out j hj) hb2.size)
        have HBl2 := hide (Nat.lt_of_lt_of_le HBl.out hb2.size)
        have HC := hide (rdBool_c b k l c (w20.alloc (.cells #[.slice A3 n3 c3, .int .i64 (rBool (l, c)).1.2] 43)).drew (HR.out.alloc _).drew (by have := HLM.out; have := HLL.out; omega))
        replace HLM : Hid ((rBool (l, c)).1.1.length ≤ l0.length) := hide (Nat.le_trans (rBool_len l c) HLM.out)
        have HBS3 := hide hbs3
        have HKK3 := hide hk3
        have x0 := HX.out.cell 0
        have x1 := HX.out.cell 1
        have y0 := HX.out.froz 0
        have y1 := HX.out.froz 1
        simp only [List.getElem?_toArray, List.getElem?_cons_zero, List.getElem?_cons_succ] at x0 x1
        clear hbs3 hk3 HBS HKK hb2
        have HTL0 : Hid (n3 = (rBool (l, c)).1.1.length) := hn3
        generalize rBool (l, c) = r at *
        obtain ⟨⟨l3, d3⟩, val⟩ := r
        go_wp2_with fail
        refine wp_region_held_drew (S := (fun w' => w'.cell? ⟨w20.heap.size, 0, none⟩ = some (.slice A3 n3 c3) ∧ w'.cell? ⟨w20.heap.size, 1, none⟩ = some (.int .i64 d3))) (by kernel_rfl) (⟨(Blk.new w20 43 #[.slice A3 n3 c3, .int .i64 d3]).drew.cell 0, (Blk.new w20 43 #[.slice A3 n3 c3, .int .i64 d3]).drew.cell 1⟩) (fun hS0 => ?_)
        refine wpAnyH_take (i := 0) (v := ?vq20) rfl (by kernel_rfl) (by kernel_rfl) (by kernel_rfl) (fun _ _ _ h => h) (Or.inl ⟨by rfl, ?hyq20⟩) (by assumption) ?restq20
        case hyq20 => (intro w hSw; (try dsimp only at hSw); go_simp; first | done | (with_reducible rfl))
        try simp only [Act.put, List.getElem_toArray, List.getElem_cons_zero, List.getElem_cons_succ, List.setIfInBounds_toArray, List.set_cons_zero, List.set_cons_succ]
        refine wpAnyH_take (i := 1) (v := ?vq21) rfl (by kernel_rfl) (by kernel_rfl) (by kernel_rfl) (fun _ _ _ h => h) (Or.inl ⟨by rfl, ?hyq21⟩) (by assumption) ?restq21
        case hyq21 => (intro w hSw; (try dsimp only at hSw); go_simp; first | done | (with_reducible rfl))
        try simp only [Act.put, List.getElem_toArray, List.getElem_cons_zero, List.getElem_cons_succ, List.setIfInBounds_toArray, List.set_cons_zero, List.set_cons_succ]
        refine wpAnyH_take (i := 3) (v := ?vq22) rfl (by kernel_rfl) (by kernel_rfl) (by kernel_rfl) (fun _ _ _ h => h) (Or.inl ⟨by rfl, ?hyq22⟩) (by assumption) ?restq22
        case hyq22 => (intro w hSw; (try dsimp only at hSw); go_simp; first | done | (with_reducible rfl))
        try simp only [Act.put, List.getElem_toArray, List.getElem_cons_zero, List.getElem_cons_succ, List.setIfInBounds_toArray, List.set_cons_zero, List.set_cons_succ]
        refine wpAnyH_ready (rs := [2]) (by kernel_rfl) (by simp) ?_
        refine AllReadyH.cons rfl (fun K0 hK0 => ?_) AllReadyH.nil
        go_simp
        refine HC.out.mono ?_
        rintro e w21 ⟨rfl, hr, ht⟩
        have HN := hide (((Blk.new w20 43 #[.slice A3 n3 c3, .int .i64 d3]).drew).touch ht (by simp; have := HR.out.lt; omega))
        refine hK0.out _ _ (⟨HN.out.cell 0, HN.out.cell 1⟩) (fun hS1 => ?_)
        clear hK0 K0
        try simp only [Act.put, List.getElem_toArray, List.getElem_cons_zero, List.getElem_cons_succ, List.setIfInBounds_toArray, List.set_cons_zero, List.set_cons_succ]
        refine wpAnyH_take (i := 4) (v := ?vq2e) rfl (by kernel_rfl) (by kernel_rfl) (by kernel_rfl) (fun _ _ _ h => h) (Or.inl ⟨by rfl, ?hyq2e⟩) (by assumption) ?restq2e
        case hyq2e => (intro w hSw; (try dsimp only at hSw); go_simp; first | done | (with_reducible rfl))
        try simp only [Act.put, List.getElem_toArray, List.getElem_cons_zero, List.getElem_cons_succ, List.setIfInBounds_toArray, List.set_cons_zero, List.set_cons_succ]
        replace HR := hide hr
        replace HX := hide (((HX.out.alloc _).drew).touch ht (by simp; exact fun e => HBB1.out e.symm))
        have x0 := HX.out.cell 0
        have x1 := HX.out.cell 1
        have y0 := HX.out.froz 0
        have y1 := HX.out.froz 1
        simp only [List.getElem?_toArray, List.getElem?_cons_zero, List.getElem?_cons_succ] at x0 x1
        refine wpAnyH_ready (rs := [5]) (by kernel_rfl) (by simp) ?_
        refine AllReadyH.cons rfl (fun K0 hK0 => ?_) AllReadyH.nil
        go_simp
        have HN2 := hide (((HN.out.far (p := ⟨w12.heap.size, 0, none⟩) (by have := HBl2.out; simp; omega) (.slice A3 n3 c3)).far (p := ⟨w12.heap.size, 1, none⟩) (by have := HBl2.out; simp; omega) (.int .i64 d3)))
        refine hK0.out _ _ (⟨HN2.out.cell 0, HN2.out.cell 1⟩) (fun hS2 => ?_)
        clear hK0 K0
        try simp only [Act.put, List.getElem_toArray, List.getElem_cons_zero, List.getElem_cons_succ, List.setIfInBounds_toArray, List.set_cons_zero, List.set_cons_succ]
        refine wpAnyH_take (i := 6) (v := ?vq2f) rfl (by kernel_rfl) (by kernel_rfl) (by kernel_rfl) (fun _ _ _ h => h) (Or.inl ⟨by rfl, ?hyq2f⟩) (by assumption) ?restq2f
        case hyq2f => (intro w hSw; (try dsimp only at hSw); go_simp; first | done | (with_reducible rfl))
        try simp only [Act.put, List.getElem_toArray, List.getElem_cons_zero, List.getElem_cons_succ, List.setIfInBounds_toArray, List.set_cons_zero, List.set_cons_succ]
        refine wpAnyH_done (by kernel_rfl) ?_ _
        replace HX : Hid (Blk ((w21.setCell ⟨w12.heap.size, 0, none⟩ (.slice A3 n3 c3)).setCell ⟨w12.heap.size, 1, none⟩ (.int .i64 d3)) w12.heap.size 43 #[.slice A3 n3 c3, .int .i64 d3]) := hide ((HX.out.put 0 _).put 1 _)
        have HTS : Hid (Touch [w12.heap.size] w21 ((w21.setCell ⟨w12.heap.size, 0, none⟩ (.slice A3 n3 c3)).setCell ⟨w12.heap.size, 1, none⟩ (.int .i64 d3))) := hide (((Touch.refl [w12.heap.size] w21).set (by simp) 0 _).set (by simp) 1 _)
        replace HR := hide (HR.out.touch HTS.out (by simp; exact HBB1.out) (fun j hj => by simp; exact HBK.out j hj))
        have HT0 : Hid (Touch [b] w20 w21) := hide (((Touch.refl [b] w20).alloc _).drew.trans ht)
        have HBS : Hid (Bs ((w21.setCell ⟨w12.heap.size, 0, none⟩ (.slice A3 n3 c3)).setCell ⟨w12.heap.size, 1, none⟩ (.int .i64 d3)) (.slice A3 n3 c3) l3) := hide ((HBS3.out.touchN HT0.out (fun hne j hj => by simp; exact HKb.out j (HKK3.out hne j hj))).touchN HTS.out (fun hne j hj => by simp; exact HKB.out j (HKK3.out hne j hj)))
        have HKK := HKK3
        replace HB := hide (Below.touch (Below.touch HB.out HT0.out (by simp; exact HBG.out) HB.out.size) HTS.out (by simp; have := HWS.out; omega) (Nat.le_trans HB.out.size HT0.out.size))
        replace HS := hide (Nat.le_trans HS.out (Nat.le_trans HT0.out.size HTS.out.size))
        obtain ⟨w22, hw22⟩ : ∃ w22, w22 = (w21.setCell ⟨w12.heap.size, 0, none⟩ (.slice A3 n3 c3)).setCell ⟨w12.heap.size, 1, none⟩ (.int .i64 d3) := ⟨_, rfl⟩
        rw [← hw22] at HX HR HBS HB HS ⊢
        clear hw22 hS0 hS1 hS2 HN HN2 hr ht x0 x1 y0 y1 HT0 HTS HBS3 HKK3
        have HTL : Hid (l3.length = n3) := hide (HTL0.out.symm)
        have x0 := HX.out.cell 0
        have x1 := HX.out.cell 1
        simp only [List.getElem?_toArray, List.getElem?_cons_zero, List.getElem?_cons_succ] at x0 x1
        go_wp2_with fail
        refine wp_region_held_drew (S := (fun w' => w'.cell? ⟨w12.heap.size, 0, none⟩ = some (.slice A3 n3 c3) ∧ w'.cell? ⟨w12.heap.size, 1, none⟩ = some (.int .i64 d3))) (by kernel_rfl) (⟨x0, x1⟩) (fun hS0 => ?_)
        refine wpAnyH_take (i := 0) (v := ?vT20) rfl (by kernel_rfl) (by kernel_rfl) (by kernel_rfl) (fun _ _ _ h => h) (Or.inl ⟨by rfl, ?hyT20⟩) (by assumption) ?restT20
        case hyT20 => (intro w hSw; (try dsimp only at hSw); go_simp; first | done | (with_reducible rfl))
        try simp only [Act.put, List.getElem_toArray, List.getElem_cons_zero, List.getElem_cons_succ, List.setIfInBounds_toArray, List.set_cons_zero, List.set_cons_succ]
        refine wpAnyH_take (i := 1) (v := ?vT21) rfl (by kernel_rfl) (by kernel_rfl) (by kernel_rfl) (fun _ _ _ h => h) (Or.inl ⟨by rfl, ?hyT21⟩) (by assumption) ?restT21
        case hyT21 => (intro w hSw; (try dsimp only at hSw); go_simp; first | done | (with_reducible rfl))
        try simp only [Act.put, List.getElem_toArray, List.getElem_cons_zero, List.getElem_cons_succ, List.setIfInBounds_toArray, List.set_cons_zero, List.set_cons_succ]
        refine wpAnyH_take (i := 2) (v := ?vT22) rfl (by kernel_rfl) (by kernel_rfl) (by kernel_rfl) (fun _ _ _ h => h) (Or.inl ⟨by rfl, ?hyT22⟩) (by assumption) ?restT22
        case hyT22 => (intro w hSw; (try dsimp only at hSw); go_simp; first | done | (with_reducible rfl))
        try simp only [Act.put, List.getElem_toArray, List.getElem_cons_zero, List.getElem_cons_succ, List.setIfInBounds_toArray, List.set_cons_zero, List.set_cons_succ]
        refine wpAnyH_take (i := 3) (v := ?vT23) rfl (by kernel_rfl) (by kernel_rfl) (by kernel_rfl) (fun _ _ _ h => h) (Or.inl ⟨by rfl, ?hyT23⟩) (by assumption) ?restT23
        case hyT23 => (intro w hSw; (try dsimp only at hSw); go_simp; first | done | (with_reducible rfl))
        try simp only [Act.put, List.getElem_toArray, List.getElem_cons_zero, List.getElem_cons_succ, List.setIfInBounds_toArray, List.set_cons_zero, List.set_cons_succ]
        refine wpAnyH_take (i := 5) (v := ?vT24) rfl (by kernel_rfl) (by kernel_rfl) (by kernel_rfl) (fun _ _ _ h => h) (Or.inl ⟨by rfl, ?hyT24⟩) (by assumption) ?restT24
        case hyT24 => (intro w hSw; (try dsimp only at hSw); go_simp; first | done | (with_reducible rfl))
        try simp only [Act.put, List.getElem_toArray, List.getElem_cons_zero, List.getElem_cons_succ, List.setIfInBounds_toArray, List.set_cons_zero, List.set_cons_succ]
        refine wpAnyH_take (i := 6) (v := ?vT25) rfl (by kernel_rfl) (by kernel_rfl) (by kernel_rfl) (fun _ _ _ h => h) (Or.inl ⟨by rfl, ?hyT25⟩) (by assumption) ?restT25
        case hyT25 => (intro w hSw; (try dsimp only at hSw); go_simp; first | done | (with_reducible rfl))
        try simp only [Act.put, List.getElem_toArray, List.getElem_cons_zero, List.getElem_cons_succ, List.setIfInBounds_toArray, List.set_cons_zero, List.set_cons_succ]
        refine wpAnyH_take (i := 7) (v := ?vT26) rfl (by kernel_rfl) (by kernel_rfl) (by kernel_rfl) (fun _ _ _ h => h) (Or.inl ⟨by rfl, ?hyT26⟩) (by assumption) ?restT26
        case hyT26 => (intro w hSw; (try dsimp only at hSw); go_simp; first | done | (with_reducible rfl))
        try simp only [Act.put, List.getElem_toArray, List.getElem_cons_zero, List.getElem_cons_succ, List.setIfInBounds_toArray, List.set_cons_zero, List.set_cons_succ]
        refine wpAnyH_ready (rs := [4]) (by kernel_rfl) (by simp) ?_
        refine AllReadyH.cons rfl (fun K hK => ?_) AllReadyH.nil
        go_simp
        refine (left_c b k (l3) (d3) _ HR.out.drew).mono ?_
        rintro e wl1 ⟨rfl, rfl⟩
        rw [HTL.out]
        refine hK.out _ _ (⟨x0, x1⟩) (fun hS7 => ?_)
        clear hK K
        try simp only [Act.put, List.getElem_toArray, List.getElem_cons_zero, List.getElem_cons_succ, List.setIfInBounds_toArray, List.set_cons_zero, List.set_cons_succ]
        refine wpAnyH_take (i := 8) (v := ?vT28) rfl (by kernel_rfl) (by kernel_rfl) (by kernel_rfl) (fun _ _ _ h => h) (Or.inl ⟨by rfl, ?hyT28⟩) (by assumption) ?restT28
        case hyT28 => (intro w hSw; (try dsimp only at hSw); go_simp; first | done | (with_reducible rfl))
        try simp only [Act.put, List.getElem_toArray, List.getElem_cons_zero, List.getElem_cons_succ, List.setIfInBounds_toArray, List.set_cons_zero, List.set_cons_succ]
        refine wpAnyH_take (i := 9) (v := ?vT29) rfl (by kernel_rfl) (by kernel_rfl) (by kernel_rfl) (fun _ _ _ h => h) (Or.inl ⟨by rfl, ?hyT29⟩) (by assumption) ?restT29
        case hyT29 => (intro w hSw; (try dsimp only at hSw); go_simp; first | done | (with_reducible rfl))
        try simp only [Act.put, List.getElem_toArray, List.getElem_cons_zero, List.getElem_cons_succ, List.setIfInBounds_toArray, List.set_cons_zero, List.set_cons_succ]
        refine wpAnyH_take (i := 10) (v := ?vT210) rfl (by kernel_rfl) (by kernel_rfl) (by kernel_rfl) (fun _ _ _ h => h) (Or.inl ⟨by rfl, ?hyT210⟩) (by assumption) ?restT210
        case hyT210 => (intro w hSw; (try dsimp only at hSw); go_simp; first | done | (with_reducible rfl))
        try simp only [Act.put, List.getElem_toArray, List.getElem_cons_zero, List.getElem_cons_succ, List.setIfInBounds_toArray, List.set_cons_zero, List.set_cons_succ]
        refine wpAnyH_take (i := 11) (v := ?vT211) rfl (by kernel_rfl) (by kernel_rfl) (by kernel_rfl) (fun _ _ _ h => h) (Or.inl ⟨by rfl, ?hyT211⟩) (by assumption) ?restT211
        case hyT211 => (intro w hSw; (try dsimp only at hSw); go_simp; first | done | (with_reducible rfl))
        try simp only [Act.put, List.getElem_toArray, List.getElem_cons_zero, List.getElem_cons_succ, List.setIfInBounds_toArray, List.set_cons_zero, List.set_cons_succ]
        refine wpAnyH_take (i := 13) (v := ?vT212) rfl (by kernel_rfl) (by kernel_rfl) (by kernel_rfl) (fun _ _ _ h => h) (Or.inl ⟨by rfl, ?hyT212⟩) (by assumption) ?restT212
        case hyT212 => (intro w hSw; (try dsimp only at hSw); go_simp; first | done | (with_reducible rfl))
        try simp only [Act.put, List.getElem_toArray, List.getElem_cons_zero, List.getElem_cons_succ, List.setIfInBounds_toArray, List.set_cons_zero, List.set_cons_succ]
        refine wpAnyH_ready (rs := [12]) (by kernel_rfl) (by simp) ?_
        refine AllReadyH.cons rfl (fun K hK => ?_) AllReadyH.nil
        go_simp
        refine (end_c b k (l3) (d3) _ HR.out.drew).mono ?_
        rintro e wl2 ⟨rfl, rfl⟩
        refine hK.out _ _ (⟨x0, x1⟩) (fun hS13 => ?_)
        clear hK K
        try simp only [Act.put, List.getElem_toArray, List.getElem_cons_zero, List.getElem_cons_succ, List.setIfInBounds_toArray, List.set_cons_zero, List.set_cons_succ]
        refine wpAnyH_ready (rs := [14]) (by kernel_rfl) (by simp) ?_
        refine AllReadyH.cons rfl (fun K hK => ?_) AllReadyH.nil
        go_simp
        refine (refEnd_c KB (.agg #[(.slice A3 n3 c3), .int .i64 d3]) (l3) (d3) _ ⟨_, rfl, HBS.out.drew, HKK.out⟩).mono ?_
        rintro e wl3 ⟨rfl, hb⟩
        have HX2 := hide (HX.out.drew.step hb)
        refine hK.out _ _ (⟨HX2.out.cell 0, HX2.out.cell 1⟩) (fun hS14 => ?_)
        clear hK K
        try simp only [Act.put, List.getElem_toArray, List.getElem_cons_zero, List.getElem_cons_succ, List.setIfInBounds_toArray, List.set_cons_zero, List.set_cons_succ]
        refine wpAnyH_take (i := 15) (v := ?vT215) rfl (by kernel_rfl) (by kernel_rfl) (by kernel_rfl) (fun _ _ _ h => h) (Or.inl ⟨by rfl, ?hyT215⟩) (by assumption) ?restT215
        case hyT215 => (intro w hSw; (try dsimp only at hSw); go_simp; first | done | (with_reducible rfl))
        try simp only [Act.put, List.getElem_toArray, List.getElem_cons_zero, List.getElem_cons_succ, List.setIfInBounds_toArray, List.set_cons_zero, List.set_cons_succ]
        refine wpAnyH_take (i := 16) (v := ?vT216) rfl (by kernel_rfl) (by kernel_rfl) (by kernel_rfl) (fun _ _ _ h => h) (Or.inl ⟨by rfl, ?hyT216⟩) (by assumption) ?restT216
        case hyT216 => (intro w hSw; (try dsimp only at hSw); go_simp; first | done | (with_reducible rfl))
        try simp only [Act.put, List.getElem_toArray, List.getElem_cons_zero, List.getElem_cons_succ, List.setIfInBounds_toArray, List.set_cons_zero, List.set_cons_succ]
        refine wpAnyH_done (by kernel_rfl) ?_ _
        go_wp2_with fail
        go_roundw
        case rel => exact ⟨j + 1, l3, d3, by go_num, by omega, HLM.out, Rd.step HR.out.drew hb, ⟨_, HX2.out, HBS.out.drew.step hb, HKK.out⟩, HB.out.drew.trans (hb.mono HB.out.size), Nat.le_trans HS.out hb.size⟩
        case measure => simp [intOf]; omega
      have hz2 : (u8 z == 2) = false := by simpa using hz
      clear hz
      by_cases hz : u8 z = 3
      · rw [hz] at hcell
        clear hz0
        go_wp2_with fail
        refine (getText_c KB (.agg #[.slice A2 n2 c2, .int .i64 c]) l c wr ⟨_, rfl, HBS.out, HKK.out⟩ HKW.out).mono ?_
        rintro e w20 ⟨rv, rfl, hrv, hb2⟩
        obtain ⟨v3, rfl, hbs3, hk3⟩ := hrv
        obtain ⟨A3, n3, c3, rfl, hn3, _, _⟩ := hbs3.formN
        replace HR := hide (HR.out.step hb2)
        replace HX := hide (HX.out.step hb2)
        replace HB := hide (HB.out.trans (hb2.mono HB.out.size))
        replace HS := hide (Nat.le_trans HS.out hb2.size)
        replace HK := hide (show ∀ j, k = some j → j < w20.heap.size from fun j hj => Nat.lt_of_lt_of_le (HK.out j hj) hb2.size)
        have HBl2 := hide (Nat.lt_of_lt_of_le HBl.out hb2.size)
        have HC := hide (rdText_c b k l c (w20.alloc (.cells #[.slice A3 n3 c3, .int .i64 (rText (l, c)).1.2] 43)).drew (HR.out.alloc _).drew (by have := HLM.out; have := HLL.out; omega) (fun j hj => by have := HK.out j hj; simp; omega))
        replace HLM : Hid ((rText (l, c)).1.1.length ≤ l0.length) := hide (Nat.le_trans (rText_len l c) HLM.out)
        have HBS3 := hide hbs3
        have HKK3 := hide hk3
        have x0 := HX.out.cell 0
        have x1 := HX.out.cell 1
        have y0 := HX.out.froz 0
        have y1 := HX.out.froz 1
        simp only [List.getElem?_toArray, List.getElem?_cons_zero, List.getElem?_cons_succ] at x0 x1
        clear hbs3 hk3 HBS HKK hb2
        have HTL0 : Hid (n3 = (rText (l, c)).1.1.length) := hn3
        generalize rText (l, c) = r at *
        obtain ⟨⟨l3, d3⟩, val⟩ := r
        go_wp2_with fail
        refine wp_region_held_drew (S := (fun w' => w'.cell? ⟨w20.heap.size, 0, none⟩ = some (.slice A3 n3 c3) ∧ w'.cell? ⟨w20.heap.size, 1, none⟩ = some (.int .i64 d3))) (by kernel_rfl) (⟨(Blk.new w20 43 #[.slice A3 n3 c3, .int .i64 d3]).drew.cell 0, (Blk.new w20 43 #[.slice A3 n3 c3, .int .i64 d3]).drew.cell 1⟩) (fun hS0 => ?_)
        refine wpAnyH_take (i := 0) (v := ?vq30) rfl (by kernel_rfl) (by kernel_rfl) (by kernel_rfl) (fun _ _ _ h => h) (Or.inl ⟨by rfl, ?hyq30⟩) (by assumption) ?restq30
        case hyq30 => (intro w hSw; (try dsimp only at hSw); go_simp; first | done | (with_reducible rfl))
        try simp only [Act.put, List.getElem_toArray, List.getElem_cons_zero, List.getElem_cons_succ, List.setIfInBounds_toArray, List.set_cons_zero, List.set_cons_succ]
        refine wpAnyH_take (i := 1) (v := ?vq31) rfl (by kernel_rfl) (by kernel_rfl) (by kernel_rfl) (fun _ _ _ h => h) (Or.inl ⟨by rfl, ?hyq31⟩) (by assumption) ?restq31
        case hyq31 => (intro w hSw; (try dsimp only at hSw); go_simp; first | done | (with_reducible rfl))
        try simp only [Act.put, List.getElem_toArray, List.getElem_cons_zero, List.getElem_cons_succ, List.setIfInBounds_toArray, List.set_cons_zero, List.set_cons_succ]
        refine wpAnyH_take (i := 3) (v := ?vq32) rfl (by kernel_rfl) (by kernel_rfl) (by kernel_rfl) (fun _ _ _ h => h) (Or.inl ⟨by rfl, ?hyq32⟩) (by assumption) ?restq32
        case hyq32 => (intro w hSw; (try dsimp only at hSw); go_simp; first | done | (with_reducible rfl))
        try simp only [Act.put, List.getElem_toArray, List.getElem_cons_zero, List.getElem_cons_succ, List.setIfInBounds_toArray, List.set_cons_zero, List.set_cons_succ]
        refine wpAnyH_ready (rs := [2]) (by kernel_rfl) (by simp) ?_
        refine AllReadyH.cons rfl (fun K0 hK0 => ?_) AllReadyH.nil
        go_simp
        refine HC.out.mono ?_
        rintro e w21 ⟨rfl, hr, ht⟩
        have HN := hide (((Blk.new w20 43 #[.slice A3 n3 c3, .int .i64 d3]).drew).touch ht (by simp; have := HR.out.lt; omega))
        refine hK0.out _ _ (⟨HN.out.cell 0, HN.out.cell 1⟩) (fun hS1 => ?_)
        clear hK0 K0
        try simp only [Act.put, List.getElem_toArray, List.getElem_cons_zero, List.getElem_cons_succ, List.setIfInBounds_toArray, List.set_cons_zero, List.set_cons_succ]
        refine wpAnyH_take (i := 4) (v := ?vq3e) rfl (by kernel_rfl) (by kernel_rfl) (by kernel_rfl) (fun _ _ _ h => h) (Or.inl ⟨by rfl, ?hyq3e⟩) (by assumption) ?restq3e
        case hyq3e => (intro w hSw; (try dsimp only at hSw); go_simp; first | done | (with_reducible rfl))
        try simp only [Act.put, List.getElem_toArray, List.getElem_cons_zero, List.getElem_cons_succ, List.setIfInBounds_toArray, List.set_cons_zero, List.set_cons_succ]
        replace HR := hide hr
        replace HX := hide (((HX.out.alloc _).drew).touch ht (by simp; exact fun e => HBB1.out e.symm))
        have x0 := HX.out.cell 0
        have x1 := HX.out.cell 1
        have y0 := HX.out.froz 0
        have y1 := HX.out.froz 1
        simp only [List.getElem?_toArray, List.getElem?_cons_zero, List.getElem?_cons_succ] at x0 x1
        refine wpAnyH_ready (rs := [5]) (by kernel_rfl) (by simp) ?_
        refine AllReadyH.cons rfl (fun K0 hK0 => ?_) AllReadyH.nil
        go_simp
        have HN2 := hide (((HN.out.far (p := ⟨w12.heap.size, 0, none⟩) (by have := HBl2.out; simp; omega) (.slice A3 n3 c3)).far (p := ⟨w12.heap.size, 1, none⟩) (by have := HBl2.out; simp; omega) (.int .i64 d3)))
        refine hK0.out _ _ (⟨HN2.out.cell 0, HN2.out.cell 1⟩) (fun hS2 => ?_)
        clear hK0 K0
        try simp only [Act.put, List.getElem_toArray, List.getElem_cons_zero, List.getElem_cons_succ, List.setIfInBounds_toArray, List.set_cons_zero, List.set_cons_succ]
        refine wpAnyH_take (i := 6) (v := ?vq3f) rfl (by kernel_rfl) (by kernel_rfl) (by kernel_rfl) (fun _ _ _ h => h) (Or.inl ⟨by rfl, ?hyq3f⟩) (by assumption) ?restq3f
        case hyq3f => (intro w hSw; (try dsimp only at hSw); go_simp; first | done | (with_reducible rfl))
        try simp only [Act.put, List.getElem_toArray, List.getElem_cons_zero, List.getElem_cons_succ, List.setIfInBounds_toArray, List.set_cons_zero, List.set_cons_succ]
        refine wpAnyH_done (by kernel_rfl) ?_ _
        replace HX : Hid (Blk ((w21.setCell ⟨w12.heap.size, 0, none⟩ (.slice A3 n3 c3)).setCell ⟨w12.heap.size, 1, none⟩ (.int .i64 d3)) w12.heap.size 43 #[.slice A3 n3 c3, .int .i64 d3]) := hide ((HX.out.put 0 _).put 1 _)
        have HTS : Hid (Touch [w12.heap.size] w21 ((w21.setCell ⟨w12.heap.size, 0, none⟩ (.slice A3 n3 c3)).setCell ⟨w12.heap.size, 1, none⟩ (.int .i64 d3))) := hide (((Touch.refl [w12.heap.size] w21).set (by simp) 0 _).set (by simp) 1 _)
        replace HR := hide (HR.out.touch HTS.out (by simp; exact HBB1.out) (fun j hj => by simp; exact HBK.out j hj))
        have HT0 : Hid (Touch [b] w20 w21) := hide (((Touch.refl [b] w20).alloc _).drew.trans ht)
        have HBS : Hid (Bs ((w21.setCell ⟨w12.heap.size, 0, none⟩ (.slice A3 n3 c3)).setCell ⟨w12.heap.size, 1, none⟩ (.int .i64 d3)) (.slice A3 n3 c3) l3) := hide ((HBS3.out.touchN HT0.out (fun hne j hj => by simp; exact HKb.out j (HKK3.out hne j hj))).touchN HTS.out (fun hne j hj => by simp; exact HKB.out j (HKK3.out hne j hj)))
        have HKK := HKK3
        replace HB := hide (Below.touch (Below.touch HB.out HT0.out (by simp; exact HBG.out) HB.out.size) HTS.out (by simp; have := HWS.out; omega) (Nat.le_trans HB.out.size HT0.out.size))
        replace HS := hide (Nat.le_trans HS.out (Nat.le_trans HT0.out.size HTS.out.size))
        obtain ⟨w22, hw22⟩ : ∃ w22, w22 = (w21.setCell ⟨w12.heap.size, 0, none⟩ (.slice A3 n3 c3)).setCell ⟨w12.heap.size, 1, none⟩ (.int .i64 d3) := ⟨_, rfl⟩
        rw [← hw22] at HX HR HBS HB HS ⊢
        clear hw22 hS0 hS1 hS2 HN HN2 hr ht x0 x1 y0 y1 HT0 HTS HBS3 HKK3
        have HTL : Hid (l3.length = n3) := hide (HTL0.out.symm)
        have x0 := HX.out.cell 0
        have x1 := HX.out.cell 1
        simp only [List.getElem?_toArray, List.getElem?_cons_zero, List.getElem?_cons_succ] at x0 x1
        go_wp2_with fail
        refine wp_region_held_drew (S := (fun w' => w'.cell? ⟨w12.heap.size, 0, none⟩ = some (.slice A3 n3 c3) ∧ w'.cell? ⟨w12.heap.size, 1, none⟩ = some (.int .i64 d3))) (by kernel_rfl) (⟨x0, x1⟩) (fun hS0 => ?_)
        refine wpAnyH_take (i := 0) (v := ?vT30) rfl (by kernel_rfl) (by kernel_rfl) (by kernel_rfl) (fun _ _ _ h => h) (Or.inl ⟨by rfl, ?hyT30⟩) (by assumption) ?restT30
        case hyT30 => (intro w hSw; (try dsimp only at hSw); go_simp; first | done | (with_reducible rfl))
        try simp only [Act.put, List.getElem_toArray, List.getElem_cons_zero, List.getElem_cons_succ, List.setIfInBounds_toArray, List.set_cons_zero, List.set_cons_succ]
        refine wpAnyH_take (i := 1) (v := ?vT31) rfl (by kernel_rfl) (by kernel_rfl) (by kernel_rfl) (fun _ _ _ h => h) (Or.inl ⟨by rfl, ?hyT31⟩) (by assumption) ?restT31
        case hyT31 => (intro w hSw; (try dsimp only at hSw); go_simp; first | done | (with_reducible rfl))
        try simp only [Act.put, List.getElem_toArray, List.getElem_cons_zero, List.getElem_cons_succ, List.setIfInBounds_toArray, List.set_cons_zero, List.set_cons_succ]
        refine wpAnyH_take (i := 2) (v := ?vT32) rfl (by kernel_rfl) (by kernel_rfl) (by kernel_rfl) (fun _ _ _ h => h) (Or.inl ⟨by rfl, ?hyT32⟩) (by assumption) ?restT32
        case hyT32 => (intro w hSw; (try dsimp only at hSw); go_simp; first | done | (with_reducible rfl))
        try simp only [Act.put, List.getElem_toArray, List.getElem_cons_zero, List.getElem_cons_succ, List.setIfInBounds_toArray, List.set_cons_zero, List.set_cons_succ]
        refine wpAnyH_take (i := 3) (v := ?vT33) rfl (by kernel_rfl) (by kernel_rfl) (by kernel_rfl) (fun _ _ _ h => h) (Or.inl ⟨by rfl, ?hyT33⟩) (by assumption) ?restT33
        case hyT33 => (intro w hSw; (try dsimp only at hSw); go_simp; first | done | (with_reducible rfl))
        try simp only [Act.put, List.getElem_toArray, List.getElem_cons_zero, List.getElem_cons_succ, List.setIfInBounds_toArray, List.set_cons_zero, List.set_cons_succ]
        refine wpAnyH_take (i := 5) (v := ?vT34) rfl (by kernel_rfl) (by kernel_rfl) (by kernel_rfl) (fun _ _ _ h => h) (Or.inl ⟨by rfl, ?hyT34⟩) (by assumption) ?restT34
        case hyT34 => (intro w hSw; (try dsimp only at hSw); go_simp; first | done | (with_reducible rfl))
        try simp only [Act.put, List.getElem_toArray, List.getElem_cons_zero, List.getElem_cons_succ, List.setIfInBounds_toArray, List.set_cons_zero, List.set_cons_succ]
        refine wpAnyH_take (i := 6) (v := ?vT35) rfl (by kernel_rfl) (by kernel_rfl) (by kernel_rfl) (fun _ _ _ h => h) (Or.inl ⟨by rfl, ?hyT35⟩) (by assumption) ?restT35
        case hyT35 => (intro w hSw; (try dsimp only at hSw); go_simp; first | done | (with_reducible rfl))
        try simp only [Act.put, List.getElem_toArray, List.getElem_cons_zero, List.getElem_cons_succ, List.setIfInBounds_toArray, List.set_cons_zero, List.set_cons_succ]
        refine wpAnyH_take (i := 7) (v := ?vT36) rfl (by kernel_rfl) (by kernel_rfl) (by kernel_rfl) (fun _ _ _ h => h) (Or.inl ⟨by rfl, ?hyT36⟩) (by assumption) ?restT36
        case hyT36 => (intro w hSw; (try dsimp only at hSw); go_simp; first | done | (with_reducible rfl))
        try simp only [Act.put, List.getElem_toArray, List.getElem_cons_zero, List.getElem_cons_succ, List.setIfInBounds_toArray, List.set_cons_zero, List.set_cons_succ]
        refine wpAnyH_ready (rs := [4]) (by kernel_rfl) (by simp) ?_
        refine AllReadyH.cons rfl (fun K hK => ?_) AllReadyH.nil
        go_simp
        refine (left_c b k (l3) (d3) _ HR.out.drew).mono ?_
        rintro e wl1 ⟨rfl, rfl⟩
        rw [HTL.out]
        refine hK.out _ _ (⟨x0, x1⟩) (fun hS7 => ?_)
        clear hK K
        try simp only [Act.put, List.getElem_toArray, List.getElem_cons_zero, List.getElem_cons_succ, List.setIfInBounds_toArray, List.set_cons_zero, List.set_cons_succ]
        refine wpAnyH_take (i := 8) (v := ?vT38) rfl (by kernel_rfl) (by kernel_rfl) (by kernel_rfl) (fun _ _ _ h => h) (Or.inl ⟨by rfl, ?hyT38⟩) (by assumption) ?restT38
        case hyT38 => (intro w hSw; (try dsimp only at hSw); go_simp; first | done | (with_reducible rfl))
        try simp only [Act.put, List.getElem_toArray, List.getElem_cons_zero, List.getElem_cons_succ, List.setIfInBounds_toArray, List.set_cons_zero, List.set_cons_succ]
        refine wpAnyH_take (i := 9) (v := ?vT39) rfl (by kernel_rfl) (by kernel_rfl) (by kernel_rfl) (fun _ _ _ h => h) (Or.inl ⟨by rfl, ?hyT39⟩) (by assumption) ?restT39
        case hyT39 => (intro w hSw; (try dsimp only at hSw); go_simp; first | done | (with_reducible rfl))
        try simp only [Act.put, List.getElem_toArray, List.getElem_cons_zero, List.getElem_cons_succ, List.setIfInBounds_toArray, List.set_cons_zero, List.set_cons_succ]
        refine wpAnyH_take (i := 10) (v := ?vT310) rfl (by kernel_rfl) (by kernel_rfl) (by kernel_rfl) (fun _ _ _ h => h) (Or.inl ⟨by rfl, ?hyT310⟩) (by assumption) ?restT310
        case hyT310 => (intro w hSw; (try dsimp only at hSw); go_simp; first | done | (with_reducible rfl))
        try simp only [Act.put, List.getElem_toArray, List.getElem_cons_zero, List.getElem_cons_succ, List.setIfInBounds_toArray, List.set_cons_zero, List.set_cons_succ]
        refine wpAnyH_take (i := 11) (v := ?vT311) rfl (by kernel_rfl) (by kernel_rfl) (by kernel_rfl) (fun _ _ _ h => h) (Or.inl ⟨by rfl, ?hyT311⟩) (by assumption) ?restT311
        case hyT311 => (intro w hSw; (try dsimp only at hSw); go_simp; first | done | (with_reducible rfl))
        try simp only [Act.put, List.getElem_toArray, List.getElem_cons_zero, List.getElem_cons_succ, List.setIfInBounds_toArray, List.set_cons_zero, List.set_cons_succ]
        refine wpAnyH_take (i := 13) (v := ?vT312) rfl (by kernel_rfl) (by kernel_rfl) (by kernel_rfl) (fun _ _ _ h => h) (Or.inl ⟨by rfl, ?hyT312⟩) (by assumption) ?restT312
        case hyT312 => (intro w hSw; (try dsimp only at hSw); go_simp; first | done | (with_reducible rfl))
        try simp only [Act.put, List.getElem_toArray, List.getElem_cons_zero, List.getElem_cons_succ, List.setIfInBounds_toArray, List.set_cons_zero, List.set_cons_succ]
        refine wpAnyH_ready (rs := [12]) (by kernel_rfl) (by simp) ?_
        refine AllReadyH.cons rfl (fun K hK => ?_) AllReadyH.nil
        go_simp
        refine (end_c b k (l3) (d3) _ HR.out.drew).mono ?_
        rintro e wl2 ⟨rfl, rfl⟩
        refine hK.out _ _ (⟨x0, x1⟩) (fun hS13 => ?_)
        clear hK K
        try simp only [Act.put, List.getElem_toArray, List.getElem_cons_zero, List.getElem_cons_succ, List.setIfInBounds_toArray, List.set_cons_zero, List.set_cons_succ]
        refine wpAnyH_ready (rs := [14]) (by kernel_rfl) (by simp) ?_
        refine AllReadyH.cons rfl (fun K hK => ?_) AllReadyH.nil
        go_simp
        refine (refEnd_c KB (.agg #[(.slice A3 n3 c3), .int .i64 d3]) (l3) (d3) _ ⟨_, rfl, HBS.out.drew, HKK.out⟩).mono ?_
        rintro e wl3 ⟨rfl, hb⟩
        have HX2 := hide (HX.out.drew.step hb)
        refine hK.out _ _ (⟨HX2.out.cell 0, HX2.out.cell 1⟩) (fun hS14 => ?_)
        clear hK K
        try simp only [Act.put, List.getElem_toArray, List.getElem_cons_zero, List.getElem_cons_succ, List.setIfInBounds_toArray, List.set_cons_zero, List.set_cons_succ]
        refine wpAnyH_take (i := 15) (v := ?vT315) rfl (by kernel_rfl) (by kernel_rfl) (by kernel_rfl) (fun _ _ _ h => h) (Or.inl ⟨by rfl, ?hyT315⟩) (by assumption) ?restT315
        case hyT315 => (intro w hSw; (try dsimp only at hSw); go_simp; first | done | (with_reducible rfl))
        try simp only [Act.put, List.getElem_toArray, List.getElem_cons_zero, List.getElem_cons_succ, List.setIfInBounds_toArray, List.set_cons_zero, List.set_cons_succ]
        refine wpAnyH_take (i := 16) (v := ?vT316) rfl (by kernel_rfl) (by kernel_rfl) (by kernel_rfl) (fun _ _ _ h => h) (Or.inl ⟨by rfl, ?hyT316⟩) (by assumption) ?restT316
        case hyT316 => (intro w hSw; (try dsimp only at hSw); go_simp; first | done | (with_reducible rfl))
        try simp only [Act.put, List.getElem_toArray, List.getElem_cons_zero, List.getElem_cons_succ, List.setIfInBounds_toArray, List.set_cons_zero, List.set_cons_succ]
        refine wpAnyH_done (by kernel_rfl) ?_ _
        go_wp2_with fail
        go_roundw
        case rel => exact ⟨j + 1, l3, d3, by go_num, by omega, HLM.out, Rd.step HR.out.drew hb, ⟨_, HX2.out, HBS.out.drew.step hb, HKK.out⟩, HB.out.drew.trans (hb.mono HB.out.size), Nat.le_trans HS.out hb.size⟩
        case measure => simp [intOf]; omega
      have hz3 : (u8 z == 3) = false := by simpa using hz
      clear hz
      by_cases hz : u8 z = 4
      · rw [hz] at hcell
        clear hz0
        go_wp2_with fail
        refine (getCount_c KB (.agg #[.slice A2 n2 c2, .int .i64 c]) l c x hx1 wr ⟨_, rfl, HBS.out, HKK.out⟩ HKW.out).mono ?_
        rintro e w20 ⟨rv, rfl, hrv, hb2⟩
        obtain ⟨v3, rfl, hbs3, hk3⟩ := hrv
        obtain ⟨A3, n3, c3, rfl, hn3, _, _⟩ := hbs3.formN
        replace HR := hide (HR.out.step hb2)
        replace HX := hide (HX.out.step hb2)
        replace HB := hide (HB.out.trans (hb2.mono HB.out.size))
        replace HS := hide (Nat.le_trans HS.out hb2.size)
        replace HK := hide (show ∀ j, k = some j → j < w20.heap.size from fun j hj => Nat.lt_of_lt_of_le (HK.out j hj) hb2.size)
        have HBl2 := hide (Nat.lt_of_lt_of_le HBl.out hb2.size)
        have HC := hide (rdCount_c b k l c x hx1 (w20.alloc (.cells #[.slice A3 n3 c3, .int .i64 (rCount x (l, c)).1.2] 43)).drew (HR.out.alloc _).drew (by have := HLM.out; have := HLL.out; omega) (fun j hj => by have := HK.out j hj; simp; omega))
        replace HLM : Hid ((rCount x (l, c)).1.1.length ≤ l0.length) := hide (Nat.le_trans (rCount_len x l c) HLM.out)
        have HBS3 := hide hbs3
        have HKK3 := hide hk3
        have x0 := HX.out.cell 0
        have x1 := HX.out.cell 1
        have y0 := HX.out.froz 0
        have y1 := HX.out.froz 1
        simp only [List.getElem?_toArray, List.getElem?_cons_zero, List.getElem?_cons_succ] at x0 x1
        clear hbs3 hk3 HBS HKK hb2
        have HTL0 : Hid (n3 = (rCount x (l, c)).1.1.length) := hn3
        generalize rCount x (l, c) = r at *
        obtain ⟨⟨l3, d3⟩, val⟩ := r
        go_wp2_with fail
        refine wp_region_held_drew (S := (fun w' => w'.cell? ⟨w20.heap.size, 0, none⟩ = some (.slice A3 n3 c3) ∧ w'.cell? ⟨w20.heap.size, 1, none⟩ = some (.int .i64 d3))) (by kernel_rfl) (⟨(Blk.new w20 43 #[.slice A3 n3 c3, .int .i64 d3]).drew.cell 0, (Blk.new w20 43 #[.slice A3 n3 c3, .int .i64 d3]).drew.cell 1⟩) (fun hS0 => ?_)
        refine wpAnyH_take (i := 0) (v := ?vq40) rfl (by kernel_rfl) (by kernel_rfl) (by kernel_rfl) (fun _ _ _ h => h) (Or.inl ⟨by rfl, ?hyq40⟩) (by assumption) ?restq40
        case hyq40 => (intro w hSw; (try dsimp only at hSw); go_simp; first | done | (with_reducible rfl))
        try simp only [Act.put, List.getElem_toArray, List.getElem_cons_zero, List.getElem_cons_succ, List.setIfInBounds_toArray, List.set_cons_zero, List.set_cons_succ]
        refine wpAnyH_take (i := 1) (v := ?vq41) rfl (by kernel_rfl) (by kernel_rfl) (by kernel_rfl) (fun _ _ _ h => h) (Or.inl ⟨by rfl, ?hyq41⟩) (by assumption) ?restq41
        case hyq41 => (intro w hSw; (try dsimp only at hSw); go_simp; first | done | (with_reducible rfl))
        try simp only [Act.put, List.getElem_toArray, List.getElem_cons_zero, List.getElem_cons_succ, List.setIfInBounds_toArray, List.set_cons_zero, List.set_cons_succ]
        refine wpAnyH_take (i := 2) (v := ?vq42) rfl (by kernel_rfl) (by kernel_rfl) (by kernel_rfl) (fun _ _ _ h => h) (Or.inl ⟨by rfl, ?hyq42⟩) (by assumption) ?restq42
        case hyq42 => (intro w hSw; (try dsimp only at hSw); go_simp; first | done | (with_reducible rfl))
        try simp only [Act.put, List.getElem_toArray, List.getElem_cons_zero, List.getElem_cons_succ, List.setIfInBounds_toArray, List.set_cons_zero, List.set_cons_succ]
        refine wpAnyH_take (i := 4) (v := ?vq43) rfl (by kernel_rfl) (by kernel_rfl) (by kernel_rfl) (fun _ _ _ h => h) (Or.inl ⟨by rfl, ?hyq43⟩) (by assumption) ?restq43
        case hyq43 => (intro w hSw; (try dsimp only at hSw); go_simp; first | done | (with_reducible rfl))
        try simp only [Act.put, List.getElem_toArray, List.getElem_cons_zero, List.getElem_cons_succ, List.setIfInBounds_toArray, List.set_cons_zero, List.set_cons_succ]
        refine wpAnyH_ready (rs := [3]) (by kernel_rfl) (by simp) ?_
        refine AllReadyH.cons rfl (fun K0 hK0 => ?_) AllReadyH.nil
        go_simp
        refine HC.out.mono ?_
        rintro e w21 ⟨rfl, hr, ht⟩
        have HN := hide (((Blk.new w20 43 #[.slice A3 n3 c3, .int .i64 d3]).drew).touch ht (by simp; have := HR.out.lt; omega))
        refine hK0.out _ _ (⟨HN.out.cell 0, HN.out.cell 1⟩) (fun hS1 => ?_)
        clear hK0 K0
        try simp only [Act.put, List.getElem_toArray, List.getElem_cons_zero, List.getElem_cons_succ, List.setIfInBounds_toArray, List.set_cons_zero, List.set_cons_succ]
        refine wpAnyH_take (i := 5) (v := ?vq4e) rfl (by kernel_rfl) (by kernel_rfl) (by kernel_rfl) (fun _ _ _ h => h) (Or.inl ⟨by rfl, ?hyq4e⟩) (by assumption) ?restq4e
        case hyq4e => (intro w hSw; (try dsimp only at hSw); go_simp; first | done | (with_reducible rfl))
        try simp only [Act.put, List.getElem_toArray, List.getElem_cons_zero, List.getElem_cons_succ, List.setIfInBounds_toArray, List.set_cons_zero, List.set_cons_succ]
        replace HR := hide hr
        replace HX := hide (((HX.out.alloc _).drew).touch ht (by simp; exact fun e => HBB1.out e.symm))
        have x0 := HX.out.cell 0
        have x1 := HX.out.cell 1
        have y0 := HX.out.froz 0
        have y1 := HX.out.froz 1
        simp only [List.getElem?_toArray, List.getElem?_cons_zero, List.getElem?_cons_succ] at x0 x1
        refine wpAnyH_ready (rs := [6]) (by kernel_rfl) (by simp) ?_
        refine AllReadyH.cons rfl (fun K0 hK0 => ?_) AllReadyH.nil
        go_simp
        have HN2 := hide (((HN.out.far (p := ⟨w12.heap.size, 0, none⟩) (by have := HBl2.out; simp; omega) (.slice A3 n3 c3)).far (p := ⟨w12.heap.size, 1, none⟩) (by have := HBl2.out; simp; omega) (.int .i64 d3)))
        refine hK0.out _ _ (⟨HN2.out.cell 0, HN2.out.cell 1⟩) (fun hS2 => ?_)
        clear hK0 K0
        try simp only [Act.put, List.getElem_toArray, List.getElem_cons_zero, List.getElem_cons_succ, List.setIfInBounds_toArray, List.set_cons_zero, List.set_cons_succ]
        refine wpAnyH_take (i := 7) (v := ?vq4f) rfl (by kernel_rfl) (by kernel_rfl) (by kernel_rfl) (fun _ _ _ h => h) (Or.inl ⟨by rfl, ?hyq4f⟩) (by assumption) ?restq4f
        case hyq4f => (intro w hSw; (try dsimp only at hSw); go_simp; first | done | (with_reducible rfl))
        try simp only [Act.put, List.getElem_toArray, List.getElem_cons_zero, List.getElem_cons_succ, List.setIfInBounds_toArray, List.set_cons_zero, List.set_cons_succ]
        refine wpAnyH_done (by kernel_rfl) ?_ _
        replace HX : Hid (Blk ((w21.setCell ⟨w12.heap.size, 0, none⟩ (.slice A3 n3 c3)).setCell ⟨w12.heap.size, 1, none⟩ (.int .i64 d3)) w12.heap.size 43 #[.slice A3 n3 c3, .int .i64 d3]) := hide ((HX.out.put 0 _).put 1 _)
        have HTS : Hid (Touch [w12.heap.size] w21 ((w21.setCell ⟨w12.heap.size, 0, none⟩ (.slice A3 n3 c3)).setCell ⟨w12.heap.size, 1, none⟩ (.int .i64 d3))) := hide (((Touch.refl [w12.heap.size] w21).set (by simp) 0 _).set (by simp) 1 _)
        replace HR := hide (HR.out.touch HTS.out (by simp; exact HBB1.out) (fun j hj => by simp; exact HBK.out j hj))
        have HT0 : Hid (Touch [b] w20 w21) := hide (((Touch.refl [b] w20).alloc _).drew.trans ht)
        have HBS : Hid (Bs ((w21.setCell ⟨w12.heap.size, 0, none⟩ (.slice A3 n3 c3)).setCell ⟨w12.heap.size, 1, none⟩ (.int .i64 d3)) (.slice A3 n3 c3) l3) := hide ((HBS3.out.touchN HT0.out (fun hne j hj => by simp; exact HKb.out j (HKK3.out hne j hj))).touchN HTS.out (fun hne j hj => by simp; exact HKB.out j (HKK3.out hne j hj)))
        have HKK := HKK3
        replace HB := hide (Below.touch (Below.touch HB.out HT0.out (by simp; exact HBG.out) HB.out.size) HTS.out (by simp; have := HWS.out; omega) (Nat.le_trans HB.out.size HT0.out.size))
        replace HS := hide (Nat.le_trans HS.out (Nat.le_trans HT0.out.size HTS.out.size))
        obtain ⟨w22, hw22⟩ : ∃ w22, w22 = (w21.setCell ⟨w12.heap.size, 0, none⟩ (.slice A3 n3 c3)).setCell ⟨w12.heap.size, 1, none⟩ (.int .i64 d3) := ⟨_, rfl⟩
        rw [← hw22] at HX HR HBS HB HS ⊢
        clear hw22 hS0 hS1 hS2 HN HN2 hr ht x0 x1 y0 y1 HT0 HTS HBS3 HKK3
        have HTL : Hid (l3.length = n3) := hide (HTL0.out.symm)
        have x0 := HX.out.cell 0
        have x1 := HX.out.cell 1
        simp only [List.getElem?_toArray, List.getElem?_cons_zero, List.getElem?_cons_succ] at x0 x1
        go_wp2_with fail
        refine wp_region_held_drew (S := (fun w' => w'.cell? ⟨w12.heap.size, 0, none⟩ = some (.slice A3 n3 c3) ∧ w'.cell? ⟨w12.heap.size, 1, none⟩ = some (.int .i64 d3))) (by kernel_rfl) (⟨x0, x1⟩) (fun hS0 => ?_)
        refine wpAnyH_take (i := 0) (v := ?vT40) rfl (by kernel_rfl) (by kernel_rfl) (by kernel_rfl) (fun _ _ _ h => h) (Or.inl ⟨by rfl, ?hyT40⟩) (by assumption) ?restT40
        case hyT40 => (intro w hSw; (try dsimp only at hSw); go_simp; first | done | (with_reducible rfl))
        try simp only [Act.put, List.getElem_toArray, List.getElem_cons_zero, List.getElem_cons_succ, List.setIfInBounds_toArray, List.set_cons_zero, List.set_cons_succ]
        refine wpAnyH_take (i := 1) (v := ?vT41) rfl (by kernel_rfl) (by kernel_rfl) (by kernel_rfl) (fun _ _ _ h => h) (Or.inl ⟨by rfl, ?hyT41⟩) (by assumption) ?restT41
        case hyT41 => (intro w hSw; (try dsimp only at hSw); go_simp; first | done | (with_reducible rfl))
        try simp only [Act.put, List.getElem_toArray, List.getElem_cons_zero, List.getElem_cons_succ, List.setIfInBounds_toArray, List.set_cons_zero, List.set_cons_succ]
        refine wpAnyH_take (i := 2) (v := ?vT42) rfl (by kernel_rfl) (by kernel_rfl) (by kernel_rfl) (fun _ _ _ h => h) (Or.inl ⟨by rfl, ?hyT42⟩) (by assumption) ?restT42
        case hyT42 => (intro w hSw; (try dsimp only at hSw); go_simp; first | done | (with_reducible rfl))
        try simp only [Act.put, List.getElem_toArray, List.getElem_cons_zero, List.getElem_cons_succ, List.setIfInBounds_toArray, List.set_cons_zero, List.set_cons_succ]
        refine wpAnyH_take (i := 3) (v := ?vT43) rfl (by kernel_rfl) (by kernel_rfl) (by kernel_rfl) (fun _ _ _ h => h) (Or.inl ⟨by rfl, ?hyT43⟩) (by assumption) ?restT43
        case hyT43 => (intro w hSw; (try dsimp only at hSw); go_simp; first | done | (with_reducible rfl))
        try simp only [Act.put, List.getElem_toArray, List.getElem_cons_zero, List.getElem_cons_succ, List.setIfInBounds_toArray, List.set_cons_zero, List.set_cons_succ]
        refine wpAnyH_take (i := 5) (v := ?vT44) rfl (by kernel_rfl) (by kernel_rfl) (by kernel_rfl) (fun _ _ _ h => h) (Or.inl ⟨by rfl, ?hyT44⟩) (by assumption) ?restT44
        case hyT44 => (intro w hSw; (try dsimp only at hSw); go_simp; first | done | (with_reducible rfl))
        try simp only [Act.put, List.getElem_toArray, List.getElem_cons_zero, List.getElem_cons_succ, List.setIfInBounds_toArray, List.set_cons_zero, List.set_cons_succ]
        refine wpAnyH_take (i := 6) (v := ?vT45) rfl (by kernel_rfl) (by kernel_rfl) (by kernel_rfl) (fun _ _ _ h => h) (Or.inl ⟨by rfl, ?hyT45⟩) (by assumption) ?restT45
        case hyT45 => (intro w hSw; (try dsimp only at hSw); go_simp; first | done | (with_reducible rfl))
        try simp only [Act.put, List.getElem_toArray, List.getElem_cons_zero, List.getElem_cons_succ, List.setIfInBounds_toArray, List.set_cons_zero, List.set_cons_succ]
        refine wpAnyH_take (i := 7) (v := ?vT46) rfl (by kernel_rfl) (by kernel_rfl) (by kernel_rfl) (fun _ _ _ h => h) (Or.inl ⟨by rfl, ?hyT46⟩) (by assumption) ?restT46
        case hyT46 => (intro w hSw; (try dsimp only at hSw); go_simp; first | done | (with_reducible rfl))
        try simp only [Act.put, List.getElem_toArray, List.getElem_cons_zero, List.getElem_cons_succ, List.setIfInBounds_toArray, List.set_cons_zero, List.set_cons_succ]
        refine wpAnyH_ready (rs := [4]) (by kernel_rfl) (by simp) ?_
        refine AllReadyH.cons rfl (fun K hK => ?_) AllReadyH.nil
        go_simp
        refine (left_c b k (l3) (d3) _ HR.out.drew).mono ?_
        rintro e wl1 ⟨rfl, rfl⟩
        rw [HTL.out]
        refine hK.out _ _ (⟨x0, x1⟩) (fun hS7 => ?_)
        clear hK K
        try simp only [Act.put, List.getElem_toArray, List.getElem_cons_zero, List.getElem_cons_succ, List.setIfInBounds_toArray, List.set_cons_zero, List.set_cons_succ]
        refine wpAnyH_take (i := 8) (v := ?vT48) rfl (by kernel_rfl) (by kernel_rfl) (by kernel_rfl) (fun _ _ _ h => h) (Or.inl ⟨by rfl, ?hyT48⟩) (by assumption) ?restT48
        case hyT48 => (intro w hSw; (try dsimp only at hSw); go_simp; first | done | (with_reducible rfl))
        try simp only [Act.put, List.getElem_toArray, List.getElem_cons_zero, List.getElem_cons_succ, List.setIfInBounds_toArray, List.set_cons_zero, List.set_cons_succ]
        refine wpAnyH_take (i := 9) (v := ?vT49) rfl (by kernel_rfl) (by kernel_rfl) (by kernel_rfl) (fun _ _ _ h => h) (Or.inl ⟨by rfl, ?hyT49⟩) (by assumption) ?restT49
        case hyT49 => (intro w hSw; (try dsimp only at hSw); go_simp; first | done | (with_reducible rfl))
        try simp only [Act.put, List.getElem_toArray, List.getElem_cons_zero, List.getElem_cons_succ, List.setIfInBounds_toArray, List.set_cons_zero, List.set_cons_succ]
        refine wpAnyH_take (i := 10) (v := ?vT410) rfl (by kernel_rfl) (by kernel_rfl) (by kernel_rfl) (fun _ _ _ h => h) (Or.inl ⟨by rfl, ?hyT410⟩) (by assumption) ?restT410
        case hyT410 => (intro w hSw; (try dsimp only at hSw); go_simp; first | done | (with_reducible rfl))
        try simp only [Act.put, List.getElem_toArray, List.getElem_cons_zero, List.getElem_cons_succ, List.setIfInBounds_toArray, List.set_cons_zero, List.set_cons_succ]
        refine wpAnyH_take (i := 11) (v := ?vT411) rfl (by kernel_rfl) (by kernel_rfl) (by kernel_rfl) (fun _ _ _ h => h) (Or.inl ⟨by rfl, ?hyT411⟩) (by assumption) ?restT411
        case hyT411 => (intro w hSw; (try dsimp only at hSw); go_simp; first | done | (with_reducible rfl))
        try simp only [Act.put, List.getElem_toArray, List.getElem_cons_zero, List.getElem_cons_succ, List.setIfInBounds_toArray, List.set_cons_zero, List.set_cons_succ]
        refine wpAnyH_take (i := 13) (v := ?vT412) rfl (by kernel_rfl) (by kernel_rfl) (by kernel_rfl) (fun _ _ _ h => h) (Or.inl ⟨by rfl, ?hyT412⟩) (by assumption) ?restT412
        case hyT412 => (intro w hSw; (try dsimp only at hSw); go_simp; first | done | (with_reducible rfl))
        try simp only [Act.put, List.getElem_toArray, List.getElem_cons_zero, List.getElem_cons_succ, List.setIfInBounds_toArray, List.set_cons_zero, List.set_cons_succ]
        refine wpAnyH_ready (rs := [12]) (by kernel_rfl) (by simp) ?_
        refine AllReadyH.cons rfl (fun K hK => ?_) AllReadyH.nil
        go_simp
        refine (end_c b k (l3) (d3) _ HR.out.drew).mono ?_
        rintro e wl2 ⟨rfl, rfl⟩
        refine hK.out _ _ (⟨x0, x1⟩) (fun hS13 => ?_)
        clear hK K
        try simp only [Act.put, List.getElem_toArray, List.getElem_cons_zero, List.getElem_cons_succ, List.setIfInBounds_toArray, List.set_cons_zero, List.set_cons_succ]
        refine wpAnyH_ready (rs := [14]) (by kernel_rfl) (by simp) ?_
        refine AllReadyH.cons rfl (fun K hK => ?_) AllReadyH.nil
        go_simp
        refine (refEnd_c KB (.agg #[(.slice A3 n3 c3), .int .i64 d3]) (l3) (d3) _ ⟨_, rfl, HBS.out.drew, HKK.out⟩).mono ?_
        rintro e wl3 ⟨rfl, hb⟩
        have HX2 := hide (HX.out.drew.step hb)
        refine hK.out _ _ (⟨HX2.out.cell 0, HX2.out.cell 1⟩) (fun hS14 => ?_)
        clear hK K
        try simp only [Act.put, List.getElem_toArray, List.getElem_cons_zero, List.getElem_cons_succ, List.setIfInBounds_toArray, List.set_cons_zero, List.set_cons_succ]
        refine wpAnyH_take (i := 15) (v := ?vT415) rfl (by kernel_rfl) (by kernel_rfl) (by kernel_rfl) (fun _ _ _ h => h) (Or.inl ⟨by rfl, ?hyT415⟩) (by assumption) ?restT415
        case hyT415 => (intro w hSw; (try dsimp only at hSw); go_simp; first | done | (with_reducible rfl))
        try simp only [Act.put, List.getElem_toArray, List.getElem_cons_zero, List.getElem_cons_succ, List.setIfInBounds_toArray, List.set_cons_zero, List.set_cons_succ]
        refine wpAnyH_take (i := 16) (v := ?vT416) rfl (by kernel_rfl) (by kernel_rfl) (by kernel_rfl) (fun _ _ _ h => h) (Or.inl ⟨by rfl, ?hyT416⟩) (by assumption) ?restT416
        case hyT416 => (intro w hSw; (try dsimp only at hSw); go_simp; first | done | (with_reducible rfl))
        try simp only [Act.put, List.getElem_toArray, List.getElem_cons_zero, List.getElem_cons_succ, List.setIfInBounds_toArray, List.set_cons_zero, List.set_cons_succ]
        refine wpAnyH_done (by kernel_rfl) ?_ _
        go_wp2_with fail
        go_roundw
        case rel => exact ⟨j + 1, l3, d3, by go_num, by omega, HLM.out, Rd.step HR.out.drew hb, ⟨_, HX2.out, HBS.out.drew.step hb, HKK.out⟩, HB.out.drew.trans (hb.mono HB.out.size), Nat.le_trans HS.out hb.size⟩
        case measure => simp [intOf]; omega
      have hz4 : (u8 z == 4) = false := by simpa using hz
      clear hz
      skip
      have HTL : Hid (l.length = n2) := hide hn2.out.symm
      go_wp2_with fail
      refine wp_region_held_drew (S := (fun w' => w'.cell? ⟨w12.heap.size, 0, none⟩ = some (.slice A2 n2 c2) ∧ w'.cell? ⟨w12.heap.size, 1, none⟩ = some (.int .i64 c))) (by kernel_rfl) (⟨x0, x1⟩) (fun hS0 => ?_)
      refine wpAnyH_take (i := 0) (v := ?vTD0) rfl (by kernel_rfl) (by kernel_rfl) (by kernel_rfl) (fun _ _ _ h => h) (Or.inl ⟨by rfl, ?hyTD0⟩) (by assumption) ?restTD0
      case hyTD0 => (intro w hSw; (try dsimp only at hSw); go_simp; first | done | (with_reducible rfl))
      try simp only [Act.put, List.getElem_toArray, List.getElem_cons_zero, List.getElem_cons_succ, List.setIfInBounds_toArray, List.set_cons_zero, List.set_cons_succ]
      refine wpAnyH_take (i := 1) (v := ?vTD1) rfl (by kernel_rfl) (by kernel_rfl) (by kernel_rfl) (fun _ _ _ h => h) (Or.inl ⟨by rfl, ?hyTD1⟩) (by assumption) ?restTD1
      case hyTD1 => (intro w hSw; (try dsimp only at hSw); go_simp; first | done | (with_reducible rfl))
      try simp only [Act.put, List.getElem_toArray, List.getElem_cons_zero, List.getElem_cons_succ, List.setIfInBounds_toArray, List.set_cons_zero, List.set_cons_succ]
      refine wpAnyH_take (i := 2) (v := ?vTD2) rfl (by kernel_rfl) (by kernel_rfl) (by kernel_rfl) (fun _ _ _ h => h) (Or.inl ⟨by rfl, ?hyTD2⟩) (by assumption) ?restTD2
      case hyTD2 => (intro w hSw; (try dsimp only at hSw); go_simp; first | done | (with_reducible rfl))
      try simp only [Act.put, List.getElem_toArray, List.getElem_cons_zero, List.getElem_cons_succ, List.setIfInBounds_toArray, List.set_cons_zero, List.set_cons_succ]
      refine wpAnyH_take (i := 3) (v := ?vTD3) rfl (by kernel_rfl) (by kernel_rfl) (by kernel_rfl) (fun _ _ _ h => h) (Or.inl ⟨by rfl, ?hyTD3⟩) (by assumption) ?restTD3
      case hyTD3 => (intro w hSw; (try dsimp only at hSw); go_simp; first | done | (with_reducible rfl))
      try simp only [Act.put, List.getElem_toArray, List.getElem_cons_zero, List.getElem_cons_succ, List.setIfInBounds_toArray, List.set_cons_zero, List.set_cons_succ]
      refine wpAnyH_take (i := 5) (v := ?vTD4) rfl (by kernel_rfl) (by kernel_rfl) (by kernel_rfl) (fun _ _ _ h => h) (Or.inl ⟨by rfl, ?hyTD4⟩) (by assumption) ?restTD4
      case hyTD4 => (intro w hSw; (try dsimp only at hSw); go_simp; first | done | (with_reducible rfl))
      try simp only [Act.put, List.getElem_toArray, List.getElem_cons_zero, List.getElem_cons_succ, List.setIfInBounds_toArray, List.set_cons_zero, List.set_cons_succ]
      refine wpAnyH_take (i := 6) (v := ?vTD5) rfl (by kernel_rfl) (by kernel_rfl) (by kernel_rfl) (fun _ _ _ h => h) (Or.inl ⟨by rfl, ?hyTD5⟩) (by assumption) ?restTD5
      case hyTD5 => (intro w hSw; (try dsimp only at hSw); go_simp; first | done | (with_reducible rfl))
      try simp only [Act.put, List.getElem_toArray, List.getElem_cons_zero, List.getElem_cons_succ, List.setIfInBounds_toArray, List.set_cons_zero, List.set_cons_succ]
      refine wpAnyH_take (i := 7) (v := ?vTD6) rfl (by kernel_rfl) (by kernel_rfl) (by kernel_rfl) (fun _ _ _ h => h) (Or.inl ⟨by rfl, ?hyTD6⟩) (by assumption) ?restTD6
      case hyTD6 => (intro w hSw; (try dsimp only at hSw); go_simp; first | done | (with_reducible rfl))
      try simp only [Act.put, List.getElem_toArray, List.getElem_cons_zero, List.getElem_cons_succ, List.setIfInBounds_toArray, List.set_cons_zero, List.set_cons_succ]
      refine wpAnyH_ready (rs := [4]) (by kernel_rfl) (by simp) ?_
      refine AllReadyH.cons rfl (fun K hK => ?_) AllReadyH.nil
      go_simp
      refine (left_c b k (l) (c) _ HR.out.drew).mono ?_
      rintro e wl1 ⟨rfl, rfl⟩
      rw [HTL.out]
      refine hK.out _ _ (⟨x0, x1⟩) (fun hS7 => ?_)
      clear hK K
      try simp only [Act.put, List.getElem_toArray, List.getElem_cons_zero, List.getElem_cons_succ, List.setIfInBounds_toArray, List.set_cons_zero, List.set_cons_succ]
      refine wpAnyH_take (i := 8) (v := ?vTD8) rfl (by kernel_rfl) (by kernel_rfl) (by kernel_rfl) (fun _ _ _ h => h) (Or.inl ⟨by rfl, ?hyTD8⟩) (by assumption) ?restTD8
      case hyTD8 => (intro w hSw; (try dsimp only at hSw); go_simp; first | done | (with_reducible rfl))
      try simp only [Act.put, List.getElem_toArray, List.getElem_cons_zero, List.getElem_cons_succ, List.setIfInBounds_toArray, List.set_cons_zero, List.set_cons_succ]
      refine wpAnyH_take (i := 9) (v := ?vTD9) rfl (by kernel_rfl) (by kernel_rfl) (by kernel_rfl) (fun _ _ _ h => h) (Or.inl ⟨by rfl, ?hyTD9⟩) (by assumption) ?restTD9
      case hyTD9 => (intro w hSw; (try dsimp only at hSw); go_simp; first | done | (with_reducible rfl))
      try simp only [Act.put, List.getElem_toArray, List.getElem_cons_zero, List.getElem_cons_succ, List.setIfInBounds_toArray, List.set_cons_zero, List.set_cons_succ]
      refine wpAnyH_take (i := 10) (v := ?vTD10) rfl (by kernel_rfl) (by kernel_rfl) (by kernel_rfl) (fun _ _ _ h => h) (Or.inl ⟨by rfl, ?hyTD10⟩) (by assumption) ?restTD10
      case hyTD10 => (intro w hSw; (try dsimp only at hSw); go_simp; first | done | (with_reducible rfl))
      try simp only [Act.put, List.getElem_toArray, List.getElem_cons_zero, List.getElem_cons_succ, List.setIfInBounds_toArray, List.set_cons_zero, List.set_cons_succ]
      refine wpAnyH_take (i := 11) (v := ?vTD11) rfl (by kernel_rfl) (by kernel_rfl) (by kernel_rfl) (fun _ _ _ h => h) (Or.inl ⟨by rfl, ?hyTD11⟩) (by assumption) ?restTD11
      case hyTD11 => (intro w hSw; (try dsimp only at hSw); go_simp; first | done | (with_reducible rfl))
      try simp only [Act.put, List.getElem_toArray, List.getElem_cons_zero, List.getElem_cons_succ, List.setIfInBounds_toArray, List.set_cons_zero, List.set_cons_succ]
      refine wpAnyH_take (i := 13) (v := ?vTD12) rfl (by kernel_rfl) (by kernel_rfl) (by kernel_rfl) (fun _ _ _ h => h) (Or.inl ⟨by rfl, ?hyTD12⟩) (by assumption) ?restTD12
      case hyTD12 => (intro w hSw; (try dsimp only at hSw); go_simp; first | done | (with_reducible rfl))
      try simp only [Act.put, List.getElem_toArray, List.getElem_cons_zero, List.getElem_cons_succ, List.setIfInBounds_toArray, List.set_cons_zero, List.set_cons_succ]
      refine wpAnyH_ready (rs := [12]) (by kernel_rfl) (by simp) ?_
      refine AllReadyH.cons rfl (fun K hK => ?_) AllReadyH.nil
      go_simp
      refine (end_c b k (l) (c) _ HR.out.drew).mono ?_
      rintro e wl2 ⟨rfl, rfl⟩
      refine hK.out _ _ (⟨x0, x1⟩) (fun hS13 => ?_)
      clear hK K
      try simp only [Act.put, List.getElem_toArray, List.getElem_cons_zero, List.getElem_cons_succ, List.setIfInBounds_toArray, List.set_cons_zero, List.set_cons_succ]
      refine wpAnyH_ready (rs := [14]) (by kernel_rfl) (by simp) ?_
      refine AllReadyH.cons rfl (fun K hK => ?_) AllReadyH.nil
      go_simp
      refine (refEnd_c KB (.agg #[(.slice A2 n2 c2), .int .i64 c]) (l) (c) _ ⟨_, rfl, HBS.out.drew, HKK.out⟩).mono ?_
      rintro e wl3 ⟨rfl, hb⟩
      have HX2 := hide (HX.out.drew.step hb)
      refine hK.out _ _ (⟨HX2.out.cell 0, HX2.out.cell 1⟩) (fun hS14 => ?_)
      clear hK K
      try simp only [Act.put, List.getElem_toArray, List.getElem_cons_zero, List.getElem_cons_succ, List.setIfInBounds_toArray, List.set_cons_zero, List.set_cons_succ]
      refine wpAnyH_take (i := 15) (v := ?vTD15) rfl (by kernel_rfl) (by kernel_rfl) (by kernel_rfl) (fun _ _ _ h => h) (Or.inl ⟨by rfl, ?hyTD15⟩) (by assumption) ?restTD15
      case hyTD15 => (intro w hSw; (try dsimp only at hSw); go_simp; first | done | (with_reducible rfl))
      try simp only [Act.put, List.getElem_toArray, List.getElem_cons_zero, List.getElem_cons_succ, List.setIfInBounds_toArray, List.set_cons_zero, List.set_cons_succ]
      refine wpAnyH_take (i := 16) (v := ?vTD16) rfl (by kernel_rfl) (by kernel_rfl) (by kernel_rfl) (fun _ _ _ h => h) (Or.inl ⟨by rfl, ?hyTD16⟩) (by assumption) ?restTD16
      case hyTD16 => (intro w hSw; (try dsimp only at hSw); go_simp; first | done | (with_reducible rfl))
      try simp only [Act.put, List.getElem_toArray, List.getElem_cons_zero, List.getElem_cons_succ, List.setIfInBounds_toArray, List.set_cons_zero, List.set_cons_succ]
      refine wpAnyH_done (by kernel_rfl) ?_ _
      go_wp2_with fail
      go_roundw
      case rel => exact ⟨j + 1, l, c, by go_num, by omega, HLM.out, Rd.step HR.out.drew hb, ⟨_, HX2.out, HBS.out.drew.step hb, HKK.out⟩, HB.out.drew.trans (hb.mono HB.out.size), Nat.le_trans HS.out hb.size⟩
      case measure => simp [intOf]; omega
    · obtain rfl : j = q := by omega
      go_wp2_with fail
      go_ret
      exact ⟨rfl, HB.out⟩
end Go.Proofs.Ytobcomognkokmaa
