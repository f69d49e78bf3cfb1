/- The walk of ChecksumLinear. -/
import Derived.Test.YtmnebingmedloaaAwake
namespace Go.Proofs.Ytmnebingmedloaa
open Go.ChangeShapes Go.WideShapes Go.ChangeAt Go.RowKit
set_option linter.unusedVariables false

/-- The first k cells hold a xor b, the rest of the n is zero. -/
@[irreducible] def xc (a b : List UInt8) (n k : Nat) : Array Value := ((List.range n).map fun j => if j < k then bv (a.getD j 0 ^^^ b.getD j 0) else bv 0).toArray
theorem xc_get (a b : List UInt8) (n k j : Nat) (h : j < n) : (xc a b n k)[j]? = some (if j < k then bv (a.getD j 0 ^^^ b.getD j 0) else bv 0) := by
  unfold xc; simp [h]
theorem xc_size (a b : List UInt8) (n k : Nat) : (xc a b n k).size = n := by unfold xc; simp
theorem xc_zero (a b : List UInt8) (n : Nat) : xc a b n 0 = zb n := by
  apply Array.ext_getElem?
  intro i
  by_cases hi : i < n
  · rw [xc_get _ _ _ _ _ hi]; unfold zb; simp [hi]
  · rw [Array.getElem?_eq_none (by rw [xc_size]; omega), Array.getElem?_eq_none (by unfold zb; simp; omega)]
theorem xc_succ (a b : List UInt8) (n k : Nat) (x y : UInt8) (hx : a[k]? = some x) (hy : b[k]? = some y) : (xc a b n k).setIfInBounds k (bv (x ^^^ y)) = xc a b n (k + 1) := by
  apply Array.ext_getElem?
  intro i
  by_cases hi : i < n
  · rw [Array.getElem?_setIfInBounds, xc_size, xc_get _ _ _ _ _ hi, xc_get _ _ _ _ _ hi]
    by_cases hk : k = i
    · subst hk; simp [hi, hx, hy]
    · rw [if_neg hk]
      by_cases h : i < k
      · rw [if_pos h, if_pos (by omega)]
      · rw [if_neg h, if_neg (by omega)]
  · rw [Array.getElem?_eq_none (by rw [Array.size_setIfInBounds, xc_size]; omega), Array.getElem?_eq_none (by rw [xc_size]; omega)]
theorem xc_list (a b : List UInt8) (n : Nat) (ha : n ≤ a.length) (hb : n ≤ b.length) : (xc a b n n).toList = (List.zipWith (· ^^^ ·) (a.take n) (b.take n)).map bv := by
  apply List.ext_getElem?
  intro i
  rw [Array.getElem?_toList]
  by_cases hi : i < n
  · rw [xc_get _ _ _ _ _ hi, if_pos hi]
    have h1 : i < a.length := by omega
    have h2 : i < b.length := by omega
    simp [List.getElem?_zipWith, List.getElem?_take, hi, h1, h2]
  · rw [Array.getElem?_eq_none (by rw [xc_size]; omega), List.getElem?_eq_none (by simp; omega)]

theorem linear_eq (a b : List UInt8) (n : Nat) (ha : n ≤ a.length) (hb : n ≤ b.length) :
    upd 0#32 (a.take n) ^^^ upd 0#32 (b.take n) = upd 0#32 (List.zipWith (· ^^^ ·) (a.take n) (b.take n)) ^^^ upd 0#32 (List.replicate n 0) :=
  linear_law _ _ (by simp; omega) n (by simp; omega)

set_option maxHeartbeats 2000000 in
theorem walkChecksumLinear (W : World) (v0 : Value) (l0 : List UInt8) (h0 : Bs W v0 l0) (v1 : Value) (l1 : List UInt8) (h1 : Bs W v1 l1) :
    Calls Try.prog 4 #[v0, v1] W fun e w' => e = .returned (.bool true) ∧ Below W.heap.size W w' := by
  obtain ⟨A, ca, rfl, hca, hma⟩ := h0.form
  obtain ⟨B, cb, rfl, hcb, hmb⟩ := h1.form
  have H0 := hide h0
  have H1 := hide h1
  clear h0 h1
  have HX := hide (xc_list l0 l1)
  have HE := hide (linear_eq l0 l1)
  generalize hna : l0.length = na at *
  generalize hnb : l1.length = nb at *
  clear hna hnb
  obtain ⟨n, hn, ha, hb⟩ : ∃ n : Nat, (if nb < na then (nb : Int) else na) = n ∧ n ≤ na ∧ n ≤ nb := by
    by_cases h : nb < na
    · exact ⟨nb, by rw [if_pos h], by omega, by omega⟩
    · exact ⟨na, by rw [if_neg h], by omega, by omega⟩
  replace HX := hide (HX.out n ha hb)
  replace HE := hide (HE.out n ha hb)
  by_cases c2 : 200 < n
  · clear HX HE
    go_enter Try.func4, Try.ntmps4
    go_wp2_with fail
    refine (awake_c _).mono ?_
    rintro e w1 ⟨rfl, hb1⟩
    go_wp2_with fail
    go_ret
    exact ⟨rfl, hb1⟩
  have HL := hide (Nat.le_of_not_lt c2)
  go_enter Try.func4, Try.ntmps4
  go_wp2_with fail
  refine (awake_c _).mono ?_
  rintro e w1 ⟨rfl, hb1⟩
  replace H0 := hide (H0.out.step hb1)
  replace H1 := hide (H1.out.step hb1)
  have HB := hide hb1
  have HW1 := hide hb1.size
  have hm := run_make_bytes n (by have := HL.out; omega) w1
  clear hb1
  go_wp2_with fail
  have k0 : Blk (w1.alloc (.cells (zb n) 5)) w1.heap.size 5 (xc l0 l1 n 0) := by rw [xc_zero]; exact Blk.new _ _ _
  have kb : Below w1.heap.size w1 (w1.alloc (.cells (zb n) 5)) := (Below.refl _ _).alloc (Nat.le_refl _) _
  clear hm
  generalize w1.alloc (.cells (zb n) 5) = w2 at *
  generalize hgd : w1.heap.size = gd at *
  have HG := hide hgd
  clear hgd
  go_loopw [21] (fun i wr => ∃ k : Nat, k ≤ n ∧ i = .int .i64 k ∧ Blk wr gd 5 (xc l0 l1 n k) ∧ Below gd w1 wr) (fun i _ => n - (intOf i).toNat)
  case atStart => exact ⟨0, Nat.zero_le _, rfl, k0, kb⟩
  case round =>
    clear k0 kb
    obtain ⟨k, hk, rfl, h2, hb2⟩ := hrel
    by_cases hlt : k < n
    · obtain ⟨ba, oa, x, rfl, hba, hx, hxa⟩ := H0.out.at_ (k := k) (by omega)
      obtain ⟨bb, ob, y, rfl, hbb, hy, hxb⟩ := H1.out.at_ (k := k) (by omega)
      rw [HG.out] at hba hbb
      have e1 : wr.cell? ⟨ba, oa + k, none⟩ = some (.int .u8 (u8 x)) := (hb2.cell (p := ⟨ba, oa + k, none⟩) hba).trans hxa
      have e2 : wr.cell? ⟨bb, ob + k, none⟩ = some (.int .u8 (u8 y)) := (hb2.cell (p := ⟨bb, ob + k, none⟩) hbb).trans hxb
      have hc : wr.cell? ⟨gd, k, none⟩ = some (.int .u8 0) := by rw [h2.cell, xc_get _ _ _ _ _ hlt, if_neg (by omega)]; rfl
      have hf := h2.froz k
      have hxy := u8_xor x y
      have HS := hide (xc_succ l0 l1 n k x y hx hy)
      have HK2 := hide h2
      have HB2 := hide hb2
      have na1 : ba ≠ gd := by omega
      have nb1 : bb ≠ gd := by omega
      clear hx hy hxa hxb h2 hb2
      go_wp2_with fail
      go_region
      go_wp2_with fail
      go_roundw
      case rel =>
        refine ⟨k + 1, by omega, by go_num, ?_, (HB2.out.setCell (p := ⟨gd, k, none⟩) (Nat.le_refl _) _).drew⟩
        rw [← HS.out]
        exact (HK2.out.put k _).drew
      case measure => simp [intOf]; omega
    · obtain rfl : k = n := by omega
      have HN : Hid (k ≤ 140737488355328) := by have := HL.out; unfold Hid; omega
      have hd : Bs wr (.slice (some ⟨gd, 0, none⟩) k k) (List.zipWith (· ^^^ ·) (l0.take k) (l1.take k)) := by
        have hl : k = (List.zipWith (· ^^^ ·) (l0.take k) (l1.take k)).length := by
          have := congrArg List.length HX.out
          rw [Array.length_toList, xc_size, List.length_map] at this
          exact this
        exact Bs.blk h2 HX.out k hl (by rw [← hl]; have := HN.out; unfold maxLen; omega)
      have hs : Below w1.heap.size w1 wr := by rw [HG.out]; exact hb2
      have HA := hide ((H0.out.step hs).drew.take ha)
      have HC := hide ((H1.out.step hs).drew.take hb)
      have HD := hide hd.drew
      have HBl := hide (HB.out.trans (hs.mono HB.out.size)).drew
      have x1 := u32_xor (upd 0#32 (l0.take k)) (upd 0#32 (l1.take k))
      have x2 := u32_xor (upd 0#32 (List.zipWith (· ^^^ ·) (l0.take k) (l1.take k))) (upd 0#32 (List.replicate k 0))
      have x3 : (Go.Proofs.Ytmnebingmedloaa.u32 (upd 0#32 (l0.take k) ^^^ upd 0#32 (l1.take k)) == Go.Proofs.Ytmnebingmedloaa.u32 (upd 0#32 (List.zipWith (· ^^^ ·) (l0.take k) (l1.take k)) ^^^ upd 0#32 (List.replicate k 0))) = true := by rw [HE.out]; simp
      clear h2 hb2 hs hd
      have q1 : k ≤ ca := by omega
      have q2 : k ≤ cb := by omega
      go_wp2_with fail
      refine wp_region_held_drew (S := fun _ => True) (by kernel_rfl) trivial (fun hS0 => ?_)
      refine wpAnyH_take (i := 0) (v := ?vn1) rfl (by kernel_rfl) (by kernel_rfl) (by kernel_rfl) (fun _ _ _ h => h) (Or.inl ⟨by rfl, ?hyn1⟩) (by assumption) ?restn1
      case hyn1 => (intro w hSw; (try dsimp only at hSw); go_simp; first | done | (with_reducible rfl))
      try simp only [Act.put, List.getElem_toArray, List.getElem_cons_zero, List.getElem_cons_succ, List.setIfInBounds_toArray, List.set_cons_zero, List.set_cons_succ]
      refine wpAnyH_take (i := 1) (v := ?vn2) rfl (by kernel_rfl) (by kernel_rfl) (by kernel_rfl) (fun _ _ _ h => h) (Or.inl ⟨by rfl, ?hyn2⟩) (by assumption) ?restn2
      case hyn2 => (intro w hSw; (try dsimp only at hSw); go_simp; first | done | (with_reducible rfl))
      try simp only [Act.put, List.getElem_toArray, List.getElem_cons_zero, List.getElem_cons_succ, List.setIfInBounds_toArray, List.set_cons_zero, List.set_cons_succ]
      refine wpAnyH_take (i := 2) (v := ?vn3) rfl (by kernel_rfl) (by kernel_rfl) (by kernel_rfl) (fun _ _ _ h => h) (Or.inl ⟨by rfl, ?hyn3⟩) (by assumption) ?restn3
      case hyn3 => (intro w hSw; (try dsimp only at hSw); go_simp; first | done | (with_reducible rfl))
      try simp only [Act.put, List.getElem_toArray, List.getElem_cons_zero, List.getElem_cons_succ, List.setIfInBounds_toArray, List.set_cons_zero, List.set_cons_succ]
      refine wpAnyH_take (i := 4) (v := ?vn4) rfl (by kernel_rfl) (by kernel_rfl) (by kernel_rfl) (fun _ _ _ h => h) (Or.inl ⟨by rfl, ?hyn4⟩) (by assumption) ?restn4
      case hyn4 => (intro w hSw; (try dsimp only at hSw); go_simp; first | done | (with_reducible rfl))
      try simp only [Act.put, List.getElem_toArray, List.getElem_cons_zero, List.getElem_cons_succ, List.setIfInBounds_toArray, List.set_cons_zero, List.set_cons_succ]
      refine wpAnyH_take (i := 5) (v := ?vn5) rfl (by kernel_rfl) (by kernel_rfl) (by kernel_rfl) (fun _ _ _ h => h) (Or.inl ⟨by rfl, ?hyn5⟩) (by assumption) ?restn5
      case hyn5 => (intro w hSw; (try dsimp only at hSw); go_simp; first | done | (with_reducible rfl))
      try simp only [Act.put, List.getElem_toArray, List.getElem_cons_zero, List.getElem_cons_succ, List.setIfInBounds_toArray, List.set_cons_zero, List.set_cons_succ]
      refine wpAnyH_take (i := 6) (v := ?vn6) rfl (by kernel_rfl) (by kernel_rfl) (by kernel_rfl) (fun _ _ _ h => h) (Or.inl ⟨by rfl, ?hyn6⟩) (by assumption) ?restn6
      case hyn6 => (intro w hSw; (try dsimp only at hSw); go_simp; first | done | (with_reducible rfl))
      try simp only [Act.put, List.getElem_toArray, List.getElem_cons_zero, List.getElem_cons_succ, List.setIfInBounds_toArray, List.set_cons_zero, List.set_cons_succ]
      refine wpAnyH_take (i := 9) (v := ?vn7) rfl (by kernel_rfl) (by kernel_rfl) (by kernel_rfl) (fun _ _ _ h => h) (Or.inl ⟨by rfl, ?hyn7⟩) (by assumption) ?restn7
      case hyn7 => (intro w hSw; (try dsimp only at hSw); go_simp; first | done | (with_reducible rfl))
      try simp only [Act.put, List.getElem_toArray, List.getElem_cons_zero, List.getElem_cons_succ, List.setIfInBounds_toArray, List.set_cons_zero, List.set_cons_succ]
      refine wpAnyH_take (i := 11) (v := ?vn8) rfl (by kernel_rfl) (by kernel_rfl) (by kernel_rfl) (fun _ _ _ h => h) (Or.inl ⟨by rfl, ?hyn8⟩) (by assumption) ?restn8
      case hyn8 => (intro w hSw; (try dsimp only at hSw); go_simp; first | done | (with_reducible rfl))
      try simp only [Act.put, List.getElem_toArray, List.getElem_cons_zero, List.getElem_cons_succ, List.setIfInBounds_toArray, List.set_cons_zero, List.set_cons_succ]
      refine wpAnyH_ready (rs := [3, 12]) (by kernel_rfl) (by simp) ?_
      refine AllReadyH.cons rfl (fun K hK => ?_) (AllReadyH.cons rfl (fun K hK => ?_) AllReadyH.nil)
      · go_simp
        refine (sum_c _ (l0.take k) _ HA.out).mono ?_
        rintro e w9 ⟨rfl, hb⟩
        replace HC := hide (HC.out.step hb)
        replace HD := hide (HD.out.step hb)
        replace HBl := hide (HBl.out.trans (hb.mono HBl.out.size))
        clear hb
        refine hK.out _ _ trivial (fun hS9 => ?_)
        clear hK K
        try simp only [Act.put, List.getElem_toArray, List.getElem_cons_zero, List.getElem_cons_succ, List.setIfInBounds_toArray, List.set_cons_zero, List.set_cons_succ]
        refine wpAnyH_ready (rs := [7, 12]) (by kernel_rfl) (by simp) ?_
        refine AllReadyH.cons rfl (fun K hK => ?_) (AllReadyH.cons rfl (fun K hK => ?_) AllReadyH.nil)
        · go_simp
          refine (sum_c _ (l1.take k) _ HC.out).mono ?_
          rintro e w10 ⟨rfl, hb⟩
          replace HD := hide (HD.out.step hb)
          replace HBl := hide (HBl.out.trans (hb.mono HBl.out.size))
          clear hb
          refine hK.out _ _ trivial (fun hS10 => ?_)
          clear hK K
          try simp only [Act.put, List.getElem_toArray, List.getElem_cons_zero, List.getElem_cons_succ, List.setIfInBounds_toArray, List.set_cons_zero, List.set_cons_succ]
          refine wpAnyH_take (i := 8) (v := ?vn11) rfl (by kernel_rfl) (by kernel_rfl) (by kernel_rfl) (fun _ _ _ h => h) (Or.inl ⟨by rfl, ?hyn11⟩) (by assumption) ?restn11
          case hyn11 => (intro w hSw; (try dsimp only at hSw); go_simp; first | done | (with_reducible rfl))
          try simp only [Act.put, List.getElem_toArray, List.getElem_cons_zero, List.getElem_cons_succ, List.setIfInBounds_toArray, List.set_cons_zero, List.set_cons_succ]
          refine wpAnyH_ready (rs := [10, 12]) (by kernel_rfl) (by simp) ?_
          refine AllReadyH.cons rfl (fun K hK => ?_) (AllReadyH.cons rfl (fun K hK => ?_) AllReadyH.nil)
          · go_simp
            refine (sum_c _ (List.zipWith (· ^^^ ·) (l0.take k) (l1.take k)) _ HD.out).mono ?_
            rintro e w12 ⟨rfl, hb⟩
            replace HBl := hide (HBl.out.trans (hb.mono HBl.out.size))
            clear hb
            refine hK.out _ _ trivial (fun hS12 => ?_)
            clear hK K
            try simp only [Act.put, List.getElem_toArray, List.getElem_cons_zero, List.getElem_cons_succ, List.setIfInBounds_toArray, List.set_cons_zero, List.set_cons_succ]
            refine wpAnyH_ready (rs := [12]) (by kernel_rfl) (by simp) ?_
            refine AllReadyH.cons rfl (fun K hK => ?_) AllReadyH.nil
            have hm := run_make_bytes k HN.out
            go_simp
            clear hm
            replace HBl := hide (HBl.out.alloc HBl.out.size (.cells (zb k) 5))
            have HZ := hide (Bs.made (w := w12) (List.replicate k 0) (zb k) (0, 0) (zb_list k) k (by simp) (by have := HN.out; unfold maxLen; simp; omega))
            refine hK.out _ _ trivial (fun hS13 => ?_)
            clear hK K
            try simp only [Act.put, List.getElem_toArray, List.getElem_cons_zero, List.getElem_cons_succ, List.setIfInBounds_toArray, List.set_cons_zero, List.set_cons_succ]
            refine wpAnyH_ready (rs := [13]) (by kernel_rfl) (by simp) ?_
            refine AllReadyH.cons rfl (fun K hK => ?_) AllReadyH.nil
            go_simp
            refine (sum_c _ (List.replicate k 0) _ HZ.out).mono ?_
            rintro e w14 ⟨rfl, hb⟩
            replace HBl := hide (HBl.out.trans (hb.mono HBl.out.size))
            clear hb
            refine hK.out _ _ trivial (fun hS14 => ?_)
            clear hK K
            try simp only [Act.put, List.getElem_toArray, List.getElem_cons_zero, List.getElem_cons_succ, List.setIfInBounds_toArray, List.set_cons_zero, List.set_cons_succ]
            refine wpAnyH_take (i := 14) (v := ?vn15) rfl (by kernel_rfl) (by kernel_rfl) (by kernel_rfl) (fun _ _ _ h => h) (Or.inl ⟨by rfl, ?hyn15⟩) (by assumption) ?restn15
            case hyn15 => (intro w hSw; (try dsimp only at hSw); go_simp; first | done | (with_reducible rfl))
            try simp only [Act.put, List.getElem_toArray, List.getElem_cons_zero, List.getElem_cons_succ, List.setIfInBounds_toArray, List.set_cons_zero, List.set_cons_succ]
            refine wpAnyH_take (i := 15) (v := ?vn16) rfl (by kernel_rfl) (by kernel_rfl) (by kernel_rfl) (fun _ _ _ h => h) (Or.inl ⟨by rfl, ?hyn16⟩) (by assumption) ?restn16
            case hyn16 => (intro w hSw; (try dsimp only at hSw); go_simp; first | done | (with_reducible rfl))
            try simp only [Act.put, List.getElem_toArray, List.getElem_cons_zero, List.getElem_cons_succ, List.setIfInBounds_toArray, List.set_cons_zero, List.set_cons_succ]
            refine wpAnyH_take (i := 16) (v := ?vn17) rfl (by kernel_rfl) (by kernel_rfl) (by kernel_rfl) (fun _ _ _ h => h) (Or.inl ⟨by rfl, ?hyn17⟩) (by assumption) ?restn17
            case hyn17 => (intro w hSw; (try dsimp only at hSw); go_simp; first | done | (with_reducible rfl))
            try simp only [Act.put, List.getElem_toArray, List.getElem_cons_zero, List.getElem_cons_succ, List.setIfInBounds_toArray, List.set_cons_zero, List.set_cons_succ]
            refine wpAnyH_done (by kernel_rfl) ?_ _
            go_wp2_with fail
            go_ret
            exact ⟨rfl, HBl.out⟩
          · have hm := run_make_bytes k HN.out
            go_simp
            clear hm
            replace HD := hide (HD.out.alloc (.cells (zb k) 5))
            replace HBl := hide (HBl.out.alloc HBl.out.size (.cells (zb k) 5))
            have HZ := hide (Bs.made (w := w10) (List.replicate k 0) (zb k) (0, 0) (zb_list k) k (by simp) (by have := HN.out; unfold maxLen; simp; omega))
            refine hK.out _ _ trivial (fun hS18 => ?_)
            clear hK K
            try simp only [Act.put, List.getElem_toArray, List.getElem_cons_zero, List.getElem_cons_succ, List.setIfInBounds_toArray, List.set_cons_zero, List.set_cons_succ]
            refine wpAnyH_ready (rs := [10]) (by kernel_rfl) (by simp) ?_
            refine AllReadyH.cons rfl (fun K hK => ?_) AllReadyH.nil
            go_simp
            refine (sum_c _ (List.zipWith (· ^^^ ·) (l0.take k) (l1.take k)) _ HD.out).mono ?_
            rintro e w19 ⟨rfl, hb⟩
            replace HZ := hide (HZ.out.step hb)
            replace HBl := hide (HBl.out.trans (hb.mono HBl.out.size))
            clear hb
            refine hK.out _ _ trivial (fun hS19 => ?_)
            clear hK K
            try simp only [Act.put, List.getElem_toArray, List.getElem_cons_zero, List.getElem_cons_succ, List.setIfInBounds_toArray, List.set_cons_zero, List.set_cons_succ]
            refine wpAnyH_ready (rs := [13]) (by kernel_rfl) (by simp) ?_
            refine AllReadyH.cons rfl (fun K hK => ?_) AllReadyH.nil
            go_simp
            refine (sum_c _ (List.replicate k 0) _ HZ.out).mono ?_
            rintro e w20 ⟨rfl, hb⟩
            replace HBl := hide (HBl.out.trans (hb.mono HBl.out.size))
            clear hb
            refine hK.out _ _ trivial (fun hS20 => ?_)
            clear hK K
            try simp only [Act.put, List.getElem_toArray, List.getElem_cons_zero, List.getElem_cons_succ, List.setIfInBounds_toArray, List.set_cons_zero, List.set_cons_succ]
            refine wpAnyH_take (i := 14) (v := ?vn21) rfl (by kernel_rfl) (by kernel_rfl) (by kernel_rfl) (fun _ _ _ h => h) (Or.inl ⟨by rfl, ?hyn21⟩) (by assumption) ?restn21
            case hyn21 => (intro w hSw; (try dsimp only at hSw); go_simp; first | done | (with_reducible rfl))
            try simp only [Act.put, List.getElem_toArray, List.getElem_cons_zero, List.getElem_cons_succ, List.setIfInBounds_toArray, List.set_cons_zero, List.set_cons_succ]
            refine wpAnyH_take (i := 15) (v := ?vn22) rfl (by kernel_rfl) (by kernel_rfl) (by kernel_rfl) (fun _ _ _ h => h) (Or.inl ⟨by rfl, ?hyn22⟩) (by assumption) ?restn22
            case hyn22 => (intro w hSw; (try dsimp only at hSw); go_simp; first | done | (with_reducible rfl))
            try simp only [Act.put, List.getElem_toArray, List.getElem_cons_zero, List.getElem_cons_succ, List.setIfInBounds_toArray, List.set_cons_zero, List.set_cons_succ]
            refine wpAnyH_take (i := 16) (v := ?vn23) rfl (by kernel_rfl) (by kernel_rfl) (by kernel_rfl) (fun _ _ _ h => h) (Or.inl ⟨by rfl, ?hyn23⟩) (by assumption) ?restn23
            case hyn23 => (intro w hSw; (try dsimp only at hSw); go_simp; first | done | (with_reducible rfl))
            try simp only [Act.put, List.getElem_toArray, List.getElem_cons_zero, List.getElem_cons_succ, List.setIfInBounds_toArray, List.set_cons_zero, List.set_cons_succ]
            refine wpAnyH_done (by kernel_rfl) ?_ _
            go_wp2_with fail
            go_ret
            exact ⟨rfl, HBl.out⟩
        · have hm := run_make_bytes k HN.out
          go_simp
          clear hm
          replace HC := hide (HC.out.alloc (.cells (zb k) 5))
          replace HD := hide (HD.out.alloc (.cells (zb k) 5))
          replace HBl := hide (HBl.out.alloc HBl.out.size (.cells (zb k) 5))
          have HZ := hide (Bs.made (w := w9) (List.replicate k 0) (zb k) (0, 0) (zb_list k) k (by simp) (by have := HN.out; unfold maxLen; simp; omega))
          refine hK.out _ _ trivial (fun hS24 => ?_)
          clear hK K
          try simp only [Act.put, List.getElem_toArray, List.getElem_cons_zero, List.getElem_cons_succ, List.setIfInBounds_toArray, List.set_cons_zero, List.set_cons_succ]
          refine wpAnyH_ready (rs := [7]) (by kernel_rfl) (by simp) ?_
          refine AllReadyH.cons rfl (fun K hK => ?_) AllReadyH.nil
          go_simp
          refine (sum_c _ (l1.take k) _ HC.out).mono ?_
          rintro e w25 ⟨rfl, hb⟩
          replace HD := hide (HD.out.step hb)
          replace HZ := hide (HZ.out.step hb)
          replace HBl := hide (HBl.out.trans (hb.mono HBl.out.size))
          clear hb
          refine hK.out _ _ trivial (fun hS25 => ?_)
          clear hK K
          try simp only [Act.put, List.getElem_toArray, List.getElem_cons_zero, List.getElem_cons_succ, List.setIfInBounds_toArray, List.set_cons_zero, List.set_cons_succ]
          refine wpAnyH_take (i := 8) (v := ?vn26) rfl (by kernel_rfl) (by kernel_rfl) (by kernel_rfl) (fun _ _ _ h => h) (Or.inl ⟨by rfl, ?hyn26⟩) (by assumption) ?restn26
          case hyn26 => (intro w hSw; (try dsimp only at hSw); go_simp; first | done | (with_reducible rfl))
          try simp only [Act.put, List.getElem_toArray, List.getElem_cons_zero, List.getElem_cons_succ, List.setIfInBounds_toArray, List.set_cons_zero, List.set_cons_succ]
          refine wpAnyH_ready (rs := [10]) (by kernel_rfl) (by simp) ?_
          refine AllReadyH.cons rfl (fun K hK => ?_) AllReadyH.nil
          go_simp
          refine (sum_c _ (List.zipWith (· ^^^ ·) (l0.take k) (l1.take k)) _ HD.out).mono ?_
          rintro e w27 ⟨rfl, hb⟩
          replace HZ := hide (HZ.out.step hb)
          replace HBl := hide (HBl.out.trans (hb.mono HBl.out.size))
          clear hb
          refine hK.out _ _ trivial (fun hS27 => ?_)
          clear hK K
          try simp only [Act.put, List.getElem_toArray, List.getElem_cons_zero, List.getElem_cons_succ, List.setIfInBounds_toArray, List.set_cons_zero, List.set_cons_succ]
          refine wpAnyH_ready (rs := [13]) (by kernel_rfl) (by simp) ?_
          refine AllReadyH.cons rfl (fun K hK => ?_) AllReadyH.nil
          go_simp
          refine (sum_c _ (List.replicate k 0) _ HZ.out).mono ?_
          rintro e w28 ⟨rfl, hb⟩
          replace HBl := hide (HBl.out.trans (hb.mono HBl.out.size))
          clear hb
          refine hK.out _ _ trivial (fun hS28 => ?_)
          clear hK K
          try simp only [Act.put, List.getElem_toArray, List.getElem_cons_zero, List.getElem_cons_succ, List.setIfInBounds_toArray, List.set_cons_zero, List.set_cons_succ]
          refine wpAnyH_take (i := 14) (v := ?vn29) rfl (by kernel_rfl) (by kernel_rfl) (by kernel_rfl) (fun _ _ _ h => h) (Or.inl ⟨by rfl, ?hyn29⟩) (by assumption) ?restn29
          case hyn29 => (intro w hSw; (try dsimp only at hSw); go_simp; first | done | (with_reducible rfl))
          try simp only [Act.put, List.getElem_toArray, List.getElem_cons_zero, List.getElem_cons_succ, List.setIfInBounds_toArray, List.set_cons_zero, List.set_cons_succ]
          refine wpAnyH_take (i := 15) (v := ?vn30) rfl (by kernel_rfl) (by kernel_rfl) (by kernel_rfl) (fun _ _ _ h => h) (Or.inl ⟨by rfl, ?hyn30⟩) (by assumption) ?restn30
          case hyn30 => (intro w hSw; (try dsimp only at hSw); go_simp; first | done | (with_reducible rfl))
          try simp only [Act.put, List.getElem_toArray, List.getElem_cons_zero, List.getElem_cons_succ, List.setIfInBounds_toArray, List.set_cons_zero, List.set_cons_succ]
          refine wpAnyH_take (i := 16) (v := ?vn31) rfl (by kernel_rfl) (by kernel_rfl) (by kernel_rfl) (fun _ _ _ h => h) (Or.inl ⟨by rfl, ?hyn31⟩) (by assumption) ?restn31
          case hyn31 => (intro w hSw; (try dsimp only at hSw); go_simp; first | done | (with_reducible rfl))
          try simp only [Act.put, List.getElem_toArray, List.getElem_cons_zero, List.getElem_cons_succ, List.setIfInBounds_toArray, List.set_cons_zero, List.set_cons_succ]
          refine wpAnyH_done (by kernel_rfl) ?_ _
          go_wp2_with fail
          go_ret
          exact ⟨rfl, HBl.out⟩
      · have hm := run_make_bytes k HN.out
        go_simp
        clear hm
        replace HA := hide (HA.out.alloc (.cells (zb k) 5))
        replace HC := hide (HC.out.alloc (.cells (zb k) 5))
        replace HD := hide (HD.out.alloc (.cells (zb k) 5))
        replace HBl := hide (HBl.out.alloc HBl.out.size (.cells (zb k) 5))
        have HZ := hide (Bs.made (w := wr.drew) (List.replicate k 0) (zb k) (0, 0) (zb_list k) k (by simp) (by have := HN.out; unfold maxLen; simp; omega))
        refine hK.out _ _ trivial (fun hS32 => ?_)
        clear hK K
        try simp only [Act.put, List.getElem_toArray, List.getElem_cons_zero, List.getElem_cons_succ, List.setIfInBounds_toArray, List.set_cons_zero, List.set_cons_succ]
        refine wpAnyH_ready (rs := [3]) (by kernel_rfl) (by simp) ?_
        refine AllReadyH.cons rfl (fun K hK => ?_) AllReadyH.nil
        go_simp
        refine (sum_c _ (l0.take k) _ HA.out).mono ?_
        rintro e w33 ⟨rfl, hb⟩
        replace HC := hide (HC.out.step hb)
        replace HD := hide (HD.out.step hb)
        replace HZ := hide (HZ.out.step hb)
        replace HBl := hide (HBl.out.trans (hb.mono HBl.out.size))
        clear hb
        refine hK.out _ _ trivial (fun hS33 => ?_)
        clear hK K
        try simp only [Act.put, List.getElem_toArray, List.getElem_cons_zero, List.getElem_cons_succ, List.setIfInBounds_toArray, List.set_cons_zero, List.set_cons_succ]
        refine wpAnyH_ready (rs := [7]) (by kernel_rfl) (by simp) ?_
        refine AllReadyH.cons rfl (fun K hK => ?_) AllReadyH.nil
        go_simp
        refine (sum_c _ (l1.take k) _ HC.out).mono ?_
        rintro e w34 ⟨rfl, hb⟩
        replace HD := hide (HD.out.step hb)
        replace HZ := hide (HZ.out.step hb)
        replace HBl := hide (HBl.out.trans (hb.mono HBl.out.size))
        clear hb
        refine hK.out _ _ trivial (fun hS34 => ?_)
        clear hK K
        try simp only [Act.put, List.getElem_toArray, List.getElem_cons_zero, List.getElem_cons_succ, List.setIfInBounds_toArray, List.set_cons_zero, List.set_cons_succ]
        refine wpAnyH_take (i := 8) (v := ?vn35) rfl (by kernel_rfl) (by kernel_rfl) (by kernel_rfl) (fun _ _ _ h => h) (Or.inl ⟨by rfl, ?hyn35⟩) (by assumption) ?restn35
        case hyn35 => (intro w hSw; (try dsimp only at hSw); go_simp; first | done | (with_reducible rfl))
        try simp only [Act.put, List.getElem_toArray, List.getElem_cons_zero, List.getElem_cons_succ, List.setIfInBounds_toArray, List.set_cons_zero, List.set_cons_succ]
        refine wpAnyH_ready (rs := [10]) (by kernel_rfl) (by simp) ?_
        refine AllReadyH.cons rfl (fun K hK => ?_) AllReadyH.nil
        go_simp
        refine (sum_c _ (List.zipWith (· ^^^ ·) (l0.take k) (l1.take k)) _ HD.out).mono ?_
        rintro e w36 ⟨rfl, hb⟩
        replace HZ := hide (HZ.out.step hb)
        replace HBl := hide (HBl.out.trans (hb.mono HBl.out.size))
        clear hb
        refine hK.out _ _ trivial (fun hS36 => ?_)
        clear hK K
        try simp only [Act.put, List.getElem_toArray, List.getElem_cons_zero, List.getElem_cons_succ, List.setIfInBounds_toArray, List.set_cons_zero, List.set_cons_succ]
        refine wpAnyH_ready (rs := [13]) (by kernel_rfl) (by simp) ?_
        refine AllReadyH.cons rfl (fun K hK => ?_) AllReadyH.nil
        go_simp
        refine (sum_c _ (List.replicate k 0) _ HZ.out).mono ?_
        rintro e w37 ⟨rfl, hb⟩
        replace HBl := hide (HBl.out.trans (hb.mono HBl.out.size))
        clear hb
        refine hK.out _ _ trivial (fun hS37 => ?_)
        clear hK K
        try simp only [Act.put, List.getElem_toArray, List.getElem_cons_zero, List.getElem_cons_succ, List.setIfInBounds_toArray, List.set_cons_zero, List.set_cons_succ]
        refine wpAnyH_take (i := 14) (v := ?vn38) rfl (by kernel_rfl) (by kernel_rfl) (by kernel_rfl) (fun _ _ _ h => h) (Or.inl ⟨by rfl, ?hyn38⟩) (by assumption) ?restn38
        case hyn38 => (intro w hSw; (try dsimp only at hSw); go_simp; first | done | (with_reducible rfl))
        try simp only [Act.put, List.getElem_toArray, List.getElem_cons_zero, List.getElem_cons_succ, List.setIfInBounds_toArray, List.set_cons_zero, List.set_cons_succ]
        refine wpAnyH_take (i := 15) (v := ?vn39) rfl (by kernel_rfl) (by kernel_rfl) (by kernel_rfl) (fun _ _ _ h => h) (Or.inl ⟨by rfl, ?hyn39⟩) (by assumption) ?restn39
        case hyn39 => (intro w hSw; (try dsimp only at hSw); go_simp; first | done | (with_reducible rfl))
        try simp only [Act.put, List.getElem_toArray, List.getElem_cons_zero, List.getElem_cons_succ, List.setIfInBounds_toArray, List.set_cons_zero, List.set_cons_succ]
        refine wpAnyH_take (i := 16) (v := ?vn40) rfl (by kernel_rfl) (by kernel_rfl) (by kernel_rfl) (fun _ _ _ h => h) (Or.inl ⟨by rfl, ?hyn40⟩) (by assumption) ?restn40
        case hyn40 => (intro w hSw; (try dsimp only at hSw); go_simp; first | done | (with_reducible rfl))
        try simp only [Act.put, List.getElem_toArray, List.getElem_cons_zero, List.getElem_cons_succ, List.setIfInBounds_toArray, List.set_cons_zero, List.set_cons_succ]
        refine wpAnyH_done (by kernel_rfl) ?_ _
        go_wp2_with fail
        go_ret
        exact ⟨rfl, HBl.out⟩
end Go.Proofs.Ytmnebingmedloaa
