/- The walk of ChecksumBursts. -/
import Derived.Test.YtmnebingmedloaaSealsWalk
import Derived.Test.YtmnebingmedloaaBurst
namespace Go.Proofs.Ytmnebingmedloaa
open Go.ChangeShapes Go.WideShapes Go.ChangeAt Go.RowKit
set_option linter.unusedVariables false

theorem Ow.put {w : World} {base g n cap k : Nat} {l : List UInt8} (h : Ow w base (.slice (some ⟨g, 0, none⟩) n cap) l) (hk : k < n) (x : UInt8) : Ow (w.setCell ⟨g, k, none⟩ (bv x)) base (.slice (some ⟨g, 0, none⟩) n cap) (l.set k x) := by
  obtain ⟨hl, ⟨h0, _⟩ | ⟨g', cap', cur, hv, hg, hh, hn, hm, hs, ht⟩⟩ := h
  · cases h0
  · injection hv with e1 e2 e3
    injection e1 with e1
    injection e1 with e1
    subst e1 e2 e3
    refine ⟨by simp, .inr ⟨g, cap, cur.setIfInBounds k (bv x), by simp, hg, Blk.put (cs := cur) hh k (bv x), by simpa using hn, hm, by rw [Array.size_setIfInBounds]; exact hs, ?_⟩⟩
    rw [Array.toList_setIfInBounds, List.take_set, List.length_set, ht, List.map_set]
theorem Ow.row {w : World} {base : Nat} {v : Value} {l : List UInt8} (h : Ow w base v l) (h0 : 0 < l.length) : ∃ g cap, v = .slice (some ⟨g, 0, none⟩) l.length cap ∧ base ≤ g ∧ l.length ≤ cap ∧ cap ≤ 9223372036854775807 := by
  obtain ⟨hl, ⟨_, h1⟩ | ⟨g, cap, cur, hv, hg, hh, hn, hm, hs, ht⟩⟩ := h
  · omega
  · exact ⟨g, cap, hv, hg, hn, by unfold maxLen at hm; omega⟩
theorem Ow.froz {w : World} {base g n cap : Nat} {l : List UInt8} (h : Ow w base (.slice (some ⟨g, 0, none⟩) n cap) l) (k : Nat) : w.frozen? ⟨g, k, none⟩ = false := by
  obtain ⟨hl, ⟨h0, _⟩ | ⟨g', cap', cur, hv, hg, hh, hn, hm, hs, ht⟩⟩ := h
  · cases h0
  · injection hv with e1 e2 e3
    injection e1 with e1
    injection e1 with e1
    subst e1
    exact Blk.froz (cs := cur) hh k

theorem bit_test (c : BitVec 32) (k : Nat) : (bits BinOp.and IntKind.u32 (u32 c / 2 ^ k) 1 == 1) = c.getLsbD k := by
  have h := u32_shr c k (2 ^ k) rfl
  have e : ((2 ^ k : Nat) : Int) = 2 ^ k := by simp
  rw [e] at h
  rw [h, u32_and1, u32_one, Bool.eq_iff_iff, beq_iff_eq, and_one, BitVec.getLsbD_ushiftRight, Nat.add_zero]

def one8 (r : Nat) : UInt8 := ⟨1#8 <<< r⟩
theorem one_byte : ∀ r : Nat, r < 8 → (2 ^ r % 256 : Int) = u8 (one8 r) := by decide

set_option maxHeartbeats 2000000 in
theorem walkChecksumBursts (W : World) (v0 : Value) (l0 : List UInt8) (h0 : Bs W v0 l0) (at_ : Int) (wa : (Lit.int .i64 at_).wf = true) (ch : Int) (wc : (Lit.int .u32 ch).wf = true) :
    Calls Try.prog 5 #[v0, .int .i64 at_, .int .u32 ch] W fun e w' => e = .returned (.bool true) ∧ Below W.heap.size W w' := by
  have ⟨s0, s1⟩ : 0 ≤ ch ∧ ch ≤ 4294967295 := by simpa [Lit.wf, IntKind.min, IntKind.max, IntKind.signed, IntKind.bits] using wc
  obtain ⟨c, rfl⟩ : ∃ x : BitVec 32, ch = u32 x := ⟨BitVec.ofNat 32 ch.toNat, by unfold u32; rw [BitVec.toNat_ofNat]; omega⟩
  have ⟨t0, t1⟩ : -9223372036854775808 ≤ at_ ∧ at_ ≤ 9223372036854775807 := by simpa [Lit.wf, IntKind.min, IntKind.max, IntKind.signed, IntKind.bits] using wa
  obtain ⟨A, ca, rfl, hca, hma⟩ := h0.form
  have H0 := hide h0
  clear h0 s0 s1 wa wc
  have HL0 : Hid (¬ 200 < l0.length → l0.length ≤ 200) := by unfold Hid; omega
  by_cases c1 : 200 < l0.length
  · clear HL0
    generalize l0.length = n at *
    go_enter Try.func5, Try.ntmps5
    go_wp2_with fail
    refine (awake_c _).mono ?_
    rintro e w1 ⟨rfl, hb⟩
    go_wp2_with fail
    go_ret
    exact ⟨rfl, hb⟩
  replace HL0 := hide (HL0.out c1)
  by_cases c2 : c = 0#32
  · subst c2
    have hq : (u32 0#32 == 0) = true := rfl
    clear HL0
    generalize l0.length = n at *
    go_enter Try.func5, Try.ntmps5
    go_wp2_with fail
    refine (awake_c _).mono ?_
    rintro e w1 ⟨rfl, hb⟩
    go_wp2_with fail
    go_ret
    exact ⟨rfl, hb⟩
  have hq : (u32 c == 0) = false := by rw [beq_eq_false_iff_ne]; intro h; exact c2 (u32_inj h)
  by_cases c3 : at_ < 0
  · clear HL0
    generalize l0.length = n at *
    go_enter Try.func5, Try.ntmps5
    go_wp2_with fail
    refine (awake_c _).mono ?_
    rintro e w1 ⟨rfl, hb⟩
    go_wp2_with fail
    go_ret
    exact ⟨rfl, hb⟩
  generalize hn : l0.length = n at *
  have HN := hide hn
  clear hn
  have hn4 : ((n : Int) + 4 == n + 4) = true := by simp
  go_enter Try.func5, Try.ntmps5
  go_wp2_with fail
  refine (awake_c _).mono ?_
  rintro e w1 ⟨rfl, hb⟩
  replace H0 := hide (H0.out.step hb)
  have HB := hide hb
  clear hb
  go_wp2_with fail
  refine (seal_c _ l0 _ H0.out (by have := HL0.out; have := HN.out; omega)).mono ?_
  rintro e w2 ⟨vs, rfl, hos, hbs⟩
  replace H0 := hide (H0.out.step hbs)
  replace HB := hide (HB.out.trans (hbs.mono HB.out.size))
  obtain ⟨C, cc, rfl, hcc, hmc⟩ := hos.form
  have hsl : (seal_ l0).length = n + 4 := by rw [seal_len, HN.out]
  rw [hsl] at hos hcc ⊢
  have HSL := hide hsl
  have HS := hide hos
  clear hos hbs hsl
  have HW2 : Hid (W.heap.size ≤ w2.heap.size) := hide HB.out.size
  go_wp2_with (at_builtin; refine wpList_append_bs rfl _ _ rfl w2.heap.size (l := []) (m := seal_ l0) rfl (Ow.made [] #[] rfl (Nat.le_refl _) (by simp)) rfl (HS.out.bs.alloc _) (by have := HSL.out; have := HL0.out; simp; omega) (by simp) ?_; intro vx w3 hox hgx hwx; have hbx := below_grown ((Below.refl w2.heap.size w2).alloc (Nat.le_refl _) _) hgx (by simp) (Nat.le_refl _); have HX := hide hox; have HBX := hide hbx; clear hox hgx hwx hbx)
  obtain ⟨first, hfi, hfl⟩ : ∃ first : Nat, at_ % (8 * ((n : Int) + 4)) = first ∧ first < 8 * (n + 4) := ⟨(at_ % (8 * ((n : Int) + 4))).toNat, by have := Int.emod_nonneg at_ (b := 8 * ((n : Int) + 4)) (by omega); omega, by have := Int.emod_lt_of_pos at_ (b := 8 * ((n : Int) + 4)) (by omega); have := Int.emod_nonneg at_ (b := 8 * ((n : Int) + 4)) (by omega); omega⟩
  rw [hfi]
  have hox := HX.out
  rw [List.nil_append] at hox
  obtain ⟨g, cap, rfl, hg, hcp, hcm⟩ := hox.row (by rw [HSL.out]; omega)
  rw [HSL.out] at hcp hox ⊢
  clear HX
  have kb : Below w2.heap.size w3 w3 := Below.refl _ _
  rw [← bad_first c first l0] at hox
  go_loopw [10, 11] (fun b i wr => ∃ k : Nat, k ≤ 32 ∧ first + k ≤ 8 * (n + 4) ∧ i = .int .i64 k ∧ b = .bool (anyb c k) ∧ Ow wr w2.heap.size (.slice (some ⟨g, 0, none⟩) (n + 4) cap) (bad c first k l0) ∧ Below w2.heap.size w3 wr) (fun _ i _ => 32 - (intOf i).toNat)
  case atStart => exact ⟨0, by omega, by omega, rfl, rfl, hox, kb⟩
  case round =>
    clear hox kb
    obtain ⟨k, hk, hfk, rfl, rfl, ho, hb2⟩ := hrel
    by_cases hlt : k < 32
    · by_cases hlt2 : first + k < 8 * (n + 4)
      · have HO := hide ho
        have HB2 := hide hb2
        have hbk : (bits BinOp.and IntKind.u32 (u32 c / 2 ^ k) 1 == 1) = c.getLsbD k := bit_test c k
        cases hcb : c.getLsbD k with
        | false =>
          rw [hcb] at hbk
          have HC := hide (bad_same c first k l0 hcb)
          have HA : Hid (anyb c (k + 1) = anyb c k) := by unfold Hid; simp [anyb, hcb]
          clear ho hb2 hcb
          go_wp2_with fail
          go_roundw
          case rel => exact ⟨k + 1, by omega, by omega, by go_num, by rw [HA.out], by rw [HC.out]; exact HO.out, HB2.out⟩
          case measure => simp [intOf]; omega
        | true =>
          rw [hcb] at hbk
          have HC := hide (fun x hx => bad_set c first k l0 x hcb hx)
          have HA : Hid (anyb c (k + 1) = true) := by unfold Hid; simp [anyb, hcb]
          obtain ⟨q, hq8, HQ⟩ : ∃ q : Nat, ((first : Int) + k) / 8 = q ∧ Hid ((first + k) / 8 = q) := ⟨(first + k) / 8, by omega, rfl⟩
          obtain ⟨r, hr8, HR⟩ : ∃ r : Nat, ((first : Int) + k) % 8 = r ∧ Hid ((first + k) % 8 = r) := ⟨(first + k) % 8, by omega, rfl⟩
          rw [HQ.out, HR.out] at HC
          have hi : q < n + 4 := by have := HQ.out; omega
          have hr : r < 8 := by have := HR.out; omega
          obtain ⟨b', off, x, he, _, hx, hcell⟩ := ho.bs.at_ hi
          injection he with he
          injection he with e1 e2
          subst e1 e2
          rw [Nat.zero_add] at hcell
          have hfr := ho.froz q
          replace HC := hide (show (bad c first k l0).set q (x ^^^ one8 r) = bad c first (k + 1) l0 from HC.out x hx)
          clear ho hb2 hcb hx
          go_wp2_with fail
          go_region
          rw [show bits BinOp.xor IntKind.u8 (u8 x) (2 ^ r % 256) = u8 (x ^^^ one8 r) from by rw [one_byte r hr]; exact u8_xor _ _]
          go_wp2_with fail
          go_roundw
          case rel => exact ⟨k + 1, by omega, by omega, by go_num, by rw [HA.out], by rw [← HC.out]; exact (HO.out.put hi _).drew, (HB2.out.setCell (p := ⟨g, q, none⟩) hg _).drew⟩
          case measure => simp [intOf]; omega
      · have hge : 8 * ((n : Int) + 4) ≤ (first : Int) + k := by omega
        have HO := hide ho
        have hs := HBX.out.trans hb2
        replace H0 := hide (H0.out.step hs)
        replace HB := hide (HB.out.trans (hs.mono HB.out.size))
        have HF := hide hfk
        have HK := hide hk
        clear ho hb2 hs hk hfk
        go_wp2_with fail
        refine (open_c _ (bad c first k l0) _ HO.out.bs (by rw [bad_len]; have := HL0.out; have := HN.out; omega)).mono ?_
        rintro e w4 ⟨vc, code, rfl, hoc, hbc, hcode⟩
        replace H0 := hide (H0.out.step hbc)
        replace HO := hide (HO.out.step hbc)
        replace HB := hide (HB.out.trans (hbc.mono HB.out.size))
        clear hbc
        cases hany : anyb c k with
        | false =>
          rw [bad_none _ _ _ _ hany, open_seal] at hcode hoc
          obtain rfl : code = 0 := hcode
          simp only [Option.getD_some] at hoc
          have c1 := run_string_bs hoc.bs
          have c2 := run_string_bs H0.out
          clear hoc hany
          go_wp2_with fail
          go_ret
          exact ⟨rfl, HB.out⟩
        | true =>
          rw [bad_open _ _ _ _ hany HK.out (by rw [HN.out]; exact HF.out)] at hcode hoc
          obtain rfl : code = 11 := hcode
          simp only [Option.getD_none] at hoc
          obtain ⟨C', cc', rfl, _, _⟩ := hoc.form
          clear hoc hany
          have HT := hide (HO.out.bs.take (k := n) (by omega))
          have HBS := hide (bad_sum c first k l0 HK.out)
          rw [HN.out] at HBS
          generalize (bad c first k l0).take n = t at HT HBS
          have hcn : n ≤ cap := by omega
          go_wp2_with fail
          by_cases hsm : t = l0
          · subst hsm
            refine wp_region_held_drew (S := (fun w' => (convert 23 9 (.slice (some ⟨g, 0, none⟩) n cap)).run Try.prog w' = .ok (.string ⟨(t).toArray⟩) w' ∧ (convert 23 9 (.slice A n ca)).run Try.prog w' = .ok (.string ⟨(t).toArray⟩) w')) (by kernel_rfl) (⟨run_string_bs HT.out, run_string_bs H0.out⟩) (fun hS0 => ?_)
            refine wpAnyH_take (i := 0) (v := ?vpa0) rfl (by kernel_rfl) (by kernel_rfl) (by kernel_rfl) (fun _ _ _ h => h) (Or.inl ⟨by rfl, ?hypa0⟩) (by assumption) ?restpa0
            case hypa0 => (intro w hSw; (try dsimp only at hSw); go_simp; first | done | (with_reducible rfl))
            try simp only [Act.put, List.getElem_toArray, List.getElem_cons_zero, List.getElem_cons_succ, List.setIfInBounds_toArray, List.set_cons_zero, List.set_cons_succ]
            refine wpAnyH_take (i := 1) (v := ?vpa1) rfl (by kernel_rfl) (by kernel_rfl) (by kernel_rfl) (fun _ _ _ h => h) (Or.inl ⟨by rfl, ?hypa1⟩) (by assumption) ?restpa1
            case hypa1 => (intro w hSw; (try dsimp only at hSw); go_simp; first | done | (with_reducible rfl))
            try simp only [Act.put, List.getElem_toArray, List.getElem_cons_zero, List.getElem_cons_succ, List.setIfInBounds_toArray, List.set_cons_zero, List.set_cons_succ]
            refine wpAnyH_take (i := 2) (v := ?vpa2) rfl (by kernel_rfl) (by kernel_rfl) (by kernel_rfl) (fun _ _ _ h => h) (Or.inl ⟨by rfl, ?hypa2⟩) (by assumption) ?restpa2
            case hypa2 => (intro w hSw; (try dsimp only at hSw); go_simp; first | done | (with_reducible rfl))
            try simp only [Act.put, List.getElem_toArray, List.getElem_cons_zero, List.getElem_cons_succ, List.setIfInBounds_toArray, List.set_cons_zero, List.set_cons_succ]
            refine wpAnyH_take (i := 3) (v := ?vpa3) rfl (by kernel_rfl) (by kernel_rfl) (by kernel_rfl) (fun _ _ _ h => h) (Or.inl ⟨by rfl, ?hypa3⟩) (by assumption) ?restpa3
            case hypa3 => (intro w hSw; (try dsimp only at hSw); go_simp; first | done | (with_reducible rfl))
            try simp only [Act.put, List.getElem_toArray, List.getElem_cons_zero, List.getElem_cons_succ, List.setIfInBounds_toArray, List.set_cons_zero, List.set_cons_succ]
            refine wpAnyH_take (i := 4) (v := ?vpa4) rfl (by kernel_rfl) (by kernel_rfl) (by kernel_rfl) (fun _ _ _ h => h) (Or.inl ⟨by rfl, ?hypa4⟩) (by assumption) ?restpa4
            case hypa4 => (intro w hSw; (try dsimp only at hSw); go_simp; first | done | (with_reducible rfl))
            try simp only [Act.put, List.getElem_toArray, List.getElem_cons_zero, List.getElem_cons_succ, List.setIfInBounds_toArray, List.set_cons_zero, List.set_cons_succ]
            refine wpAnyH_take (i := 5) (v := ?vpa5) rfl (by kernel_rfl) (by kernel_rfl) (by kernel_rfl) (fun _ _ _ h => h) (Or.inl ⟨by rfl, ?hypa5⟩) (by assumption) ?restpa5
            case hypa5 => (intro w hSw; (try dsimp only at hSw); go_simp; first | done | (with_reducible rfl))
            try simp only [Act.put, List.getElem_toArray, List.getElem_cons_zero, List.getElem_cons_succ, List.setIfInBounds_toArray, List.set_cons_zero, List.set_cons_succ]
            refine wpAnyH_take (i := 6) (v := ?vpa6) rfl (by kernel_rfl) (by kernel_rfl) (by kernel_rfl) (fun _ _ _ h => h) (Or.inl ⟨by rfl, ?hypa6⟩) (by assumption) ?restpa6
            case hypa6 => (intro w hSw; (try dsimp only at hSw); go_simp; first | done | (with_reducible rfl))
            try simp only [Act.put, List.getElem_toArray, List.getElem_cons_zero, List.getElem_cons_succ, List.setIfInBounds_toArray, List.set_cons_zero, List.set_cons_succ]
            refine wpAnyH_take (i := 7) (v := ?vpa7) rfl (by kernel_rfl) (by kernel_rfl) (by kernel_rfl) (fun _ _ _ h => h) (Or.inl ⟨by rfl, ?hypa7⟩) (by assumption) ?restpa7
            case hypa7 => (intro w hSw; (try dsimp only at hSw); go_simp; first | done | (with_reducible rfl))
            try simp only [Act.put, List.getElem_toArray, List.getElem_cons_zero, List.getElem_cons_succ, List.setIfInBounds_toArray, List.set_cons_zero, List.set_cons_succ]
            refine wpAnyH_take (i := 8) (v := ?vpa8) rfl (by kernel_rfl) (by kernel_rfl) (by kernel_rfl) (fun _ _ _ h => h) (Or.inl ⟨by rfl, ?hypa8⟩) (by assumption) ?restpa8
            case hypa8 => (intro w hSw; (try dsimp only at hSw); go_simp; first | done | (with_reducible rfl))
            try simp only [Act.put, List.getElem_toArray, List.getElem_cons_zero, List.getElem_cons_succ, List.setIfInBounds_toArray, List.set_cons_zero, List.set_cons_succ]
            refine wpAnyH_done (by kernel_rfl) ?_ _
            go_wp2_with fail
            go_ret
            exact ⟨rfl, HB.out.drew⟩
          · have hne : (t == l0) = false := by simpa using hsm
            replace HBS := hide (HBS.out hsm)
            refine wp_region_held_drew (S := (fun w' => (convert 23 9 (.slice (some ⟨g, 0, none⟩) n cap)).run Try.prog w' = .ok (.string ⟨(t).toArray⟩) w' ∧ (convert 23 9 (.slice A n ca)).run Try.prog w' = .ok (.string ⟨(l0).toArray⟩) w')) (by kernel_rfl) (⟨run_string_bs HT.out, run_string_bs H0.out⟩) (fun hS0 => ?_)
            refine wpAnyH_take (i := 0) (v := ?vpb0) rfl (by kernel_rfl) (by kernel_rfl) (by kernel_rfl) (fun _ _ _ h => h) (Or.inl ⟨by rfl, ?hypb0⟩) (by assumption) ?restpb0
            case hypb0 => (intro w hSw; (try dsimp only at hSw); go_simp; first | done | (with_reducible rfl))
            try simp only [Act.put, List.getElem_toArray, List.getElem_cons_zero, List.getElem_cons_succ, List.setIfInBounds_toArray, List.set_cons_zero, List.set_cons_succ]
            refine wpAnyH_take (i := 1) (v := ?vpb1) rfl (by kernel_rfl) (by kernel_rfl) (by kernel_rfl) (fun _ _ _ h => h) (Or.inl ⟨by rfl, ?hypb1⟩) (by assumption) ?restpb1
            case hypb1 => (intro w hSw; (try dsimp only at hSw); go_simp; first | done | (with_reducible rfl))
            try simp only [Act.put, List.getElem_toArray, List.getElem_cons_zero, List.getElem_cons_succ, List.setIfInBounds_toArray, List.set_cons_zero, List.set_cons_succ]
            refine wpAnyH_take (i := 2) (v := ?vpb2) rfl (by kernel_rfl) (by kernel_rfl) (by kernel_rfl) (fun _ _ _ h => h) (Or.inl ⟨by rfl, ?hypb2⟩) (by assumption) ?restpb2
            case hypb2 => (intro w hSw; (try dsimp only at hSw); go_simp; first | done | (with_reducible rfl))
            try simp only [Act.put, List.getElem_toArray, List.getElem_cons_zero, List.getElem_cons_succ, List.setIfInBounds_toArray, List.set_cons_zero, List.set_cons_succ]
            refine wpAnyH_take (i := 3) (v := ?vpb3) rfl (by kernel_rfl) (by kernel_rfl) (by kernel_rfl) (fun _ _ _ h => h) (Or.inl ⟨by rfl, ?hypb3⟩) (by assumption) ?restpb3
            case hypb3 => (intro w hSw; (try dsimp only at hSw); go_simp; first | done | (with_reducible rfl))
            try simp only [Act.put, List.getElem_toArray, List.getElem_cons_zero, List.getElem_cons_succ, List.setIfInBounds_toArray, List.set_cons_zero, List.set_cons_succ]
            refine wpAnyH_take (i := 4) (v := ?vpb4) rfl (by kernel_rfl) (by kernel_rfl) (by kernel_rfl) (fun _ _ _ h => h) (Or.inl ⟨by rfl, ?hypb4⟩) (by assumption) ?restpb4
            case hypb4 => (intro w hSw; (try dsimp only at hSw); go_simp; first | done | (with_reducible rfl))
            try simp only [Act.put, List.getElem_toArray, List.getElem_cons_zero, List.getElem_cons_succ, List.setIfInBounds_toArray, List.set_cons_zero, List.set_cons_succ]
            refine wpAnyH_take (i := 5) (v := ?vpb5) rfl (by kernel_rfl) (by kernel_rfl) (by kernel_rfl) (fun _ _ _ h => h) (Or.inl ⟨by rfl, ?hypb5⟩) (by assumption) ?restpb5
            case hypb5 => (intro w hSw; (try dsimp only at hSw); go_simp; first | done | (with_reducible rfl))
            try simp only [Act.put, List.getElem_toArray, List.getElem_cons_zero, List.getElem_cons_succ, List.setIfInBounds_toArray, List.set_cons_zero, List.set_cons_succ]
            refine wpAnyH_take (i := 6) (v := ?vpb6) rfl (by kernel_rfl) (by kernel_rfl) (by kernel_rfl) (fun _ _ _ h => h) (Or.inl ⟨by rfl, ?hypb6⟩) (by assumption) ?restpb6
            case hypb6 => (intro w hSw; (try dsimp only at hSw); go_simp; first | done | (with_reducible rfl))
            try simp only [Act.put, List.getElem_toArray, List.getElem_cons_zero, List.getElem_cons_succ, List.setIfInBounds_toArray, List.set_cons_zero, List.set_cons_succ]
            refine wpAnyH_take (i := 7) (v := ?vpb7) rfl (by kernel_rfl) (by kernel_rfl) (by kernel_rfl) (fun _ _ _ h => h) (Or.inl ⟨by rfl, ?hypb7⟩) (by assumption) ?restpb7
            case hypb7 => (intro w hSw; (try dsimp only at hSw); go_simp; first | done | (with_reducible rfl))
            try simp only [Act.put, List.getElem_toArray, List.getElem_cons_zero, List.getElem_cons_succ, List.setIfInBounds_toArray, List.set_cons_zero, List.set_cons_succ]
            refine wpAnyH_take (i := 8) (v := ?vpb8) rfl (by kernel_rfl) (by kernel_rfl) (by kernel_rfl) (fun _ _ _ h => h) (Or.inl ⟨by rfl, ?hypb8⟩) (by assumption) ?restpb8
            case hypb8 => (intro w hSw; (try dsimp only at hSw); go_simp; first | done | (with_reducible rfl))
            try simp only [Act.put, List.getElem_toArray, List.getElem_cons_zero, List.getElem_cons_succ, List.setIfInBounds_toArray, List.set_cons_zero, List.set_cons_succ]
            refine wpAnyH_done (by kernel_rfl) ?_ _
            go_wp2_with fail
            refine (sum_c _ t _ HT.out.drew).mono ?_
            rintro e w5 ⟨rfl, hb5⟩
            replace H0 := hide (H0.out.drew.step hb5)
            replace HB := hide (HB.out.drew.trans (hb5.mono HB.out.size))
            clear hb5
            go_wp2_with fail
            refine (sum_c _ l0 _ H0.out).mono ?_
            rintro e w6 ⟨rfl, hb6⟩
            have hq2 : (u32 (upd 0#32 t) != u32 (upd 0#32 l0)) = true := by simp only [bne, HBS.out, Bool.not_false]
            replace HB := hide (HB.out.trans (hb6.mono HB.out.size))
            clear hb6
            go_wp2_with fail
            go_ret
            exact ⟨rfl, HB.out⟩
    · have hge : 32 ≤ (k : Int) := by omega
      have HO := hide ho
      have hs := HBX.out.trans hb2
      replace H0 := hide (H0.out.step hs)
      replace HB := hide (HB.out.trans (hs.mono HB.out.size))
      have HF := hide hfk
      have HK := hide hk
      clear ho hb2 hs hk hfk
      go_wp2_with fail
      refine (open_c _ (bad c first k l0) _ HO.out.bs (by rw [bad_len]; have := HL0.out; have := HN.out; omega)).mono ?_
      rintro e w4 ⟨vc, code, rfl, hoc, hbc, hcode⟩
      replace H0 := hide (H0.out.step hbc)
      replace HO := hide (HO.out.step hbc)
      replace HB := hide (HB.out.trans (hbc.mono HB.out.size))
      clear hbc
      cases hany : anyb c k with
      | false =>
        rw [bad_none _ _ _ _ hany, open_seal] at hcode hoc
        obtain rfl : code = 0 := hcode
        simp only [Option.getD_some] at hoc
        have c1 := run_string_bs hoc.bs
        have c2 := run_string_bs H0.out
        clear hoc hany
        go_wp2_with fail
        go_ret
        exact ⟨rfl, HB.out⟩
      | true =>
        rw [bad_open _ _ _ _ hany HK.out (by rw [HN.out]; exact HF.out)] at hcode hoc
        obtain rfl : code = 11 := hcode
        simp only [Option.getD_none] at hoc
        obtain ⟨C', cc', rfl, _, _⟩ := hoc.form
        clear hoc hany
        have HT := hide (HO.out.bs.take (k := n) (by omega))
        have HBS := hide (bad_sum c first k l0 HK.out)
        rw [HN.out] at HBS
        generalize (bad c first k l0).take n = t at HT HBS
        have hcn : n ≤ cap := by omega
        go_wp2_with fail
        by_cases hsm : t = l0
        · subst hsm
          refine wp_region_held_drew (S := (fun w' => (convert 23 9 (.slice (some ⟨g, 0, none⟩) n cap)).run Try.prog w' = .ok (.string ⟨(t).toArray⟩) w' ∧ (convert 23 9 (.slice A n ca)).run Try.prog w' = .ok (.string ⟨(t).toArray⟩) w')) (by kernel_rfl) (⟨run_string_bs HT.out, run_string_bs H0.out⟩) (fun hS0 => ?_)
          refine wpAnyH_take (i := 0) (v := ?vqa0) rfl (by kernel_rfl) (by kernel_rfl) (by kernel_rfl) (fun _ _ _ h => h) (Or.inl ⟨by rfl, ?hyqa0⟩) (by assumption) ?restqa0
          case hyqa0 => (intro w hSw; (try dsimp only at hSw); go_simp; first | done | (with_reducible rfl))
          try simp only [Act.put, List.getElem_toArray, List.getElem_cons_zero, List.getElem_cons_succ, List.setIfInBounds_toArray, List.set_cons_zero, List.set_cons_succ]
          refine wpAnyH_take (i := 1) (v := ?vqa1) rfl (by kernel_rfl) (by kernel_rfl) (by kernel_rfl) (fun _ _ _ h => h) (Or.inl ⟨by rfl, ?hyqa1⟩) (by assumption) ?restqa1
          case hyqa1 => (intro w hSw; (try dsimp only at hSw); go_simp; first | done | (with_reducible rfl))
          try simp only [Act.put, List.getElem_toArray, List.getElem_cons_zero, List.getElem_cons_succ, List.setIfInBounds_toArray, List.set_cons_zero, List.set_cons_succ]
          refine wpAnyH_take (i := 2) (v := ?vqa2) rfl (by kernel_rfl) (by kernel_rfl) (by kernel_rfl) (fun _ _ _ h => h) (Or.inl ⟨by rfl, ?hyqa2⟩) (by assumption) ?restqa2
          case hyqa2 => (intro w hSw; (try dsimp only at hSw); go_simp; first | done | (with_reducible rfl))
          try simp only [Act.put, List.getElem_toArray, List.getElem_cons_zero, List.getElem_cons_succ, List.setIfInBounds_toArray, List.set_cons_zero, List.set_cons_succ]
          refine wpAnyH_take (i := 3) (v := ?vqa3) rfl (by kernel_rfl) (by kernel_rfl) (by kernel_rfl) (fun _ _ _ h => h) (Or.inl ⟨by rfl, ?hyqa3⟩) (by assumption) ?restqa3
          case hyqa3 => (intro w hSw; (try dsimp only at hSw); go_simp; first | done | (with_reducible rfl))
          try simp only [Act.put, List.getElem_toArray, List.getElem_cons_zero, List.getElem_cons_succ, List.setIfInBounds_toArray, List.set_cons_zero, List.set_cons_succ]
          refine wpAnyH_take (i := 4) (v := ?vqa4) rfl (by kernel_rfl) (by kernel_rfl) (by kernel_rfl) (fun _ _ _ h => h) (Or.inl ⟨by rfl, ?hyqa4⟩) (by assumption) ?restqa4
          case hyqa4 => (intro w hSw; (try dsimp only at hSw); go_simp; first | done | (with_reducible rfl))
          try simp only [Act.put, List.getElem_toArray, List.getElem_cons_zero, List.getElem_cons_succ, List.setIfInBounds_toArray, List.set_cons_zero, List.set_cons_succ]
          refine wpAnyH_take (i := 5) (v := ?vqa5) rfl (by kernel_rfl) (by kernel_rfl) (by kernel_rfl) (fun _ _ _ h => h) (Or.inl ⟨by rfl, ?hyqa5⟩) (by assumption) ?restqa5
          case hyqa5 => (intro w hSw; (try dsimp only at hSw); go_simp; first | done | (with_reducible rfl))
          try simp only [Act.put, List.getElem_toArray, List.getElem_cons_zero, List.getElem_cons_succ, List.setIfInBounds_toArray, List.set_cons_zero, List.set_cons_succ]
          refine wpAnyH_take (i := 6) (v := ?vqa6) rfl (by kernel_rfl) (by kernel_rfl) (by kernel_rfl) (fun _ _ _ h => h) (Or.inl ⟨by rfl, ?hyqa6⟩) (by assumption) ?restqa6
          case hyqa6 => (intro w hSw; (try dsimp only at hSw); go_simp; first | done | (with_reducible rfl))
          try simp only [Act.put, List.getElem_toArray, List.getElem_cons_zero, List.getElem_cons_succ, List.setIfInBounds_toArray, List.set_cons_zero, List.set_cons_succ]
          refine wpAnyH_take (i := 7) (v := ?vqa7) rfl (by kernel_rfl) (by kernel_rfl) (by kernel_rfl) (fun _ _ _ h => h) (Or.inl ⟨by rfl, ?hyqa7⟩) (by assumption) ?restqa7
          case hyqa7 => (intro w hSw; (try dsimp only at hSw); go_simp; first | done | (with_reducible rfl))
          try simp only [Act.put, List.getElem_toArray, List.getElem_cons_zero, List.getElem_cons_succ, List.setIfInBounds_toArray, List.set_cons_zero, List.set_cons_succ]
          refine wpAnyH_take (i := 8) (v := ?vqa8) rfl (by kernel_rfl) (by kernel_rfl) (by kernel_rfl) (fun _ _ _ h => h) (Or.inl ⟨by rfl, ?hyqa8⟩) (by assumption) ?restqa8
          case hyqa8 => (intro w hSw; (try dsimp only at hSw); go_simp; first | done | (with_reducible rfl))
          try simp only [Act.put, List.getElem_toArray, List.getElem_cons_zero, List.getElem_cons_succ, List.setIfInBounds_toArray, List.set_cons_zero, List.set_cons_succ]
          refine wpAnyH_done (by kernel_rfl) ?_ _
          go_wp2_with fail
          go_ret
          exact ⟨rfl, HB.out.drew⟩
        · have hne : (t == l0) = false := by simpa using hsm
          replace HBS := hide (HBS.out hsm)
          refine wp_region_held_drew (S := (fun w' => (convert 23 9 (.slice (some ⟨g, 0, none⟩) n cap)).run Try.prog w' = .ok (.string ⟨(t).toArray⟩) w' ∧ (convert 23 9 (.slice A n ca)).run Try.prog w' = .ok (.string ⟨(l0).toArray⟩) w')) (by kernel_rfl) (⟨run_string_bs HT.out, run_string_bs H0.out⟩) (fun hS0 => ?_)
          refine wpAnyH_take (i := 0) (v := ?vqb0) rfl (by kernel_rfl) (by kernel_rfl) (by kernel_rfl) (fun _ _ _ h => h) (Or.inl ⟨by rfl, ?hyqb0⟩) (by assumption) ?restqb0
          case hyqb0 => (intro w hSw; (try dsimp only at hSw); go_simp; first | done | (with_reducible rfl))
          try simp only [Act.put, List.getElem_toArray, List.getElem_cons_zero, List.getElem_cons_succ, List.setIfInBounds_toArray, List.set_cons_zero, List.set_cons_succ]
          refine wpAnyH_take (i := 1) (v := ?vqb1) rfl (by kernel_rfl) (by kernel_rfl) (by kernel_rfl) (fun _ _ _ h => h) (Or.inl ⟨by rfl, ?hyqb1⟩) (by assumption) ?restqb1
          case hyqb1 => (intro w hSw; (try dsimp only at hSw); go_simp; first | done | (with_reducible rfl))
          try simp only [Act.put, List.getElem_toArray, List.getElem_cons_zero, List.getElem_cons_succ, List.setIfInBounds_toArray, List.set_cons_zero, List.set_cons_succ]
          refine wpAnyH_take (i := 2) (v := ?vqb2) rfl (by kernel_rfl) (by kernel_rfl) (by kernel_rfl) (fun _ _ _ h => h) (Or.inl ⟨by rfl, ?hyqb2⟩) (by assumption) ?restqb2
          case hyqb2 => (intro w hSw; (try dsimp only at hSw); go_simp; first | done | (with_reducible rfl))
          try simp only [Act.put, List.getElem_toArray, List.getElem_cons_zero, List.getElem_cons_succ, List.setIfInBounds_toArray, List.set_cons_zero, List.set_cons_succ]
          refine wpAnyH_take (i := 3) (v := ?vqb3) rfl (by kernel_rfl) (by kernel_rfl) (by kernel_rfl) (fun _ _ _ h => h) (Or.inl ⟨by rfl, ?hyqb3⟩) (by assumption) ?restqb3
          case hyqb3 => (intro w hSw; (try dsimp only at hSw); go_simp; first | done | (with_reducible rfl))
          try simp only [Act.put, List.getElem_toArray, List.getElem_cons_zero, List.getElem_cons_succ, List.setIfInBounds_toArray, List.set_cons_zero, List.set_cons_succ]
          refine wpAnyH_take (i := 4) (v := ?vqb4) rfl (by kernel_rfl) (by kernel_rfl) (by kernel_rfl) (fun _ _ _ h => h) (Or.inl ⟨by rfl, ?hyqb4⟩) (by assumption) ?restqb4
          case hyqb4 => (intro w hSw; (try dsimp only at hSw); go_simp; first | done | (with_reducible rfl))
          try simp only [Act.put, List.getElem_toArray, List.getElem_cons_zero, List.getElem_cons_succ, List.setIfInBounds_toArray, List.set_cons_zero, List.set_cons_succ]
          refine wpAnyH_take (i := 5) (v := ?vqb5) rfl (by kernel_rfl) (by kernel_rfl) (by kernel_rfl) (fun _ _ _ h => h) (Or.inl ⟨by rfl, ?hyqb5⟩) (by assumption) ?restqb5
          case hyqb5 => (intro w hSw; (try dsimp only at hSw); go_simp; first | done | (with_reducible rfl))
          try simp only [Act.put, List.getElem_toArray, List.getElem_cons_zero, List.getElem_cons_succ, List.setIfInBounds_toArray, List.set_cons_zero, List.set_cons_succ]
          refine wpAnyH_take (i := 6) (v := ?vqb6) rfl (by kernel_rfl) (by kernel_rfl) (by kernel_rfl) (fun _ _ _ h => h) (Or.inl ⟨by rfl, ?hyqb6⟩) (by assumption) ?restqb6
          case hyqb6 => (intro w hSw; (try dsimp only at hSw); go_simp; first | done | (with_reducible rfl))
          try simp only [Act.put, List.getElem_toArray, List.getElem_cons_zero, List.getElem_cons_succ, List.setIfInBounds_toArray, List.set_cons_zero, List.set_cons_succ]
          refine wpAnyH_take (i := 7) (v := ?vqb7) rfl (by kernel_rfl) (by kernel_rfl) (by kernel_rfl) (fun _ _ _ h => h) (Or.inl ⟨by rfl, ?hyqb7⟩) (by assumption) ?restqb7
          case hyqb7 => (intro w hSw; (try dsimp only at hSw); go_simp; first | done | (with_reducible rfl))
          try simp only [Act.put, List.getElem_toArray, List.getElem_cons_zero, List.getElem_cons_succ, List.setIfInBounds_toArray, List.set_cons_zero, List.set_cons_succ]
          refine wpAnyH_take (i := 8) (v := ?vqb8) rfl (by kernel_rfl) (by kernel_rfl) (by kernel_rfl) (fun _ _ _ h => h) (Or.inl ⟨by rfl, ?hyqb8⟩) (by assumption) ?restqb8
          case hyqb8 => (intro w hSw; (try dsimp only at hSw); go_simp; first | done | (with_reducible rfl))
          try simp only [Act.put, List.getElem_toArray, List.getElem_cons_zero, List.getElem_cons_succ, List.setIfInBounds_toArray, List.set_cons_zero, List.set_cons_succ]
          refine wpAnyH_done (by kernel_rfl) ?_ _
          go_wp2_with fail
          refine (sum_c _ t _ HT.out.drew).mono ?_
          rintro e w5 ⟨rfl, hb5⟩
          replace H0 := hide (H0.out.drew.step hb5)
          replace HB := hide (HB.out.drew.trans (hb5.mono HB.out.size))
          clear hb5
          go_wp2_with fail
          refine (sum_c _ l0 _ H0.out).mono ?_
          rintro e w6 ⟨rfl, hb6⟩
          have hq2 : (u32 (upd 0#32 t) != u32 (upd 0#32 l0)) = true := by simp only [bne, HBS.out, Bool.not_false]
          replace HB := hide (HB.out.trans (hb6.mono HB.out.size))
          clear hb6
          go_wp2_with fail
          go_ret
          exact ⟨rfl, HB.out⟩
end Go.Proofs.Ytmnebingmedloaa
