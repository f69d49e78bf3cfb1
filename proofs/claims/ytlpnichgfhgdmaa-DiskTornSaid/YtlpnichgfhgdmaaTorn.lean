/- DiskTorn: of a single pending write just the first bytes survive. -/
import Derived.Test.YtlpnichgfhgdmaaLast
namespace Go.Proofs.Ytlpnichgfhgdmaa
open Go.ChangeShapes Go.WideShapes Go.ChangeAt Go.RowKit
set_option linter.unusedVariables false
set_option linter.unusedSimpArgs false

theorem torn_write {D : DS} {ps : List (List UInt8)} (h : Cl D ps 0) (p : Nat) (data : List UInt8) (hp : p < D.pages.length) (hl : data.length = 128) : dWrite D p data = ({ D with pend := [(p, data)] }, 0) := by
  have hb := cl_burn h
  have h0 : D.pend = [] := List.eq_nil_of_length_eq_zero (Nat.le_zero.1 h.pend)
  unfold dWrite
  rw [if_neg (by simp [h.failed]), if_neg (by simp [hl]), if_neg (by rw [thereB_iff]; omega), hb, if_pos rfl]
  simp [h0]
theorem torn_read {D : DS} {ps : List (List UInt8)} (h : Cl D ps 0) (p : Nat) (hp : p < D.pages.length) : dRead D p = (D.pages.getD p [], 0) := by
  have h0 : D.pend = [] := List.eq_nil_of_length_eq_zero (Nat.le_zero.1 h.pend)
  unfold dRead
  rw [if_neg (by simp [h.failed]), if_pos ((thereB_iff D p).2 ⟨by omega, by omega⟩)]
  show (content D p, (0 : Int)) = _
  rw [content_last, h0]; rfl
theorem torn_crash {D : DS} {ps : List (List UInt8)} (h : Cl D ps 0) (p : Nat) (data : List UInt8) (n : Int) (hp : p < D.pages.length) :
    dRead (dCrash { D with pend := [(p, data)] } [n]) p = (mixed (D.pages.getD p []) data n, 0) := by
  have hc := cl_crash { D with pend := [(p, data)] } [n]
  have e : (dCrash { D with pend := [(p, data)] } [n]).pages = D.pages.set p (mixed (D.pages.getD p []) data n) := rfl
  rw [torn_read hc p (by rw [e, List.length_set]; exact hp), e]
  rw [List.getD_eq_getElem?_getD, List.getElem?_set_self hp]; rfl
theorem Bs.own_lt {w : World} {v : Value} {l : List UInt8} (h : Bs w v l) (h0 : 0 < l.length) : ∀ j, v.ownBlock = some j → j < w.heap.size := by
  intro j hj
  obtain ⟨A, c, rfl, _, _, h3⟩ := h
  obtain ⟨b, off, rfl, hb, _⟩ := h3 h0
  have e : b = j := by injection hj
  omega
theorem mixed_at (page data : List UInt8) (n : Int) (h1 : page.length = 128) (h2 : data.length = 128) (i : Nat) (hi : i < 128) : (mixed page data n)[i]? = if (i : Int) < n then data[i]? else page[i]? := by
  unfold mixed
  by_cases h : (i : Int) < n
  · rw [if_pos h, List.getElem?_append_left (by rw [List.length_take]; omega), List.getElem?_take, if_pos (by omega)]
  · rw [if_neg h, List.getElem?_append_right (by rw [List.length_take]; omega), List.length_take, List.getElem?_drop]
    congr 1
    omega

set_option maxRecDepth 100000 in
set_option maxHeartbeats 8000000 in
theorem walkDiskTorn (W : World) (v0 : Value) (l0 : List OpV) (h0 : OpsIn W v0 l0) (a1 : Int) (ws1 : (Lit.int .u8 a1).wf = true) (a2 : Int) (ws2 : (Lit.int .u8 a2).wf = true) (nn : Int) (ws3 : (Lit.int .i64 nn).wf = true) :
    Calls Try.prog 5 #[v0, .int .u8 a1, .int .u8 a2, .int .i64 nn] W fun e w' => e = .returned (.bool true) ∧ Below W.heap.size W w' := by
  obtain ⟨A0, n0, c0, rfl, hn0, _, _⟩ := h0.form
  have ⟨q0, q1⟩ : 0 ≤ a1 ∧ a1 ≤ 255 := by simpa [Lit.wf, IntKind.min, IntKind.max, IntKind.signed, IntKind.bits] using ws1
  have hfill : 0 ≤ a2 ∧ a2 ≤ 255 := by simpa [Lit.wf, IntKind.min, IntKind.max, IntKind.signed, IntKind.bits] using ws2
  have hnn : -9223372036854775808 ≤ nn ∧ nn ≤ 9223372036854775807 := by simpa [Lit.wf, IntKind.min, IntKind.max, IntKind.signed, IntKind.bits] using ws3
  obtain ⟨p, hp⟩ : ∃ p : Nat, a1 % 6 = p := ⟨(a1 % 6).toNat, by omega⟩
  have e6 : a1.tmod 6 = (p : Int) := by rw [Int.tmod_eq_emod_of_nonneg q0, hp]
  have hp6 : p < 6 := by omega
  have hpz : (p : Int) ≤ 5 := by omega
  have HP := hide hp6
  have HFI := hide hfill
  have HNN := hide hnn
  have HF0 := hide (fun (X : World) (k : Below W.heap.size W X) => few_c _ l0 20 X (h0.step k))
  by_cases hf0 : fewB l0 20 = true
  case neg =>
    have hf : fewB l0 20 = false := by simpa using hf0
    rw [hf] at HF0
    clear h0 hf hf0 ws1 ws2 ws3 q0 q1 hp
    go_enter Try.func5, Try.ntmps5
    go_wp2_with fail
    refine (awake_c _).mono ?_
    rintro e w1 ⟨rfl, hb1⟩
    go_wp2_with fail
    refine (HF0.out w1 hb1).mono ?_
    rintro e w2 ⟨rfl, rfl⟩
    go_wp2_with fail
    go_ret
    exact ⟨rfl, hb1⟩
  have hl0 := fewB_len (k := 20) hf0
  rw [hf0] at HF0
  obtain ⟨_, hrp, hrq⟩ := dRun_len (D := dNew 6) l0 (dNew_ok 6) h0.all
  have HRP : Hid ((dRun (dNew 6) l0).pages.length = 6) := hide (hrp.trans (by simp [dNew]))
  have HRU := hide (fun (X : World) (k : Below W.heap.size W X) => run_c _ l0 X (h0.step k) (by omega))
  generalize dRun (dNew 6) l0 = D at *
  clear h0 hf0 hl0 hrp hrq ws1 ws2 ws3 q0 q1 hp
  go_enter Try.func5, Try.ntmps5
  go_wp2_with fail
  refine (awake_c _).mono ?_
  rintro e w1 ⟨rfl, hb1⟩
  have HB1 := hide hb1
  clear hb1
  go_wp2_with fail
  refine (HF0.out w1 HB1.out).mono ?_
  rintro e w2 ⟨rfl, rfl⟩
  go_wp2_with fail
  refine (HRU.out w1 HB1.out).mono ?_
  rintro e w2 ⟨d, F, rfl, hd, hlo, hb2⟩
  have HL : Hid (Lw W d F D w2) := hide ⟨hd, fun j hj => Nat.le_trans HB1.out.size (hlo j hj), HB1.out.trans (hb2.mono HB1.out.size)⟩
  clear hd hlo hb2 HF0 HRU
  go_wp2_with fail
  refine (crash_c d F D _ [] w2 HL.out.disk (Is.nil _) (fun j hj => by cases hj)).mono ?_
  rintro e w3 hdo
  obtain ⟨rfl, F3, hl3, _, _⟩ := HL.out.does hdo
  have HL3 := hide hl3
  have HC3 := hide (cl_crash D [])
  have HP3 : Hid ((dCrash D []).pages.length = 6) := hide ((dCrash_len HL.out.ok []).trans HRP.out)
  clear hdo hl3 HL
  generalize dCrash D [] = D3 at *
  have HR1 := hide (read_c d F3 D3 (p : Int) w3 HL3.out.disk)
  unfold ReadR at HR1
  rw [torn_read HC3.out p (by rw [HP3.out]; exact HP.out)] at HR1
  have HPL : Hid ((D3.pages.getD p []).length = 128) := hide (by rw [List.getD_eq_getElem?_getD, List.getElem?_eq_getElem (by rw [HP3.out]; exact HP.out)]; exact HL3.out.ok.pages _ (List.getElem_mem _))
  go_wp2_with fail
  refine HR1.out.mono ?_
  rintro e w4 ⟨vo, rfl, hvo, hvw, hb4⟩
  obtain ⟨Ao, mo, co, rfl, hmo, _, _⟩ := hvo.formN
  obtain rfl : mo = 128 := hmo.out.trans HPL.out
  have HA4 : Hid (Bs w4 (.slice Ao 128 co) (D3.pages.getD p [])) := hide hvo
  have HVO : Hid (∀ j, (Value.slice Ao 128 co).ownBlock = some j → w3.heap.size ≤ j) := hide hvw
  have HL4 := hide (HL3.out.step hb4)
  have HS34 : Hid (w3.heap.size ≤ w4.heap.size) := hide hb4.size
  have HF3 : Hid (∀ j ∈ F3, j < w3.heap.size) := hide HL3.out.disk.lt
  clear hvo hvw hb4 HR1
  obtain ⟨x, hx⟩ : ∃ x : OpV, x = ⟨0, 0, 0, a2, 0, .slice none 0 0, []⟩ := ⟨_, rfl⟩
  have HDA := hide (fun (X : World) => data_c x X ⟨by rw [hx]; simp, by rw [hx]; simp, by rw [hx]; exact HFI.out, by rw [hx]; simp, by rw [hx]; exact Is.nil _⟩)
  have HDL : Hid ((dataOf x).length = 128) := hide (by rw [dataOf_len, hx]; rfl)
  unfold OpV.val at HDA
  rw [hx] at HDA
  simp only at HDA
  rw [← hx] at HDA
  generalize dataOf x = xl at *
  clear hx
  go_wp2_with fail
  refine (HDA.out w4).mono ?_
  rintro e w5 ⟨vx, rfl, how, hb5⟩
  obtain ⟨Ax, mx, cx, rfl, hmx, _, _⟩ := how.formN
  obtain rfl : mx = 128 := hmx.out.trans HDL.out
  have HX5 := hide how
  have HL5 := hide (HL4.out.step hb5)
  have HA5 := hide (HA4.out.step hb5)
  have HB5S : Hid (w4.heap.size ≤ w5.heap.size) := hide hb5.size
  have HS5 : Hid (w3.heap.size ≤ w4.heap.size) := hide (by have h := HL4.out.b.size; exact Nat.le_trans (Nat.le_refl _) (HS34.out))
  have HWR := hide (write_c d F3 D3 (p : Int) _ xl w5 HL5.out.disk how.bs (fun _ j hj => by have h1 := how.lt j hj; exact ⟨fun hm => by have h2 := HF3.out j hm; have h3 := HS5.out; omega, h1.2⟩) (by have := HC3.out.pend; omega))
  rw [torn_write HC3.out p xl (by rw [HP3.out]; exact HP.out) HDL.out] at HWR
  clear how hb5 hmx hmo
  go_wp2_with fail
  refine HWR.out.mono ?_
  rintro e w6 hdo
  obtain ⟨rfl, F6, hl6, ht6, hF6⟩ := HL5.out.does hdo
  have HL6 := hide hl6
  have HA6 := hide (HA5.out.touch ht6 (fun j hj hm => by have h1 := HVO.out j hj; have h2 := HF3.out j hm; omega))
  have HX6 := hide (HX5.out.bs.touch ht6 (fun j hj hm => by have h1 := (HX5.out.lt j hj).1; have h2 := HF3.out j hm; have h3 := HS5.out; omega))
  have HF6 := hide hF6
  have HX5L := hide HX5.out.lt
  have HB45 : Hid (w4.heap.size ≤ w5.heap.size) := hide HB5S.out
  have HS6 := hide ht6.size
  clear hdo hl6 ht6 hF6 HWR
  have HI6 : Hid (Is (w6.alloc (.cells #[.int .i64 nn] 3)) (.slice (some ⟨w6.heap.size, 0, none⟩) 1 1) [nn]) := hide (Row.is (l := [nn]) (row_lit w6 0 3 1 1 [.int .i64 nn] rfl (by decide) (Nat.zero_le _)) (fun y hy => by simp at hy; subst hy; exact HNN.out))
  have HL7 := hide (HL6.out.step (below_first w6 (.cells #[.int .i64 nn] 3)))
  have HA7 := hide (HA6.out.step (below_first w6 (.cells #[.int .i64 nn] 3)))
  have HX7 := hide (HX6.out.step (below_first w6 (.cells #[.int .i64 nn] 3)))
  have HF7 : Hid (∀ j ∈ F6, j < w6.heap.size) := hide HL6.out.disk.lt
  go_wp2_with fail
  refine (crash_c d F6 _ _ [nn] _ HL7.out.disk HI6.out (fun j hj hm => by have e : w6.heap.size = j := (by injection hj); have := HF7.out j hm; omega)).mono ?_
  rintro e w8 hdo
  obtain ⟨rfl, F8, hl8, ht8, hF8⟩ := HL7.out.does hdo
  have HL8 := hide hl8
  have HA8 := hide (HA7.out.touch ht8 (fun j hj hm => by
    have h1 := HVO.out j hj
    have h2 := (Bs.own_lt HA4.out (by rw [HPL.out]; decide) j hj)
    rcases HF6.out j hm with e | e
    · have := HF3.out j e; omega
    · have h6 := HB45.out; omega))
  have HX8 := hide (HX7.out.touch ht8 (fun j hj hm => by
    have h1 := HX5L.out j hj
    rcases HF6.out j hm with e | e
    · have := HF3.out j e; have := HS5.out; omega
    · omega))
  clear hdo hl8 ht8 hF8
  have HR2 := hide (read_c d F8 _ (p : Int) w8 HL8.out.disk)
  unfold ReadR at HR2
  rw [torn_crash HC3.out p xl nn (by rw [HP3.out]; exact HP.out)] at HR2
  have HML : Hid ((mixed (D3.pages.getD p []) xl nn).length = 128) := hide (mixed_len _ _ _ HPL.out HDL.out)
  have HAT := hide (fun i hi => mixed_at (D3.pages.getD p []) xl nn HPL.out HDL.out i hi)
  generalize mixed (D3.pages.getD p []) xl nn = ml at *
  go_wp2_with fail
  refine HR2.out.mono ?_
  rintro e w9 ⟨vm, rfl, hvm, _, hb9⟩
  obtain ⟨Am, mm, cm, rfl, hmm, _, _⟩ := hvm.formN
  obtain rfl : mm = 128 := hmm.out.trans HML.out
  have HM9 := hide hvm
  have HA9 := hide (HA8.out.step hb9)
  have HX9 := hide (HX8.out.step hb9)
  have HB9 := hide (HL8.out.b.trans (hb9.mono HL8.out.b.size))
  clear hvm hb9 HR2 hmm
  generalize D3.pages.getD p [] = ol at *
  go_wp2_with fail
  go_loopw [15, 65] (fun _ v65 wr => ∃ k : Nat, v65 = .int .i64 k ∧ k ≤ 128 ∧ Below w9.heap.size w9 wr) (fun _ v65 _ => 128 - (intOf v65).toNat)
  case atStart => exact ⟨0, rfl, Nat.zero_le _, Below.refl _ _⟩
  case round =>
    obtain ⟨k, rfl, hk, hbw⟩ := hrel
    have HBW := hide hbw
    by_cases hlt : k < 128
    · have hki : (k : Int) < 128 := by omega
      obtain ⟨bm, om, ym, rfl, _, hym, cm1⟩ := (HM9.out.step hbw).at_ hlt
      obtain ⟨bx, ox, yx, rfl, _, hyx, cx1⟩ := (HX9.out.step hbw).at_ hlt
      obtain ⟨bo, oo, yo, rfl, _, hyo, co1⟩ := (HA9.out.step hbw).at_ hlt
      have hat := HAT.out k hlt
      rw [hym, hyx, hyo] at hat
      have HLT := hide hlt
      clear hbw hlt hym hyx hyo
      by_cases hkn : (k : Int) < nn
      · rw [if_pos hkn] at hat
        obtain rfl : ym = yx := by injection hat
        have hdec : decide ((k : Int) < nn) = true := by simpa using hkn
        have hdec2 : decide (nn ≤ (k : Int)) = false := by simpa using hkn
        have hs1 : (Go.Proofs.Ytlpnichgfhgdmaa.u8 ym == Go.Proofs.Ytlpnichgfhgdmaa.u8 ym) = true := by simp
        have hs2 : (Go.Proofs.Ytlpnichgfhgdmaa.u8 ym != Go.Proofs.Ytlpnichgfhgdmaa.u8 ym) = false := by simp
        clear hat
        go_wp2_with fail
        refine wp_region_held_drew (S := fun w' => w'.cell? ⟨bm, om + k, none⟩ = some (.int .u8 (Go.Proofs.Ytlpnichgfhgdmaa.u8 ym)) ∧ w'.cell? ⟨bx, ox + k, none⟩ = some (.int .u8 (Go.Proofs.Ytlpnichgfhgdmaa.u8 ym))) (by kernel_rfl) (⟨cm1, cx1⟩) (fun hS0 => ?_)
        refine wpAnyH_take (i := 0) (v := ?vta0) rfl (by kernel_rfl) (by kernel_rfl) (by kernel_rfl) (fun _ _ _ h => h) (Or.inl ⟨by rfl, ?hyta0⟩) (by assumption) ?restta0
        case hyta0 => (intro w hSw; (try dsimp only at hSw); go_simp; first | done | (with_reducible rfl))
        try simp only [Act.put, List.getElem_toArray, List.getElem_cons_zero, List.getElem_cons_succ, List.setIfInBounds_toArray, List.set_cons_zero, List.set_cons_succ]
        refine wpAnyH_take (i := 1) (v := ?vta1) rfl (by kernel_rfl) (by kernel_rfl) (by kernel_rfl) (fun _ _ _ h => h) (Or.inl ⟨by rfl, ?hyta1⟩) (by assumption) ?restta1
        case hyta1 => (intro w hSw; (try dsimp only at hSw); go_simp; first | done | (with_reducible rfl))
        try simp only [Act.put, List.getElem_toArray, List.getElem_cons_zero, List.getElem_cons_succ, List.setIfInBounds_toArray, List.set_cons_zero, List.set_cons_succ]
        refine wpAnyH_take (i := 2) (v := ?vta2) rfl (by kernel_rfl) (by kernel_rfl) (by kernel_rfl) (fun _ _ _ h => h) (Or.inl ⟨by rfl, ?hyta2⟩) (by assumption) ?restta2
        case hyta2 => (intro w hSw; (try dsimp only at hSw); go_simp; first | done | (with_reducible rfl))
        try simp only [Act.put, List.getElem_toArray, List.getElem_cons_zero, List.getElem_cons_succ, List.setIfInBounds_toArray, List.set_cons_zero, List.set_cons_succ]
        refine wpAnyH_take (i := 3) (v := ?vta3) rfl (by kernel_rfl) (by kernel_rfl) (by kernel_rfl) (fun _ _ _ h => h) (Or.inl ⟨by rfl, ?hyta3⟩) (by assumption) ?restta3
        case hyta3 => (intro w hSw; (try dsimp only at hSw); go_simp; first | done | (with_reducible rfl))
        try simp only [Act.put, List.getElem_toArray, List.getElem_cons_zero, List.getElem_cons_succ, List.setIfInBounds_toArray, List.set_cons_zero, List.set_cons_succ]
        refine wpAnyH_take (i := 4) (v := ?vta4) rfl (by kernel_rfl) (by kernel_rfl) (by kernel_rfl) (fun _ _ _ h => h) (Or.inl ⟨by rfl, ?hyta4⟩) (by assumption) ?restta4
        case hyta4 => (intro w hSw; (try dsimp only at hSw); go_simp; first | done | (with_reducible rfl))
        try simp only [Act.put, List.getElem_toArray, List.getElem_cons_zero, List.getElem_cons_succ, List.setIfInBounds_toArray, List.set_cons_zero, List.set_cons_succ]
        refine wpAnyH_take (i := 5) (v := ?vta5) rfl (by kernel_rfl) (by kernel_rfl) (by kernel_rfl) (fun _ _ _ h => h) (Or.inl ⟨by rfl, ?hyta5⟩) (by assumption) ?restta5
        case hyta5 => (intro w hSw; (try dsimp only at hSw); go_simp; first | done | (with_reducible rfl))
        try simp only [Act.put, List.getElem_toArray, List.getElem_cons_zero, List.getElem_cons_succ, List.setIfInBounds_toArray, List.set_cons_zero, List.set_cons_succ]
        refine wpAnyH_take (i := 6) (v := ?vta6) rfl (by kernel_rfl) (by kernel_rfl) (by kernel_rfl) (fun _ _ _ h => h) (Or.inl ⟨by rfl, ?hyta6⟩) (by assumption) ?restta6
        case hyta6 => (intro w hSw; (try dsimp only at hSw); go_simp; first | done | (with_reducible rfl))
        try simp only [Act.put, List.getElem_toArray, List.getElem_cons_zero, List.getElem_cons_succ, List.setIfInBounds_toArray, List.set_cons_zero, List.set_cons_succ]
        refine wpAnyH_take (i := 7) (v := ?vta7) rfl (by kernel_rfl) (by kernel_rfl) (by kernel_rfl) (fun _ _ _ h => h) (Or.inl ⟨by rfl, ?hyta7⟩) (by assumption) ?restta7
        case hyta7 => (intro w hSw; (try dsimp only at hSw); go_simp; first | done | (with_reducible rfl))
        try simp only [Act.put, List.getElem_toArray, List.getElem_cons_zero, List.getElem_cons_succ, List.setIfInBounds_toArray, List.set_cons_zero, List.set_cons_succ]
        refine wpAnyH_take (i := 8) (v := ?vta8) rfl (by kernel_rfl) (by kernel_rfl) (by kernel_rfl) (fun _ _ _ h => h) (Or.inl ⟨by rfl, ?hyta8⟩) (by assumption) ?restta8
        case hyta8 => (intro w hSw; (try dsimp only at hSw); go_simp; first | done | (with_reducible rfl))
        try simp only [Act.put, List.getElem_toArray, List.getElem_cons_zero, List.getElem_cons_succ, List.setIfInBounds_toArray, List.set_cons_zero, List.set_cons_succ]
        refine wpAnyH_take (i := 9) (v := ?vta9) rfl (by kernel_rfl) (by kernel_rfl) (by kernel_rfl) (fun _ _ _ h => h) (Or.inl ⟨by rfl, ?hyta9⟩) (by assumption) ?restta9
        case hyta9 => (intro w hSw; (try dsimp only at hSw); go_simp; first | done | (with_reducible rfl))
        try simp only [Act.put, List.getElem_toArray, List.getElem_cons_zero, List.getElem_cons_succ, List.setIfInBounds_toArray, List.set_cons_zero, List.set_cons_succ]
        refine wpAnyH_take (i := 10) (v := ?vta10) rfl (by kernel_rfl) (by kernel_rfl) (by kernel_rfl) (fun _ _ _ h => h) (Or.inl ⟨by rfl, ?hyta10⟩) (by assumption) ?restta10
        case hyta10 => (intro w hSw; (try dsimp only at hSw); go_simp; first | done | (with_reducible rfl))
        try simp only [Act.put, List.getElem_toArray, List.getElem_cons_zero, List.getElem_cons_succ, List.setIfInBounds_toArray, List.set_cons_zero, List.set_cons_succ]
        refine wpAnyH_take (i := 11) (v := ?vta11) rfl (by kernel_rfl) (by kernel_rfl) (by kernel_rfl) (fun _ _ _ h => h) (Or.inl ⟨by rfl, ?hyta11⟩) (by assumption) ?restta11
        case hyta11 => (intro w hSw; (try dsimp only at hSw); go_simp; first | done | (with_reducible rfl))
        try simp only [Act.put, List.getElem_toArray, List.getElem_cons_zero, List.getElem_cons_succ, List.setIfInBounds_toArray, List.set_cons_zero, List.set_cons_succ]
        refine wpAnyH_take (i := 12) (v := ?vta12) rfl (by kernel_rfl) (by kernel_rfl) (by kernel_rfl) (fun _ _ _ h => h) (Or.inl ⟨by rfl, ?hyta12⟩) (by assumption) ?restta12
        case hyta12 => (intro w hSw; (try dsimp only at hSw); go_simp; first | done | (with_reducible rfl))
        try simp only [Act.put, List.getElem_toArray, List.getElem_cons_zero, List.getElem_cons_succ, List.setIfInBounds_toArray, List.set_cons_zero, List.set_cons_succ]
        refine wpAnyH_take (i := 13) (v := ?vta13) rfl (by kernel_rfl) (by kernel_rfl) (by kernel_rfl) (fun _ _ _ h => h) (Or.inl ⟨by rfl, ?hyta13⟩) (by assumption) ?restta13
        case hyta13 => (intro w hSw; (try dsimp only at hSw); go_simp; first | done | (with_reducible rfl))
        try simp only [Act.put, List.getElem_toArray, List.getElem_cons_zero, List.getElem_cons_succ, List.setIfInBounds_toArray, List.set_cons_zero, List.set_cons_succ]
        refine wpAnyH_take (i := 14) (v := ?vta14) rfl (by kernel_rfl) (by kernel_rfl) (by kernel_rfl) (fun _ _ _ h => h) (Or.inl ⟨by rfl, ?hyta14⟩) (by assumption) ?restta14
        case hyta14 => (intro w hSw; (try dsimp only at hSw); go_simp; first | done | (with_reducible rfl))
        try simp only [Act.put, List.getElem_toArray, List.getElem_cons_zero, List.getElem_cons_succ, List.setIfInBounds_toArray, List.set_cons_zero, List.set_cons_succ]
        refine wpAnyH_take (i := 15) (v := ?vta15) rfl (by kernel_rfl) (by kernel_rfl) (by kernel_rfl) (fun _ _ _ h => h) (Or.inl ⟨by rfl, ?hyta15⟩) (by assumption) ?restta15
        case hyta15 => (intro w hSw; (try dsimp only at hSw); go_simp; first | done | (with_reducible rfl))
        try simp only [Act.put, List.getElem_toArray, List.getElem_cons_zero, List.getElem_cons_succ, List.setIfInBounds_toArray, List.set_cons_zero, List.set_cons_succ]
        refine wpAnyH_take (i := 16) (v := ?vta16) rfl (by kernel_rfl) (by kernel_rfl) (by kernel_rfl) (fun _ _ _ h => h) (Or.inl ⟨by rfl, ?hyta16⟩) (by assumption) ?restta16
        case hyta16 => (intro w hSw; (try dsimp only at hSw); go_simp; first | done | (with_reducible rfl))
        try simp only [Act.put, List.getElem_toArray, List.getElem_cons_zero, List.getElem_cons_succ, List.setIfInBounds_toArray, List.set_cons_zero, List.set_cons_succ]
        refine wpAnyH_take (i := 17) (v := ?vta17) rfl (by kernel_rfl) (by kernel_rfl) (by kernel_rfl) (fun _ _ _ h => h) (Or.inl ⟨by rfl, ?hyta17⟩) (by assumption) ?restta17
        case hyta17 => (intro w hSw; (try dsimp only at hSw); go_simp; first | done | (with_reducible rfl))
        try simp only [Act.put, List.getElem_toArray, List.getElem_cons_zero, List.getElem_cons_succ, List.setIfInBounds_toArray, List.set_cons_zero, List.set_cons_succ]
        refine wpAnyH_take (i := 18) (v := ?vta18) rfl (by kernel_rfl) (by kernel_rfl) (by kernel_rfl) (fun _ _ _ h => h) (Or.inl ⟨by rfl, ?hyta18⟩) (by assumption) ?restta18
        case hyta18 => (intro w hSw; (try dsimp only at hSw); go_simp; first | done | (with_reducible rfl))
        try simp only [Act.put, List.getElem_toArray, List.getElem_cons_zero, List.getElem_cons_succ, List.setIfInBounds_toArray, List.set_cons_zero, List.set_cons_succ]
        refine wpAnyH_take (i := 19) (v := undef) rfl (by kernel_rfl) (by kernel_rfl) (by kernel_rfl) (fun _ _ _ h => h) (Or.inr ⟨by rfl, rfl⟩) (by assumption) ?restta19
        try simp only [Act.put, List.getElem_toArray, List.getElem_cons_zero, List.getElem_cons_succ, List.setIfInBounds_toArray, List.set_cons_zero, List.set_cons_succ]
        refine wpAnyH_take (i := 20) (v := undef) rfl (by kernel_rfl) (by kernel_rfl) (by kernel_rfl) (fun _ _ _ h => h) (Or.inr ⟨by rfl, rfl⟩) (by assumption) ?restta20
        try simp only [Act.put, List.getElem_toArray, List.getElem_cons_zero, List.getElem_cons_succ, List.setIfInBounds_toArray, List.set_cons_zero, List.set_cons_succ]
        refine wpAnyH_take (i := 21) (v := undef) rfl (by kernel_rfl) (by kernel_rfl) (by kernel_rfl) (fun _ _ _ h => h) (Or.inr ⟨by rfl, rfl⟩) (by assumption) ?restta21
        try simp only [Act.put, List.getElem_toArray, List.getElem_cons_zero, List.getElem_cons_succ, List.setIfInBounds_toArray, List.set_cons_zero, List.set_cons_succ]
        refine wpAnyH_take (i := 22) (v := undef) rfl (by kernel_rfl) (by kernel_rfl) (by kernel_rfl) (fun _ _ _ h => h) (Or.inr ⟨by rfl, rfl⟩) (by assumption) ?restta22
        try simp only [Act.put, List.getElem_toArray, List.getElem_cons_zero, List.getElem_cons_succ, List.setIfInBounds_toArray, List.set_cons_zero, List.set_cons_succ]
        refine wpAnyH_take (i := 23) (v := undef) rfl (by kernel_rfl) (by kernel_rfl) (by kernel_rfl) (fun _ _ _ h => h) (Or.inr ⟨by rfl, rfl⟩) (by assumption) ?restta23
        try simp only [Act.put, List.getElem_toArray, List.getElem_cons_zero, List.getElem_cons_succ, List.setIfInBounds_toArray, List.set_cons_zero, List.set_cons_succ]
        refine wpAnyH_take (i := 24) (v := undef) rfl (by kernel_rfl) (by kernel_rfl) (by kernel_rfl) (fun _ _ _ h => h) (Or.inr ⟨by rfl, rfl⟩) (by assumption) ?restta24
        try simp only [Act.put, List.getElem_toArray, List.getElem_cons_zero, List.getElem_cons_succ, List.setIfInBounds_toArray, List.set_cons_zero, List.set_cons_succ]
        refine wpAnyH_take (i := 25) (v := undef) rfl (by kernel_rfl) (by kernel_rfl) (by kernel_rfl) (fun _ _ _ h => h) (Or.inr ⟨by rfl, rfl⟩) (by assumption) ?restta25
        try simp only [Act.put, List.getElem_toArray, List.getElem_cons_zero, List.getElem_cons_succ, List.setIfInBounds_toArray, List.set_cons_zero, List.set_cons_succ]
        refine wpAnyH_take (i := 26) (v := undef) rfl (by kernel_rfl) (by kernel_rfl) (by kernel_rfl) (fun _ _ _ h => h) (Or.inr ⟨by rfl, rfl⟩) (by assumption) ?restta26
        try simp only [Act.put, List.getElem_toArray, List.getElem_cons_zero, List.getElem_cons_succ, List.setIfInBounds_toArray, List.set_cons_zero, List.set_cons_succ]
        refine wpAnyH_take (i := 27) (v := undef) rfl (by kernel_rfl) (by kernel_rfl) (by kernel_rfl) (fun _ _ _ h => h) (Or.inr ⟨by rfl, rfl⟩) (by assumption) ?restta27
        try simp only [Act.put, List.getElem_toArray, List.getElem_cons_zero, List.getElem_cons_succ, List.setIfInBounds_toArray, List.set_cons_zero, List.set_cons_succ]
        refine wpAnyH_take (i := 28) (v := ?vta28) rfl (by kernel_rfl) (by kernel_rfl) (by kernel_rfl) (fun _ _ _ h => h) (Or.inl ⟨by rfl, ?hyta28⟩) (by assumption) ?restta28
        case hyta28 => (intro w hSw; (try dsimp only at hSw); go_simp; first | done | (with_reducible rfl))
        try simp only [Act.put, List.getElem_toArray, List.getElem_cons_zero, List.getElem_cons_succ, List.setIfInBounds_toArray, List.set_cons_zero, List.set_cons_succ]
        refine wpAnyH_take (i := 29) (v := ?vta29) rfl (by kernel_rfl) (by kernel_rfl) (by kernel_rfl) (fun _ _ _ h => h) (Or.inl ⟨by rfl, ?hyta29⟩) (by assumption) ?restta29
        case hyta29 => (intro w hSw; (try dsimp only at hSw); go_simp; first | done | (with_reducible rfl))
        try simp only [Act.put, List.getElem_toArray, List.getElem_cons_zero, List.getElem_cons_succ, List.setIfInBounds_toArray, List.set_cons_zero, List.set_cons_succ]
        refine wpAnyH_done (by kernel_rfl) ?_ _
        go_wp2_with fail
        go_roundw
        case rel => exact ⟨k + 1, by go_num, HLT.out, HBW.out.drew⟩
        case measure => have := HLT.out; simp [intOf]; omega
      · rw [if_neg hkn] at hat
        obtain rfl : ym = yo := by injection hat
        have hdec : decide ((k : Int) < nn) = false := by simpa using hkn
        have hge : nn ≤ (k : Int) := by omega
        have hdec2 : decide (nn ≤ (k : Int)) = true := by simpa using hge
        have hs1 : (Go.Proofs.Ytlpnichgfhgdmaa.u8 ym == Go.Proofs.Ytlpnichgfhgdmaa.u8 ym) = true := by simp
        have hs2 : (Go.Proofs.Ytlpnichgfhgdmaa.u8 ym != Go.Proofs.Ytlpnichgfhgdmaa.u8 ym) = false := by simp
        clear hat hkn
        go_wp2_with fail
        refine wp_region_held_drew (S := fun w' => w'.cell? ⟨bm, om + k, none⟩ = some (.int .u8 (Go.Proofs.Ytlpnichgfhgdmaa.u8 ym)) ∧ w'.cell? ⟨bo, oo + k, none⟩ = some (.int .u8 (Go.Proofs.Ytlpnichgfhgdmaa.u8 ym))) (by kernel_rfl) (⟨cm1, co1⟩) (fun hS0 => ?_)
        refine wpAnyH_take (i := 0) (v := ?vtb0) rfl (by kernel_rfl) (by kernel_rfl) (by kernel_rfl) (fun _ _ _ h => h) (Or.inl ⟨by rfl, ?hytb0⟩) (by assumption) ?resttb0
        case hytb0 => (intro w hSw; (try dsimp only at hSw); go_simp; first | done | (with_reducible rfl))
        try simp only [Act.put, List.getElem_toArray, List.getElem_cons_zero, List.getElem_cons_succ, List.setIfInBounds_toArray, List.set_cons_zero, List.set_cons_succ]
        refine wpAnyH_take (i := 1) (v := ?vtb1) rfl (by kernel_rfl) (by kernel_rfl) (by kernel_rfl) (fun _ _ _ h => h) (Or.inl ⟨by rfl, ?hytb1⟩) (by assumption) ?resttb1
        case hytb1 => (intro w hSw; (try dsimp only at hSw); go_simp; first | done | (with_reducible rfl))
        try simp only [Act.put, List.getElem_toArray, List.getElem_cons_zero, List.getElem_cons_succ, List.setIfInBounds_toArray, List.set_cons_zero, List.set_cons_succ]
        refine wpAnyH_take (i := 2) (v := ?vtb2) rfl (by kernel_rfl) (by kernel_rfl) (by kernel_rfl) (fun _ _ _ h => h) (Or.inl ⟨by rfl, ?hytb2⟩) (by assumption) ?resttb2
        case hytb2 => (intro w hSw; (try dsimp only at hSw); go_simp; first | done | (with_reducible rfl))
        try simp only [Act.put, List.getElem_toArray, List.getElem_cons_zero, List.getElem_cons_succ, List.setIfInBounds_toArray, List.set_cons_zero, List.set_cons_succ]
        refine wpAnyH_take (i := 3) (v := ?vtb3) rfl (by kernel_rfl) (by kernel_rfl) (by kernel_rfl) (fun _ _ _ h => h) (Or.inl ⟨by rfl, ?hytb3⟩) (by assumption) ?resttb3
        case hytb3 => (intro w hSw; (try dsimp only at hSw); go_simp; first | done | (with_reducible rfl))
        try simp only [Act.put, List.getElem_toArray, List.getElem_cons_zero, List.getElem_cons_succ, List.setIfInBounds_toArray, List.set_cons_zero, List.set_cons_succ]
        refine wpAnyH_take (i := 4) (v := undef) rfl (by kernel_rfl) (by kernel_rfl) (by kernel_rfl) (fun _ _ _ h => h) (Or.inr ⟨by rfl, rfl⟩) (by assumption) ?resttb4
        try simp only [Act.put, List.getElem_toArray, List.getElem_cons_zero, List.getElem_cons_succ, List.setIfInBounds_toArray, List.set_cons_zero, List.set_cons_succ]
        refine wpAnyH_take (i := 5) (v := undef) rfl (by kernel_rfl) (by kernel_rfl) (by kernel_rfl) (fun _ _ _ h => h) (Or.inr ⟨by rfl, rfl⟩) (by assumption) ?resttb5
        try simp only [Act.put, List.getElem_toArray, List.getElem_cons_zero, List.getElem_cons_succ, List.setIfInBounds_toArray, List.set_cons_zero, List.set_cons_succ]
        refine wpAnyH_take (i := 6) (v := undef) rfl (by kernel_rfl) (by kernel_rfl) (by kernel_rfl) (fun _ _ _ h => h) (Or.inr ⟨by rfl, rfl⟩) (by assumption) ?resttb6
        try simp only [Act.put, List.getElem_toArray, List.getElem_cons_zero, List.getElem_cons_succ, List.setIfInBounds_toArray, List.set_cons_zero, List.set_cons_succ]
        refine wpAnyH_take (i := 7) (v := undef) rfl (by kernel_rfl) (by kernel_rfl) (by kernel_rfl) (fun _ _ _ h => h) (Or.inr ⟨by rfl, rfl⟩) (by assumption) ?resttb7
        try simp only [Act.put, List.getElem_toArray, List.getElem_cons_zero, List.getElem_cons_succ, List.setIfInBounds_toArray, List.set_cons_zero, List.set_cons_succ]
        refine wpAnyH_take (i := 8) (v := undef) rfl (by kernel_rfl) (by kernel_rfl) (by kernel_rfl) (fun _ _ _ h => h) (Or.inr ⟨by rfl, rfl⟩) (by assumption) ?resttb8
        try simp only [Act.put, List.getElem_toArray, List.getElem_cons_zero, List.getElem_cons_succ, List.setIfInBounds_toArray, List.set_cons_zero, List.set_cons_succ]
        refine wpAnyH_take (i := 9) (v := undef) rfl (by kernel_rfl) (by kernel_rfl) (by kernel_rfl) (fun _ _ _ h => h) (Or.inr ⟨by rfl, rfl⟩) (by assumption) ?resttb9
        try simp only [Act.put, List.getElem_toArray, List.getElem_cons_zero, List.getElem_cons_succ, List.setIfInBounds_toArray, List.set_cons_zero, List.set_cons_succ]
        refine wpAnyH_take (i := 10) (v := undef) rfl (by kernel_rfl) (by kernel_rfl) (by kernel_rfl) (fun _ _ _ h => h) (Or.inr ⟨by rfl, rfl⟩) (by assumption) ?resttb10
        try simp only [Act.put, List.getElem_toArray, List.getElem_cons_zero, List.getElem_cons_succ, List.setIfInBounds_toArray, List.set_cons_zero, List.set_cons_succ]
        refine wpAnyH_take (i := 11) (v := undef) rfl (by kernel_rfl) (by kernel_rfl) (by kernel_rfl) (fun _ _ _ h => h) (Or.inr ⟨by rfl, rfl⟩) (by assumption) ?resttb11
        try simp only [Act.put, List.getElem_toArray, List.getElem_cons_zero, List.getElem_cons_succ, List.setIfInBounds_toArray, List.set_cons_zero, List.set_cons_succ]
        refine wpAnyH_take (i := 12) (v := undef) rfl (by kernel_rfl) (by kernel_rfl) (by kernel_rfl) (fun _ _ _ h => h) (Or.inr ⟨by rfl, rfl⟩) (by assumption) ?resttb12
        try simp only [Act.put, List.getElem_toArray, List.getElem_cons_zero, List.getElem_cons_succ, List.setIfInBounds_toArray, List.set_cons_zero, List.set_cons_succ]
        refine wpAnyH_take (i := 13) (v := ?vtb13) rfl (by kernel_rfl) (by kernel_rfl) (by kernel_rfl) (fun _ _ _ h => h) (Or.inl ⟨by rfl, ?hytb13⟩) (by assumption) ?resttb13
        case hytb13 => (intro w hSw; (try dsimp only at hSw); go_simp; first | done | (with_reducible rfl))
        try simp only [Act.put, List.getElem_toArray, List.getElem_cons_zero, List.getElem_cons_succ, List.setIfInBounds_toArray, List.set_cons_zero, List.set_cons_succ]
        refine wpAnyH_take (i := 14) (v := ?vtb14) rfl (by kernel_rfl) (by kernel_rfl) (by kernel_rfl) (fun _ _ _ h => h) (Or.inl ⟨by rfl, ?hytb14⟩) (by assumption) ?resttb14
        case hytb14 => (intro w hSw; (try dsimp only at hSw); go_simp; first | done | (with_reducible rfl))
        try simp only [Act.put, List.getElem_toArray, List.getElem_cons_zero, List.getElem_cons_succ, List.setIfInBounds_toArray, List.set_cons_zero, List.set_cons_succ]
        refine wpAnyH_take (i := 15) (v := ?vtb15) rfl (by kernel_rfl) (by kernel_rfl) (by kernel_rfl) (fun _ _ _ h => h) (Or.inl ⟨by rfl, ?hytb15⟩) (by assumption) ?resttb15
        case hytb15 => (intro w hSw; (try dsimp only at hSw); go_simp; first | done | (with_reducible rfl))
        try simp only [Act.put, List.getElem_toArray, List.getElem_cons_zero, List.getElem_cons_succ, List.setIfInBounds_toArray, List.set_cons_zero, List.set_cons_succ]
        refine wpAnyH_take (i := 16) (v := ?vtb16) rfl (by kernel_rfl) (by kernel_rfl) (by kernel_rfl) (fun _ _ _ h => h) (Or.inl ⟨by rfl, ?hytb16⟩) (by assumption) ?resttb16
        case hytb16 => (intro w hSw; (try dsimp only at hSw); go_simp; first | done | (with_reducible rfl))
        try simp only [Act.put, List.getElem_toArray, List.getElem_cons_zero, List.getElem_cons_succ, List.setIfInBounds_toArray, List.set_cons_zero, List.set_cons_succ]
        refine wpAnyH_take (i := 17) (v := ?vtb17) rfl (by kernel_rfl) (by kernel_rfl) (by kernel_rfl) (fun _ _ _ h => h) (Or.inl ⟨by rfl, ?hytb17⟩) (by assumption) ?resttb17
        case hytb17 => (intro w hSw; (try dsimp only at hSw); go_simp; first | done | (with_reducible rfl))
        try simp only [Act.put, List.getElem_toArray, List.getElem_cons_zero, List.getElem_cons_succ, List.setIfInBounds_toArray, List.set_cons_zero, List.set_cons_succ]
        refine wpAnyH_take (i := 18) (v := ?vtb18) rfl (by kernel_rfl) (by kernel_rfl) (by kernel_rfl) (fun _ _ _ h => h) (Or.inl ⟨by rfl, ?hytb18⟩) (by assumption) ?resttb18
        case hytb18 => (intro w hSw; (try dsimp only at hSw); go_simp; first | done | (with_reducible rfl))
        try simp only [Act.put, List.getElem_toArray, List.getElem_cons_zero, List.getElem_cons_succ, List.setIfInBounds_toArray, List.set_cons_zero, List.set_cons_succ]
        refine wpAnyH_take (i := 19) (v := ?vtb19) rfl (by kernel_rfl) (by kernel_rfl) (by kernel_rfl) (fun _ _ _ h => h) (Or.inl ⟨by rfl, ?hytb19⟩) (by assumption) ?resttb19
        case hytb19 => (intro w hSw; (try dsimp only at hSw); go_simp; first | done | (with_reducible rfl))
        try simp only [Act.put, List.getElem_toArray, List.getElem_cons_zero, List.getElem_cons_succ, List.setIfInBounds_toArray, List.set_cons_zero, List.set_cons_succ]
        refine wpAnyH_take (i := 20) (v := ?vtb20) rfl (by kernel_rfl) (by kernel_rfl) (by kernel_rfl) (fun _ _ _ h => h) (Or.inl ⟨by rfl, ?hytb20⟩) (by assumption) ?resttb20
        case hytb20 => (intro w hSw; (try dsimp only at hSw); go_simp; first | done | (with_reducible rfl))
        try simp only [Act.put, List.getElem_toArray, List.getElem_cons_zero, List.getElem_cons_succ, List.setIfInBounds_toArray, List.set_cons_zero, List.set_cons_succ]
        refine wpAnyH_take (i := 21) (v := ?vtb21) rfl (by kernel_rfl) (by kernel_rfl) (by kernel_rfl) (fun _ _ _ h => h) (Or.inl ⟨by rfl, ?hytb21⟩) (by assumption) ?resttb21
        case hytb21 => (intro w hSw; (try dsimp only at hSw); go_simp; first | done | (with_reducible rfl))
        try simp only [Act.put, List.getElem_toArray, List.getElem_cons_zero, List.getElem_cons_succ, List.setIfInBounds_toArray, List.set_cons_zero, List.set_cons_succ]
        refine wpAnyH_take (i := 22) (v := ?vtb22) rfl (by kernel_rfl) (by kernel_rfl) (by kernel_rfl) (fun _ _ _ h => h) (Or.inl ⟨by rfl, ?hytb22⟩) (by assumption) ?resttb22
        case hytb22 => (intro w hSw; (try dsimp only at hSw); go_simp; first | done | (with_reducible rfl))
        try simp only [Act.put, List.getElem_toArray, List.getElem_cons_zero, List.getElem_cons_succ, List.setIfInBounds_toArray, List.set_cons_zero, List.set_cons_succ]
        refine wpAnyH_take (i := 23) (v := ?vtb23) rfl (by kernel_rfl) (by kernel_rfl) (by kernel_rfl) (fun _ _ _ h => h) (Or.inl ⟨by rfl, ?hytb23⟩) (by assumption) ?resttb23
        case hytb23 => (intro w hSw; (try dsimp only at hSw); go_simp; first | done | (with_reducible rfl))
        try simp only [Act.put, List.getElem_toArray, List.getElem_cons_zero, List.getElem_cons_succ, List.setIfInBounds_toArray, List.set_cons_zero, List.set_cons_succ]
        refine wpAnyH_take (i := 24) (v := ?vtb24) rfl (by kernel_rfl) (by kernel_rfl) (by kernel_rfl) (fun _ _ _ h => h) (Or.inl ⟨by rfl, ?hytb24⟩) (by assumption) ?resttb24
        case hytb24 => (intro w hSw; (try dsimp only at hSw); go_simp; first | done | (with_reducible rfl))
        try simp only [Act.put, List.getElem_toArray, List.getElem_cons_zero, List.getElem_cons_succ, List.setIfInBounds_toArray, List.set_cons_zero, List.set_cons_succ]
        refine wpAnyH_take (i := 25) (v := ?vtb25) rfl (by kernel_rfl) (by kernel_rfl) (by kernel_rfl) (fun _ _ _ h => h) (Or.inl ⟨by rfl, ?hytb25⟩) (by assumption) ?resttb25
        case hytb25 => (intro w hSw; (try dsimp only at hSw); go_simp; first | done | (with_reducible rfl))
        try simp only [Act.put, List.getElem_toArray, List.getElem_cons_zero, List.getElem_cons_succ, List.setIfInBounds_toArray, List.set_cons_zero, List.set_cons_succ]
        refine wpAnyH_take (i := 26) (v := ?vtb26) rfl (by kernel_rfl) (by kernel_rfl) (by kernel_rfl) (fun _ _ _ h => h) (Or.inl ⟨by rfl, ?hytb26⟩) (by assumption) ?resttb26
        case hytb26 => (intro w hSw; (try dsimp only at hSw); go_simp; first | done | (with_reducible rfl))
        try simp only [Act.put, List.getElem_toArray, List.getElem_cons_zero, List.getElem_cons_succ, List.setIfInBounds_toArray, List.set_cons_zero, List.set_cons_succ]
        refine wpAnyH_take (i := 27) (v := ?vtb27) rfl (by kernel_rfl) (by kernel_rfl) (by kernel_rfl) (fun _ _ _ h => h) (Or.inl ⟨by rfl, ?hytb27⟩) (by assumption) ?resttb27
        case hytb27 => (intro w hSw; (try dsimp only at hSw); go_simp; first | done | (with_reducible rfl))
        try simp only [Act.put, List.getElem_toArray, List.getElem_cons_zero, List.getElem_cons_succ, List.setIfInBounds_toArray, List.set_cons_zero, List.set_cons_succ]
        refine wpAnyH_take (i := 28) (v := ?vtb28) rfl (by kernel_rfl) (by kernel_rfl) (by kernel_rfl) (fun _ _ _ h => h) (Or.inl ⟨by rfl, ?hytb28⟩) (by assumption) ?resttb28
        case hytb28 => (intro w hSw; (try dsimp only at hSw); go_simp; first | done | (with_reducible rfl))
        try simp only [Act.put, List.getElem_toArray, List.getElem_cons_zero, List.getElem_cons_succ, List.setIfInBounds_toArray, List.set_cons_zero, List.set_cons_succ]
        refine wpAnyH_take (i := 29) (v := ?vtb29) rfl (by kernel_rfl) (by kernel_rfl) (by kernel_rfl) (fun _ _ _ h => h) (Or.inl ⟨by rfl, ?hytb29⟩) (by assumption) ?resttb29
        case hytb29 => (intro w hSw; (try dsimp only at hSw); go_simp; first | done | (with_reducible rfl))
        try simp only [Act.put, List.getElem_toArray, List.getElem_cons_zero, List.getElem_cons_succ, List.setIfInBounds_toArray, List.set_cons_zero, List.set_cons_succ]
        refine wpAnyH_done (by kernel_rfl) ?_ _
        go_wp2_with fail
        go_roundw
        case rel => exact ⟨k + 1, by go_num, HLT.out, HBW.out.drew⟩
        case measure => have := HLT.out; simp [intOf]; omega
    · obtain rfl : k = 128 := by omega
      clear hlt hbw
      go_wp2_with fail
      go_ret
      exact ⟨rfl, HB9.out.trans (HBW.out.mono HB9.out.size)⟩
end Go.Proofs.Ytlpnichgfhgdmaa
