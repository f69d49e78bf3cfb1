/- JournalAgain: another Open of a journal changes nothing on the disk and finds the same. -/
import Derived.Test.YtpadgkkeihhneaaGreatA47
import Derived.Test.YtpadgkkeihhneaaGreatA43
namespace Go.Proofs.YtpadgkkeihhneaaGreat
open List renaming getElem_toArray → qa, getElem_cons_zero → qb, getElem_cons_succ → qc, setIfInBounds_toArray → qd, set_cons_zero → qe, set_cons_succ → qf
set_option maxRecDepth 100000
set_option linter.unusedSimpArgs false
set_option linter.unusedVariables false
open Go.ChangeShapes Go.WideShapes Go.ChangeAt Go.RowKit
set_option linter.unusedVariables false
set_option linter.unusedSimpArgs false

/-- As turnE; what the law has laid is left alone. -/
theorem Zs.turnA {P : World → List Nat → Prop} {w0 W0 W : World} {X M : List Nat} {v : Value} {D : DS} {J : JS} {ι : Type} {P' : ι → World → List Nat → Prop} (h : Zs P w0 W0 X M W v D J) {R : ι → Ending → Prop} {f : FuncId} {args : Array Value} (hc : ∀ G, P W G → Calls Tryz.prog f args W fun e W' => ∃ i, R i e ∧ Turns (P' i) W G W') :
    Calls Tryz.prog f args W fun e W' => ∃ i, R i e ∧ Zs (P' i) w0 W0 X M W' v D J ∧ Stays w0 M W W' ∧ Away M W W' := by
  have h' := h
  obtain ⟨G, h1, h2, h3, h4, h5, h6, h7⟩ := h
  have hz : Zs (fun W' G' => W' = W ∧ G' = G ∧ P W G) w0 W0 X M W v D J := ⟨G, ⟨rfl, rfl, h1⟩, h2, h3, h4, h5, h6, h7⟩
  refine (Zs.turnE (P' := fun i W' G' => P' i W' G' ∧ Away M W W') (R := R) hz (fun G' hG' => ?_)).mono fun e W' hr => ?_
  · obtain ⟨_, rfl, h1'⟩ := hG'
    refine (hc _ h1').mono fun e W' hr => ?_
    obtain ⟨i, hR, G2, k1, k2, k3⟩ := hr
    exact ⟨i, hR, G2, ⟨k1, _, k2, fun j hj hm => (h2 j hm).2.2 hj⟩, k2, k3⟩
  · obtain ⟨i, hR, ⟨G2, ⟨k1, k1'⟩, k2⟩, k3⟩ := hr
    exact ⟨i, hR, ⟨G2, k1, k2⟩, k3, k1'⟩
theorem Away.ow {X : List Nat} {w w' : World} {base : Nat} {v : Value} {l : List UInt8} (h : Away X w w') (ho : Ow w base v l) (hv : ∀ j, v.ownBlock = some j → j ∈ X) : Ow w' base v l := by
  obtain ⟨S, hS, hx⟩ := h
  exact ho.touch hS fun j hj => hx j (hv j hj)
theorem Zs.twin {w0 W0 W : World} {X M : List Nat} {v : Value} {D : DS} {J : JS} {g g2 d : Nat} {E : DS} {K : JS} (h : Zs (Twin g g2 d E K) w0 W0 X M W v D J) : ∃ F q q2, Jr W g d F E K q ∧ Jr W g2 d F E K q2 := by
  obtain ⟨G, ⟨F, q, q2, h1, h2, _⟩, _⟩ := h
  exact ⟨F, q, q2, h1, h2⟩
/-- Between two rounds of the first reading. -/
def AgR (W : World) (x d g : Nat) (vc : List Value) (D : DS) (J : JS) (base : Nat) (v8 v9 : Value) (w : World) : Prop := ∃ (k : Nat) (M : List Nat), v9 = .int .i64 k ∧ k ≤ D.pages.length ∧ Ow w base v8 (allc D k) ∧ (∀ j, v8.ownBlock = some j → j ∈ M) ∧ x ∈ M ∧ Own W [] [(x, 55, wcs d g vc)] w ∧ Zs (fun W G => Jn W g d G D J) W W [] M w (.agg vc.toArray) D J ∧ base ≤ w.heap.size
/-- Between two rounds of the second reading. -/
def AgS (W : World) (x d g g2 : Nat) (vc : List Value) (D : DS) (J : JS) (base base2 : Nat) (v8 v14 v15 : Value) (w : World) : Prop := ∃ (k : Nat) (M : List Nat), v15 = .int .i64 k ∧ k ≤ D.pages.length ∧ Ow w base v8 (allc D D.pages.length) ∧ (∀ j, v8.ownBlock = some j → j ∈ M) ∧ Ow w base2 v14 (allc D k) ∧ (∀ j, v14.ownBlock = some j → j ∈ M) ∧ x ∈ M ∧ Own W [] [(x, 55, wcs d g vc)] w ∧ Zs (Twin g g2 d D J) W W [] M w (.agg vc.toArray) D J ∧ base2 ≤ w.heap.size
set_option maxHeartbeats 16000000 in
theorem walkJournalAgain (W : World) (a0 : Int) (ws0 : (Lit.int .u8 a0).wf = true) (v1 : Value) (l : List POp) (h1 : PopsIn W v1 l) :
    Calls Tryz.prog 6 #[.int .u8 a0, v1] W fun e w' => e = .returned (.bool true) ∧ Below W.heap.size W w' := by
  have ⟨q0, q1⟩ : 0 ≤ a0 ∧ a0 ≤ 255 := by simpa [Lit.wf, IntKind.min, IntKind.max, IntKind.signed, IntKind.bits] using ws0
  have e20 : a0.tmod 20 = a0 % 20 := Int.tmod_eq_emod_of_nonneg q0
  obtain ⟨n, hn⟩ : ∃ n : Nat, 8 + a0 % 20 = n := ⟨(8 + a0 % 20).toNat, by omega⟩
  have hn8 : 8 ≤ n := by omega
  have hn28 : n ≤ 28 := by omega
  have hm : a0 % 20 = (n : Int) - 8 := by omega
  rw [hm] at e20
  have hnz : (8 : Int) ≤ (n : Int) := by omega
  have hnz2 : (n : Int) ≤ 28 := by omega
  obtain ⟨Al, nl, cl, rfl, hnl, hnc, hcm⟩ := h1.form
  have H := hide h1
  have HFW := hide (fun (X : World) (k : Below W.heap.size W X) => fewP_c _ l 16 X (h1.step k))
  have HN8 := hide hn8
  have HN28 := hide hn28
  clear ws0 q0 q1 hn hn8 hn28 hm h1
  by_cases hf : fewP l 16 = true
  case neg =>
    have hf' : fewP l 16 = false := by simpa using hf
    rw [hf'] at HFW
    clear hf hf'
    go_enter Tryz.func6, Tryz.ntmps6
    go_wp2_with fail
    refine (awake_c _).mono ?_
    rintro e w1 ⟨rfl, hb1⟩
    go_wp2_with fail
    refine (HFW.out w1 hb1).mono ?_
    rintro e w2 ⟨rfl, rfl⟩
    go_wp2_with fail
    go_ret
    exact ⟨rfl, hb1⟩
  have HL := hide (fewP_len (k := 16) hf)
  rw [hf] at HFW
  clear hf
  go_enter Tryz.func6, Tryz.ntmps6
  go_wp2_with fail
  refine (awake_c _).mono ?_
  rintro e w1 ⟨rfl, hb1⟩
  have HB1 := hide hb1
  clear hb1
  go_wp2_with fail
  refine (HFW.out w1 HB1.out).mono ?_
  rintro e w2 ⟨rfl, rfl⟩
  clear HFW
  go_wp2_with fail
  rw [show (8 + ((n : Int) - 8)) = (n : Int) by omega]
  refine (start_c W W [] [] [] n HN8.out (by have := HN28.out; omega) w1 ((Own.nil W [] (by simp)).step HB1.out) (by simp) (by simp) (by simp) ((Away.refl [] W).next (Touch.below HB1.out []) (by simp) (by simp))).mono ?_
  rintro e w2 ⟨d, g, vc, rfl, hO, hZ⟩
  obtain ⟨A, m, c, B, mb, bb, Ar, nr, cr, rfl⟩ := hZ.cells9
  have HO := hide hO
  have HZ := hide hZ
  clear hO hZ
  unfold wcs rjc
  unfold rjc at HZ
  generalize (dNew n).fuse = fz at HZ ⊢
  generalize (dNew n).failed = fl at HZ ⊢
  generalize (js0.turn : Int) = zt at HZ ⊢
  generalize js0.state = st at HZ ⊢
  generalize (js0.used : Int) = zu at HZ ⊢
  generalize js0.broken = br at HZ ⊢
  go_wp2_with (first
    | ((with_reducible refine at_alloc 55 ?_); refine wpList_alloc_own_n HO.out rfl 55 rfl zlw world_info ?_; intro WA x hb hO hbel; replace HZ := hide (HZ.out.push (keeps_jn g d (dNew n) js0) hb hbel (hO.blk 0 rfl).lt); replace HO := hide hO; clear hO hbel hb)
    | ((with_reducible refine at_store 55 (.tmp 5) ?_); refine wpList_store_own_t HO.out rfl 55 (.tmp 5) (.tmp 29) rfl 0 _ 0 _ _ ([.pointer (some ⟨d, 0, none⟩), .pointer (some ⟨g, 0, none⟩), .slice A m c, .slice B mb bb, .int .i64 fz, .bool fl, .int .i64 zt, sv st, .slice Ar nr cr, .int .i64 zu, .bool br]) ([.pointer (some ⟨d, 0, none⟩), .pointer (some ⟨g, 0, none⟩), .slice A m c, .slice B mb bb, .int .i64 fz, .bool fl, .int .i64 zt, sv st, .slice Ar nr cr, .int .i64 zu, .bool br]) rfl (.agg ([.pointer (some ⟨d, 0, none⟩), .pointer (some ⟨g, 0, none⟩), .slice A m c, .slice B mb bb, .int .i64 fz, .bool fl, .int .i64 zt, sv st, .slice Ar nr cr, .int .i64 zu, .bool br] : List Value).toArray) rfl rfl (fits_agg _) (by simp [zlw]) (splice_all rfl) (by kernel_rfl) rfl ?_; intro WA hO _ ht; replace HZ := hide (HZ.out.put (keeps_jn g d (dNew n) js0) (by simp) ht); replace HO := hide hO; clear hO ht))
  have HW : Hid (Ww W W [] x d g WA (dNew n) js0) := hide (Ww.of (vc := [.slice A m c, .slice B mb bb, .int .i64 fz, .bool fl, .int .i64 zt, sv st, .slice Ar nr cr, .int .i64 zu, .bool br]) HO.out HZ.out)
  have HK : Hid (Kept 0 (dNew n) js0) := hide (Kept.opened (live_new n HN8.out (by have := HN28.out; omega)) rfl (jOpen_good (dNew_good n HN8.out (by have := HN28.out; omega))) 0)
  clear HO HZ
  go_wp2_with fail
  go_loopw [6, 7] (fun v6 v7 wr => v6 = .bool true ∧ CallsR W x l v7 wr) (fun _ v7 _ => nl - (intOf v7).toNat)
  case atStart => exact ⟨rfl, 0, d, g, _, _, rfl, Nat.zero_le _, HW.out, HK.out⟩
  case round =>
    obtain ⟨rfl, i, d1, g1, D, J, rfl, hi, hw, hk⟩ := hrel
    clear HW HK
    have HW := hide hw
    have HK := hide hk
    clear hw hk
    by_cases hlt : i < nl
    · have hil : i < l.length := by rw [← hnl.out]; exact hlt
      obtain ⟨gl, ol, rfl, hgl, hok, hcx⟩ := H.out.at_ i hil
      obtain ⟨o, hxs⟩ : ∃ o, l[i]? = some o := ⟨_, List.getElem?_eq_getElem hil⟩
      have hox : l[i] = o := by rw [List.getElem?_eq_getElem hil] at hxs; injection hxs
      clear hcx
      rw [hox] at hok
      have HOK := hide hok
      obtain ⟨As, ms, cs, hsv, hx1, hx2, hx3⟩ := hok.surv.formN
      obtain ⟨c0, c1, c2, c3, c4⟩ := pop_cells (w' := wr) H.out hil o hxs hsv (fun a ha => HW.out.below.cell (p := a) (by rw [ha]; exact hgl))
      have HI20 : Hid (i ≤ 200) := hide (by have := HL.out; omega)
      have HKN := hide (HK.out.wstep HI20.out o HOK.out).1
      have HST := hide (wstep_c W W [] x d1 g1 D J o wr HW.out HK.out.sound (HK.out.jok HI20.out) HOK.out)
      have HLT := hide hlt
      have hki : (i : Int) < (nl : Int) := by omega
      unfold POp.cells at HST
      rw [hsv] at HST
      clear hok hxs hox hsv hgl hlt hil hx1 hx2 hx3
      go_wp2_with fail
      refine HST.out.mono ?_
      rintro e w4 ⟨rfl, g2, hw⟩
      replace HW := hide hw
      clear hw HST c0 c1 c2 c3 c4
      go_wp2_with fail
      go_roundw
      case rel => exact ⟨rfl, i + 1, d1, g2, _, _, by go_num, by have := HLT.out; have := hnl.out; omega, HW.out, HKN.out⟩
      case measure => have := HLT.out; simp [intOf]; omega
    · obtain rfl : i = nl := by have := hnl.out; omega
      clear hlt
      go_wp2_with fail
      obtain ⟨J2, D2, hre, hs2, hf2, hln, hjo⟩ := reopen_any HK.out.sound
      refine (wopen_c W W [] x d1 g1 D J _ HW.out HK.out.sound).mono ?_
      rintro e w4 ⟨rfl, g3, hw⟩
      rw [hre] at hw
      dsimp only at hw
      have HK2 := hide (Kept.opened hs2 hf2 hjo 0)
      have HS := hide hs2
      have HFD := hide hf2
      have HJO := hide hjo
      clear HW HK hre hs2 hf2 hln hjo hi
      clear D J
      obtain ⟨A, n, c, B, m, bb, Ar, nr, cr, hO, hZ⟩ := hw
      have hxlt := (hO.blk 0 rfl).lt
      have HXLT := hide hxlt
      have HSZ := hide hO.size
      obtain ⟨vc, hvc⟩ : ∃ vc, vc = rjc A n c B m bb D2.fuse D2.failed J2.turn (sv J2.state) (.slice Ar nr cr) J2.used J2.broken := ⟨_, rfl⟩
      rw [← hvc] at hO hZ
      have HVC := hide hvc
      have HO := hide hO
      have HZ := hide hZ
      clear hO hZ hvc hxlt
      obtain ⟨pl, hpl⟩ : ∃ z, D2.pages.length = z := ⟨_, rfl⟩
      have HPL := hide hpl
      have hp9 : pl ≤ 4096 := by rw [← hpl]; exact HS.out.top
      clear hpl
      go_wp2_with fail
      obtain ⟨wz, hwz⟩ : ∃ wz, wz = w4.alloc (.cells #[] 5) := ⟨_, rfl⟩
      have hbz : Below w4.heap.size w4 wz := by rw [hwz]; exact below_first _ _
      have H8 : Hid (Ow wz w4.heap.size (.slice (some ⟨w4.heap.size, 0, none⟩) 0 0) (allc D2 0)) := hide (by rw [hwz]; exact Ow.empty w4)
      rw [← hwz]
      have hzs : w4.heap.size < wz.heap.size := by rw [hwz, World.size_alloc]; omega
      have HZS := hide hzs
      have HZ2 := hide (HZ.out.push (keeps_jn g3 d1 D2 J2) rfl hbz hzs)
      have HO2 := hide (HO.out.step hbz)
      clear HO HZ hbz hzs hwz
      go_loopw [8, 9, 10, 11] (fun v8 v9 v10 v11 wr => AgR W x d1 g3 vc D2 J2 w4.heap.size v8 v9 wr) (fun _ v9 _ _ _ => pl - (intOf v9).toNat)
      case atStart => exact ⟨0, _, rfl, Nat.zero_le _, H8.out, by intro j hj; injection hj with hj; have hj : w4.heap.size = j := hj; simp [hj], by simp, HO2.out, HZ2.out, Nat.le_of_lt HZS.out⟩
      case round =>
      obtain ⟨k, M, rfl, hk, how, hM, hxM, hO, hZ, hbs⟩ := hrel
      have HO := hide hO
      have HZ := hide hZ
      have HW8 := hide how
      have HM8 := hide hM
      have HXM := hide hxM
      have HBS := hide hbs
      clear hO hZ how hM hxM HO2 HZ2 H8 HZS hbs
      have HAL := hide (allc_len HS.out HFD.out k hk)
      obtain ⟨A8, m8, c8, rfl, hm8, hx2, hx3⟩ := HW8.out.formN
      clear hm8 hx2 hx3
      have HO3 := HO
      rw [HVC.out] at HO3
      unfold wcs rjc at HO3
      have kx := HO3.out.cells 0 rfl
      clear HO3
      rw [HPL.out] at hk
      go_wp2_with fail
      refine (Zs.pages keeps_disk HZ.out).mono ?_
      rintro e wq ⟨rfl, rfl⟩
      rw [HPL.out]
      by_cases hlt : k < pl
      · go_wp2_with fail
        refine (Zs.read keeps_disk HZ.out (k : Int)).mono ?_
        rintro e w6 ⟨v6, rfl, hbs6, hown6, hb6⟩
        rw [dRead_ok HFD.out k (by rw [HPL.out]; exact hlt)] at hbs6 ⊢
        dsimp only at hbs6 ⊢
        have HCL : Hid ((allc D2 k).length + (content D2 k).length ≤ 140737488355328) := hide (by rw [HAL.out, content_128 HS.out HFD.out k (by rw [HPL.out]; exact hlt)]; omega)
        obtain ⟨A6, m6, c6, rfl, hm6, hx2, hx3⟩ := hbs6.formN
        have H6 := hide hbs6
        replace HO := hide (HO.out.step hb6)
        replace HZ := hide (HZ.out.step (keeps_jn g3 d1 D2 J2) hb6)
        replace HW8 := hide (HW8.out.step hb6)
        replace HBS := hide (Nat.le_trans HBS.out hb6.size)
        clear hbs6 hb6 kx hown6 hm6 hx2 hx3
        go_wp2_with (first
          | (refine wpList_append_bs rfl (.tmp 66) (.tmp 67) rfl _ (v := .slice A8 m8 c8) rfl HW8.out rfl H6.out HCL.out HBS.out ?_; intro v2 w2 how hg hat; obtain ⟨M2, hz, hMM, hv2⟩ := HZ.out.grown (keeps_jn g3 d1 D2 J2) hg HM8.out hat (fun j hj => (how.new j hj).2); have HO2 : Hid (Own W [] [(x, 55, wcs d1 g3 vc)] w2) := hide (HO.out.grown hg (fun j hj => ⟨by have := (HW8.out.new j hj).1; skip; have := HSZ.out; omega, by simp; have := (HW8.out.new j hj).1; have := HXLT.out; skip; omega⟩)); have HB2 := hide (Nat.le_trans HBS.out hg.size); have HM2 := hide hMM; have HV2 := hide hv2; have HW2 := hide how; have HZ2 := hide hz; skip; clear how hg hat hz hMM hv2))
        go_roundw
        case rel => exact ⟨k + 1, M2, by go_num, by rw [HPL.out]; exact hlt, by rw [allc_succ]; exact HW2.out, HV2.out, HM2.out _ HXM.out, HO2.out, HZ2.out, HB2.out⟩
        case measure => (simp [intOf]; omega)
      · obtain rfl : pl = k := by omega
        go_wp2_with fail
        refine (Zs.turnA (ι := Nat) (P' := fun g2 => Twin g3 g2 d1 D2 J2) (R := fun g2 e => e = .returned (.tuple #[.pointer (some ⟨g2, 0, none⟩), .int .i64 0])) HZ.out (fun G hG => twin_open hG HJO.out (by rw [HS.out.pend HFD.out]; simp) (by have := HS.out.top; omega))).mono ?_
        rintro e w7 ⟨g2, rfl, hz, hst, haw⟩
        replace HO := hide (hst _ (by intro e he; simp only [List.mem_singleton] at he; subst he; exact HXM.out) HO.out)
        replace HW8 := hide (haw.ow HW8.out HM8.out)
        have HB87 : Hid (w4.heap.size ≤ w7.heap.size) := hide (Nat.le_trans HBS.out haw.size)
        replace HZ : Hid (Zs (Twin g3 g2 d1 D2 J2) _ _ _ _ _ _ _ _) := hide hz
        clear hz hst haw kx HBS HAL
        go_wp2_with fail
        obtain ⟨wz2, hwz⟩ : ∃ wz, wz = w7.alloc (.cells #[] 5) := ⟨_, rfl⟩
        have hbz : Below w7.heap.size w7 wz2 := by rw [hwz]; exact below_first _ _
        have H14 : Hid (Ow wz2 w7.heap.size (.slice (some ⟨w7.heap.size, 0, none⟩) 0 0) (allc D2 0)) := hide (by rw [hwz]; exact Ow.empty w7)
        rw [← hwz]
        have hzs : w7.heap.size < wz2.heap.size := by rw [hwz, World.size_alloc]; omega
        have HZS := hide hzs
        have H8L : Hid (∀ j, (Value.slice A8 m8 c8).ownBlock = some j → w4.heap.size ≤ j ∧ j < w7.heap.size) := hide HW8.out.new
        replace HW8 := hide (HW8.out.step hbz)
        have HZ2 := hide (HZ.out.push (keeps_twin g3 g2 d1 D2 J2) rfl hbz hzs)
        have HO2 := hide (HO.out.step hbz)
        clear HO HZ hbz hzs hwz hk hlt
        go_loopw [14, 15, 16, 17] (fun v14 v15 v16 v17 wr => AgS W x d1 g3 g2 vc D2 J2 w4.heap.size w7.heap.size (.slice A8 m8 c8) v14 v15 wr) (fun _ v15 _ _ _ => pl - (intOf v15).toNat)
        case atStart => exact ⟨0, _, rfl, Nat.zero_le _, by rw [HPL.out]; exact HW8.out, fun j hj => by simp [HM8.out j hj], H14.out, by intro j hj; injection hj with hj; have hj : w7.heap.size = j := hj; simp [hj], by simp [HXM.out], HO2.out, HZ2.out, Nat.le_of_lt HZS.out⟩
        case round =>
        obtain ⟨k, M3, rfl, hk, how8, hM8, how, hM, hxM, hO, hZ, hbs⟩ := hrel
        have HO := hide hO
        have HZ := hide hZ
        have HW14 := hide how
        have HM14 := hide hM
        have HW8 := hide how8
        have HM8 := hide hM8
        have HXM := hide hxM
        have HBS := hide hbs
        clear hO hZ how hM hxM HO2 HZ2 H14 HZS hbs how8 hM8
        have HAL := hide (allc_len HS.out HFD.out k hk)
        obtain ⟨A14, m14, c14, rfl, hm8, hx2, hx3⟩ := HW14.out.formN
        clear hm8 hx2 hx3
        have HO3 := HO
        rw [HVC.out] at HO3
        unfold wcs rjc at HO3
        have kx := HO3.out.cells 0 rfl
        clear HO3
        rw [HPL.out] at hk
        go_wp2_with fail
        refine (Zs.pages twin_disk HZ.out).mono ?_
        rintro e wq ⟨rfl, rfl⟩
        rw [HPL.out]
        by_cases hlt : k < pl
        · go_wp2_with fail
          refine (Zs.read twin_disk HZ.out (k : Int)).mono ?_
          rintro e w6 ⟨v6, rfl, hbs6, hown6, hb6⟩
          rw [dRead_ok HFD.out k (by rw [HPL.out]; exact hlt)] at hbs6 ⊢
          dsimp only at hbs6 ⊢
          have HCL : Hid ((allc D2 k).length + (content D2 k).length ≤ 140737488355328) := hide (by rw [HAL.out, content_128 HS.out HFD.out k (by rw [HPL.out]; exact hlt)]; omega)
          obtain ⟨A6, m6, c6, rfl, hm6, hx2, hx3⟩ := hbs6.formN
          have H6 := hide hbs6
          replace HO := hide (HO.out.step hb6)
          replace HZ := hide (HZ.out.step (keeps_twin g3 g2 d1 D2 J2) hb6)
          replace HW14 := hide (HW14.out.step hb6)
          replace HW8 := hide (HW8.out.step hb6)
          replace HBS := hide (Nat.le_trans HBS.out hb6.size)
          clear hbs6 hb6 kx hown6 hm6 hx2 hx3
          go_wp2_with (first
            | (refine wpList_append_bs rfl (.tmp 90) (.tmp 91) rfl _ (v := .slice A14 m14 c14) rfl HW14.out rfl H6.out HCL.out HBS.out ?_; intro v2 w2 how hg hat; obtain ⟨M2, hz, hMM, hv2⟩ := HZ.out.grown (keeps_twin g3 g2 d1 D2 J2) hg HM14.out hat (fun j hj => (how.new j hj).2); have HO2 : Hid (Own W [] [(x, 55, wcs d1 g3 vc)] w2) := hide (HO.out.grown hg (fun j hj => ⟨by have := (HW14.out.new j hj).1; have := HB87.out; have := HSZ.out; omega, by simp; have := (HW14.out.new j hj).1; have := HXLT.out; have := HB87.out; omega⟩)); have HB2 := hide (Nat.le_trans HBS.out hg.size); have HM2 := hide hMM; have HV2 := hide hv2; have HW2 := hide how; have HZ2 := hide hz; have HV8 := hide (HW8.out.touch (grown_touchG hg) (fun j hj hm => by have h1 := H8L.out j hj; have h2 := HW14.out.new j (by simpa using hm); omega)); clear how hg hat hz hMM hv2))
          go_roundw
          case rel => exact ⟨k + 1, M2, by go_num, by rw [HPL.out]; exact hlt, HV8.out, fun j hj => HM2.out _ (HM8.out j hj), by rw [allc_succ]; exact HW2.out, HV2.out, HM2.out _ HXM.out, HO2.out, HZ2.out, HB2.out⟩
          case measure => (simp [intOf]; omega)
        · obtain rfl : pl = k := by omega
          go_wp2_with fail
          clear kx HAL
          rw [HPL.out] at HW8
          have hvc := HVC.out
          subst hvc
          unfold wcs rjc at HO
          generalize D2.fuse = fz at HO
          generalize D2.failed = fl at HO
          obtain ⟨sS, hz4⟩ : ∃ S : ByteArray, sv J2.state = .string S := ⟨_, rfl⟩
          rw [hz4] at HO
          have HST := hide hz4
          clear hz4
          obtain ⟨zt, hzt⟩ : ∃ z : Int, (J2.turn : Int) = z := ⟨_, rfl⟩
          rw [hzt] at HO
          have HTN := hide hzt
          clear hzt
          generalize (J2.used : Int) = zu at HO
          generalize J2.broken = br at HO
          obtain ⟨SB, hSB⟩ : ∃ SB : ByteArray, (⟨(allc D2 pl).toArray⟩ : ByteArray) = SB := ⟨_, rfl⟩
          have HC8 : Hid (∀ W, Ow W w4.heap.size (.slice A8 m8 c8) (allc D2 pl) → (convert 35 9 (.slice A8 m8 c8)).run Tryz.prog W = .ok (.string SB) W) := hide (fun W h => by have := run_string_bs h.bs; rwa [hSB] at this)
          have HC14 : Hid (∀ W, Ow W w7.heap.size (.slice A14 m14 c14) (allc D2 pl) → (convert 35 9 (.slice A14 m14 c14)).run Tryz.prog W = .ok (.string SB) W) := hide (fun W h => by have := run_string_bs h.bs; rwa [hSB] at this)
          clear hSB
          refine wp_region_held_drew (S := fun W => (∀ j, W.cell? ⟨x, j, none⟩ = ([.pointer (some ⟨d1, 0, none⟩), .pointer (some ⟨g3, 0, none⟩), .slice A n c, .slice B m bb, .int .i64 fz, .bool fl, .int .i64 zt, .string sS, .slice Ar nr cr, .int .i64 zu, .bool br] : List Value)[j]?) ∧ (convert 35 9 (.slice A8 m8 c8)).run Tryz.prog W = .ok (.string SB) W ∧ (convert 35 9 (.slice A14 m14 c14)).run Tryz.prog W = .ok (.string SB) W) (by kernel_rfl) (⟨HO.out.drew.cells 0 rfl, HC8.out _ (HW8.out.step (below_drew _)), HC14.out _ (HW14.out.step (below_drew _))⟩) (fun hS0 => ?_)
          replace HO := hide HO.out.drew
          replace HZ := hide (HZ.out.step (keeps_twin g3 g2 d1 D2 J2) (below_drew _))
          replace HW8 := hide (HW8.out.step (below_drew _))
          replace HW14 := hide (HW14.out.step (below_drew _))
          refine tk (i := 0) (v := _) rfl (by assumption) ?_
          try simp only [Act.put, qa, qb, qc, qd, qe, qf]
          refine tk (i := 1) (v := _) rfl (by assumption) ?_
          try simp only [Act.put, qa, qb, qc, qd, qe, qf]
          refine tk (i := 2) (v := _) rfl (by assumption) ?_
          try simp only [Act.put, qa, qb, qc, qd, qe, qf]
          refine tk (i := 3) (v := _) rfl (by assumption) ?_
          try simp only [Act.put, qa, qb, qc, qd, qe, qf]
          refine tk (i := 4) (v := _) rfl (by assumption) ?_
          try simp only [Act.put, qa, qb, qc, qd, qe, qf]
          refine tk (i := 5) (v := _) rfl (by assumption) ?_
          try simp only [Act.put, qa, qb, qc, qd, qe, qf]
          refine tk (i := 6) (v := _) rfl (by assumption) ?_
          try simp only [Act.put, qa, qb, qc, qd, qe, qf]
          refine tk (i := 7) (v := _) rfl (by assumption) ?_
          try simp only [Act.put, qa, qb, qc, qd, qe, qf]
          refine tk (i := 9) (v := _) rfl (by assumption) ?_
          try simp only [Act.put, qa, qb, qc, qd, qe, qf]
          refine tk (i := 10) (v := _) rfl (by assumption) ?_
          try simp only [Act.put, qa, qb, qc, qd, qe, qf]
          refine wpAnyH_ready (rs := [8]) (by kernel_rfl) (by simp) ?_
          refine AllReadyH.cons rfl (fun K hK => ?_) AllReadyH.nil
          go_simp
          obtain ⟨Ft, q, q2, hj1, hj2⟩ := HZ.out.twin
          refine (state_c g2 d1 Ft D2 J2 q2 _ hj2).mono ?_
          rintro e wq ⟨rfl, rfl⟩
          clear hj1 hj2
          rw [HST.out]
          refine hK.out _ _ (⟨HO.out.cells 0 rfl, HC8.out _ HW8.out, HC14.out _ HW14.out⟩) (fun hS10 => ?_)
          clear hK K
          try simp only [Act.put, qa, qb, qc, qd, qe, qf]
          refine wpAnyH_ready (rs := [11]) (by kernel_rfl) (by simp) ?_
          refine AllReadyH.cons rfl (fun K hK => ?_) AllReadyH.nil
          go_simp
          obtain ⟨Ft, q, q2, hj1, hj2⟩ := HZ.out.twin
          refine (state_c g3 d1 Ft D2 J2 q _ hj1).mono ?_
          rintro e wq ⟨rfl, rfl⟩
          clear hj1 hj2
          rw [HST.out]
          refine hK.out _ _ (⟨HO.out.cells 0 rfl, HC8.out _ HW8.out, HC14.out _ HW14.out⟩) (fun hS11 => ?_)
          clear hK K
          try simp only [Act.put, qa, qb, qc, qd, qe, qf]
          refine tk (i := 12) (v := _) rfl (by assumption) ?_
          try simp only [Act.put, qa, qb, qc, qd, qe, qf]
          refine tk (i := 13) (v := _) rfl (by assumption) ?_
          try simp only [Act.put, qa, qb, qc, qd, qe, qf]
          refine tk (i := 14) (v := _) rfl (by assumption) ?_
          try simp only [Act.put, qa, qb, qc, qd, qe, qf]
          refine tk (i := 15) (v := _) rfl (by assumption) ?_
          try simp only [Act.put, qa, qb, qc, qd, qe, qf]
          refine tk (i := 17) (v := _) rfl (by assumption) ?_
          try simp only [Act.put, qa, qb, qc, qd, qe, qf]
          refine tk (i := 18) (v := _) rfl (by assumption) ?_
          try simp only [Act.put, qa, qb, qc, qd, qe, qf]
          refine wpAnyH_ready (rs := [16]) (by kernel_rfl) (by simp) ?_
          refine AllReadyH.cons rfl (fun K hK => ?_) AllReadyH.nil
          go_simp
          obtain ⟨Ft, q, q2, hj1, hj2⟩ := HZ.out.twin
          refine (turn_c g2 d1 Ft D2 J2 q2 _ hj2).mono ?_
          rintro e wq ⟨rfl, rfl⟩
          clear hj1 hj2
          rw [HTN.out]
          refine hK.out _ _ (⟨HO.out.cells 0 rfl, HC8.out _ HW8.out, HC14.out _ HW14.out⟩) (fun hS18 => ?_)
          clear hK K
          try simp only [Act.put, qa, qb, qc, qd, qe, qf]
          refine wpAnyH_ready (rs := [19]) (by kernel_rfl) (by simp) ?_
          refine AllReadyH.cons rfl (fun K hK => ?_) AllReadyH.nil
          go_simp
          obtain ⟨Ft, q, q2, hj1, hj2⟩ := HZ.out.twin
          refine (turn_c g3 d1 Ft D2 J2 q _ hj1).mono ?_
          rintro e wq ⟨rfl, rfl⟩
          clear hj1 hj2
          rw [HTN.out]
          refine hK.out _ _ (⟨HO.out.cells 0 rfl, HC8.out _ HW8.out, HC14.out _ HW14.out⟩) (fun hS19 => ?_)
          clear hK K
          try simp only [Act.put, qa, qb, qc, qd, qe, qf]
          refine tk (i := 20) (v := _) rfl (by assumption) ?_
          try simp only [Act.put, qa, qb, qc, qd, qe, qf]
          refine tk (i := 21) (v := _) rfl (by assumption) ?_
          try simp only [Act.put, qa, qb, qc, qd, qe, qf]
          refine tk (i := 22) (v := _) rfl (by assumption) ?_
          try simp only [Act.put, qa, qb, qc, qd, qe, qf]
          refine tk (i := 23) (v := _) rfl (by assumption) ?_
          try simp only [Act.put, qa, qb, qc, qd, qe, qf]
          refine tk (i := 25) (v := _) rfl (by assumption) ?_
          try simp only [Act.put, qa, qb, qc, qd, qe, qf]
          refine tk (i := 26) (v := _) rfl (by assumption) ?_
          try simp only [Act.put, qa, qb, qc, qd, qe, qf]
          refine wpAnyH_ready (rs := [24]) (by kernel_rfl) (by simp) ?_
          refine AllReadyH.cons rfl (fun K hK => ?_) AllReadyH.nil
          go_simp
          obtain ⟨Ft, q, q2, hj1, hj2⟩ := HZ.out.twin
          refine (records_c g2 d1 Ft D2 J2 q2 _ hj2 (by have := HK2.out.recs; omega)).mono ?_
          rintro e w8 ⟨va, rfl, hsa, hx1, hb8⟩
          obtain ⟨Aa, ma, ca, rfl, hx2, hx3, hx4⟩ := hsa.formN
          replace HO := hide (HO.out.step hb8)
          replace HZ := hide (HZ.out.step (keeps_twin g3 g2 d1 D2 J2) hb8)
          replace HW8 := hide (HW8.out.step hb8)
          replace HW14 := hide (HW14.out.step hb8)
          have HSa := hide hsa
          clear hj1 hj2 hsa hx1 hx2 hx3 hx4 hb8
          refine hK.out _ _ (⟨HO.out.cells 0 rfl, HC8.out _ HW8.out, HC14.out _ HW14.out⟩) (fun hS26 => ?_)
          clear hK K
          try simp only [Act.put, qa, qb, qc, qd, qe, qf]
          refine wpAnyH_ready (rs := [27]) (by kernel_rfl) (by simp) ?_
          refine AllReadyH.cons rfl (fun K hK => ?_) AllReadyH.nil
          go_simp
          obtain ⟨Ft, q, q2, hj1, hj2⟩ := HZ.out.twin
          refine (records_c g3 d1 Ft D2 J2 q _ hj1 (by have := HK2.out.recs; omega)).mono ?_
          rintro e w8 ⟨vb, rfl, hsb, hx1, hb8⟩
          obtain ⟨Ab, mb, cb, rfl, hx2, hx3, hx4⟩ := hsb.formN
          replace HO := hide (HO.out.step hb8)
          replace HZ := hide (HZ.out.step (keeps_twin g3 g2 d1 D2 J2) hb8)
          replace HW8 := hide (HW8.out.step hb8)
          replace HW14 := hide (HW14.out.step hb8)
          have HSb := hide hsb
          replace HSa := hide (HSa.out.step hb8)
          clear hj1 hj2 hsb hx1 hx2 hx3 hx4 hb8
          refine hK.out _ _ (⟨HO.out.cells 0 rfl, HC8.out _ HW8.out, HC14.out _ HW14.out⟩) (fun hS27 => ?_)
          clear hK K
          try simp only [Act.put, qa, qb, qc, qd, qe, qf]
          refine wpAnyH_ready (rs := [28]) (by kernel_rfl) (by simp) ?_
          refine AllReadyH.cons rfl (fun K hK => ?_) AllReadyH.nil
          go_simp
          refine (same_c _ _ J2.records J2.records _ HSa.out HSb.out (by have := HK2.out.recs; omega)).mono ?_
          rintro e w8 ⟨rfl, hb8⟩
          replace HO := hide (HO.out.step hb8)
          replace HZ := hide (HZ.out.step (keeps_twin g3 g2 d1 D2 J2) hb8)
          replace HW8 := hide (HW8.out.step hb8)
          replace HW14 := hide (HW14.out.step hb8)
          clear hb8
          rw [show decide (J2.records = J2.records) = true by simp]
          refine hK.out _ _ (⟨HO.out.cells 0 rfl, HC8.out _ HW8.out, HC14.out _ HW14.out⟩) (fun hS28 => ?_)
          clear hK K
          try simp only [Act.put, qa, qb, qc, qd, qe, qf]
          refine tk (i := 29) (v := _) rfl (by assumption) ?_
          try simp only [Act.put, qa, qb, qc, qd, qe, qf]
          refine tk (i := 30) (v := _) rfl (by assumption) ?_
          try simp only [Act.put, qa, qb, qc, qd, qe, qf]
          refine tk (i := 31) (v := _) rfl (by assumption) ?_
          try simp only [Act.put, qa, qb, qc, qd, qe, qf]
          refine tk (i := 32) (v := _) rfl (by assumption) ?_
          try simp only [Act.put, qa, qb, qc, qd, qe, qf]
          refine tk (i := 33) (v := _) rfl (by assumption) ?_
          try simp only [Act.put, qa, qb, qc, qd, qe, qf]
          refine tk (i := 34) (v := _) rfl (by assumption) ?_
          try simp only [Act.put, qa, qb, qc, qd, qe, qf]
          refine tk (i := 35) (v := _) rfl (by assumption) ?_
          try simp only [Act.put, qa, qb, qc, qd, qe, qf]
          refine tk (i := 36) (v := _) rfl (by assumption) ?_
          try simp only [Act.put, qa, qb, qc, qd, qe, qf]
          refine tk (i := 37) (v := _) rfl (by assumption) ?_
          try simp only [Act.put, qa, qb, qc, qd, qe, qf]
          refine wpAnyH_done (by kernel_rfl) ?_ _
          clear hS0
          go_wp2_with fail
          go_ret
          exact ⟨rfl, HO.out.below⟩
end Go.Proofs.YtpadgkkeihhneaaGreat
