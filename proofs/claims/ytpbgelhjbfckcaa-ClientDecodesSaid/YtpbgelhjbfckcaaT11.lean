/- Valid walked. -/
import Derived.Test.YtpbgelhjbfckcaaT10
import Derived.Test.YtpbgelhjbfckcaaT08
namespace Go.Proofs.Ytpbgelhjbfckcaa
open Go.ChangeMaps Go.ChangeShapes Go.WideShapes Go.ChangeAt Go.RowKit
open Go.Maps (Keyed IsMap)
set_option maxRecDepth 100000
set_option linter.unusedVariables false
set_option linter.unusedSimpArgs false

theorem zero_field (w : World) : (zeroValue 101).run Try.prog w = .ok (.agg zfield.toArray) w := by kernel_rfl
theorem keyed_str : Keyed Try.prog 9 := Go.Maps.string_keyed Try.underlying9
abbrev fvs (fw fr fz fo : FuncId) (cw cr cz co : List Value) : Value := .agg #[.func (.func fw) #[] cw.toArray, .func (.func fr) #[] cr.toArray, .func (.func fz) #[] cz.toArray, .func (.func fo) #[] co.toArray]
theorem run_field3 (fw fr fz fo : FuncId) (cw cr cz co : Array Value) (W : World) : (Instr.field 101 (.agg #[.func (.func fw) #[] cw, .func (.func fr) #[] cr, .func (.func fz) #[] cz, .func (.func fo) #[] co]) 3).run Try.prog W = .ok (.func (.func fo) #[] co) W := by kernel_rfl
theorem validP_some {cs : List Value} {ml : List Int} {ix : List Nat} (h : usedIx cs = some ix) : validP cs ml = (ix.all (vF cs ml) && (List.range 14).all fun k => ix.contains k || zF cs k) := by unfold validP; rw [h]
set_option maxHeartbeats 4000000 in
theorem valid_c (cs : List Value) (ml : List Int) (w : World) (hT : MsgT cs) (hm : Li w (slAt cs 33) ml) : Calls Try.prog 21 #[.agg cs.toArray] w fun e w' => e = .returned (.bool (validP cs ml)) ∧ Below w.heap.size w w' := by
  obtain ⟨kd, h0⟩ := hT.ints 0 (by decide)
  have hb0 := hT.kind kd h0
  have hn0 := numAt_eq h0
  have hwf : (Lit.int .i64 kd).wf = true := by
    have := hb0.1; have := hb0.2
    simp [Lit.wf, IntKind.min, IntKind.max, IntKind.signed, IntKind.bits]; omega
  have HT := hide hT
  have HM := hide hm
  have H0 := hide h0
  have HO := hide (Own.nil w [] (by simp))
  clear hT hm h0 hb0
  go_enter Try.func21, Try.ntmps21
  go_wp2_with ((with_reducible refine at_box 41 (.tmp 0) ?_); refine wpList_box_own HO.out rfl 41 (.tmp 0) rfl cs rfl ?_; intro WA b hO; replace HO := hide hO; clear hO; have k0 : WA.cell? ⟨b, 0, none⟩ = some (.int .i64 kd) := (HO.out.cells 0 rfl 0).trans H0.out)
  refine (uses_c kd hwf _).mono ?_
  rintro e w1 ⟨hb1, hr⟩
  replace HO := hide (HO.out.step hb1)
  clear hb1 k0 hwf
  rcases hr with ⟨hk, rfl⟩ | ⟨l, g, hul, hk0, hk1, rfl, hbg, hgn⟩
  · have HV : Hid (validP cs ml = false) := hide (by
      have : usedIx cs = none := by
        unfold usedIx
        rw [hn0]
        split
        · rw [List.getElem?_eq_none]
          show 12 ≤ _
          omega
        · rfl
      unfold validP
      rw [this])
    clear hk hn0
    go_wp2_with fail
    go_ret
    exact ⟨by rw [HV.out]; rfl, HO.out.below⟩
  · obtain ⟨ix, hix, rfl, hlt14, hnd⟩ := useList_get hul
    have hn14 : ix.length ≤ 14 := useIdx_len ix (List.mem_of_getElem? hix)
    have HU : Hid (usedIx cs = some ix) := hide (by unfold usedIx; rw [hn0, if_pos hk0]; exact hix)
    have HG := hide hbg
    have HX14 := hide hlt14
    have HND := hide hnd
    unfold useVal
    obtain ⟨n, hn⟩ : ∃ n, (ix.map fname).length = n := ⟨_, rfl⟩
    rw [hn]
    replace hn14 : n ≤ 14 := by rw [← hn, List.length_map]; exact hn14
    have HN : Hid (n = ix.length) := hide (by rw [← hn, List.length_map])
    clear hn hix hul hk0 hk1 hbg hgn hlt14 hnd hn0
    go_wp2_with fail
    refine (fields_c b _).mono ?_
    rintro e w2 ⟨bm, mb, M, L, rfl, hL, htab, hbm⟩
    have hB := (HO.out.has (b, 41, cs) (by simp))
    have HVS : Hid (VS w b bm mb g L cs ml (ix.map fname) w2) := hide ⟨fun e he => (hL.has e he).1, ⟨htab.2.1, fun e => by have := hB.1.lt; have := htab.2.2.1; omega, fun e => by have := HG.out.lt; have := htab.2.2.1; omega⟩, hB.1.step hL.below, HG.out.step hL.below, (HO.out.step hL.below).below, Nat.le_trans HO.out.size htab.2.2.1, htab.2.2.2.1⟩
    have HBM := hide hbm
    have HD : Hid (∃ D, w2.ownsMap Try.prog 9 RV mb M.length D ∧ DOk D L b bm (ix.take 0)) := hide ⟨_, htab.1, htab.dok⟩
    clear hL htab hbm hB HO HG
    go_wp2_with fail
    go_loopw [21] (fun v21 wr => ∃ j : Nat, v21 = .int .i64 j ∧ j ≤ n ∧ VS w b bm mb g L cs ml (ix.map fname) wr ∧ (∃ D, wr.ownsMap Try.prog 9 RV mb M.length D ∧ DOk D L b bm (ix.take j)) ∧ (ix.take j).all (vF cs ml) = true) (fun v21 _ => n - (intOf v21).toNat)
    case atStart => exact ⟨0, rfl, Nat.zero_le _, HVS.out, HD.out, rfl⟩
    case round =>
      obtain ⟨j, rfl, hj, hv, ⟨D, hown, hdok⟩, hall⟩ := hrel
      clear HVS HD
      have HVS := hide hv
      by_cases hlt : j < n
      · have hjl : j < ix.length := by rw [← HN.out]; exact hlt
        obtain ⟨k, hk⟩ : ∃ k, ix[j] = k := ⟨_, rfl⟩
        have hk14 : k < 14 := HX14.out k (hk ▸ List.getElem_mem hjl)
        have hnk : k ∉ ix.take j := by
          intro hm
          obtain ⟨i, hi, e⟩ := List.mem_iff_getElem.1 hm
          rw [List.length_take] at hi
          rw [List.getElem_take] at e
          have := (List.getElem_inj (h₀ := by omega) (h₁ := hjl) HND.out).1 (e.trans hk.symm)
          omega
        have htk : ix.take (j + 1) = ix.take j ++ [k] := by rw [List.take_add_one, List.getElem?_eq_getElem hjl, hk]; rfl
        have hname : wr.cell? ⟨g, j, none⟩ = some (.string (fname k)) := by
          rw [HVS.out.names.cell j]
          simp [strCells, hjl, hk]
        obtain ⟨hh, v, hat, hf⟩ := hdok.1 k hk14 hnk
        obtain ⟨fw, fr, fz, fo, cw, cr, cz, co, rfl, hz, ho⟩ := field_at hk14 hf HVS.out.blks HBM.out (fun o => (HVS.out.msg.cell o).trans (by simp)) HT.out (HM.out.step HVS.out.below)
        have hfd := run_field3 fw fr fz fo cw.toArray cr.toArray cz.toArray co.toArray
        have HAT : Hid (∀ z, D.atKey (flit k) z = .held (.agg #[.func (.func fw) #[] cw.toArray, .func (.func fr) #[] cr.toArray, .func (.func fz) #[] cz.toArray, .func (.func fo) #[] co.toArray])) := hide hat
        have HOW := hide hown
        have HHO := hide ho.2
        have hent := fun (W : World) => ho.1 co.toArray W
        have HDK := hide (hdok.del k hk14)
        have HAL : Hid (vF cs ml k = true → (ix.take (j + 1)).all (vF cs ml) = true) := hide (fun h => by rw [htk, List.all_append, hall]; simp [h])
        have HNO : Hid (vF cs ml k = false → validP cs ml = false) := hide (fun h => by
          rw [validP_some HU.out]
          have : ix.all (vF cs ml) = false := by
            rw [List.all_eq_false]
            exact ⟨k, hk ▸ List.getElem_mem hjl, by simp [h]⟩
          rw [this]; rfl)
        rw [← htk] at HDK
        have HK14 := hide hk14
        have HLT := hide hlt
        have hji : (j : Int) < (n : Int) := by omega
        clear hv hown hdok hall hlt hjl hk hk14 hnk htk hh hat hf hz ho hj
        go_wp2_with ((with_reducible refine at_lookup_ 96 (.tmp 25) (.tmp 26) false ?_); refine wpList_lookup_held rfl (.tmp 25) (.tmp 26) 96 rfl 9 101 keyed_str Try.underlying96 (zero_field _) mb M.length D rfl HOW.out (.string (fname k)) (.agg #[.func (.func fw) #[] cw.toArray, .func (.func fr) #[] cr.toArray, .func (.func fz) #[] cz.toArray, .func (.func fo) #[] co.toArray]) (flit k) rfl (key_name k HK14.out) HAT.out ?_)
        refine HHO.out.mono ?_
        rintro e w3 ⟨rfl, hb3⟩
        replace HVS := hide (HVS.out.step hb3)
        replace HOW := hide (HOW.out.kept (grown_of_below hb3 none) (by simp))
        clear hb3 hname hent hfd HHO
        cases hvf : vF cs ml k with
        | false =>
          replace HNO := hide (HNO.out hvf)
          clear hvf
          go_wp2_with fail
          go_ret
          exact ⟨by rw [HNO.out]; rfl, HVS.out.below⟩
        | true =>
          replace HAL := hide (HAL.out hvf)
          clear hvf HNO
          go_wp2_with (at_delete; refine Go.wpList_delete_own _ rfl (.tmp 31) (.tmp 32) 96 9 rfl 101 keyed_str Try.underlying96 RV mb M.length D rfl HOW.out (.string (fname k)) (flit k) rfl (key_name k HK14.out) ?_; intro w4 hown4 hturn; replace HVS := hide (HVS.out.map (Touch.map hturn)); replace HOW := hide hown4; clear hown4 hturn)
          go_roundw
          case rel => exact ⟨j + 1, by go_num, HLT.out, HVS.out, ⟨_, HOW.out, HDK.out⟩, HAL.out⟩
          case measure => have := HLT.out; simp [intOf]; omega
      · obtain rfl : j = n := by omega
        have HAL : Hid (ix.all (vF cs ml) = true) := hide (by rw [HN.out, List.take_length] at hall; exact hall)
        have HDK : Hid (DOk D L b bm ix) := hide (by rw [HN.out, List.take_length] at hdok; exact hdok)
        have HOW := hide hown
        clear hv hown hdok hall hlt hj
        obtain ⟨r, hr⟩ : ∃ r, wr.heap.size = r := ⟨_, rfl⟩
        have HR : Hid ((∀ e ∈ L, e.1 ≠ r) ∧ b ≠ r ∧ g ≠ r ∧ w.heap.size ≤ r ∧ mb ≠ r) := hide ⟨fun e he => by have := (HVS.out.blks e he).lt; omega, by have := HVS.out.msg.lt; omega, by have := HVS.out.names.lt; omega, by rw [← hr]; exact HVS.out.below.size, by have := HVS.out.mb0.2; omega⟩
        go_wp2_with (at_range; refine Go.wpList_range_own _ rfl (.tmp 34) 96 rfl 9 101 keyed_str Try.underlying96 RV mb M.length D rfl HOW.out ?_; intro w5 hrg hg hs; have HRG := hide hrg; have HG5 := hide hg; clear hrg hg hs)
        go_frame
        rw [hr] at HRG
        rw [hr]
        replace HVS := hide (HVS.out.turn (Touch.grown HG5.out) (by simp))
        clear HG5 hr HOW
        go_loopw [36] (fun _ wr => ∃ (left : Lit → Bool) (cnt : Nat), wr.ranges Try.prog 9 RV mb r M.length D left cnt ∧ VS w b bm mb g L cs ml (ix.map fname) wr ∧ (∀ kl, left kl = true → Go.Maps.has D kl = true) ∧ (∀ k, k < 14 → k ∉ ix → left (flit k) = false → zF cs k = true)) (fun _ wr => wr.rangeLeft mb r)
        case atStart => exact ⟨_, _, HRG.out, HVS.out, fun kl h => h, fun k hk hn h => by have := (HDK.out.1 k hk hn).1; rw [h] at this; cases this⟩
        case round =>
          obtain ⟨left, cnt, hrg, hv, hlh, hz⟩ := hrel
          clear HVS HRG
          have HVS := hide hv
          have HRG := hide hrg
          have HLH := hide hlh
          have HZZ := hide hz
          clear hv hrg hlh hz
          go_wp2_with (at_next; refine Go.wpList_next_ranges _ rfl (.tmp 35) rfl 9 keyed_str RV (fun s : ByteArray => .string s) (fun v : Value => v) (fun key kl h => by obtain ⟨s, e, _⟩ := Go.WideMaps.string_of_keyOf Try.underlying9 h; exact ⟨s, e⟩) (fun v y _ => ⟨v, rfl⟩) mb r M.length D left cnt rfl HRG.out ?_ ?_)
          · intro hc0 hl0
            have HV : Hid (validP cs ml = true) := hide (by
              rw [validP_some HU.out, HAL.out, Bool.true_and, List.all_eq_true]
              intro k hk
              by_cases hm : k ∈ ix
              · simp [hm]
              · rw [HZZ.out k (List.mem_range.1 hk) hm (hl0 _)]; simp)
            clear hc0 hl0
            go_wp2_with fail
            go_ret
            exact ⟨by rw [HV.out]; rfl, HVS.out.below⟩
          · intro x c kl y1 y2 w6 cnt6 hkx hlk hry hat hrg6 hlt6 hg6 hs6 hen
            obtain ⟨k, hk14, hnk, rfl⟩ := HDK.out.2 kl (HLH.out kl hlk)
            obtain ⟨hh, v, hatv, hf⟩ := HDK.out.1 k hk14 hnk
            obtain rfl : v = c := by
              have h1 := (hatv (.held v)).symm.trans (hat (.held v))
              simp only [RV, Option.some.injEq, Prod.mk.injEq] at hry
              rw [← hry.1] at h1
              injection h1
            replace HVS := hide (HVS.out.turn (Touch.grown hg6) (fun s hs => by obtain rfl : s = r := by simpa using hs
                                                                                exact ⟨HR.out.1, HR.out.2.1, HR.out.2.2.1, HR.out.2.2.2.1⟩))
            have hmsg : ∀ W, VS w b bm mb g L cs ml (ix.map fname) W → FieldOf W v (zF cs k) (vF cs ml k) := fun W hW => field_at hk14 hf hW.blks HBM.out (fun o => (hW.msg.cell o).trans (by simp)) HT.out (HM.out.step hW.below)
            obtain ⟨fw, fr, fz, fo, cw, cr, cz, co, rfl, hz, _⟩ := hmsg _ HVS.out
            have HSAY : Hid (∀ W, VS w b bm mb g L cs ml (ix.map fname) W → Calls Try.prog fz cz.toArray W fun e w' => e = .returned (.bool (zF cs k)) ∧ Below W.heap.size W w') := hide (fun W hW => by
              obtain ⟨fw', fr', fz', fo', cw', cr', cz', co', e, hz', _⟩ := hmsg W hW
              obtain ⟨rfl, rfl⟩ := agg_inj e
              exact hz'.2)
            have hent := fun (W : World) => hz.1 cz.toArray W
            have HRG6 := hide hrg6
            have HO := hide (Own.nil w6 [] (by simp))
            have HLC : Hid (cnt6 < cnt) := hide hlt6
            have HNO : Hid (zF cs k = false → validP cs ml = false) := hide (fun h => by
              rw [validP_some HU.out, HAL.out, Bool.true_and, List.all_eq_false]
              exact ⟨k, List.mem_range.2 hk14, by simp [hnk, h]⟩)
            have HK14 : Hid (k < 14 ∧ k ∉ ix) := hide ⟨hk14, hnk⟩
            clear hkx hlk hry hat hrg6 hlt6 hg6 hs6 hh hatv hf hmsg hz hk14 hnk
            unfold fv at hen ⊢
            go_wp2_with (first
              | ((with_reducible refine at_alloc 101 ?_); refine wpList_alloc_own HO.out rfl 101 rfl zfield info_field ?_; intro WA b9 hO; replace HO := hide hO; clear hO)
              | ((with_reducible refine at_store 101 (.tmp 9) ?_); refine wpList_store_own HO.out rfl 101 (.tmp 9) (.tmp 39) rfl 0 _ 0 _ _ (fv fw fr fz fo cw cr cz co) (fv fw fr fz fo cw cr cz co) rfl (.agg (fv fw fr fz fo cw cr cz co).toArray) rfl rfl (fits_agg _) (by simp [fv, zfield]) rfl size_field rfl ?_; intro WA hO; replace HO := hide hO; clear hO; have k9 : ∀ j, WA.cell? ⟨b9, j, none⟩ = ([.func (.func fw) #[] cw.toArray, .func (.func fr) #[] cr.toArray, .func (.func fz) #[] cz.toArray, .func (.func fo) #[] co.toArray] : List Value)[j]? := HO.out.cells 0 rfl))
            replace HVS := hide (HVS.out.step HO.out.below)
            replace HRG6 := hide (HRG6.out.kept (grown_of_below HO.out.below none) (by simp) (by simp))
            clear HO k9 hen
            refine (HSAY.out _ HVS.out).mono ?_
            rintro e w7 ⟨rfl, hb7⟩
            replace HVS := hide (HVS.out.step hb7)
            replace HRG6 := hide (HRG6.out.kept (grown_of_below hb7 none) (by simp) (by simp))
            clear hb7 hent HSAY
            cases hzf : zF cs k with
            | false =>
              replace HNO := hide (HNO.out hzf)
              clear hzf
              go_wp2_with fail
              go_ret
              exact ⟨by rw [HNO.out]; rfl, HVS.out.below⟩
            | true =>
              have HZF := hide hzf
              clear hzf HNO
              go_wp2_with fail
              go_roundw
              case rel =>
                refine ⟨_, cnt6, HRG6.out, HVS.out, fun kl h => HLH.out kl (by simp only [Bool.and_eq_true] at h; exact h.1), fun k' hk' hn' h => ?_⟩
                by_cases e : k' = k
                · rw [e]; exact HZF.out
                · refine HZZ.out k' hk' hn' ?_
                  cases hl : left (flit k') with
                  | false => rfl
                  | true =>
                    rw [hl, Bool.true_and] at h
                    have h2 : (flit k').sameKey (flit k) = true := by simpa using h
                    exact absurd (flit_same hk' HK14.out.1 h2) e
              case measure => rw [HRG6.out.left_eq, HRG.out.left_eq]; exact HLC.out
end Go.Proofs.Ytpbgelhjbfckcaa
/- What each field of a message writes. -/
namespace Go.Proofs.Ytpbgelhjbfckcaa
open Go.ChangeShapes Go.WideShapes Go.ChangeAt Go.RowKit
set_option maxRecDepth 100000
set_option linter.unusedVariables false
set_option linter.unusedSimpArgs false

def lOffs : List Nat := [11, 12, 26, 27, 28, 29, 30, 31, 32, 33]
/-- A message: its cells, its lists and its entries, all of them below B. -/
structure MsgM (w : World) (B : Nat) (cs : List Value) (li : Nat → List Int) (l : List En) : Prop where
  T : MsgT cs
  I : ∀ o ∈ iOffs, I64 (numAt cs o)
  S : ∀ o ∈ lOffs, LiB w B (slAt cs o) (li o)
  E : EnsIn w B (slAt cs 43) l
  sz : totL (lOffs.map li) + totE l + l.length + (strAt cs 5).size + (strAt cs 45).size ≤ 1073741824
theorem MsgM.below {w w' : World} {B : Nat} {cs : List Value} {li : Nat → List Int} {l : List En} (h : MsgM w B cs li l) (k : Below B w w') : MsgM w' B cs li l := ⟨h.T, h.I, fun o ho => (h.S o ho).below k, h.E.below k, h.sz⟩
theorem MsgM.mono {w : World} {B B' : Nat} {cs : List Value} {li : Nat → List Int} {l : List En} (h : MsgM w B cs li l) (k : B ≤ B') : MsgM w B' cs li l := ⟨h.T, h.I, fun o ho => (h.S o ho).mono k, h.E.mono k, h.sz⟩
def encG (cs : List Value) (l : List En) : List UInt8 := encM (mOffs.map (numAt cs)) (boolAt cs 42) (boolAt cs 46) (strAt cs 45) l
def encF (cs : List Value) (li : Nat → List Int) (l : List En) (k : Nat) : List UInt8 :=
  match k with
  | 0 => encI (numAt cs 1)
  | 1 => encI (numAt cs 2)
  | 2 => encI (numAt cs 3)
  | 3 => encI (numAt cs 4)
  | 4 => encI (numAt cs 6)
  | 5 => encI (numAt cs 7)
  | 6 => encI (numAt cs 8)
  | 7 => encT (strAt cs 5)
  | 8 => encI (numAt cs 17)
  | 9 => encNs cs [9, 10] ++ encLs ([11, 12].map li)
  | 10 => encNs cs [13, 14, 15] ++ encI (numAt cs 16)
  | 11 => encNs cs [] ++ encLs ([33].map li)
  | 12 => encNs cs [18, 19, 20, 21, 22, 23, 24, 25] ++ encLs ([26, 27, 28, 29, 30, 31, 32].map li)
  | _ => encT ⟨(encG cs l).toArray⟩
theorem ent_n1 : Ent 88 := enters Try.func88 (by kernel_rfl) (by kernel_rfl)
theorem ent_p1 : Ent 82 := enters Try.func82 (by kernel_rfl) (by kernel_rfl)
theorem ent_f1 : Ent 52 := enters Try.func52 (by kernel_rfl) (by kernel_rfl)
theorem ent_f6 : Ent 61 := enters Try.func61 (by kernel_rfl) (by kernel_rfl)
theorem ent_f10 : Ent 67 := enters Try.func67 (by kernel_rfl) (by kernel_rfl)
theorem ent_f13 : Ent 71 := enters Try.func71 (by kernel_rfl) (by kernel_rfl)
theorem iOffs_sub : ∀ o ∈ mOffs, o ∈ iOffs := by decide
section
variable {w : World} {base : Nat} {L : LB} {b bm : Nat} {cs : List Value} {li : Nat → List Int} {l : List En}
theorem MsgM.listsAt (h : MsgM w base cs li l) {ls : List Nat} (hl : ∀ o ∈ ls, o ∈ lOffs) : ListsAt w base cs ls (ls.map li) :=
  ⟨by simp, fun i h1 h2 => by rw [List.getElem_map]; exact h.S _ (hl _ (List.getElem_mem h1))⟩
theorem MsgM.list_ok (h : MsgM w base cs li l) {o : Nat} (ho : o ∈ lOffs) : (∀ x ∈ li o, I64 x) ∧ (li o).length < 2 ^ 64 := by
  obtain ⟨A, c, e, h1, h2, h3, h4⟩ := h.S o ho
  exact ⟨h3, by unfold maxLen at h2; omega⟩
theorem MsgM.ens (h : MsgM w base cs li l) : ∀ x ∈ l, x.Ok := by
  obtain ⟨_, _, _, _, _, h3, _⟩ := h.E
  exact h3
def FieldW (w : World) (base : Nat) (v : Value) (m : List UInt8) : Prop := ∃ fw fr fz fo cw cr cz co, v = .agg (fv fw fr fz fo cw cr cz co).toArray ∧ Ent fw ∧ ∀ W, Below base w W → Writes W fw cw base m
theorem num_w {o : Nat} {lo hi : Int} {v : Value} (hF : FB w base L b bm cs) (hM : MsgM w base cs li l) (ho : o ∈ iOffs) (h : NumF L b o lo hi v) : FieldW w base v (encI (numAt cs o)) := by
  obtain ⟨x, hx⟩ := hM.T.ints o ho
  have hi := hM.I o ho
  rw [numAt_eq hx] at hi ⊢
  obtain ⟨bp, bl, bh, rfl, h1, h2, h3⟩ := h
  exact ⟨_, _, _, _, _, _, _, _, rfl, ent_n1, fun W k => nwrite_c ((hF.below k).box h1) (((hF.below k).cell o).trans hx) hi⟩
theorem part_w {ns ls : List Nat} {bn bl : Nat} (hF : FB w base L b bm cs) (hM : MsgM w base cs li l) (hp : PartB L b ns ls bn bl) (hn : ∀ o ∈ ns, o ∈ iOffs) (hl : ∀ o ∈ ls, o ∈ lOffs) (hs : ∀ o ∈ ls, o ∈ sOffs) (h1 : ns.length ≤ 100) (h2 : ls.length ≤ 100) (h3 : totL (ls.map li) ≤ totL (lOffs.map li)) (W : World) (k : Below base w W) :
    Writes W 82 [at0 bn, at0 bl] base (encNs cs ns ++ encLs (ls.map li)) :=
  pwrite_c (hF.below k) hp hM.T (fun o ho => ⟨hn o ho, hM.I o (hn o ho)⟩) hs h1 h2 ((hM.below k).listsAt hl) (by have := hM.sz; omega)
theorem field_w {k : Nat} {v : Value} (hk : k < 14) (h : FValI L b bm k v) (hF : FB w base L b bm cs) (hM : MsgM w base cs li l) : FieldW w base v (encF cs li l k) := by
  have hT := hM.T
  have : k = 0 ∨ k = 1 ∨ k = 2 ∨ k = 3 ∨ k = 4 ∨ k = 5 ∨ k = 6 ∨ k = 7 ∨ k = 8 ∨ k = 9 ∨ k = 10 ∨ k = 11 ∨ k = 12 ∨ k = 13 := by omega
  rcases this with rfl | rfl | rfl | rfl | rfl | rfl | rfl | rfl | rfl | rfl | rfl | rfl | rfl | rfl
  · exact num_w hF hM (by decide) h
  · exact num_w hF hM (by decide) h
  · exact num_w hF hM (by decide) h
  · exact num_w hF hM (by decide) h
  · exact num_w hF hM (by decide) h
  · exact num_w hF hM (by decide) h
  · exact num_w hF hM (by decide) h
  · obtain ⟨s, hs⟩ := hT.body
    have hz := hM.sz
    rw [strAt_eq hs] at hz
    refine ⟨_, _, _, _, _, _, _, _, h, ent_f6, fun W k => ?_⟩
    show Writes W _ _ base (encT (strAt cs 5))
    rw [strAt_eq hs]
    exact bwrite_c (hF.below k) hs (by omega)
  · obtain ⟨x, hx⟩ := hT.ints 17 (by decide)
    have hi := hM.I 17 (by decide)
    refine ⟨_, _, _, _, _, _, _, _, h, ent_f10, fun W k => ?_⟩
    show Writes W _ _ base (encI (numAt cs 17))
    rw [numAt_eq hx] at hi ⊢
    exact vwrite_c (hF.below k) hx hi
  · obtain ⟨bn, bl, rfl, hp⟩ := h
    exact ⟨_, _, _, _, _, _, _, _, rfl, ent_p1, part_w hF hM hp (by decide) (by decide) (by decide) (by decide) (by decide) (by simp only [totL, lOffs, List.map_cons, List.map_nil, List.sum_cons, List.sum_nil]; omega)⟩
  · obtain ⟨b7, b8, b9, bn, bl, rfl, h7, h8, h9, hp⟩ := h
    exact ⟨_, _, _, _, _, _, _, _, rfl, ent_f1, fun W k => uwrite_c (hF.below k) h7 hp hT (fun o ho => hM.I o (by revert o; decide))⟩
  · obtain ⟨bn, bl, rfl, hp⟩ := h
    exact ⟨_, _, _, _, _, _, _, _, rfl, ent_p1, part_w hF hM hp (by decide) (by decide) (by decide) (by decide) (by decide) (by simp only [totL, lOffs, List.map_cons, List.map_nil, List.sum_cons, List.sum_nil]; omega)⟩
  · obtain ⟨bn, bl, rfl, hp⟩ := h
    exact ⟨_, _, _, _, _, _, _, _, rfl, ent_p1, part_w hF hM hp (by decide) (by decide) (by decide) (by decide) (by decide) (by simp only [totL, lOffs, List.map_cons, List.map_nil, List.sum_cons, List.sum_nil]; omega)⟩
  · have hz := hM.sz
    exact ⟨_, _, _, _, _, _, _, _, h, ent_f13, fun W k => mwrite_c (hF.below k) hT (fun o ho => hM.I o (iOffs_sub o ho)) (hM.E.below k) (by omega)⟩
theorem encG_len (hM : MsgM w base cs li l) : (encG cs l).length ≤ 30000000000 := by
  unfold encG
  have := encM_len (is := mOffs.map (numAt cs)) (gr := boolAt cs 42) (dn := boolAt cs 46) (d := strAt cs 45) (l := l) (fun y hy => by
    obtain ⟨o, ho, rfl⟩ := List.mem_map.1 hy
    exact hM.I o (iOffs_sub o ho)) (by rw [List.length_map]; decide) hM.ens (by have := hM.sz; omega) (by have := hM.sz; omega)
  have := hM.sz
  omega
theorem part_len {ns ls : List Nat} (hM : MsgM w base cs li l) (hn : ∀ o ∈ ns, o ∈ iOffs) (hl : ∀ o ∈ ls, o ∈ lOffs) (h1 : ns.length ≤ 100) (h3 : totL (ls.map li) ≤ totL (lOffs.map li)) : (encNs cs ns ++ encLs (ls.map li)).length ≤ 30000000000 := by
  rw [List.length_append]
  have h4 := encNs_len (cs := cs) (ns := ns) (fun o ho => hM.I o (hn o ho))
  have h5 := encLs_len (lss := ls.map li) (fun x hx => by obtain ⟨o, ho, rfl⟩ := List.mem_map.1 hx; exact hM.list_ok (hl o ho))
  have := hM.sz
  omega
theorem encF_len {k : Nat} (hk : k < 14) (hM : MsgM w base cs li l) : (encF cs li l k).length ≤ 34359738368 := by
  have num : ∀ o, o ∈ iOffs → (encI (numAt cs o)).length ≤ 34359738368 := fun o ho => by have := encI_len (hM.I o ho); omega
  have hz := hM.sz
  have : k = 0 ∨ k = 1 ∨ k = 2 ∨ k = 3 ∨ k = 4 ∨ k = 5 ∨ k = 6 ∨ k = 7 ∨ k = 8 ∨ k = 9 ∨ k = 10 ∨ k = 11 ∨ k = 12 ∨ k = 13 := by omega
  rcases this with rfl | rfl | rfl | rfl | rfl | rfl | rfl | rfl | rfl | rfl | rfl | rfl | rfl | rfl
  · exact num _ (by decide)
  · exact num _ (by decide)
  · exact num _ (by decide)
  · exact num _ (by decide)
  · exact num _ (by decide)
  · exact num _ (by decide)
  · exact num _ (by decide)
  · have := encT_len (strAt cs 5) (by omega)
    show (encT (strAt cs 5)).length ≤ _
    omega
  · exact num _ (by decide)
  · exact Nat.le_trans (part_len hM (by decide) (by decide) (by decide) (by simp only [totL, lOffs, List.map_cons, List.map_nil, List.sum_cons, List.sum_nil]; omega)) (by decide)
  · show (encNs cs [13, 14, 15] ++ encI (numAt cs 16)).length ≤ _
    rw [List.length_append]
    have h4 := encNs_len (cs := cs) (ns := [13, 14, 15]) (fun o ho => hM.I o (by revert o; decide))
    have h5 := encI_len (hM.I 16 (by decide))
    simp only [List.length_cons, List.length_nil] at h4
    omega
  · exact Nat.le_trans (part_len hM (by decide) (by decide) (by decide) (by simp only [totL, lOffs, List.map_cons, List.map_nil, List.sum_cons, List.sum_nil]; omega)) (by decide)
  · exact Nat.le_trans (part_len hM (by decide) (by decide) (by decide) (by simp only [totL, lOffs, List.map_cons, List.map_nil, List.sum_cons, List.sum_nil]; omega)) (by decide)
  · have h1 := encG_len hM
    have h2 := encT_len ⟨(encG cs l).toArray⟩ (by show (List.toArray _).size < _; rw [List.size_toArray]; omega)
    have e : (ByteArray.mk (encG cs l).toArray).size = (encG cs l).length := by show (List.toArray _).size = _; rw [List.size_toArray]
    rw [e] at h2
    show (encT ⟨(encG cs l).toArray⟩).length ≤ _
    omega
end
end Go.Proofs.Ytpbgelhjbfckcaa
/- Encode walked. -/
namespace Go.Proofs.Ytpbgelhjbfckcaa
open Go.ChangeMaps Go.ChangeShapes Go.WideShapes Go.ChangeAt Go.RowKit
open Go.Maps (Keyed IsMap)
set_option maxRecDepth 100000
set_option linter.unusedVariables false
set_option linter.unusedSimpArgs false

theorem run_field0 (fw fr fz fo : FuncId) (cw cr cz co : Array Value) (W : World) : (Instr.field 101 (.agg #[.func (.func fw) #[] cw, .func (.func fr) #[] cr, .func (.func fz) #[] cz, .func (.func fo) #[] co]) 0).run Try.prog W = .ok (.func (.func fw) #[] cw) W := by kernel_rfl
theorem msg_sizeE {cs : List Value} (h : cs.length = 47) : (Try.prog.info? 41).map (·.size) = some cs.length := by rw [h]; kernel_rfl
/-- The encoding of a message. -/
def encB (cs : List Value) (li : Nat → List Int) (l : List En) : List UInt8 := enc (numAt cs 0).toNat ++ ((usedIx cs).getD []).flatMap (encF cs li l)
def encP (cs : List Value) (li : Nat → List Int) (l : List En) : ByteArray := if validP cs (li 33) then ⟨(encB cs li l).toArray⟩ else ⟨#[]⟩
set_option maxHeartbeats 8000000 in
theorem encode_c (cs : List Value) (li : Nat → List Int) (l : List En) (w : World) (hM : MsgM w w.heap.size cs li l) : Calls Try.prog 22 #[.agg cs.toArray] w fun e w' => e = .returned (.string (encP cs li l)) ∧ Below w.heap.size w w' := by
  obtain ⟨kd, h0⟩ := hM.T.ints 0 (by decide)
  have hb0 := hM.T.kind kd h0
  have hn0 := numAt_eq h0
  have hwf : (Lit.int .i64 kd).wf = true := by
    have := hb0.1; have := hb0.2
    simp [Lit.wf, IntKind.min, IntKind.max, IntKind.signed, IntKind.bits]; omega
  have HM := hide hM
  have H0 := hide h0
  have HCL : Hid (cs.length = 47) := hide hM.T.len
  have HO := hide (Own.nil w [] (by simp))
  clear hM h0 hb0
  go_enter Try.func22, Try.ntmps22
  go_wp2_with (first
    | ((with_reducible refine at_box 41 (.tmp 0) ?_); refine wpList_box_own HO.out rfl 41 (.tmp 0) rfl cs rfl ?_; intro WA b hO; replace HO := hide hO; clear hO; have k0 : WA.cell? ⟨b, 0, none⟩ = some (.int .i64 kd) := (HO.out.cells 0 rfl 0).trans H0.out)
    | ((with_reducible refine at_load 41 (.tmp 1) ?_); refine wpList_load_own HO.out rfl 41 (.tmp 1) rfl 0 _ 0 47 _ _ cs _ rfl (by show List.take 47 cs = cs; rw [List.take_of_length_le (by rw [HCL.out]; exact Nat.le_refl _)]) rfl Try.underlying41 rfl (msg_sizeE HCL.out) ?_))
  refine (valid_c cs (li 33) _ HM.out.T (((HM.out.below HO.out.below).S 33 (by decide)).mono HO.out.below.size)).mono ?_
  rintro e w1 ⟨rfl, hb1⟩
  replace HO := hide (HO.out.step hb1)
  clear hb1 k0
  have k0 : w1.cell? ⟨b, 0, none⟩ = some (.int .i64 kd) := (HO.out.cells 0 rfl 0).trans H0.out
  cases hval : validP cs (li 33) with
  | false =>
    have HV : Hid (encP cs li l = ⟨#[]⟩) := hide (by unfold encP; rw [hval]; rfl)
    clear hval hwf hn0
    go_wp2_with fail
    go_ret
    exact ⟨by rw [HV.out]; rfl, HO.out.below⟩
  | true =>
    have HV : Hid (encP cs li l = ⟨(encB cs li l).toArray⟩) := hide (by unfold encP; rw [hval]; rfl)
    have hU : ∃ ix, usedIx cs = some ix := by
      unfold validP at hval
      cases h : usedIx cs with
      | none => rw [h] at hval; cases hval
      | some ix => exact ⟨ix, rfl⟩
    clear hval
    go_wp2_with fail
    refine (uses_c kd hwf _).mono ?_
    rintro e w2 ⟨hb2, hr⟩
    replace HO := hide (HO.out.step hb2)
    clear hb2 k0 hwf
    rcases hr with ⟨hk, rfl⟩ | ⟨ll, g, hul, hk0, hk1, rfl, hbg, hgn⟩
    · exfalso
      obtain ⟨ix, hix⟩ := hU
      unfold usedIx at hix
      rw [hn0] at hix
      split at hix
      · rw [List.getElem?_eq_none] at hix
        · cases hix
        · show 12 ≤ _
          omega
      · cases hix
    · obtain ⟨ix, hix, rfl, hlt14, hnd⟩ := useList_get hul
      have hn14 : ix.length ≤ 14 := useIdx_len ix (List.mem_of_getElem? hix)
      have HU : Hid (encB cs li l = enc kd.toNat ++ ix.flatMap (encF cs li l)) := hide (by unfold encB usedIx; rw [hn0, if_pos hk0, hix]; rfl)
      have HG := hide hbg
      have HX14 := hide hlt14
      have k0 : w2.cell? ⟨b, 0, none⟩ = some (.int .i64 kd) := (HO.out.cells 0 rfl 0).trans H0.out
      obtain ⟨kn, rfl⟩ : ∃ kn : Nat, kd = kn := ⟨kd.toNat, by omega⟩
      have hk12 : kn < 12 := by omega
      unfold useVal
      obtain ⟨n, hn⟩ : ∃ n, (ix.map fname).length = n := ⟨_, rfl⟩
      rw [hn]
      replace hn14 : n ≤ 14 := by rw [← hn, List.length_map]; exact hn14
      have HN : Hid (n = ix.length) := hide (by rw [← hn, List.length_map])
      clear hn hix hul hk0 hk1 hbg hgn hlt14 hnd hn0 hU
      go_wp2_with fail
      refine (fields_c b _).mono ?_
      rintro e w3 ⟨bm, mb, M, L, rfl, hL, htab, hbm⟩
      have hB := (HO.out.has (b, 41, cs) (by simp))
      have HF : Hid (FB w3 w3.heap.size L b bm cs) := hide ⟨fun e he => ⟨(hL.has e he).1.lt, (hL.has e he).1⟩, hbm, (hB.1.step hL.below).lt, hB.1.step hL.below⟩
      have HMM : Hid (MsgM w3 w3.heap.size cs li l) := hide ((HM.out.below (below_trans HO.out.below (hL.below.mono HO.out.below.size))).mono (Nat.le_trans HO.out.below.size hL.below.size))
      have HBL : Hid (Below w.heap.size w w3) := hide (below_trans HO.out.below (hL.below.mono HO.out.below.size))
      have HNM : Hid (Blk w3 g 9 (strCells (ix.map fname)).toArray) := hide (HG.out.step hL.below)
      have HTB : Hid (w3.ownsMap Try.prog 9 RV mb M.length (mkM M) ∧ DOk (mkM M) L b bm []) := hide ⟨htab.1, htab.dok⟩
      have k0 : w3.cell? ⟨b, 0, none⟩ = some (.int .i64 kn) := (HF.out.cell 0).trans H0.out
      clear hL htab hbm hB HO HG HM
      go_wp2_with fail
      refine (appendNumber_c w3.heap.size (.slice none 0 0) [] kn (by omega) w3 (Ow.nil _ _) (by decide) (Nat.le_refl _)).mono ?_
      rintro e w4 ha
      obtain ⟨v4, rfl, ho4, hb4, hs4⟩ := ha.app (Ow.nil _ _) (Nat.le_refl _)
      have HEL : Hid ((enc kn).length ≤ 9) := hide (enc_len kn (by omega))
      have HO4 := hide ho4
      have HB4 := hide hb4
      have HS4 := hide hs4
      clear ha ho4 hb4 hs4 k0
      go_wp2_with fail
      go_loopw [6, 25] (fun v6 v25 wr => ∃ j : Nat, v25 = .int .i64 j ∧ j ≤ n ∧ Ow wr w3.heap.size v6 (enc kn ++ (ix.take j).flatMap (encF cs li l)) ∧ Below w3.heap.size w3 wr) (fun _ v25 _ => n - (intOf v25).toNat)
      case atStart => exact ⟨0, rfl, Nat.zero_le _, by simpa using HO4.out, HB4.out⟩
      case round =>
        obtain ⟨j, rfl, hj, how, hbl⟩ := hrel
        clear HO4 HB4 HS4
        have HBB := hide hbl
        obtain ⟨A6, n6, c6, rfl, _, _, _⟩ := how.formN
        have HOW := hide how
        by_cases hlt : j < n
        · have hjl : j < ix.length := by rw [← HN.out]; exact hlt
          obtain ⟨k, hk⟩ : ∃ k, ix[j] = k := ⟨_, rfl⟩
          have hk14 : k < 14 := HX14.out k (hk ▸ List.getElem_mem hjl)
          have HFL : Hid ((ix.take (j + 1)).flatMap (encF cs li l) = (ix.take j).flatMap (encF cs li l) ++ encF cs li l k) := hide (by rw [← hk]; exact flat_snoc (encF cs li l) ix j hjl)
          have HPL : Hid (((ix.take j).flatMap (encF cs li l)).length ≤ 34359738368 * 14) := hide (by
            have h1 : ∀ (ks : List Nat), (∀ k ∈ ks, k < 14) → (ks.flatMap (encF cs li l)).length ≤ 34359738368 * ks.length := by
              intro ks hks
              induction ks with
              | nil => simp
              | cons x r ih =>
                rw [List.flatMap_cons, List.length_append, List.length_cons]
                have h1 := encF_len (hks x (by simp)) HMM.out
                have h2 := ih (fun y hy => hks y (by simp [hy]))
                omega
            have h2 := h1 (ix.take j) (fun k hk => HX14.out k (List.mem_of_mem_take hk))
            rw [List.length_take] at h2
            have := HN.out
            omega)
          have hname : wr.cell? ⟨g, j, none⟩ = some (.string (fname k)) := by
            rw [(HNM.out.below hbl HNM.out.lt).cell j]
            simp [strCells, hjl, hk]
          obtain ⟨hh, v, hat, hf⟩ := HTB.out.2.1 k hk14 (by simp)
          obtain ⟨fw, fr, fz, fo, cw, cr, cz, co, rfl, hent0, hwr⟩ := field_w hk14 hf HF.out HMM.out
          have hfd := run_field0 fw fr fz fo cw.toArray cr.toArray cz.toArray co.toArray
          have HAT : Hid (∀ z, (mkM M).atKey (flit k) z = .held (.agg #[.func (.func fw) #[] cw.toArray, .func (.func fr) #[] cr.toArray, .func (.func fz) #[] cz.toArray, .func (.func fo) #[] co.toArray])) := hide hat
          have HMP := hide (HTB.out.1.kept (grown_of_below hbl none) (by simp))
          have HWR := hide (hwr wr hbl)
          have hent := fun (W : World) => hent0 (Value.slice A6 n6 c6 :: cw).toArray W
          have HK14 := hide hk14
          have HLT := hide hlt
          have hji : (j : Int) < (n : Int) := by omega
          clear how hbl hlt hjl hk hk14 hh hat hf hwr hent0 hj
          go_wp2_with ((with_reducible refine at_lookup_ 96 (.tmp 29) (.tmp 30) false ?_); refine wpList_lookup_held rfl (.tmp 29) (.tmp 30) 96 rfl 9 101 keyed_str Try.underlying96 (zero_field _) mb M.length (mkM M) rfl HMP.out (.string (fname k)) (.agg #[.func (.func fw) #[] cw.toArray, .func (.func fr) #[] cr.toArray, .func (.func fz) #[] cz.toArray, .func (.func fo) #[] co.toArray]) (flit k) rfl (key_name k HK14.out) HAT.out ?_)
          have hw := HWR.out (.slice A6 n6 c6) _ HOW.out HBB.out.size (by rw [List.length_append]; have := HEL.out; have := HPL.out; omega)
          rw [show #[Value.slice A6 n6 c6] ++ cw.toArray = (Value.slice A6 n6 c6 :: cw).toArray by simp] at hw
          refine hw.mono ?_
          rintro e w5 ⟨v5, rfl, ho5, hb5, hs5⟩
          have HO5 := hide ho5
          have HB5 := hide hb5
          clear hw ho5 hb5 hs5 hname hent hfd
          go_wp2_with fail
          go_roundw
          case rel => exact ⟨j + 1, by go_num, HLT.out, by rw [HFL.out, ← List.append_assoc]; exact HO5.out, below_trans HBB.out HB5.out⟩
          case measure => have := HLT.out; simp [intOf]; omega
        · obtain rfl : j = n := by omega
          have HV2 : Hid (encP cs li l = ⟨(enc kn ++ ix.flatMap (encF cs li l)).toArray⟩) := hide (by rw [HV.out, HU.out]; rfl)
          have HOW2 : Hid (Ow wr w3.heap.size (.slice A6 n6 c6) (enc kn ++ ix.flatMap (encF cs li l))) := hide (by rw [HN.out, List.take_length] at how; exact how)
          have hst := run_string_bs HOW2.out.bs
          clear how hbl hlt hj
          go_wp2_with fail
          go_ret
          exact ⟨by rw [HV2.out]; rfl, below_trans HBL.out (HBB.out.mono HBL.out.size)⟩
end Go.Proofs.Ytpbgelhjbfckcaa
/- Package wire in plain Lean: what a reader finds. -/
namespace Go.Proofs.Ytpbgelhjbfckcaa
set_option linter.unusedVariables false

/-- A number at the beginning of bytes, and what is left. -/
def parseN (l : List UInt8) : Option (Nat × List UInt8) :=
  match l with
  | [] => none
  | h :: t => if 8 < h.toNat ∨ t.length < h.toNat ∨ (0 < h.toNat ∧ t.headD 1 = 0) then none else some (num (t.take h.toNat), t.drop h.toNat)

theorem blen_div (n k : Nat) : blen (n / 256 ^ k) = blen n - k := by
  induction k with
  | zero => simp
  | succ k ih =>
    rw [Nat.pow_succ, ← Nat.div_div_eq_div_mul]
    by_cases h : n / 256 ^ k = 0
    · have := (blen_iff n k).1 h
      rw [h, Nat.zero_div, blen_zero]; omega
    · have := blen_pos h
      omega
theorem top_pos (n : Nat) (h : n ≠ 0) : 0 < n / 256 ^ (blen n - 1) ∧ n / 256 ^ (blen n - 1) < 256 := by
  have hp := blen_pos h
  have h1 := blen_div n (blen n - 1)
  constructor
  · rcases Nat.eq_zero_or_pos (n / 256 ^ (blen n - 1)) with h0 | h0
    · rw [h0, blen_zero] at h1; omega
    · exact h0
  · have h2 := blen_div n (blen n)
    have h3 : n / 256 ^ blen n = 0 := Nat.div_eq_of_lt (lt_blen n)
    have h4 : blen n = (blen n - 1) + 1 := by omega
    rw [h4, Nat.pow_succ, ← Nat.div_div_eq_div_mul] at h3
    have := Nat.div_eq_zero_iff.1 h3
    omega
theorem u8_zero (k : Nat) (h : k < 256) (h0 : 0 < k) : UInt8.ofNat k ≠ 0 := by
  intro e
  have := congrArg UInt8.toNat e
  rw [UInt8.toNat_ofNat', Nat.mod_eq_of_lt h] at this
  simp at this
  omega
theorem enc_head (n : Nat) (hn : n < 2 ^ 64) : (UInt8.ofNat (blen n)).toNat = blen n := by
  have := blen_le 8 n (by omega)
  rw [UInt8.toNat_ofNat', Nat.mod_eq_of_lt (by omega)]
theorem parseN_enc (n : Nat) (hn : n < 2 ^ 64) (t : List UInt8) : parseN (enc n ++ t) = some (n, t) := by
  have h8 := blen_le 8 n (by omega)
  have hh := enc_head n hn
  show parseN (UInt8.ofNat (blen n) :: (dig (blen n) n ++ t)) = _
  unfold parseN
  simp only
  rw [if_neg, hh]
  · rw [List.take_left' (dig_len _ _), List.drop_left' (dig_len _ _), num_enc]
  · rw [hh]
    rintro (h | h | ⟨h, h0⟩)
    · omega
    · rw [List.length_append, dig_len] at h; omega
    · obtain ⟨k, hk⟩ : ∃ k, blen n = k + 1 := ⟨blen n - 1, by omega⟩
      have hne : n ≠ 0 := by rintro rfl; rw [blen_zero] at h; omega
      have htp := top_pos n hne
      rw [hk] at h0 htp
      rw [dig_succ, List.cons_append, List.headD_cons, Nat.mod_eq_of_lt (by simpa using htp.2)] at h0
      exact u8_zero _ htp.2 htp.1 h0
theorem blen_num (x : UInt8) (l : List UInt8) (h : x ≠ 0) : blen (num (x :: l)) = l.length + 1 := by
  have hx : 0 < x.toNat := by
    rcases Nat.eq_zero_or_pos x.toNat with h0 | h0
    · exfalso; apply h; apply UInt8.toNat_inj.1; simpa using h0
    · exact h0
  have h1 := num_cons x l
  have h2 := num_lt (x :: l)
  have h3 := blen_le (l.length + 1) _ (by simpa using h2)
  have h4 : ¬ blen (num (x :: l)) ≤ l.length := by
    rw [← blen_iff]
    intro e
    have hp : 0 < 256 ^ l.length := Nat.pow_pos (by omega)
    have := (Nat.div_eq_zero_iff.1 e)
    have h5 : 1 * 256 ^ l.length ≤ x.toNat * 256 ^ l.length := Nat.mul_le_mul_right _ hx
    omega
  omega
theorem dig_num (l : List UInt8) (n : Nat) (h : n % 256 ^ l.length = num l) : dig l.length n = l := by
  induction l generalizing n with
  | nil => rfl
  | cons x l ih =>
    rw [List.length_cons] at h ⊢
    have hp : 0 < 256 ^ l.length := Nat.pow_pos (by omega)
    have h1 := num_cons x l
    have h2 := num_lt l
    have h3 : n % (256 ^ l.length * 256) = n % 256 ^ l.length + 256 ^ l.length * (n / 256 ^ l.length % 256) := Nat.mod_mul
    rw [Nat.pow_succ, h3, h1] at h
    have h4 : n % 256 ^ l.length < 256 ^ l.length := Nat.mod_lt _ hp
    have e1 : n % 256 ^ l.length = num l := by
      have := congrArg (· % 256 ^ l.length) h
      simp only [Nat.add_mul_mod_self_left] at this
      rw [Nat.mul_comm x.toNat, Nat.mul_add_mod, Nat.mod_mod, Nat.mod_eq_of_lt h2] at this
      exact this
    have e2 : n / 256 ^ l.length % 256 = x.toNat := by
      rw [e1, Nat.mul_comm x.toNat] at h
      have : 256 ^ l.length * (n / 256 ^ l.length % 256) = 256 ^ l.length * x.toNat := by omega
      exact Nat.eq_of_mul_eq_mul_left hp this
    rw [dig_succ, ih n e1, e2]
    congr 1
    exact UInt8.ofNat_toNat
/-- What is found has the bytes as its encoding. -/
theorem parseN_some {l t : List UInt8} {n : Nat} (h : parseN l = some (n, t)) : enc n ++ t = l ∧ n < 2 ^ 64 := by
  unfold parseN at h
  split at h
  · cases h
  · rename_i x r
    split at h
    · cases h
    · rename_i hc
      injection h with h
      injection h with h1 h2
      have hc1 : ¬ 8 < x.toNat := fun e => hc (.inl e)
      have hc2 : ¬ r.length < x.toNat := fun e => hc (.inr (.inl e))
      have hl : (r.take x.toNat).length = x.toNat := by rw [List.length_take]; omega
      have hb : blen n = x.toNat := by
        cases hr : r.take x.toNat with
        | nil =>
          rw [hr] at h1 hl
          rw [← h1, ← hl]; exact blen_zero
        | cons y s =>
          rw [hr] at h1 hl
          have hy : y ≠ 0 := by
            intro e
            apply hc
            refine .inr (.inr ⟨by rw [← hl]; simp, ?_⟩)
            cases r with
            | nil => simp at hr
            | cons z r' =>
              have : x.toNat = x.toNat - 1 + 1 := by rw [← hl]; simp
              rw [this, List.take_succ_cons] at hr
              injection hr with hz _
              rw [List.headD_cons, hz, e]
          rw [← h1, blen_num y s hy, ← hl]; simp
      have hlt := num_lt (r.take x.toNat)
      rw [hl, h1] at hlt
      have hp : (256 : Nat) ^ x.toNat ≤ 256 ^ 8 := Nat.pow_le_pow_right (by omega) (by omega)
      refine ⟨?_, by omega⟩
      have hd := dig_num (r.take x.toNat) n (by rw [hl, Nat.mod_eq_of_lt hlt, h1])
      rw [hl] at hd
      unfold enc
      rw [hb, hd, ← h2, UInt8.ofNat_toNat, List.cons_append, List.take_append_drop]

/-- The state of a reader: what is left, the error. -/
abbrev RS := List UInt8 × Int
def bad (c : Int) : RS := ([], c)
def rNum (r : RS) : RS × Nat := if r.2 = 0 then (match parseN r.1 with | some (n, t) => ((t, 0), n) | none => (bad 11, 0)) else (r, 0)
/-- The integer of a number. -/
def zag (n : Nat) : Int := if n % 2 = 0 then (n / 2 : Nat) else -((n / 2 : Nat) : Int) - 1
def rInt (r : RS) : RS × Int := ((rNum r).1, zag (rNum r).2)
def rBool (r : RS) : RS × Bool := if r.2 = 0 then (match r.1 with | [] => (bad 11, false) | h :: t => if 1 < h.toNat then (bad 11, false) else ((t, 0), h.toNat == 1)) else (r, false)
def rText (r : RS) : RS × List UInt8 := if r.2 = 0 then (match parseN r.1 with | some (n, t) => if t.length < n then (bad 11, []) else ((t.drop n, 0), t.take n) | none => (bad 11, [])) else (r, [])
def rCount (most : Int) (r : RS) : RS × Nat := if r.2 = 0 then (match parseN r.1 with | some (n, t) => if most < (n : Int) then (bad 8, 0) else ((t, 0), n) | none => (bad 11, 0)) else (r, 0)
def rEnd (r : RS) : Int := if r.2 = 0 ∧ 0 < r.1.length then 11 else r.2
end Go.Proofs.Ytpbgelhjbfckcaa
/- A reader in memory: take, number. -/
namespace Go.Proofs.Ytpbgelhjbfckcaa
open Go.ChangeShapes Go.WideShapes Go.ChangeAt Go.RowKit
set_option linter.unusedVariables false

/-- Block b is a reader with the bytes l left, in block k if anywhere, and the error c. -/
def Rd (w : World) (b : Nat) (k : Option Nat) (l : List UInt8) (c : Int) : Prop :=
  ∃ v, Blk w b 140 #[v, .int .i64 c] ∧ Bs w v l ∧ (∀ j, v.ownBlock = some j → k = some j) ∧ k ≠ some b

theorem own_take (A : Option Addr) (n m c c' : Nat) : (Value.slice A n c).ownBlock = (Value.slice A m c').ownBlock := by cases A <;> rfl
theorem own_drop (A : Option Addr) (n m c c' k : Nat) (j : Nat) (h : (Value.slice (if c = k then A else A.map (·.add k)) n c').ownBlock = some j) : (Value.slice A m c).ownBlock = some j := by
  cases A with
  | none => split at h <;> cases h
  | some a =>
    split at h
    · exact h
    · simp only [Option.map_some, Value.ownBlock] at h ⊢
      unfold Addr.add at h
      split at h <;> exact h
theorem Rd.far {w w' : World} {b : Nat} {k : Option Nat} {l : List UInt8} {c : Int} {row : Option Nat} (h : Rd w b k l c) (hg : w.grownBy w' row) (h1 : row ≠ some b) (h2 : ∀ j, k = some j → row ≠ some j) : Rd w' b k l c := by
  obtain ⟨v, hB, hbs, hk, hne⟩ := h
  refine ⟨v, hB.grown hg (Ne.symm h1), hbs.grown hg ?_, hk, hne⟩
  cases hv : v.ownBlock with
  | none => exact .inl rfl
  | some j => right; exact fun e => h2 j (hk j hv) e.symm
theorem Rd.step {w w' : World} {b : Nat} {k : Option Nat} {l : List UInt8} {c : Int} (h : Rd w b k l c) (hg : Below w.heap.size w w') : Rd w' b k l c := h.far (grown_of_below hg none) (by simp) (by simp)
theorem Rd.alloc {w : World} {b : Nat} {k : Option Nat} {l : List UInt8} {c : Int} (h : Rd w b k l c) (o : Obj) : Rd (w.alloc o) b k l c := h.far (grown_alloc (grown_refl w none) o) (by simp) (by simp)
theorem Rd.drew {w : World} {b : Nat} {k : Option Nat} {l : List UInt8} {c : Int} (h : Rd w b k l c) : Rd w.drew b k l c := h
theorem Rd.lt {w : World} {b : Nat} {k : Option Nat} {l : List UInt8} {c : Int} (h : Rd w b k l c) : b < w.heap.size := by obtain ⟨v, hB, _⟩ := h; exact hB.lt

/-- What take does where there are enough bytes. -/
def Taken (w : World) (b : Nat) (k : Option Nat) (l : List UInt8) (c : Int) (n : Nat) (e : Ending) (w' : World) : Prop :=
  ∃ v, e = .returned (.tuple #[v, .bool true]) ∧ Bs w' v (l.take n) ∧ (∀ j, v.ownBlock = some j → k = some j) ∧ Rd w' b k (l.drop n) c ∧ w.grownBy w' (some b)

set_option maxHeartbeats 1000000 in
theorem take_yes (b : Nat) (k : Option Nat) (l : List UInt8) (c : Int) (n : Nat) (w : World) (h : Rd w b k l c) (hn : n ≤ l.length) (hl : l.length ≤ 140737488355328) :
    Calls Try.prog 93 #[.pointer (some ⟨b, 0, none⟩), .int .u64 n] w (Taken w b k l c n) := by
  obtain ⟨v, hB, hbs, hk, hne⟩ := h
  obtain ⟨A, cp, rfl, hc, hm⟩ := hbs.form
  have HT := hide (hbs.take hn)
  have HD := hide (hbs.drop hn)
  have HB := hide hB
  have HK : Hid (∀ j, (Value.slice A n cp).ownBlock = some j → k = some j) := hide fun j hj => hk j (by rw [own_take A _ n _ cp]; exact hj)
  have HO : Hid (∀ j, (Value.slice (if cp = n then A else A.map (·.add n)) (l.length - n) (cp - n)).ownBlock = some j → k = some j) := hide fun j hj => hk j (own_drop A _ _ _ _ n j hj)
  have HF : ∀ (v' : Value) (w' : World), w.grownBy w' (some b) → (∀ j, v'.ownBlock = some j → k = some j) → v'.ownBlock = none ∨ v'.ownBlock ≠ some b := by
    intro v' w' _ hj
    cases hv : v'.ownBlock with
    | none => exact .inl rfl
    | some j => right; intro e; injection e with e; exact hne (by rw [hj j hv, e])
  have HF := hide HF
  have c0 := hB.cell 0
  have f0 := hB.froz 0
  simp only [List.getElem?_toArray, List.getElem?_cons_zero] at c0
  have hx : ¬ ((l.length : Int) < (n : Int)) := by omega
  clear hbs hB hk
  generalize l.length = m at *
  by_cases hcn : cp = n
  · obtain rfl : m = n := by omega
    subst hcn
    rw [if_pos rfl, Nat.sub_self] at HD HO
    go_enter Try.func93, Try.ntmps93
    go_wp2_with fail
    go_ret2
    have hg := grown_set (grown_refl w (some b)) 0 (Value.slice A 0 0)
    exact ⟨_, rfl, HT.out.grown hg (HF.out _ _ hg HK.out), HK.out, ⟨_, HB.out.put 0 _, HD.out.grown hg (HF.out _ _ hg HO.out), HO.out, hne⟩, hg⟩
  · rw [if_neg hcn] at HD HO
    go_enter Try.func93, Try.ntmps93
    go_wp2_with fail
    go_ret2
    have hg := grown_set (grown_refl w (some b)) 0 (Value.slice (A.map (·.add n)) (m - n) (cp - n))
    exact ⟨_, rfl, HT.out.grown hg (HF.out _ _ hg HK.out), HK.out, ⟨_, HB.out.put 0 _, HD.out.grown hg (HF.out _ _ hg HO.out), HO.out, hne⟩, hg⟩

set_option maxHeartbeats 1000000 in
theorem take_no (b : Nat) (k : Option Nat) (l : List UInt8) (c : Int) (n : Nat) (w : World) (h : Rd w b k l c) (hn : l.length < n) (hl : l.length ≤ 140737488355328) :
    Calls Try.prog 93 #[.pointer (some ⟨b, 0, none⟩), .int .u64 n] w fun e w' => e = .returned (.tuple #[.slice none 0 0, .bool false]) ∧ w = w' := by
  obtain ⟨v, hB, hbs, hk, hne⟩ := h
  obtain ⟨A, cp, rfl, hc, hm⟩ := hbs.form
  have c0 := hB.cell 0
  simp only [List.getElem?_toArray, List.getElem?_cons_zero] at c0
  have hx : ((l.length : Int) < (n : Int)) := by omega
  clear hbs hB hk
  generalize l.length = m at *
  go_enter Try.func93, Try.ntmps93
  go_wp2_with fail
  go_ret2
  exact ⟨rfl, rfl⟩
theorem takeZ_yes (b : Nat) (k : Option Nat) (l : List UInt8) (c : Int) (n : Nat) (z : Int) (hz : z = (n : Int)) (w : World) (h : Rd w b k l c) (hn : n ≤ l.length) (hl : l.length ≤ 140737488355328) :
    Calls Try.prog 93 #[.pointer (some ⟨b, 0, none⟩), .int .u64 z] w (Taken w b k l c n) := by
  subst hz; exact take_yes b k l c n w h hn hl
theorem takeZ_no (b : Nat) (k : Option Nat) (l : List UInt8) (c : Int) (n : Nat) (z : Int) (hz : z = (n : Int)) (w : World) (h : Rd w b k l c) (hn : l.length < n) (hl : l.length ≤ 140737488355328) :
    Calls Try.prog 93 #[.pointer (some ⟨b, 0, none⟩), .int .u64 z] w fun e w' => e = .returned (.tuple #[.slice none 0 0, .bool false]) ∧ w = w' := by
  subst hz; exact take_no b k l c n w h hn hl
end Go.Proofs.Ytpbgelhjbfckcaa
