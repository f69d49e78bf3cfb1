/- The chapter's example. -/
import Derived.Test.YtpadgkkeihhneaaGreatC40
import Derived.Test.YtpadgkkeihhneaaGreatC43
namespace Go.Proofs.YtpadgkkeihhneaaGreat
set_option maxRecDepth 100000
set_option linter.unusedSimpArgs false
set_option linter.unusedVariables false
section
open Go.ChangeShapes Go.WideShapes Go.ChangeAt Go.RowKit
set_option maxRecDepth 100000 in
set_option maxHeartbeats 4000000 in
theorem awake_c (w : World) : Calls Tryz.prog 7 #[] w fun e w' => e = .returned (.bool true) ∧ Below w.heap.size w w' := by
 go_enter Tryz.func7, Tryz.ntmps7
 go_wp2_with fail
 refine (new_z 20 (by decide) (by decide) w w (Below.refl _ _)).mono ?_
 rintro e w1 ⟨d, rfl, hz⟩
 have HZ := hide hz
 clear hz
 go_wp2_with fail
 refine (open_z HZ.out).mono ?_
 rintro e w2 ⟨g, rfl, hz, _⟩
 replace HZ := hide hz
 clear hz
 go_wp2_with fail
 refine (save_z HZ.out [97] _ rfl (by decide) (by decide) (by decide)).mono ?_
 rintro e w3 ⟨rfl, hz, _⟩
 replace HZ := hide hz
 clear hz
 go_wp2_with fail
 refine (append_z HZ.out [98] _ rfl (by decide) (by decide) (by decide) (by decide)).mono ?_
 rintro e w4 ⟨rfl, hz, _⟩
 replace HZ := hide hz.dk
 clear hz
 go_wp2_with fail
 refine (crash_z HZ.out).mono ?_
 rintro e w5 ⟨rfl, hz, _⟩
 replace HZ := hide hz
 clear hz
 go_wp2_with fail
 refine (open_z HZ.out).mono ?_
 rintro e w6 ⟨g2, rfl, hz, _⟩
 replace HZ := hide hz
 clear hz
 go_wp2_with fail
 refine (state_z HZ.out).mono ?_
 rintro e w7 ⟨he, rfl⟩
 replace he : e = .returned (.string ⟨#[97]⟩) := he
 subst he
 go_wp2_with fail
 refine (records_z HZ.out).mono ?_
 rintro e w7 ⟨v, rfl, hs, _, hb⟩
 obtain ⟨A, n, c, rfl, hn, _, _⟩ := hs.formN
 obtain rfl : n = 1 := hn.out
 replace HZ := hide (HZ.out.step hb)
 clear hs hb hn
 go_wp2_with fail
 refine (records_z HZ.out).mono ?_
 rintro e w8 ⟨v, rfl, hs, _, hb⟩
 obtain ⟨A2, n, c2, rfl, hn, _, _⟩ := hs.formN
 obtain rfl : n = 1 := hn.out
 obtain ⟨b, off, rfl, _, hc⟩ := hs.at_ 0 (by show 0 < 1; omega)
 replace hc : w8.cell? ⟨b, off, none⟩ = some (.string ⟨#[98]⟩) := hc
 replace HZ := hide (HZ.out.step hb)
 clear hs hb hn
 go_wp2_with fail
 refine (turn_z HZ.out).mono ?_
 rintro e w9 ⟨he, rfl⟩
 replace he : e = .returned (.int .i64 1) := he
 subst he
 go_wp2_with fail
 refine (pages_fn 97 (by decide) _).mono ?_
 rintro e w9 ⟨he, rfl⟩
 replace he : e = .returned (.int .i64 2) := he
 subst he
 go_wp2_with fail
 go_ret
 exact ⟨rfl, HZ.out.below⟩
end
section
open Go.ChangeShapes Go.WideShapes Go.ChangeAt Go.RowKit
/-- The cells of the operation at i. -/
theorem pop_cells {w w' : World} {gl ol n c : Nat} {l : List POp} {i : Nat} (h : PopsIn w (.slice (some ⟨gl, ol, none⟩) n c) l) (hi : i < l.length) (x : POp) (hx : l[i]? = some x) {As : Option Addr} {ms cs : Nat} (hsv : x.sv = .slice As ms cs) (hb : ∀ a : Addr, a.block = gl → w'.cell? a = w.cell? a) :
 w'.cell? ⟨gl, ol + i * 5, none⟩ = some (.int .i64 x.kind) ∧ w'.cell? ⟨gl, ol + i * 5 + 1, none⟩ = some (.int .i64 x.n) ∧ w'.cell? ⟨gl, ol + i * 5 + 2, none⟩ = some (.int .i64 x.m) ∧ w'.cell? ⟨gl, ol + i * 5 + 3, none⟩ = some (.int .u8 x.fill) ∧ w'.cell? ⟨gl, ol + i * 5 + 4, none⟩ = some (.slice As ms cs) := by
 obtain ⟨g, o, e, hg, hok, hc⟩ := h.at_ i hi
 obtain ⟨rfl, rfl⟩ : gl = g ∧ ol = o := by injection e with e; injection e with e1 e2; exact ⟨e1, e2⟩
 have hxe : l[i] = x := by rw [List.getElem?_eq_getElem hi] at hx; injection hx
 rw [hxe] at hc
 unfold POp.cells at hc
 rw [hsv] at hc
 exact ⟨(hb _ rfl).trans (hc 0 (by decide)), (hb _ rfl).trans (hc 1 (by decide)), (hb _ rfl).trans (hc 2 (by decide)), (hb _ rfl).trans (hc 3 (by decide)), (hb _ rfl).trans (hc 4 (by decide))⟩
/-- A World of the law just made, at a block of its own. -/
theorem Ww.below {w0 W0 W : World} {X : List Nat} {x d g : Nat} {D : DS} {J : JS} (h : Ww w0 W0 X x d g W D J) : Below w0.heap.size w0 W := by obtain ⟨A, n, c, B, m, b, Ar, nr, cr, hO, hZ⟩ := h; exact hO.below
theorem Zs.cells9 {P : World → List Nat → Prop} {w0 W0 W : World} {X M : List Nat} {vc : List Value} {D : DS} {J : JS} (h : Zs P w0 W0 X M W (.agg vc.toArray) D J) : ∃ A n c B m b Ar nr cr, vc = rjc A n c B m b D.fuse D.failed J.turn (sv J.state) (.slice Ar nr cr) J.used J.broken := by
 obtain ⟨A, n, c, B, m, b, q, hv, Ar, nr, cr, rfl, _⟩ := h.form
 refine ⟨A, n, c, B, m, b, Ar, nr, cr, ?_⟩
 injection hv with hv
 exact List.toArray_inj hv
/-- Between two rounds. -/
def CallsR (W : World) (x : Nat) (l : List POp) (v7 : Value) (w : World) : Prop := ∃ (i d g : Nat) (D : DS) (J : JS), v7 = .int .i64 i ∧ i ≤ l.length ∧ Ww W W [] x d g w D J ∧ Kept i D J
set_option maxHeartbeats 8000000 in
theorem walkJournalCalls (W : World) (a0 : Int) (ws0 : (Lit.int .u8 a0).wf = true) (v1 : Value) (l : List POp) (h1 : PopsIn W v1 l) :
 Calls Tryz.prog 4 #[.int .u8 a0, v1] W fun e w' => e = .returned (.bool true) ∧ Below W.heap.size W w' := by
 have ⟨q0, q1⟩ : 0 ≤ a0 ∧ a0 ≤ 255 := by simpa [Lit.wf, IntKind.min, IntKind.max, IntKind.signed, IntKind.bits] using ws0
 have e20 : a0.tmod 20 = a0 % 20 := Int.tmod_eq_emod_of_nonneg q0
 obtain ⟨n, hn⟩ : ∃ n : Nat, 8 + a0 % 20 = n := ⟨(8 + a0 % 20).toNat, by omega⟩
 have hn8 : 8 ≤ n := by omega
 have hn28 : n ≤ 28 := by omega
 have hm : a0 % 20 = (n : Int) - 8 := by omega
 rw [hm] at e20
 have hnz : (8 : Int) ≤ (n : Int) := by omega
 have hnz2 : (n : Int) ≤ 28 := by omega
 obtain ⟨Al, nl, cl, rfl, hnl, hnc, hcm⟩ := h1.form
 have H := hide h1
 have HFW := hide (fun (X : World) (k : Below W.heap.size W X) => fewP_c _ l 20 X (h1.step k))
 have HN8 := hide hn8
 have HN28 := hide hn28
 clear ws0 q0 q1 hn hn8 hn28 hm h1
 by_cases hf : fewP l 20 = true
 case neg =>
  have hf' : fewP l 20 = false := by simpa using hf
  rw [hf'] at HFW
  clear hf hf'
  go_enter Tryz.func4, Tryz.ntmps4
  go_wp2_with fail
  refine (awake_c _).mono ?_
  rintro e w1 ⟨rfl, hb1⟩
  go_wp2_with fail
  refine (HFW.out w1 hb1).mono ?_
  rintro e w2 ⟨rfl, rfl⟩
  go_wp2_with fail
  go_ret
  exact ⟨rfl, hb1⟩
 have HL := hide (fewP_len (k := 20) hf)
 rw [hf] at HFW
 clear hf
 go_enter Tryz.func4, Tryz.ntmps4
 go_wp2_with fail
 refine (awake_c _).mono ?_
 rintro e w1 ⟨rfl, hb1⟩
 have HB1 := hide hb1
 clear hb1
 go_wp2_with fail
 refine (HFW.out w1 HB1.out).mono ?_
 rintro e w2 ⟨rfl, rfl⟩
 clear HFW
 go_wp2_with fail
 rw [show (8 + ((n : Int) - 8)) = (n : Int) by omega]
 refine (start_c W W [] [] [] n HN8.out (by have := HN28.out; omega) w1 ((Own.nil W [] (by simp)).step HB1.out) (by simp) (by simp) (by simp) ((Away.refl [] W).next (Touch.below HB1.out []) (by simp) (by simp))).mono ?_
 rintro e w2 ⟨d, g, vc, rfl, hO, hZ⟩
 obtain ⟨A, m, c, B, mb, bb, Ar, nr, cr, rfl⟩ := hZ.cells9
 have HO := hide hO
 have HZ := hide hZ
 clear hO hZ
 unfold wcs rjc
 unfold rjc at HZ
 generalize (dNew n).fuse = fz at HZ ⊢
 generalize (dNew n).failed = fl at HZ ⊢
 generalize (js0.turn : Int) = zt at HZ ⊢
 generalize js0.state = st at HZ ⊢
 generalize (js0.used : Int) = zu at HZ ⊢
 generalize js0.broken = br at HZ ⊢
 go_wp2_with (first
  | ((with_reducible refine at_alloc 55 ?_); refine wpList_alloc_own_n HO.out rfl 55 rfl zlw world_info ?_; intro WA x hb hO hbel; replace HZ := hide (HZ.out.push (keeps_jn g d (dNew n) js0) hb hbel (hO.blk 0 rfl).lt); replace HO := hide hO; clear hO hbel hb)
  | ((with_reducible refine at_store 55 (.tmp 5) ?_); refine wpList_store_own_t HO.out rfl 55 (.tmp 5) (.tmp 19) rfl 0 _ 0 _ _ ([.pointer (some ⟨d, 0, none⟩), .pointer (some ⟨g, 0, none⟩), .slice A m c, .slice B mb bb, .int .i64 fz, .bool fl, .int .i64 zt, sv st, .slice Ar nr cr, .int .i64 zu, .bool br]) ([.pointer (some ⟨d, 0, none⟩), .pointer (some ⟨g, 0, none⟩), .slice A m c, .slice B mb bb, .int .i64 fz, .bool fl, .int .i64 zt, sv st, .slice Ar nr cr, .int .i64 zu, .bool br]) rfl (.agg ([.pointer (some ⟨d, 0, none⟩), .pointer (some ⟨g, 0, none⟩), .slice A m c, .slice B mb bb, .int .i64 fz, .bool fl, .int .i64 zt, sv st, .slice Ar nr cr, .int .i64 zu, .bool br] : List Value).toArray) rfl rfl (fits_agg _) (by simp [zlw]) (splice_all rfl) (by kernel_rfl) rfl ?_; intro WA hO _ ht; replace HZ := hide (HZ.out.put (keeps_jn g d (dNew n) js0) (by simp) ht); replace HO := hide hO; clear hO ht))
 have HW : Hid (Ww W W [] x d g WA (dNew n) js0) := hide (Ww.of (vc := [.slice A m c, .slice B mb bb, .int .i64 fz, .bool fl, .int .i64 zt, sv st, .slice Ar nr cr, .int .i64 zu, .bool br]) HO.out HZ.out)
 have HK : Hid (Kept 0 (dNew n) js0) := hide (Kept.opened (live_new n HN8.out (by have := HN28.out; omega)) rfl (jOpen_good (dNew_good n HN8.out (by have := HN28.out; omega))) 0)
 clear HO HZ
 refine (wsame_c W W [] x d g (dNew n) js0 _ HW.out HK.out.sound (HK.out.jok (by omega))).mono ?_
 rintro e w3 ⟨rfl, hw⟩
 replace HW := hide hw
 clear hw
 go_wp2_with fail
 go_loopw [7] (fun v7 wr => CallsR W x l v7 wr) (fun v7 _ => nl - (intOf v7).toNat)
 case atStart => exact ⟨0, d, g, _, _, rfl, Nat.zero_le _, HW.out, HK.out⟩
 case round =>
  obtain ⟨i, d1, g1, D, J, rfl, hi, hw, hk⟩ := hrel
  clear HW HK
  have HW := hide hw
  have HK := hide hk
  clear hw hk
  by_cases hlt : i < nl
  ·have hil : i < l.length := by rw [← hnl.out]; exact hlt
   obtain ⟨gl, ol, rfl, hgl, hok, hcx⟩ := H.out.at_ i hil
   obtain ⟨o, hxs⟩ : ∃ o, l[i]? = some o := ⟨_, List.getElem?_eq_getElem hil⟩
   have hox : l[i] = o := by rw [List.getElem?_eq_getElem hil] at hxs; injection hxs
   clear hcx
   rw [hox] at hok
   have HOK := hide hok
   obtain ⟨As, ms, cs, hsv, hx1, hx2, hx3⟩ := hok.surv.formN
   obtain ⟨c0, c1, c2, c3, c4⟩ := pop_cells (w' := wr) H.out hil o hxs hsv (fun a ha => HW.out.below.cell (p := a) (by rw [ha]; exact hgl))
   have HI20 : Hid (i ≤ 200) := hide (by have := HL.out; omega)
   have HKN := hide (HK.out.wstep HI20.out o HOK.out).1
   have HST := hide (wstep_c W W [] x d1 g1 D J o wr HW.out HK.out.sound (HK.out.jok HI20.out) HOK.out)
   have HLT := hide hlt
   have hki : (i : Int) < (nl : Int) := by omega
   unfold POp.cells at HST
   rw [hsv] at HST
   clear hok hxs hox hsv hgl hlt hil hx1 hx2 hx3
   go_wp2_with fail
   refine HST.out.mono ?_
   rintro e w4 ⟨rfl, g2, hw⟩
   replace HW := hide hw
   clear hw HST c0 c1 c2 c3 c4
   go_wp2_with fail
   refine (wsame_c W W [] x d1 g2 _ _ _ HW.out HKN.out.sound (HKN.out.jok (by have := HI20.out; have := HL.out; omega))).mono ?_
   rintro e w5 ⟨rfl, hw⟩
   replace HW := hide hw
   clear hw
   go_wp2_with fail
   refine (wbytes_c W W [] x d1 g2 _ _ _ HW.out HKN.out.sound).mono ?_
   rintro e w6 ⟨rfl, hw⟩
   replace HW := hide hw
   clear hw
   go_wp2_with fail
   go_roundw
   case rel => exact ⟨i + 1, d1, g2, _, _, by go_num, by have := HLT.out; have := hnl.out; omega, HW.out, HKN.out⟩
   case measure => have := HLT.out; simp [intOf]; omega
  ·obtain rfl : i = nl := by have := hnl.out; omega
   clear hlt
   go_wp2_with fail
   go_ret
   exact ⟨rfl, HW.out.below⟩
end
section
open Go.ChangeShapes Go.WideShapes Go.ChangeAt Go.RowKit
theorem open_pop1 {H : Type} {enc : TypeId × Value → H} {W : World} {r : Reach} {b0 : Nat} {v : Value} {d : DataW H} {p : List MemPlace}
 (hv : Value.okWide Tryz.prog W r b0 42 v) (h : DataW.Trod enc Tryz.prog W 0 (fun _ => true) true 42 v d p) : ∃ x : POp, v = .agg x.cells.toArray ∧ x.Ok W := by
 obtain ⟨fuel, hf⟩ := h
 obtain ⟨x, hx, hok⟩ := open_pop hf
 refine ⟨x, ?_, hok⟩
 cases v with
 | agg cs =>
  have : cs.toList = x.cells := hx
  rw [← this]
 | _ =>
  have h1 := congrArg List.length hx
  simp [Value.cells, POp.cells] at h1
theorem open_is1 {H : Type} {enc : TypeId × Value → H} {W : World} {r : Reach} {b0 : Nat} {v : Value} {d : DataW H} {p : List MemPlace}
 (hv : Value.okWide Tryz.prog W r b0 40 v) (h : DataW.Trod enc Tryz.prog W 0 (fun _ => true) true 40 v d p) : ∃ l, Is W v l := by
 obtain ⟨a, n, c, rfl⟩ := okWide_slice Tryz.underlying40 hv
 obtain ⟨fuel, hf⟩ := h
 obtain ⟨u, l, e, hl⟩ := open_is hf
 have e2 : Value.slice a n c = u := by
  have : [Value.slice a n c] = [u] := e
  injection this
 exact ⟨l, e2 ▸ hl⟩
end
end Go.Proofs.YtpadgkkeihhneaaGreat
