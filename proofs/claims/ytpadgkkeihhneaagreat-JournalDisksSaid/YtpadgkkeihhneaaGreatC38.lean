/- The reference's Coincides. -/
import Derived.Test.YtpadgkkeihhneaaGreatC31
import Derived.Test.YtpadgkkeihhneaaGreatC35
import Derived.Test.YtpadgkkeihhneaaGreatC24
import Derived.Test.YtpadgkkeihhneaaGreatC15
namespace Go.Proofs.YtpadgkkeihhneaaGreat
set_option maxRecDepth 100000
set_option linter.unusedSimpArgs false
set_option linter.unusedVariables false
section
open Go.ChangeShapes Go.WideShapes Go.ChangeAt Go.RowKit
def zwr : List Value := [.int .i64 0, .slice none 0 0]
theorem rwr_info : (Tryz.prog.info? 84).map (·.zero) = some (some (.agg zwr.toArray)) := by kernel_rfl
theorem rwr_size : (Tryz.prog.info? 84).map (·.size) = some 2 := by kernel_rfl
theorem torn_same (D : DS) (s : List Int) (x : Nat × List UInt8) (h : content (dCrash D s) x.1 = x.2 ∨ content (dCrash D s) x.1 = D.pages.getD x.1 []) : torn D s x = false := by
 unfold torn
 rcases h with h | h
 ·rw [h]; simp
 ·rw [h]; simp
theorem torn_else (D : DS) (s : List Int) (x : Nat × List UInt8) (h1 : content (dCrash D s) x.1 ≠ x.2) (h2 : content (dCrash D s) x.1 ≠ D.pages.getD x.1 []) : torn D s x = (prtOk (content (dCrash D s) x.1) || decide (x.1 < 2) && decide (0 < hdrOf x.1 (content (dCrash D s) x.1))) := by
 unfold torn
 have e1 : (content (dCrash D s) x.1 == x.2) = false := by simpa using h1
 have e2 : (content (dCrash D s) x.1 == D.pages.getD x.1 []) = false := by simpa using h2
 rw [e1, e2]
 simp
theorem coin_of {D : DS} {s : List Int} {k : Nat} {x : Nat × List UInt8} (hx : D.pend[k]? = some x) (h : torn D s x = true) : coin D s = true := List.any_eq_true.2 ⟨x, List.mem_of_getElem? hx, h⟩
theorem coin_none_of {D : DS} {s : List Int} (h : ∀ (k : Nat) (x : Nat × List UInt8), D.pend[k]? = some x → torn D s x = false) : coin D s = false := by
 unfold coin
 rw [List.any_eq_false]
 intro x hx
 obtain ⟨k, hk⟩ := List.getElem?_of_mem hx
 rw [h k x hk]
 simp
set_option maxHeartbeats 16000000 in
theorem rcoin_c (F : List Nat) (v : Value) (D : DS) (s : Value) (l : List Int) (w : World) (h0 : Rf w F v D) (hl : Is w s l) (hpl : D.pend.length ≤ 60000) (hpg : D.pages.length ≤ 5000) (h8 : 8 ≤ D.pages.length) :
 Calls Tryz.prog 24 #[v, s] w fun e w' => e = .returned (.bool (coin D l)) ∧ Below w.heap.size w w' := by
 have h : Rf w [] v D := h0.lessR (by simp)
 have HCR := hide (fun (X : World) (k : Below w.heap.size w X) => crash_r [] v D s l X (h.step k) (hl.step k) (by simp) (by omega) (by omega))
 obtain ⟨As, ms, cs, rfl, _, _, _⟩ := hl.formN
 obtain ⟨A, n, c, B, m, b, vs, xs, rfl, hk⟩ := h.form
 have H := hide hk
 have hmlen : D.pend.length = m := by have := hk.pend.2; rcases this with ⟨e, h0⟩ | ⟨g, cap, cur, e, _⟩ <;> (injection e with e1 e2 e3; omega)
 have hnlen : D.pages.length = n := by have := hk.dur.2; rcases this with ⟨e, h0⟩ | ⟨g, cap, cur, e, _⟩ <;> (injection e with e1 e2 e3; omega)
 have HML := hide hmlen
 have HNL := hide hnlen
 have m9 : m ≤ 60000 := by omega
 have n9 : n ≤ 5000 := by omega
 have hok := dCrash_ok hk.ok l
 have hcl : (dCrash D l).pages.length = D.pages.length := settle_len _ _ _ _
 have HCO : Hid (∀ p, p < n → (content (dCrash D l) p).length = 128) := hide (fun p hp => content_ok hok p (by omega))
 have HRD : Hid (∀ (rv5 : Value) (M : List Nat) (p : Nat) (X : World), p < n → Rf X M rv5 (dCrash D l) → Calls Tryz.prog 51 #[rv5, .int .i64 (p : Int)] X (RGot X (content (dCrash D l) p, 0))) := hide (fun rv5 M p X hp hr => by
  have := rread_c M rv5 (dCrash D l) (p : Int) X hr (Nat.zero_le _) (by omega)
  rwa [dRead_ok rfl p (by omega)] at this)
 -- what a pending write and its page look like
 have HPD : Hid (∀ k, k < m → ∃ (g2 g1 px : Nat) (dt : List UInt8) (A2 : Option Addr) (m2 c2 : Nat) (A3 : Option Addr) (m3 c3 : Nat), B = some ⟨g2, 0, none⟩ ∧ A = some ⟨g1, 0, none⟩ ∧ D.pend[k]? = some (px, dt) ∧ px < n ∧
  w.cell? ⟨g2, k * 2, none⟩ = some (.int .i64 px) ∧ w.cell? ⟨g2, k * 2 + 1, none⟩ = some (.slice A2 m2 c2) ∧ Bs w (.slice A2 m2 c2) dt ∧ w.cell? ⟨g1, px, none⟩ = some (.slice A3 m3 c3) ∧ Bs w (.slice A3 m3 c3) (D.pages.getD px []) ∧ dt.length = 128 ∧ (D.pages.getD px []).length = 128) := hide (fun k hkm => by
  have hlt : k < D.pend.length := by omega
  have hpe := hk.pend
  rw [hmlen] at hpe
  have hde := hk.dur
  rw [hnlen] at hde
  obtain ⟨g2, hB, hg2, hcells⟩ := hpe.head (by omega)
  have hlx := hk.pds.len
  obtain ⟨⟨px, vx⟩, hx⟩ : ∃ x, xs[k]? = some x := ⟨_, List.getElem?_eq_getElem (by omega)⟩
  have c0 := (hcells (k * 2) (by omega)).1
  have c1' := (hcells (k * 2 + 1) (by omega)).1
  rw [(pc_at xs k _ hx).1] at c0
  rw [(pc_at xs k _ hx).2] at c1'
  obtain ⟨hpx, hvx, hvA⟩ := hk.pds.at_ k _ _ hx (List.getElem?_eq_getElem hlt)
  obtain ⟨A2, m2, c2, rfl⟩ := hvx.form2
  have hop := hk.ok.pend _ (List.getElem_mem hlt)
  dsimp only at hpx hvx c0 c1'
  obtain ⟨g1, hA, hg1, hcl1⟩ := hde.head (by omega)
  have hvs := hk.pgs.len
  have hpn : px < D.pages.length := by rw [hpx]; exact hop.1
  have d0 := (hcl1 px (by omega)).1
  obtain ⟨v0, hv0⟩ : ∃ v0, vs[px]? = some v0 := ⟨_, List.getElem?_eq_getElem (by omega)⟩
  rw [hv0] at d0
  have hv0b := (hk.pgs.at_ px v0 _ hv0 (List.getElem?_eq_getElem hpn)).1
  obtain ⟨A3, m3, c3, rfl⟩ := hv0b.form2
  have hgd : D.pages.getD px [] = D.pages[px] := by rw [List.getD_eq_getElem?_getD, List.getElem?_eq_getElem hpn]; rfl
  refine ⟨g2, g1, px, (D.pend[k]).2, A2, m2, c2, A3, m3, c3, hB, hA, ?_, by omega, c0, c1', hvx, d0, by rw [hgd]; exact hv0b, hop.2, by rw [hgd]; exact hk.ok.pages _ (List.getElem_mem _)⟩
  rw [List.getElem?_eq_getElem hlt, hpx])
 clear h0 h hl hpl hpg h8 hk hmlen hnlen hok hcl H
 unfold rv at HCR ⊢
 generalize D.fuse = fz at *
 generalize D.failed = fl at HCR ⊢
 have HO := hide (Own.nil w [] (by simp))
 go_enter Tryz.func24, Tryz.ntmps24
 go_wp2_with (first
  | ((with_reducible refine at_box 32 (.tmp 0) ?_); refine wpList_box_own HO.out rfl 32 (.tmp 0) rfl ([.slice A n c, .slice B m b, .int .i64 fz, .bool fl]) rfl ?_; intro WA b2 hO; replace HO := hide hO; clear hO)
  | ((with_reducible refine at_load 32 (.tmp 2) ?_); refine wpList_load_own HO.out rfl 32 (.tmp 2) rfl 0 _ 0 4 _ _ ([.slice A n c, .slice B m b, .int .i64 fz, .bool fl]) _ rfl (take_all rfl) rfl Tryz.underlying32 rfl rdisk_size ?_))
 refine (HCR.out _ HO.out.below).mono ?_
 rintro e w5 ⟨v5, rfl, hr5, hb5⟩
 obtain ⟨A5, n5, c5, B5, m5, b5v, vs5, xs5, rfl, hk5⟩ := hr5.form
 have HR5 := hide hr5
 replace HO := hide (HO.out.step hb5)
 clear hr5 hb5 hk5 HCR
 unfold rv at HR5 ⊢
 generalize (dCrash D l).fuse = fz5 at HR5 ⊢
 generalize (dCrash D l).failed = fl5 at HR5 ⊢
 go_wp2_with (first
 | ((with_reducible refine at_alloc 32 ?_); refine wpList_alloc_own_n HO.out rfl 32 rfl zdk rdk_info ?_; intro WA b5 hb hO hbel; have HRA : Hid (Rf WA [b5] _ _) := hide (HR5.out.touch (Touch.below hbel []) (fun j hj => by simp at hj; omega)); replace HO := hide hO; clear hO hbel hb)
 | ((with_reducible refine at_store 32 (.tmp 5) ?_); refine wpList_store_own_t HO.out rfl 32 (.tmp 5) (.tmp 15) rfl 1 _ 0 _ _ ([.slice A5 n5 c5, .slice B5 m5 b5v, .int .i64 fz5, .bool fl5]) ([.slice A5 n5 c5, .slice B5 m5 b5v, .int .i64 fz5, .bool fl5]) rfl (.agg ([.slice A5 n5 c5, .slice B5 m5 b5v, .int .i64 fz5, .bool fl5] : List Value).toArray) rfl rfl (fits_agg _) (by simp [zdk]) (splice_all rfl) rdisk_size rfl ?_; intro WA hO _ ht; replace HRA := hide (HRA.out.touch ht (fun j hj => .inl hj)); replace HO := hide hO; clear hO ht))
 have HRZ : Hid (b5 < _) := hide (HO.out.blk 1 rfl).lt
 go_loopw [6] (fun v6 wr => ∃ k : Nat, v6 = .int .i64 k ∧ k ≤ m ∧ (∀ i x, i < k → D.pend[i]? = some x → torn D l x = false) ∧ Own w [] [(b2, 32, [.slice A n c, .slice B m b, .int .i64 fz, .bool fl]), (b5, 32, [.slice A5 n5 c5, .slice B5 m5 b5v, .int .i64 fz5, .bool fl5])] wr ∧ Rf wr [b5] (.agg ([.slice A5 n5 c5, .slice B5 m5 b5v, .int .i64 fz5, .bool fl5] : List Value).toArray) (dCrash D l)) (fun v6 _ => m - (intOf v6).toNat)
 case atStart => exact ⟨0, rfl, Nat.zero_le _, fun i x hi => by omega, HO.out, HRA.out⟩
 case round =>
  clear HO HRA HRZ HR5
  obtain ⟨k, rfl, hkm, hno, hO, hra⟩ := hrel
  have HO := hide hO
  have HRA := hide hra
  have HNO := hide hno
  clear hO hra hno
  have k2 := HO.out.cells 0 rfl
  have HCN : Hid (∀ x, D.pend[k]? = some x → torn D l x = false → ∀ i y, i < k + 1 → D.pend[i]? = some y → torn D l y = false) := hide (fun x hx ht i y hi hy => by
   rcases Nat.lt_or_ge i k with h1 | h1
   ·exact HNO.out i y h1 hy
   ·obtain rfl : i = k := by omega
    rw [hx] at hy
    cases hy
    exact ht)
  by_cases hlt : k < m
  ·obtain ⟨g2, g1, px, dt, A2, m2, c2, A3, m3, c3, rfl, rfl, hpk, hpn, e0, e1, e2, e3, e4, e5, e6⟩ := HPD.out k hlt
   have c0 : wr.cell? ⟨g2, k * 2, none⟩ = some (.int .i64 px) := (HO.out.below.cell (World.block_lt_of_cell? w _ e0)).trans e0
   have c1 : wr.cell? ⟨g2, k * 2 + 1, none⟩ = some (.slice A2 m2 c2) := (HO.out.below.cell (World.block_lt_of_cell? w _ e1)).trans e1
   have HPK := hide hpk
   have HPN := hide hpn
   have HE := hide (And.intro e3 (And.intro e2 e4))
   have HB2 : Hid (∀ W, Below w.heap.size w W → Bs W (.slice A2 m2 c2) dt) := hide (fun W hW => e2.step hW)
   have HB3 : Hid (∀ W, Below w.heap.size w W → Bs W (.slice A3 m3 c3) (D.pages.getD px [])) := hide (fun W hW => e4.step hW)
   have HC3 : Hid (∀ W, Below w.heap.size w W → W.cell? ⟨g1, px, none⟩ = some (.slice A3 m3 c3)) := hide (fun W hW => (hW.cell (World.block_lt_of_cell? w _ e3)).trans e3)
   have pn : (px : Int) < (n : Int) := by omega
   clear e0 e1 e2 e3 e4 e5 e6 hpk
   go_wp2_with (first
 | ((with_reducible refine at_alloc 84 ?_); refine wpList_alloc_own_n HO.out rfl 84 rfl zwr rwr_info ?_; intro WA b7 hb hO hbel; replace HRA : Hid (Rf WA [b5, b7] _ _) := hide (HRA.out.touch (Touch.below hbel [b5]) (fun j hj => by simp only [List.mem_cons, List.not_mem_nil, or_false] at hj ⊢; omega)); replace HO := hide hO; clear hO hbel hb)
 | ((with_reducible refine at_store 84 (.tmp 7) ?_); refine wpList_store_own_t HO.out rfl 84 (.tmp 7) (.tmp 27) rfl 2 _ 0 _ _ ([.int .i64 px, .slice A2 m2 c2]) ([.int .i64 px, .slice A2 m2 c2]) rfl (.agg ([.int .i64 px, .slice A2 m2 c2] : List Value).toArray) rfl rfl (fits_agg _) (by simp [zwr]) (splice_all rfl) rwr_size rfl ?_; intro WA hO _ ht; replace HRA := hide (HRA.out.touch (ht.mono (by simp)) (fun j hj => .inl hj)); replace HO := hide hO; clear hO ht; have k7 := HO.out.cells 2 rfl)
 | ((with_reducible refine at_load 32 (.tmp 5) ?_); refine wpList_load_own HO.out rfl 32 (.tmp 5) rfl 1 _ 0 4 _ _ ([.slice A5 n5 c5, .slice B5 m5 b5v, .int .i64 fz5, .bool fl5]) _ rfl (take_all rfl) rfl Tryz.underlying32 rfl rdisk_size ?_))
   refine (HRD.out _ _ px _ HPN.out HRA.out).mono ?_
   rintro e w6 ⟨v6, rfl, ho6, hb6⟩
   obtain ⟨A6, m6, c6, rfl, _, _, _⟩ := ho6.formN
   have H6 := hide ho6
   replace HO := hide (HO.out.step hb6)
   replace HRA := hide (HRA.out.step hb6)
   clear ho6 hb6 k2 c0 c1
   have k2 := HO.out.cells 0 rfl
   have k7 := HO.out.cells 2 rfl
   have cc3 := HC3.out _ HO.out.below
   have s6 := run_string_bs H6.out.bs
   have s2 := run_string_bs (HB2.out _ HO.out.below)
   have s3 := run_string_bs (HB3.out _ HO.out.below)
   have HL6 := HCO.out px HPN.out
   obtain ⟨cb, hcb⟩ : ∃ x, content (dCrash D l) px = x := ⟨_, rfl⟩
   obtain ⟨od, hod⟩ : ∃ x, D.pages.getD px [] = x := ⟨_, rfl⟩
   have HTS : Hid (cb = dt ∨ cb = od → torn D l (px, dt) = false) := hide (fun h => torn_same D l (px, dt) (by dsimp only; rw [hcb, hod]; exact h))
   have HTE : Hid (cb ≠ dt → cb ≠ od → torn D l (px, dt) = (prtOk cb || decide (px < 2) && decide (0 < hdrOf px cb))) := hide (fun h1 h2 => by rw [← hcb]; exact torn_else D l (px, dt) (by dsimp only; rw [hcb]; exact h1) (by dsimp only; rw [hcb, hod]; exact h2))
   rw [hcb] at H6 s6 HL6
   rw [hod] at s3
   have HLC := hide HL6
   clear HL6 hcb hod
   have HBO := hide (run_string_bs H6.out.bs)
   have hcond : (cb == dt || cb == od) = true ∨ cb ≠ dt ∧ cb ≠ od := by
    by_cases q1 : cb = dt
    ·exact .inl (by simp [q1])
    by_cases q2 : cb = od
    ·exact .inl (by simp [q2])
    exact .inr ⟨q1, q2⟩
   cases q1 : (cb == dt) with
   | true =>
    have HF1 := hide (HTS.out (.inl (by simpa using q1)))
    go_wp2_with fail
    replace HO := hide (HO.out.sub (M := [(b2, 32, [.slice (some ⟨g1, 0, none⟩) n c, .slice (some ⟨g2, 0, none⟩) m b, .int .i64 fz, .bool fl]), (b5, 32, [.slice A5 n5 c5, .slice B5 m5 b5v, .int .i64 fz5, .bool fl5])]) (by simp))
    go_roundw
    case rel => exact ⟨k + 1, by go_num, by omega, HCN.out _ HPK.out HF1.out, HO.out, HRA.out.lessR (by simp)⟩
    case measure => (simp [intOf]; omega)
   | false =>
    cases q2 : (cb == od) with
    | true =>
     have HF1 := hide (HTS.out (.inr (by simpa using q2)))
     go_wp2_with fail
     replace HO := hide (HO.out.sub (M := [(b2, 32, [.slice (some ⟨g1, 0, none⟩) n c, .slice (some ⟨g2, 0, none⟩) m b, .int .i64 fz, .bool fl]), (b5, 32, [.slice A5 n5 c5, .slice B5 m5 b5v, .int .i64 fz5, .bool fl5])]) (by simp))
     go_roundw
     case rel => exact ⟨k + 1, by go_num, by omega, HCN.out _ HPK.out HF1.out, HO.out, HRA.out.lessR (by simp)⟩
     case measure => (simp [intOf]; omega)
    | false =>
     have HE2 := hide (HTE.out (by simpa using q1) (by simpa using q2))
     go_wp2_with fail
     refine (rread33_c _ _ (by rw [HLC.out]; omega) _ H6.out.bs (fun j hj => (H6.out.lt j hj).2)).mono ?_
     rintro e w7 ⟨⟨yt, yi, yp, yq, ys⟩, rfl, hy, hb7⟩
     replace HO := hide (HO.out.step hb7)
     replace HRA := hide (HRA.out.step hb7)
     have HB7 := hide hb7
     have H7 := hide (H6.out.step hb7)
     have hlt7 : ∀ j, (Value.slice A6 m6 c6).ownBlock = some j → j < w7.heap.size := fun j hj => (H7.out.lt j hj).2
     have HL7 := hide hlt7
     clear hy hb7 k2 k7 cc3 s6 s2 s3 HBO hlt7
     unfold pv
     dsimp only
     obtain ⟨n0, hn0⟩ : ∃ z : Int, (yt : Int) = z := ⟨_, rfl⟩
     obtain ⟨n1, hn1⟩ : ∃ z : Int, (yi : Int) = z := ⟨_, rfl⟩
     obtain ⟨n2, hn2⟩ : ∃ z : Int, (yp : Int) = z := ⟨_, rfl⟩
     obtain ⟨n3, hn3⟩ : ∃ z : Int, (yq : Int) = z := ⟨_, rfl⟩
     rw [hn0, hn1, hn2, hn3]
     clear hn0 hn1 hn2 hn3
     cases hok : prtOk cb with
     | true =>
      have HT := hide (show torn D l (px, dt) = true by rw [HE2.out, hok]; rfl)
      clear hok
      go_wp2_with (first
 | ((with_reducible refine at_alloc 99 ?_); refine wpList_alloc_own HO.out rfl 99 rfl (zpartC) rpart_info ?_; intro WA b11 hO; replace HO := hide hO; clear hO)
 | ((with_reducible refine at_store 99 (.tmp 11) ?_); refine wpList_store_own HO.out rfl 99 (.tmp 11) (.tmp 57) rfl 3 _ 0 _ _ ([.int .i64 n0, .int .i64 n1, .int .i64 n2, .int .i64 n3, sv ys]) ([.int .i64 n0, .int .i64 n1, .int .i64 n2, .int .i64 n3, sv ys]) rfl (.agg ([.int .i64 n0, .int .i64 n1, .int .i64 n2, .int .i64 n3, sv ys]).toArray) rfl rfl (fits_agg _) (by simp [zpartC]) (splice_all rfl) rpart_size rfl ?_; intro WA hO; replace HO := hide hO; clear hO; have k7 := HO.out.cells 2 rfl))
      go_ret
      refine ⟨congrArg (fun b => Ending.returned (.bool b)) (?_ : true = coin D l), HO.out.below⟩
      exact (coin_of HPK.out HT.out).symm
     | false =>
      have HT := hide (show torn D l (px, dt) = (decide (px < 2) && decide (0 < hdrOf px cb)) by rw [HE2.out, hok]; rfl)
      clear hok
      by_cases hp2 : px < 2
      ·have hdp : decide ((px : Int) < 2) = true := by simp; omega
       have HTU : Hid (∀ X : World, Below w6.heap.size w6 X → Calls Tryz.prog 64 #[.slice A6 m6 c6, .int .i64 (px : Int)] X fun e w' => e = .returned (.int .i64 (hdrOf px cb : Nat)) ∧ Below X.heap.size X w') := hide (fun X hX => rturn_c _ cb px (by rw [HLC.out]; omega) X (H6.out.bs.step hX) (fun j hj => Nat.lt_of_lt_of_le (H6.out.lt j hj).2 hX.size))
       have HO7 := HO
       go_wp2_with (first
 | ((with_reducible refine at_alloc 99 ?_); refine wpList_alloc_own_n HO.out rfl 99 rfl zpartC rpart_info ?_; intro WA b11 hb hO hbel; have HOBA := hide hbel; have HB11 := hide hb; replace HO := hide hO; clear hO hbel hb)
 | ((with_reducible refine at_store 99 (.tmp 11) ?_); refine wpList_store_own_t HO.out rfl 99 (.tmp 11) (.tmp 57) rfl 3 _ 0 _ _ ([.int .i64 n0, .int .i64 n1, .int .i64 n2, .int .i64 n3, sv ys]) ([.int .i64 n0, .int .i64 n1, .int .i64 n2, .int .i64 n3, sv ys]) rfl (.agg ([.int .i64 n0, .int .i64 n1, .int .i64 n2, .int .i64 n3, sv ys] : List Value).toArray) rfl rfl (fits_agg _) (by simp [zpartC]) (splice_all rfl) rpart_size rfl ?_; intro WA hO _ ht; have HOB := hide (Below.touch HOBA.out ht (by simp; have := HB11.out; omega) HOBA.out.size); replace HO := hide hO; clear hO ht; have k7 := HO.out.cells 2 rfl))
       refine (HTU.out _ (HB7.out.trans (HOB.out.mono HB7.out.size))).mono ?_
       rintro e w8 ⟨rfl, hb8⟩
       replace HO := hide (HO.out.step hb8)
       replace HRA := hide (HRA.out.step (HOB.out.trans (hb8.mono HOB.out.size)))
       clear hb8
       obtain ⟨hz, hhz⟩ : ∃ z : Int, (hdrOf px cb : Int) = z := ⟨_, rfl⟩
       have HHZ := hide hhz
       rw [hhz]
       clear hhz
       by_cases hz0 : 0 < hz
       ·have HT2 : Hid (torn D l (px, dt) = true) := hide (by rw [HT.out]; simp; have := HHZ.out; omega)
        go_wp2_with fail
        go_ret
        refine ⟨congrArg (fun b => Ending.returned (.bool b)) (?_ : true = coin D l), HO.out.below⟩
        exact (coin_of HPK.out HT2.out).symm
       ·have HF1 : Hid (torn D l (px, dt) = false) := hide (by rw [HT.out]; simp; have := HHZ.out; omega)
        go_wp2_with fail
        replace HO := hide (HO.out.sub (M := [(b2, 32, [.slice (some ⟨g1, 0, none⟩) n c, .slice (some ⟨g2, 0, none⟩) m b, .int .i64 fz, .bool fl]), (b5, 32, [.slice A5 n5 c5, .slice B5 m5 b5v, .int .i64 fz5, .bool fl5])]) (by simp))
        go_roundw
        case rel => exact ⟨k + 1, by go_num, by omega, HCN.out _ HPK.out HF1.out, HO.out, HRA.out.lessR (by simp)⟩
        case measure => (simp [intOf]; omega)
      ·have hdp : decide ((px : Int) < 2) = false := by simp; omega
       have HF1 : Hid (torn D l (px, dt) = false) := hide (by rw [HT.out]; simp; omega)
       go_wp2_with (first
 | ((with_reducible refine at_alloc 99 ?_); refine wpList_alloc_own_n HO.out rfl 99 rfl zpartC rpart_info ?_; intro WA b11 hb hO hbel; have HOBA := hide hbel; have HB11 := hide hb; replace HO := hide hO; clear hO hbel hb)
 | ((with_reducible refine at_store 99 (.tmp 11) ?_); refine wpList_store_own_t HO.out rfl 99 (.tmp 11) (.tmp 57) rfl 3 _ 0 _ _ ([.int .i64 n0, .int .i64 n1, .int .i64 n2, .int .i64 n3, sv ys]) ([.int .i64 n0, .int .i64 n1, .int .i64 n2, .int .i64 n3, sv ys]) rfl (.agg ([.int .i64 n0, .int .i64 n1, .int .i64 n2, .int .i64 n3, sv ys] : List Value).toArray) rfl rfl (fits_agg _) (by simp [zpartC]) (splice_all rfl) rpart_size rfl ?_; intro WA hO _ ht; have HOB := hide (Below.touch HOBA.out ht (by simp; have := HB11.out; omega) HOBA.out.size); replace HO := hide hO; clear hO ht; have k7 := HO.out.cells 2 rfl))
       replace HRA := hide (HRA.out.step HOB.out)
       replace HO := hide (HO.out.sub (M := [(b2, 32, [.slice (some ⟨g1, 0, none⟩) n c, .slice (some ⟨g2, 0, none⟩) m b, .int .i64 fz, .bool fl]), (b5, 32, [.slice A5 n5 c5, .slice B5 m5 b5v, .int .i64 fz5, .bool fl5])]) (by simp))
       go_roundw
       case rel => exact ⟨k + 1, by go_num, by omega, HCN.out _ HPK.out HF1.out, HO.out, HRA.out.lessR (by simp)⟩
       case measure => (simp [intOf]; omega)
  ·obtain rfl : k = m := by omega
   go_wp2_with fail
   go_ret
   refine ⟨congrArg (fun b => Ending.returned (.bool b)) (?_ : false = coin D l), HO.out.below⟩
   refine (coin_none_of fun i x hx => HNO.out i x ?_ hx).symm
   have := List.getElem?_eq_some_iff.1 hx
   obtain ⟨h1, _⟩ := this
   have := HML.out
   omega
end
section
open Go.ChangeShapes Go.WideShapes Go.ChangeAt Go.RowKit
abbrev Bk := List UInt8 × Nat
/-- Of the blocks below B at most the journal's own, but for its first cell, and the variable tx turn. -/
structure JK (B g : Nat) (X : List Nat) (w w' : World) : Prop where
 os : w'.os = w.os
 tape : w'.tape = w.tape
 output : w'.output = w.output
 size : w.heap.size ≤ w'.heap.size
 block : ∀ k, k < B → k ≠ g → k ∉ X → w'.heap[k]? = w.heap[k]?
 cell : ∀ v, w.cell? ⟨g, 0, none⟩ = some v → w'.cell? ⟨g, 0, none⟩ = some v
theorem JK.refl (B g : Nat) (X : List Nat) (w : World) : JK B g X w w := ⟨rfl, rfl, rfl, Nat.le_refl _, fun _ _ _ _ => rfl, fun _ h => h⟩
theorem JK.trans {B g : Nat} {X : List Nat} {a b c : World} (h : JK B g X a b) (k : JK B g X b c) : JK B g X a c :=
 ⟨k.os.trans h.os, k.tape.trans h.tape, k.output.trans h.output, Nat.le_trans h.size k.size, fun i hi h1 h2 => (k.block i hi h1 h2).trans (h.block i hi h1 h2), fun v hv => k.cell v (h.cell v hv)⟩
theorem JK.below {B g : Nat} {X : List Nat} {a b : World} (h : Below B a b) (hg : g < B) : JK B g X a b := ⟨h.os, h.tape, h.output, h.size, fun k hk _ _ => h.block k hk, fun v hv => (h.cell (p := ⟨g, 0, none⟩) hg).trans hv⟩
theorem Dk.keep {w w' : World} {d : Nat} {F : List Nat} {D : DS} {gv pv : Value} (h : Dk w d F D gv pv) (hs : w.heap.size ≤ w'.heap.size) (hb : ∀ j ∈ F, w'.heap[j]? = w.heap[j]?) : Dk w' d F D gv pv := by
 have hrow : ∀ {t : TypeId} {size n : Nat} {v : Value} {cs : List Value}, Row w t size v n cs → (∀ j, v.ownBlock = some j → j ∈ F) → Row w' t size v n cs := by
  intro t size n v cs h hv
  refine ⟨h.1, ?_⟩
  rcases h.2 with hn | ⟨g, cap, cur, rfl, hb0, hgg, rest⟩
  ·exact .inl hn
  ·exact .inr ⟨g, cap, cur, rfl, hb0, (hb g (hv g rfl)).trans hgg, rest⟩
 exact ⟨(hb d h.inF).trans h.blk, hrow h.pages fun j hj => (h.gF j hj).1, hrow h.pend fun j hj => (h.pF j hj).1, h.inF, h.gF, h.pF, fun j hj => Nat.lt_of_lt_of_le (h.lt j hj) hs, h.ok⟩
theorem JK.hd {B g d : Nat} {X : List Nat} {w w' : World} {F : List Nat} {D : DS} (k : JK B g X w w') (h : Hd w g d F D) (hB : ∀ j ∈ F, j < B ∧ j ≠ g ∧ j ∉ X) : Hd w' g d F D := by
 obtain ⟨hc, gv, pv, hd⟩ := h
 exact ⟨k.cell _ hc, gv, pv, hd.keep k.size (fun j hj => k.block j (hB j hj).1 (hB j hj).2.1 (hB j hj).2.2)⟩
theorem JK.box {B g b : Nat} {X : List Nat} {w w' : World} (k : JK B g X w w') (h1 : b < B) (h2 : b ≠ g) (h3 : b ∉ X) {v : Value} (h : w.cell? ⟨b, 0, none⟩ = some v) : w'.cell? ⟨b, 0, none⟩ = some v :=
 (World.cell?_of_block (k.block b h1 h2 h3)).trans h
theorem blks_none (D : DS) (t f i a : Nat) (h : blk D t i a = none) : blks D t f i a = [] := by
 cases f with
 | zero => rfl
 | succ f => unfold blks; rw [h]
theorem blks_some (D : DS) (t f i a : Nat) {s : List UInt8} {n : Nat} (hf : f + i = half D) (hia : i ≤ a) (h : blk D t i a = some (s, n)) : ∃ f', f = f' + 1 ∧ blks D t f i a = (s, a + n) :: blks D t f' (i + 1) (a + n) := by
 have := blk_pos h
 obtain ⟨f', rfl⟩ : ∃ f', f = f' + 1 := ⟨f - 1, by omega⟩
 refine ⟨f', rfl, ?_⟩
 conv => lhs; unfold blks
 rw [h]
set_option maxHeartbeats 8000000 in
theorem blk1_in (n : Nat) (hn : 1 ≤ n) (l bj bt be B g d : Nat) (X : List Nat) (Fd : List Nat) (D : DS) (t : Nat) (ht : t ≤ 1099511629000) (hs : D.Sz) (hf : D.failed = false) (J Jx : List Bk → World → Prop) (W : World) (hd : Hd W g d Fd D)
 (hB : ∀ j ∈ Fd, j < B ∧ j ≠ g ∧ j ∉ X) (hb1 : bj < B ∧ bj ≠ g ∧ bj ∉ X) (hb2 : bt < B ∧ bt ≠ g ∧ bt ∉ X) (hg : g < B) (hBW : B ≤ W.heap.size) (hc1 : W.cell? ⟨bj, 0, none⟩ = some (.pointer (some ⟨g, 0, none⟩))) (hc2 : W.cell? ⟨bt, 0, none⟩ = some (.int .i64 t))
 (hJ : AbidesFrom W.heap.size J)
 (hY : ∀ pre (x : Bk) W1, J pre W1 → pre.length < (blocks D t).length → YieldAt Fence.wide (n - 1) Tryz.prog l #[sv x.1, .int .i64 x.2] W1 fun e W' =>
  (e = .returned (.bool true) ∧ J (pre ++ [x]) W' ∧ JK B g X W1 W') ∨ (e = .returned (.bool false) ∧ Jx (pre ++ [x]) W'))
 (h0 : J [] W) :
 CallsIn Fence.wide n Tryz.prog 80 #[.func (.yield l) #[] #[], .pointer (some ⟨bj, 0, none⟩), .pointer (some ⟨bt, 0, none⟩), .pointer (some ⟨be, 0, none⟩)] W fun e W' => (∃ v, e = .returned v) ∧
  ((∃ xs : List Bk, xs = blocks D t ∧ J xs W') ∨ (∃ pre, True ∧ Jx pre W')) := by
 have HY := hide hY
 have HD0 := hide hd
 have HJ := hide hJ
 have H0 := hide h0
 have HT := hide ht
 have HS := hide hs
 have HF := hide hf
 have HC1 := hide hc1
 have HC2 := hide hc2
 have HBF := hide hB
 have HB1 := hide hb1
 have HB2 := hide hb2
 have HG := hide hg
 have HBW := hide hBW
 clear hY hd hJ h0 hs hf hc1 hc2 hB hb1 hb2 hg ht
 refine callsIn_of_wp Tryz.func80 rfl trivial ?_ rfl
 simp only [Tryz.ntmps80, List.size_toArray, List.length_cons, List.length_nil, Nat.reduceAdd, Nat.reduceSub, Array.replicate_succ, Array.replicate_zero, List.push_toArray, List.append_toArray, List.nil_append, List.cons_append]
 gi_wp2_with fail
 gi_loopw [5, 6] (fun v5 v6 wr => ∃ (i a f : Nat) (pre : List Bk), v5 = .int .i64 a ∧ v6 = .int .i64 i ∧ f + i = half D ∧ i ≤ a ∧ a ≤ half D ∧ pre ++ blks D t f i a = blocks D t ∧ J pre wr ∧ JK B g X W wr) (fun _ v6 _ => half D - (intOf v6).toNat)
 case atStart => exact ⟨0, 0, half D, [], rfl, rfl, rfl, by omega, by omega, rfl, H0.out, JK.refl _ _ _ _⟩
 case round =>
  obtain ⟨i, a, f, pre, rfl, rfl, hfi, hia, hah, hpre, hJr, hkr⟩ := hrel
  have HPRE := hide hpre
  have HJR := hide hJr
  have HKR := hide hkr
  have HH := hide (And.intro hfi (And.intro hia hah))
  have hh := half_le HS.out
  have k1 := hkr.box HB1.out.1 HB1.out.2.1 HB1.out.2.2 HC1.out
  have k2 := hkr.box HB2.out.1 HB2.out.2.1 HB2.out.2.2 HC2.out
  have HDR := hide (hkr.hd HD0.out HBF.out)
  have HBC := hide (block_c g d Fd D t i a HT.out (by omega) (by omega) wr HDR.out HS.out HF.out)
  have i0 : (i : Int) ≤ 1000000 := by omega
  have a0 : (a : Int) ≤ 1000000 := by omega
  clear hpre hJr hkr hfi hia hah hh
  gi_wp2_with fail
  refine ⟨trivial, ?_⟩
  refine (callsIn_wide.2 HBC.out).mono ?_
  rintro e w1 ⟨rfl, hb⟩
  have HJ1 : Hid (J pre w1) := hide (HJ.out pre wr w1 none HJR.out (grown_of_below hb none) (by simp))
  have HK1 : Hid (JK B g X W w1) := hide (HKR.out.trans (JK.below (hb.mono (Nat.le_trans HBW.out HKR.out.size)) HG.out))
  clear hb k1 k2 HBC HJR HKR HDR
  unfold blkV
  cases hbk : blk D t i a with
  | none =>
   have HXX : Hid (pre = blocks D t) := hide (by have := HPRE.out; rw [blks_none D t f i a hbk] at this; simpa using this)
   clear hbk
   gi_wp2_with fail
   refine ⟨fun _ h => (by cases h), ?_⟩
   gi_wp2_with fail
   refine bodyPost_ret (results_none rfl _ _ _) rfl ?_
   exact ⟨⟨_, rfl⟩, .inl ⟨pre, HXX.out, HJ1.out⟩⟩
  | some x =>
   obtain ⟨s, m⟩ := x
   obtain ⟨f', hff, hbs⟩ := blks_some D t f i a HH.out.1 HH.out.2.1 hbk
   have hpos := blk_pos hbk
   have HPN : Hid ((pre ++ [(s, a + m)]) ++ blks D t f' (i + 1) (a + m) = blocks D t) := hide (by rw [← HPRE.out, hbs]; simp)
   have hlen : pre.length < (blocks D t).length := by rw [← HPRE.out, hbs]; simp
   obtain ⟨fn, tmps, assign, body, hy, hR⟩ := HY.out pre (s, a + m) w1 HJ1.out hlen
   dsimp only at hy
   have HP := hide hpos
   have hm1 : 1 ≤ (m : Int) := by omega
   have hm2 : (a : Int) + m ≤ 1000000 := by have := half_le HS.out; omega
   have hcast : ((a + m : Nat) : Int) = (a : Int) + m := by omega
   rw [hcast] at hy
   have HFF := hide hff
   clear hbk hbs hpos hlen hff hcast
   have hmb : ((m : Int) == 0) = false := by simp; omega
   gi_wp2_with fail
   refine hR.mono ?_
   rintro e W4 (⟨rfl, hJ4, hk4⟩ | ⟨rfl, hJx4⟩)
   ·clear hy hR
    gi_wp2_with fail
    go_roundw
    case rel => exact ⟨i + 1, a + m, f', _, by congr 1, by go_num, by have := HH.out.1; have := HFF.out; omega, by have := HH.out.2.1; have := HP.out.1; omega, HP.out.2, HPN.out, hJ4, HK1.out.trans hk4⟩
    case measure => simp [intOf]; have := HH.out.1; have := HFF.out; omega
   ·clear hy hR
    gi_wp2_with fail
    refine bodyPost_ret (results_none rfl _ _ _) rfl ?_
    exact ⟨⟨_, rfl⟩, .inr ⟨_, trivial, hJx4⟩⟩
theorem JK.of_grown {B g : Nat} {X : List Nat} {w w' : World} {row : Option Nat} (h : w.grownBy w' row) (hB : B ≤ w.heap.size) (hg : g < B) (hr : ∀ r, row = some r → B ≤ r) : JK B g X w w' :=
 ⟨h.os, h.tape, h.output, h.size, fun k hk _ _ => h.block k (by omega) (fun e => by have := hr k e.symm; omega), fun v hv => by
  have : w'.heap[g]? = w.heap[g]? := h.block g (by omega) (fun e => by have := hr g e.symm; omega)
  exact (World.cell?_of_block this).trans hv⟩
theorem keeps_touch {S : List Nat} {B : Nat} {W W' : World} (h : Touch S W W') (hS : ∀ s ∈ S, s < B ∨ ∃ cs t fr, W.heap[s]? = some (.cells cs t fr)) : KeepsFrom B W W' :=
 ⟨h.size, fun k o hk ho hc => (h.block k (Array.getElem?_eq_some_iff.1 ho).1 (fun hm => by
  rcases hS k hm with h1 | ⟨cs, t, fr, h1⟩
  ·omega
  ·rw [h1] at ho; injection ho with ho; subst ho; cases hc)).trans ho⟩
/-- The iterator's call. -/
theorem blocks_in (n : Nat) (g be t : Nat) (w : World) :
 CallsIn Fence.wide n Tryz.prog 47 #[.pointer (some ⟨g, 0, none⟩), .int .i64 t, .pointer (some ⟨be, 0, none⟩)] w fun e w' => e = .returned (.func (.func 80) #[] #[.pointer (some ⟨w.heap.size, 0, none⟩), .pointer (some ⟨w.heap.size + 1, 0, none⟩), .pointer (some ⟨w.heap.size + 1 + 1, 0, none⟩)]) ∧
  w' = ((w.alloc (.cells #[.pointer (some ⟨g, 0, none⟩)] 46)).alloc (.cells #[.int .i64 t] 3)).alloc (.cells #[.pointer (some ⟨be, 0, none⟩)] 93) := by
 have hmf : ∀ (fn : Fn) (first cap : Array Value) (w : World), (Instr.makeFunc fn first cap).run Tryz.prog w = .ok (.func fn first cap) w := fun _ _ _ _ => rfl
 refine callsIn_of_wp Tryz.func47 rfl trivial ?_ rfl
 simp only [Tryz.ntmps47, List.size_toArray, List.length_cons, List.length_nil, Nat.reduceAdd, Nat.reduceSub, Array.replicate_succ, Array.replicate_zero, List.push_toArray, List.append_toArray, List.nil_append, List.cons_append]
 gi_wp2_with fail
 refine bodyPost_ret (results_tmp rfl _ _ _) rfl ?_
 exact ⟨rfl, rfl⟩
end
section
open Go.ChangeShapes Go.WideShapes Go.ChangeAt Go.RowKit
/-- What Open leaves: a new journal, or an error. -/
def OpenR (w : World) (d : Nat) (F : List Nat) (r : JS × DS × Int) (e : Ending) (w' : World) : Prop :=
 ∃ F', Touch F w w' ∧ (∀ j ∈ F', j ∈ F ∨ w.heap.size ≤ j) ∧ (∀ j ∈ F', j < w'.heap.size) ∧ Disk w' d F' r.2.1 ∧
  (if r.2.2 = 0 then ∃ g rv, e = .returned (.tuple #[.pointer (some ⟨g, 0, none⟩), .int .i64 0]) ∧ Jr w' g d F' r.2.1 r.1 rv ∧ w.heap.size ≤ g ∧ (∀ j, rv.ownBlock = some j → w.heap.size ≤ j)
   else e = .returned (.tuple #[.pointer none, .int .i64 r.2.2]))
theorem Disk.lt {w : World} {d : Nat} {F : List Nat} {D : DS} (h : Disk w d F D) : ∀ j ∈ F, j < w.heap.size := by obtain ⟨gv, pv, h⟩ := h; exact h.lt
theorem Jr.new {w w' : World} {g d : Nat} {F : List Nat} {D : DS} (h : Disk w d F D) (hg : g = w.heap.size) (hb : Below w.heap.size w w') (hk : Blk w' g 89 (jcells d js0 (.slice none 0 0)).toArray) : Jr w' g d F D js0 (.slice none 0 0) :=
 ⟨hk, Strs.nil _, (fun hm => by have := h.lt g hm; omega), (fun j hj => by cases hj), fun j hj => Nat.lt_of_lt_of_le (h.lt j hj) hb.size, h.step hb⟩
set_option maxHeartbeats 2000000 in
theorem open_small (d : Nat) (F : List Nat) (D : DS) (w : World) (h : Disk w d F D) (h8 : D.pages.length < 8) : Calls Tryz.prog 18 #[.pointer (some ⟨d, 0, none⟩)] w (OpenR w d F (jOpen D)) := by
 have HP := hide (pages_c d F D w h)
 have HD := hide h
 have hr : jOpen D = (js0, D, 2) := by unfold jOpen; rw [if_pos h8]
 rw [hr]
 clear h hr
 generalize hn : D.pages.length = n at *
 clear hn
 go_enter Tryz.func18, Tryz.ntmps18
 go_wp2_with fail
 refine HP.out.mono ?_
 rintro e w1 ⟨rfl, rfl⟩
 go_wp2_with fail
 go_ret2
 exact ⟨F, Touch.refl _ _, fun j hj => .inl hj, HD.out.lt, HD.out, by rw [if_neg (show ¬ (2 : Int) = 0 by decide)]; rfl⟩
set_option maxHeartbeats 4000000 in
theorem open_failed (d : Nat) (F : List Nat) (D : DS) (w : World) (h : Disk w d F D) (hs : D.Sz) (hf : D.failed = true) : Calls Tryz.prog 18 #[.pointer (some ⟨d, 0, none⟩)] w (OpenR w d F (jOpen D)) := by
 have HP := hide (pages_c d F D w h)
 have HD := hide h
 have hr : jOpen D = (js0, D, 10) := by unfold jOpen; rw [if_neg (by have := hs.lo; omega), if_pos hf]
 have HF : Hid (∀ X g, Jr X g d F D js0 (.slice none 0 0) → Calls Tryz.prog 46 #[.pointer (some ⟨g, 0, none⟩)] X (Gives X (.int .i64 10))) := hide (fun X g hX => find_bad g d F D js0 _ X hX hf)
 have h8 := hs.lo
 rw [hr]
 clear h hr hs hf
 generalize hn : D.pages.length = n at *
 clear hn
 go_enter Tryz.func18, Tryz.ntmps18
 go_wp2_with fail
 refine HP.out.mono ?_
 rintro e w1 ⟨rfl, rfl⟩
 go_wp2_with fail
 have HB0 := hide ((below_alloc w (.cells #[.pointer (some ⟨d, 0, none⟩), .int .i64 0, .string ⟨#[]⟩, .slice none 0 0, .int .i64 0, .bool false] 89)))
 have HJ0 := hide (Jr.new HD.out rfl HB0.out (Blk.new w 89 #[.pointer (some ⟨d, 0, none⟩), .int .i64 0, .string ⟨#[]⟩, .slice none 0 0, .int .i64 0, .bool false]))
 have HB1 := hide (HB0.out.alloc HB0.out.size (.cells #[.pointer (some ⟨w.heap.size, 0, none⟩)] 46))
 have HJ1 := hide (HJ0.out.step (below_alloc _ (.cells #[.pointer (some ⟨w.heap.size, 0, none⟩)] 46)))
 refine (HF.out _ _ HJ1.out).mono ?_
 rintro e w2 ⟨rfl, hb⟩
 have HB2 := hide (HB1.out.trans (hb.mono HB1.out.size))
 clear hb
 go_wp2_with fail
 go_ret2
 exact ⟨F, Touch.below HB2.out _, fun j hj => .inl hj, (HD.out.step HB2.out).lt, HD.out.step HB2.out, by rw [if_neg (show ¬ (10 : Int) = 0 by decide)]; rfl⟩
set_option maxHeartbeats 4000000 in
theorem open_empty (d : Nat) (F : List Nat) (D : DS) (w : World) (h : Disk w d F D) (hs : D.Sz) (hf : D.failed = false) (h0 : find1 D = 0) : Calls Tryz.prog 18 #[.pointer (some ⟨d, 0, none⟩)] w (OpenR w d F (jOpen D)) := by
 have HP := hide (pages_c d F D w h)
 have HD := hide h
 have hr : jOpen D = (js0, D, 0) := by unfold jOpen; rw [if_neg (by have := hs.lo; omega), if_neg (by simp [hf]), if_pos h0]
 have HF : Hid (∀ X g, Jr X g d F D js0 (.slice none 0 0) → Calls Tryz.prog 46 #[.pointer (some ⟨g, 0, none⟩)] X fun e w' => e = .returned (.int .i64 0) ∧ Jr w' g d F D js0 (.slice none 0 0) ∧ Touch [g] X w') := hide (fun X g hX => by
  have := find_c g d F D js0 _ X hX rfl hs hf
  rw [h0] at this
  exact this)
 have h8 := hs.lo
 rw [hr]
 clear h hr hs hf h0
 generalize hn : D.pages.length = n at *
 clear hn
 go_enter Tryz.func18, Tryz.ntmps18
 go_wp2_with fail
 refine HP.out.mono ?_
 rintro e w1 ⟨rfl, rfl⟩
 go_wp2_with fail
 have HB0 := hide ((below_alloc w (.cells #[.pointer (some ⟨d, 0, none⟩), .int .i64 0, .string ⟨#[]⟩, .slice none 0 0, .int .i64 0, .bool false] 89)))
 have HJ0 := hide (Jr.new HD.out rfl HB0.out (Blk.new w 89 #[.pointer (some ⟨d, 0, none⟩), .int .i64 0, .string ⟨#[]⟩, .slice none 0 0, .int .i64 0, .bool false]))
 have HV0 := hide (Blk.new (w.alloc (.cells #[.pointer (some ⟨d, 0, none⟩), .int .i64 0, .string ⟨#[]⟩, .slice none 0 0, .int .i64 0, .bool false] 89)) 46 #[.pointer (some ⟨w.heap.size, 0, none⟩)])
 have HB1 := hide (HB0.out.alloc HB0.out.size (.cells #[.pointer (some ⟨w.heap.size, 0, none⟩)] 46))
 have HJ1 := hide (HJ0.out.step (below_alloc _ (.cells #[.pointer (some ⟨w.heap.size, 0, none⟩)] 46)))
 refine (HF.out _ _ HJ1.out).mono ?_
 rintro e w2 ⟨rfl, hj, ht⟩
 have HJ2 := hide hj
 have HV2 := hide (HV0.out.touch ht (by simp))
 have HT2 : Hid (Below w.heap.size w w2) := hide (Below.touch HB1.out ht (by simp) HB1.out.size)
 have kv : w2.cell? ⟨w.heap.size + 1, 0, none⟩ = some (.pointer (some ⟨w.heap.size, 0, none⟩)) := by have := HV2.out.cell 0; simpa using this
 have k1 : w2.cell? ⟨w.heap.size, 1, none⟩ = some (.int .i64 0) := HJ2.out.cells 1
 clear hj ht
 go_wp2_with fail
 go_ret2
 exact ⟨F, Touch.below HT2.out _, fun j hj => .inl hj, HJ2.out.lt, HJ2.out.disk, by rw [if_pos rfl]; exact ⟨w.heap.size, _, rfl, HJ2.out, Nat.le_refl _, fun j hj => by cases hj⟩⟩
end
section
open Go.ChangeShapes Go.WideShapes Go.ChangeAt Go.RowKit
section
variable {P : Program} {ops : Array Oper} {Q : Exit → Act → World → Prop} {md : Region.Mode} {S : World → Prop} {l n : Nat}
theorem wpOp_round {i : Nat} {K : Act → World → Prop} {a : Act} {w : World} (hq : ¬ LetsOut Q) (hd : ∀ (j : Nat) (o : Oper) c, ops[j]? = some o → o.op ≠ .defer c) (h : wpOp P ops Q i K a w) : wpOpIn (Fence.wide.inRound l) n P ops Q i K a w := by
 unfold wpOp at h
 unfold wpOpIn
 cases ho : ops[i]? with
 | none => simpa only [ho] using h
 | some o =>
  simp only [ho] at h ⊢
  by_cases hw : Region.wanted o (yielded ops a.tmps) = true
  ·rw [if_pos hw] at h ⊢
   rcases h with h | ⟨_, h⟩
   ·unfold Oper.wp at h
    refine ⟨fun _ _ => trivial, ?_⟩
    rw [Oper.semAt_eq _ _ _ (fun c => hd i o c ho)]
    generalize (execOp a.eval o).run P w = r at *
    cases r with
    | ok x w' =>
     cases x with
     | value u => exact h
     | skip => exact h
     | defer d => exact h
     | enter f args => exact ⟨(fun hh => by cases hh), callsIn_wide.2 h⟩
     | row row args => 
      refine ⟨(fun hh => by cases hh), fun c cs _ => ?_⟩
      obtain ⟨v, w2, r, s⟩ := h c cs
      exact ⟨v, w2, r, stepsIn_wide.2 s⟩
     | _ => exact h.elim
    | halt x w' => cases x <;> first | exact h | exact h.elim
   ·exact absurd h hq
  ·rw [if_neg hw] at h ⊢
   exact ⟨fun _ _ => trivial, h⟩
theorem wpAny_round (hq : ¬ LetsOut Q) (hd : ∀ (j : Nat) (o : Oper) c, ops[j]? = some o → o.op ≠ .defer c) : ∀ (fuel : Nat) (listed : Array Bool) (a : Act) (w : World), wpAnyH P md ops Q S fuel listed a w → wpAnyIn (Fence.wide.inRound l) n P md ops Q fuel listed a w
 | 0, _, _, _, h => h
 | fuel + 1, listed, a, w, h => ⟨h.1, fun i hi => wpOpIn_mono (fun a' w' h' => wpAny_round hq hd fuel _ a' w' h'.2) (wpOp_round hq hd (h.2 i hi))⟩
theorem wpIn_region_round {id : Nat} {a : Act} {w : World} (hm : P.follows .mixedOrders = true) (hq : ¬ LetsOut Q) (hd : ∀ (j : Nat) (o : Oper) c, ops[j]? = some o → o.op ≠ .defer c) (hS : S w.drew)
 (h : S w.drew → wpAnyH P .any ops Q S ops.size (Array.replicate ops.size false) a w.drew) : (Code.region id ops true).wpIn (Fence.wide.inRound l) n P Q a w :=
 wpIn_region_any hm (wpAny_round hq hd _ _ _ _ (h hS))
end
/-- The last page behind the blocks. -/
def lastU (pre : List Bk) : Nat := (pre.getLast?.map (·.2)).getD 0
theorem lastU_snoc (pre : List Bk) (x : Bk) : lastU (pre ++ [x]) = x.2 := by unfold lastU; simp
/-- Between two rounds of Open's loop; W0: the world in front of it. -/
def OpI (W0 : World) (B g tx ex d : Nat) (J : JS) (pre : List Bk) (W : World) : Prop :=
 JK B g [tx, ex] W0 W ∧ ∃ v, Blk W tx 49 #[v] ∧ Strs W v (pre.map (·.1)) ∧ (∀ j, v.ownBlock = some j → j = ex ∨ B ≤ j) ∧ Blk W g 89 (jcells d { J with used := lastU pre } (.slice none 0 0)).toArray
theorem opI_own {W0 : World} {B g tx ex d : Nat} {J : JS} (hB : W0.heap.size = B) (hg : g < B) : OwnFrom B (OpI W0 B g tx ex d J) := by
 rintro pre W W' row ⟨hk, v, h1, h2, h3, h4⟩ hgr hr
 have ht := Touch.grown hgr
 have hcell : ∀ r, row = some r → ∀ (b : Nat) (cs : Array Value) (t : TypeId) (fr : Nat × Nat), W.heap[b]? = some (.cells cs t fr) → b ≠ r := by
  intro r e b cs t fr hb e2
  subst e2
  obtain ⟨_, o, ho, hc⟩ := hr b e
  rw [hb] at ho
  injection ho with ho
  subst ho
  cases hc
 have hmem : ∀ (b : Nat) (cs : Array Value) (t : TypeId) (fr : Nat × Nat), W.heap[b]? = some (.cells cs t fr) → b ∉ row.toList := by
  intro b cs t fr hb hm
  have e : row = some b := by simpa using hm
  exact hcell b e b cs t fr hb rfl
 refine ⟨hk.trans (JK.of_grown hgr (by have := hk.size; omega) hg (fun r e => (hr r e).1)), v, h1.touch ht (hmem _ _ _ _ h1), h2.touch ht (fun j hj => ?_), h3, h4.touch ht (hmem _ _ _ _ h4)⟩
 rcases h2 with ⟨rfl, _⟩ | ⟨b, off, cap, cur, rfl, hb, _⟩
 ·cases hj
 ·injection hj with hj; subst hj; exact hmem _ _ _ _ hb
end
end Go.Proofs.YtpadgkkeihhneaaGreat
