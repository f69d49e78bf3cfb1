/- settle. -/
import Derived.Test.YtpadgkkeihhneaaGreatA14
import Derived.Deep.WholeRow
namespace Go.Proofs.YtpadgkkeihhneaaGreat
open List renaming getElem_toArray → qa, getElem_cons_zero → qb, getElem_cons_succ → qc, setIfInBounds_toArray → qd, set_cons_zero → qe, set_cons_succ → qf
set_option maxRecDepth 100000
set_option linter.unusedSimpArgs false
set_option linter.unusedVariables false
open Go.ChangeShapes Go.WideShapes Go.ChangeAt Go.RowKit
set_option linter.unusedVariables false
set_option linter.unusedSimpArgs false

theorem pend_get (ws : List (Nat × List UInt8)) (h : ∀ x ∈ ws, x.2.length = 128) (i : Nat) (hi : i < ws.length) (j : Nat) (u : Value) (hj : (wcells ws[i])[j]? = some u) : (pendCells ws)[i * 129 + j]? = some u := by
  induction ws generalizing i with
  | nil => simp at hi
  | cons x ws ih =>
    have hx : (wcells x).length = 129 := wcells_len x.1 x.2 (h x (by simp))
    have e : pendCells (x :: ws) = wcells x ++ pendCells ws := by simp [pendCells]
    rw [e]
    cases i with
    | zero =>
      rw [List.getElem_cons_zero] at hj
      have hlt := (List.getElem?_eq_some_iff.1 hj).1
      rw [Nat.zero_mul, Nat.zero_add, List.getElem?_append_left hlt]; exact hj
    | succ i =>
      rw [List.getElem_cons_succ] at hj
      rw [List.getElem?_append_right (by omega), hx, show (i + 1) * 129 + j - 129 = i * 129 + j by omega]
      exact ih (fun y hy => h y (by simp [hy])) i (by simpa using hi) hj
theorem pend_range {w : World} {d : Nat} {F : List Nat} {D : DS} {gv pv : Value} (h : Dk w d F D gv pv) (i : Nat) (hi : i < D.pend.length) :
    ∃ Q cap, pv = .slice (some ⟨Q, 0, none⟩) D.pend.length cap ∧ D.pend.length ≤ cap ∧ w.rangeAt Q (i * 129) (wcells D.pend[i]) ∧ Q < w.heap.size ∧ Q ∈ F := by
  have hr := h.pend
  obtain ⟨hl, ⟨rfl, h0⟩ | ⟨Q, cap, cur, rfl, hb, hh, hn, hm, hs, ht⟩⟩ := hr
  · omega
  · have hr := h.pend
    refine ⟨Q, cap, rfl, hn, fun j u hj => ?_, World.ownsRow.lt hr Q rfl |>.2, (h.pF Q rfl).1⟩
    have := World.ownsRow.cells hr (g := Q) rfl (i * 129 + j) u (pend_get D.pend (fun x hx => (h.ok.pend x hx).2) i hi j u hj)
    rw [add_plain, Nat.zero_add] at this
    exact this
/-- What settle's loop keeps. -/
def SettleR (w0 : World) (d : Nat) (F : List Nat) (D : DS) (gv pv : Value) (f : Nat → Int) (vi : Value) (wr : World) : Prop :=
  ∃ (i : Nat) (ps : List (List UInt8)), vi = .int .i64 i ∧ i ≤ D.pend.length ∧ ps.length = D.pages.length ∧ Dk wr d F { D with pages := ps } gv pv ∧ settleFrom f i (D.pend.drop i) ps = settleFrom f 0 D.pend D.pages ∧ Touch F w0 wr
theorem run_cut (b o k : Nat) (hk : k ≤ 128) (w : World) : (Instr.sliceAt 79 (.pointer (some ⟨b, o, none⟩)) none (some (.int .i64 (k : Int))) none).run Tryz.prog w = .ok (.slice (some ⟨b, o, none⟩) k 128) w := by
  have ha : Tryz.prog.arrayLen 79 = 128 := by kernel_rfl
  have he : (sizeOf (Tryz.prog.elem 79)).run Tryz.prog w = .ok 1 w := by kernel_rfl
  rw [run_sliceAt_array_h (P := Tryz.prog) w 79 ⟨b, o, none⟩ (by rw [ha]; exact Tryz.underlying79) .i64 (k : Int) (by omega) (by rw [ha]; omega), he, ha]
  simp [slicedAt, add_plain]
theorem size_write : (Tryz.prog.info? 81).map (·.size) = some 129 := by kernel_rfl
/-- A new pending write of zeros in memory. -/
@[irreducible] def zw : Array Value := #[.int .i64 0] ++ Array.replicate 128 (.int .u8 0)
theorem zw_size : zw.size = 129 := by unfold zw; simp
theorem zero_write (w : World) : (zeroValue 81).run Tryz.prog w = .ok (.agg zw) w := by
  unfold zw; kernel_rfl
theorem dk_nopend {w : World} {d : Nat} {F : List Nat} {D : DS} {gv pv : Value} (h : Dk w d F D gv pv) : Dk (w.setCell ⟨d, 1, none⟩ (.slice none 0 0)) d F { D with pend := [] } gv (.slice none 0 0) := by
  have k : Touch [d] w (w.setCell ⟨d, 1, none⟩ (.slice none 0 0)) := (Touch.refl [d] w).set (by simp) 1 _
  exact ⟨h.blk.put 1 _, Row.touch h.pages k fun j hj => by simp; exact (h.gF j hj).2, World.ownsRow_nil _ _ _ _, h.inF, h.gF, (fun j hj => by cases hj), fun j hj => Nat.lt_of_lt_of_le (h.lt j hj) k.size, ⟨h.ok.pages, (fun w hw => by cases hw), h.ok.fuse⟩⟩
theorem there_new (w : World) {n : Nat} (h : n = 129) : (w.alloc (.cells zw 81)).there w.heap.size 0 n := by
  subst h
  intro j hj
  have hb := Blk.new w 81 zw
  rw [Nat.zero_add, hb.cell j, hb.froz j]
  have := zw_size
  exact ⟨by rw [Array.getElem?_eq_getElem (by omega)]; rfl, rfl⟩
theorem setCells_new (w : World) (cs : List Value) (h : cs.length = 129) (hone : ∀ v ∈ cs, v.oneCell' = true) : (w.alloc (.cells zw 81)).setCells w.heap.size 0 cs.toArray.toList = w.alloc (.cells cs.toArray 81) := by
  have h1 : (cs.toArray).all (·.oneCell') = true := all_oneCell_toArray hone
  have hs : (Tryz.prog.info? 81).map (·.size) = some cs.toArray.size := by rw [size_write]; simp [h]
  have a := run_storeVar_new (P := Tryz.prog) w 81 zw cs.toArray hs (by rw [zw_size]; simp [h]) h1
  have b := run_storeVar_mid (P := Tryz.prog) (w.alloc (.cells zw 81)) w.heap.size 0 81 cs.toArray (there_new w (by simpa using h)) hs h1
  rw [a] at b
  injection b with _ b
  exact b.symm

set_option maxRecDepth 100000 in
set_option maxHeartbeats 8000000 in
theorem settle_sync (d : Nat) (F : List Nat) (D : DS) (f : Nat → Int) (w : World) (h : Disk w d F D) (hf : ∀ (i : Nat) (wr : World), Touch F w wr → Calls Tryz.prog 44 #[.int .i64 i] wr fun e w' => e = .returned (.int .i64 (f i)) ∧ wr = w') :
    Calls Tryz.prog 43 #[.pointer (some ⟨d, 0, none⟩), .func (.func 44) #[] #[]] w (Does w d F (dSettle D f) (.tuple #[])) := by
  obtain ⟨gv, pv, hd⟩ := h
  obtain ⟨c0, c1, c2, c3, f0, f1, f2, f3⟩ := hd.cells
  obtain ⟨A, c, rfl, hcl, hcm⟩ := hd.pend.form
  have H := hide hd
  have HFF := hide hf
  clear hd hf
  go_enter Tryz.func43, Tryz.ntmps43
  go_wp2_with fail
  go_loopw [11] (fun i wr => SettleR w d F D gv (.slice A D.pend.length c) f i wr) (fun i _ => D.pend.length - (intOf i).toNat)
  case atStart => exact ⟨0, D.pages, rfl, Nat.zero_le _, rfl, H.out, rfl, Touch.refl _ _⟩
  case round =>
    obtain ⟨i, ps, rfl, hi, hps, hdk, hst, ht⟩ := hrel
    clear c0 c1 c2 c3 f0 f1 f2 f3
    by_cases hlt : i < D.pend.length
    · obtain ⟨Q, cap, e1, hcap, hrange, hQ, hQF⟩ := pend_range hdk i hlt
      obtain ⟨rfl, rfl⟩ : A = some ⟨Q, 0, none⟩ ∧ c = cap := by injection e1 with e1 e2 e3; exact ⟨e1, e3⟩
      clear e1
      have hok := hdk.ok.pend (D.pend[i]) (List.getElem_mem _)
      have hstep : settleFrom f i (D.pend.drop i) ps = settleFrom f (i + 1) (D.pend.drop (i + 1)) (ps.set (D.pend[i]).1 (mixed (ps.getD (D.pend[i]).1 []) (D.pend[i]).2 (f i))) := by
        rw [List.drop_eq_getElem_cons hlt]; rfl
      have HST := hide (hstep.symm.trans hst)
      have hrg : wr.rangeAt Q (i * 129) (wcells D.pend[i]) := hrange
      generalize hx : D.pend[i] = x at *
      obtain ⟨q, data⟩ := x
      have HRG := hide hrg
      have HW129 := hide (wcells_len q data hok.2)
      have HR71 : Hid ((Tryz.prog.info? 81).map (·.size) = some (wcells (q, data)).length) := hide (by rw [size_write, HW129.out])
      have HDK := hide hdk
      have HT := hide ht
      have HOK := hide hok
      have HPS := hide hps
      have hal := zero_write
      clear hrange hrg hx hstep hst hdk ht hok hps
      obtain ⟨w1, hw1⟩ : ∃ w1, w1 = wr.alloc (.cells (wcells (q, data)).toArray 81) := ⟨_, rfl⟩
      have HST2 : Hid ((wr.alloc (.cells zw 81)).setCells wr.heap.size 0 (wcells (q, data)).toArray.toList = w1) := hide (by rw [hw1]; exact setCells_new wr (wcells (q, data)) HW129.out (hone_wcells q data))
      have HTH : Hid ((wr.alloc (.cells zw 81)).there wr.heap.size 0 (wcells (q, data)).toArray.size) := hide (there_new wr (by simpa using HW129.out))
      have HDD : Hid (Dk w1.drew d F { D with pages := ps } gv (.slice (some ⟨Q, 0, none⟩) D.pend.length c)) := hide (by rw [hw1]; exact HDK.out.touch (S := []) (((Touch.refl [] wr).alloc _).drew) (by simp))
      have HBX : Hid (Blk w1 wr.heap.size 81 (wcells (q, data)).toArray) := hide (by rw [hw1]; exact Blk.new wr _ _)
      have HT1 : Hid (Touch F w w1.drew) := hide (by rw [hw1]; exact (HT.out.alloc _).drew)
      have HBL : Hid (∀ j ∈ F, j ≠ wr.heap.size) := hide (fun j hj e => by have := HDK.out.lt j hj; omega)
      clear hw1
      go_wp2_with (first
        | (refine wpList_load_mid rfl 81 (.tmp 14) rfl Q (i * 129) rfl (wcells (q, data)) _ HRG.out Tryz.underlying81 rfl HR71.out ?_)
        | (refine wpList_store_mid rfl 81 (.tmp 5) (.tmp 15) rfl wr.heap.size 0 (wcells (q, data)).toArray rfl rfl HTH.out (by simpa using HR71.out) (all_oneCell_toArray (hone_wcells q data)) ?_; (first | rw [HST2.out] | (simp only [List.toList_toArray]; rw [HST2.out]))))
      clear hal
      obtain ⟨k, hk⟩ : ∃ k, k = (min (max (f i) 0) 128).toNat := ⟨_, rfl⟩
      have hkz : min (max (f i) 0) 128 = (k : Int) := by omega
      have hk128 : k ≤ 128 := by omega
      obtain ⟨xs, hxs⟩ : ∃ xs, xs = data.take k := ⟨_, rfl⟩
      have hkl : xs.length = k := by rw [hxs, List.length_take, HOK.out.2]; omega
      obtain ⟨P, cp, cur, rfl, hP, hcur, hPF, hnew⟩ := dk_setpage HDD.out q HOK.out.1 xs (by omega)
      have hmix : mixed (ps.getD q []) data (f i) = xs ++ (ps.getD q []).drop xs.length := by unfold mixed; rw [hkl, hxs, hk]
      rw [hmix] at HST
      obtain ⟨np, hnp⟩ : ∃ np, np = ps.length := ⟨_, rfl⟩
      have HDD2 := HDD
      have hgv : (Value.slice (some ⟨P, 0, none⟩) ({ D with pages := ps } : DS).pages.length cp) = .slice (some ⟨P, 0, none⟩) np cp := by rw [hnp]
      rw [hgv] at HDD hnew
      have hqn : (q : Int) < (np : Int) := by rw [hnp]; have := HOK.out.1; omega
      have hqn2 : q < np := by rw [hnp]; exact HOK.out.1
      have HP := hide hP
      have HNEW := hide hnew
      have HU8 : Hid ((Tryz.prog.info? 5).map (·.size) = some 1) := hide (by kernel_rfl)
      have HNK : Hid ((xs.map bv).length = Nat.min k 128) := hide (by rw [List.length_map, hkl]; exact (Nat.min_eq_left hk128).symm)
      have HSRC : Hid (∀ j v, (xs.map bv)[j]? = some v → w1.drew.cell? ((⟨wr.heap.size, 1, none⟩ : Addr).add j) = some v) := hide (fun j v hj => by
        rw [add_plain, HBX.out.drew.cell]
        rw [Nat.add_comm 1 j]
        simp only [wcells, List.getElem?_toArray, List.getElem?_cons_succ]
        have hlt := (List.getElem?_eq_some_iff.1 hj).1
        rw [List.length_map, hkl] at hlt
        rw [← hj, List.getElem?_map, List.getElem?_map, hxs, List.getElem?_take, if_pos hlt])
      have HFIT : Hid (q * 128 + (xs.map bv).length ≤ cur.length) := hide (by rw [List.length_map, hkl]; omega)
      have HONE : Hid (∀ v ∈ xs.map bv, v.oneCell' = true) := hide (fun v hv => by obtain ⟨x, _, rfl⟩ := List.mem_map.1 hv; exact bv_one x)
      have HOTH : Hid ((w1.drew.setRow P (splice cur (q * 128) (xs.map bv)).toArray).cell? ⟨wr.heap.size, 0, none⟩ = some (.int .i64 q)) := hide (by
        have hb : Blk (w1.drew.setRow P (splice cur (q * 128) (xs.map bv)).toArray) wr.heap.size 81 (wcells (q, data)).toArray := (setRow_other w1.drew P wr.heap.size _ (fun e => HBL.out P hPF e.symm)).trans HBX.out.drew
        exact hb.cell 0)
      have HT2 : Hid (Touch F w (w1.drew.setRow P (splice cur (q * 128) (xs.map bv)).toArray)) := hide (HT1.out.trans ⟨rfl, rfl, rfl, by simp, fun j hj hne => setRow_other w1.drew P j _ (fun e => hne (e ▸ hPF))⟩)
      have HNP := hide hnp
      clear hP hnew hk hmix hkl hcur HDD2 hgv hnp hPF hxs
      refine wp_region_held_drew (S := (fun w' => w'.cell? ⟨d, 0, none⟩ = some (.slice (some ⟨P, 0, none⟩) np cp) ∧ w'.cell? ⟨wr.heap.size, 0, none⟩ = some (.int .i64 q))) (by kernel_rfl) (⟨HDD.out.blk.cell 0, HBX.out.drew.cell 0⟩) (fun hS0 => ?_)
      refine tk (i := 0) (v := _) rfl (by assumption) ?_
      try simp only [Act.put, qa, qb, qc, qd, qe, qf]
      refine tk (i := 1) (v := _) rfl (by assumption) ?_
      try simp only [Act.put, qa, qb, qc, qd, qe, qf]
      refine tk (i := 2) (v := _) rfl (by assumption) ?_
      try simp only [Act.put, qa, qb, qc, qd, qe, qf]
      refine tk (i := 3) (v := _) rfl (by assumption) ?_
      try simp only [Act.put, qa, qb, qc, qd, qe, qf]
      refine tk (i := 4) (v := _) rfl (by assumption) ?_
      try simp only [Act.put, qa, qb, qc, qd, qe, qf]
      refine tk (i := 5) (v := _) rfl (by assumption) ?_
      try simp only [Act.put, qa, qb, qc, qd, qe, qf]
      refine tk (i := 6) (v := _) rfl (by assumption) ?_
      try simp only [Act.put, qa, qb, qc, qd, qe, qf]
      refine tk (i := 7) (v := _) rfl (by assumption) ?_
      try simp only [Act.put, qa, qb, qc, qd, qe, qf]
      refine tk (i := 8) (v := _) rfl (by assumption) ?_
      try simp only [Act.put, qa, qb, qc, qd, qe, qf]
      refine tk (i := 9) (v := _) rfl (by assumption) ?_
      try simp only [Act.put, qa, qb, qc, qd, qe, qf]
      refine tk (i := 10) (v := _) rfl (by assumption) ?_
      try simp only [Act.put, qa, qb, qc, qd, qe, qf]
      refine wpAnyH_ready (rs := [11]) (by kernel_rfl) (by simp) ?_
      refine AllReadyH.cons rfl (fun K hK => ?_) AllReadyH.nil
      go_simp
      refine (HFF.out i _ HT1.out).mono ?_
      rintro e w3 ⟨rfl, rfl⟩
      refine hK.out _ _ (⟨HDD.out.blk.cell 0, HBX.out.drew.cell 0⟩) (fun hS1 => ?_)
      clear hK K
      try simp only [Act.put, qa, qb, qc, qd, qe, qf]
      have hcut := fun w => run_cut wr.heap.size 1 k hk128 w
      refine tk (i := 12) (v := _) rfl (by assumption) ?_
      try simp only [Act.put, qa, qb, qc, qd, qe, qf]
      refine tk (i := 13) (v := _) rfl (by assumption) ?_
      try simp only [Act.put, qa, qb, qc, qd, qe, qf]
      refine tk (i := 14) (v := _) rfl (by assumption) ?_
      try simp only [Act.put, qa, qb, qc, qd, qe, qf]
      clear hcut
      refine wpAnyH_ready (rs := [15]) (by kernel_rfl) (by simp) ?_
      refine AllReadyH.cons rfl (fun K hK => ?_) AllReadyH.nil
      refine step_copy_row rfl (.tmp 23) (.tmp 30) 35 35 rfl 5 Tryz.underlying35 HU8.out ⟨wr.heap.size, 1, none⟩ 128 128 k 128 P (q * 128) rfl rfl cur _ HP.out (xs.map bv) HNK.out HSRC.out HFIT.out HONE.out ?_
      refine hK.out _ _ (⟨HNEW.out.blk.cell 0, HOTH.out⟩) (fun hS2 => ?_)
      clear hK K
      try simp only [Act.put, qa, qb, qc, qd, qe, qf]
      refine wpAnyH_done (by kernel_rfl) ?_ _
      clear hS0 hS1 hS2
      go_wp2_with fail
      go_roundw
      case rel => exact ⟨i + 1, _, by go_num, hlt, by rw [List.length_set]; exact HPS.out, by have := HNEW.out; rw [HNP.out] at this; exact this, HST.out, HT2.out⟩
      case measure => simp [intOf]; omega
    · obtain rfl : i = D.pend.length := by omega
      have hps2 : ps = settleFrom f 0 D.pend D.pages := by rw [← hst, List.drop_length]; rfl
      obtain ⟨c0, c1, c2, c3, f0, f1, f2, f3⟩ := hdk.cells
      have HDK := hide hdk
      have HT := hide ht
      have HPS2 := hide hps2
      clear hdk ht hps2 hst
      go_wp2_with fail
      go_end0
      refine ⟨rfl, F, ⟨gv, .slice none 0 0, ?_⟩, HT.out.trans (touch_set HDK.out.inF 1 _), fun j hj => .inl hj⟩
      have := dk_nopend HDK.out
      rw [HPS2.out] at this
      exact this

set_option maxRecDepth 100000 in
set_option maxHeartbeats 8000000 in
theorem settle_crash (s : Nat) (d : Nat) (F : List Nat) (D : DS) (f : Nat → Int) (w : World) (h : Disk w d F D) (hf : ∀ (i : Nat) (wr : World), Touch F w wr → Calls Tryz.prog 67 #[.int .i64 i, .pointer (some ⟨s, 0, none⟩)] wr fun e w' => e = .returned (.int .i64 (f i)) ∧ wr = w') :
    Calls Tryz.prog 43 #[.pointer (some ⟨d, 0, none⟩), .func (.func 67) #[] #[.pointer (some ⟨s, 0, none⟩)]] w (Does w d F (dSettle D f) (.tuple #[])) := by
  obtain ⟨gv, pv, hd⟩ := h
  obtain ⟨c0, c1, c2, c3, f0, f1, f2, f3⟩ := hd.cells
  obtain ⟨A, c, rfl, hcl, hcm⟩ := hd.pend.form
  have H := hide hd
  have HFF := hide hf
  clear hd hf
  go_enter Tryz.func43, Tryz.ntmps43
  go_wp2_with fail
  go_loopw [11] (fun i wr => SettleR w d F D gv (.slice A D.pend.length c) f i wr) (fun i _ => D.pend.length - (intOf i).toNat)
  case atStart => exact ⟨0, D.pages, rfl, Nat.zero_le _, rfl, H.out, rfl, Touch.refl _ _⟩
  case round =>
    obtain ⟨i, ps, rfl, hi, hps, hdk, hst, ht⟩ := hrel
    clear c0 c1 c2 c3 f0 f1 f2 f3
    by_cases hlt : i < D.pend.length
    · obtain ⟨Q, cap, e1, hcap, hrange, hQ, hQF⟩ := pend_range hdk i hlt
      obtain ⟨rfl, rfl⟩ : A = some ⟨Q, 0, none⟩ ∧ c = cap := by injection e1 with e1 e2 e3; exact ⟨e1, e3⟩
      clear e1
      have hok := hdk.ok.pend (D.pend[i]) (List.getElem_mem _)
      have hstep : settleFrom f i (D.pend.drop i) ps = settleFrom f (i + 1) (D.pend.drop (i + 1)) (ps.set (D.pend[i]).1 (mixed (ps.getD (D.pend[i]).1 []) (D.pend[i]).2 (f i))) := by
        rw [List.drop_eq_getElem_cons hlt]; rfl
      have HST := hide (hstep.symm.trans hst)
      have hrg : wr.rangeAt Q (i * 129) (wcells D.pend[i]) := hrange
      generalize hx : D.pend[i] = x at *
      obtain ⟨q, data⟩ := x
      have HRG := hide hrg
      have HW129 := hide (wcells_len q data hok.2)
      have HR71 : Hid ((Tryz.prog.info? 81).map (·.size) = some (wcells (q, data)).length) := hide (by rw [size_write, HW129.out])
      have HDK := hide hdk
      have HT := hide ht
      have HOK := hide hok
      have HPS := hide hps
      have hal := zero_write
      clear hrange hrg hx hstep hst hdk ht hok hps
      obtain ⟨w1, hw1⟩ : ∃ w1, w1 = wr.alloc (.cells (wcells (q, data)).toArray 81) := ⟨_, rfl⟩
      have HST2 : Hid ((wr.alloc (.cells zw 81)).setCells wr.heap.size 0 (wcells (q, data)).toArray.toList = w1) := hide (by rw [hw1]; exact setCells_new wr (wcells (q, data)) HW129.out (hone_wcells q data))
      have HTH : Hid ((wr.alloc (.cells zw 81)).there wr.heap.size 0 (wcells (q, data)).toArray.size) := hide (there_new wr (by simpa using HW129.out))
      have HDD : Hid (Dk w1.drew d F { D with pages := ps } gv (.slice (some ⟨Q, 0, none⟩) D.pend.length c)) := hide (by rw [hw1]; exact HDK.out.touch (S := []) (((Touch.refl [] wr).alloc _).drew) (by simp))
      have HBX : Hid (Blk w1 wr.heap.size 81 (wcells (q, data)).toArray) := hide (by rw [hw1]; exact Blk.new wr _ _)
      have HT1 : Hid (Touch F w w1.drew) := hide (by rw [hw1]; exact (HT.out.alloc _).drew)
      have HBL : Hid (∀ j ∈ F, j ≠ wr.heap.size) := hide (fun j hj e => by have := HDK.out.lt j hj; omega)
      clear hw1
      go_wp2_with (first
        | (refine wpList_load_mid rfl 81 (.tmp 14) rfl Q (i * 129) rfl (wcells (q, data)) _ HRG.out Tryz.underlying81 rfl HR71.out ?_)
        | (refine wpList_store_mid rfl 81 (.tmp 5) (.tmp 15) rfl wr.heap.size 0 (wcells (q, data)).toArray rfl rfl HTH.out (by simpa using HR71.out) (all_oneCell_toArray (hone_wcells q data)) ?_; (first | rw [HST2.out] | (simp only [List.toList_toArray]; rw [HST2.out]))))
      clear hal
      obtain ⟨k, hk⟩ : ∃ k, k = (min (max (f i) 0) 128).toNat := ⟨_, rfl⟩
      have hkz : min (max (f i) 0) 128 = (k : Int) := by omega
      have hk128 : k ≤ 128 := by omega
      obtain ⟨xs, hxs⟩ : ∃ xs, xs = data.take k := ⟨_, rfl⟩
      have hkl : xs.length = k := by rw [hxs, List.length_take, HOK.out.2]; omega
      obtain ⟨P, cp, cur, rfl, hP, hcur, hPF, hnew⟩ := dk_setpage HDD.out q HOK.out.1 xs (by omega)
      have hmix : mixed (ps.getD q []) data (f i) = xs ++ (ps.getD q []).drop xs.length := by unfold mixed; rw [hkl, hxs, hk]
      rw [hmix] at HST
      obtain ⟨np, hnp⟩ : ∃ np, np = ps.length := ⟨_, rfl⟩
      have HDD2 := HDD
      have hgv : (Value.slice (some ⟨P, 0, none⟩) ({ D with pages := ps } : DS).pages.length cp) = .slice (some ⟨P, 0, none⟩) np cp := by rw [hnp]
      rw [hgv] at HDD hnew
      have hqn : (q : Int) < (np : Int) := by rw [hnp]; have := HOK.out.1; omega
      have hqn2 : q < np := by rw [hnp]; exact HOK.out.1
      have HP := hide hP
      have HNEW := hide hnew
      have HU8 : Hid ((Tryz.prog.info? 5).map (·.size) = some 1) := hide (by kernel_rfl)
      have HNK : Hid ((xs.map bv).length = Nat.min k 128) := hide (by rw [List.length_map, hkl]; exact (Nat.min_eq_left hk128).symm)
      have HSRC : Hid (∀ j v, (xs.map bv)[j]? = some v → w1.drew.cell? ((⟨wr.heap.size, 1, none⟩ : Addr).add j) = some v) := hide (fun j v hj => by
        rw [add_plain, HBX.out.drew.cell]
        rw [Nat.add_comm 1 j]
        simp only [wcells, List.getElem?_toArray, List.getElem?_cons_succ]
        have hlt := (List.getElem?_eq_some_iff.1 hj).1
        rw [List.length_map, hkl] at hlt
        rw [← hj, List.getElem?_map, List.getElem?_map, hxs, List.getElem?_take, if_pos hlt])
      have HFIT : Hid (q * 128 + (xs.map bv).length ≤ cur.length) := hide (by rw [List.length_map, hkl]; omega)
      have HONE : Hid (∀ v ∈ xs.map bv, v.oneCell' = true) := hide (fun v hv => by obtain ⟨x, _, rfl⟩ := List.mem_map.1 hv; exact bv_one x)
      have HOTH : Hid ((w1.drew.setRow P (splice cur (q * 128) (xs.map bv)).toArray).cell? ⟨wr.heap.size, 0, none⟩ = some (.int .i64 q)) := hide (by
        have hb : Blk (w1.drew.setRow P (splice cur (q * 128) (xs.map bv)).toArray) wr.heap.size 81 (wcells (q, data)).toArray := (setRow_other w1.drew P wr.heap.size _ (fun e => HBL.out P hPF e.symm)).trans HBX.out.drew
        exact hb.cell 0)
      have HT2 : Hid (Touch F w (w1.drew.setRow P (splice cur (q * 128) (xs.map bv)).toArray)) := hide (HT1.out.trans ⟨rfl, rfl, rfl, by simp, fun j hj hne => setRow_other w1.drew P j _ (fun e => hne (e ▸ hPF))⟩)
      have HNP := hide hnp
      clear hP hnew hk hmix hkl hcur HDD2 hgv hnp hPF hxs
      refine wp_region_held_drew (S := (fun w' => w'.cell? ⟨d, 0, none⟩ = some (.slice (some ⟨P, 0, none⟩) np cp) ∧ w'.cell? ⟨wr.heap.size, 0, none⟩ = some (.int .i64 q))) (by kernel_rfl) (⟨HDD.out.blk.cell 0, HBX.out.drew.cell 0⟩) (fun hS0 => ?_)
      refine tk (i := 0) (v := _) rfl (by assumption) ?_
      try simp only [Act.put, qa, qb, qc, qd, qe, qf]
      refine tk (i := 1) (v := _) rfl (by assumption) ?_
      try simp only [Act.put, qa, qb, qc, qd, qe, qf]
      refine tk (i := 2) (v := _) rfl (by assumption) ?_
      try simp only [Act.put, qa, qb, qc, qd, qe, qf]
      refine tk (i := 3) (v := _) rfl (by assumption) ?_
      try simp only [Act.put, qa, qb, qc, qd, qe, qf]
      refine tk (i := 4) (v := _) rfl (by assumption) ?_
      try simp only [Act.put, qa, qb, qc, qd, qe, qf]
      refine tk (i := 5) (v := _) rfl (by assumption) ?_
      try simp only [Act.put, qa, qb, qc, qd, qe, qf]
      refine tk (i := 6) (v := _) rfl (by assumption) ?_
      try simp only [Act.put, qa, qb, qc, qd, qe, qf]
      refine tk (i := 7) (v := _) rfl (by assumption) ?_
      try simp only [Act.put, qa, qb, qc, qd, qe, qf]
      refine tk (i := 8) (v := _) rfl (by assumption) ?_
      try simp only [Act.put, qa, qb, qc, qd, qe, qf]
      refine tk (i := 9) (v := _) rfl (by assumption) ?_
      try simp only [Act.put, qa, qb, qc, qd, qe, qf]
      refine tk (i := 10) (v := _) rfl (by assumption) ?_
      try simp only [Act.put, qa, qb, qc, qd, qe, qf]
      refine wpAnyH_ready (rs := [11]) (by kernel_rfl) (by simp) ?_
      refine AllReadyH.cons rfl (fun K hK => ?_) AllReadyH.nil
      go_simp
      refine (HFF.out i _ HT1.out).mono ?_
      rintro e w3 ⟨rfl, rfl⟩
      refine hK.out _ _ (⟨HDD.out.blk.cell 0, HBX.out.drew.cell 0⟩) (fun hS1 => ?_)
      clear hK K
      try simp only [Act.put, qa, qb, qc, qd, qe, qf]
      have hcut := fun w => run_cut wr.heap.size 1 k hk128 w
      refine tk (i := 12) (v := _) rfl (by assumption) ?_
      try simp only [Act.put, qa, qb, qc, qd, qe, qf]
      refine tk (i := 13) (v := _) rfl (by assumption) ?_
      try simp only [Act.put, qa, qb, qc, qd, qe, qf]
      refine tk (i := 14) (v := _) rfl (by assumption) ?_
      try simp only [Act.put, qa, qb, qc, qd, qe, qf]
      clear hcut
      refine wpAnyH_ready (rs := [15]) (by kernel_rfl) (by simp) ?_
      refine AllReadyH.cons rfl (fun K hK => ?_) AllReadyH.nil
      refine step_copy_row rfl (.tmp 23) (.tmp 30) 35 35 rfl 5 Tryz.underlying35 HU8.out ⟨wr.heap.size, 1, none⟩ 128 128 k 128 P (q * 128) rfl rfl cur _ HP.out (xs.map bv) HNK.out HSRC.out HFIT.out HONE.out ?_
      refine hK.out _ _ (⟨HNEW.out.blk.cell 0, HOTH.out⟩) (fun hS2 => ?_)
      clear hK K
      try simp only [Act.put, qa, qb, qc, qd, qe, qf]
      refine wpAnyH_done (by kernel_rfl) ?_ _
      clear hS0 hS1 hS2
      go_wp2_with fail
      go_roundw
      case rel => exact ⟨i + 1, _, by go_num, hlt, by rw [List.length_set]; exact HPS.out, by have := HNEW.out; rw [HNP.out] at this; exact this, HST.out, HT2.out⟩
      case measure => simp [intOf]; omega
    · obtain rfl : i = D.pend.length := by omega
      have hps2 : ps = settleFrom f 0 D.pend D.pages := by rw [← hst, List.drop_length]; rfl
      obtain ⟨c0, c1, c2, c3, f0, f1, f2, f3⟩ := hdk.cells
      have HDK := hide hdk
      have HT := hide ht
      have HPS2 := hide hps2
      clear hdk ht hps2 hst
      go_wp2_with fail
      go_end0
      refine ⟨rfl, F, ⟨gv, .slice none 0 0, ?_⟩, HT.out.trans (touch_set HDK.out.inF 1 _), fun j hj => .inl hj⟩
      have := dk_nopend HDK.out
      rw [HPS2.out] at this
      exact this
end Go.Proofs.YtpadgkkeihhneaaGreat
