/- The reference's Save. -/
import Derived.Test.YtpadgkkeihhneaaGreatC31
import Derived.Test.YtpadgkkeihhneaaGreatC23
namespace Go.Proofs.YtpadgkkeihhneaaGreat
set_option maxRecDepth 100000
set_option linter.unusedSimpArgs false
set_option linter.unusedVariables false
open List renaming getElem_toArray → qa, getElem_cons_zero → qb, getElem_cons_succ → qc, setIfInBounds_toArray → qd, set_cons_zero → qe, set_cons_succ → qf
open Go.ChangeShapes Go.WideShapes Go.ChangeAt Go.RowKit
theorem built_si (z : Int) : Tryz.prog.builtSlice 3 1 [(0, .int .i64 z)] = some ([.int .i64 z] : List Value).toArray := by kernel_rfl
theorem built_sp (v : Value) (h : v.oneCell' = true) : Tryz.prog.builtSlice 35 1 [(0, v)] = some ([v] : List Value).toArray := by
 cases v <;> first | (simp [Value.oneCell'] at h; done) | kernel_rfl
theorem built_j2 (A : Option Addr) (n c : Nat) (B : Option Addr) (m b : Nat) (fz : Int) (fl : Bool) (zt zn : Int) (S : ByteArray) : Tryz.prog.built 51 [(0, .agg ([.slice A n c, .slice B m b, .int .i64 fz, .bool fl] : List Value).toArray), (1, .int .i64 zt), (2, .string S), (4, .int .i64 zn)] = some ([.slice A n c, .slice B m b, .int .i64 fz, .bool fl, .int .i64 zt, .string S, .slice none 0 0, .int .i64 zn, .bool false] : List Value).toArray := by kernel_rfl
/-- A load in a drawn region, taken where it stands. -/
theorem step_load_own {P : Program} {w w0 : World} {T : List Nat} {L : List (Nat × TypeId × List Value)} {ops : Array Oper} {op : Oper} {a : Act} {Q : Exit → Act → World → Prop} {K : Act → World → Prop} {E : Prop} (HO : Own w0 T L w) (hw : Region.wanted op (yielded ops a.tmps) = true) (ty : TypeId) (x : Operand) (ho : op.op = .load ty x) (i g o n : Nat) (t : TypeId) (cs vs : List Value) (d : TypeDesc) (hL : L[i]? = some (g, t, cs)) (hv : (cs.drop o).take n = vs)
 (hx : a.eval x = .pointer (some ⟨g, o, none⟩)) (hu : P.underlying ty = some d) (hd : d.isRow = true) (hi : (P.info? ty).map (·.size) = some vs.length)
 (h : K (a.put op.dst (.agg vs.toArray)) w) : if Region.wanted op (yielded ops a.tmps) = true then Oper.wp P op a w K Q else E := by
 rw [if_pos hw]
 exact wp_load_mid ty x ho g o hx vs d (own_range HO i hL hv) hu hd hi h
/-- A literal slice in a drawn region. -/
theorem step_slice_new {P : Program} {w w0 : World} {ops : Array Oper} {op : Oper} {a : Act} {Q : Exit → Act → World → Prop} {K : Act → World → Prop} {E : Prop} (hsz : w0.heap.size ≤ w.heap.size) (hw : Region.wanted op (yielded ops a.tmps) = true) (t e : TypeId) (len : Nat) (parts : Array (Nat × Operand)) (ho : op.op = .buildSlice t len parts) (hu : P.underlying t = some (.slice e)) (cs : List Value)
 (hf : P.builtSlice e len (parts.map fun (i, x) => (i, a.eval x)).toList = some cs.toArray)
 (h : ∀ w' b, Blk w' b e cs.toArray → b = w.heap.size → Below w.heap.size w w' → K (a.put op.dst (.slice (some ⟨b, 0, none⟩) len len)) w') : if Region.wanted op (yielded ops a.tmps) = true then Oper.wp P op a w K Q else E := by
 rw [if_pos hw]
 have hp : (Instr.buildSlice t len (parts.map fun (i, x) => (i, a.eval x))).run P w = .ok (.slice (some ⟨w.heap.size, 0, none⟩) len len) (w.alloc (.cells cs.toArray e)) := by
  unfold Program.builtSlice at hf
  cases hie : P.info? e with
  | none => simp [hie] at hf
  | some ie =>
   cases hz : ie.zero with
   | none => simp [hie, hz] at hf
   | some z =>
    simp only [hie, hz] at hf
    split at hf
    ·cases hf
    ·rename_i hn
     exact run_buildSlice w t e len _ _ ie z hu hie hz (fun h => hn (.inl h)) (fun h => hn (.inr h)) hf
 unfold Oper.wp execOp
 simp only [ho, Sem.run_bind, hp, Result.andThen_ok]
 exact h _ _ (Blk.new w e cs.toArray) rfl ((Below.refl _ _).alloc (Nat.le_refl _) _)
theorem Ns.of_blk {w w0 W : World} {b : Nat} {z : Int} {n : Nat} (h : Blk W b 3 ([.int .i64 z] : List Value).toArray) (hb : b = w.heap.size) (hz : z = (n : Int)) (h0 : w0.heap.size ≤ w.heap.size) : Ns W w0.heap.size (.slice (some ⟨b, 0, none⟩) 1 1) [n] := by
 subst hz
 exact ⟨rfl, .inr ⟨b, 1, _, rfl, by omega, h, Nat.le_refl _, by unfold maxLen; omega, by simp, rfl⟩⟩
theorem Pl.of_blk {w w0 W : World} {b : Nat} {v : Value} {p : List UInt8} (h : Blk W b 35 ([v] : List Value).toArray) (hb : b = w.heap.size) (hv : Ow w w0.heap.size v p) (k : Below w.heap.size w W) (h0 : w0.heap.size ≤ w.heap.size) : Pl W w0.heap.size (.slice (some ⟨b, 0, none⟩) 1 1) [p] := by
 refine ⟨[v], ⟨rfl, .inr ⟨b, 1, _, rfl, Nat.zero_le _, h, Nat.le_refl _, by unfold maxLen; omega, by simp, rfl⟩⟩, fun j hj => (show b = j by injection hj) ▸ hb ▸ h0, fun i u q hu hq => ?_⟩
 cases i with
 | zero =>
  simp at hu hq
  subst hu hq
  exact ⟨(hv.step k).bs, fun j hj => ⟨(hv.lt j hj).1, Nat.lt_of_lt_of_le (hv.lt j hj).2 k.size, fun e => by
   have e2 : b = j := by injection e
   have := (hv.lt j hj).2
   omega⟩⟩
 | succ i => simp at hu
theorem settle_plen (f : Nat → Int) (i : Nat) (ws : List (Nat × List UInt8)) (ps : List (List UInt8)) : (settleFrom f i ws ps).length = ps.length := by
 induction ws generalizing i ps with
 | nil => rfl
 | cons w ws ih => show (settleFrom f (i + 1) ws (ps.set w.1 _)).length = _; rw [ih, List.length_set]
theorem dSync_plen (D : DS) : (dSync D).1.pages.length = D.pages.length := by
 have hb := dBurn_pages D
 unfold dSync
 split
 ·rfl
 split
 ·show (settleFrom _ 0 (dBurn D).1.pend (dBurn D).1.pages).length = _
  rw [settle_plen, hb.1]
 ·rw [hb.1]
theorem dWrites_plen : ∀ (l : List (Nat × List UInt8)) (D : DS), (dWrites D l).1.pages.length = D.pages.length
 | [], D => dSync_plen D
 | (n, b) :: l, D => by
  rw [dWrites_cons]
  split
  ·rw [dWrites_plen l, dWrite_pages]
  ·rw [dWrite_pages]
set_option maxHeartbeats 16000000 in
theorem rsave_c (F : List Nat) (v : Value) (D : DS) (J : JS) (s : List UInt8) (S : ByteArray) (hS : S = ⟨s.toArray⟩) (hl : s.length ≤ 1000000) (w : World) (h : Rj w F v D J) (hF : ∀ j ∈ F, j < w.heap.size) (hs : D.Sz) (hp : D.pend.length ≤ 50000) (h5 : D.pages.length ≤ 5000) (ho : JOk D J) :
 Calls Tryz.prog 62 #[v, .string S] w (GivesJ w F (jSave D J s)) := by
 have HH := hide h
 obtain ⟨A, n, c, B, m, b, rw_, rfl, h1, h2, h3⟩ := h
 obtain ⟨Ar, nr, cr, rfl, hnr, _, _⟩ := h2.formN
 have HSZ : Hid (S.size = s.length) := hide (by rw [hS, sv_size])
 have HF := hide hF
 have HRS : Hid (∀ W, Below w.heap.size w W → Rs W 0 (.slice Ar nr cr) J.records) := hide (fun W hW => h2.step hW)
 have HAP := hide h3
 have HXX : Hid (sv s = .string S) := hide (by rw [hS]; rfl)
 have ht := ho.turn
 have hh := half_le hs
 have HPG : Hid (∀ X : World, Calls Tryz.prog 41 #[.int .i64 (S.size : Int)] X fun e w' => e = .returned (.int .i64 (pagesN s.length : Nat)) ∧ X = w') := hide (fun X => by rw [HSZ.out]; exact rpages_c _ (by omega) X)
 have HHF : Hid (∀ X : World, Below w.heap.size w X → Calls Tryz.prog 50 #[rv (.slice A n c) (.slice B m b) D] X (Gives X (.int .i64 (half D : Nat)))) := hide (fun X k => rhalf_c F _ D X (h1.step k) hs)
 have HFI : Hid (∀ X : World, Below w.heap.size w X → Calls Tryz.prog 52 #[rv (.slice A n c) (.slice B m b) D, .int .i64 (J.turn + 1 : Nat)] X (Gives X (.int .i64 (first D (J.turn + 1) : Nat)))) := hide (fun X k => rfirst_c F _ D (J.turn + 1) (by omega) X (h1.step k) hs)
 have HPC : Hid (half D < pagesN s.length ∨ ∀ X : World, Below w.heap.size w X → Calls Tryz.prog 87 #[.int .i64 (first D (J.turn + 1) : Nat), .int .i64 (pagesN s.length : Nat)] X fun e w' => ∃ v, e = .returned v ∧ Ns w' X.heap.size v ((putL D (J.turn + 1) 0 0 s).map (·.1)) ∧ Below X.heap.size X w') := hide (by
  by_cases hj : half D < pagesN s.length
  ·exact .inl hj
  refine .inr fun X k => ?_
  have hfh := first_hi D (J.turn + 1) hs.lo
  rw [putL_fst]
  exact rplaces_c (first D (J.turn + 1)) (pagesN s.length) (by have := hs.hi; omega) (by omega) X)
 have HBK : Hid (∀ X : World, Below w.heap.size w X → Calls Tryz.prog 14 #[.int .i64 (J.turn + 1 : Nat), .int .i64 0, .string S] X (FreshP X ((putL D (J.turn + 1) 0 0 s).map (·.2)))) := hide (fun X k => by
  rw [putL_snd]
  exact rblock_c (J.turn + 1) 0 s S hS (by omega) (by omega) hl X)
 have HLE : Hid (half D < pagesN s.length ∨ (putL D (J.turn + 1) 0 0 s).length ≤ 5000) := hide (by
  by_cases hj : half D < pagesN s.length
  ·exact .inl hj
  refine .inr ?_
  rw [putL_len]
  unfold half at hj
  omega)
 obtain ⟨L, hL⟩ : ∃ L, putL D (J.turn + 1) 0 0 s = L := ⟨_, rfl⟩
 have HJP : Hid (jPut D (J.turn + 1) 0 0 s = dWrites D L) := hide (by rw [← hL]; rfl)
 rw [hL] at HPC HBK HLE
 obtain ⟨E, hE⟩ : ∃ E, E = dWrites D L := ⟨_, rfl⟩
 have HEB : Hid (half D < pagesN s.length ∨ E.1.pend.length ≤ 55000 ∧ E.1.pages.length ≤ 5000) := hide (HLE.out.imp id fun h5k => by
  rw [hE]
  have h1 := dWrites_pend L D
  have h2 := dWrites_plen L D
  omega)
 obtain ⟨E1, ec⟩ := E
 have HWR : Hid (L.length ≤ 5000 → ∀ (X : World) (va vp : Value) (M : List Nat), Below w.heap.size w X → (∀ j ∈ M, j < X.heap.size) → (∀ j ∈ M, w.heap.size ≤ j) → Ns X w.heap.size va (L.map (·.1)) → Pl X w.heap.size vp (L.map (·.2)) → Calls Tryz.prog 55 #[rv (.slice A n c) (.slice B m b) D, va, vp] X (GivesRE X (M ++ F) (E1, ec))) := hide (fun h5000 X va vp M k hM hM2 ha hp2 => by
  rw [hE]
  exact rwrite_c (M ++ F) _ va vp D L w.heap.size X (h1.plusR k M hM2) (fun j hm => by
   rcases List.mem_append.1 hm with hm | hm
   ·exact hM j hm
   ·exact Nat.lt_of_lt_of_le (HF.out j hm) k.size) ha hp2 h5000 (by omega) h5)
 have HHD : Hid (∀ X : World, Calls Tryz.prog 88 #[.int .i64 (J.turn + 1 : Nat)] X (Fresh X (hdrPage (J.turn + 1)))) := hide (fun X => rheader_c (J.turn + 1) (by omega) X)
 have HJA : Hid (jSave D J s = if J.broken then (D, J, 9) else if half D < pagesN s.length then (D, J, 8) else
  if ec = 0 then (if (dWrites E1 [((J.turn + 1) % 2, hdrPage (J.turn + 1))]).2 = 0 then ((dWrites E1 [((J.turn + 1) % 2, hdrPage (J.turn + 1))]).1, ⟨J.turn + 1, s, [], pagesN s.length, false⟩, 0) else ((dWrites E1 [((J.turn + 1) % 2, hdrPage (J.turn + 1))]).1, { J with broken := true }, (dWrites E1 [((J.turn + 1) % 2, hdrPage (J.turn + 1))]).2))
  else (E1, { J with broken := true }, ec)) := hide (by
  unfold jSave jSaved
  rw [HJP.out, ← hE]
  by_cases hb : J.broken = true
  ·rw [if_pos hb, if_pos hb]
  rw [if_neg hb, if_neg hb]
  by_cases hf : half D < pagesN s.length
  ·rw [if_pos hf, if_pos hf]
  rw [if_neg hf, if_neg hf]
  by_cases he : ec = 0
  ·subst he
   rfl
  ·dsimp only
   rw [if_neg he, if_neg he]
   dsimp only
   rw [if_neg he])
 obtain ⟨LA, hLA⟩ : ∃ x, L.map (·.1) = x := ⟨_, rfl⟩
 obtain ⟨LP, hLP⟩ : ∃ x, L.map (·.2) = x := ⟨_, rfl⟩
 rw [hLA] at HPC HWR
 rw [hLP] at HBK HWR
 have HBD := hide (And.intro ht (And.intro hh hl))
 dsimp only at HEB
 clear hL hE hLA hLP HJP hS hl h1 h2 h3 hF hs hp h5 ho hnr ht hh
 unfold rv at HFI HWR HHF
 obtain ⟨recs, hrecs⟩ : ∃ r, J.records = r := ⟨_, rfl⟩
 rw [hrecs] at HRS
 have HRC := hide hrecs
 generalize hfz : D.fuse = fz at *
 generalize hfl : D.failed = fl at *
 obtain ⟨st, hst⟩ : ∃ x, J.state = x := ⟨_, rfl⟩
 obtain ⟨br, hbr⟩ : ∃ x, J.broken = x := ⟨_, rfl⟩
 obtain ⟨zt, hzt⟩ : ∃ z : Int, (J.turn : Int) = z := ⟨_, rfl⟩
 obtain ⟨zu, hzu⟩ : ∃ z : Int, (J.used : Int) = z := ⟨_, rfl⟩
 obtain ⟨zn, hzn⟩ : ∃ z : Int, (pagesN s.length : Int) = z := ⟨_, rfl⟩
 obtain ⟨zf, hzf⟩ : ∃ z : Int, (first D (J.turn + 1) : Int) = z := ⟨_, rfl⟩
 obtain ⟨zh, hzh⟩ : ∃ z : Int, (half D : Int) = z := ⟨_, rfl⟩
 have hz1 : ((J.turn + 1 : Nat) : Int) = zt + 1 := by omega
 have HZ := hide (And.intro hzt (And.intro hzu (And.intro hzn (And.intro hzf hzh))))
 have HSB := hide (And.intro hst hbr)
 rw [hst, hbr, hzt, hzu] at HH
 rw [hst, hbr, hzt, hzu]
 rw [hzn] at HPG HPC
 rw [hz1, hzf] at HFI
 rw [hzf] at HPC
 rw [hz1] at HBK HHD
 rw [hzh] at HHF
 have t0 : 0 ≤ zt := by omega
 have t9 : zt ≤ 1099511628000 := by have := HBD.out; omega
 have n9 : zn ≤ 20000 := by have := pagesN_le s.length; have := HBD.out; omega
 have n0 : 1 ≤ zn := by have := pagesN_pos s.length; omega
 have f0 : 0 ≤ zf := by omega
 have w1 : IntKind.i64.wrap (zt + 1) = zt + 1 := IntWalk.i64_in _ (by omega)
 obtain ⟨zm, hzm⟩ : ∃ z : Int, (zt + 1) % 2 = z := ⟨_, rfl⟩
 have HZM : Hid (zm = (((J.turn + 1) % 2 : Nat) : Int)) := hide (by omega)
 have tm : (zt + 1).tmod 2 = zm := by rw [← hzm]; exact Int.tmod_eq_emod_of_nonneg (by omega)
 clear hzm hzt hzu hzn hzf hzh hz1 hst hbr hrecs hfz hfl
 cases br with
 | true =>
  have HW : Hid (jSave D J s = (D, J, 9)) := hide (by rw [HJA.out, if_pos HSB.out.2])
  have HO := hide (Own.nil w [] (by simp))
  go_enter Tryz.func62, Tryz.ntmps62
  go_wp2_with (first
   | ((with_reducible refine at_box 51 (.tmp 0) ?_); refine wpList_box_own HO.out rfl 51 (.tmp 0) rfl ([.slice A n c, .slice B m b, .int .i64 fz, .bool fl, .int .i64 zt, (sv st), .slice Ar nr cr, .int .i64 zu, .bool true]) rfl ?_; intro WA b2 hO; replace HO := hide hO; clear hO)
   | (((with_reducible refine at_alloc 51 ?_); refine wpList_alloc_own HO.out rfl 51 rfl (zjr) rjr_info ?_; intro WA b4 hO; replace HO := hide hO; clear hO; have k2 := HO.out.cells 0 rfl; refine Hid.out ?_)))
  refine hide ?_
  go_wp2_with (first
 | ((with_reducible refine at_load 51 (.tmp 2) ?_); refine wpList_load_own HO.out rfl 51 (.tmp 2) rfl 0 _ 0 9 _ _ ([.slice A n c, .slice B m b, .int .i64 fz, .bool fl, .int .i64 zt, (sv st), .slice Ar nr cr, .int .i64 zu, .bool true]) _ rfl (take_all rfl) rfl Tryz.underlying51 rfl rjr_size ?_)
 | ((with_reducible refine at_store 51 (.tmp 4) ?_); refine wpList_store_own HO.out rfl 51 (.tmp 4) (.tmp 12) rfl 1 _ 0 _ _ ([.slice A n c, .slice B m b, .int .i64 fz, .bool fl, .int .i64 zt, (sv st), .slice Ar nr cr, .int .i64 zu, .bool true]) ([.slice A n c, .slice B m b, .int .i64 fz, .bool fl, .int .i64 zt, (sv st), .slice Ar nr cr, .int .i64 zu, .bool true]) rfl (.agg ([.slice A n c, .slice B m b, .int .i64 fz, .bool fl, .int .i64 zt, (sv st), .slice Ar nr cr, .int .i64 zu, .bool true]).toArray) rfl rfl (fits_agg _) (by simp [zjr]) (splice_all rfl) rjr_size rfl ?_; intro WA hO; replace HO := hide hO; clear hO))
  refine bodyPost_ret (v := .tuple #[.agg ([.slice A n c, .slice B m b, .int .i64 fz, .bool fl, .int .i64 zt, (sv st), .slice Ar nr cr, .int .i64 zu, .bool true] : List Value).toArray, .int .i64 9]) (results_row_tmp rfl _ _ b4 51 ([.slice A n c, .slice B m b, .int .i64 fz, .bool fl, .int .i64 zt, (sv st), .slice Ar nr cr, .int .i64 zu, .bool true] : List Value).toArray (0, 0) _ _ rfl rfl (HO.out.blk 1 rfl) Tryz.underlying51 rfl rjr_size) rfl ?_
  exact ⟨_, by rw [HW.out], by rw [HW.out]; exact HH.out.step HO.out.below, HO.out.below⟩
 | false =>
  have HJ2 : Hid (jSave D J s = if half D < pagesN s.length then (D, J, 8) else
 if ec = 0 then (if (dWrites E1 [((J.turn + 1) % 2, hdrPage (J.turn + 1))]).2 = 0 then ((dWrites E1 [((J.turn + 1) % 2, hdrPage (J.turn + 1))]).1, ⟨J.turn + 1, s, [], pagesN s.length, false⟩, 0) else ((dWrites E1 [((J.turn + 1) % 2, hdrPage (J.turn + 1))]).1, { J with broken := true }, (dWrites E1 [((J.turn + 1) % 2, hdrPage (J.turn + 1))]).2))
 else (E1, { J with broken := true }, ec)) := hide (by rw [HJA.out, if_neg (by rw [HSB.out.2]; simp)])
  have HO := hide (Own.nil w [] (by simp))
  go_enter Tryz.func62, Tryz.ntmps62
  go_wp2_with (first
   | ((with_reducible refine at_box 51 (.tmp 0) ?_); refine wpList_box_own HO.out rfl 51 (.tmp 0) rfl ([.slice A n c, .slice B m b, .int .i64 fz, .bool fl, .int .i64 zt, (sv st), .slice Ar nr cr, .int .i64 zu, .bool false]) rfl ?_; intro WA b2 hO; replace HO := hide hO; clear hO)
   | (((with_reducible refine at_alloc 51 ?_); refine wpList_alloc_own HO.out rfl 51 rfl (zjr) rjr_info ?_; intro WA b4 hO; replace HO := hide hO; clear hO; have k2 := HO.out.cells 0 rfl; refine Hid.out ?_)))
  refine hide ?_
  go_wp2_with fail
  refine (HPG.out _).mono ?_
  rintro e w5 ⟨rfl, rfl⟩
  go_wp2_with (first
 | ((with_reducible refine at_load 32 (.tmp 17) ?_); refine wpList_load_own HO.out rfl 32 (.tmp 17) rfl 0 _ 0 4 _ _ ([.slice A n c, .slice B m b, .int .i64 fz, .bool fl]) _ rfl rfl rfl Tryz.underlying32 rfl rdisk_size ?_))
  refine (HHF.out _ HO.out.below).mono ?_
  rintro e w6 ⟨rfl, hb6⟩
  replace HO := hide (HO.out.step hb6)
  clear hb6 k2
  have k2 := HO.out.cells 0 rfl
  by_cases hfree : zh < zn
  ·have HW : Hid (jSave D J s = (D, J, 8)) := hide (by rw [HJ2.out, if_pos (by have := HZ.out; omega)])
   go_wp2_with (first
 | ((with_reducible refine at_load 51 (.tmp 2) ?_); refine wpList_load_own HO.out rfl 51 (.tmp 2) rfl 0 _ 0 9 _ _ ([.slice A n c, .slice B m b, .int .i64 fz, .bool fl, .int .i64 zt, (sv st), .slice Ar nr cr, .int .i64 zu, .bool false]) _ rfl (take_all rfl) rfl Tryz.underlying51 rfl rjr_size ?_)
 | ((with_reducible refine at_store 51 (.tmp 4) ?_); refine wpList_store_own HO.out rfl 51 (.tmp 4) (.tmp 21) rfl 1 _ 0 _ _ ([.slice A n c, .slice B m b, .int .i64 fz, .bool fl, .int .i64 zt, (sv st), .slice Ar nr cr, .int .i64 zu, .bool false]) ([.slice A n c, .slice B m b, .int .i64 fz, .bool fl, .int .i64 zt, (sv st), .slice Ar nr cr, .int .i64 zu, .bool false]) rfl (.agg ([.slice A n c, .slice B m b, .int .i64 fz, .bool fl, .int .i64 zt, (sv st), .slice Ar nr cr, .int .i64 zu, .bool false]).toArray) rfl rfl (fits_agg _) (by simp [zjr]) (splice_all rfl) rjr_size rfl ?_; intro WA hO; replace HO := hide hO; clear hO))
   refine bodyPost_ret (v := .tuple #[.agg ([.slice A n c, .slice B m b, .int .i64 fz, .bool fl, .int .i64 zt, (sv st), .slice Ar nr cr, .int .i64 zu, .bool false] : List Value).toArray, .int .i64 8]) (results_row_tmp rfl _ _ b4 51 ([.slice A n c, .slice B m b, .int .i64 fz, .bool fl, .int .i64 zt, (sv st), .slice Ar nr cr, .int .i64 zu, .bool false] : List Value).toArray (0, 0) _ _ rfl rfl (HO.out.blk 1 rfl) Tryz.underlying51 rfl rjr_size) rfl ?_
   exact ⟨_, by rw [HW.out], by rw [HW.out]; exact HH.out.step HO.out.below, HO.out.below⟩
  ·have HW : Hid (jSave D J s = if ec = 0 then (if (dWrites E1 [((J.turn + 1) % 2, hdrPage (J.turn + 1))]).2 = 0 then ((dWrites E1 [((J.turn + 1) % 2, hdrPage (J.turn + 1))]).1, ⟨J.turn + 1, s, [], pagesN s.length, false⟩, 0) else ((dWrites E1 [((J.turn + 1) % 2, hdrPage (J.turn + 1))]).1, { J with broken := true }, (dWrites E1 [((J.turn + 1) % 2, hdrPage (J.turn + 1))]).2))
 else (E1, { J with broken := true }, ec)) := hide (by rw [HJ2.out, if_neg (by have := HZ.out; omega)])
   have HNH : Hid (¬ half D < pagesN s.length) := hide (by have := HZ.out; omega)
   replace HPC := hide (HPC.out.resolve_left HNH.out)
   replace HWR := hide (HWR.out (HLE.out.resolve_left HNH.out))
   replace HEB := hide (HEB.out.resolve_left HNH.out)
   go_wp2_with fail
   refine wp_region_held_drew (S := fun W => (∀ j, W.cell? ⟨b2, j, none⟩ = ([.slice A n c, .slice B m b, .int .i64 fz, .bool fl, .int .i64 zt, (sv st), .slice Ar nr cr, .int .i64 zu, .bool false] : List Value)[j]?)) (by kernel_rfl) (HO.out.drew.cells 0 rfl) (fun hS0 => ?_)
   replace HO := hide HO.out.drew
   refine tk 0 ?_
   refine ty 1 (.agg ([.slice A n c, .slice B m b, .int .i64 fz, .bool fl] : List Value).toArray) rfl (yieldsIf_load rfl 32 (.tmp 26) rfl b2 0 4 32 ([.slice A n c, .slice B m b, .int .i64 fz, .bool fl, .int .i64 zt, (sv st), .slice Ar nr cr, .int .i64 zu, .bool false]) ([.slice A n c, .slice B m b, .int .i64 fz, .bool fl]) _ (fun w hw => hw) rfl rfl Tryz.underlying32 rfl rdisk_size) ?_
   refine tk 2 ?_
   refine ty 3 (.agg ([.slice A n c, .slice B m b, .int .i64 fz, .bool fl] : List Value).toArray) rfl (yieldsIf_load rfl 32 (.tmp 28) rfl b2 0 4 32 ([.slice A n c, .slice B m b, .int .i64 fz, .bool fl, .int .i64 zt, (sv st), .slice Ar nr cr, .int .i64 zu, .bool false]) ([.slice A n c, .slice B m b, .int .i64 fz, .bool fl]) _ (fun w hw => hw) rfl rfl Tryz.underlying32 rfl rdisk_size) ?_
   refine tk 4 ?_
   refine tk 6 ?_
   refine tk 8 ?_
   refine tk 9 ?_
   refine' rt_5 (I := fun (b7 : Nat) (va : Value) (vp : Value) (dv5 : Value) (pv5 : Value) W => (Own w [] [(b2, 51, [.slice A n c, .slice B m b, .int .i64 fz, .bool fl, .int .i64 zt, (sv st), .slice Ar nr cr, .int .i64 zu, .bool false]), (b4, 51, zjr), (b7, 32, zdk)] W) ∧ (Rf W ([b2, b4, b7] ++ F) (rv dv5 pv5 E1) E1)) (fun pTabfpw => ?_) ?_
   rotate_left
   refine' rt_3 (I := fun (b7 : Nat) (va : Value) (vp : Value) W => (Own w [] [(b2, 51, [.slice A n c, .slice B m b, .int .i64 fz, .bool fl, .int .i64 zt, (sv st), .slice Ar nr cr, .int .i64 zu, .bool false]), (b4, 51, zjr), (b7, 32, zdk)] W) ∧ (Ns W w.heap.size va LA) ∧ (Pl W w.heap.size vp LP)) (fun pTabfp => ?_) ?_
   rotate_left
   refine' rt_2 (I := fun (b7 : Nat) (va : Value) W => (Own w [] [(b2, 51, [.slice A n c, .slice B m b, .int .i64 fz, .bool fl, .int .i64 zt, (sv st), .slice Ar nr cr, .int .i64 zu, .bool false]), (b4, 51, zjr), (b7, 32, zdk)] W) ∧ (Ns W w.heap.size va LA)) (fun pTafp => ?_) ?_
   rotate_left
   refine' rt_1 (I := fun (b7 : Nat) W => Own w [] [(b2, 51, [.slice A n c, .slice B m b, .int .i64 fz, .bool fl, .int .i64 zt, (sv st), .slice Ar nr cr, .int .i64 zu, .bool false]), (b4, 51, zjr), (b7, 32, zdk)] W) (fun pTaf => ?_) ?_
   rotate_left
   ·refine wpAnyH_ready (rs := [5, 15]) (by kernel_rfl) (by simp) ?_
    refine AllReadyH.cons rfl (fun K hK => ?_) (AllReadyH.cons rfl (fun K hK => ?_) (AllReadyH.nil))
    ·go_simp
     refine (HFI.out _ HO.out.below).mono ?_
     rintro e w5 ⟨rfl, hb5⟩
     replace HO := hide (HO.out.step hb5)
     clear hb5
     refine hK.out _ _ (HO.out.cells 0 rfl) (fun _ => ?_)
     clear hK K
     try simp only [Act.put, qa, qb, qc, qd, qe, qf]
     refine wpAnyH_ready (rs := [7, 15]) (by kernel_rfl) (by simp) ?_
     refine AllReadyH.cons rfl (fun K hK => ?_) (AllReadyH.cons rfl (fun K hK => ?_) (AllReadyH.nil))
     ·go_simp
      have hws := HO.out.size
      refine (HPC.out _ HO.out.below).mono ?_
      rintro e w5 ⟨va, rfl, hn5, hb5⟩
      replace HO := hide (HO.out.step hb5)
      have HVA : Hid (Ns w5 w.heap.size va LA) := hide (hn5.mono hws)
      clear hn5 hb5 hws
      refine hK.out _ _ (HO.out.cells 0 rfl) (fun _ => ?_)
      clear hK K
      try simp only [Act.put, qa, qb, qc, qd, qe, qf]
      refine wpAnyH_ready (rs := [10, 15]) (by kernel_rfl) (by simp) ?_
      refine AllReadyH.cons rfl (fun K hK => ?_) (AllReadyH.cons rfl (fun K hK => ?_) (AllReadyH.nil))
      ·go_simp
       have hws := HO.out.size
       refine (HBK.out _ HO.out.below).mono ?_
       rintro e w5 ⟨vp, rfl, hn5, hb5⟩
       replace HO := hide (HO.out.step hb5)
       replace HVA := hide (HVA.out.step hb5)
       have HVP : Hid (Pl w5 w.heap.size vp LP) := hide (hn5.mono hws)
       clear hn5 hb5 hws
       refine hK.out _ _ (HO.out.cells 0 rfl) (fun _ => ?_)
       clear hK K
       try simp only [Act.put, qa, qb, qc, qd, qe, qf]
       refine wpAnyH_ready (rs := [11, 15]) (by kernel_rfl) (by simp) ?_
       refine AllReadyH.cons rfl (fun K hK => ?_) (AllReadyH.cons rfl (fun K hK => ?_) (AllReadyH.nil))
       ·go_simp
        refine (HWR.out _ va vp [b2, b4] HO.out.below (by simp only [List.mem_cons, List.not_mem_nil, or_false, forall_eq_or_imp, forall_eq]; exact ⟨(HO.out.blk 0 rfl).lt, (HO.out.blk 1 rfl).lt⟩) (by simp only [List.mem_cons, List.not_mem_nil, or_false, forall_eq_or_imp, forall_eq]; exact ⟨HO.out.new 0 rfl, HO.out.new 1 rfl⟩) HVA.out HVP.out).mono ?_
        rintro e w5 ⟨v5, rfl, hr5, hb5⟩
        obtain ⟨dv5, pv5, vs5, xs5, rfl, hk5⟩ := hr5
        replace HO := hide (HO.out.step hb5)
        have HR5 : Hid (Rf w5 ([b2, b4] ++ F) (rv dv5 pv5 E1) E1) := hide ⟨_, _, _, _, rfl, hk5⟩
        unfold rv
        try dsimp only
        clear hk5 hb5 HVA HVP
        refine hK.out _ _ (HO.out.cells 0 rfl) (fun _ => ?_)
        clear hK K
        try simp only [Act.put, qa, qb, qc, qd, qe, qf]
        refine tk 12 ?_
        refine tk 13 ?_
        refine tk 14 ?_
        refine tr1 15 fun K hK => ?_
        refine step_alloc_own_n HO.out rfl 32 rfl zdk rdk_info ?_
        intro WA b7 hb hO hbel
        replace HR5 := hide (HR5.out.plus3 hbel hb)
        replace HO := hide hO
        clear hO hbel hb
        refine hK.out _ _ (HO.out.cells 0 rfl) (fun _ => ?_)
        clear hK K
        try simp only [Act.put, qa, qb, qc, qd, qe, qf]
        exact pTabfpw b7 va vp dv5 pv5 _ ⟨HO.out, HR5.out⟩
       ·refine step_alloc_own_n HO.out rfl 32 rfl zdk rdk_info ?_
        intro WA b7 hb hO hbel
        replace HVA := hide (HVA.out.step hbel)
        replace HVP := hide (HVP.out.step hbel)
        replace HO := hide hO
        clear hO hbel hb
        refine hK.out _ _ (HO.out.cells 0 rfl) (fun _ => ?_)
        clear hK K
        try simp only [Act.put, qa, qb, qc, qd, qe, qf]
        exact pTabfp b7 va vp _ ⟨HO.out, HVA.out, HVP.out⟩
      ·refine step_alloc_own_n HO.out rfl 32 rfl zdk rdk_info ?_
       intro WA b7 hb hO hbel
       replace HVA := hide (HVA.out.step hbel)
       replace HO := hide hO
       clear hO hbel hb
       refine hK.out _ _ (HO.out.cells 0 rfl) (fun _ => ?_)
       clear hK K
       try simp only [Act.put, qa, qb, qc, qd, qe, qf]
       exact pTafp b7 va _ ⟨HO.out, HVA.out⟩
     ·refine step_alloc_own_n HO.out rfl 32 rfl zdk rdk_info ?_
      intro WA b7 hb hO hbel
      replace HO := hide hO
      clear hO hbel hb
      refine hK.out _ _ (HO.out.cells 0 rfl) (fun _ => ?_)
      clear hK K
      try simp only [Act.put, qa, qb, qc, qd, qe, qf]
      exact pTaf b7 _ HO.out
    ·refine step_alloc_own_n HO.out rfl 32 rfl zdk rdk_info ?_
     intro WA b7 hb hO hbel
     replace HO := hide hO
     clear hO hbel hb
     refine hK.out _ _ (HO.out.cells 0 rfl) (fun _ => ?_)
     clear hK K
     try simp only [Act.put, qa, qb, qc, qd, qe, qf]
     refine tr1 5 fun K hK => ?_
     go_simp
     refine (HFI.out _ HO.out.below).mono ?_
     rintro e w5 ⟨rfl, hb5⟩
     replace HO := hide (HO.out.step hb5)
     clear hb5
     refine hK.out _ _ (HO.out.cells 0 rfl) (fun _ => ?_)
     clear hK K
     try simp only [Act.put, qa, qb, qc, qd, qe, qf]
     exact pTaf b7 _ HO.out
   ·intro b7 WT hI
    have HO := hide hI
    clear hI
    have hSS : (fun W => (∀ j, W.cell? ⟨b2, j, none⟩ = ([.slice A n c, .slice B m b, .int .i64 fz, .bool fl, .int .i64 zt, (sv st), .slice Ar nr cr, .int .i64 zu, .bool false] : List Value)[j]?)) WT := HO.out.cells 0 rfl
    refine tr1 7 fun K hK => ?_
    go_simp
    have hws := HO.out.size
    refine (HPC.out _ HO.out.below).mono ?_
    rintro e w5 ⟨va, rfl, hn5, hb5⟩
    replace HO := hide (HO.out.step hb5)
    have HVA : Hid (Ns w5 w.heap.size va LA) := hide (hn5.mono hws)
    clear hn5 hb5 hws
    refine hK.out _ _ (HO.out.cells 0 rfl) (fun _ => ?_)
    clear hK K
    try simp only [Act.put, qa, qb, qc, qd, qe, qf]
    exact pTafp b7 va _ ⟨HO.out, HVA.out⟩
   ·intro b7 va WT hI
    obtain ⟨h0, h1⟩ := hI
    have HO := hide h0
    have HVA := hide h1
    clear h0 h1
    have hSS : (fun W => (∀ j, W.cell? ⟨b2, j, none⟩ = ([.slice A n c, .slice B m b, .int .i64 fz, .bool fl, .int .i64 zt, (sv st), .slice Ar nr cr, .int .i64 zu, .bool false] : List Value)[j]?)) WT := HO.out.cells 0 rfl
    refine tr1 10 fun K hK => ?_
    go_simp
    have hws := HO.out.size
    refine (HBK.out _ HO.out.below).mono ?_
    rintro e w5 ⟨vp, rfl, hn5, hb5⟩
    replace HO := hide (HO.out.step hb5)
    replace HVA := hide (HVA.out.step hb5)
    have HVP : Hid (Pl w5 w.heap.size vp LP) := hide (hn5.mono hws)
    clear hn5 hb5 hws
    refine hK.out _ _ (HO.out.cells 0 rfl) (fun _ => ?_)
    clear hK K
    try simp only [Act.put, qa, qb, qc, qd, qe, qf]
    exact pTabfp b7 va vp _ ⟨HO.out, HVA.out, HVP.out⟩
   ·intro b7 va vp WT hI
    obtain ⟨h0, h1, h2⟩ := hI
    have HO := hide h0
    have HVA := hide h1
    have HVP := hide h2
    clear h0 h1 h2
    have hSS : (fun W => (∀ j, W.cell? ⟨b2, j, none⟩ = ([.slice A n c, .slice B m b, .int .i64 fz, .bool fl, .int .i64 zt, (sv st), .slice Ar nr cr, .int .i64 zu, .bool false] : List Value)[j]?)) WT := HO.out.cells 0 rfl
    refine tr1 11 fun K hK => ?_
    go_simp
    refine (HWR.out _ va vp [b2, b4, b7] HO.out.below (by simp only [List.mem_cons, List.not_mem_nil, or_false, forall_eq_or_imp, forall_eq]; exact ⟨(HO.out.blk 0 rfl).lt, (HO.out.blk 1 rfl).lt, (HO.out.blk 2 rfl).lt⟩) (by simp only [List.mem_cons, List.not_mem_nil, or_false, forall_eq_or_imp, forall_eq]; exact ⟨HO.out.new 0 rfl, HO.out.new 1 rfl, HO.out.new 2 rfl⟩) HVA.out HVP.out).mono ?_
    rintro e w5 ⟨v5, rfl, hr5, hb5⟩
    obtain ⟨dv5, pv5, vs5, xs5, rfl, hk5⟩ := hr5
    replace HO := hide (HO.out.step hb5)
    have HR5 : Hid (Rf w5 ([b2, b4, b7] ++ F) (rv dv5 pv5 E1) E1) := hide ⟨_, _, _, _, rfl, hk5⟩
    unfold rv
    try dsimp only
    clear hk5 hb5 HVA HVP
    refine hK.out _ _ (HO.out.cells 0 rfl) (fun _ => ?_)
    clear hK K
    try simp only [Act.put, qa, qb, qc, qd, qe, qf]
    refine tk 12 ?_
    refine tk 13 ?_
    refine tk 14 ?_
    exact pTabfpw b7 va vp dv5 pv5 _ ⟨HO.out, HR5.out⟩
   ·intro b7 va vp dv5 pv5 WT hI
    obtain ⟨h0, h1⟩ := hI
    have HO := hide h0
    have HR5 := hide h1
    clear h0 h1
    have hSS : (fun W => (∀ j, W.cell? ⟨b2, j, none⟩ = ([.slice A n c, .slice B m b, .int .i64 fz, .bool fl, .int .i64 zt, (sv st), .slice Ar nr cr, .int .i64 zu, .bool false] : List Value)[j]?)) WT := HO.out.cells 0 rfl
    refine tr1 16 fun K hK => ?_
    obtain ⟨A5, n5, c5, B5, m5, b5, vs5, xs5, he5, hk5⟩ := HR5.out.form
    unfold rv at he5
    injection he5 with he5
    have h1 := congrArg (fun a : Array Value => a[0]?) he5
    have h2 := congrArg (fun a : Array Value => a[1]?) he5
    simp at h1 h2
    subst h1 h2
    clear hk5 he5
    unfold rv at HR5
    generalize HEQ : E1.fuse = fz5 at *
    generalize HEL : E1.failed = fl5 at *
    refine step_store_own_t HO.out rfl 32 (.tmp 8) (.tmp 38) rfl 2 _ 0 _ _ ([.slice A5 n5 c5, .slice B5 m5 b5, .int .i64 fz5, .bool fl5]) ([.slice A5 n5 c5, .slice B5 m5 b5, .int .i64 fz5, .bool fl5]) rfl (.agg ([.slice A5 n5 c5, .slice B5 m5 b5, .int .i64 fz5, .bool fl5] : List Value).toArray) rfl rfl (fits_agg _) (by simp [zdk]) (splice_all rfl) rdisk_size rfl ?_
    intro WA hO _ ht
    replace HR5 := hide (HR5.out.touch (ht.mono (by simp)) (fun j hj => .inl hj))
    replace HO := hide hO
    clear hO ht
    refine hK.out _ _ (HO.out.cells 0 rfl) (fun _ => ?_)
    clear hK K
    try simp only [Act.put, qa, qb, qc, qd, qe, qf]
    refine tk 17 ?_
    refine wpAnyH_done (by kernel_rfl) ?_ _
    by_cases he0 : ec = 0
    ·have hd0e : (ec == 0) = true := by simpa using he0
     obtain ⟨E2e, hE2⟩ : ∃ E, E = dWrites E1 [((J.turn + 1) % 2, hdrPage (J.turn + 1))] := ⟨_, rfl⟩
     obtain ⟨E2, ec2⟩ := E2e
     have HX2 : Hid (jSave D J s = if ec2 = 0 then (E2, ⟨J.turn + 1, s, [], pagesN s.length, false⟩, 0) else (E2, { J with broken := true }, ec2)) := hide (by rw [HW.out, if_pos he0, ← hE2])
     have HW2 : Hid (∀ (X : World) (va vp : Value), Below w.heap.size w X → (∀ j ∈ [b2, b4, b7], j < X.heap.size) → Rf X ([b2, b4, b7] ++ F) (.agg ([.slice A5 n5 c5, .slice B5 m5 b5, .int .i64 fz5, .bool fl5] : List Value).toArray) E1 → Ns X w.heap.size va [(J.turn + 1) % 2] → Pl X w.heap.size vp [hdrPage (J.turn + 1)] → Calls Tryz.prog 55 #[.agg ([.slice A5 n5 c5, .slice B5 m5 b5, .int .i64 fz5, .bool fl5] : List Value).toArray, va, vp] X (GivesRE X ([b2, b4, b7] ++ F) (E2, ec2))) := hide (fun X va vp k hM hr ha hp2 => by
      rw [hE2]
      exact rwrite_c ([b2, b4, b7] ++ F) _ va vp E1 [((J.turn + 1) % 2, hdrPage (J.turn + 1))] w.heap.size X hr (fun j hm => by
       rcases List.mem_append.1 hm with hm | hm
       ·exact hM j hm
       ·exact Nat.lt_of_lt_of_le (HF.out j hm) k.size) ha hp2 (by simp) (by have := HEB.out; omega) (by have := HEB.out; omega))
     clear hE2 he0 hS0
     replace HEQ5 := hide HEQ
     go_wp2_with fail
     refine wp_region_held_drew (S := fun _ => True) (by kernel_rfl) (trivial) (fun hS0 => ?_)
     replace HO := hide HO.out.drew
     replace HR5 := hide (HR5.out.step (below_drew _))
     refine tk 1 ?_
     refine tk 2 ?_
     refine tk 4 ?_
     refine' rt_3 (I := fun (bi : Nat) (vh : Value) (bp : Nat) W => (Own w [] [(b2, 51, [.slice A n c, .slice B m b, .int .i64 fz, .bool fl, .int .i64 zt, (sv st), .slice Ar nr cr, .int .i64 zu, .bool false]), (b4, 51, zjr), (b7, 32, [.slice A5 n5 c5, .slice B5 m5 b5, .int .i64 fz5, .bool fl5])] W) ∧ (Rf W ([b2, b4, b7] ++ F) (.agg ([.slice A5 n5 c5, .slice B5 m5 b5, .int .i64 fz5, .bool fl5] : List Value).toArray) E1) ∧ (Ns W w.heap.size (.slice (some ⟨bi, 0, none⟩) 1 1) [(J.turn + 1) % 2]) ∧ (Pl W w.heap.size (.slice (some ⟨bp, 0, none⟩) 1 1) [hdrPage (J.turn + 1)])) (fun yTdhil => ?_) ?_
     rotate_left
     refine' rt_2 (I := fun (bi : Nat) (vh : Value) W => (Own w [] [(b2, 51, [.slice A n c, .slice B m b, .int .i64 fz, .bool fl, .int .i64 zt, (sv st), .slice Ar nr cr, .int .i64 zu, .bool false]), (b4, 51, zjr), (b7, 32, [.slice A5 n5 c5, .slice B5 m5 b5, .int .i64 fz5, .bool fl5])] W) ∧ (Rf W ([b2, b4, b7] ++ F) (.agg ([.slice A5 n5 c5, .slice B5 m5 b5, .int .i64 fz5, .bool fl5] : List Value).toArray) E1) ∧ (Ns W w.heap.size (.slice (some ⟨bi, 0, none⟩) 1 1) [(J.turn + 1) % 2]) ∧ (Ow W w.heap.size vh (hdrPage (J.turn + 1)))) (fun yTdhi => ?_) ?_
     rotate_left
     refine' rt_2 (I := fun (vh : Value) (bp : Nat) W => (Own w [] [(b2, 51, [.slice A n c, .slice B m b, .int .i64 fz, .bool fl, .int .i64 zt, (sv st), .slice Ar nr cr, .int .i64 zu, .bool false]), (b4, 51, zjr), (b7, 32, [.slice A5 n5 c5, .slice B5 m5 b5, .int .i64 fz5, .bool fl5])] W) ∧ (Rf W ([b2, b4, b7] ++ F) (.agg ([.slice A5 n5 c5, .slice B5 m5 b5, .int .i64 fz5, .bool fl5] : List Value).toArray) E1) ∧ (Pl W w.heap.size (.slice (some ⟨bp, 0, none⟩) 1 1) [hdrPage (J.turn + 1)])) (fun yTdhl => ?_) ?_
     rotate_left
     refine' rt_3 (I := fun (bi : Nat) (vh : Value) (bp : Nat) W => (Own w [] [(b2, 51, [.slice A n c, .slice B m b, .int .i64 fz, .bool fl, .int .i64 zt, (sv st), .slice Ar nr cr, .int .i64 zu, .bool false]), (b4, 51, zjr), (b7, 32, [.slice A5 n5 c5, .slice B5 m5 b5, .int .i64 fz5, .bool fl5])] W) ∧ (Rf W ([b2, b4, b7] ++ F) (.agg ([.slice A5 n5 c5, .slice B5 m5 b5, .int .i64 fz5, .bool fl5] : List Value).toArray) E1) ∧ (Ns W w.heap.size (.slice (some ⟨bi, 0, none⟩) 1 1) [(J.turn + 1) % 2]) ∧ (Pl W w.heap.size (.slice (some ⟨bp, 0, none⟩) 1 1) [hdrPage (J.turn + 1)])) (fun yThil => ?_) ?_
     rotate_left
     refine' rt_1 (I := fun (bi : Nat) W => (Own w [] [(b2, 51, [.slice A n c, .slice B m b, .int .i64 fz, .bool fl, .int .i64 zt, (sv st), .slice Ar nr cr, .int .i64 zu, .bool false]), (b4, 51, zjr), (b7, 32, [.slice A5 n5 c5, .slice B5 m5 b5, .int .i64 fz5, .bool fl5])] W) ∧ (Rf W ([b2, b4, b7] ++ F) (.agg ([.slice A5 n5 c5, .slice B5 m5 b5, .int .i64 fz5, .bool fl5] : List Value).toArray) E1) ∧ (Ns W w.heap.size (.slice (some ⟨bi, 0, none⟩) 1 1) [(J.turn + 1) % 2])) (fun yTdi => ?_) ?_
     rotate_left
     refine' rt_1 (I := fun (vh : Value) W => (Own w [] [(b2, 51, [.slice A n c, .slice B m b, .int .i64 fz, .bool fl, .int .i64 zt, (sv st), .slice Ar nr cr, .int .i64 zu, .bool false]), (b4, 51, zjr), (b7, 32, [.slice A5 n5 c5, .slice B5 m5 b5, .int .i64 fz5, .bool fl5])] W) ∧ (Rf W ([b2, b4, b7] ++ F) (.agg ([.slice A5 n5 c5, .slice B5 m5 b5, .int .i64 fz5, .bool fl5] : List Value).toArray) E1) ∧ (Ow W w.heap.size vh (hdrPage (J.turn + 1)))) (fun yTdh => ?_) ?_
     rotate_left
     refine' rt_2 (I := fun (bi : Nat) (vh : Value) W => (Own w [] [(b2, 51, [.slice A n c, .slice B m b, .int .i64 fz, .bool fl, .int .i64 zt, (sv st), .slice Ar nr cr, .int .i64 zu, .bool false]), (b4, 51, zjr), (b7, 32, [.slice A5 n5 c5, .slice B5 m5 b5, .int .i64 fz5, .bool fl5])] W) ∧ (Rf W ([b2, b4, b7] ++ F) (.agg ([.slice A5 n5 c5, .slice B5 m5 b5, .int .i64 fz5, .bool fl5] : List Value).toArray) E1) ∧ (Ns W w.heap.size (.slice (some ⟨bi, 0, none⟩) 1 1) [(J.turn + 1) % 2]) ∧ (Ow W w.heap.size vh (hdrPage (J.turn + 1)))) (fun yThi => ?_) ?_
     rotate_left
     ·refine wpAnyH_ready (rs := [0, 3, 5]) (by kernel_rfl) (by simp) ?_
      refine AllReadyH.cons rfl (fun K hK => ?_) (AllReadyH.cons rfl (fun K hK => ?_) (AllReadyH.cons rfl (fun K hK => ?_) (AllReadyH.nil)))
      ·refine step_load_own HO.out rfl 32 (.tmp 8) rfl 2 _ 0 4 _ _ ([.slice A5 n5 c5, .slice B5 m5 b5, .int .i64 fz5, .bool fl5]) _ rfl (take_all rfl) rfl Tryz.underlying32 rfl rdisk_size ?_
       refine hK.out _ _ (trivial) (fun _ => ?_)
       clear hK K
       try simp only [Act.put, qa, qb, qc, qd, qe, qf]
       refine wpAnyH_ready (rs := [3, 5]) (by kernel_rfl) (by simp) ?_
       refine AllReadyH.cons rfl (fun K hK => ?_) (AllReadyH.cons rfl (fun K hK => ?_) (AllReadyH.nil))
       ·have hws := HO.out.size
        refine step_slice_new HO.out.size rfl 40 3 1 #[(0, .tmp 45)] rfl Tryz.underlying40 ([.int .i64 zm]) (by simpa [Act.eval] using built_si zm) ?_
        intro WA bi hbk hbn hbel
        replace HO := hide (HO.out.step hbel)
        replace HR5 := hide (HR5.out.step hbel)
        have HVI : Hid (Ns WA w.heap.size (.slice (some ⟨bi, 0, none⟩) 1 1) [(J.turn + 1) % 2]) := hide (Ns.of_blk hbk hbn HZM.out hws)
        clear hbk hbn hbel hws
        refine hK.out _ _ (trivial) (fun _ => ?_)
        clear hK K
        try simp only [Act.put, qa, qb, qc, qd, qe, qf]
        exact yTdi bi _ ⟨HO.out, HR5.out, HVI.out⟩
       ·go_simp
        have hws := HO.out.size
        refine (HHD.out _).mono ?_
        rintro e w5 ⟨vh, rfl, ho5, hb5⟩
        replace HO := hide (HO.out.step hb5)
        replace HR5 := hide (HR5.out.step hb5)
        have HVH : Hid (Ow w5 w.heap.size vh (hdrPage (J.turn + 1))) := hide (ho5.mono hws)
        clear ho5 hb5 hws
        refine hK.out _ _ (trivial) (fun _ => ?_)
        clear hK K
        try simp only [Act.put, qa, qb, qc, qd, qe, qf]
        exact yTdh vh _ ⟨HO.out, HR5.out, HVH.out⟩
      ·have hws := HO.out.size
       refine step_slice_new HO.out.size rfl 40 3 1 #[(0, .tmp 45)] rfl Tryz.underlying40 ([.int .i64 zm]) (by simpa [Act.eval] using built_si zm) ?_
       intro WA bi hbk hbn hbel
       replace HO := hide (HO.out.step hbel)
       replace HR5 := hide (HR5.out.step hbel)
       have HVI : Hid (Ns WA w.heap.size (.slice (some ⟨bi, 0, none⟩) 1 1) [(J.turn + 1) % 2]) := hide (Ns.of_blk hbk hbn HZM.out hws)
       clear hbk hbn hbel hws
       refine hK.out _ _ (trivial) (fun _ => ?_)
       clear hK K
       try simp only [Act.put, qa, qb, qc, qd, qe, qf]
       refine wpAnyH_ready (rs := [0, 5]) (by kernel_rfl) (by simp) ?_
       refine AllReadyH.cons rfl (fun K hK => ?_) (AllReadyH.cons rfl (fun K hK => ?_) (AllReadyH.nil))
       ·refine step_load_own HO.out rfl 32 (.tmp 8) rfl 2 _ 0 4 _ _ ([.slice A5 n5 c5, .slice B5 m5 b5, .int .i64 fz5, .bool fl5]) _ rfl (take_all rfl) rfl Tryz.underlying32 rfl rdisk_size ?_
        refine hK.out _ _ (trivial) (fun _ => ?_)
        clear hK K
        try simp only [Act.put, qa, qb, qc, qd, qe, qf]
        exact yTdi bi _ ⟨HO.out, HR5.out, HVI.out⟩
       ·go_simp
        have hws := HO.out.size
        refine (HHD.out _).mono ?_
        rintro e w5 ⟨vh, rfl, ho5, hb5⟩
        replace HO := hide (HO.out.step hb5)
        replace HR5 := hide (HR5.out.step hb5)
        replace HVI := hide (HVI.out.step hb5)
        have HVH : Hid (Ow w5 w.heap.size vh (hdrPage (J.turn + 1))) := hide (ho5.mono hws)
        clear ho5 hb5 hws
        refine hK.out _ _ (trivial) (fun _ => ?_)
        clear hK K
        try simp only [Act.put, qa, qb, qc, qd, qe, qf]
        exact yThi bi vh _ ⟨HO.out, HR5.out, HVI.out, HVH.out⟩
      ·go_simp
       have hws := HO.out.size
       refine (HHD.out _).mono ?_
       rintro e w5 ⟨vh, rfl, ho5, hb5⟩
       replace HO := hide (HO.out.step hb5)
       replace HR5 := hide (HR5.out.step hb5)
       have HVH : Hid (Ow w5 w.heap.size vh (hdrPage (J.turn + 1))) := hide (ho5.mono hws)
       clear ho5 hb5 hws
       refine hK.out _ _ (trivial) (fun _ => ?_)
       clear hK K
       try simp only [Act.put, qa, qb, qc, qd, qe, qf]
       refine wpAnyH_ready (rs := [0, 3, 6]) (by kernel_rfl) (by simp) ?_
       refine AllReadyH.cons rfl (fun K hK => ?_) (AllReadyH.cons rfl (fun K hK => ?_) (AllReadyH.cons rfl (fun K hK => ?_) (AllReadyH.nil)))
       ·refine step_load_own HO.out rfl 32 (.tmp 8) rfl 2 _ 0 4 _ _ ([.slice A5 n5 c5, .slice B5 m5 b5, .int .i64 fz5, .bool fl5]) _ rfl (take_all rfl) rfl Tryz.underlying32 rfl rdisk_size ?_
        refine hK.out _ _ (trivial) (fun _ => ?_)
        clear hK K
        try simp only [Act.put, qa, qb, qc, qd, qe, qf]
        exact yTdh vh _ ⟨HO.out, HR5.out, HVH.out⟩
       ·have hws := HO.out.size
        refine step_slice_new HO.out.size rfl 40 3 1 #[(0, .tmp 45)] rfl Tryz.underlying40 ([.int .i64 zm]) (by simpa [Act.eval] using built_si zm) ?_
        intro WA bi hbk hbn hbel
        replace HO := hide (HO.out.step hbel)
        replace HR5 := hide (HR5.out.step hbel)
        replace HVH := hide (HVH.out.step hbel)
        have HVI : Hid (Ns WA w.heap.size (.slice (some ⟨bi, 0, none⟩) 1 1) [(J.turn + 1) % 2]) := hide (Ns.of_blk hbk hbn HZM.out hws)
        clear hbk hbn hbel hws
        refine hK.out _ _ (trivial) (fun _ => ?_)
        clear hK K
        try simp only [Act.put, qa, qb, qc, qd, qe, qf]
        exact yThi bi vh _ ⟨HO.out, HR5.out, HVI.out, HVH.out⟩
       ·have hws := HO.out.size
        have hvf := HVH.out.formN
        obtain ⟨Ah, mh, ch, hvh, _, _, _⟩ := hvf
        refine step_slice_new HO.out.size rfl 22 35 1 #[(0, .tmp 48)] rfl Tryz.underlying22 ([vh]) (by simpa [Act.eval] using built_sp vh (by rw [hvh]; rfl)) ?_
        intro WA bp hbk hbn hbel
        have HVP : Hid (Pl WA w.heap.size (.slice (some ⟨bp, 0, none⟩) 1 1) [hdrPage (J.turn + 1)]) := hide (Pl.of_blk hbk hbn HVH.out hbel hws)
        replace HO := hide (HO.out.step hbel)
        replace HR5 := hide (HR5.out.step hbel)
        clear hbk hbn hbel HVH hvh hws
        refine hK.out _ _ (trivial) (fun _ => ?_)
        clear hK K
        try simp only [Act.put, qa, qb, qc, qd, qe, qf]
        refine wpAnyH_ready (rs := [0, 3]) (by kernel_rfl) (by simp) ?_
        refine AllReadyH.cons rfl (fun K hK => ?_) (AllReadyH.cons rfl (fun K hK => ?_) (AllReadyH.nil))
        ·refine step_load_own HO.out rfl 32 (.tmp 8) rfl 2 _ 0 4 _ _ ([.slice A5 n5 c5, .slice B5 m5 b5, .int .i64 fz5, .bool fl5]) _ rfl (take_all rfl) rfl Tryz.underlying32 rfl rdisk_size ?_
         refine hK.out _ _ (trivial) (fun _ => ?_)
         clear hK K
         try simp only [Act.put, qa, qb, qc, qd, qe, qf]
         exact yTdhl vh bp _ ⟨HO.out, HR5.out, HVP.out⟩
        ·have hws := HO.out.size
         refine step_slice_new HO.out.size rfl 40 3 1 #[(0, .tmp 45)] rfl Tryz.underlying40 ([.int .i64 zm]) (by simpa [Act.eval] using built_si zm) ?_
         intro WA bi hbk hbn hbel
         replace HO := hide (HO.out.step hbel)
         replace HR5 := hide (HR5.out.step hbel)
         replace HVP := hide (HVP.out.step hbel)
         have HVI : Hid (Ns WA w.heap.size (.slice (some ⟨bi, 0, none⟩) 1 1) [(J.turn + 1) % 2]) := hide (Ns.of_blk hbk hbn HZM.out hws)
         clear hbk hbn hbel hws
         refine hK.out _ _ (trivial) (fun _ => ?_)
         clear hK K
         try simp only [Act.put, qa, qb, qc, qd, qe, qf]
         exact yThil bi vh bp _ ⟨HO.out, HR5.out, HVI.out, HVP.out⟩
     ·intro bi vh WT hI
      obtain ⟨h0, h1, h2, h3⟩ := hI
      have HO := hide h0
      have HR5 := hide h1
      have HVI := hide h2
      have HVH := hide h3
      clear h0 h1 h2 h3
      have hSS : (fun _ => True) WT := trivial
      refine wpAnyH_ready (rs := [0, 6]) (by kernel_rfl) (by simp) ?_
      refine AllReadyH.cons rfl (fun K hK => ?_) (AllReadyH.cons rfl (fun K hK => ?_) (AllReadyH.nil))
      ·refine step_load_own HO.out rfl 32 (.tmp 8) rfl 2 _ 0 4 _ _ ([.slice A5 n5 c5, .slice B5 m5 b5, .int .i64 fz5, .bool fl5]) _ rfl (take_all rfl) rfl Tryz.underlying32 rfl rdisk_size ?_
       refine hK.out _ _ (trivial) (fun _ => ?_)
       clear hK K
       try simp only [Act.put, qa, qb, qc, qd, qe, qf]
       exact yTdhi bi vh _ ⟨HO.out, HR5.out, HVI.out, HVH.out⟩
      ·have hws := HO.out.size
       have hvf := HVH.out.formN
       obtain ⟨Ah, mh, ch, hvh, _, _, _⟩ := hvf
       refine step_slice_new HO.out.size rfl 22 35 1 #[(0, .tmp 48)] rfl Tryz.underlying22 ([vh]) (by simpa [Act.eval] using built_sp vh (by rw [hvh]; rfl)) ?_
       intro WA bp hbk hbn hbel
       have HVP : Hid (Pl WA w.heap.size (.slice (some ⟨bp, 0, none⟩) 1 1) [hdrPage (J.turn + 1)]) := hide (Pl.of_blk hbk hbn HVH.out hbel hws)
       replace HO := hide (HO.out.step hbel)
       replace HR5 := hide (HR5.out.step hbel)
       replace HVI := hide (HVI.out.step hbel)
       clear hbk hbn hbel HVH hvh hws
       refine hK.out _ _ (trivial) (fun _ => ?_)
       clear hK K
       try simp only [Act.put, qa, qb, qc, qd, qe, qf]
       exact yThil bi vh bp _ ⟨HO.out, HR5.out, HVI.out, HVP.out⟩
     ·intro vh WT hI
      obtain ⟨h0, h1, h2⟩ := hI
      have HO := hide h0
      have HR5 := hide h1
      have HVH := hide h2
      clear h0 h1 h2
      have hSS : (fun _ => True) WT := trivial
      refine wpAnyH_ready (rs := [3, 6]) (by kernel_rfl) (by simp) ?_
      refine AllReadyH.cons rfl (fun K hK => ?_) (AllReadyH.cons rfl (fun K hK => ?_) (AllReadyH.nil))
      ·have hws := HO.out.size
       refine step_slice_new HO.out.size rfl 40 3 1 #[(0, .tmp 45)] rfl Tryz.underlying40 ([.int .i64 zm]) (by simpa [Act.eval] using built_si zm) ?_
       intro WA bi hbk hbn hbel
       replace HO := hide (HO.out.step hbel)
       replace HR5 := hide (HR5.out.step hbel)
       replace HVH := hide (HVH.out.step hbel)
       have HVI : Hid (Ns WA w.heap.size (.slice (some ⟨bi, 0, none⟩) 1 1) [(J.turn + 1) % 2]) := hide (Ns.of_blk hbk hbn HZM.out hws)
       clear hbk hbn hbel hws
       refine hK.out _ _ (trivial) (fun _ => ?_)
       clear hK K
       try simp only [Act.put, qa, qb, qc, qd, qe, qf]
       exact yTdhi bi vh _ ⟨HO.out, HR5.out, HVI.out, HVH.out⟩
      ·have hws := HO.out.size
       have hvf := HVH.out.formN
       obtain ⟨Ah, mh, ch, hvh, _, _, _⟩ := hvf
       refine step_slice_new HO.out.size rfl 22 35 1 #[(0, .tmp 48)] rfl Tryz.underlying22 ([vh]) (by simpa [Act.eval] using built_sp vh (by rw [hvh]; rfl)) ?_
       intro WA bp hbk hbn hbel
       have HVP : Hid (Pl WA w.heap.size (.slice (some ⟨bp, 0, none⟩) 1 1) [hdrPage (J.turn + 1)]) := hide (Pl.of_blk hbk hbn HVH.out hbel hws)
       replace HO := hide (HO.out.step hbel)
       replace HR5 := hide (HR5.out.step hbel)
       clear hbk hbn hbel HVH hvh hws
       refine hK.out _ _ (trivial) (fun _ => ?_)
       clear hK K
       try simp only [Act.put, qa, qb, qc, qd, qe, qf]
       exact yTdhl vh bp _ ⟨HO.out, HR5.out, HVP.out⟩
     ·intro bi WT hI
      obtain ⟨h0, h1, h2⟩ := hI
      have HO := hide h0
      have HR5 := hide h1
      have HVI := hide h2
      clear h0 h1 h2
      have hSS : (fun _ => True) WT := trivial
      refine tr1 5 fun K hK => ?_
      go_simp
      have hws := HO.out.size
      refine (HHD.out _).mono ?_
      rintro e w5 ⟨vh, rfl, ho5, hb5⟩
      replace HO := hide (HO.out.step hb5)
      replace HR5 := hide (HR5.out.step hb5)
      replace HVI := hide (HVI.out.step hb5)
      have HVH : Hid (Ow w5 w.heap.size vh (hdrPage (J.turn + 1))) := hide (ho5.mono hws)
      clear ho5 hb5 hws
      refine hK.out _ _ (trivial) (fun _ => ?_)
      clear hK K
      try simp only [Act.put, qa, qb, qc, qd, qe, qf]
      exact yTdhi bi vh _ ⟨HO.out, HR5.out, HVI.out, HVH.out⟩
     ·intro bi vh bp WT hI
      obtain ⟨h0, h1, h2, h3⟩ := hI
      have HO := hide h0
      have HR5 := hide h1
      have HVI := hide h2
      have HVP := hide h3
      clear h0 h1 h2 h3
      have hSS : (fun _ => True) WT := trivial
      refine tr1 0 fun K hK => ?_
      refine step_load_own HO.out rfl 32 (.tmp 8) rfl 2 _ 0 4 _ _ ([.slice A5 n5 c5, .slice B5 m5 b5, .int .i64 fz5, .bool fl5]) _ rfl (take_all rfl) rfl Tryz.underlying32 rfl rdisk_size ?_
      refine hK.out _ _ (trivial) (fun _ => ?_)
      clear hK K
      try simp only [Act.put, qa, qb, qc, qd, qe, qf]
      exact yTdhil bi vh bp _ ⟨HO.out, HR5.out, HVI.out, HVP.out⟩
     ·intro vh bp WT hI
      obtain ⟨h0, h1, h2⟩ := hI
      have HO := hide h0
      have HR5 := hide h1
      have HVP := hide h2
      clear h0 h1 h2
      have hSS : (fun _ => True) WT := trivial
      refine tr1 3 fun K hK => ?_
      have hws := HO.out.size
      refine step_slice_new HO.out.size rfl 40 3 1 #[(0, .tmp 45)] rfl Tryz.underlying40 ([.int .i64 zm]) (by simpa [Act.eval] using built_si zm) ?_
      intro WA bi hbk hbn hbel
      replace HO := hide (HO.out.step hbel)
      replace HR5 := hide (HR5.out.step hbel)
      replace HVP := hide (HVP.out.step hbel)
      have HVI : Hid (Ns WA w.heap.size (.slice (some ⟨bi, 0, none⟩) 1 1) [(J.turn + 1) % 2]) := hide (Ns.of_blk hbk hbn HZM.out hws)
      clear hbk hbn hbel hws
      refine hK.out _ _ (trivial) (fun _ => ?_)
      clear hK K
      try simp only [Act.put, qa, qb, qc, qd, qe, qf]
      exact yTdhil bi vh bp _ ⟨HO.out, HR5.out, HVI.out, HVP.out⟩
     ·intro bi vh WT hI
      obtain ⟨h0, h1, h2, h3⟩ := hI
      have HO := hide h0
      have HR5 := hide h1
      have HVI := hide h2
      have HVH := hide h3
      clear h0 h1 h2 h3
      have hSS : (fun _ => True) WT := trivial
      refine tr1 6 fun K hK => ?_
      have hws := HO.out.size
      have hvf := HVH.out.formN
      obtain ⟨Ah, mh, ch, hvh, _, _, _⟩ := hvf
      refine step_slice_new HO.out.size rfl 22 35 1 #[(0, .tmp 48)] rfl Tryz.underlying22 ([vh]) (by simpa [Act.eval] using built_sp vh (by rw [hvh]; rfl)) ?_
      intro WA bp hbk hbn hbel
      have HVP : Hid (Pl WA w.heap.size (.slice (some ⟨bp, 0, none⟩) 1 1) [hdrPage (J.turn + 1)]) := hide (Pl.of_blk hbk hbn HVH.out hbel hws)
      replace HO := hide (HO.out.step hbel)
      replace HR5 := hide (HR5.out.step hbel)
      replace HVI := hide (HVI.out.step hbel)
      clear hbk hbn hbel HVH hvh hws
      refine hK.out _ _ (trivial) (fun _ => ?_)
      clear hK K
      try simp only [Act.put, qa, qb, qc, qd, qe, qf]
      exact yTdhil bi vh bp _ ⟨HO.out, HR5.out, HVI.out, HVP.out⟩
     ·intro bi vh bp WT hI
      obtain ⟨h0, h1, h2, h3⟩ := hI
      have HO := hide h0
      have HR5 := hide h1
      have HVI := hide h2
      have HVP := hide h3
      clear h0 h1 h2 h3
      have hSS : (fun _ => True) WT := trivial
      refine tr1 7 fun K hK => ?_
      go_simp
      refine (HW2.out _ _ _ HO.out.below (by simp only [List.mem_cons, List.not_mem_nil, or_false, forall_eq_or_imp, forall_eq]; exact ⟨(HO.out.blk 0 rfl).lt, (HO.out.blk 1 rfl).lt, (HO.out.blk 2 rfl).lt⟩) HR5.out HVI.out HVP.out).mono ?_
      rintro e w5 ⟨v5, rfl, hr5, hb5⟩
      obtain ⟨dv6, pv6, vs6, xs6, rfl, hk6⟩ := hr5
      replace HO := hide (HO.out.step hb5)
      have HR6 : Hid (Rf w5 ([b2, b4, b7] ++ F) (rv dv6 pv6 E2) E2) := hide ⟨_, _, _, _, rfl, hk6⟩
      unfold rv
      try dsimp only
      clear hk6 hb5 HVI HVP HR5
      refine hK.out _ _ (trivial) (fun _ => ?_)
      clear hK K
      try simp only [Act.put, qa, qb, qc, qd, qe, qf]
      refine tk 8 ?_
      refine tk 9 ?_
      refine tk 10 ?_
      refine tr1 11 fun K hK => ?_
      obtain ⟨A6, n6, c6, B6, m6, b6, vs6, xs6, he6, hk6⟩ := HR6.out.form
      unfold rv at he6
      injection he6 with he6
      have h1 := congrArg (fun a : Array Value => a[0]?) he6
      have h2 := congrArg (fun a : Array Value => a[1]?) he6
      simp at h1 h2
      subst h1 h2
      clear hk6 he6
      unfold rv at HR6
      generalize HEQ : E2.fuse = fz6 at *
      generalize HEL : E2.failed = fl6 at *
      refine step_store_own_t HO.out rfl 32 (.tmp 8) (.tmp 51) rfl 2 _ 0 _ _ ([.slice A6 n6 c6, .slice B6 m6 b6, .int .i64 fz6, .bool fl6]) ([.slice A6 n6 c6, .slice B6 m6 b6, .int .i64 fz6, .bool fl6]) rfl (.agg ([.slice A6 n6 c6, .slice B6 m6 b6, .int .i64 fz6, .bool fl6] : List Value).toArray) rfl rfl (fits_agg _) (by simp) (splice_all rfl) rdisk_size rfl ?_
      intro WA hO _ ht
      replace HR6 := hide (HR6.out.touch (ht.mono (by simp)) (fun j hj => .inl hj))
      replace HO := hide hO
      clear hO ht
      refine hK.out _ _ (trivial) (fun _ => ?_)
      clear hK K
      try simp only [Act.put, qa, qb, qc, qd, qe, qf]
      refine tk 12 ?_
      refine wpAnyH_done (by kernel_rfl) ?_ _
      by_cases he2 : ec2 = 0
      ·have hd2 : (ec2 != 0) = false := by simpa using he2
       have HY : Hid (jSave D J s = (E2, ⟨J.turn + 1, s, [], pagesN s.length, false⟩, 0)) := hide (by rw [HX2.out, if_pos he2])
       go_wp2_with (first
        | ((with_reducible refine at_load 32 (.tmp 8) ?_); refine wpList_load_own HO.out rfl 32 (.tmp 8) rfl 2 _ 0 4 _ _ ([.slice A6 n6 c6, .slice B6 m6 b6, .int .i64 fz6, .bool fl6]) _ rfl (take_all rfl) rfl Tryz.underlying32 rfl rdisk_size ?_)
        | ((with_reducible refine at_store 32 (.tmp 54) ?_); refine wpList_store_own_t HO.out rfl 32 (.tmp 54) (.tmp 53) rfl 0 _ 0 _ _ ([.slice A6 n6 c6, .slice B6 m6 b6, .int .i64 fz6, .bool fl6]) ([.slice A6 n6 c6, .slice B6 m6 b6, .int .i64 fz6, .bool fl6, .int .i64 zt, (sv st), .slice Ar nr cr, .int .i64 zu, .bool false]) rfl (.agg ([.slice A6 n6 c6, .slice B6 m6 b6, .int .i64 fz6, .bool fl6] : List Value).toArray) rfl rfl (fits_agg _) (by simp) rfl rdisk_size rfl ?_; intro WA hO _ ht; replace HR6 := hide (HR6.out.touch (ht.mono (by simp)) (fun j hj => .inl hj)); replace HO := hide hO; clear hO ht; have k2 := HO.out.cells 0 rfl)
        | (refine wpList_build rfl 51 _ rfl ([(0, .agg ([.slice A6 n6 c6, .slice B6 m6 b6, .int .i64 fz6, .bool fl6] : List Value).toArray), (1, .int .i64 (zt + 1)), (2, .string S), (4, .int .i64 zn)]) (by first | (simp [Act.eval]; done) | (simp [Act.eval]; rfl)) (([.slice A6 n6 c6, .slice B6 m6 b6, .int .i64 fz6, .bool fl6, .int .i64 (zt + 1), .string S, .slice none 0 0, .int .i64 zn, .bool false] : List Value)).toArray (built_j2 _ _ _ _ _ _ fz6 fl6 (zt + 1) zn S) ?_)
        | ((with_reducible refine at_store 51 (.tmp 4) ?_); refine wpList_store_own_t HO.out rfl 51 (.tmp 4) (.tmp 64) rfl 1 _ 0 _ _ ([.slice A6 n6 c6, .slice B6 m6 b6, .int .i64 fz6, .bool fl6, .int .i64 (zt + 1), .string S, .slice none 0 0, .int .i64 zn, .bool false]) ([.slice A6 n6 c6, .slice B6 m6 b6, .int .i64 fz6, .bool fl6, .int .i64 (zt + 1), .string S, .slice none 0 0, .int .i64 zn, .bool false]) rfl (.agg ([.slice A6 n6 c6, .slice B6 m6 b6, .int .i64 fz6, .bool fl6, .int .i64 (zt + 1), .string S, .slice none 0 0, .int .i64 zn, .bool false] : List Value).toArray) rfl rfl (fits_agg _) (by simp [zjr]) (splice_all rfl) rjr_size rfl ?_; intro WA hO _ ht; replace HR6 := hide (HR6.out.touch (ht.mono (by simp)) (fun j hj => .inl hj)); replace HO := hide hO; clear hO ht))
       refine bodyPost_ret (v := .tuple #[.agg ([.slice A6 n6 c6, .slice B6 m6 b6, .int .i64 fz6, .bool fl6, .int .i64 (zt + 1), .string S, .slice none 0 0, .int .i64 zn, .bool false] : List Value).toArray, .int .i64 0]) (results_row_tmp rfl _ _ b4 51 ([.slice A6 n6 c6, .slice B6 m6 b6, .int .i64 fz6, .bool fl6, .int .i64 (zt + 1), .string S, .slice none 0 0, .int .i64 zn, .bool false] : List Value).toArray (0, 0) _ _ rfl rfl (HO.out.blk 1 rfl) Tryz.underlying51 rfl rjr_size) rfl ?_
       refine ⟨_, by rw [HY.out], ?_, HO.out.below⟩
       rw [HY.out]
       exact ⟨A6, n6, c6, B6, m6, b6, _, by dsimp only; rw [HEQ, HEL, HXX.out, Int.natCast_add, HZ.out.1, HZ.out.2.2.1]; rfl, by unfold rv; rw [HEQ, HEL]; exact HR6.out.lessR (by intro j hj; simp only [List.cons_append, List.nil_append, List.mem_cons]; exact .inr (.inr (.inr hj))), Rs.nil _ _, fun j hj => by cases hj⟩
      ·have hd2 : (ec2 != 0) = true := by simpa using he2
       have HY : Hid (jSave D J s = (E2, { J with broken := true }, ec2)) := hide (by rw [HX2.out, if_neg he2])
       go_wp2_with (first
        | ((with_reducible refine at_load 32 (.tmp 8) ?_); refine wpList_load_own HO.out rfl 32 (.tmp 8) rfl 2 _ 0 4 _ _ ([.slice A6 n6 c6, .slice B6 m6 b6, .int .i64 fz6, .bool fl6]) _ rfl (take_all rfl) rfl Tryz.underlying32 rfl rdisk_size ?_)
        | ((with_reducible refine at_store 32 (.tmp 54) ?_); refine wpList_store_own_t HO.out rfl 32 (.tmp 54) (.tmp 53) rfl 0 _ 0 _ _ ([.slice A6 n6 c6, .slice B6 m6 b6, .int .i64 fz6, .bool fl6]) ([.slice A6 n6 c6, .slice B6 m6 b6, .int .i64 fz6, .bool fl6, .int .i64 zt, (sv st), .slice Ar nr cr, .int .i64 zu, .bool false]) rfl (.agg ([.slice A6 n6 c6, .slice B6 m6 b6, .int .i64 fz6, .bool fl6] : List Value).toArray) rfl rfl (fits_agg _) (by simp) rfl rdisk_size rfl ?_; intro WA hO _ ht; replace HR6 := hide (HR6.out.touch (ht.mono (by simp)) (fun j hj => .inl hj)); replace HO := hide hO; clear hO ht; have k2 := HO.out.cells 0 rfl)
        | ((with_reducible refine at_store 4 (.tmp 57) ?_); refine wpList_store_own_t HO.out rfl 4 (.tmp 57) (.const (.bool true)) rfl 0 _ 8 _ _ ([.bool true]) ([.slice A6 n6 c6, .slice B6 m6 b6, .int .i64 fz6, .bool fl6, .int .i64 zt, (sv st), .slice Ar nr cr, .int .i64 zu, .bool true]) rfl (.bool true) rfl rfl (fits_one rfl) (by simp) rfl rbool_size rfl ?_; intro WA hO _ ht; replace HR6 := hide (HR6.out.touch (ht.mono (by simp)) (fun j hj => .inl hj)); replace HO := hide hO; clear hO ht)
        | ((with_reducible refine at_load 51 (.tmp 2) ?_); refine wpList_load_own HO.out rfl 51 (.tmp 2) rfl 0 _ 0 9 _ _ ([.slice A6 n6 c6, .slice B6 m6 b6, .int .i64 fz6, .bool fl6, .int .i64 zt, (sv st), .slice Ar nr cr, .int .i64 zu, .bool true]) _ rfl (take_all rfl) rfl Tryz.underlying51 rfl rjr_size ?_)
        | ((with_reducible refine at_store 51 (.tmp 4) ?_); refine wpList_store_own_t HO.out rfl 51 (.tmp 4) (.tmp 58) rfl 1 _ 0 _ _ ([.slice A6 n6 c6, .slice B6 m6 b6, .int .i64 fz6, .bool fl6, .int .i64 zt, (sv st), .slice Ar nr cr, .int .i64 zu, .bool true]) ([.slice A6 n6 c6, .slice B6 m6 b6, .int .i64 fz6, .bool fl6, .int .i64 zt, (sv st), .slice Ar nr cr, .int .i64 zu, .bool true]) rfl (.agg ([.slice A6 n6 c6, .slice B6 m6 b6, .int .i64 fz6, .bool fl6, .int .i64 zt, (sv st), .slice Ar nr cr, .int .i64 zu, .bool true] : List Value).toArray) rfl rfl (fits_agg _) (by simp [zjr]) (splice_all rfl) rjr_size rfl ?_; intro WA hO _ ht; replace HR6 := hide (HR6.out.touch (ht.mono (by simp)) (fun j hj => .inl hj)); replace HO := hide hO; clear hO ht))
       refine bodyPost_ret (v := .tuple #[.agg ([.slice A6 n6 c6, .slice B6 m6 b6, .int .i64 fz6, .bool fl6, .int .i64 zt, (sv st), .slice Ar nr cr, .int .i64 zu, .bool true] : List Value).toArray, .int .i64 ec2]) (results_row_tmp rfl _ _ b4 51 ([.slice A6 n6 c6, .slice B6 m6 b6, .int .i64 fz6, .bool fl6, .int .i64 zt, (sv st), .slice Ar nr cr, .int .i64 zu, .bool true] : List Value).toArray (0, 0) _ _ rfl rfl (HO.out.blk 1 rfl) Tryz.underlying51 rfl rjr_size) rfl ?_
       refine ⟨_, by rw [HY.out], ?_, HO.out.below⟩
       rw [HY.out]
       exact ⟨A6, n6, c6, B6, m6, b6, _, by dsimp only; rw [HEQ, HEL, HZ.out.1, HSB.out.1, HZ.out.2.1], by unfold rv; rw [HEQ, HEL]; exact HR6.out.lessR (by intro j hj; simp only [List.cons_append, List.nil_append, List.mem_cons]; exact .inr (.inr (.inr hj))), by dsimp only; rw [HRC.out]; exact HRS.out _ HO.out.below, fun j hj => ⟨Nat.lt_of_lt_of_le (HAP.out j hj).1 HO.out.size, (HAP.out j hj).2⟩⟩
    ·have hd0e : (ec == 0) = false := by simpa using he0
     have hd1e : (ec != 0) = true := by simpa using he0
     have HY : Hid (jSave D J s = (E1, { J with broken := true }, ec)) := hide (by rw [HW.out, if_neg he0])
     have HEQ5 := HEQ
     have HEL5 := HEL
     clear hS0
     go_wp2_with (first
      | ((with_reducible refine at_load 32 (.tmp 8) ?_); refine wpList_load_own HO.out rfl 32 (.tmp 8) rfl 2 _ 0 4 _ _ ([.slice A5 n5 c5, .slice B5 m5 b5, .int .i64 fz5, .bool fl5]) _ rfl (take_all rfl) rfl Tryz.underlying32 rfl rdisk_size ?_)
      | ((with_reducible refine at_store 32 (.tmp 54) ?_); refine wpList_store_own_t HO.out rfl 32 (.tmp 54) (.tmp 53) rfl 0 _ 0 _ _ ([.slice A5 n5 c5, .slice B5 m5 b5, .int .i64 fz5, .bool fl5]) ([.slice A5 n5 c5, .slice B5 m5 b5, .int .i64 fz5, .bool fl5, .int .i64 zt, (sv st), .slice Ar nr cr, .int .i64 zu, .bool false]) rfl (.agg ([.slice A5 n5 c5, .slice B5 m5 b5, .int .i64 fz5, .bool fl5] : List Value).toArray) rfl rfl (fits_agg _) (by simp) rfl rdisk_size rfl ?_; intro WA hO _ ht; replace HR5 := hide (HR5.out.touch (ht.mono (by simp)) (fun j hj => .inl hj)); replace HO := hide hO; clear hO ht; have k2 := HO.out.cells 0 rfl)
      | ((with_reducible refine at_store 4 (.tmp 57) ?_); refine wpList_store_own_t HO.out rfl 4 (.tmp 57) (.const (.bool true)) rfl 0 _ 8 _ _ ([.bool true]) ([.slice A5 n5 c5, .slice B5 m5 b5, .int .i64 fz5, .bool fl5, .int .i64 zt, (sv st), .slice Ar nr cr, .int .i64 zu, .bool true]) rfl (.bool true) rfl rfl (fits_one rfl) (by simp) rfl rbool_size rfl ?_; intro WA hO _ ht; replace HR5 := hide (HR5.out.touch (ht.mono (by simp)) (fun j hj => .inl hj)); replace HO := hide hO; clear hO ht)
      | ((with_reducible refine at_load 51 (.tmp 2) ?_); refine wpList_load_own HO.out rfl 51 (.tmp 2) rfl 0 _ 0 9 _ _ ([.slice A5 n5 c5, .slice B5 m5 b5, .int .i64 fz5, .bool fl5, .int .i64 zt, (sv st), .slice Ar nr cr, .int .i64 zu, .bool true]) _ rfl (take_all rfl) rfl Tryz.underlying51 rfl rjr_size ?_)
      | ((with_reducible refine at_store 51 (.tmp 4) ?_); refine wpList_store_own_t HO.out rfl 51 (.tmp 4) (.tmp 58) rfl 1 _ 0 _ _ ([.slice A5 n5 c5, .slice B5 m5 b5, .int .i64 fz5, .bool fl5, .int .i64 zt, (sv st), .slice Ar nr cr, .int .i64 zu, .bool true]) ([.slice A5 n5 c5, .slice B5 m5 b5, .int .i64 fz5, .bool fl5, .int .i64 zt, (sv st), .slice Ar nr cr, .int .i64 zu, .bool true]) rfl (.agg ([.slice A5 n5 c5, .slice B5 m5 b5, .int .i64 fz5, .bool fl5, .int .i64 zt, (sv st), .slice Ar nr cr, .int .i64 zu, .bool true] : List Value).toArray) rfl rfl (fits_agg _) (by simp [zjr]) (splice_all rfl) rjr_size rfl ?_; intro WA hO _ ht; replace HR5 := hide (HR5.out.touch (ht.mono (by simp)) (fun j hj => .inl hj)); replace HO := hide hO; clear hO ht))
     refine bodyPost_ret (v := .tuple #[.agg ([.slice A5 n5 c5, .slice B5 m5 b5, .int .i64 fz5, .bool fl5, .int .i64 zt, (sv st), .slice Ar nr cr, .int .i64 zu, .bool true] : List Value).toArray, .int .i64 ec]) (results_row_tmp rfl _ _ b4 51 ([.slice A5 n5 c5, .slice B5 m5 b5, .int .i64 fz5, .bool fl5, .int .i64 zt, (sv st), .slice Ar nr cr, .int .i64 zu, .bool true] : List Value).toArray (0, 0) _ _ rfl rfl (HO.out.blk 1 rfl) Tryz.underlying51 rfl rjr_size) rfl ?_
     refine ⟨_, by rw [HY.out], ?_, HO.out.below⟩
     rw [HY.out]
     exact ⟨A5, n5, c5, B5, m5, b5, _, by dsimp only; rw [HEQ5, HEL5, HZ.out.1, HSB.out.1, HZ.out.2.1], by unfold rv; rw [HEQ5, HEL5]; exact HR5.out.lessR (by intro j hj; simp only [List.cons_append, List.nil_append, List.mem_cons]; exact .inr (.inr (.inr hj))), by dsimp only; rw [HRC.out]; exact HRS.out _ HO.out.below, fun j hj => ⟨Nat.lt_of_lt_of_le (HAP.out j hj).1 HO.out.size, (HAP.out j hj).2⟩⟩
end Go.Proofs.YtpadgkkeihhneaaGreat
