/- The reference's Free and Append. -/
import Derived.Test.YtpadgkkeihhneaaGreatC30
import Derived.Test.YtpadgkkeihhneaaGreatC22
namespace Go.Proofs.YtpadgkkeihhneaaGreat
set_option maxRecDepth 100000
set_option linter.unusedSimpArgs false
set_option linter.unusedVariables false
open List renaming getElem_toArray → qa, getElem_cons_zero → qb, getElem_cons_succ → qc, setIfInBounds_toArray → qd, set_cons_zero → qe, set_cons_succ → qf
open Go.ChangeShapes Go.WideShapes Go.ChangeAt Go.RowKit
theorem rt_1 {goal : Prop} {α : Type} {G I : α → World → Prop} (main : (∀ a w, I a w → G a w) → goal) (tl : ∀ a w, I a w → G a w) : goal := main tl
theorem rt_2 {goal : Prop} {α β : Type} {G I : α → β → World → Prop} (main : (∀ a b w, I a b w → G a b w) → goal) (tl : ∀ a b w, I a b w → G a b w) : goal := main tl
theorem rt_3 {goal : Prop} {α β γ : Type} {G I : α → β → γ → World → Prop} (main : (∀ a b c w, I a b c w → G a b c w) → goal) (tl : ∀ a b c w, I a b c w → G a b c w) : goal := main tl
theorem rt_5 {goal : Prop} {α β γ δ ε : Type} {G I : α → β → γ → δ → ε → World → Prop} (main : (∀ a b c d e w, I a b c d e w → G a b c d e w) → goal) (tl : ∀ a b c d e w, I a b c d e w → G a b c d e w) : goal := main tl
theorem rbool_size : (Tryz.prog.info? 4).map (·.size) = some 1 := by kernel_rfl
/-- The value v is a journal of the reference in the state J on the disk D. -/
def Rj (w : World) (F : List Nat) (v : Value) (D : DS) (J : JS) : Prop := ∃ (A : Option Addr) (n c : Nat) (B : Option Addr) (m b : Nat) (rw_ : Value), v = .agg ([.slice A n c, .slice B m b, .int .i64 D.fuse, .bool D.failed, .int .i64 (J.turn : Nat), (sv J.state), rw_, .int .i64 (J.used : Nat), .bool J.broken] : List Value).toArray ∧ Rf w F (rv (.slice A n c) (.slice B m b) D) D ∧ Rs w 0 rw_ J.records ∧ Apart w F rw_
theorem Rj.touch {w w' : World} {F F' : List Nat} {v : Value} {D : DS} {J : JS} (h : Rj w F v D J) (k : Touch F w w') (hF : ∀ j ∈ F', j ∈ F ∨ w.heap.size ≤ j) : Rj w' F' v D J := by
 obtain ⟨A, n, c, B, m, b, rw_, e, h1, h2, h3⟩ := h
 exact ⟨A, n, c, B, m, b, rw_, e, h1.touch k hF, h2.touch k (fun j hj => (h3 j hj).2), h3.touch k hF⟩
theorem Rj.step {w w' : World} {F : List Nat} {v : Value} {D : DS} {J : JS} (h : Rj w F v D J) (k : Below w.heap.size w w') : Rj w' F v D J := h.touch (Touch.below k F) fun j hj => .inl hj
def GivesJ (w : World) (F : List Nat) (r : DS × JS × Int) (e : Ending) (w' : World) : Prop := ∃ v, e = .returned (.tuple #[v, .int .i64 r.2.2]) ∧ Rj w' F v r.1 r.2.1 ∧ Below w.heap.size w w'
set_option maxHeartbeats 4000000 in
theorem rfree_c (F : List Nat) (v : Value) (D : DS) (J : JS) (w : World) (h : Rj w F v D J) (hs : D.Sz) (ho : JOk D J) : Calls Tryz.prog 57 #[v] w (Gives w (.int .i64 (jFree D J))) := by
 obtain ⟨A, n, c, B, m, b, rw_, rfl, h1, h2, h3⟩ := h
 have HHC := hide (fun (X : World) (k : Below w.heap.size w X) => rhalf_c F _ D X (h1.step k) hs)
 obtain ⟨Ar, nr, cr, rfl, _, _, _⟩ := h2.formN
 have HJ : Hid (jFree D J = if J.turn = 0 then 0 else half D - J.used) := hide rfl
 have hu := ho.used
 have hh := half_le hs
 unfold rv at HHC
 generalize D.fuse = fz at *
 generalize D.failed = fl at *
 generalize J.broken = br at *
 generalize J.state = st at *
 obtain ⟨zt, hzt⟩ : ∃ z : Int, (J.turn : Int) = z := ⟨_, rfl⟩
 obtain ⟨zu, hzu⟩ : ∃ z : Int, (J.used : Int) = z := ⟨_, rfl⟩
 obtain ⟨zh, hzh⟩ : ∃ z : Int, (half D : Int) = z := ⟨_, rfl⟩
 have HZ := hide (And.intro hzt (And.intro hzu hzh))
 have u0 : 0 ≤ zu := by omega
 have u1 : zu ≤ zh := by omega
 have u2 : zh ≤ 1000000 := by omega
 rw [hzh] at HHC
 rw [hzt, hzu]
 clear h1 h2 h3 hs ho hu hh hzt hzu hzh
 have HO := hide (Own.nil w [] (by simp))
 by_cases h0 : zt = 0
 ·subst h0
  go_enter Tryz.func57, Tryz.ntmps57
  go_wp2_with (first
   | (((with_reducible refine at_box 51 (.tmp 0) ?_); refine wpList_box_own HO.out rfl 51 (.tmp 0) rfl ([.slice A n c, .slice B m b, .int .i64 fz, .bool fl, .int .i64 0, (sv st), .slice Ar nr cr, .int .i64 zu, .bool br]) rfl ?_; intro WA b1 hO; replace HO := hide hO; clear hO; have k1 := HO.out.cells 0 rfl)))
  go_ret
  exact ⟨ret_i64e (by rw [HJ.out, if_pos (by have := HZ.out; omega)]; rfl), HO.out.below⟩
 ·have hne : (zt == 0) = false := by simpa using h0
  go_enter Tryz.func57, Tryz.ntmps57
  go_wp2_with (first
   | (((with_reducible refine at_box 51 (.tmp 0) ?_); refine wpList_box_own HO.out rfl 51 (.tmp 0) rfl ([.slice A n c, .slice B m b, .int .i64 fz, .bool fl, .int .i64 zt, (sv st), .slice Ar nr cr, .int .i64 zu, .bool br]) rfl ?_; intro WA b1 hO; replace HO := hide hO; clear hO; have k1 := HO.out.cells 0 rfl)))
  refine wp_region_held_drew (S := fun W => (∀ j, W.cell? ⟨b1, j, none⟩ = ([.slice A n c, .slice B m b, .int .i64 fz, .bool fl, .int .i64 zt, (sv st), .slice Ar nr cr, .int .i64 zu, .bool br] : List Value)[j]?)) (by kernel_rfl) (HO.out.drew.cells 0 rfl) (fun hS0 => ?_)
  replace HO := hide HO.out.drew
  refine tk 0 ?_
  refine ty 1 (.agg ([.slice A n c, .slice B m b, .int .i64 fz, .bool fl]).toArray) rfl (yieldsIf_load rfl 32 (.tmp 6) rfl b1 0 4 32 ([.slice A n c, .slice B m b, .int .i64 fz, .bool fl, .int .i64 zt, (sv st), .slice Ar nr cr, .int .i64 zu, .bool br]) ([.slice A n c, .slice B m b, .int .i64 fz, .bool fl]) _ (fun w hw => hw) rfl rfl Tryz.underlying32 rfl rdisk_size) ?_
  refine tk 3 ?_
  refine tk 4 ?_
  refine tr1 2 fun K hK => ?_
  go_simp
  refine (HHC.out _ HO.out.below).mono ?_
  rintro e w5 ⟨rfl, hb5⟩
  replace HO := hide (HO.out.step hb5)
  clear hb5
  refine hK.out _ _ (HO.out.cells 0 rfl) (fun hS4 => ?_)
  clear hK K
  try simp only [Act.put, qa, qb, qc, qd, qe, qf]
  refine tk 5 ?_
  refine tk 6 ?_
  refine wpAnyH_done (by kernel_rfl) ?_ _
  have w1 : IntKind.i64.wrap (zh - zu) = zh - zu := IntWalk.i64_in _ (by omega)
  go_wp2_with fail
  go_ret
  exact ⟨ret_i64e (by rw [HJ.out, if_neg (by have := HZ.out; omega)]; have := HZ.out; omega), HO.out.below⟩
theorem putL_fst (D : DS) (t i a : Nat) (s : List UInt8) : (putL D t i a s).map (·.1) = (List.range (pagesN s.length)).map (first D t + a + ·) := by
 unfold putL at_
 rw [List.map_map, prts_len]
 rfl
theorem putL_snd (D : DS) (t i a : Nat) (s : List UInt8) : (putL D t i a s).map (·.2) = prts t i s := by
 unfold putL at_
 rw [List.map_map]
 exact List.ext_getElem (by simp) (fun k h1 h2 => by simp [List.getD, h2])
theorem jFree_le (D : DS) (J : JS) : jFree D J ≤ half D := by unfold jFree; split <;> omega
theorem pagesN_le (n : Nat) : pagesN n ≤ n / 96 + 1 := by unfold pagesN; omega
theorem first_le2 (D : DS) (t : Nat) : first D t ≤ 2 + half D := by
 unfold first
 rcases Nat.mod_two_eq_zero_or_one t with e | e <;> rw [e] <;> omega
theorem first_hi (D : DS) (t : Nat) (h : 8 ≤ D.pages.length) : first D t + half D ≤ D.pages.length := by
 unfold first half
 rcases Nat.mod_two_eq_zero_or_one t with e | e <;> rw [e] <;> omega
theorem pagesN_pos (n : Nat) : 1 ≤ pagesN n := by unfold pagesN; omega
set_option maxHeartbeats 8000000 in
theorem rappend_c (F : List Nat) (v : Value) (D : DS) (J : JS) (s : List UInt8) (S : ByteArray) (hS : S = ⟨s.toArray⟩) (hl : s.length ≤ 1000000) (w : World) (h : Rj w F v D J) (hF : ∀ j ∈ F, j < w.heap.size) (hs : D.Sz) (hp : D.pend.length ≤ 60000) (h5 : D.pages.length ≤ 5000) (ho : JOk D J) :
 Calls Tryz.prog 61 #[v, .string S] w (GivesJ w F (jAppend D J s)) := by
 have HFR := hide (fun (X : World) (k : Below w.heap.size w X) => rfree_c F v D J X (h.step k) hs ho)
 have HH := hide h
 obtain ⟨A, n, c, B, m, b, rw_, rfl, h1, h2, h3⟩ := h
 obtain ⟨Ar, nr, cr, rfl, hnr, _, _⟩ := h2.formN
 have HNR : Hid (nr = J.records.length) := hnr
 have HSZ : Hid (S.size = s.length) := hide (by rw [hS, sv_size])
 have HF := hide hF
 have HRS : Hid (∀ W, Below w.heap.size w W → Rs W 0 (.slice Ar nr cr) J.records) := hide (fun W hW => h2.step hW)
 have HAP := hide h3
 have HXX : Hid (sv s = .string S) := hide (by rw [hS]; rfl)
 have HJA : Hid (jAppend D J s = if J.broken ∨ J.turn = 0 then (D, J, 9) else if jFree D J < pagesN s.length then (D, J, 8) else
  if (jPut D J.turn (J.records.length + 1) J.used s).2 = 0 then ((jPut D J.turn (J.records.length + 1) J.used s).1, { J with records := J.records ++ [s], used := J.used + pagesN s.length }, 0)
  else ((jPut D J.turn (J.records.length + 1) J.used s).1, { J with broken := true }, (jPut D J.turn (J.records.length + 1) J.used s).2)) := hide rfl
 have ht := ho.turn
 have hu := ho.used
 have hr := ho.recs
 have hh := half_le hs
 have HML : Hid (J.records.length ≤ 1000000) := hide (by omega)
 have HPG : Hid (∀ X : World, Calls Tryz.prog 41 #[.int .i64 (S.size : Int)] X fun e w' => e = .returned (.int .i64 (pagesN s.length : Nat)) ∧ X = w') := hide (fun X => by rw [HSZ.out]; exact rpages_c _ (by omega) X)
 have HFI : Hid (∀ X : World, Below w.heap.size w X → Calls Tryz.prog 52 #[rv (.slice A n c) (.slice B m b) D, .int .i64 (J.turn : Nat)] X (Gives X (.int .i64 (first D J.turn : Nat)))) := hide (fun X k => rfirst_c F _ D J.turn (by omega) X (h1.step k) hs)
 have HPC : Hid (jFree D J < pagesN s.length ∨ J.turn = 0 ∨ ∀ X : World, Below w.heap.size w X → Calls Tryz.prog 87 #[.int .i64 ((first D J.turn : Int) + (J.used : Int)), .int .i64 (pagesN s.length : Nat)] X fun e w' => ∃ v, e = .returned v ∧ Ns w' X.heap.size v ((putL D J.turn (J.records.length + 1) J.used s).map (·.1)) ∧ Below X.heap.size X w') := hide (by
  by_cases hj : jFree D J < pagesN s.length
  ·exact .inl hj
  by_cases h0 : J.turn = 0
  ·exact .inr (.inl h0)
  refine .inr (.inr fun X k => ?_)
  have hfh := first_hi D J.turn hs.lo
  have hfr : jFree D J = half D - J.used := by unfold jFree; rw [if_neg h0]
  rw [putL_fst]
  exact rplaces_c (first D J.turn + J.used) (pagesN s.length) (by omega) (by omega) X)
 have HBK : Hid (∀ X : World, Below w.heap.size w X → Calls Tryz.prog 14 #[.int .i64 (J.turn : Nat), .int .i64 ((nr : Int) + 1), .string S] X (FreshP X ((putL D J.turn (J.records.length + 1) J.used s).map (·.2)))) := hide (fun X k => by
  have := rblock_c J.turn (J.records.length + 1) s S hS (by omega) (by omega) hl X
  rw [putL_snd]
  have e : ((J.records.length + 1 : Nat) : Int) = (nr : Int) + 1 := by have := HNR.out; omega
  rwa [e] at this)
 have HLE : Hid (jFree D J < pagesN s.length ∨ J.turn = 0 ∨ (putL D J.turn (J.records.length + 1) J.used s).length ≤ 5000) := hide (by
  by_cases hj : jFree D J < pagesN s.length
  ·exact .inl hj
  by_cases h0 : J.turn = 0
  ·exact .inr (.inl h0)
  refine .inr (.inr ?_)
  rw [putL_len]
  have hfr : jFree D J = half D - J.used := by unfold jFree; rw [if_neg h0]
  unfold half at hfr
  omega)
 obtain ⟨L, hL⟩ : ∃ L, putL D J.turn (J.records.length + 1) J.used s = L := ⟨_, rfl⟩
 have HJP : Hid (jPut D J.turn (J.records.length + 1) J.used s = dWrites D L) := hide (by rw [← hL]; rfl)
 rw [hL] at HPC HBK HLE
 obtain ⟨E, hE⟩ : ∃ E, E = dWrites D L := ⟨_, rfl⟩
 obtain ⟨E1, ec⟩ := E
 have HWR : Hid (L.length ≤ 5000 → ∀ (X : World) (va vp : Value) (M : List Nat), Below w.heap.size w X → (∀ j ∈ M, j < X.heap.size) → (∀ j ∈ M, w.heap.size ≤ j) → Ns X w.heap.size va (L.map (·.1)) → Pl X w.heap.size vp (L.map (·.2)) → Calls Tryz.prog 55 #[rv (.slice A n c) (.slice B m b) D, va, vp] X (GivesRE X (M ++ F) (E1, ec))) := hide (fun h5000 X va vp M k hM hM2 ha hp2 => by
  rw [hE]
  exact rwrite_c (M ++ F) _ va vp D L w.heap.size X (h1.plusR k M hM2) (fun j hm => by
   rcases List.mem_append.1 hm with hm | hm
   ·exact hM j hm
   ·exact Nat.lt_of_lt_of_le (HF.out j hm) k.size) ha hp2 h5000 hp h5)
 rw [HJP.out, ← hE] at HJA
 obtain ⟨LA, hLA⟩ : ∃ x, L.map (·.1) = x := ⟨_, rfl⟩
 obtain ⟨LP, hLP⟩ : ∃ x, L.map (·.2) = x := ⟨_, rfl⟩
 rw [hLA] at HPC HWR
 rw [hLP] at HBK HWR
 dsimp only at HJA
 have HFB := hide (jFree_le D J)
 have HBD := hide (And.intro ht (And.intro hu (And.intro hr (And.intro hh hl))))
 clear hL hE hLA hLP HJP hS hl h1 h2 h3 hF hs hp h5 ho hnr ht hu hr hh
 unfold rv at HFI HWR
 obtain ⟨recs, hrecs⟩ : ∃ r, J.records = r := ⟨_, rfl⟩
 rw [hrecs] at HRS HML
 have HRC := hide hrecs
 generalize hfz : D.fuse = fz at *
 generalize hfl : D.failed = fl at *
 obtain ⟨st, hst⟩ : ∃ x, J.state = x := ⟨_, rfl⟩
 obtain ⟨br, hbr⟩ : ∃ x, J.broken = x := ⟨_, rfl⟩
 obtain ⟨zt, hzt⟩ : ∃ z : Int, (J.turn : Int) = z := ⟨_, rfl⟩
 obtain ⟨zu, hzu⟩ : ∃ z : Int, (J.used : Int) = z := ⟨_, rfl⟩
 obtain ⟨zn, hzn⟩ : ∃ z : Int, (pagesN s.length : Int) = z := ⟨_, rfl⟩
 obtain ⟨zf, hzf⟩ : ∃ z : Int, (first D J.turn : Int) = z := ⟨_, rfl⟩
 obtain ⟨zr, hzr⟩ : ∃ z : Int, (jFree D J : Int) = z := ⟨_, rfl⟩
 have HZ := hide (And.intro hzt (And.intro hzu (And.intro hzn (And.intro hzf hzr))))
 have HSB := hide (And.intro hst hbr)
 rw [hst, hbr, hzt, hzu] at HFR HH
 rw [hst, hbr, hzt, hzu]
 rw [hzn] at HPG HPC
 rw [hzt, hzf] at HFI
 rw [hzf, hzu] at HPC
 rw [hzt] at HBK
 rw [hzr] at HFR
 have t0 : 0 ≤ zt := by omega
 have u0 : 0 ≤ zu := by omega
 have u9 : zu ≤ 1000000 := by have := HBD.out; omega
 have n9 : zn ≤ 20000 := by have := pagesN_le s.length; have := HBD.out; omega
 have n0 : 1 ≤ zn := by have := pagesN_pos s.length; omega
 have f0 : 0 ≤ zf := by omega
 have f9 : zf ≤ 2000000 := by have := first_le2 D J.turn; have := HBD.out; omega
 have r9 : nr ≤ 500000 := by have := HNR.out; have := HBD.out; omega
 cases br with
 | true =>
  have HW : Hid (jAppend D J s = (D, J, 9)) := hide (by rw [HJA.out, if_pos (.inl HSB.out.2)])
  have HO := hide (Own.nil w [] (by simp))
  go_enter Tryz.func61, Tryz.ntmps61
  go_wp2_with (first
   | ((with_reducible refine at_box 51 (.tmp 0) ?_); refine wpList_box_own HO.out rfl 51 (.tmp 0) rfl ([.slice A n c, .slice B m b, .int .i64 fz, .bool fl, .int .i64 zt, (sv st), .slice Ar nr cr, .int .i64 zu, .bool true]) rfl ?_; intro WA b2 hO; replace HO := hide hO; clear hO)
   | (((with_reducible refine at_alloc 51 ?_); refine wpList_alloc_own HO.out rfl 51 rfl (zjr) rjr_info ?_; intro WA b4 hO; replace HO := hide hO; clear hO; have k2 := HO.out.cells 0 rfl; refine Hid.out ?_)))
  refine hide ?_
  go_wp2_with (first
 | ((with_reducible refine at_load 51 (.tmp 2) ?_); refine wpList_load_own HO.out rfl 51 (.tmp 2) rfl 0 _ 0 9 _ _ ([.slice A n c, .slice B m b, .int .i64 fz, .bool fl, .int .i64 zt, (sv st), .slice Ar nr cr, .int .i64 zu, .bool true]) _ rfl (take_all rfl) rfl Tryz.underlying51 rfl rjr_size ?_)
 | ((with_reducible refine at_store 51 (.tmp 4) ?_); refine wpList_store_own HO.out rfl 51 (.tmp 4) (.tmp 16) rfl 1 _ 0 _ _ ([.slice A n c, .slice B m b, .int .i64 fz, .bool fl, .int .i64 zt, (sv st), .slice Ar nr cr, .int .i64 zu, .bool true]) ([.slice A n c, .slice B m b, .int .i64 fz, .bool fl, .int .i64 zt, (sv st), .slice Ar nr cr, .int .i64 zu, .bool true]) rfl (.agg ([.slice A n c, .slice B m b, .int .i64 fz, .bool fl, .int .i64 zt, (sv st), .slice Ar nr cr, .int .i64 zu, .bool true]).toArray) rfl rfl (fits_agg _) (by simp [zjr]) (splice_all rfl) rjr_size rfl ?_; intro WA hO; replace HO := hide hO; clear hO))
  refine bodyPost_ret (v := .tuple #[.agg ([.slice A n c, .slice B m b, .int .i64 fz, .bool fl, .int .i64 zt, (sv st), .slice Ar nr cr, .int .i64 zu, .bool true] : List Value).toArray, .int .i64 9]) (results_row_tmp rfl _ _ b4 51 ([.slice A n c, .slice B m b, .int .i64 fz, .bool fl, .int .i64 zt, (sv st), .slice Ar nr cr, .int .i64 zu, .bool true] : List Value).toArray (0, 0) _ _ rfl rfl (HO.out.blk 1 rfl) Tryz.underlying51 rfl rjr_size) rfl ?_
  exact ⟨_, by rw [HW.out], by rw [HW.out]; exact HH.out.step HO.out.below, HO.out.below⟩
 | false =>
  by_cases h0 : zt = 0
  ·have HW : Hid (jAppend D J s = (D, J, 9)) := hide (by rw [HJA.out, if_pos (.inr (by have := HZ.out; omega))])
   have hd0 : (zt == 0) = true := by simpa using h0
   have HZ0 := hide h0
   clear h0
   have HO := hide (Own.nil w [] (by simp))
   go_enter Tryz.func61, Tryz.ntmps61
   go_wp2_with (first
    | ((with_reducible refine at_box 51 (.tmp 0) ?_); refine wpList_box_own HO.out rfl 51 (.tmp 0) rfl ([.slice A n c, .slice B m b, .int .i64 fz, .bool fl, .int .i64 zt, (sv st), .slice Ar nr cr, .int .i64 zu, .bool false]) rfl ?_; intro WA b2 hO; replace HO := hide hO; clear hO)
    | (((with_reducible refine at_alloc 51 ?_); refine wpList_alloc_own HO.out rfl 51 rfl (zjr) rjr_info ?_; intro WA b4 hO; replace HO := hide hO; clear hO; have k2 := HO.out.cells 0 rfl; refine Hid.out ?_)))
   refine hide ?_
   go_wp2_with (first
 | ((with_reducible refine at_load 51 (.tmp 2) ?_); refine wpList_load_own HO.out rfl 51 (.tmp 2) rfl 0 _ 0 9 _ _ ([.slice A n c, .slice B m b, .int .i64 fz, .bool fl, .int .i64 zt, (sv st), .slice Ar nr cr, .int .i64 zu, .bool false]) _ rfl (take_all rfl) rfl Tryz.underlying51 rfl rjr_size ?_)
 | ((with_reducible refine at_store 51 (.tmp 4) ?_); refine wpList_store_own HO.out rfl 51 (.tmp 4) (.tmp 16) rfl 1 _ 0 _ _ ([.slice A n c, .slice B m b, .int .i64 fz, .bool fl, .int .i64 zt, (sv st), .slice Ar nr cr, .int .i64 zu, .bool false]) ([.slice A n c, .slice B m b, .int .i64 fz, .bool fl, .int .i64 zt, (sv st), .slice Ar nr cr, .int .i64 zu, .bool false]) rfl (.agg ([.slice A n c, .slice B m b, .int .i64 fz, .bool fl, .int .i64 zt, (sv st), .slice Ar nr cr, .int .i64 zu, .bool false]).toArray) rfl rfl (fits_agg _) (by simp [zjr]) (splice_all rfl) rjr_size rfl ?_; intro WA hO; replace HO := hide hO; clear hO))
   refine bodyPost_ret (v := .tuple #[.agg ([.slice A n c, .slice B m b, .int .i64 fz, .bool fl, .int .i64 zt, (sv st), .slice Ar nr cr, .int .i64 zu, .bool false] : List Value).toArray, .int .i64 9]) (results_row_tmp rfl _ _ b4 51 ([.slice A n c, .slice B m b, .int .i64 fz, .bool fl, .int .i64 zt, (sv st), .slice Ar nr cr, .int .i64 zu, .bool false] : List Value).toArray (0, 0) _ _ rfl rfl (HO.out.blk 1 rfl) Tryz.underlying51 rfl rjr_size) rfl ?_
   exact ⟨_, by rw [HW.out], by rw [HW.out]; exact HH.out.step HO.out.below, HO.out.below⟩
  ·have hd0 : (zt == 0) = false := by simpa using h0
   have HT0 : Hid (J.turn ≠ 0) := hide (by have := HZ.out; omega)
   have HJ2 : Hid (jAppend D J s = if jFree D J < pagesN s.length then (D, J, 8) else if ec = 0 then (E1, { J with records := J.records ++ [s], used := J.used + pagesN s.length }, 0) else (E1, { J with broken := true }, ec)) := hide (by rw [HJA.out, if_neg (by rw [HSB.out.2]; simp; exact HT0.out)])
   have HZ0 := hide h0
   clear h0
   have k20 := True.intro
   have HO := hide (Own.nil w [] (by simp))
   go_enter Tryz.func61, Tryz.ntmps61
   go_wp2_with (first
    | ((with_reducible refine at_box 51 (.tmp 0) ?_); refine wpList_box_own HO.out rfl 51 (.tmp 0) rfl ([.slice A n c, .slice B m b, .int .i64 fz, .bool fl, .int .i64 zt, (sv st), .slice Ar nr cr, .int .i64 zu, .bool false]) rfl ?_; intro WA b2 hO; replace HO := hide hO; clear hO)
    | (((with_reducible refine at_alloc 51 ?_); refine wpList_alloc_own HO.out rfl 51 rfl (zjr) rjr_info ?_; intro WA b4 hO; replace HO := hide hO; clear hO; have k2 := HO.out.cells 0 rfl; refine Hid.out ?_)))
   refine hide ?_
   go_wp2_with fail
   refine (HPG.out _).mono ?_
   rintro e w5 ⟨rfl, rfl⟩
   go_wp2_with (first
 | ((with_reducible refine at_load 51 (.tmp 2) ?_); refine wpList_load_own HO.out rfl 51 (.tmp 2) rfl 0 _ 0 9 _ _ ([.slice A n c, .slice B m b, .int .i64 fz, .bool fl, .int .i64 zt, (sv st), .slice Ar nr cr, .int .i64 zu, .bool false]) _ rfl (take_all rfl) rfl Tryz.underlying51 rfl rjr_size ?_))
   refine (HFR.out _ HO.out.below).mono ?_
   rintro e w6 ⟨rfl, hb6⟩
   replace HO := hide (HO.out.step hb6)
   clear hb6 k2
   have k2 := HO.out.cells 0 rfl
   by_cases hfree : zr < zn
   ·have HW : Hid (jAppend D J s = (D, J, 8)) := hide (by rw [HJ2.out, if_pos (by have := HZ.out; omega)])
    go_wp2_with (first
 | ((with_reducible refine at_load 51 (.tmp 2) ?_); refine wpList_load_own HO.out rfl 51 (.tmp 2) rfl 0 _ 0 9 _ _ ([.slice A n c, .slice B m b, .int .i64 fz, .bool fl, .int .i64 zt, (sv st), .slice Ar nr cr, .int .i64 zu, .bool false]) _ rfl (take_all rfl) rfl Tryz.underlying51 rfl rjr_size ?_)
 | ((with_reducible refine at_store 51 (.tmp 4) ?_); refine wpList_store_own HO.out rfl 51 (.tmp 4) (.tmp 24) rfl 1 _ 0 _ _ ([.slice A n c, .slice B m b, .int .i64 fz, .bool fl, .int .i64 zt, (sv st), .slice Ar nr cr, .int .i64 zu, .bool false]) ([.slice A n c, .slice B m b, .int .i64 fz, .bool fl, .int .i64 zt, (sv st), .slice Ar nr cr, .int .i64 zu, .bool false]) rfl (.agg ([.slice A n c, .slice B m b, .int .i64 fz, .bool fl, .int .i64 zt, (sv st), .slice Ar nr cr, .int .i64 zu, .bool false]).toArray) rfl rfl (fits_agg _) (by simp [zjr]) (splice_all rfl) rjr_size rfl ?_; intro WA hO; replace HO := hide hO; clear hO))
    refine bodyPost_ret (v := .tuple #[.agg ([.slice A n c, .slice B m b, .int .i64 fz, .bool fl, .int .i64 zt, (sv st), .slice Ar nr cr, .int .i64 zu, .bool false] : List Value).toArray, .int .i64 8]) (results_row_tmp rfl _ _ b4 51 ([.slice A n c, .slice B m b, .int .i64 fz, .bool fl, .int .i64 zt, (sv st), .slice Ar nr cr, .int .i64 zu, .bool false] : List Value).toArray (0, 0) _ _ rfl rfl (HO.out.blk 1 rfl) Tryz.underlying51 rfl rjr_size) rfl ?_
    exact ⟨_, by rw [HW.out], by rw [HW.out]; exact HH.out.step HO.out.below, HO.out.below⟩
   ·have HW : Hid (jAppend D J s = if ec = 0 then (E1, { J with records := J.records ++ [s], used := J.used + pagesN s.length }, 0) else (E1, { J with broken := true }, ec)) := hide (by rw [HJ2.out, if_neg (by have := HZ.out; omega)])
    replace HPC := hide (HPC.out.resolve_left (by have := HZ.out; omega) |>.resolve_left HT0.out)
    replace HWR := hide (HWR.out ((HLE.out.resolve_left (by have := HZ.out; omega)).resolve_left HT0.out))
    have w1 : IntKind.i64.wrap (zf + zu) = zf + zu := IntWalk.i64_in _ (by omega)
    have w2 : IntKind.i64.wrap ((nr : Int) + 1) = (nr : Int) + 1 := IntWalk.i64_in _ (by omega)
    go_wp2_with fail
    refine wp_region_held_drew (S := fun W => (∀ j, W.cell? ⟨b2, j, none⟩ = ([.slice A n c, .slice B m b, .int .i64 fz, .bool fl, .int .i64 zt, (sv st), .slice Ar nr cr, .int .i64 zu, .bool false] : List Value)[j]?)) (by kernel_rfl) (HO.out.drew.cells 0 rfl) (fun hS0 => ?_)
    replace HO := hide HO.out.drew
    refine tk 0 ?_
    refine ty 1 (.agg ([.slice A n c, .slice B m b, .int .i64 fz, .bool fl] : List Value).toArray) rfl (yieldsIf_load rfl 32 (.tmp 26) rfl b2 0 4 32 ([.slice A n c, .slice B m b, .int .i64 fz, .bool fl, .int .i64 zt, (sv st), .slice Ar nr cr, .int .i64 zu, .bool false]) ([.slice A n c, .slice B m b, .int .i64 fz, .bool fl]) _ (fun w hw => hw) rfl rfl Tryz.underlying32 rfl rdisk_size) ?_
    refine tk 2 ?_
    refine ty 3 (.agg ([.slice A n c, .slice B m b, .int .i64 fz, .bool fl] : List Value).toArray) rfl (yieldsIf_load rfl 32 (.tmp 28) rfl b2 0 4 32 ([.slice A n c, .slice B m b, .int .i64 fz, .bool fl, .int .i64 zt, (sv st), .slice Ar nr cr, .int .i64 zu, .bool false]) ([.slice A n c, .slice B m b, .int .i64 fz, .bool fl]) _ (fun w hw => hw) rfl rfl Tryz.underlying32 rfl rdisk_size) ?_
    refine tk 4 ?_
    refine tk 5 ?_
    refine tk 7 ?_
    refine tk 8 ?_
    refine tk 10 ?_
    refine tk 12 ?_
    refine tk 13 ?_
    refine tk 14 ?_
    refine tk 15 ?_
    refine tk 16 ?_
    refine tk 17 ?_
    refine tk 18 ?_
    refine' rt_5 (I := fun (b7 : Nat) (va : Value) (vp : Value) (dv5 : Value) (pv5 : Value) W => (Own w [] [(b2, 51, [.slice A n c, .slice B m b, .int .i64 fz, .bool fl, .int .i64 zt, (sv st), .slice Ar nr cr, .int .i64 zu, .bool false]), (b4, 51, zjr), (b7, 32, zdk)] W) ∧ (Rf W ([b2, b4, b7] ++ F) (rv dv5 pv5 E1) E1)) (fun pTabfpw => ?_) ?_
    rotate_left
    refine' rt_3 (I := fun (b7 : Nat) (va : Value) (vp : Value) W => (Own w [] [(b2, 51, [.slice A n c, .slice B m b, .int .i64 fz, .bool fl, .int .i64 zt, (sv st), .slice Ar nr cr, .int .i64 zu, .bool false]), (b4, 51, zjr), (b7, 32, zdk)] W) ∧ (Ns W w.heap.size va LA) ∧ (Pl W w.heap.size vp LP)) (fun pTabfp => ?_) ?_
    rotate_left
    refine' rt_2 (I := fun (b7 : Nat) (va : Value) W => (Own w [] [(b2, 51, [.slice A n c, .slice B m b, .int .i64 fz, .bool fl, .int .i64 zt, (sv st), .slice Ar nr cr, .int .i64 zu, .bool false]), (b4, 51, zjr), (b7, 32, zdk)] W) ∧ (Ns W w.heap.size va LA)) (fun pTafp => ?_) ?_
    rotate_left
    refine' rt_1 (I := fun (b7 : Nat) W => Own w [] [(b2, 51, [.slice A n c, .slice B m b, .int .i64 fz, .bool fl, .int .i64 zt, (sv st), .slice Ar nr cr, .int .i64 zu, .bool false]), (b4, 51, zjr), (b7, 32, zdk)] W) (fun pTaf => ?_) ?_
    rotate_left
    ·refine wpAnyH_ready (rs := [6, 24]) (by kernel_rfl) (by simp) ?_
     refine AllReadyH.cons rfl (fun K hK => ?_) (AllReadyH.cons rfl (fun K hK => ?_) (AllReadyH.nil))
     ·go_simp
      refine (HFI.out _ HO.out.below).mono ?_
      rintro e w5 ⟨rfl, hb5⟩
      replace HO := hide (HO.out.step hb5)
      clear hb5
      refine hK.out _ _ (HO.out.cells 0 rfl) (fun _ => ?_)
      clear hK K
      try simp only [Act.put, qa, qb, qc, qd, qe, qf]
      refine tk 9 ?_
      refine wpAnyH_ready (rs := [11, 24]) (by kernel_rfl) (by simp) ?_
      refine AllReadyH.cons rfl (fun K hK => ?_) (AllReadyH.cons rfl (fun K hK => ?_) (AllReadyH.nil))
      ·go_simp
       have hws := HO.out.size
       refine (HPC.out _ HO.out.below).mono ?_
       rintro e w5 ⟨va, rfl, hn5, hb5⟩
       replace HO := hide (HO.out.step hb5)
       have HVA : Hid (Ns w5 w.heap.size va LA) := hide (hn5.mono hws)
       clear hn5 hb5 hws
       refine hK.out _ _ (HO.out.cells 0 rfl) (fun _ => ?_)
       clear hK K
       try simp only [Act.put, qa, qb, qc, qd, qe, qf]
       refine wpAnyH_ready (rs := [19, 24]) (by kernel_rfl) (by simp) ?_
       refine AllReadyH.cons rfl (fun K hK => ?_) (AllReadyH.cons rfl (fun K hK => ?_) (AllReadyH.nil))
       ·go_simp
        have hws := HO.out.size
        refine (HBK.out _ HO.out.below).mono ?_
        rintro e w5 ⟨vp, rfl, hn5, hb5⟩
        replace HO := hide (HO.out.step hb5)
        replace HVA := hide (HVA.out.step hb5)
        have HVP : Hid (Pl w5 w.heap.size vp LP) := hide (hn5.mono hws)
        clear hn5 hb5 hws
        refine hK.out _ _ (HO.out.cells 0 rfl) (fun _ => ?_)
        clear hK K
        try simp only [Act.put, qa, qb, qc, qd, qe, qf]
        refine wpAnyH_ready (rs := [20, 24]) (by kernel_rfl) (by simp) ?_
        refine AllReadyH.cons rfl (fun K hK => ?_) (AllReadyH.cons rfl (fun K hK => ?_) (AllReadyH.nil))
        ·go_simp
         refine (HWR.out _ va vp [b2, b4] HO.out.below (by simp only [List.mem_cons, List.not_mem_nil, or_false, forall_eq_or_imp, forall_eq]; exact ⟨(HO.out.blk 0 rfl).lt, (HO.out.blk 1 rfl).lt⟩) (by simp only [List.mem_cons, List.not_mem_nil, or_false, forall_eq_or_imp, forall_eq]; exact ⟨HO.out.new 0 rfl, HO.out.new 1 rfl⟩) HVA.out HVP.out).mono ?_
         rintro e w5 ⟨v5, rfl, hr5, hb5⟩
         obtain ⟨dv5, pv5, vs5, xs5, rfl, hk5⟩ := hr5
         replace HO := hide (HO.out.step hb5)
         have HR5 : Hid (Rf w5 ([b2, b4] ++ F) (rv dv5 pv5 E1) E1) := hide ⟨_, _, _, _, rfl, hk5⟩
         unfold rv
         try dsimp only
         clear hk5 hb5 HVA HVP
         refine hK.out _ _ (HO.out.cells 0 rfl) (fun _ => ?_)
         clear hK K
         try simp only [Act.put, qa, qb, qc, qd, qe, qf]
         refine tk 21 ?_
         refine tk 22 ?_
         refine tk 23 ?_
         refine tr1 24 fun K hK => ?_
         refine step_alloc_own_n HO.out rfl 32 rfl zdk rdk_info ?_
         intro WA b7 hb hO hbel
         replace HR5 := hide (HR5.out.plus3 hbel hb)
         replace HO := hide hO
         clear hO hbel hb
         refine hK.out _ _ (HO.out.cells 0 rfl) (fun _ => ?_)
         clear hK K
         try simp only [Act.put, qa, qb, qc, qd, qe, qf]
         exact pTabfpw b7 va vp dv5 pv5 _ ⟨HO.out, HR5.out⟩
        ·refine step_alloc_own_n HO.out rfl 32 rfl zdk rdk_info ?_
         intro WA b7 hb hO hbel
         replace HVA := hide (HVA.out.step hbel)
         replace HVP := hide (HVP.out.step hbel)
         replace HO := hide hO
         clear hO hbel hb
         refine hK.out _ _ (HO.out.cells 0 rfl) (fun _ => ?_)
         clear hK K
         try simp only [Act.put, qa, qb, qc, qd, qe, qf]
         exact pTabfp b7 va vp _ ⟨HO.out, HVA.out, HVP.out⟩
       ·refine step_alloc_own_n HO.out rfl 32 rfl zdk rdk_info ?_
        intro WA b7 hb hO hbel
        replace HVA := hide (HVA.out.step hbel)
        replace HO := hide hO
        clear hO hbel hb
        refine hK.out _ _ (HO.out.cells 0 rfl) (fun _ => ?_)
        clear hK K
        try simp only [Act.put, qa, qb, qc, qd, qe, qf]
        exact pTafp b7 va _ ⟨HO.out, HVA.out⟩
      ·refine step_alloc_own_n HO.out rfl 32 rfl zdk rdk_info ?_
       intro WA b7 hb hO hbel
       replace HO := hide hO
       clear hO hbel hb
       refine hK.out _ _ (HO.out.cells 0 rfl) (fun _ => ?_)
       clear hK K
       try simp only [Act.put, qa, qb, qc, qd, qe, qf]
       exact pTaf b7 _ HO.out
     ·refine step_alloc_own_n HO.out rfl 32 rfl zdk rdk_info ?_
      intro WA b7 hb hO hbel
      replace HO := hide hO
      clear hO hbel hb
      refine hK.out _ _ (HO.out.cells 0 rfl) (fun _ => ?_)
      clear hK K
      try simp only [Act.put, qa, qb, qc, qd, qe, qf]
      refine tr1 6 fun K hK => ?_
      go_simp
      refine (HFI.out _ HO.out.below).mono ?_
      rintro e w5 ⟨rfl, hb5⟩
      replace HO := hide (HO.out.step hb5)
      clear hb5
      refine hK.out _ _ (HO.out.cells 0 rfl) (fun _ => ?_)
      clear hK K
      try simp only [Act.put, qa, qb, qc, qd, qe, qf]
      refine tk 9 ?_
      exact pTaf b7 _ HO.out
    ·intro b7 WT hI
     have HO := hide hI
     clear hI
     have hSS : (fun W => (∀ j, W.cell? ⟨b2, j, none⟩ = ([.slice A n c, .slice B m b, .int .i64 fz, .bool fl, .int .i64 zt, (sv st), .slice Ar nr cr, .int .i64 zu, .bool false] : List Value)[j]?)) WT := HO.out.cells 0 rfl
     refine tr1 11 fun K hK => ?_
     go_simp
     have hws := HO.out.size
     refine (HPC.out _ HO.out.below).mono ?_
     rintro e w5 ⟨va, rfl, hn5, hb5⟩
     replace HO := hide (HO.out.step hb5)
     have HVA : Hid (Ns w5 w.heap.size va LA) := hide (hn5.mono hws)
     clear hn5 hb5 hws
     refine hK.out _ _ (HO.out.cells 0 rfl) (fun _ => ?_)
     clear hK K
     try simp only [Act.put, qa, qb, qc, qd, qe, qf]
     exact pTafp b7 va _ ⟨HO.out, HVA.out⟩
    ·intro b7 va WT hI
     obtain ⟨h0, h1⟩ := hI
     have HO := hide h0
     have HVA := hide h1
     clear h0 h1
     have hSS : (fun W => (∀ j, W.cell? ⟨b2, j, none⟩ = ([.slice A n c, .slice B m b, .int .i64 fz, .bool fl, .int .i64 zt, (sv st), .slice Ar nr cr, .int .i64 zu, .bool false] : List Value)[j]?)) WT := HO.out.cells 0 rfl
     refine tr1 19 fun K hK => ?_
     go_simp
     have hws := HO.out.size
     refine (HBK.out _ HO.out.below).mono ?_
     rintro e w5 ⟨vp, rfl, hn5, hb5⟩
     replace HO := hide (HO.out.step hb5)
     replace HVA := hide (HVA.out.step hb5)
     have HVP : Hid (Pl w5 w.heap.size vp LP) := hide (hn5.mono hws)
     clear hn5 hb5 hws
     refine hK.out _ _ (HO.out.cells 0 rfl) (fun _ => ?_)
     clear hK K
     try simp only [Act.put, qa, qb, qc, qd, qe, qf]
     exact pTabfp b7 va vp _ ⟨HO.out, HVA.out, HVP.out⟩
    ·intro b7 va vp WT hI
     obtain ⟨h0, h1, h2⟩ := hI
     have HO := hide h0
     have HVA := hide h1
     have HVP := hide h2
     clear h0 h1 h2
     have hSS : (fun W => (∀ j, W.cell? ⟨b2, j, none⟩ = ([.slice A n c, .slice B m b, .int .i64 fz, .bool fl, .int .i64 zt, (sv st), .slice Ar nr cr, .int .i64 zu, .bool false] : List Value)[j]?)) WT := HO.out.cells 0 rfl
     refine tr1 20 fun K hK => ?_
     go_simp
     refine (HWR.out _ va vp [b2, b4, b7] HO.out.below (by simp only [List.mem_cons, List.not_mem_nil, or_false, forall_eq_or_imp, forall_eq]; exact ⟨(HO.out.blk 0 rfl).lt, (HO.out.blk 1 rfl).lt, (HO.out.blk 2 rfl).lt⟩) (by simp only [List.mem_cons, List.not_mem_nil, or_false, forall_eq_or_imp, forall_eq]; exact ⟨HO.out.new 0 rfl, HO.out.new 1 rfl, HO.out.new 2 rfl⟩) HVA.out HVP.out).mono ?_
     rintro e w5 ⟨v5, rfl, hr5, hb5⟩
     obtain ⟨dv5, pv5, vs5, xs5, rfl, hk5⟩ := hr5
     replace HO := hide (HO.out.step hb5)
     have HR5 : Hid (Rf w5 ([b2, b4, b7] ++ F) (rv dv5 pv5 E1) E1) := hide ⟨_, _, _, _, rfl, hk5⟩
     unfold rv
     try dsimp only
     clear hk5 hb5 HVA HVP
     refine hK.out _ _ (HO.out.cells 0 rfl) (fun _ => ?_)
     clear hK K
     try simp only [Act.put, qa, qb, qc, qd, qe, qf]
     refine tk 21 ?_
     refine tk 22 ?_
     refine tk 23 ?_
     exact pTabfpw b7 va vp dv5 pv5 _ ⟨HO.out, HR5.out⟩
    ·intro b7 va vp dv5 pv5 WT hI
     obtain ⟨h0, h1⟩ := hI
     have HO := hide h0
     have HR5 := hide h1
     clear h0 h1
     have hSS : (fun W => (∀ j, W.cell? ⟨b2, j, none⟩ = ([.slice A n c, .slice B m b, .int .i64 fz, .bool fl, .int .i64 zt, (sv st), .slice Ar nr cr, .int .i64 zu, .bool false] : List Value)[j]?)) WT := HO.out.cells 0 rfl
     refine tr1 25 fun K hK => ?_
     obtain ⟨A5, n5, c5, B5, m5, b5, vs5, xs5, he5, hk5⟩ := HR5.out.form
     unfold rv at he5
     injection he5 with he5
     have h1 := congrArg (fun a : Array Value => a[0]?) he5
     have h2 := congrArg (fun a : Array Value => a[1]?) he5
     simp at h1 h2
     subst h1 h2
     clear hk5 he5
     unfold rv at HR5
     generalize HEQ : E1.fuse = fz5 at *
     generalize HEL : E1.failed = fl5 at *
     refine step_store_own_t HO.out rfl 32 (.tmp 7) (.tmp 47) rfl 2 _ 0 _ _ ([.slice A5 n5 c5, .slice B5 m5 b5, .int .i64 fz5, .bool fl5]) ([.slice A5 n5 c5, .slice B5 m5 b5, .int .i64 fz5, .bool fl5]) rfl (.agg ([.slice A5 n5 c5, .slice B5 m5 b5, .int .i64 fz5, .bool fl5] : List Value).toArray) rfl rfl (fits_agg _) (by simp [zdk]) (splice_all rfl) rdisk_size rfl ?_
     intro WA hO _ ht
     replace HR5 := hide (HR5.out.touch (ht.mono (by simp)) (fun j hj => .inl hj))
     replace HO := hide hO
     clear hO ht
     refine hK.out _ _ (HO.out.cells 0 rfl) (fun _ => ?_)
     clear hK K
     try simp only [Act.put, qa, qb, qc, qd, qe, qf]
     refine tk 26 ?_
     refine wpAnyH_done (by kernel_rfl) ?_ _
     clear hS0
     by_cases he0 : ec = 0
     ·have hd : (ec != 0) = false := by simpa using he0
      have HW2 : Hid (jAppend D J s = (E1, { J with records := J.records ++ [s], used := J.used + pagesN s.length }, 0)) := hide (by rw [HW.out, if_pos he0])
      go_wp2_with (first
       | ((with_reducible refine at_load 32 (.tmp 7) ?_); refine wpList_load_own HO.out rfl 32 (.tmp 7) rfl 2 _ 0 4 _ _ ([.slice A5 n5 c5, .slice B5 m5 b5, .int .i64 fz5, .bool fl5]) _ rfl (take_all rfl) rfl Tryz.underlying32 rfl rdisk_size ?_)
       | ((with_reducible refine at_store 32 (.tmp 50) ?_); refine wpList_store_own_t HO.out rfl 32 (.tmp 50) (.tmp 49) rfl 0 _ 0 _ _ ([.slice A5 n5 c5, .slice B5 m5 b5, .int .i64 fz5, .bool fl5]) ([.slice A5 n5 c5, .slice B5 m5 b5, .int .i64 fz5, .bool fl5, .int .i64 zt, (sv st), .slice Ar nr cr, .int .i64 zu, .bool false]) rfl (.agg ([.slice A5 n5 c5, .slice B5 m5 b5, .int .i64 fz5, .bool fl5] : List Value).toArray) rfl rfl (fits_agg _) (by simp) rfl rdisk_size rfl ?_; intro WA hO _ ht; replace HR5 := hide (HR5.out.touch (ht.mono (by simp)) (fun j hj => .inl hj)); replace HO := hide hO; clear hO ht; have k2 := HO.out.cells 0 rfl; have k61 := (HO.out.alloc (.cells #[] 9)).cells 0 rfl)
       | (at_builtin; refine wpList_append_copy rfl _ _ rfl (vx := .slice Ar nr cr) rfl rfl rfl (HRS.out _ HO.out.below) HML.out ?_; intro v1 W1 hr1 hb1; have HR1 := hide hr1; have HB1 := hide hb1; have HLB := hide (And.intro (HO.out.blk 0 rfl).lt (And.intro (HO.out.blk 1 rfl).lt HO.out.size)); clear hr1 hb1)
       | (at_builtin; refine wpList_append_one rfl _ _ rfl (v := v1) HXX.out.symm rfl HR1.out HB1.out.size rfl rfl HML.out ?_; intro v2 W2 hr2 hb2; have HR2 := hide hr2; replace HO := hide (HO.out.step (HB1.out.trans hb2)); replace HR5 := hide (HR5.out.step (HB1.out.trans hb2)); clear hr2 hb2)
       | ((with_reducible refine at_store 49 (.tmp 63) ?_); refine wpList_store_own_t HO.out rfl 49 (.tmp 63) (.tmp 62) rfl 0 _ 6 _ _ ([v2]) ([.slice A5 n5 c5, .slice B5 m5 b5, .int .i64 fz5, .bool fl5, .int .i64 zt, (sv st), v2, .int .i64 zu, .bool false]) rfl (v2) rfl rfl (fits_one HR2.out.one) (by simp) rfl rstr_size (by simp [HR2.out.one]) ?_; intro WA hO _ ht; replace HR5 := hide (HR5.out.touch (ht.mono (by simp)) (fun j hj => .inl hj)); replace HO := hide hO; have ht0 := ht; clear hO ht; replace HR2 := hide (HR2.out.touch ht0 (fun j hj hm => by simp at hm; have := (HR2.out.lt j hj).1; have := HLB.out; omega)); clear ht0; have k2 := HO.out.cells 0 rfl)
       | ((with_reducible refine at_store 3 (.tmp 68) ?_); refine wpList_store_own_t HO.out rfl 3 (.tmp 68) (.tmp 67) rfl 0 _ 7 _ _ ([.int .i64 (zu + zn)]) ([.slice A5 n5 c5, .slice B5 m5 b5, .int .i64 fz5, .bool fl5, .int .i64 zt, (sv st), v2, .int .i64 (zu + zn), .bool false]) rfl (.int .i64 (zu + zn)) rfl rfl (fits_one rfl) (by simp) rfl rint_size rfl ?_; intro WA hO _ ht; replace HR5 := hide (HR5.out.touch (ht.mono (by simp)) (fun j hj => .inl hj)); replace HO := hide hO; have ht0 := ht; clear hO ht; replace HR2 := hide (HR2.out.touch ht0 (fun j hj hm => by simp at hm; have := (HR2.out.lt j hj).1; have := HLB.out; omega)); clear ht0)
       | ((with_reducible refine at_load 51 (.tmp 2) ?_); refine wpList_load_own HO.out rfl 51 (.tmp 2) rfl 0 _ 0 9 _ _ ([.slice A5 n5 c5, .slice B5 m5 b5, .int .i64 fz5, .bool fl5, .int .i64 zt, (sv st), v2, .int .i64 (zu + zn), .bool false]) _ rfl (take_all rfl) rfl Tryz.underlying51 rfl rjr_size ?_)
       | ((with_reducible refine at_store 51 (.tmp 4) ?_); refine wpList_store_own_t HO.out rfl 51 (.tmp 4) (.tmp 69) rfl 1 _ 0 _ _ ([.slice A5 n5 c5, .slice B5 m5 b5, .int .i64 fz5, .bool fl5, .int .i64 zt, (sv st), v2, .int .i64 (zu + zn), .bool false]) ([.slice A5 n5 c5, .slice B5 m5 b5, .int .i64 fz5, .bool fl5, .int .i64 zt, (sv st), v2, .int .i64 (zu + zn), .bool false]) rfl (.agg ([.slice A5 n5 c5, .slice B5 m5 b5, .int .i64 fz5, .bool fl5, .int .i64 zt, (sv st), v2, .int .i64 (zu + zn), .bool false] : List Value).toArray) rfl rfl (fits_agg _) (by simp [zjr]) (splice_all rfl) rjr_size (by have h1 := HR2.out.one; simp only [List.all_cons, List.all_nil, h1]; rfl) ?_; intro WA hO _ ht; replace HR5 := hide (HR5.out.touch (ht.mono (by simp)) (fun j hj => .inl hj)); replace HO := hide hO; have ht0 := ht; clear hO ht; replace HR2 := hide (HR2.out.touch ht0 (fun j hj hm => by simp at hm; have := (HR2.out.lt j hj).1; have := HLB.out; omega)); clear ht0))
      refine bodyPost_ret (v := .tuple #[.agg ([.slice A5 n5 c5, .slice B5 m5 b5, .int .i64 fz5, .bool fl5, .int .i64 zt, (sv st), v2, .int .i64 (zu + zn), .bool false] : List Value).toArray, .int .i64 0]) (results_row_tmp rfl _ _ b4 51 ([.slice A5 n5 c5, .slice B5 m5 b5, .int .i64 fz5, .bool fl5, .int .i64 zt, (sv st), v2, .int .i64 (zu + zn), .bool false] : List Value).toArray (0, 0) _ _ rfl rfl (HO.out.blk 1 rfl) Tryz.underlying51 rfl rjr_size) rfl ?_
      refine ⟨_, by rw [HW2.out], ?_, HO.out.below⟩
      rw [HW2.out]
      exact ⟨A5, n5, c5, B5, m5, b5, v2, by dsimp only; rw [HEQ, HEL, HZ.out.1, HSB.out.1, HSB.out.2, Int.natCast_add, HZ.out.2.1, HZ.out.2.2.1], by unfold rv; rw [HEQ, HEL]; exact HR5.out.lessR (by intro j hj; simp only [List.cons_append, List.nil_append, List.mem_cons]; exact .inr (.inr (.inr hj))), by dsimp only; rw [HRC.out]; exact HR2.out.mono (Nat.zero_le _), fun j hj => ⟨(HR2.out.lt j hj).2, fun hm => by have := HF.out j hm; have := (HR2.out.lt j hj).1; have := HLB.out; omega⟩⟩
     ·have hd : (ec != 0) = true := by simpa using he0
      have HW2 : Hid (jAppend D J s = (E1, { J with broken := true }, ec)) := hide (by rw [HW.out, if_neg he0])
      go_wp2_with (first
       | ((with_reducible refine at_load 32 (.tmp 7) ?_); refine wpList_load_own HO.out rfl 32 (.tmp 7) rfl 2 _ 0 4 _ _ ([.slice A5 n5 c5, .slice B5 m5 b5, .int .i64 fz5, .bool fl5]) _ rfl (take_all rfl) rfl Tryz.underlying32 rfl rdisk_size ?_)
       | ((with_reducible refine at_store 32 (.tmp 50) ?_); refine wpList_store_own_t HO.out rfl 32 (.tmp 50) (.tmp 49) rfl 0 _ 0 _ _ ([.slice A5 n5 c5, .slice B5 m5 b5, .int .i64 fz5, .bool fl5]) ([.slice A5 n5 c5, .slice B5 m5 b5, .int .i64 fz5, .bool fl5, .int .i64 zt, (sv st), .slice Ar nr cr, .int .i64 zu, .bool false]) rfl (.agg ([.slice A5 n5 c5, .slice B5 m5 b5, .int .i64 fz5, .bool fl5] : List Value).toArray) rfl rfl (fits_agg _) (by simp) rfl rdisk_size rfl ?_; intro WA hO _ ht; replace HR5 := hide (HR5.out.touch (ht.mono (by simp)) (fun j hj => .inl hj)); replace HO := hide hO; clear hO ht; have k2 := HO.out.cells 0 rfl; have k61 := (HO.out.alloc (.cells #[] 9)).cells 0 rfl)
       | ((with_reducible refine at_store 4 (.tmp 53) ?_); refine wpList_store_own_t HO.out rfl 4 (.tmp 53) (.const (.bool true)) rfl 0 _ 8 _ _ ([.bool true]) ([.slice A5 n5 c5, .slice B5 m5 b5, .int .i64 fz5, .bool fl5, .int .i64 zt, (sv st), .slice Ar nr cr, .int .i64 zu, .bool true]) rfl (.bool true) rfl rfl (fits_one rfl) (by simp) rfl rbool_size rfl ?_; intro WA hO _ ht; replace HR5 := hide (HR5.out.touch (ht.mono (by simp)) (fun j hj => .inl hj)); replace HO := hide hO; clear hO ht)
       | ((with_reducible refine at_load 51 (.tmp 2) ?_); refine wpList_load_own HO.out rfl 51 (.tmp 2) rfl 0 _ 0 9 _ _ ([.slice A5 n5 c5, .slice B5 m5 b5, .int .i64 fz5, .bool fl5, .int .i64 zt, (sv st), .slice Ar nr cr, .int .i64 zu, .bool true]) _ rfl (take_all rfl) rfl Tryz.underlying51 rfl rjr_size ?_)
       | ((with_reducible refine at_store 51 (.tmp 4) ?_); refine wpList_store_own_t HO.out rfl 51 (.tmp 4) (.tmp 54) rfl 1 _ 0 _ _ ([.slice A5 n5 c5, .slice B5 m5 b5, .int .i64 fz5, .bool fl5, .int .i64 zt, (sv st), .slice Ar nr cr, .int .i64 zu, .bool true]) ([.slice A5 n5 c5, .slice B5 m5 b5, .int .i64 fz5, .bool fl5, .int .i64 zt, (sv st), .slice Ar nr cr, .int .i64 zu, .bool true]) rfl (.agg ([.slice A5 n5 c5, .slice B5 m5 b5, .int .i64 fz5, .bool fl5, .int .i64 zt, (sv st), .slice Ar nr cr, .int .i64 zu, .bool true] : List Value).toArray) rfl rfl (fits_agg _) (by simp [zjr]) (splice_all rfl) rjr_size (by first | rfl | (have h1 := HR2.out.one; simp only [List.all_cons, List.all_nil, h1]; rfl)) ?_; intro WA hO _ ht; replace HR5 := hide (HR5.out.touch (ht.mono (by simp)) (fun j hj => .inl hj)); replace HO := hide hO; clear hO ht)
       | ((with_reducible refine at_store 51 (.tmp 4) ?_); refine wpList_store_own_t HO.out rfl 51 (.tmp 4) (.tmp 69) rfl 1 _ 0 _ _ ([.slice A5 n5 c5, .slice B5 m5 b5, .int .i64 fz5, .bool fl5, .int .i64 zt, (sv st), .slice Ar nr cr, .int .i64 zu, .bool true]) ([.slice A5 n5 c5, .slice B5 m5 b5, .int .i64 fz5, .bool fl5, .int .i64 zt, (sv st), .slice Ar nr cr, .int .i64 zu, .bool true]) rfl (.agg ([.slice A5 n5 c5, .slice B5 m5 b5, .int .i64 fz5, .bool fl5, .int .i64 zt, (sv st), .slice Ar nr cr, .int .i64 zu, .bool true] : List Value).toArray) rfl rfl (fits_agg _) (by simp [zjr]) (splice_all rfl) rjr_size (by first | rfl | (have h1 := HR2.out.one; simp only [List.all_cons, List.all_nil, h1]; rfl)) ?_; intro WA hO _ ht; replace HR5 := hide (HR5.out.touch (ht.mono (by simp)) (fun j hj => .inl hj)); replace HO := hide hO; clear hO ht)
       | ((with_reducible refine at_store 51 (.tmp 4) ?_); refine wpList_store_own_t HO.out rfl 51 (.tmp 4) (.tmp 16) rfl 1 _ 0 _ _ ([.slice A5 n5 c5, .slice B5 m5 b5, .int .i64 fz5, .bool fl5, .int .i64 zt, (sv st), .slice Ar nr cr, .int .i64 zu, .bool true]) ([.slice A5 n5 c5, .slice B5 m5 b5, .int .i64 fz5, .bool fl5, .int .i64 zt, (sv st), .slice Ar nr cr, .int .i64 zu, .bool true]) rfl (.agg ([.slice A5 n5 c5, .slice B5 m5 b5, .int .i64 fz5, .bool fl5, .int .i64 zt, (sv st), .slice Ar nr cr, .int .i64 zu, .bool true] : List Value).toArray) rfl rfl (fits_agg _) (by simp [zjr]) (splice_all rfl) rjr_size (by first | rfl | (have h1 := HR2.out.one; simp only [List.all_cons, List.all_nil, h1]; rfl)) ?_; intro WA hO _ ht; replace HR5 := hide (HR5.out.touch (ht.mono (by simp)) (fun j hj => .inl hj)); replace HO := hide hO; clear hO ht)
       | ((with_reducible refine at_store 51 (.tmp 4) ?_); refine wpList_store_own_t HO.out rfl 51 (.tmp 4) (.tmp 24) rfl 1 _ 0 _ _ ([.slice A5 n5 c5, .slice B5 m5 b5, .int .i64 fz5, .bool fl5, .int .i64 zt, (sv st), .slice Ar nr cr, .int .i64 zu, .bool true]) ([.slice A5 n5 c5, .slice B5 m5 b5, .int .i64 fz5, .bool fl5, .int .i64 zt, (sv st), .slice Ar nr cr, .int .i64 zu, .bool true]) rfl (.agg ([.slice A5 n5 c5, .slice B5 m5 b5, .int .i64 fz5, .bool fl5, .int .i64 zt, (sv st), .slice Ar nr cr, .int .i64 zu, .bool true] : List Value).toArray) rfl rfl (fits_agg _) (by simp [zjr]) (splice_all rfl) rjr_size (by first | rfl | (have h1 := HR2.out.one; simp only [List.all_cons, List.all_nil, h1]; rfl)) ?_; intro WA hO _ ht; replace HR5 := hide (HR5.out.touch (ht.mono (by simp)) (fun j hj => .inl hj)); replace HO := hide hO; clear hO ht))
      refine bodyPost_ret (v := .tuple #[.agg ([.slice A5 n5 c5, .slice B5 m5 b5, .int .i64 fz5, .bool fl5, .int .i64 zt, (sv st), .slice Ar nr cr, .int .i64 zu, .bool true] : List Value).toArray, .int .i64 ec]) (results_row_tmp rfl _ _ b4 51 ([.slice A5 n5 c5, .slice B5 m5 b5, .int .i64 fz5, .bool fl5, .int .i64 zt, (sv st), .slice Ar nr cr, .int .i64 zu, .bool true] : List Value).toArray (0, 0) _ _ rfl rfl (HO.out.blk 1 rfl) Tryz.underlying51 rfl rjr_size) rfl ?_
      refine ⟨_, by rw [HW2.out], ?_, HO.out.below⟩
      rw [HW2.out]
      exact ⟨A5, n5, c5, B5, m5, b5, _, by dsimp only; rw [HEQ, HEL, HZ.out.1, HSB.out.1, HZ.out.2.1], by unfold rv; rw [HEQ, HEL]; exact HR5.out.lessR (by intro j hj; simp only [List.cons_append, List.nil_append, List.mem_cons]; exact .inr (.inr (.inr hj))), by dsimp only; rw [HRC.out]; exact HRS.out _ HO.out.below, fun j hj => ⟨Nat.lt_of_lt_of_le (HAP.out j hj).1 HO.out.size, (HAP.out j hj).2⟩⟩
end Go.Proofs.YtpadgkkeihhneaaGreat
