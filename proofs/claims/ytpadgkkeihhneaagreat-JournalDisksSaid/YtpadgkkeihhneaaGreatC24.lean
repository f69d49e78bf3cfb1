/- erase. -/
import Derived.Test.YtpadgkkeihhneaaGreatC23
import Derived.Test.YtpadgkkeihhneaaGreatC18
namespace Go.Proofs.YtpadgkkeihhneaaGreat
set_option maxRecDepth 100000
set_option linter.unusedSimpArgs false
set_option linter.unusedVariables false
open List renaming getElem_toArray → qa, getElem_cons_zero → qb, getElem_cons_succ → qc, setIfInBounds_toArray → qd, set_cons_zero → qe, set_cons_succ → qf
open Go.ChangeShapes Go.WideShapes Go.ChangeAt Go.RowKit
def zpg8 : List UInt8 := List.replicate 128 0
def dirtyK (D : DS) (t u k : Nat) : List Nat := ((List.range k).map (first D t + u + ·)).filter fun n => content D n != zpg8
def isPart (D : DS) (t n : Nat) : Bool := match prtOf (content D n) with
 | some x => x.turn == t
 | none => false
def staleK (D : DS) (t u k : Nat) : Bool := (List.range k).any fun j => isPart D t (first D t + u + j)
theorem dirtyK_succ (D : DS) (t u k : Nat) : dirtyK D t u (k + 1) = dirtyK D t u k ++ (if content D (first D t + u + k) != zpg8 then [first D t + u + k] else []) := by
 unfold dirtyK
 rw [List.range_succ, List.map_append, List.filter_append]
 congr 1
 simp only [List.map_cons, List.map_nil, List.filter_cons, List.filter_nil]
theorem staleK_succ (D : DS) (t u k : Nat) : staleK D t u (k + 1) = (staleK D t u k || isPart D t (first D t + u + k)) := by
 unfold staleK
 rw [List.range_succ, List.any_append]
 simp
theorem erase_eq (D : DS) (t u : Nat) : erase D t u = if staleK D t u (half D - u) then dWrites D ((dirtyK D t u (half D - u)).map (·, zpg8)) else (D, 0) := rfl
theorem prt_zero : prtOf zpg8 = none := by
 unfold prtOf
 rw [if_neg]
 have : (prtRead zpg8).fit = false := by decide
 unfold prtOk
 rw [this]
 simp
theorem count_zero (l : List UInt8) (h : l.length = 128) : l.count 0 = 128 ↔ l = zpg8 := by
 unfold zpg8
 rw [← h, List.count_eq_length, List.eq_replicate_iff]
 constructor
 ·intro h2; exact ⟨rfl, fun b hb => (h2 b hb).symm⟩
 ·intro h2 b hb; exact (h2.2 b hb).symm
theorem below_alloc (w : World) (o : Obj) : Below w.heap.size w (w.alloc o) := (Below.refl _ _).alloc (Nat.le_refl _) _
theorem Row.step {w w' : World} {t : TypeId} {size : Nat} {v : Value} {n : Nat} {cs : List Value} (h : Row w t size v n cs) (hb : Below w.heap.size w w') : Row w' t size v n cs := Row.touch h (Touch.below hb []) (by simp)
def intsV (l : List Nat) : List Value := l.map fun n : Nat => Value.int .i64 (n : Int)
/-- Between two rounds of erase's first loop: the pages before m have been looked at. -/
def ErR (w : World) (D : DS) (J : JS) (v3 v4 v5 : Value) (W : World) : Prop :=
 ∃ m : Nat, J.used ≤ m ∧ m ≤ half D ∧ v5 = .int .i64 m ∧ v4 = .bool (staleK D J.turn J.used (m - J.used)) ∧ Row W 3 1 v3 (dirtyK D J.turn J.used (m - J.used)).length (intsV (dirtyK D J.turn J.used (m - J.used))) ∧ (∀ j, v3.ownBlock = some j → w.heap.size ≤ j) ∧ Below w.heap.size w W
/-- What erase leaves. -/
def ErsR (w : World) (g d : Nat) (F : List Nat) (r : DS × Int) (J : JS) (rv : Value) (e : Ending) (w' : World) : Prop :=
 e = .returned (.int .i64 r.2) ∧ ∃ F', Jr w' g d F' r.1 J rv ∧ Touch (g :: F) w w' ∧ ∀ j ∈ F', j ∈ F ∨ w.heap.size ≤ j
theorem below_ad (w : World) (o : Obj) : Below w.heap.size w (w.alloc o).drew := ⟨(below_alloc w o).os, (below_alloc w o).tape, (below_alloc w o).output, (below_alloc w o).size, (below_alloc w o).block⟩
/-- Between two rounds of the second loop; wr: the world in front of it. -/
def Er2 (w wr : World) (g d : Nat) (F : List Nat) (D : DS) (J : JS) (rv : Value) (dk : List Nat) (v : Value) (nd k : Nat) (W : World) : Prop :=
 ∃ F1 D1, Jr W g d F1 D1 J rv ∧ dWrites D (dk.map (·, zpg8)) = dWrites D1 ((dk.map (·, zpg8)).drop k) ∧ D1.pages.length = D.pages.length ∧ D1.pend.length ≤ D.pend.length + k ∧ Touch (g :: F) w W ∧ (∀ j ∈ F1, j ∈ F ∨ wr.heap.size ≤ j) ∧ Row W 3 1 v nd (intsV dk) ∧ wr.heap.size ≤ W.heap.size
set_option maxHeartbeats 8000000 in
theorem erase_c (g d : Nat) (F : List Nat) (D : DS) (J : JS) (rv : Value) (w : World) (h : Jr w g d F D J rv) (hs : D.Sz) (hp : D.pend.length ≤ 60000) (ho : JOk D J) (hf : D.failed = false) (h5 : D.pages.length ≤ 5000) :
 Calls Tryz.prog 48 #[.pointer (some ⟨g, 0, none⟩)] w (ErsR w g d F (erase D J.turn J.used) J rv) := by
 have HJ0 := hide h
 have HS := hide hs
 have HP := hide hp
 have HO0 := hide ho
 have HF := hide hf
 have H5 : Hid (half D ≤ 2500) := hide (by unfold half; omega)
 obtain ⟨zt, hzt⟩ : ∃ z : Int, (J.turn : Int) = z := ⟨_, rfl⟩
 obtain ⟨zu, hzu⟩ : ∃ z : Int, (J.used : Int) = z := ⟨_, rfl⟩
 obtain ⟨zh, hzh⟩ : ∃ z : Int, (half D : Int) = z := ⟨_, rfl⟩
 have HK := hide (And.intro hzt (And.intro hzu hzh))
 have u0 : 0 ≤ zu := by omega
 have h0 : 0 ≤ zh := by omega
 have h1 : zh ≤ 1000000 := by have := half_le hs; omega
 have k4 := h.k4 hzu
 have HHC : Hid (∀ X : World, Hd X g d F D → Calls Tryz.prog 69 #[.pointer (some ⟨g, 0, none⟩)] X fun e w' => e = .returned (.int .i64 zh) ∧ X = w') := hide (fun X hX => by rw [← hzh]; exact half_c g d F D X hX hs)
 obtain ⟨zf, hzf⟩ : ∃ z : Int, (first D J.turn : Int) = z := ⟨_, rfl⟩
 have HZF := hide hzf
 have f0 : 0 ≤ zf := by omega
 have f1 : zf ≤ 1000002 := by
  have := half_le hs
  have h2 : J.turn % 2 < 2 := Nat.mod_lt _ (by omega)
  rw [← hzf]
  unfold first
  rcases (show J.turn % 2 = 0 ∨ J.turn % 2 = 1 by omega) with e | e <;> rw [e] <;> omega
 have HFC : Hid (∀ X : World, Hd X g d F D → Calls Tryz.prog 81 #[.pointer (some ⟨g, 0, none⟩), .int .i64 zt] X fun e w' => e = .returned (.int .i64 zf) ∧ X = w') := hide (fun X hX => by rw [← hzt, ← hzf]; exact first_c g d F D J.turn (by have := ho.turn; omega) X hX hs)
 obtain ⟨i0, hi0, hz0, hz1, hz2⟩ := info_parts info_int
 have HI := hide (And.intro hi0 (And.intro hz0 (And.intro hz1 hz2)))
 have HUH := hide ho.used
 clear h hs hp ho hf h5 hzt hzu hzh hzf hi0 hz0 hz1 hz2
 go_enter Tryz.func48, Tryz.ntmps48
 go_wp2_with fail
 rw [← HK.out.2.1]
 go_loopw [3, 4, 5] (fun v3 v4 v5 wr => ErR w D J v3 v4 v5 wr) (fun _ _ v5 _ => (half D) - (intOf v5).toNat)
 case atStart => exact ⟨J.used, Nat.le_refl _, HUH.out, rfl, by rw [Nat.sub_self]; rfl, by rw [Nat.sub_self]; exact World.ownsRow_nil _ _ _ _, (fun j hj => by cases hj), Below.refl _ _⟩
 case round =>
  obtain ⟨m, hm, hmh, rfl, rfl, hrow, hvn, hb⟩ := hrel
  have HROW := hide hrow
  have HVN := hide hvn
  have HB := hide hb
  have HJ := hide (HJ0.out.step hb)
  have HM := hide (And.intro hm hmh)
  have HRL := hide (fun j hj => (World.ownsRow.lt hrow j hj).2)
  obtain ⟨A3, c3, rfl, hc3, hc3m⟩ := hrow.form
  have HRL2 : Hid (∀ j, (Value.slice A3 (dirtyK D J.turn J.used (m - J.used)).length c3).ownBlock = some j → j < wr.heap.size) := HRL
  clear HRL
  have HRL := HRL2
  clear HRL2
  clear hrow hvn hb k4
  obtain ⟨zm, hzm⟩ : ∃ z : Int, (m : Int) = z := ⟨_, rfl⟩
  have HMZ := hide hzm
  have m0 : zu ≤ zm := by have := HK.out; omega
  have m1 : zm ≤ zh := by have := HK.out; omega
  rw [hzm]
  clear hzm hm hmh
  have HDK : Hid ((dirtyK D J.turn J.used (m - J.used)).length ≤ 2500) := hide (by
   have : (dirtyK D J.turn J.used (m - J.used)).length ≤ m - J.used := by unfold dirtyK; exact Nat.le_trans (List.length_filter_le _ _) (by simp)
   have := HM.out; have := H5.out; omega)
  have HDS := hide (dirtyK_succ D J.turn J.used (m - J.used))
  have HSK := hide (staleK_succ D J.turn J.used (m - J.used))
  have HSU : Hid (m + 1 - J.used = m - J.used + 1) := hide (by have := HM.out; omega)
  have HIX : Hid (first D J.turn + J.used + (m - J.used) = first D J.turn + m) := hide (by have := HM.out; omega)
  rw [HIX.out, ← HSU.out] at HDS HSK
  have HER : Hid (m = half D → erase D J.turn J.used = if staleK D J.turn J.used (m - J.used) then dWrites D ((dirtyK D J.turn J.used (m - J.used)).map (·, zpg8)) else (D, 0)) := hide (fun e => by subst e; exact erase_eq D J.turn J.used)
  generalize dirtyK D J.turn J.used (m - J.used) = dk at *
  generalize staleK D J.turn J.used (m - J.used) = sk at *
  obtain ⟨nd, hnd⟩ : ∃ n, dk.length = n := ⟨_, rfl⟩
  have HND := hide hnd
  rw [hnd] at HROW hc3 HDK HVN HRL ⊢
  clear hnd
  by_cases hlt : zm < zh
  ·have HLT : Hid (m < half D) := hide (by have := HK.out; have := HMZ.out; omega)
   have hw1 : IntKind.i64.wrap (zf + zm) = zf + zm := IntWalk.i64_in _ (by omega)
   have k1 : wr.cell? ⟨g, 1, none⟩ = some (.int .i64 zt) := HJ.out.k1 HK.out.1
   have k0 : wr.cell? ⟨g, 0, none⟩ = some (.pointer (some ⟨d, 0, none⟩)) := HJ.out.hd.cell
   have HDR : Hid (dRead D (zf + zm) = (content D (first D J.turn + m), 0)) := hide (by
    rw [← HZF.out, ← HMZ.out, show (first D J.turn : Int) + m = ((first D J.turn + m : Nat) : Int) by omega]
    exact dRead_ok HF.out _ (first_le HS.out _ _ HLT.out))
   have HCL : Hid ((content D (first D J.turn + m)).length = 128) := hide (content_ok HJ.out.disk.ok _ (first_le HS.out _ _ HLT.out))
   go_wp2_with fail
   refine (HHC.out _ HJ.out.hd).mono ?_
   rintro e w5 ⟨rfl, rfl⟩
   go_wp2_with fail
   refine (HFC.out _ HJ.out.hd).mono ?_
   rintro e w5 ⟨rfl, rfl⟩
   go_wp2_with fail
   refine (read_c d F D (zf + zm) wr HJ.out.disk).mono ?_
   rintro e w6 ⟨v6, rfl, hb6, hn6, hbel⟩
   rw [HDR.out] at hb6 ⊢
   obtain ⟨A6, m6, c6, rfl, hm6, _, _⟩ := hb6.formN
   have H6 := hide hb6
   have HM6 : Hid (m6 = 128) := hide (by have := HCL.out; rw [hm6.out]; exact this)
   replace HJ := hide (HJ.out.step hbel)
   replace HROW := hide (Row.step HROW.out hbel)
   replace HB := hide (HB.out.trans (hbel.mono HB.out.size))
   obtain ⟨b6, o6, hA6⟩ : ∃ b o, A6 = some ⟨b, o, none⟩ := by
    obtain ⟨b, o, _, e, _⟩ := hb6.at_ (k := 0) (by rw [HM6.out]; omega)
    exact ⟨b, o, e⟩
   subst hA6
   have HN6 : Hid (wr.heap.size ≤ b6) := hide (hn6 b6 rfl)
   clear hn6
   obtain ⟨h6, _⟩ : m6 = 128 ∧ True := ⟨HM6.out, trivial⟩
   subst h6
   clear hb6 hbel hm6 k1 k0 HM6
   go_wp2_with fail
   refine (count_c b6 o6 128 c6 w6.heap.size 1 _ _ (H6.out.alloc _) ((Blk.new w6 5 #[.int .u8 0]).cell 0)).mono ?_
   rintro e w7 ⟨rfl, rfl⟩
   have HBA := hide (below_alloc w6 (.cells #[.int .u8 0] 5))
   replace HJ := hide (HJ.out.step HBA.out)
   replace HROW := hide (Row.step HROW.out HBA.out)
   replace HB := hide (HB.out.trans (HBA.out.mono HB.out.size))
   replace H6 := hide (H6.out.step HBA.out)
   clear HBA
   have HCZ := hide (count_zero _ HCL.out)
   have HIP : Hid (isPart D J.turn (first D J.turn + m) = match prtOf (content D (first D J.turn + m)) with | some x => x.turn == J.turn | none => false) := hide rfl
   generalize w6.alloc (.cells #[.int .u8 0] 5) = w7 at *
   generalize hcg : content D (first D J.turn + m) = pg at *
   have HCG := hide hcg
   clear hcg HDR
   obtain ⟨zc, hzc⟩ : ∃ z : Int, ((pg.count 0 : Nat) : Int) = z := ⟨_, rfl⟩
   have HZC := hide hzc
   rw [hzc]
   clear hzc
   by_cases hz : zc = 128
   ·have HPG : Hid (pg = zpg8) := hide (HCZ.out.1 (by have := HZC.out; omega))
    have HDE : Hid (dirtyK D J.turn J.used (m + 1 - J.used) = dk) := hide (by rw [HDS.out, HPG.out, if_neg (by simp)]; simp)
    have HSE : Hid (staleK D J.turn J.used (m + 1 - J.used) = sk) := hide (by rw [HSK.out, HIP.out, HPG.out, prt_zero]; simp)
    have hzb : (zc == 128) = true := by simpa using hz
    go_wp2_with fail
    go_roundw
    case rel => exact ⟨m + 1, by have := HM.out; omega, by have := HLT.out; omega, by have := HMZ.out; congr 1; omega, by rw [HSE.out], by rw [HDE.out, HND.out]; exact HROW.out, HVN.out, HB.out⟩
    case measure => simp [intOf]; have := HMZ.out; have := HLT.out; omega
   ·have HPG : Hid (pg ≠ zpg8) := hide (fun e => hz (by have := HCZ.out.2 e; have := HZC.out; omega))
    have HDE : Hid (dirtyK D J.turn J.used (m + 1 - J.used) = dk ++ [first D J.turn + m]) := hide (by rw [HDS.out, if_pos (by simpa using HPG.out)])
    have hzb : (zc == 128) = false := by simpa using hz
    have HNV : Hid ([Value.int .i64 (zf + zm)] = intsV [first D J.turn + m]) := hide (by unfold intsV; simp only [List.map_cons, List.map_nil]; rw [← HZF.out, ← HMZ.out]; simp)
    go_wp2_with (at_builtin; refine wpList_append_row rfl (.tmp 50) (.tmp 52) 40 rfl 0 0 3 i0 _ 1 8 Tryz.underlying40 HI.out.1 HI.out.2.1 HI.out.2.2.1 HI.out.2.2.2 rfl (by decide) (v := .slice A3 nd c3) (n := nd) (m := 1) rfl (World.ownsRow.alloc HROW.out _) rfl (row_lit w7 0 3 1 1 [.int .i64 (zf + zm)] rfl (by decide) (Nat.zero_le _)) (by intro u hu; simp at hu; subst hu; rfl) (by have := HDK.out; unfold maxLen; omega) (by have := HDK.out; omega) (Nat.zero_le _) ?_; intro v1 W3 how hg hat; obtain ⟨A5, c5, rfl, _⟩ := Row.form how; have HO5 := hide how; have HG5 := hide hg; have HA5 := hide hat; clear how hg hat)
    have HAL := hide (below_alloc w7 (.cells #[.int .i64 (zf + zm)] 3))
    have HB3 : Hid (Below w.heap.size w W3) := hide ((HB.out.trans (HAL.out.mono HB.out.size)).grown HG5.out (Nat.le_trans HB.out.size HAL.out.size) (fun j hj => HVN.out j hj))
    replace HJ := hide (HJ0.out.step HB3.out)
    replace H6 := hide ((H6.out.step HAL.out).grown HG5.out (.inr (fun e => by have := HRL.out b6 e.symm; have := HN6.out; omega)))
    have HVN5 : Hid (∀ j, (Value.slice A5 (nd + 1) c5).ownBlock = some j → w.heap.size ≤ j) := hide (fun j hj => by
     rcases HA5.out with e | e
     ·rw [e] at hj; exact HVN.out j hj
     ·rw [e] at hj; injection hj with hj; subst hj; exact Nat.le_trans HB.out.size HAL.out.size)
    have HROW5 : Hid (Row W3 3 1 (.slice A5 (nd + 1) c5) (dirtyK D J.turn J.used (m + 1 - J.used)).length (intsV (dirtyK D J.turn J.used (m + 1 - J.used)))) := hide (by
     rw [HDE.out, List.length_append, HND.out]
     have := HO5.out
     rw [HNV.out] at this
     rwa [show intsV (dk ++ [first D J.turn + m]) = intsV dk ++ intsV [first D J.turn + m] by unfold intsV; simp])
    clear HB HAL HG5 HA5 HVN HROW HO5 HRL HN6
    have HB := HB3
    have HROW := HROW5
    have HVN := HVN5
    clear HB3 HROW5 HVN5
    refine (partOf_c _ _ (by rw [HCL.out]; omega) _ H6.out).mono ?_
    rintro e w12 ⟨⟨yt, yi, yp, yq, ys⟩, rfl, hy, hb7⟩
    replace HJ := hide (HJ.out.step hb7)
    replace HROW := hide (Row.step HROW.out hb7)
    replace HB := hide (HB.out.trans (hb7.mono HB.out.size))
    have HY := hide hy
    clear hy hb7 H6
    unfold pv
    obtain ⟨n0, hn0⟩ : ∃ z : Int, (yt : Int) = z := ⟨_, rfl⟩
    obtain ⟨n1, hn1⟩ : ∃ z : Int, (yi : Int) = z := ⟨_, rfl⟩
    obtain ⟨n2, hn2⟩ : ∃ z : Int, (yp : Int) = z := ⟨_, rfl⟩
    obtain ⟨n3, hn3⟩ : ∃ z : Int, (yq : Int) = z := ⟨_, rfl⟩
    have HN := hide hn0
    dsimp only
    rw [hn0, hn1, hn2, hn3]
    clear hn0 hn1 hn2 hn3
    have HO := hide (Own.nil w12 [] (by simp))
    have HIP2 : Hid (isPart D J.turn (first D J.turn + m) = if prtOk pg then (prtRead pg).turn == J.turn else false) := hide (by
     rw [HIP.out]; unfold prtOf; cases prtOk pg <;> rfl)
    cases hok : prtOk pg with
    | false =>
     have HSE : Hid (staleK D J.turn J.used (m + 1 - J.used) = sk) := hide (by rw [HSK.out, HIP2.out, hok]; simp)
     clear hok HY HIP HIP2
     go_wp2_with (first
      | ((with_reducible refine at_alloc 126 ?_); refine wpList_alloc_own HO.out rfl 126 rfl (zpartC) zpart_info ?_; intro WA b9 hO; replace HO := hide hO; clear hO)
      | ((with_reducible refine at_store 126 (.tmp 9) ?_); refine wpList_store_own HO.out rfl 126 (.tmp 9) (.tmp 57) rfl 0 _ 0 _ _ ([.int .i64 n0, .int .i64 n1, .int .i64 n2, .int .i64 n3, sv ys]) ([.int .i64 n0, .int .i64 n1, .int .i64 n2, .int .i64 n3, sv ys]) rfl (.agg ([.int .i64 n0, .int .i64 n1, .int .i64 n2, .int .i64 n3, sv ys]).toArray) rfl rfl (fits_agg _) (by simp [zpartC]) (splice_all rfl) zpart_size rfl ?_; intro WA hO; replace HO := hide hO; clear hO))
     cases hsk : sk with
     | true =>
      rw [hsk] at HSE
      clear hsk HSK
      refine wp_region_held_drew (S := fun W => (∀ j, W.cell? ⟨b9, j, none⟩ = ([.int .i64 n0, .int .i64 n1, .int .i64 n2, .int .i64 n3, sv ys] : List Value)[j]?) ∧ W.cell? ⟨g, 1, none⟩ = some (.int .i64 zt)) (by kernel_rfl) (⟨HO.out.drew.cells 0 rfl, (HJ.out.step HO.out.below).k1 HK.out.1⟩) (fun hS0 => ?_)
      replace HO := hide HO.out.drew
      refine tk 0 ?_
      refine tk 1 ?_
      refine ty 2 (undef) rfl (Or.inr ⟨by rfl, rfl⟩) ?_
      refine ty 3 (undef) rfl (Or.inr ⟨by rfl, rfl⟩) ?_
      refine ty 4 (undef) rfl (Or.inr ⟨by rfl, rfl⟩) ?_
      refine ty 5 (undef) rfl (Or.inr ⟨by rfl, rfl⟩) ?_
      refine ty 6 (undef) rfl (Or.inr ⟨by rfl, rfl⟩) ?_
      refine ty 7 (undef) rfl (Or.inr ⟨by rfl, rfl⟩) ?_
      refine ty 8 (undef) rfl (Or.inr ⟨by rfl, rfl⟩) ?_
      refine ty 9 (undef) rfl (Or.inr ⟨by rfl, rfl⟩) ?_
      refine ty 10 (undef) rfl (Or.inr ⟨by rfl, rfl⟩) ?_
      refine ty 11 (undef) rfl (Or.inr ⟨by rfl, rfl⟩) ?_
      refine tk 12 ?_
      refine tk 13 ?_
      refine wpAnyH_done (by kernel_rfl) ?_ _
      replace HB := hide (HB.out.trans (HO.out.below.mono HB.out.size))
      replace HROW := hide (Row.step HROW.out HO.out.below)
      go_wp2_with fail
      go_roundw
      case rel => exact ⟨m + 1, by have := HM.out; omega, by have := HLT.out; omega, by have := HMZ.out; congr 1; omega, by rw [HSE.out], by rw [HDE.out, List.length_append, HND.out] at HROW; rw [HDE.out, List.length_append, HND.out]; exact HROW.out, HVN.out, HB.out⟩
      case measure => simp [intOf]; have := HMZ.out; have := HLT.out; omega
     | false =>
      rw [hsk] at HSE
      clear hsk HSK
      refine wp_region_held_drew (S := fun W => (∀ j, W.cell? ⟨b9, j, none⟩ = ([.int .i64 n0, .int .i64 n1, .int .i64 n2, .int .i64 n3, sv ys] : List Value)[j]?) ∧ W.cell? ⟨g, 1, none⟩ = some (.int .i64 zt)) (by kernel_rfl) (⟨HO.out.drew.cells 0 rfl, (HJ.out.step HO.out.below).k1 HK.out.1⟩) (fun hS0 => ?_)
      replace HO := hide HO.out.drew
      refine tk 0 ?_
      refine tk 1 ?_
      refine tk 2 ?_
      refine tk 3 ?_
      refine ty 4 (undef) rfl (Or.inr ⟨by rfl, rfl⟩) ?_
      refine ty 5 (undef) rfl (Or.inr ⟨by rfl, rfl⟩) ?_
      refine ty 6 (undef) rfl (Or.inr ⟨by rfl, rfl⟩) ?_
      refine ty 7 (undef) rfl (Or.inr ⟨by rfl, rfl⟩) ?_
      refine ty 8 (undef) rfl (Or.inr ⟨by rfl, rfl⟩) ?_
      refine ty 9 (undef) rfl (Or.inr ⟨by rfl, rfl⟩) ?_
      refine ty 10 (undef) rfl (Or.inr ⟨by rfl, rfl⟩) ?_
      refine tk 11 ?_
      refine tk 12 ?_
      refine tk 13 ?_
      refine wpAnyH_done (by kernel_rfl) ?_ _
      replace HB := hide (HB.out.trans (HO.out.below.mono HB.out.size))
      replace HROW := hide (Row.step HROW.out HO.out.below)
      go_wp2_with fail
      go_roundw
      case rel => exact ⟨m + 1, by have := HM.out; omega, by have := HLT.out; omega, by have := HMZ.out; congr 1; omega, by rw [HSE.out], by rw [HDE.out, List.length_append, HND.out] at HROW; rw [HDE.out, List.length_append, HND.out]; exact HROW.out, HVN.out, HB.out⟩
      case measure => simp [intOf]; have := HMZ.out; have := HLT.out; omega
    | true =>
     have HSE0 : Hid (staleK D J.turn J.used (m + 1 - J.used) = (sk || (yt == J.turn))) := hide (by rw [HSK.out, HIP2.out, hok, if_pos rfl, ← HY.out hok])
     clear hok HY HIP HIP2
     go_wp2_with (first
      | ((with_reducible refine at_alloc 126 ?_); refine wpList_alloc_own HO.out rfl 126 rfl (zpartC) zpart_info ?_; intro WA b9 hO; replace HO := hide hO; clear hO)
      | ((with_reducible refine at_store 126 (.tmp 9) ?_); refine wpList_store_own HO.out rfl 126 (.tmp 9) (.tmp 57) rfl 0 _ 0 _ _ ([.int .i64 n0, .int .i64 n1, .int .i64 n2, .int .i64 n3, sv ys]) ([.int .i64 n0, .int .i64 n1, .int .i64 n2, .int .i64 n3, sv ys]) rfl (.agg ([.int .i64 n0, .int .i64 n1, .int .i64 n2, .int .i64 n3, sv ys]).toArray) rfl rfl (fits_agg _) (by simp [zpartC]) (splice_all rfl) zpart_size rfl ?_; intro WA hO; replace HO := hide hO; clear hO))
     cases hsk : sk with
     | true =>
      have HSE : Hid (staleK D J.turn J.used (m + 1 - J.used) = true) := hide (by rw [HSE0.out, hsk]; rfl)
      clear hsk HSK HSE0
      refine wp_region_held_drew (S := fun W => (∀ j, W.cell? ⟨b9, j, none⟩ = ([.int .i64 n0, .int .i64 n1, .int .i64 n2, .int .i64 n3, sv ys] : List Value)[j]?) ∧ W.cell? ⟨g, 1, none⟩ = some (.int .i64 zt)) (by kernel_rfl) (⟨HO.out.drew.cells 0 rfl, (HJ.out.step HO.out.below).k1 HK.out.1⟩) (fun hS0 => ?_)
      replace HO := hide HO.out.drew
      refine tk 0 ?_
      refine tk 1 ?_
      refine ty 2 (undef) rfl (Or.inr ⟨by rfl, rfl⟩) ?_
      refine ty 3 (undef) rfl (Or.inr ⟨by rfl, rfl⟩) ?_
      refine ty 4 (undef) rfl (Or.inr ⟨by rfl, rfl⟩) ?_
      refine ty 5 (undef) rfl (Or.inr ⟨by rfl, rfl⟩) ?_
      refine ty 6 (undef) rfl (Or.inr ⟨by rfl, rfl⟩) ?_
      refine ty 7 (undef) rfl (Or.inr ⟨by rfl, rfl⟩) ?_
      refine ty 8 (undef) rfl (Or.inr ⟨by rfl, rfl⟩) ?_
      refine ty 9 (undef) rfl (Or.inr ⟨by rfl, rfl⟩) ?_
      refine ty 10 (undef) rfl (Or.inr ⟨by rfl, rfl⟩) ?_
      refine ty 11 (undef) rfl (Or.inr ⟨by rfl, rfl⟩) ?_
      refine tk 12 ?_
      refine tk 13 ?_
      refine wpAnyH_done (by kernel_rfl) ?_ _
      replace HB := hide (HB.out.trans (HO.out.below.mono HB.out.size))
      replace HROW := hide (Row.step HROW.out HO.out.below)
      go_wp2_with fail
      go_roundw
      case rel => exact ⟨m + 1, by have := HM.out; omega, by have := HLT.out; omega, by have := HMZ.out; congr 1; omega, by rw [HSE.out], by rw [HDE.out, List.length_append, HND.out] at HROW; rw [HDE.out, List.length_append, HND.out]; exact HROW.out, HVN.out, HB.out⟩
      case measure => simp [intOf]; have := HMZ.out; have := HLT.out; omega
     | false =>
      have HNT : Hid ((yt == J.turn) = (n0 == zt)) := hide (by rw [← HN.out, ← HK.out.1]; simp [Bool.beq_eq_decide_eq]; omega)
      have HSE : Hid (staleK D J.turn J.used (m + 1 - J.used) = (n0 == zt)) := hide (by rw [HSE0.out, hsk, HNT.out]; rfl)
      clear hsk HSK HSE0 HNT
      refine wp_region_held_drew (S := fun W => (∀ j, W.cell? ⟨b9, j, none⟩ = ([.int .i64 n0, .int .i64 n1, .int .i64 n2, .int .i64 n3, sv ys] : List Value)[j]?) ∧ W.cell? ⟨g, 1, none⟩ = some (.int .i64 zt)) (by kernel_rfl) (⟨HO.out.drew.cells 0 rfl, (HJ.out.step HO.out.below).k1 HK.out.1⟩) (fun hS0 => ?_)
      replace HO := hide HO.out.drew
      refine tk 0 ?_
      refine tk 1 ?_
      refine tk 2 ?_
      refine tk 3 ?_
      refine tk 4 ?_
      refine tk 5 ?_
      refine tk 6 ?_
      refine tk 7 ?_
      refine tk 8 ?_
      refine tk 9 ?_
      refine tk 10 ?_
      refine tk 11 ?_
      refine tk 12 ?_
      refine tk 13 ?_
      refine wpAnyH_done (by kernel_rfl) ?_ _
      replace HB := hide (HB.out.trans (HO.out.below.mono HB.out.size))
      replace HROW := hide (Row.step HROW.out HO.out.below)
      go_wp2_with fail
      go_roundw
      case rel => exact ⟨m + 1, by have := HM.out; omega, by have := HLT.out; omega, by have := HMZ.out; congr 1; omega, by rw [HSE.out], by rw [HDE.out, List.length_append, HND.out] at HROW; rw [HDE.out, List.length_append, HND.out]; exact HROW.out, HVN.out, HB.out⟩
      case measure => simp [intOf]; have := HMZ.out; have := HLT.out; omega
  ·have HMH : Hid (m = half D) := hide (by have := HK.out; have := HMZ.out; have := HM.out; omega)
   have HER2 : Hid (erase D J.turn J.used = if sk then dWrites D (dk.map (·, zpg8)) else (D, 0)) := hide (HER.out HMH.out)
   have hge : zh ≤ zm := by omega
   clear HER HDS HSK HIX HSU hlt
   cases hsk : sk with
   | false =>
    have HE : Hid (erase D J.turn J.used = (D, 0)) := hide (by rw [HER2.out, hsk]; rfl)
    clear hsk HER2
    go_wp2_with fail
    refine (HHC.out _ HJ.out.hd).mono ?_
    rintro e w5 ⟨rfl, rfl⟩
    go_wp2_with fail
    go_ret
    exact ⟨by rw [HE.out]; rfl, F, by rw [HE.out]; exact HJ.out, Touch.below HB.out _, fun j hj => .inl hj⟩
   | true =>
    have HE : Hid (erase D J.turn J.used = dWrites D (dk.map (·, zpg8))) := hide (by rw [HER2.out, hsk]; rfl)
    clear hsk HER2
    go_wp2_with fail
    refine (HHC.out _ HJ.out.hd).mono ?_
    rintro e w5 ⟨rfl, rfl⟩
    go_wp2_with fail
    obtain ⟨w1, hw1⟩ : ∃ x, x = wr := ⟨_, rfl⟩
    subst hw1
    have HRB : Hid (∀ j, (Value.slice A3 nd c3).ownBlock = some j → w.heap.size ≤ j ∧ j < w1.heap.size) := hide (fun j hj => ⟨HVN.out j hj, HRL.out j hj⟩)
    go_loopw [76] (fun v76 wr => ∃ k : Nat, k ≤ nd ∧ v76 = .int .i64 k ∧ Er2 w w1 g d F D J rv dk (.slice A3 nd c3) nd k wr) (fun v76 _ => nd - (intOf v76).toNat)
    case atStart => exact ⟨0, Nat.zero_le _, rfl, F, D, HJ.out, rfl, rfl, by omega, Touch.below HB.out _, (fun j hj => .inl hj), HROW.out, Nat.le_refl _⟩
    case round =>
     obtain ⟨k, hk, rfl, F1, D1, hj, hdw, hpl, hpe, hto, hF1, hrow, hws⟩ := hrel
     clear HJ HROW
     have HJ := hide hj
     have HTO := hide hto
     have HROW := hide hrow
     have HF1 := hide hF1
     have HDW := hide hdw
     have HPL := hide hpl
     have HPE := hide hpe
     have HWS := hide hws
     have HKN := hide hk
     have HPEN : Hid (D1.pend.length ≤ 1000000) := hide (by have := HP.out; have := HDK.out; omega)
     have HRN : Hid (∀ j, (Value.slice A3 nd c3).ownBlock = some j → j ∉ F1) := hide (fun j hj hm => by
      have h1 := HRB.out j hj
      rcases HF1.out j hm with h2 | h2
      ·have := HJ0.out.lt j h2; omega
      ·omega)
     clear hj hdw hpl hpe hto hF1 hws
     by_cases hlt : k < nd
     ·obtain ⟨b3, hA3, _, hcell⟩ := Row.head hrow (by omega)
      subst hA3
      obtain ⟨zn, hzn⟩ : ∃ n, dk[k]? = some n := ⟨_, List.getElem?_eq_getElem (by rw [HND.out]; exact hlt)⟩
      have kc : wr.cell? ⟨b3, k, none⟩ = some (.int .i64 (zn : Int)) := by
       rw [(hcell k (by omega)).1]
       unfold intsV
       rw [List.getElem?_map, hzn]; rfl
      have HZN := hide hzn
      clear hrow hcell hzn
      have hmk := make128
      have HJa : Hid (Jr (wr.alloc (.cells (zb 128) 5)).drew g d F1 D1 J rv) := hide (HJ.out.step (below_ad wr _))
      have HTa : Hid (Touch (g :: F) w (wr.alloc (.cells (zb 128) 5)).drew) := hide (HTO.out.step (below_ad wr _))
      have HRa : Hid (Row (wr.alloc (.cells (zb 128) 5)).drew 3 1 (.slice (some ⟨b3, 0, none⟩) nd c3) nd (intsV dk)) := hide (Row.step HROW.out (below_ad wr _))
      have HZa : Hid (Bs (wr.alloc (.cells (zb 128) 5)).drew (.slice (some ⟨wr.heap.size, 0, none⟩) 128 128) zpg8) := hide (Bs.made (w := wr) zpg8 (zb 128) (0, 0) (zb_list 128) 128 (by simp [zpg8]) (by simp [maxLen, zpg8]))
      have HVa : Hid (∀ j, (Value.slice (some ⟨wr.heap.size, 0, none⟩) 128 128).ownBlock = some j → j ∉ F1 ∧ j < (wr.alloc (.cells (zb 128) 5)).drew.heap.size) := hide (fun j hj => by injection hj with hj; have hj2 : wr.heap.size = j := hj; subst hj2; exact ⟨fun hm => by have := HJ.out.lt _ hm; omega, by show _ < (wr.alloc _).heap.size; simp⟩)
      have HWA : Hid (w1.heap.size ≤ (wr.alloc (.cells (zb 128) 5)).drew.heap.size) := hide (Nat.le_trans HWS.out (below_ad wr _).size)
      go_wp2_with fail
      refine wp_region_held_drew (S := fun W => W.cell? ⟨g, 0, none⟩ = some (.pointer (some ⟨d, 0, none⟩))) (by kernel_rfl) (HJ.out.hd.cell) (fun hS0 => ?_)
      refine tk 0 ?_
      refine tk 1 ?_
      refine tk 2 ?_
      refine tk 3 ?_
      refine tk 4 ?_
      refine tr1 5 fun K hK => ?_
      go_simp
      refine hK.out _ _ (HJa.out.hd.cell) (fun hS5 => ?_)
      clear hK K
      try simp only [Act.put, qa, qb, qc, qd, qe, qf]
      refine tr1 6 fun K hK => ?_
      go_simp
      clear HJ HTO HROW
      generalize (wr.alloc (.cells (zb 128) 5)).drew = WA at *
      refine (write_c d F1 D1 (zn : Int) _ _ _ HJa.out.disk HZa.out (fun _ => HVa.out) HPEN.out).mono ?_
      rintro e w6 hd
      obtain ⟨rfl, F2, hj2, ht2, hF2⟩ := HJa.out.does hd HJa.out.rlt HJa.out.glt
      have HF2 : Hid (∀ j ∈ F2, j ∈ F ∨ w1.heap.size ≤ j) := hide (fun j hj => by rcases hF2 j hj with h1 | h1; exact HF1.out j h1; exact .inr (Nat.le_trans HWA.out h1))
      have HTO := hide (HTa.out.next ht2 (fun j hj => by rcases HF1.out j hj with h1 | h1; exact .inl (by simp [h1]); exact .inr (Nat.le_trans HB.out.size h1)))
      have HROW := hide (Row.touch HRa.out ht2 (fun j hj => HRN.out j hj))
      have HWB : Hid (w1.heap.size ≤ w6.heap.size) := hide (Nat.le_trans HWA.out ht2.size)
      have HJ := hide hj2
      clear hd hj2 ht2 hF2 HJa HTa HRa HZa HVa HWA hmk
      refine hK.out _ _ (HJ.out.hd.cell) (fun hS6 => ?_)
      clear hK K
      try simp only [Act.put, qa, qb, qc, qd, qe, qf]
      refine tk 7 ?_
      refine wpAnyH_done (by kernel_rfl) ?_ _
      have HDC : Hid ((dk.map (·, zpg8)).drop k = (zn, zpg8) :: (dk.map (·, zpg8)).drop (k + 1)) := hide (by
       have hkl : k < (dk.map (·, zpg8)).length := by rw [List.length_map, HND.out]; exact hlt
       rw [List.drop_eq_getElem_cons hkl]
       congr 1
       have := HZN.out
       rw [List.getElem?_eq_getElem (by simpa using hkl)] at this
       injection this with this
       simp [this])
      have HDW2 : Hid (dWrites D (dk.map (·, zpg8)) = if (dWrite D1 (zn : Int) zpg8).2 = 0 then dWrites (dWrite D1 (zn : Int) zpg8).1 ((dk.map (·, zpg8)).drop (k + 1)) else dWrite D1 (zn : Int) zpg8) := hide (by rw [HDW.out, HDC.out, dWrites_cons])
      have HPG : Hid ((dWrite D1 (zn : Int) zpg8).1.pages.length = D.pages.length) := hide (by rw [dWrite_pages]; exact HPL.out)
      have HPD : Hid ((dWrite D1 (zn : Int) zpg8).1.pend.length ≤ D.pend.length + (k + 1)) := hide (by have := dWrite_pend_le D1 (zn : Int) zpg8; have := HPE.out; omega)
      clear HDW HDC
      generalize dWrite D1 (zn : Int) zpg8 = r at *
      obtain ⟨D2, zc⟩ := r
      dsimp only at HJ HDW2 HPG HPD ⊢
      by_cases hz : zc = 0
      ·subst hz
       have HDX : Hid (dWrites D (dk.map (·, zpg8)) = dWrites D2 ((dk.map (·, zpg8)).drop (k + 1))) := hide (by rw [HDW2.out]; exact if_pos (by first | trivial | rfl))
       go_wp2_with fail
       go_roundw
       case rel => exact ⟨k + 1, by omega, by go_num, F2, D2, HJ.out, HDX.out, HPG.out, HPD.out, HTO.out, HF2.out, HROW.out, HWB.out⟩
       case measure => simp [intOf]; omega
      ·have HDX : Hid (dWrites D (dk.map (·, zpg8)) = (D2, zc)) := hide (by rw [HDW2.out]; exact if_neg hz)
       go_wp2_with fail
       go_ret
       exact ⟨by rw [HE.out, HDX.out]; rfl, F2, by rw [HE.out, HDX.out]; exact HJ.out, HTO.out, fun j hj => (HF2.out j hj).imp id (Nat.le_trans HB.out.size)⟩
     ·obtain ⟨h7, _⟩ : k = nd ∧ True := ⟨by omega, trivial⟩
      subst h7
      have HDX : Hid (erase D J.turn J.used = dSync D1) := hide (by rw [HE.out, HDW.out, List.drop_eq_nil_of_le (by rw [List.length_map, HND.out]; exact Nat.le_refl _)]; rfl)
      have kd : wr.cell? ⟨g, 0, none⟩ = some (.pointer (some ⟨d, 0, none⟩)) := HJ.out.hd.cell
      clear hrow
      go_wp2_with fail
      refine (sync_c d F1 D1 wr HJ.out.disk).mono ?_
      rintro e w6 hd
      obtain ⟨rfl, F2, hj2, ht2, hF2⟩ := HJ.out.does hd HJ.out.rlt HJ.out.glt
      have HF2 : Hid (∀ j ∈ F2, j ∈ F ∨ w.heap.size ≤ j) := hide (fun j hj => by rcases hF2 j hj with h1 | h1; exact (HF1.out j h1).imp id (Nat.le_trans HB.out.size); exact .inr (Nat.le_trans HTO.out.size h1))
      replace HTO := hide (HTO.out.next ht2 (fun j hj => by rcases HF1.out j hj with h1 | h1; exact .inl (by simp [h1]); exact .inr (Nat.le_trans HB.out.size h1)))
      have HJ2 := hide hj2
      clear hd hj2 ht2 hF2 HJ kd
      generalize dSync D1 = r at *
      obtain ⟨D2, zc⟩ := r
      dsimp only at HJ2 HDX ⊢
      go_wp2_with fail
      go_ret
      exact ⟨by rw [HDX.out]; rfl, F2, by rw [HDX.out]; exact HJ2.out, HTO.out, HF2.out⟩
end Go.Proofs.YtpadgkkeihhneaaGreat
