/- The reference's New, Contents; the law's contents. -/
import Derived.Test.YtpadgkkeihhneaaGreatC18
import Derived.Test.YtpadgkkeihhneaaGreatC12
import Derived.Test.YtpadgkkeihhneaaGreatC11
import Derived.Test.YtpadgkkeihhneaaGreatC15
namespace Go.Proofs.YtpadgkkeihhneaaGreat
set_option maxRecDepth 100000
set_option linter.unusedSimpArgs false
set_option linter.unusedVariables false
section
open List renaming getElem_toArray → qa, getElem_cons_zero → qb, getElem_cons_succ → qc, setIfInBounds_toArray → qd, set_cons_zero → qe, set_cons_succ → qf
open Go.ChangeShapes Go.WideShapes Go.ChangeAt Go.RowKit
theorem content_len {D : DS} (h : D.Ok) (i : Nat) (hi : i < D.pages.length) : (content D i).length = 128 := by
 have key : ∀ k, k ≤ D.pend.length → (lastP D i k).length = 128 := by
  intro k hk
  induction k with
  | zero => rw [lastP_zero, List.getD_eq_getElem?_getD, List.getElem?_eq_getElem hi]; exact h.pages _ (List.getElem_mem _)
  | succ k ih =>
   rw [lastP_succ D i k (by omega)]
   split
   ·exact (h.pend _ (List.getElem_mem _)).2
   ·exact ih (by omega)
 rw [← lastP_all]; exact key _ (Nat.le_refl _)
/-- What of the state Contents looks at. -/
def live (D : DS) : DS := { D with fuse := 0, failed := false }
theorem below_first (w : World) (o : Obj) : Below w.heap.size w (w.alloc o) := (Below.refl _ w).alloc (Nat.le_refl _) _
theorem row_lit1 (w : World) (o : Obj) (base : Nat) (t : TypeId) (size n : Nat) (cs : List Value) (hl : cs.length = n * size) (hn : n ≤ maxLen) (hb : base ≤ w.heap.size) :
 ((w.alloc o).alloc (.cells cs.toArray t)).ownsRow base t size (.slice (some ⟨w.heap.size + 1, 0, none⟩) n n) n cs := by
 have h := row_lit (w.alloc o) base t size n cs hl hn (by rw [World.size_alloc]; omega)
 rw [World.size_alloc] at h
 exact h
theorem one_slice (A : Option Addr) (m c : Nat) : ∀ u ∈ [Value.slice A m c], u.oneCell' = true := by intro u hu; simp at hu; subst hu; rfl
def zpage : List UInt8 := List.replicate 128 0
/-- Between two rounds of New. -/
structure Nwl (w : World) (F : List Nat) (n i : Nat) (v : Value) (vs : List Value) (W : World) : Prop where
 le : i ≤ n
 row : Row W 35 1 v i vs
 pgs : Pgs W (v.ownBlock.toList ++ ([w.heap.size, w.heap.size + 1] ++ F)) vs (List.replicate i zpage)
 box : Blk W (w.heap.size + 1) 32 #[v, .slice none 0 0, .int .i64 (-1), .bool false]
 res : Blk W w.heap.size 32 #[.slice none 0 0, .slice none 0 0, .int .i64 0, .bool false]
 b : Below w.heap.size w W
 own : ∀ j, v.ownBlock = some j → w.heap.size + 2 ≤ j
 size : w.heap.size + 2 ≤ W.heap.size
def NwR (w : World) (F : List Nat) (n : Nat) (v5 : Value) (W : World) : Prop := ∃ (i : Nat) (v : Value) (vs : List Value), v5 = .int .i64 i ∧ Nwl w F n i v vs W
theorem nwl_next {w wr W3 : World} {F : List Nat} {n i c5 c6 : Nat} {A5 A6 : Option Addr} {vs : List Value} (h : Nwl w F n i (.slice A5 i c5) vs wr) (hF : ∀ j ∈ F, j < w.heap.size)
 (ho : W3.ownsRow 0 35 1 (.slice A6 (i + 1) c6) (i + 1) (vs ++ [.slice (some ⟨wr.heap.size, 0, none⟩) 128 128]))
 (hg : ((wr.drew.alloc (.cells (zb 128) 5)).alloc (.cells #[.slice (some ⟨wr.heap.size, 0, none⟩) 128 128] 35)).grownBy W3 (Value.slice A5 i c5).ownBlock)
 (ha : (Value.slice A6 (i + 1) c6).ownBlock = (Value.slice A5 i c5).ownBlock ∨ (Value.slice A6 (i + 1) c6).ownBlock = some ((wr.drew.alloc (.cells (zb 128) 5)).alloc (.cells #[.slice (some ⟨wr.heap.size, 0, none⟩) 128 128] 35)).heap.size)
 (hb : Blk W3 (w.heap.size + 1) 32 #[.slice A5 i c5, .slice none 0 0, .int .i64 (-1), .bool false]) (hi : i < n) :
 Nwl w F n (i + 1) (.slice A6 (i + 1) c6) (vs ++ [.slice (some ⟨wr.heap.size, 0, none⟩) 128 128]) (W3.setCell ⟨w.heap.size + 1, 0, none⟩ (.slice A6 (i + 1) c6)) := by
 have hsz := h.size
 have hown := h.own
 have hw2 : ((wr.drew.alloc (.cells (zb 128) 5)).alloc (.cells #[.slice (some ⟨wr.heap.size, 0, none⟩) 128 128] 35)).heap.size = wr.heap.size + 2 := by rw [World.size_alloc, World.size_alloc]; rfl
 have hgs := hg.size
 rw [hw2] at hgs
 have kb : Below wr.heap.size wr ((wr.drew.alloc (.cells (zb 128) 5)).alloc (.cells #[.slice (some ⟨wr.heap.size, 0, none⟩) 128 128] 35)) := (((Below.refl wr.heap.size wr).drew).alloc (Nat.le_refl _) _).alloc (by rw [World.size_alloc]; exact Nat.le_succ _) _
 have k2 : Touch (Value.slice A5 i c5).ownBlock.toList wr W3 := (Touch.below kb _).next (Touch.grown hg) (fun t ht => .inl ht)
 have T : Touch [w.heap.size + 1] W3 (W3.setCell ⟨w.heap.size + 1, 0, none⟩ (.slice A6 (i + 1) c6)) := (Touch.refl _ _).set (by simp) 0 _
 have hown2 : ∀ j, (Value.slice A6 (i + 1) c6).ownBlock = some j → w.heap.size + 2 ≤ j ∧ (j ∈ (Value.slice A5 i c5).ownBlock.toList ∨ wr.heap.size + 2 ≤ j) := fun j hj => by
  rcases ha with e | e
  ·rw [hj] at e
   exact ⟨hown j e.symm, .inl (Option.mem_toList.2 e.symm)⟩
  ·rw [hj, hw2] at e
   have e2 : j = wr.heap.size + 2 := by injection e
   exact ⟨by omega, .inr (by omega)⟩
 have hin : ∀ j ∈ (Value.slice A6 (i + 1) c6).ownBlock.toList ++ ([w.heap.size, w.heap.size + 1] ++ F), j ∈ (Value.slice A5 i c5).ownBlock.toList ++ ([w.heap.size, w.heap.size + 1] ++ F) ∨ wr.heap.size + 2 ≤ j := fun j hj => by
  rcases List.mem_append.1 hj with hj | hj
  ·rcases (hown2 j (Option.mem_toList.1 hj)).2 with h1 | h1
   ·exact .inl (List.mem_append.2 (.inl h1))
   ·exact .inr h1
  ·exact .inl (List.mem_append.2 (.inr hj))
 have hp1 : Pgs W3 ((Value.slice A6 (i + 1) c6).ownBlock.toList ++ ([w.heap.size, w.heap.size + 1] ++ F)) vs (List.replicate i zpage) :=
  h.pgs.touch (k2.mono fun s hs => .inl (List.mem_append.2 (.inl hs))) fun j hj => (hin j hj).imp_right (fun e => by omega)
 have hz : Blk ((wr.drew.alloc (.cells (zb 128) 5)).alloc (.cells #[.slice (some ⟨wr.heap.size, 0, none⟩) 128 128] 35)) wr.heap.size 5 (zb 128) := (Blk.new wr.drew _ _).alloc _
 have hz3 : Blk W3 wr.heap.size 5 (zb 128) := hz.grown hg (fun e => by have h1 := (World.ownsRow.lt h.row _ e.symm).2; omega)
 have hp2 : Bs W3 (.slice (some ⟨wr.heap.size, 0, none⟩) 128 128) zpage := Bs.blk hz3 (zb_list 128) 128 (by simp [zpage]) (by simp [zpage, maxLen])
 have hp3 : Apart W3 ((Value.slice A6 (i + 1) c6).ownBlock.toList ++ ([w.heap.size, w.heap.size + 1] ++ F)) (.slice (some ⟨wr.heap.size, 0, none⟩) 128 128) := fun j hj => by
  have e : wr.heap.size = j := by injection hj
  subst e
  refine ⟨by omega, fun hm => ?_⟩
  rcases List.mem_append.1 hm with hm | hm
  ·rcases (hown2 _ (Option.mem_toList.1 hm)).2 with h1 | h1
   ·have := (World.ownsRow.lt h.row _ (Option.mem_toList.1 h1)).2; omega
   ·omega
  ·simp at hm
   rcases hm with e | e | e
   ·omega
   ·omega
   ·have := hF _ e; omega
 have hp4 := (hp1.snoc hp2 hp3).touch (T.mono fun s hs => .inl (by simp at hs; subst hs; simp)) (F' := (Value.slice A6 (i + 1) c6).ownBlock.toList ++ ([w.heap.size, w.heap.size + 1] ++ F)) fun j hj => .inl hj
 have e : List.replicate i zpage ++ [zpage] = List.replicate (i + 1) zpage := List.replicate_succ'.symm
 rw [e] at hp4
 have hts := T.size
 refine ⟨hi, Row.touch ho T (fun j hj => by have := (hown2 j hj).1; simp; omega), hp4, hb.put 0 _, ?_, ?_, fun j hj => (hown2 j hj).1, by omega⟩
 ·refine ((h.res.touch k2 (fun hm => ?_)).far (by simp) _)
  have := hown _ (Option.mem_toList.1 hm); omega
 ·exact (Below.touch h.b k2 (fun s hs => by have := hown _ (Option.mem_toList.1 hs); omega) h.b.size).setCell (Nat.le_succ _) _
set_option maxRecDepth 100000 in
set_option maxHeartbeats 4000000 in
theorem new_r (F : List Nat) (n : Nat) (h1 : 1 ≤ n) (hn : n ≤ 4096) (w : World) (hF : ∀ j ∈ F, j < w.heap.size) :
 Calls Tryz.prog 10 #[.int .i64 n] w (GivesRE w F (dNew n, 0)) := by
 have hm : ∀ W : World, (Instr.makeSlice 35 (.int .i64 128) (.int .i64 128)).run Tryz.prog W = .ok (.slice (some ⟨W.heap.size, 0, none⟩) 128 128) (W.alloc (.cells (zb 128) 5)) := run_make_bytes 128 (by decide)
 have HF := hide hF
 have HN := hide hn
 have hge : (1 : Int) ≤ (n : Int) := by omega
 have hle : (n : Int) ≤ 4096 := by omega
 clear hF hn h1
 obtain ⟨i0, hi0, hz0, hz1, hz2⟩ := info_parts info_sl
 go_enter Tryz.func10, Tryz.ntmps10
 go_wp2_with fail
 go_loopw [5] (fun v5 wr => NwR w F n v5 wr) (fun v5 _ => n - (intOf v5).toNat)
 case atStart =>
  refine ⟨0, .slice none 0 0, [], rfl, ⟨Nat.zero_le _, World.ownsRow_nil _ _ _ _, Pgs.nil _ _, ?_, (Blk.new w _ _).alloc _, below_two w _ _, (fun j hj => by cases hj), by simp [Nat.add_assoc]⟩⟩
  have h := Blk.new (w.alloc (.cells #[.slice none 0 0, .slice none 0 0, .int .i64 0, .bool false] 32)) 32 #[.slice none 0 0, .slice none 0 0, .int .i64 (-1), .bool false]
  rw [World.size_alloc] at h
  exact h
 case round =>
  obtain ⟨i, v, vs, rfl, hst⟩ := hrel
  obtain ⟨A5, c5, rfl, hic, hcm⟩ := hst.row.form
  have HST := hide hst
  have HROW := hide hst.row
  have HOWN := hide hst.own
  have HBOX := hide hst.box
  have HI : Hid (i ≤ 4096) := hide (by have := hst.le; have := HN.out; omega)
  obtain ⟨k0, k1, k2, k3, f0, f1, f2, f3⟩ := blk4 hst.box
  have HC1 : Hid ((wr.alloc (.cells (zb 128) 5)).cell? ⟨w.heap.size + 1, 0, none⟩ = some (.slice A5 i c5)) := hide ((hst.box.alloc _).cell 0)
  have HC2 : Hid (((wr.alloc (.cells (zb 128) 5)).alloc (.cells #[.slice (some ⟨wr.heap.size, 0, none⟩) 128 128] 35)).cell? ⟨w.heap.size + 1, 0, none⟩ = some (.slice A5 i c5)) := hide (((hst.box.alloc _).alloc _).cell 0)
  by_cases hlt : i < n
  ·have hki : (i : Int) < (n : Int) := by omega
   have HLT := hide hlt
   clear hst hlt
   go_wp2_with fail
   refine wp_region_held_drew (S := fun _ => True) (by kernel_rfl) trivial (fun hS0 => ?_)
   simp only [List.size_toArray, List.length_cons, List.length_nil, Nat.reduceAdd, Array.replicate_succ, Array.replicate_zero, List.push_toArray, List.append_toArray, List.nil_append, List.cons_append]
   refine tk 0 ?_
   refine' have_tail0 (fun tail => ?_) ?_
   rotate_left
   ·refine wpAnyH_ready (rs := [1, 2]) (by kernel_rfl) (by simp) ?_
    refine AllReadyH.cons rfl (fun K hK => ?_) (AllReadyH.cons rfl (fun K hK => ?_) AllReadyH.nil)
    ·go_simp
     refine hK.out _ _ trivial (fun _ => ?_)
     clear hK K
     try simp only [Act.put, qa, qb, qc, qd, qe, qf]
     refine tr1 2 fun K hK => ?_
     go_simp
     refine hK.out _ _ trivial (fun _ => ?_)
     clear hK K
     try simp only [Act.put, qa, qb, qc, qd, qe, qf]
     refine tr1 3 fun K hK => ?_
     go_simp
     refine hK.out _ _ trivial (fun _ => ?_)
     clear hK K
     try simp only [Act.put, qa, qb, qc, qd, qe, qf]
     exact tail
    ·go_simp
     refine hK.out _ _ trivial (fun _ => ?_)
     clear hK K
     try simp only [Act.put, qa, qb, qc, qd, qe, qf]
     refine wpAnyH_ready (rs := [1, 3]) (by kernel_rfl) (by simp) ?_
     refine AllReadyH.cons rfl (fun K hK => ?_) (AllReadyH.cons rfl (fun K hK => ?_) AllReadyH.nil)
     ·have cq := HC1.out
      go_simp
      refine hK.out _ _ trivial (fun _ => ?_)
      clear hK K
      try simp only [Act.put, qa, qb, qc, qd, qe, qf]
      refine tr1 3 fun K hK => ?_
      go_simp
      refine hK.out _ _ trivial (fun _ => ?_)
      clear hK K
      try simp only [Act.put, qa, qb, qc, qd, qe, qf]
      exact tail
     ·go_simp
      refine hK.out _ _ trivial (fun _ => ?_)
      clear hK K
      try simp only [Act.put, qa, qb, qc, qd, qe, qf]
      refine tr1 1 fun K hK => ?_
      have cq := HC2.out
      go_simp
      refine hK.out _ _ trivial (fun _ => ?_)
      clear hK K
      try simp only [Act.put, qa, qb, qc, qd, qe, qf]
      exact tail
   refine tr1 4 fun K hK => ?_
   refine step_append_row rfl (.tmp 20) (.tmp 22) 22 rfl 0 0 35 i0 _ 1 24 Tryz.underlying22 hi0 hz0 hz1 hz2 rfl (by decide) (v := .slice A5 i c5) (n := i) (m := 1) rfl (World.ownsRow.alloc (World.ownsRow.alloc HROW.out _) _) rfl (row_lit1 wr.drew _ 0 35 1 1 [.slice (some ⟨wr.heap.size, 0, none⟩) 128 128] rfl (by decide) (Nat.zero_le _)) (one_slice _ _ _) (by have := HI.out; unfold maxLen; omega) (by have := HI.out; omega) (Nat.zero_le _) ?_
   intro v1 W3 how hg hat
   obtain ⟨A6, c6, rfl, _⟩ := Row.form how
   have HO := hide how
   have HG := hide hg
   have HA := hide hat
   have hbox3 : Blk W3 (w.heap.size + 1) 32 #[.slice A5 i c5, .slice none 0 0, .int .i64 (-1), .bool false] := ((HBOX.out.drew.alloc _).alloc _).grown hg (fun e => by have := HOWN.out _ e.symm; omega)
   have HB3 := hide hbox3
   obtain ⟨j0, j1, j2, j3, g0, g1, g2, g3⟩ := blk4 hbox3
   clear how hg hat hbox3
   refine hK.out _ _ trivial (fun _ => ?_)
   clear hK K
   try simp only [Act.put, qa, qb, qc, qd, qe, qf]
   refine tk 5 ?_
   refine tr1 6 fun K hK => ?_
   go_simp
   refine hK.out _ _ trivial (fun _ => ?_)
   clear hK K
   try simp only [Act.put, qa, qb, qc, qd, qe, qf]
   refine wpAnyH_done (by kernel_rfl) ?_ _
   go_wp2_with fail
   go_roundw
   case rel => exact ⟨i + 1, _, _, by go_num, nwl_next HST.out HF.out HO.out HG.out HA.out HB3.out HLT.out⟩
   case measure => have := HLT.out; simp [intOf]; omega
  ·obtain rfl : i = n := by have := hst.le; omega
   obtain ⟨j0, j1, j2, j3, g0, g1, g2, g3⟩ := blk4 hst.res
   clear hst hlt
   go_wp2_with fail
   refine bodyPost_ret (results_row_tmp rfl _ _ w.heap.size 32 #[.slice A5 i c5, .slice none 0 0, .int .i64 (-1), .bool false] (0, 0) _ (.int .i64 0) rfl rfl ?hr Tryz.underlying32 rfl size_disk) rfl ?hp
   case hr => exact ((((HST.out.res.put 0 _).put 1 _).put 2 _).put 3 _)
   case hp =>
    clear k0 k1 k2 k3 f0 f1 f2 f3 j0 j1 j2 j3 g0 g1 g2 g3
    have T5 : Touch [w.heap.size, w.heap.size + 1] wr _ := (((((Touch.refl [w.heap.size, w.heap.size + 1] wr).set (g := w.heap.size) (.inl (by simp)) 0 (.slice A5 i c5)).set (g := w.heap.size) (.inl (by simp)) 1 (.slice none 0 0)).set (g := w.heap.size) (.inl (by simp)) 2 (.int .i64 (-1))).set (g := w.heap.size) (.inl (by simp)) 3 (.bool false))
    generalize hWf : (World.setCell _ _ _) = Wf at T5 ⊢
    have hBf := Below.touch HST.out.b T5 (by simp) HST.out.b.size
    have hown := HST.out.own
    have hsz := T5.size
    have hp1 : Pgs wr ([w.heap.size, w.heap.size + 1] ++ F) vs (List.replicate i zpage) := HST.out.pgs.less fun j hj => List.mem_append.2 (.inr hj)
    refine ⟨_, rfl, ⟨.slice A5 i c5, .slice none 0 0, vs, [], rfl, ?_, World.ownsRow_nil _ _ _ _, ?_, Pds.nil _ _, ?_, (fun j hj => by cases hj), dNew_ok i⟩, hBf⟩
    ·show Row Wf _ 1 _ (List.replicate i (List.replicate 128 (0 : UInt8))).length vs
     rw [List.length_replicate]
     exact Row.touch HST.out.row T5 (fun j hj => by have := hown j hj; simp; omega)
    ·exact (hp1.touch (T5.mono (fun s hs => .inl (by simp at hs ⊢; omega))) (fun j hj => .inl hj)).less (fun j hj => by simp [hj])
    ·exact Apart.new HF.out (fun j hj => ⟨by have := hown j hj; omega, by have := (World.ownsRow.lt HST.out.row j hj).2; omega⟩)
end
section
open Go.ChangeShapes Go.WideShapes Go.ChangeAt Go.RowKit
theorem Hd.step {w w' : World} {g d : Nat} {F : List Nat} {D : DS} (h : Hd w g d F D) (hb : Below w.heap.size w w') : Hd w' g d F D := ⟨(hb.cell (World.block_lt_of_cell? w _ h.cell)).trans h.cell, h.disk.step hb⟩
theorem Bs.lt {w : World} {v : Value} {l : List UInt8} (h : Bs w v l) (hne : l ≠ []) : ∀ j, v.ownBlock = some j → j < w.heap.size := by
 obtain ⟨A, c, rfl, h1, h2, h3⟩ := h
 obtain ⟨b, off, rfl, hb, _⟩ := h3 (List.length_pos_iff.2 hne)
 intro j hj
 injection hj with hj
 subst hj
 exact hb
/-- A call that hands back a value; what was there has not turned. -/
def Gives (w : World) (v : Value) (e : Ending) (w' : World) : Prop := e = .returned v ∧ Below w.heap.size w w'
theorem content_ok {D : DS} (h : D.Ok) (i : Nat) (hi : i < D.pages.length) : (content D i).length = 128 := content_len h i hi
theorem dRead_ok {D : DS} (hf : D.failed = false) (p : Nat) (hp : p < D.pages.length) : dRead D p = (content D p, 0) := by
 unfold dRead
 rw [hf]
 have : thereB D p = true := (thereB_iff D p).2 ⟨by omega, by omega⟩
 rw [if_neg (by simp), if_pos this]
 rfl
set_option maxHeartbeats 2000000 in
theorem header_bad (g d : Nat) (F : List Nat) (D : DS) (n : Nat) (w : World) (h : Hd w g d F D) (hf : D.failed = true) :
 Calls Tryz.prog 78 #[.pointer (some ⟨g, 0, none⟩), .int .i64 n] w (Gives w (.tuple #[.int .i64 0, .int .i64 10])) := by
 have hc := h.cell
 have HR := hide (read_c d F D n w h.disk)
 have HD : Hid (dRead D n = ([], 10)) := hide (by unfold dRead; rw [hf]; rfl)
 clear h hf
 go_enter Tryz.func78, Tryz.ntmps78
 go_wp2_with fail
 refine HR.out.mono ?_
 rintro e w1 ⟨v1, rfl, hb1, _, hbel⟩
 rw [HD.out] at hb1 ⊢
 obtain ⟨A1, m1, c1, rfl, _, _, _⟩ := hb1.formN
 have HB := hide hbel
 clear hb1 hbel
 go_wp2_with fail
 go_ret2
 exact ⟨rfl, HB.out⟩
theorem hdr_zero {n : Nat} {b : List UInt8} (h : ¬((rd0 b).2 < 2 ^ 40 ∧ (rd0 b).2 % 2 = n ∧ hdrPage (rd0 b).2 = b)) : hdrOf n b = 0 := by unfold hdrOf; rw [if_neg h]
theorem hdr_yes {n : Nat} {b : List UInt8} (h : (rd0 b).2 < 2 ^ 40 ∧ (rd0 b).2 % 2 = n ∧ hdrPage (rd0 b).2 = b) : hdrOf n b = (rd0 b).2 := by unfold hdrOf; rw [if_pos h]
set_option maxHeartbeats 4000000 in
theorem header_c (g d : Nat) (F : List Nat) (D : DS) (n : Nat) (hn : n < 2) (w : World) (h : Hd w g d F D) (hs : D.Sz) (hf : D.failed = false) :
 Calls Tryz.prog 78 #[.pointer (some ⟨g, 0, none⟩), .int .i64 n] w (Gives w (.tuple #[.int .i64 (hdrOf n (content D n)), .int .i64 0])) := by
 have hc := h.cell
 have HR := hide (read_c d F D n w h.disk)
 have HD : Hid (dRead D n = (content D n, 0)) := hide (dRead_ok hf n (by have := hs.lo; omega))
 have HL : Hid ((content D n).length = 128) := hide (content_ok h.disk.ok n (by have := hs.lo; omega))
 clear h hf hs
 generalize content D n = b at *
 obtain ⟨r, hr⟩ : ∃ r, hdrOf n b = r := ⟨_, rfl⟩
 have HH := hide hr
 rw [hr]
 clear hr
 obtain ⟨zn, hzn⟩ : ∃ z : Int, (n : Int) = z := ⟨_, rfl⟩
 have HN := hide (And.intro hn hzn)
 rw [hzn] at HR HD ⊢
 clear hn hzn
 go_enter Tryz.func78, Tryz.ntmps78
 go_wp2_with fail
 refine HR.out.mono ?_
 rintro e w1 ⟨v1, rfl, hb1, _, hbel⟩
 rw [HD.out] at hb1 ⊢
 obtain ⟨A1, m1, c1, rfl, _, _, _⟩ := hb1.formN
 have HB := hide hbel
 have H1 := hide hb1
 clear hb1 hbel HR
 go_wp2_with fail
 refine (newReader_c _ b _ H1.out (by have := HL.out; omega)).mono ?_
 rintro e w2 ⟨rb, kb, rfl, hr, hb2, hge, _⟩
 have HGE := hide (Nat.le_trans HB.out.size hge)
 have HNE : Hid (∀ j, (Value.slice A1 m1 c1).ownBlock = some j → b ≠ [] → j ≠ rb) := hide (fun j hj hne e => by
  have := H1.out.lt hne j hj
  omega)
 replace H1 := hide (H1.out.step hb2)
 replace HB := hide (HB.out.trans (hb2.mono HB.out.size))
 have HR := hide hr
 clear hr hb2 hge
 go_wp2_with fail
 refine (rdNumber_c rb kb b 0 w2 HR.out (by have := HL.out; omega)).mono ?_
 rintro e w3 ⟨rfl, _, ht⟩
 replace H1 := hide (H1.out.touchN ht (fun hne j hj => by simp; exact HNE.out j hj hne))
 replace HB := hide (Below.touch HB.out ht (by simp; exact HGE.out) HB.out.size)
 clear ht HR HNE
 have HLT : Hid ((rd0 b).2 < 2 ^ 64) := hide (gots_lt b 0 (by omega))
 have HRT : Hid ((rNum (b, 0)).2 = (rd0 b).2) := hide rfl
 rw [HRT.out]
 have HY := hide (hdr_yes (n := n) (b := b))
 have HZ := hide (hdr_zero (n := n) (b := b))
 rw [HH.out] at HY HZ
 generalize (rd0 b).2 = t at *
 obtain ⟨zt, hzt⟩ : ∃ z : Int, (t : Int) = z := ⟨_, rfl⟩
 have HT := hide hzt
 have p0 : 0 ≤ zt := by omega
 have p1 : zt ≤ 18446744073709551615 := by have := HLT.out; omega
 rw [hzt]
 clear hzt HRT HH
 by_cases h1 : 1099511627776 ≤ zt
 ·have d1 : decide (1099511627776 ≤ zt) = true := by simpa using h1
  have HR : Hid (r = 0) := hide (HZ.out (by have := HT.out; omega))
  clear h1
  go_wp2_with fail
  go_ret2
  exact ⟨by rw [HR.out]; rfl, HB.out⟩
 have d1 : decide (1099511627776 ≤ zt) = false := by simpa using h1
 have p2 : zt < 1099511627776 := by omega
 clear h1
 by_cases h2 : zt % 2 = zn
 ·have d2 : (zt % 2 == zn) = true := by simpa using h2
  have HQ2 := hide h2
  clear h2
  go_wp2_with fail
  have HAN : Hid (Calls Tryz.prog 73 #[.slice none 0 0, .int .u64 zt] w3 (Appends w3 w3.heap.size (.slice none 0 0) [] (enc t))) := hide (by rw [← HT.out]; exact appendNumber_c w3.heap.size _ [] t HLT.out w3 (Ow.nil _ _) (by simp) (Nat.le_refl _))
  refine HAN.out.mono ?_
  rintro e w4 ⟨v4, rfl, ho4, _, hg4, _⟩
  obtain ⟨A4, m4, c4, rfl, _, _, _⟩ := ho4.formN
  have H4 := hide ho4.bs
  replace H1 := hide (H1.out.grown hg4 (by cases (Value.slice A1 m1 c1).ownBlock <;> simp [Value.ownBlock]))
  replace HB := hide (HB.out.trans ((below_of_grown hg4).mono HB.out.size))
  clear ho4 hg4
  go_wp2_with fail
  refine (page_c _ _ (by have := enc_le t 8 (by have := HLT.out; omega); simp; omega) w4 H4.out).mono ?_
  rintro e w5 ⟨v5, rfl, ho5, hb5⟩
  obtain ⟨A5, m5, c5, rfl, _, _, _⟩ := ho5.formN
  have H5 := hide ho5.bs
  replace H1 := hide (H1.out.step hb5)
  replace HB := hide (HB.out.trans (hb5.mono HB.out.size))
  clear ho5 hb5 H4
  go_wp2_with fail
  refine (equal_b _ _ _ _ _ H5.out H1.out).mono ?_
  rintro e w6 ⟨rfl, rfl⟩
  have HP : Hid (pageOf ([] ++ enc t) = hdrPage t) := hide rfl
  rw [HP.out]
  by_cases h3 : hdrPage t = b
  ·have HR : Hid (r = t) := hide (HY.out (by have := HT.out; have := HN.out; have := HQ2.out; exact ⟨by omega, by omega, h3⟩))
   have d3 : (hdrPage t == b) = true := by simpa using h3
   rw [d3]
   clear h3 d3
   go_wp2_with fail
   go_ret2
   exact ⟨by rw [HR.out, HT.out]; rfl, HB.out⟩
  ·have HR : Hid (r = 0) := hide (HZ.out (fun x => h3 x.2.2))
   have d3 : (hdrPage t == b) = false := by simpa using h3
   rw [d3]
   clear h3 d3
   go_wp2_with fail
   go_ret2
   exact ⟨by rw [HR.out]; rfl, HB.out⟩
 ·have d2 : (zt % 2 == zn) = false := by simpa using h2
  have HR : Hid (r = 0) := hide (HZ.out (by have := HT.out; have := HN.out; omega))
  go_wp2_with fail
  go_ret2
  exact ⟨by rw [HR.out]; rfl, HB.out⟩
end
end Go.Proofs.YtpadgkkeihhneaaGreat
