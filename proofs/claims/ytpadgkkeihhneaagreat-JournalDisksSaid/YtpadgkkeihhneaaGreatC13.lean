/- Building a pending write: a struct of an integer and an array of 128 bytes; a slice of one of these. -/
import Derived.Test.YtpadgkkeihhneaaGreatC04
import Derived.Great.FillDense
import Derived.Great.BuildSlice
import Derived.Deep.MidRow
namespace Go.Proofs.YtpadgkkeihhneaaGreat
set_option maxRecDepth 100000
set_option linter.unusedSimpArgs false
set_option linter.unusedVariables false
section
open Go.ChangeShapes Go.WideShapes Go.ChangeAt Go.RowKit
theorem info_write : (Tryz.prog.info? 81).map (fun i => (i.zero, i.size, i.bytes)) = some (some (.agg (#[.int .i64 0] ++ Array.replicate 128 (.int .u8 0))), 129, 136) := by kernel_rfl
theorem fill_two (Z : Array Value) (hZ : Z.size = 129) (n : Int) (cs : List Value) (h : cs.length = 128) (place : Nat → Option (Nat × Nat)) (p0 : place 0 = some (0, 1)) (p1 : place 1 = some (1, 128)) :
 Instr.fill place Z [(0, .int .i64 n), (1, .agg cs.toArray)] = some (.int .i64 n :: cs).toArray := by
 have e1 : (Value.int .i64 n).cells = #[.int .i64 n] := rfl
 have e2 : (Value.agg cs.toArray).cells = cs.toArray := rfl
 simp only [Instr.fill, p0, p1, e1, e2]
 have f0 := Go.Great.foldl_set 0 [.int .i64 n] 0 Z
 generalize hz1 : ((#[Value.int .i64 n].zipIdx).foldl (fun cs (x : Value × Nat) => cs.setIfInBounds (0 + x.2) x.1) Z) = Z1
 have hz1' : (([Value.int .i64 n].zipIdx 0).foldl (fun cs (x : Value × Nat) => cs.setIfInBounds (0 + x.2) x.1) Z) = Z1 := by rw [← hz1]; simp
 rw [hz1'] at f0
 have f1 := Go.Great.foldl_set 1 cs 0 Z1
 generalize hz2 : ((cs.toArray.zipIdx).foldl (fun cs (x : Value × Nat) => cs.setIfInBounds (1 + x.2) x.1) Z1) = Z2
 have hz2' : ((cs.zipIdx 0).foldl (fun cs (x : Value × Nat) => cs.setIfInBounds (1 + x.2) x.1) Z1) = Z2 := by rw [← hz2]; simp
 rw [hz2'] at f1
 rw [if_neg (by simp [hZ]), if_neg (by simp [f0.1, hZ, h])]
 congr 1
 apply Array.ext_getElem?
 intro i
 rw [f1.2 i]
 rcases Nat.eq_zero_or_pos i with rfl | hi
 ·rw [if_neg (by omega), f0.2 0, if_pos (by simp [hZ])]; rfl
 ·obtain ⟨j, rfl⟩ : ∃ j, i = j + 1 := ⟨i - 1, by omega⟩
  by_cases hj : j < 128
  ·rw [if_pos (by rw [f0.1, hZ]; omega)]
   simp
  ·rw [if_neg (by omega), Array.getElem?_eq_none (by rw [f0.1, hZ]; omega), Array.getElem?_eq_none (by simp; omega)]
theorem run_build_write (n : Int) (cs : List Value) (h : cs.length = 128) (w : World) :
 (Instr.build 81 #[(0, .int .i64 n), (1, .agg cs.toArray)]).run Tryz.prog w = .ok (.agg (.int .i64 n :: cs).toArray) w := by
 apply run_build
 obtain ⟨i0, hi0, hz0, hz1, hz2⟩ := info_parts info_write
 unfold Program.built
 rw [hi0, Tryz.underlying81]
 simp only [hz0]
 have hp : ∀ fs, Tryz.prog.underlying 81 = some (.struct fs) → (fs.toList.mapM (fun f => (Tryz.prog.info? f.type).map fun i => (f.offset, i.size))) = some [(0, 1), (1, 128)] := by
  intro fs hfs
  rw [Tryz.underlying81] at hfs
  injection hfs with hfs
  injection hfs with hfs
  subst hfs
  kernel_rfl
 rw [hp _ Tryz.underlying81]
 exact fill_two _ (by simp [Value.cells]) n cs h _ rfl rfl
theorem run_buildSlice_write (cs : List Value) (h : cs.length = 129) (w : World) :
 (Instr.buildSlice 75 1 #[(0, .agg cs.toArray)]).run Tryz.prog w = .ok (.slice (some ⟨w.heap.size, 0, none⟩) 1 1) (w.alloc (.cells cs.toArray 81)) := by
 obtain ⟨i0, hi0, hz0, hz1, hz2⟩ := info_parts info_write
 refine run_buildSlice w 75 81 1 _ cs.toArray i0 _ Tryz.underlying75 hi0 hz0 (by rw [hz1]; decide) (by rw [hz1]; decide) ?_
 rw [hz1]
 have e2 : (Value.agg cs.toArray).cells = cs.toArray := rfl
 simp only [Instr.fill, e2]
 generalize hZ : ((Array.range (1 * 129)).map _) = Z
 have hZs : Z.size = 129 := by rw [← hZ]; simp
 have f1 := Go.Great.foldl_set 0 cs 0 Z
 generalize hz2 : ((cs.toArray.zipIdx).foldl (fun cs (x : Value × Nat) => cs.setIfInBounds (0 * 129 + x.2) x.1) Z) = Z2
 have hz2' : ((cs.zipIdx 0).foldl (fun cs (x : Value × Nat) => cs.setIfInBounds (0 + x.2) x.1) Z) = Z2 := by rw [← hz2]; simp
 rw [hz2'] at f1
 rw [if_neg (by simp [hZs, h])]
 congr 1
 apply Array.ext_getElem?
 intro i
 rw [f1.2 i]
 by_cases hi : i < 129
 ·rw [if_pos (by rw [hZs]; omega)]; simp
 ·rw [if_neg (by omega), Array.getElem?_eq_none (by omega), Array.getElem?_eq_none (by simp; omega)]
end
section
open List renaming getElem_toArray → qa, getElem_cons_zero → qb, getElem_cons_succ → qc, setIfInBounds_toArray → qd, set_cons_zero → qe, set_cons_succ → qf
open Go.ChangeShapes Go.WideShapes Go.ChangeAt Go.RowKit
theorem step_buildSlice {P : Program} {ops : Array Oper} {o : Oper} {a : Act} {w : World} {K : Act → World → Prop} {Q : Exit → Act → World → Prop} {E : Prop} (hgd : o.guard = none) (t : TypeId) (n : Nat) (parts : Array (Nat × Operand)) (ho : o.op = .buildSlice t n parts) (v : Value) (w' : World) (ps : Array (Nat × Value)) (hp : (parts.map fun (i, x) => (i, a.eval x)) = ps)
 (hr : (Instr.buildSlice t n ps).run P w = .ok v w') (h : K (a.put o.dst v) w') :
 if Region.wanted o (yielded ops a.tmps) = true then Oper.wp P o a w K Q else E := by
 have hw : Region.wanted o (yielded ops a.tmps) = true := by simp [Region.wanted, hgd]
 rw [if_pos hw]
 unfold Oper.wp execOp
 simp only [ho, Sem.run_bind, hp, hr, Result.andThen_ok]
 exact h
theorem bs_range {w : World} {b off c n : Nat} {l : List UInt8} (h : Bs w (.slice (some ⟨b, off, none⟩) n c) l) : w.rangeAt b off (l.map bv) := by
 intro j v hj
 rw [List.getElem?_map] at hj
 cases hl : l[j]? with
 | none => rw [hl] at hj; cases hj
 | some x =>
  rw [hl] at hj
  obtain ⟨hlt, hx⟩ := List.getElem?_eq_some_iff.1 hl
  have hn := (h.len_eq).1
  obtain ⟨b2, o2, y, e, _, hy, hc⟩ := h.at_ (k := j) (by omega)
  injection e with e
  injection e with e1 e2
  subst e1 e2
  rw [hl] at hy
  injection hy with hy
  subst hy
  rw [hc]
  exact hj
theorem wcells_len (q : Nat) (data : List UInt8) (h : data.length = 128) : (wcells (q, data)).length = 129 := by simp [wcells, h]
theorem pendCells_snoc (ws : List (Nat × List UInt8)) (x : Nat × List UInt8) : pendCells (ws ++ [x]) = pendCells ws ++ wcells x := by simp [pendCells]
theorem step_load_mid {P : Program} {ops : Array Oper} {o : Oper} {a : Act} {w : World} {K : Act → World → Prop} {Q : Exit → Act → World → Prop} {E : Prop} (hgd : o.guard = none) (ty : TypeId) (x : Operand) (ho : o.op = .load ty x)
 (b off : Nat) (hx : a.eval x = .pointer (some ⟨b, off, none⟩)) (cs : List Value) (d : TypeDesc) (hc : w.rangeAt b off cs)
 (hu : P.underlying ty = some d) (hd : d.isRow = true) (hi : (P.info? ty).map (·.size) = some cs.length)
 (h : K (a.put o.dst (.agg cs.toArray)) w) : if Region.wanted o (yielded ops a.tmps) = true then Oper.wp P o a w K Q else E := by
 have hw : Region.wanted o (yielded ops a.tmps) = true := by simp [Region.wanted, hgd]
 rw [if_pos hw]
 exact wp_load_mid ty x ho b off hx cs d hc hu hd hi h
theorem step_build {P : Program} {ops : Array Oper} {o : Oper} {a : Act} {w : World} {K : Act → World → Prop} {Q : Exit → Act → World → Prop} {E : Prop} (hgd : o.guard = none) (t : TypeId) (parts : Array (Nat × Operand)) (ho : o.op = .build t parts) (v : Value) (ps : Array (Nat × Value)) (hp : (parts.map fun (i, x) => (i, a.eval x)) = ps)
 (hr : (Instr.build t ps).run P w = .ok v w) (h : K (a.put o.dst v) w) :
 if Region.wanted o (yielded ops a.tmps) = true then Oper.wp P o a w K Q else E := by
 have hw : Region.wanted o (yielded ops a.tmps) = true := by simp [Region.wanted, hgd]
 rw [if_pos hw]
 unfold Oper.wp execOp
 simp only [ho, Sem.run_bind, hp, hr, Result.andThen_ok]
 exact h
/-- Ways that meet again: what follows is shown once. -/
theorem have_tail0 {goal G : Prop} (main : G → goal) (tl : G) : goal := main tl
theorem dk_append {w w3 : World} {d : Nat} {F : List Nat} {D : DS} {gv pv : Value} {g cap : Nat} {x : Nat × List UInt8} (h : Dk w d F D gv pv)
 (hown : w3.ownsRow 0 81 129 (.slice (some ⟨g, 0, none⟩) (D.pend.length + 1) cap) (D.pend.length + 1) (pendCells D.pend ++ wcells x)) (hg : w.grownBy w3 pv.ownBlock) (hgw : pv.ownBlock = some g ∨ g = w.heap.size) (hlt : g < w3.heap.size)
 (hx : x.1 < D.pages.length ∧ x.2.length = 128) :
 Dk (w3.setCell ⟨d, 1, none⟩ (.slice (some ⟨g, 0, none⟩) (D.pend.length + 1) cap)) d (g :: F) { D with pend := D.pend ++ [x] } gv (.slice (some ⟨g, 0, none⟩) (D.pend.length + 1) cap) := by
 have hdp : some d ≠ pv.ownBlock := fun e => (h.pF d e.symm).2.1 rfl
 have hgd : g ≠ d := by
  rcases hgw with e | e
  ·exact (h.pF g e).2.1
  ·have := h.lt d h.inF; omega
 have k : Touch [d] w3 (w3.setCell ⟨d, 1, none⟩ (.slice (some ⟨g, 0, none⟩) (D.pend.length + 1) cap)) := (Touch.refl [d] w3).set (by simp) 1 _
 have hpg : gv.ownBlock = none ∨ gv.ownBlock ≠ pv.ownBlock := by
  cases hv : gv.ownBlock with
  | none => exact .inl rfl
  | some j =>
   right; intro e
   exact (h.pF j e.symm).2.2 hv
 refine ⟨(h.blk.grown hg hdp).put 1 _, Row.touch (World.ownsRow.kept h.pages hg hpg) k (fun j hj => by simp; exact (h.gF j hj).2), ?_, by simp [h.inF], ?_, ?_, ?_, ⟨h.ok.pages, ?_, h.ok.fuse⟩⟩
 ·have hl : (D.pend ++ [x]).length = D.pend.length + 1 := by simp
  show Row _ _ _ _ (D.pend ++ [x]).length (pendCells (D.pend ++ [x]))
  rw [hl, pendCells_snoc]
  exact Row.touch hown k (fun j hj => by
   have e : g = j := by injection hj
   subst e; simpa using hgd)
 ·intro j hj
  exact ⟨by simp [(h.gF j hj).1], (h.gF j hj).2⟩
 ·intro j hj
  have e : g = j := by injection hj
  subst e
  refine ⟨by simp, hgd, ?_⟩
  rcases hgw with e | e
  ·exact (h.pF g e).2.2
  ·intro e2
   have := h.lt g (h.gF g e2).1
   omega
 ·intro j hj
  show j < (w3.setCell _ _).heap.size
  have hs := k.size
  rcases List.mem_cons.1 hj with rfl | hj
  ·omega
  ·have := h.lt j hj; have := hg.size; omega
 ·intro y hy
  rcases List.mem_append.1 hy with hy | hy
  ·exact h.ok.pend y hy
  ·obtain rfl : y = x := by simpa using hy
   exact hx
theorem hone_wcells (q : Nat) (data : List UInt8) : ∀ u ∈ wcells (q, data), u.oneCell' = true := by
 intro u hu
 unfold wcells at hu
 rcases List.mem_cons.1 hu with rfl | hu
 ·rfl
 ·obtain ⟨x, _, rfl⟩ := List.mem_map.1 hu; exact bv_one x
theorem run_arrayAt (b off c : Nat) (w : World) : (Instr.arrayAt 79 (.slice (some ⟨b, off, none⟩) 128 c)).run Tryz.prog w = .ok (.pointer (some ⟨b, off, none⟩)) w := by
 simp [Instr.arrayAt, run_underlying Tryz.underlying79]
theorem size_page : (Tryz.prog.info? 79).map (·.size) = some 128 := by kernel_rfl
set_option maxRecDepth 100000 in
set_option maxHeartbeats 8000000 in
theorem write_ok (d : Nat) (F : List Nat) (D : DS) (q : Nat) (v : Value) (data : List UInt8) (w : World) (h : Disk w d F D) (hv : Bs w v data) (hvF : ∀ j, v.ownBlock = some j → j ∉ F ∧ j < w.heap.size) (h1 : D.failed = false) (h2 : data.length = 128) (h3 : q < D.pages.length) (h4 : (dBurn D).2 = 0) (hpl : D.pend.length ≤ 1000000) :
 Calls Tryz.prog 12 #[.pointer (some ⟨d, 0, none⟩), .int .i64 q, v] w (Does w d F (dWrite D q data).1 (.int .i64 0)) := by
 have hth : thereB D (q : Int) = true := (thereB_iff D q).2 ⟨by omega, by omega⟩
 have hdw : (dWrite D q data).1 = { (dBurn D).1 with pend := (dBurn D).1.pend ++ [(q, data)] } := by
  unfold dWrite; simp [h1, h2, hth, h4]
 rw [hdw]
 have hbp := dBurn_pages D
 have HX : Hid ((q, data).1 < (dBurn D).1.pages.length ∧ (q, data).2.length = 128) := hide ⟨by rw [hbp.1]; exact h3, h2⟩
 have HPL : Hid ((dBurn D).1.pend.length ≤ 1000000) := hide (by rw [hbp.2]; exact hpl)
 have HD128 := hide h2
 have HI8 : Hid ((Tryz.prog.info? 79).map (·.size) = some (data.map bv).length) := hide (by rw [size_page, List.length_map, h2])
 have HB := hide (burn_c d F D w h)
 rw [h4] at HB
 obtain ⟨gv0, pv0, hd⟩ := h
 obtain ⟨c0, c1, c2, c3, f0, f1, f2, f3⟩ := hd.cells
 rw [h1] at c3
 have H0 := hide (show Disk w d F D from ⟨gv0, pv0, hd⟩)
 obtain ⟨A, n, c, rfl, hn, hnc, hcm⟩ := hv.formN
 obtain rfl : n = 128 := by rw [hn.out, h2]
 obtain ⟨b0, off0, y, rfl, _, _, _⟩ := hv.at_ (k := 0) (by omega)
 have HV0 := hide hv
 have HVF := hide (hvF b0 rfl)
 have HTH := hide hth
 clear hd hv hvF h1 h2 h3 h4 hpl hth hdw hbp
 generalize (dBurn D).1 = D1 at *
 go_enter Tryz.func12, Tryz.ntmps12
 go_wp2_with fail
 have HTC := hide (there_c d F D (q : Int) w H0.out)
 rw [HTH.out] at HTC
 refine HTC.out.mono ?_
 rintro e w' ⟨rfl, rfl⟩
 clear HTC
 go_wp2_with fail
 refine HB.out.mono ?_
 rintro e w1 ⟨rfl, F1, ⟨gv, pv, hd1⟩, ht, hF1⟩
 have H1 := hide hd1
 have HT01 := hide ht
 have HF1 := hide hF1
 have HV : Hid (Bs w1 (.slice (some ⟨b0, off0, none⟩) 128 c) data) := hide (HV0.out.touch ht (fun j hj => by
  have e : b0 = j := by injection hj
  subst e; exact HVF.out.1))
 obtain ⟨e0, e1, e2, e3, g0, g1, g2, g3⟩ := hd1.cells
 clear hd1 ht hF1 c0 c1 c2 c3 f0 f1 f2 f3 HB HV0
 go_wp2_with fail
 have harr := fun w => run_arrayAt b0 off0 c w
 refine wp_region_held_drew (S := fun _ => True) (by kernel_rfl) trivial (fun hS0 => ?_)
 simp only [List.size_toArray, List.length_cons, List.length_nil, Nat.reduceAdd, Array.replicate_succ, Array.replicate_zero, List.push_toArray, List.append_toArray, List.nil_append, List.cons_append]
 refine tk 0 ?_
 refine tk 1 ?_
 refine tk 2 ?_
 refine tk 3 ?_
 refine tk 5 ?_
 refine tk 6 ?_
 refine tk 7 ?_
 clear harr
 refine' have_tail0 (fun tail => ?_) ?_
 rotate_left
 ·refine wpAnyH_ready (rs := [4, 8]) (by kernel_rfl) (by simp) ?_
  refine AllReadyH.cons rfl (fun K hK => ?_) (AllReadyH.cons rfl (fun K hK => ?_) AllReadyH.nil)
  ·have cq := H1.out.blk.drew.cell 1
   simp only [List.getElem?_toArray, List.getElem?_cons_zero, List.getElem?_cons_succ] at cq
   go_simp
   refine hK.out _ _ trivial (fun _ => ?_)
   clear hK K
   try simp only [Act.put, qa, qb, qc, qd, qe, qf]
   refine tr1 8 fun K hK => ?_
   refine step_load_mid rfl 79 _ rfl b0 off0 rfl (data.map bv) _ (bs_range HV.out.drew) Tryz.underlying79 rfl HI8.out ?_
   refine hK.out _ _ trivial (fun _ => ?_)
   clear hK K
   try simp only [Act.put, qa, qb, qc, qd, qe, qf]
   refine tr1 9 fun K hK => ?_
   refine step_build rfl 81 _ rfl _ _ (by simp only [List.map_toArray, List.map_cons, List.map_nil]; rfl) (run_build_write (q : Int) (data.map bv) (by simpa using HD128.out) _) ?_
   refine hK.out _ _ trivial (fun _ => ?_)
   clear hK K
   try simp only [Act.put, qa, qb, qc, qd, qe, qf]
   refine tr1 10 fun K hK => ?_
   refine step_buildSlice rfl 75 1 _ rfl _ _ _ (by simp only [List.map_toArray, List.map_cons, List.map_nil]; rfl) (run_buildSlice_write (wcells (q, data)) (wcells_len q data HD128.out) _) ?_
   refine hK.out _ _ trivial (fun _ => ?_)
   clear hK K
   try simp only [Act.put, qa, qb, qc, qd, qe, qf]
   exact tail
  ·refine step_load_mid rfl 79 _ rfl b0 off0 rfl (data.map bv) _ (bs_range HV.out.drew) Tryz.underlying79 rfl HI8.out ?_
   refine hK.out _ _ trivial (fun _ => ?_)
   clear hK K
   try simp only [Act.put, qa, qb, qc, qd, qe, qf]
   refine wpAnyH_ready (rs := [4, 9]) (by kernel_rfl) (by simp) ?_
   refine AllReadyH.cons rfl (fun K hK => ?_) (AllReadyH.cons rfl (fun K hK => ?_) AllReadyH.nil)
   ·have cq := H1.out.blk.drew.cell 1
    simp only [List.getElem?_toArray, List.getElem?_cons_zero, List.getElem?_cons_succ] at cq
    go_simp
    refine hK.out _ _ trivial (fun _ => ?_)
    clear hK K
    try simp only [Act.put, qa, qb, qc, qd, qe, qf]
    refine tr1 9 fun K hK => ?_
    refine step_build rfl 81 _ rfl _ _ (by simp only [List.map_toArray, List.map_cons, List.map_nil]; rfl) (run_build_write (q : Int) (data.map bv) (by simpa using HD128.out) _) ?_
    refine hK.out _ _ trivial (fun _ => ?_)
    clear hK K
    try simp only [Act.put, qa, qb, qc, qd, qe, qf]
    refine tr1 10 fun K hK => ?_
    refine step_buildSlice rfl 75 1 _ rfl _ _ _ (by simp only [List.map_toArray, List.map_cons, List.map_nil]; rfl) (run_buildSlice_write (wcells (q, data)) (wcells_len q data HD128.out) _) ?_
    refine hK.out _ _ trivial (fun _ => ?_)
    clear hK K
    try simp only [Act.put, qa, qb, qc, qd, qe, qf]
    exact tail
   ·refine step_build rfl 81 _ rfl _ _ (by simp only [List.map_toArray, List.map_cons, List.map_nil]; rfl) (run_build_write (q : Int) (data.map bv) (by simpa using HD128.out) _) ?_
    refine hK.out _ _ trivial (fun _ => ?_)
    clear hK K
    try simp only [Act.put, qa, qb, qc, qd, qe, qf]
    refine wpAnyH_ready (rs := [4, 10]) (by kernel_rfl) (by simp) ?_
    refine AllReadyH.cons rfl (fun K hK => ?_) (AllReadyH.cons rfl (fun K hK => ?_) AllReadyH.nil)
    ·have cq := H1.out.blk.drew.cell 1
     simp only [List.getElem?_toArray, List.getElem?_cons_zero, List.getElem?_cons_succ] at cq
     go_simp
     refine hK.out _ _ trivial (fun _ => ?_)
     clear hK K
     try simp only [Act.put, qa, qb, qc, qd, qe, qf]
     refine tr1 10 fun K hK => ?_
     refine step_buildSlice rfl 75 1 _ rfl _ _ _ (by simp only [List.map_toArray, List.map_cons, List.map_nil]; rfl) (run_buildSlice_write (wcells (q, data)) (wcells_len q data HD128.out) _) ?_
     refine hK.out _ _ trivial (fun _ => ?_)
     clear hK K
     try simp only [Act.put, qa, qb, qc, qd, qe, qf]
     exact tail
    ·refine step_buildSlice rfl 75 1 _ rfl _ _ _ (by simp only [List.map_toArray, List.map_cons, List.map_nil]; rfl) (run_buildSlice_write (wcells (q, data)) (wcells_len q data HD128.out) _) ?_
     refine hK.out _ _ trivial (fun _ => ?_)
     clear hK K
     try simp only [Act.put, qa, qb, qc, qd, qe, qf]
     refine tr1 4 fun K hK => ?_
     have cq := (H1.out.blk.alloc (.cells (wcells (q, data)).toArray 81)).cell 1
     simp only [List.getElem?_toArray, List.getElem?_cons_zero, List.getElem?_cons_succ] at cq
     go_simp
     refine hK.out _ _ trivial (fun _ => ?_)
     clear hK K
     try simp only [Act.put, qa, qb, qc, qd, qe, qf]
     exact tail
 ·have HW2 : Hid (Below w1.heap.size w1.drew (w1.drew.alloc (.cells (wcells (q, data)).toArray 81))) := hide ((Below.refl w1.heap.size w1.drew).alloc (Nat.le_refl _) _)
  have H2 : Hid (Dk (w1.drew.alloc (.cells (wcells (q, data)).toArray 81)) d F1 D1 gv pv) := hide (H1.out.touch (S := []) (((Touch.refl [] w1).drew).alloc _) (by simp))
  have HN : Hid (Blk (w1.drew.alloc (.cells (wcells (q, data)).toArray 81)) w1.heap.size 81 (wcells (q, data)).toArray) := hide (Blk.new w1.drew _ _)
  refine tr1 11 fun K hK => ?_
  obtain ⟨i0, hi0, hz0, hz1, hz2⟩ := info_parts info_write
  refine step_append_lies _ rfl (.tmp 31) (.tmp 37) 75 rfl 0 81 i0 _ 129 136 Tryz.underlying75 hi0 hz0 hz1 hz2 (by simp [Value.cells]) (by decide) pv D1.pend.length (pendCells D1.pend) rfl H2.out.pend ⟨w1.heap.size, 0, none⟩ 1 1 (wcells (q, data)) rfl (by simpa using wcells_len q data HD128.out) (fun j u hu => World.news_of_block HN.out j u (by simpa using hu)) (hone_wcells q data) (by decide) (by have := HPL.out; unfold maxLen; omega) (by have := HPL.out; omega) (Nat.zero_le _) (w1.heap.size + 1) (by simp) ?_
  intro g cap w3 hown hg hgw hlt
  clear hi0 hz0 hz1 hz2
  have H3 := hide (dk_append H2.out hown hg (hgw.imp_right fun e => by rw [e]; simp) hlt HX.out)
  have hB3 := H2.out.blk.grown hg (fun e => (H2.out.pF d e.symm).2.1 rfl)
  have z1 := hB3.cell 1
  have y1 := hB3.froz 1
  simp only [List.getElem?_toArray, List.getElem?_cons_zero, List.getElem?_cons_succ] at z1
  have HT3 : Hid (Touch F1 w1 w3) := hide ((((Touch.refl F1 w1).drew).alloc _).next (Touch.grown hg) (fun j hj => by left; exact (H2.out.pF j (by simpa using hj)).1))
  have HGW : Hid (g ∈ F1 ∨ w1.heap.size ≤ g) := hide (hgw.elim (fun e => .inl (H2.out.pF g e).1) (fun e => .inr (by omega)))
  clear hB3 hown hg hgw hlt HN H2 HW2
  refine hK.out _ _ trivial (fun _ => ?_)
  clear hK K
  try simp only [Act.put, qa, qb, qc, qd, qe, qf]
  refine tk 12 ?_
  refine tk 13 ?_
  refine tr1 14 fun K hK => ?_
  go_simp
  refine hK.out _ _ trivial (fun _ => ?_)
  clear hK K
  try simp only [Act.put, qa, qb, qc, qd, qe, qf]
  refine wpAnyH_done (by kernel_rfl) ?_ _
  go_wp2_with fail
  go_ret
  refine ⟨rfl, g :: F1, ⟨_, _, H3.out⟩, ?_, ?_⟩
  ·exact (HT01.out.next (HT3.out.trans (touch_set H1.out.inF 1 _)) HF1.out)
  ·intro j hj
   rcases List.mem_cons.1 hj with rfl | hj
   ·rcases HGW.out with e | e
    ·exact HF1.out _ e
    ·right; have := HT01.out.size; omega
   ·exact HF1.out j hj
end
section
open Go.ChangeShapes Go.WideShapes Go.ChangeAt Go.RowKit
theorem Does.same {w : World} {d : Nat} {F : List Nat} {D : DS} (h : Disk w d F D) (v : Value) : Does w d F D v (.returned v) w := ⟨rfl, F, h, Touch.refl _ _, fun j hj => .inl hj⟩
set_option maxHeartbeats 4000000 in
theorem write_c (d : Nat) (F : List Nat) (D : DS) (p : Int) (v : Value) (data : List UInt8) (w : World) (h : Disk w d F D) (hv : Bs w v data) (hvF : data ≠ [] → ∀ j, v.ownBlock = some j → j ∉ F ∧ j < w.heap.size) (hpl : D.pend.length ≤ 1000000) :
 Calls Tryz.prog 12 #[.pointer (some ⟨d, 0, none⟩), .int .i64 p, v] w (Does w d F (dWrite D p data).1 (.int .i64 (dWrite D p data).2)) := by
 obtain ⟨A, n, c, rfl, hn, hnc, hcm⟩ := hv.formN
 have H := hide h
 obtain ⟨gv, pv, hd⟩ := h
 obtain ⟨c0, c1, c2, c3, f0, f1, f2, f3⟩ := hd.cells
 by_cases h1 : D.failed = true
 ·have hr : dWrite D p data = (D, 10) := by unfold dWrite; rw [if_pos h1]
  rw [hr]
  rw [h1] at c3
  clear hd hr hv hvF
  go_enter Tryz.func12, Tryz.ntmps12
  go_wp2_with fail
  go_ret
  exact Does.same H.out _
 have h1f : D.failed = false := by simpa using h1
 rw [h1f] at c3
 by_cases h2 : data.length = 128
 ·have hn128 : n = 128 := by rw [hn.out, h2]
  subst hn128
  cases hth : thereB D p with
  | false =>
   have hr : dWrite D p data = (D, 2) := by unfold dWrite; simp [h1f, h2, hth]
   rw [hr]
   have HTC := hide (there_c d F D p w H.out)
   rw [hth] at HTC
   clear hd hr hv hvF hth h2 h1 h1f
   go_enter Tryz.func12, Tryz.ntmps12
   go_wp2_with fail
   refine HTC.out.mono ?_
   rintro e w' ⟨rfl, rfl⟩
   clear HTC
   go_wp2_with fail
   go_ret
   exact Does.same H.out _
  | true =>
   obtain ⟨hp0, hp1⟩ := (thereB_iff D p).1 hth
   obtain ⟨q, rfl⟩ : ∃ q : Nat, p = q := ⟨p.toNat, by omega⟩
   by_cases h4 : (dBurn D).2 = 0
   ·have hr : (dWrite D (q : Int) data).2 = 0 := by unfold dWrite; simp [h1f, h2, hth, h4]
    rw [hr]
    exact write_ok d F D q _ data w H.out hv (hvF (by intro e; rw [e] at h2; simp at h2)) h1f h2 (by omega) h4 hpl
   ·have hr : dWrite D (q : Int) data = ((dBurn D).1, (dBurn D).2) := by unfold dWrite; simp [h1f, h2, hth, h4]
    rw [hr]
    have hb10 : ((dBurn D).2 == 0) = false := by simpa using h4
    have HTC := hide (there_c d F D (q : Int) w H.out)
    rw [hth] at HTC
    have HB := hide (burn_c d F D w H.out)
    clear hd hr hv hvF hth h2 h1 h1f h4
    generalize (dBurn D).1 = D1 at *
    generalize (dBurn D).2 = code at *
    go_enter Tryz.func12, Tryz.ntmps12
    go_wp2_with fail
    refine HTC.out.mono ?_
    rintro e w' ⟨rfl, rfl⟩
    clear HTC
    go_wp2_with fail
    refine HB.out.mono ?_
    rintro e w1 ⟨rfl, h1⟩
    have H1 := hide h1
    clear h1 HB
    go_wp2_with fail
    go_ret
    exact ⟨rfl, H1.out⟩
 ·have hr : dWrite D p data = (D, 1) := by unfold dWrite; simp [h1f, h2]
  rw [hr]
  have hne : ((n : Int) == 128) = false := by have := hn.out; simp; omega
  clear hd hr hv hvF h2 h1 h1f
  go_enter Tryz.func12, Tryz.ntmps12
  go_wp2_with fail
  go_ret
  exact Does.same H.out _
end
end Go.Proofs.YtpadgkkeihhneaaGreat
