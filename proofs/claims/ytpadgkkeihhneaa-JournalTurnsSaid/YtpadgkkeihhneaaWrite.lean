/- Write. -/
import Derived.Test.YtpadgkkeihhneaaBuild
import Derived.Deep.MidRow
namespace Go.Proofs.Ytpadgkkeihhneaa
set_option maxRecDepth 100000
set_option linter.unusedSimpArgs false
set_option linter.unusedVariables false
open Go.ChangeShapes Go.WideShapes Go.ChangeAt Go.RowKit
set_option linter.unusedVariables false
set_option linter.unusedSimpArgs false

theorem yieldsIf_buildW {P : Program} {ops : Array Oper} {S : World → Prop} {op : Oper} {a : Act} (hw : Region.wanted op (yielded ops a.tmps) = true) (t : TypeId) (parts : Array (Nat × Operand)) (ho : op.op = .build t parts) (v : Value)
    (hr : ∀ w, (Instr.build t (parts.map fun (i, x) => (i, a.eval x))).run P w = .ok v w) : YieldsIf P ops S op v a :=
  .inl ⟨hw, fun w _ => by
    unfold execOp
    simp only [ho, Sem.run_bind, hr w, Result.andThen_ok]
    rfl⟩
theorem step_buildSlice {P : Program} {ops : Array Oper} {o : Oper} {a : Act} {w : World} {K : Act → World → Prop} {Q : Exit → Act → World → Prop} {E : Prop} (hgd : o.guard = none) (t : TypeId) (n : Nat) (parts : Array (Nat × Operand)) (ho : o.op = .buildSlice t n parts) (v : Value) (w' : World) (ps : Array (Nat × Value)) (hp : (parts.map fun (i, x) => (i, a.eval x)) = ps)
    (hr : (Instr.buildSlice t n ps).run P w = .ok v w') (h : K (a.put o.dst v) w') :
    if Region.wanted o (yielded ops a.tmps) = true then Oper.wp P o a w K Q else E := by
  have hw : Region.wanted o (yielded ops a.tmps) = true := by simp [Region.wanted, hgd]
  rw [if_pos hw]
  unfold Oper.wp execOp
  simp only [ho, Sem.run_bind, hp, hr, Result.andThen_ok]
  exact h
theorem bs_range {w : World} {b off c n : Nat} {l : List UInt8} (h : Bs w (.slice (some ⟨b, off, none⟩) n c) l) : w.rangeAt b off (l.map bv) := by
  intro j v hj
  rw [List.getElem?_map] at hj
  cases hl : l[j]? with
  | none => rw [hl] at hj; cases hj
  | some x =>
    rw [hl] at hj
    obtain ⟨hlt, hx⟩ := List.getElem?_eq_some_iff.1 hl
    have hn := (h.len_eq).1
    obtain ⟨b2, o2, y, e, _, hy, hc⟩ := h.at_ (k := j) (by omega)
    injection e with e
    injection e with e1 e2
    subst e1 e2
    rw [hl] at hy
    injection hy with hy
    subst hy
    rw [hc]
    exact hj
theorem rangeAt_step {w w' : World} {b o : Nat} {cs : List Value} (h : w.rangeAt b o cs) (hb : Below w.heap.size w w') : w'.rangeAt b o cs := fun j v hj => by
  have := h j v hj
  exact (hb.cell (World.block_lt_of_cell? w _ this)).trans this
theorem wcells_len (q : Nat) (data : List UInt8) (h : data.length = 128) : (wcells (q, data)).length = 129 := by simp [wcells, h]
theorem pendCells_snoc (ws : List (Nat × List UInt8)) (x : Nat × List UInt8) : pendCells (ws ++ [x]) = pendCells ws ++ wcells x := by simp [pendCells]
theorem step_load_mid {P : Program} {ops : Array Oper} {o : Oper} {a : Act} {w : World} {K : Act → World → Prop} {Q : Exit → Act → World → Prop} {E : Prop} (hgd : o.guard = none) (ty : TypeId) (x : Operand) (ho : o.op = .load ty x)
    (b off : Nat) (hx : a.eval x = .pointer (some ⟨b, off, none⟩)) (cs : List Value) (d : TypeDesc) (hc : w.rangeAt b off cs)
    (hu : P.underlying ty = some d) (hd : d.isRow = true) (hi : (P.info? ty).map (·.size) = some cs.length)
    (h : K (a.put o.dst (.agg cs.toArray)) w) : if Region.wanted o (yielded ops a.tmps) = true then Oper.wp P o a w K Q else E := by
  have hw : Region.wanted o (yielded ops a.tmps) = true := by simp [Region.wanted, hgd]
  rw [if_pos hw]
  exact wp_load_mid ty x ho b off hx cs d hc hu hd hi h
theorem step_build {P : Program} {ops : Array Oper} {o : Oper} {a : Act} {w : World} {K : Act → World → Prop} {Q : Exit → Act → World → Prop} {E : Prop} (hgd : o.guard = none) (t : TypeId) (parts : Array (Nat × Operand)) (ho : o.op = .build t parts) (v : Value) (ps : Array (Nat × Value)) (hp : (parts.map fun (i, x) => (i, a.eval x)) = ps)
    (hr : (Instr.build t ps).run P w = .ok v w) (h : K (a.put o.dst v) w) :
    if Region.wanted o (yielded ops a.tmps) = true then Oper.wp P o a w K Q else E := by
  have hw : Region.wanted o (yielded ops a.tmps) = true := by simp [Region.wanted, hgd]
  rw [if_pos hw]
  unfold Oper.wp execOp
  simp only [ho, Sem.run_bind, hp, hr, Result.andThen_ok]
  exact h
/-- Ways that meet again: what follows is shown once. -/
theorem have_tail0 {goal G : Prop} (main : G → goal) (tl : G) : goal := main tl

theorem dk_append {w w3 : World} {d : Nat} {F : List Nat} {D : DS} {gv pv : Value} {g cap : Nat} {x : Nat × List UInt8} (h : Dk w d F D gv pv)
    (hown : w3.ownsRow 0 81 129 (.slice (some ⟨g, 0, none⟩) (D.pend.length + 1) cap) (D.pend.length + 1) (pendCells D.pend ++ wcells x)) (hg : w.grownBy w3 pv.ownBlock) (hgw : pv.ownBlock = some g ∨ g = w.heap.size) (hlt : g < w3.heap.size)
    (hx : x.1 < D.pages.length ∧ x.2.length = 128) :
    Dk (w3.setCell ⟨d, 1, none⟩ (.slice (some ⟨g, 0, none⟩) (D.pend.length + 1) cap)) d (g :: F) { D with pend := D.pend ++ [x] } gv (.slice (some ⟨g, 0, none⟩) (D.pend.length + 1) cap) := by
  have hdp : some d ≠ pv.ownBlock := fun e => (h.pF d e.symm).2.1 rfl
  have hgd : g ≠ d := by
    rcases hgw with e | e
    · exact (h.pF g e).2.1
    · have := h.lt d h.inF; omega
  have k : Touch [d] w3 (w3.setCell ⟨d, 1, none⟩ (.slice (some ⟨g, 0, none⟩) (D.pend.length + 1) cap)) := (Touch.refl [d] w3).set (by simp) 1 _
  have hpg : gv.ownBlock = none ∨ gv.ownBlock ≠ pv.ownBlock := by
    cases hv : gv.ownBlock with
    | none => exact .inl rfl
    | some j =>
      right; intro e
      exact (h.pF j e.symm).2.2 hv
  refine ⟨(h.blk.grown hg hdp).put 1 _, Row.touch (World.ownsRow.kept h.pages hg hpg) k (fun j hj => by simp; exact (h.gF j hj).2), ?_, by simp [h.inF], ?_, ?_, ?_, ⟨h.ok.pages, ?_, h.ok.fuse⟩⟩
  · have hl : (D.pend ++ [x]).length = D.pend.length + 1 := by simp
    show Row _ _ _ _ (D.pend ++ [x]).length (pendCells (D.pend ++ [x]))
    rw [hl, pendCells_snoc]
    exact Row.touch hown k (fun j hj => by
      have e : g = j := by injection hj
      subst e; simpa using hgd)
  · intro j hj
    exact ⟨by simp [(h.gF j hj).1], (h.gF j hj).2⟩
  · intro j hj
    have e : g = j := by injection hj
    subst e
    refine ⟨by simp, hgd, ?_⟩
    rcases hgw with e | e
    · exact (h.pF g e).2.2
    · intro e2
      have := h.lt g (h.gF g e2).1
      omega
  · intro j hj
    show j < (w3.setCell _ _).heap.size
    have hs := k.size
    rcases List.mem_cons.1 hj with rfl | hj
    · omega
    · have := h.lt j hj; have := hg.size; omega
  · intro y hy
    rcases List.mem_append.1 hy with hy | hy
    · exact h.ok.pend y hy
    · obtain rfl : y = x := by simpa using hy
      exact hx
theorem hone_wcells (q : Nat) (data : List UInt8) : ∀ u ∈ wcells (q, data), u.oneCell' = true := by
  intro u hu
  unfold wcells at hu
  rcases List.mem_cons.1 hu with rfl | hu
  · rfl
  · obtain ⟨x, _, rfl⟩ := List.mem_map.1 hu; exact bv_one x
theorem run_arrayAt (b off c : Nat) (w : World) : (Instr.arrayAt 79 (.slice (some ⟨b, off, none⟩) 128 c)).run Try.prog w = .ok (.pointer (some ⟨b, off, none⟩)) w := by
  simp [Instr.arrayAt, run_underlying Try.underlying79]
theorem size_page : (Try.prog.info? 79).map (·.size) = some 128 := by kernel_rfl

set_option maxRecDepth 100000 in
set_option maxHeartbeats 8000000 in
theorem write_ok (d : Nat) (F : List Nat) (D : DS) (q : Nat) (v : Value) (data : List UInt8) (w : World) (h : Disk w d F D) (hv : Bs w v data) (hvF : ∀ j, v.ownBlock = some j → j ∉ F ∧ j < w.heap.size) (h1 : D.failed = false) (h2 : data.length = 128) (h3 : q < D.pages.length) (h4 : (dBurn D).2 = 0) (hpl : D.pend.length ≤ 1000000) :
    Calls Try.prog 23 #[.pointer (some ⟨d, 0, none⟩), .int .i64 q, v] w (Does w d F (dWrite D q data).1 (.int .i64 0)) := by
  have hth : thereB D (q : Int) = true := (thereB_iff D q).2 ⟨by omega, by omega⟩
  have hdw : (dWrite D q data).1 = { (dBurn D).1 with pend := (dBurn D).1.pend ++ [(q, data)] } := by
    unfold dWrite; simp [h1, h2, hth, h4]
  rw [hdw]
  have hbp := dBurn_pages D
  have HX : Hid ((q, data).1 < (dBurn D).1.pages.length ∧ (q, data).2.length = 128) := hide ⟨by rw [hbp.1]; exact h3, h2⟩
  have HPL : Hid ((dBurn D).1.pend.length ≤ 1000000) := hide (by rw [hbp.2]; exact hpl)
  have HD128 := hide h2
  have HI8 : Hid ((Try.prog.info? 79).map (·.size) = some (data.map bv).length) := hide (by rw [size_page, List.length_map, h2])
  have HB := hide (burn_c d F D w h)
  rw [h4] at HB
  obtain ⟨gv0, pv0, hd⟩ := h
  obtain ⟨c0, c1, c2, c3, f0, f1, f2, f3⟩ := hd.cells
  rw [h1] at c3
  have H0 := hide (show Disk w d F D from ⟨gv0, pv0, hd⟩)
  obtain ⟨A, n, c, rfl, hn, hnc, hcm⟩ := hv.formN
  obtain rfl : n = 128 := by rw [hn.out, h2]
  obtain ⟨b0, off0, y, rfl, _, _, _⟩ := hv.at_ (k := 0) (by omega)
  have HV0 := hide hv
  have HVF := hide (hvF b0 rfl)
  have HTH := hide hth
  clear hd hv hvF h1 h2 h3 h4 hpl hth hdw hbp
  generalize (dBurn D).1 = D1 at *
  go_enter Try.func23, Try.ntmps23
  go_wp2_with fail
  have HTC := hide (there_c d F D (q : Int) w H0.out)
  rw [HTH.out] at HTC
  refine HTC.out.mono ?_
  rintro e w' ⟨rfl, rfl⟩
  clear HTC
  go_wp2_with fail
  refine HB.out.mono ?_
  rintro e w1 ⟨rfl, F1, ⟨gv, pv, hd1⟩, ht, hF1⟩
  have H1 := hide hd1
  have HT01 := hide ht
  have HF1 := hide hF1
  have HV : Hid (Bs w1 (.slice (some ⟨b0, off0, none⟩) 128 c) data) := hide (HV0.out.touch ht (fun j hj => by
    have e : b0 = j := by injection hj
    subst e; exact HVF.out.1))
  obtain ⟨e0, e1, e2, e3, g0, g1, g2, g3⟩ := hd1.cells
  clear hd1 ht hF1 c0 c1 c2 c3 f0 f1 f2 f3 HB HV0
  go_wp2_with fail
  have harr := fun w => run_arrayAt b0 off0 c w
  refine wp_region_held_drew (S := fun _ => True) (by kernel_rfl) trivial (fun hS0 => ?_)
  simp only [List.size_toArray, List.length_cons, List.length_nil, Nat.reduceAdd, Array.replicate_succ, Array.replicate_zero, List.push_toArray, List.append_toArray, List.nil_append, List.cons_append]
  refine wpAnyH_take (i := 0) (v := ?vk1) rfl (by kernel_rfl) (by kernel_rfl) (by kernel_rfl) (fun _ _ _ h => h) (Or.inl ⟨by rfl, ?hyk1⟩) (by assumption) ?restk1
  case hyk1 => (intro w hSw; (try dsimp only at hSw); go_simp; first | done | (with_reducible rfl))
  try simp only [Act.put, List.getElem_toArray, List.getElem_cons_zero, List.getElem_cons_succ, List.setIfInBounds_toArray, List.set_cons_zero, List.set_cons_succ]
  refine wpAnyH_take (i := 1) (v := ?vk2) rfl (by kernel_rfl) (by kernel_rfl) (by kernel_rfl) (fun _ _ _ h => h) (Or.inl ⟨by rfl, ?hyk2⟩) (by assumption) ?restk2
  case hyk2 => (intro w hSw; (try dsimp only at hSw); go_simp; first | done | (with_reducible rfl))
  try simp only [Act.put, List.getElem_toArray, List.getElem_cons_zero, List.getElem_cons_succ, List.setIfInBounds_toArray, List.set_cons_zero, List.set_cons_succ]
  refine wpAnyH_take (i := 2) (v := ?vk3) rfl (by kernel_rfl) (by kernel_rfl) (by kernel_rfl) (fun _ _ _ h => h) (Or.inl ⟨by rfl, ?hyk3⟩) (by assumption) ?restk3
  case hyk3 => (intro w hSw; (try dsimp only at hSw); go_simp; first | done | (with_reducible rfl))
  try simp only [Act.put, List.getElem_toArray, List.getElem_cons_zero, List.getElem_cons_succ, List.setIfInBounds_toArray, List.set_cons_zero, List.set_cons_succ]
  refine wpAnyH_take (i := 3) (v := ?vk4) rfl (by kernel_rfl) (by kernel_rfl) (by kernel_rfl) (fun _ _ _ h => h) (Or.inl ⟨by rfl, ?hyk4⟩) (by assumption) ?restk4
  case hyk4 => (intro w hSw; (try dsimp only at hSw); go_simp; first | done | (with_reducible rfl))
  try simp only [Act.put, List.getElem_toArray, List.getElem_cons_zero, List.getElem_cons_succ, List.setIfInBounds_toArray, List.set_cons_zero, List.set_cons_succ]
  refine wpAnyH_take (i := 5) (v := ?vk5) rfl (by kernel_rfl) (by kernel_rfl) (by kernel_rfl) (fun _ _ _ h => h) (Or.inl ⟨by rfl, ?hyk5⟩) (by assumption) ?restk5
  case hyk5 => (intro w hSw; (try dsimp only at hSw); go_simp; first | done | (with_reducible rfl))
  try simp only [Act.put, List.getElem_toArray, List.getElem_cons_zero, List.getElem_cons_succ, List.setIfInBounds_toArray, List.set_cons_zero, List.set_cons_succ]
  refine wpAnyH_take (i := 6) (v := ?vk6) rfl (by kernel_rfl) (by kernel_rfl) (by kernel_rfl) (fun _ _ _ h => h) (Or.inl ⟨by rfl, ?hyk6⟩) (by assumption) ?restk6
  case hyk6 => (intro w hSw; (try dsimp only at hSw); go_simp; first | done | (with_reducible rfl))
  try simp only [Act.put, List.getElem_toArray, List.getElem_cons_zero, List.getElem_cons_succ, List.setIfInBounds_toArray, List.set_cons_zero, List.set_cons_succ]
  refine wpAnyH_take (i := 7) (v := ?vk7) rfl (by kernel_rfl) (by kernel_rfl) (by kernel_rfl) (fun _ _ _ h => h) (Or.inl ⟨by rfl, ?hyk7⟩) (by assumption) ?restk7
  case hyk7 => (intro w hSw; (try dsimp only at hSw); go_simp; first | done | (with_reducible rfl))
  try simp only [Act.put, List.getElem_toArray, List.getElem_cons_zero, List.getElem_cons_succ, List.setIfInBounds_toArray, List.set_cons_zero, List.set_cons_succ]
  clear harr
  refine' have_tail0 (fun tail => ?_) ?_
  rotate_left
  · refine wpAnyH_ready (rs := [4, 8]) (by kernel_rfl) (by simp) ?_
    refine AllReadyH.cons rfl (fun K hK => ?_) (AllReadyH.cons rfl (fun K hK => ?_) AllReadyH.nil)
    · have cq := H1.out.blk.drew.cell 1
      simp only [List.getElem?_toArray, List.getElem?_cons_zero, List.getElem?_cons_succ] at cq
      go_simp
      refine hK.out _ _ trivial (fun _ => ?_)
      clear hK K
      try simp only [Act.put, List.getElem_toArray, List.getElem_cons_zero, List.getElem_cons_succ, List.setIfInBounds_toArray, List.set_cons_zero, List.set_cons_succ]
      refine wpAnyH_ready (rs := [8]) (by kernel_rfl) (by simp) ?_
      refine AllReadyH.cons rfl (fun K hK => ?_) AllReadyH.nil
      refine step_load_mid rfl 79 _ rfl b0 off0 rfl (data.map bv) _ (bs_range HV.out.drew) Try.underlying79 rfl HI8.out ?_
      refine hK.out _ _ trivial (fun _ => ?_)
      clear hK K
      try simp only [Act.put, List.getElem_toArray, List.getElem_cons_zero, List.getElem_cons_succ, List.setIfInBounds_toArray, List.set_cons_zero, List.set_cons_succ]
      refine wpAnyH_ready (rs := [9]) (by kernel_rfl) (by simp) ?_
      refine AllReadyH.cons rfl (fun K hK => ?_) AllReadyH.nil
      refine step_build rfl 81 _ rfl _ _ (by simp only [List.map_toArray, List.map_cons, List.map_nil]; rfl) (run_build_write (q : Int) (data.map bv) (by simpa using HD128.out) _) ?_
      refine hK.out _ _ trivial (fun _ => ?_)
      clear hK K
      try simp only [Act.put, List.getElem_toArray, List.getElem_cons_zero, List.getElem_cons_succ, List.setIfInBounds_toArray, List.set_cons_zero, List.set_cons_succ]
      refine wpAnyH_ready (rs := [10]) (by kernel_rfl) (by simp) ?_
      refine AllReadyH.cons rfl (fun K hK => ?_) AllReadyH.nil
      refine step_buildSlice rfl 46 1 _ rfl _ _ _ (by simp only [List.map_toArray, List.map_cons, List.map_nil]; rfl) (run_buildSlice_write (wcells (q, data)) (wcells_len q data HD128.out) _) ?_
      refine hK.out _ _ trivial (fun _ => ?_)
      clear hK K
      try simp only [Act.put, List.getElem_toArray, List.getElem_cons_zero, List.getElem_cons_succ, List.setIfInBounds_toArray, List.set_cons_zero, List.set_cons_succ]
      exact tail
    · refine step_load_mid rfl 79 _ rfl b0 off0 rfl (data.map bv) _ (bs_range HV.out.drew) Try.underlying79 rfl HI8.out ?_
      refine hK.out _ _ trivial (fun _ => ?_)
      clear hK K
      try simp only [Act.put, List.getElem_toArray, List.getElem_cons_zero, List.getElem_cons_succ, List.setIfInBounds_toArray, List.set_cons_zero, List.set_cons_succ]
      refine wpAnyH_ready (rs := [4, 9]) (by kernel_rfl) (by simp) ?_
      refine AllReadyH.cons rfl (fun K hK => ?_) (AllReadyH.cons rfl (fun K hK => ?_) AllReadyH.nil)
      · have cq := H1.out.blk.drew.cell 1
        simp only [List.getElem?_toArray, List.getElem?_cons_zero, List.getElem?_cons_succ] at cq
        go_simp
        refine hK.out _ _ trivial (fun _ => ?_)
        clear hK K
        try simp only [Act.put, List.getElem_toArray, List.getElem_cons_zero, List.getElem_cons_succ, List.setIfInBounds_toArray, List.set_cons_zero, List.set_cons_succ]
        refine wpAnyH_ready (rs := [9]) (by kernel_rfl) (by simp) ?_
        refine AllReadyH.cons rfl (fun K hK => ?_) AllReadyH.nil
        refine step_build rfl 81 _ rfl _ _ (by simp only [List.map_toArray, List.map_cons, List.map_nil]; rfl) (run_build_write (q : Int) (data.map bv) (by simpa using HD128.out) _) ?_
        refine hK.out _ _ trivial (fun _ => ?_)
        clear hK K
        try simp only [Act.put, List.getElem_toArray, List.getElem_cons_zero, List.getElem_cons_succ, List.setIfInBounds_toArray, List.set_cons_zero, List.set_cons_succ]
        refine wpAnyH_ready (rs := [10]) (by kernel_rfl) (by simp) ?_
        refine AllReadyH.cons rfl (fun K hK => ?_) AllReadyH.nil
        refine step_buildSlice rfl 46 1 _ rfl _ _ _ (by simp only [List.map_toArray, List.map_cons, List.map_nil]; rfl) (run_buildSlice_write (wcells (q, data)) (wcells_len q data HD128.out) _) ?_
        refine hK.out _ _ trivial (fun _ => ?_)
        clear hK K
        try simp only [Act.put, List.getElem_toArray, List.getElem_cons_zero, List.getElem_cons_succ, List.setIfInBounds_toArray, List.set_cons_zero, List.set_cons_succ]
        exact tail
      · refine step_build rfl 81 _ rfl _ _ (by simp only [List.map_toArray, List.map_cons, List.map_nil]; rfl) (run_build_write (q : Int) (data.map bv) (by simpa using HD128.out) _) ?_
        refine hK.out _ _ trivial (fun _ => ?_)
        clear hK K
        try simp only [Act.put, List.getElem_toArray, List.getElem_cons_zero, List.getElem_cons_succ, List.setIfInBounds_toArray, List.set_cons_zero, List.set_cons_succ]
        refine wpAnyH_ready (rs := [4, 10]) (by kernel_rfl) (by simp) ?_
        refine AllReadyH.cons rfl (fun K hK => ?_) (AllReadyH.cons rfl (fun K hK => ?_) AllReadyH.nil)
        · have cq := H1.out.blk.drew.cell 1
          simp only [List.getElem?_toArray, List.getElem?_cons_zero, List.getElem?_cons_succ] at cq
          go_simp
          refine hK.out _ _ trivial (fun _ => ?_)
          clear hK K
          try simp only [Act.put, List.getElem_toArray, List.getElem_cons_zero, List.getElem_cons_succ, List.setIfInBounds_toArray, List.set_cons_zero, List.set_cons_succ]
          refine wpAnyH_ready (rs := [10]) (by kernel_rfl) (by simp) ?_
          refine AllReadyH.cons rfl (fun K hK => ?_) AllReadyH.nil
          refine step_buildSlice rfl 46 1 _ rfl _ _ _ (by simp only [List.map_toArray, List.map_cons, List.map_nil]; rfl) (run_buildSlice_write (wcells (q, data)) (wcells_len q data HD128.out) _) ?_
          refine hK.out _ _ trivial (fun _ => ?_)
          clear hK K
          try simp only [Act.put, List.getElem_toArray, List.getElem_cons_zero, List.getElem_cons_succ, List.setIfInBounds_toArray, List.set_cons_zero, List.set_cons_succ]
          exact tail
        · refine step_buildSlice rfl 46 1 _ rfl _ _ _ (by simp only [List.map_toArray, List.map_cons, List.map_nil]; rfl) (run_buildSlice_write (wcells (q, data)) (wcells_len q data HD128.out) _) ?_
          refine hK.out _ _ trivial (fun _ => ?_)
          clear hK K
          try simp only [Act.put, List.getElem_toArray, List.getElem_cons_zero, List.getElem_cons_succ, List.setIfInBounds_toArray, List.set_cons_zero, List.set_cons_succ]
          refine wpAnyH_ready (rs := [4]) (by kernel_rfl) (by simp) ?_
          refine AllReadyH.cons rfl (fun K hK => ?_) AllReadyH.nil
          have cq := (H1.out.blk.alloc (.cells (wcells (q, data)).toArray 81)).cell 1
          simp only [List.getElem?_toArray, List.getElem?_cons_zero, List.getElem?_cons_succ] at cq
          go_simp
          refine hK.out _ _ trivial (fun _ => ?_)
          clear hK K
          try simp only [Act.put, List.getElem_toArray, List.getElem_cons_zero, List.getElem_cons_succ, List.setIfInBounds_toArray, List.set_cons_zero, List.set_cons_succ]
          exact tail
  · have HW2 : Hid (Below w1.heap.size w1.drew (w1.drew.alloc (.cells (wcells (q, data)).toArray 81))) := hide ((Below.refl w1.heap.size w1.drew).alloc (Nat.le_refl _) _)
    have H2 : Hid (Dk (w1.drew.alloc (.cells (wcells (q, data)).toArray 81)) d F1 D1 gv pv) := hide (H1.out.touch (S := []) (((Touch.refl [] w1).drew).alloc _) (by simp))
    have HN : Hid (Blk (w1.drew.alloc (.cells (wcells (q, data)).toArray 81)) w1.heap.size 81 (wcells (q, data)).toArray) := hide (Blk.new w1.drew _ _)
    refine wpAnyH_ready (rs := [11]) (by kernel_rfl) (by simp) ?_
    refine AllReadyH.cons rfl (fun K hK => ?_) AllReadyH.nil
    obtain ⟨i0, hi0, hz0, hz1, hz2⟩ := info_parts info_write
    refine step_append_lies _ rfl (.tmp 31) (.tmp 37) 46 rfl 0 81 i0 _ 129 136 Try.underlying46 hi0 hz0 hz1 hz2 (by simp [Value.cells]) (by decide) pv D1.pend.length (pendCells D1.pend) rfl H2.out.pend ⟨w1.heap.size, 0, none⟩ 1 1 (wcells (q, data)) rfl (by simpa using wcells_len q data HD128.out) (fun j u hu => World.news_of_block HN.out j u (by simpa using hu)) (hone_wcells q data) (by decide) (by have := HPL.out; unfold maxLen; omega) (by have := HPL.out; omega) (Nat.zero_le _) (w1.heap.size + 1) (by simp) ?_
    intro g cap w3 hown hg hgw hlt
    clear hi0 hz0 hz1 hz2
    have H3 := hide (dk_append H2.out hown hg (hgw.imp_right fun e => by rw [e]; simp) hlt HX.out)
    have hB3 := H2.out.blk.grown hg (fun e => (H2.out.pF d e.symm).2.1 rfl)
    have z1 := hB3.cell 1
    have y1 := hB3.froz 1
    simp only [List.getElem?_toArray, List.getElem?_cons_zero, List.getElem?_cons_succ] at z1
    have HT3 : Hid (Touch F1 w1 w3) := hide ((((Touch.refl F1 w1).drew).alloc _).next (Touch.grown hg) (fun j hj => by left; exact (H2.out.pF j (by simpa using hj)).1))
    have HGW : Hid (g ∈ F1 ∨ w1.heap.size ≤ g) := hide (hgw.elim (fun e => .inl (H2.out.pF g e).1) (fun e => .inr (by omega)))
    clear hB3 hown hg hgw hlt HN H2 HW2
    refine hK.out _ _ trivial (fun _ => ?_)
    clear hK K
    try simp only [Act.put, List.getElem_toArray, List.getElem_cons_zero, List.getElem_cons_succ, List.setIfInBounds_toArray, List.set_cons_zero, List.set_cons_succ]
    refine wpAnyH_take (i := 12) (v := ?vk8) rfl (by kernel_rfl) (by kernel_rfl) (by kernel_rfl) (fun _ _ _ h => h) (Or.inl ⟨by rfl, ?hyk8⟩) (by assumption) ?restk8
    case hyk8 => (intro w hSw; (try dsimp only at hSw); go_simp; first | done | (with_reducible rfl))
    try simp only [Act.put, List.getElem_toArray, List.getElem_cons_zero, List.getElem_cons_succ, List.setIfInBounds_toArray, List.set_cons_zero, List.set_cons_succ]
    refine wpAnyH_take (i := 13) (v := ?vk9) rfl (by kernel_rfl) (by kernel_rfl) (by kernel_rfl) (fun _ _ _ h => h) (Or.inl ⟨by rfl, ?hyk9⟩) (by assumption) ?restk9
    case hyk9 => (intro w hSw; (try dsimp only at hSw); go_simp; first | done | (with_reducible rfl))
    try simp only [Act.put, List.getElem_toArray, List.getElem_cons_zero, List.getElem_cons_succ, List.setIfInBounds_toArray, List.set_cons_zero, List.set_cons_succ]
    refine wpAnyH_ready (rs := [14]) (by kernel_rfl) (by simp) ?_
    refine AllReadyH.cons rfl (fun K hK => ?_) AllReadyH.nil
    go_simp
    refine hK.out _ _ trivial (fun _ => ?_)
    clear hK K
    try simp only [Act.put, List.getElem_toArray, List.getElem_cons_zero, List.getElem_cons_succ, List.setIfInBounds_toArray, List.set_cons_zero, List.set_cons_succ]
    refine wpAnyH_done (by kernel_rfl) ?_ _
    go_wp2_with fail
    go_ret
    refine ⟨rfl, g :: F1, ⟨_, _, H3.out⟩, ?_, ?_⟩
    · exact (HT01.out.next (HT3.out.trans (touch_set H1.out.inF 1 _)) HF1.out)
    · intro j hj
      rcases List.mem_cons.1 hj with rfl | hj
      · rcases HGW.out with e | e
        · exact HF1.out _ e
        · right; have := HT01.out.size; omega
      · exact HF1.out j hj
end Go.Proofs.Ytpadgkkeihhneaa
