/- contents: what it yields. -/
import Derived.Test.YtpadgkkeihhneaaPart12
import Derived.RangeFuncNested
import Derived.RangeFuncBound
import Derived.RangeFuncCalls
import Derived.RangeFuncLeaves
import Derived.RangeFuncFrom
import Derived.OwnWalkIn
import Derived.TacticsInMore
import Derived.LoopNIn
import Derived.LoopIn
namespace Go.Proofs.Ytpadgkkeihhneaa
set_option maxRecDepth 100000
set_option linter.unusedSimpArgs false
set_option linter.unusedVariables false
open Go.ChangeShapes Go.WideShapes Go.ChangeAt Go.RowKit
set_option linter.unusedVariables false
set_option linter.unusedSimpArgs false

abbrev Pg := { l : List UInt8 // l.length = 128 }
def pgv (l : List UInt8) : Value := .agg (l.map bv).toArray

/-- At most the block L turns of those below B. -/
structure Hole (B L : Nat) (w w' : World) : Prop where
  os : w'.os = w.os
  tape : w'.tape = w.tape
  output : w'.output = w.output
  size : w.heap.size ≤ w'.heap.size
  block : ∀ k, k < B → k ≠ L → w'.heap[k]? = w.heap[k]?
theorem Hole.refl (B L : Nat) (w : World) : Hole B L w w := ⟨rfl, rfl, rfl, Nat.le_refl _, fun _ _ _ => rfl⟩
theorem Hole.trans {B L : Nat} {a b c : World} (h : Hole B L a b) (k : Hole B L b c) : Hole B L a c :=
  ⟨k.os.trans h.os, k.tape.trans h.tape, k.output.trans h.output, Nat.le_trans h.size k.size, fun i hi hne => (k.block i hi hne).trans (h.block i hi hne)⟩
theorem Hole.below {B L : Nat} {a b : World} (h : Below B a b) : Hole B L a b := ⟨h.os, h.tape, h.output, h.size, fun k hk _ => h.block k hk⟩
theorem Hole.dk {B L : Nat} {w w' : World} {d : Nat} {F : List Nat} {D : DS} {gv pv : Value} (k : Hole B L w w') (h : Dk w d F D gv pv) (hB : ∀ j ∈ F, j < B ∧ j ≠ L) : Dk w' d F D gv pv := by
  have hb : ∀ j ∈ F, w'.heap[j]? = w.heap[j]? := fun j hj => k.block j (hB j hj).1 (hB j hj).2
  have hrow : ∀ {t : TypeId} {size n : Nat} {v : Value} {cs : List Value}, Row w t size v n cs → (∀ j, v.ownBlock = some j → j ∈ F) → Row w' t size v n cs := by
    intro t size n v cs h hv
    refine ⟨h.1, ?_⟩
    rcases h.2 with hn | ⟨g, cap, cur, rfl, hb0, hgg, rest⟩
    · exact .inl hn
    · exact .inr ⟨g, cap, cur, rfl, hb0, (hb g (hv g rfl)).trans hgg, rest⟩
  exact ⟨(hb d h.inF).trans h.blk, hrow h.pages fun j hj => (h.gF j hj).1, hrow h.pend fun j hj => (h.pF j hj).1, h.inF, h.gF, h.pF, fun j hj => Nat.lt_of_lt_of_le (h.lt j hj) k.size, h.ok⟩
theorem Hole.cell {B L b : Nat} {w w' : World} (k : Hole B L w w') (hb : b < B) (hL : b ≠ L) {v : Value} (h : w.cell? ⟨b, 0, none⟩ = some v) : w'.cell? ⟨b, 0, none⟩ = some v :=
  (World.cell?_of_block (k.block b hb hL)).trans h
theorem Hole.t {B L : Nat} {X Y Z : World} (h : Hole B L X Y) (k : Hole B L Y Z) : Hole B L X Z := h.trans k
theorem Hole.b {B L : Nat} {w : World} (hB : B ≤ w.heap.size) (W : World) (l : Nat) (o o' : Obj) (hl : w.heap.size ≤ l) (h : W.heap[l]? = some o) (_ : o.isCells = false) (_ : o.isWalk = false) : Hole B L W (W.putObj l o') := by
  have hg := grownBy_putObj' W l o'
  exact ⟨hg.os, hg.tape, hg.output, hg.size, fun k hk _ => hg.block k (by have := (Array.getElem?_eq_some_iff.1 h).1; omega) (by intro e; injection e with e; omega)⟩
theorem grownBy_drew0 (w : World) : w.grownBy w.drew none := ⟨rfl, rfl, rfl, Nat.le_refl _, fun _ _ _ => rfl⟩

/-! The steps on rows of cells, inside a fence. -/
theorem wpListIn_load_mid {F : Fence} {n : Nat} {P : Program} {ops : Array Oper} {rest : List Oper} {op : Oper} {a : Act} {w : World} {Q : Exit → Act → World → Prop} (hw : Region.wanted op (yielded ops a.tmps) = true) (ty : TypeId) (x : Operand) (ho : op.op = .load ty x)
    (b o : Nat) (hx : a.eval x = .pointer (some ⟨b, o, none⟩)) (cs : List Value) (d : TypeDesc) (hc : w.rangeAt b o cs)
    (hu : P.underlying ty = some d) (hd : d.isRow = true) (hi : (P.info? ty).map (·.size) = some cs.length)
    (h : wpListIn F n P ops Q rest (a.put op.dst (.agg cs.toArray)) w) : wpListIn F n P ops Q (op :: rest) a w := by
  simp only [wpListIn, hw, if_true, Oper.wpIn]
  refine ⟨fun f hf => by simp [Oper.about, ho] at hf, ?_⟩
  have hr := run_loadAt_mid (P := P) w b o ty cs d hc hu hd hi
  rw [Oper.semAt_eq _ _ _ (fun c => by rw [ho]; simp)]
  unfold execOp
  simp only [ho, hx, Sem.run_bind, Sem.run_pure, Result.andThen_ok, hr]
  exact h
theorem wpListIn_store_mid {F : Fence} {n : Nat} {P : Program} {ops : Array Oper} {rest : List Oper} {op : Oper} {a : Act} {w : World} {Q : Exit → Act → World → Prop} (hw : Region.wanted op (yielded ops a.tmps) = true) (ty : TypeId) (x y : Operand) (ho : op.op = .store ty x y)
    (b o : Nat) (cells : Array Value) (hx : a.eval x = .pointer (some ⟨b, o, none⟩)) (hy : a.eval y = .agg cells)
    (ht : w.there b o cells.size) (hi : (P.info? ty).map (·.size) = some cells.size) (h1 : cells.all (·.oneCell') = true)
    (h : wpListIn F n P ops Q rest (a.put op.dst undef) (w.setCells b o cells.toList)) : wpListIn F n P ops Q (op :: rest) a w := by
  simp only [wpListIn, hw, if_true, Oper.wpIn]
  refine ⟨fun f hf => by simp [Oper.about, ho] at hf, ?_⟩
  have hr := run_storeAt_mid (P := P) w b o ty cells ht hi h1
  rw [Oper.semAt_eq _ _ _ (fun c => by rw [ho]; simp)]
  unfold execOp
  simp only [ho, hx, hy, Sem.run_bind, Sem.run_pure, Result.andThen_ok, hr]
  exact h
theorem stepIn_load_mid {F : Fence} {n : Nat} {P : Program} {ops : Array Oper} {op : Oper} {a : Act} {w : World} {K : Act → World → Prop} {Q : Exit → Act → World → Prop} {E : Prop} (hw : Region.wanted op (yielded ops a.tmps) = true) (ty : TypeId) (x : Operand) (ho : op.op = .load ty x)
    (b o : Nat) (hx : a.eval x = .pointer (some ⟨b, o, none⟩)) (cs : List Value) (d : TypeDesc) (hc : w.rangeAt b o cs)
    (hu : P.underlying ty = some d) (hd : d.isRow = true) (hi : (P.info? ty).map (·.size) = some cs.length)
    (h : K (a.put op.dst (.agg cs.toArray)) w) : if Region.wanted op (yielded ops a.tmps) = true then Oper.wpIn F n P op a w K Q else E := by
  rw [if_pos hw]
  unfold Oper.wpIn
  refine ⟨fun f hf => by simp [Oper.about, ho] at hf, ?_⟩
  have hr := run_loadAt_mid (P := P) w b o ty cs d hc hu hd hi
  rw [Oper.semAt_eq _ _ _ (fun c => by rw [ho]; simp)]
  unfold execOp
  simp only [ho, hx, Sem.run_bind, Sem.run_pure, Result.andThen_ok, hr]
  exact h

/-- What contents has yielded when i of the writes have been looked at. -/
def histTo (D : DS) (p i : Nat) : List (List UInt8) := D.pages.getD p [] :: ((D.pend.take i).filter (fun w => w.1 == p)).map (·.2)
theorem histTo_all (D : DS) (p : Nat) : histTo D p D.pend.length = hist D p := by unfold histTo hist; rw [List.take_length]
theorem histTo_yes (D : DS) (p i : Nat) (h : i < D.pend.length) (he : (D.pend[i]).1 = p) : histTo D p (i + 1) = histTo D p i ++ [(D.pend[i]).2] := by
  unfold histTo
  rw [List.take_succ_eq_append_getElem h, List.filter_append, List.map_append]
  simp [he]
theorem histTo_no (D : DS) (p i : Nat) (h : i < D.pend.length) (he : (D.pend[i]).1 ≠ p) : histTo D p (i + 1) = histTo D p i := by
  unfold histTo
  rw [List.take_succ_eq_append_getElem h, List.filter_append, List.map_append]
  simp [he]
theorem histTo_le (D : DS) (p i : Nat) : (histTo D p i).length ≤ (hist D p).length := by
  unfold histTo hist
  simp only [List.length_cons, List.length_map]
  exact Nat.succ_le_succ ((List.take_sublist i D.pend).filter _).length_le
theorem page_range {w : World} {d : Nat} {F : List Nat} {D : DS} {gv pv : Value} (h : Dk w d F D gv pv) (i : Nat) (hi : i < D.pages.length) :
    ∃ Q cap, gv = .slice (some ⟨Q, 0, none⟩) D.pages.length cap ∧ D.pages.length ≤ cap ∧ cap ≤ 9223372036854775807 ∧ w.rangeAt Q (i * 128) ((D.pages.getD i []).map bv) ∧ (D.pages.getD i []).length = 128 := by
  have hr := h.pages
  obtain ⟨hl, ⟨rfl, h0⟩ | ⟨Q, cap, cur, rfl, hb, hh, hn, hm, hs, ht⟩⟩ := hr
  · omega
  · have hr := h.pages
    have hg : D.pages.getD i [] = D.pages[i] := by rw [List.getD_eq_getElem?_getD, List.getElem?_eq_getElem hi]; rfl
    have hl128 : (D.pages[i]).length = 128 := h.ok.pages _ (List.getElem_mem _)
    refine ⟨Q, cap, rfl, hn, by unfold maxLen at hm; omega, fun j u hj => ?_, by rw [hg]; exact hl128⟩
    have hA : ((D.pages.take i).flatten.map bv).length = i * 128 := by
      rw [List.length_map, flatten_len _ (fun p hp => h.ok.pages p (List.mem_of_mem_take hp)), List.length_take, Nat.min_eq_left (by omega)]
    have hp : (pcells D.pages)[i * 128 + j]? = some u := by
      unfold pcells
      conv => lhs; rw [← List.take_append_drop i D.pages]
      rw [List.drop_eq_getElem_cons hi, List.flatten_append, List.flatten_cons, List.map_append, List.map_append, List.getElem?_append_right (by rw [hA]; omega), hA, show i * 128 + j - i * 128 = j by omega]
      rw [hg] at hj
      rw [List.getElem?_append_left (List.getElem?_eq_some_iff.1 hj).1]; exact hj
    have := World.ownsRow.cells hr (g := Q) rfl (i * 128 + j) u hp
    rw [add_plain, Nat.zero_add] at this
    exact this
theorem info_arr : (Try.prog.info? 79).map (·.size) = some 128 := by kernel_rfl

attribute [local go_sem] Oper.semAt_some
set_option maxRecDepth 100000 in
set_option maxHeartbeats 4000000 in
theorem cont1_in (F : Fence) (n : Nat) (hF : F.fn 58) (hro : F.round = none) (hn : 1 ≤ n) (l b1 b2 B L d : Nat) (Fd : List Nat) (D : DS) (p : Nat) (hp : p < D.pages.length) (J Jx : List Pg → World → Prop) (W : World) (hd : Disk W d Fd D)
    (hB : ∀ j ∈ Fd, j < B ∧ j ≠ L) (hb1 : b1 < B ∧ b1 ≠ L) (hb2 : b2 < B ∧ b2 ≠ L) (hBW : B ≤ W.heap.size) (hc1 : W.cell? ⟨b1, 0, none⟩ = some (.pointer (some ⟨d, 0, none⟩))) (hc2 : W.cell? ⟨b2, 0, none⟩ = some (.int .i64 p))
    (hJ : AbidesFrom W.heap.size J)
    (hY : ∀ pre x W1, J pre W1 → pre.length < (hist D p).length → YieldAt F (n - 1) Try.prog l #[pgv x.1] W1 fun e W' =>
      (e = .returned (.bool true) ∧ J (pre ++ [x]) W' ∧ Hole B L W1 W') ∨ (e = .returned (.bool false) ∧ Jx (pre ++ [x]) W'))
    (h0 : J [] W) :
    CallsIn F n Try.prog 58 #[.func (.yield l) #[] #[], .pointer (some ⟨b1, 0, none⟩), .pointer (some ⟨b2, 0, none⟩)] W fun e W' => (∃ v, e = .returned v) ∧
      ((∃ xs : List Pg, xs.map (·.1) = hist D p ∧ J xs W') ∨ (∃ pre, True ∧ Jx pre W')) := by
  obtain ⟨gv, pv, hdk⟩ := hd
  obtain ⟨Q, cap, rfl, hcap, hcm, hrange, hl128⟩ := page_range hdk p hp
  obtain ⟨c0, c1, c2, c3, f0, f1, f2, f3⟩ := hdk.cells
  obtain ⟨pg, hpg⟩ : ∃ pg, pg = D.pages.getD p [] := ⟨_, rfl⟩
  rw [← hpg] at hrange hl128
  have HPG := hide hpg
  clear hpg
  have HY := hide hY
  have HD := hide hdk
  obtain ⟨PA, pc, rfl, hpcl, hpcm⟩ := hdk.pend.form
  have hdrew : ∀ (pre : List Pg) W1, J pre W1 → J pre W1.drew := fun pre W1 h => hJ pre W1 _ none h (grownBy_drew0 W1) (by simp)
  obtain ⟨fn, tmps, assign, body, hy, hR⟩ := hY [] ⟨pg, hl128⟩ W.drew (hdrew _ _ h0) (by simp [hist])
  clear hdk hY
  dsimp only [pgv] at hy
  refine callsIn_of_wp Try.func58 rfl hF ?_ hro
  simp only [Try.ntmps58, List.size_toArray, List.length_cons, List.length_nil, Nat.reduceAdd, Nat.reduceSub, Array.replicate_succ, Array.replicate_zero, List.push_toArray, List.append_toArray, List.nil_append, List.cons_append]
  gi_wp2_with fail
  refine' have_tail0 (fun tail => ?_) ?_
  rotate_left
  refine wpIn_region_any (by kernel_rfl) ?_
  simp only [List.size_toArray, List.length_cons, List.length_nil, Nat.reduceAdd, Array.replicate_succ, Array.replicate_zero, List.push_toArray, List.nil_append, List.cons_append]
  refine wpAnyIn_take (i := 0) (v := ?vq1) hro rfl (by kernel_rfl) (by kernel_rfl) (by kernel_rfl) (fun _ _ _ h => h) ⟨Or.inl ⟨by rfl, ?hyq1⟩, fun _ => rfl⟩ ?restq1
  case hyq1 => (intro w; go_simp; first | done | (with_reducible rfl))
  try simp only [Act.put, List.getElem_toArray, List.getElem_cons_zero, List.getElem_cons_succ, List.setIfInBounds_toArray, List.set_cons_zero, List.set_cons_succ]
  refine wpAnyIn_ready (rs := [1, 5]) (by kernel_rfl) (by simp) ?_
  refine AllReadyIn.cons rfl (fun K0 hK0 => ?_) ?_
  · go_simp
    refine hK0 _ _ ?_
    clear hK0 K0
    try simp only [Act.put, List.getElem_toArray, List.getElem_cons_zero, List.getElem_cons_succ, List.setIfInBounds_toArray, List.set_cons_zero, List.set_cons_succ]
    refine wpAnyIn_take (i := 2) (v := ?vq4) hro rfl (by kernel_rfl) (by kernel_rfl) (by kernel_rfl) (fun _ _ _ h => h) ⟨Or.inl ⟨by rfl, ?hyq4⟩, fun _ => rfl⟩ ?restq4
    case hyq4 => (intro w; go_simp; first | done | (with_reducible rfl))
    try simp only [Act.put, List.getElem_toArray, List.getElem_cons_zero, List.getElem_cons_succ, List.setIfInBounds_toArray, List.set_cons_zero, List.set_cons_succ]
    refine wpAnyIn_take (i := 3) (v := ?vq5) hro rfl (by kernel_rfl) (by kernel_rfl) (by kernel_rfl) (fun _ _ _ h => h) ⟨Or.inl ⟨by rfl, ?hyq5⟩, fun _ => rfl⟩ ?restq5
    case hyq5 => (intro w; go_simp; first | done | (with_reducible rfl))
    try simp only [Act.put, List.getElem_toArray, List.getElem_cons_zero, List.getElem_cons_succ, List.setIfInBounds_toArray, List.set_cons_zero, List.set_cons_succ]
    refine wpAnyIn_ready (rs := [4, 5]) (by kernel_rfl) (by simp) ?_
    refine AllReadyIn.cons rfl (fun K0 hK0 => ?_) ?_
    · go_simp
      refine hK0 _ _ ?_
      clear hK0 K0
      try simp only [Act.put, List.getElem_toArray, List.getElem_cons_zero, List.getElem_cons_succ, List.setIfInBounds_toArray, List.set_cons_zero, List.set_cons_succ]
      refine wpAnyIn_ready (rs := [5]) (by kernel_rfl) (by simp) ?_
      refine AllReadyIn.cons rfl (fun K0 hK0 => ?_) ?_
      · go_simp
        refine hK0 _ _ ?_
        clear hK0 K0
        try simp only [Act.put, List.getElem_toArray, List.getElem_cons_zero, List.getElem_cons_succ, List.setIfInBounds_toArray, List.set_cons_zero, List.set_cons_succ]
        exact tail
      exact AllReadyIn.nil
    refine AllReadyIn.cons rfl (fun K0 hK0 => ?_) ?_
    · go_simp
      refine hK0 _ _ ?_
      clear hK0 K0
      try simp only [Act.put, List.getElem_toArray, List.getElem_cons_zero, List.getElem_cons_succ, List.setIfInBounds_toArray, List.set_cons_zero, List.set_cons_succ]
      refine wpAnyIn_ready (rs := [4]) (by kernel_rfl) (by simp) ?_
      refine AllReadyIn.cons rfl (fun K0 hK0 => ?_) ?_
      · go_simp
        refine hK0 _ _ ?_
        clear hK0 K0
        try simp only [Act.put, List.getElem_toArray, List.getElem_cons_zero, List.getElem_cons_succ, List.setIfInBounds_toArray, List.set_cons_zero, List.set_cons_succ]
        exact tail
      exact AllReadyIn.nil
    exact AllReadyIn.nil
  refine AllReadyIn.cons rfl (fun K0 hK0 => ?_) ?_
  · go_simp
    refine hK0 _ _ ?_
    clear hK0 K0
    try simp only [Act.put, List.getElem_toArray, List.getElem_cons_zero, List.getElem_cons_succ, List.setIfInBounds_toArray, List.set_cons_zero, List.set_cons_succ]
    refine wpAnyIn_ready (rs := [1]) (by kernel_rfl) (by simp) ?_
    refine AllReadyIn.cons rfl (fun K0 hK0 => ?_) ?_
    · go_simp
      refine hK0 _ _ ?_
      clear hK0 K0
      try simp only [Act.put, List.getElem_toArray, List.getElem_cons_zero, List.getElem_cons_succ, List.setIfInBounds_toArray, List.set_cons_zero, List.set_cons_succ]
      refine wpAnyIn_take (i := 2) (v := ?vq2) hro rfl (by kernel_rfl) (by kernel_rfl) (by kernel_rfl) (fun _ _ _ h => h) ⟨Or.inl ⟨by rfl, ?hyq2⟩, fun _ => rfl⟩ ?restq2
      case hyq2 => (intro w; go_simp; first | done | (with_reducible rfl))
      try simp only [Act.put, List.getElem_toArray, List.getElem_cons_zero, List.getElem_cons_succ, List.setIfInBounds_toArray, List.set_cons_zero, List.set_cons_succ]
      refine wpAnyIn_take (i := 3) (v := ?vq3) hro rfl (by kernel_rfl) (by kernel_rfl) (by kernel_rfl) (fun _ _ _ h => h) ⟨Or.inl ⟨by rfl, ?hyq3⟩, fun _ => rfl⟩ ?restq3
      case hyq3 => (intro w; go_simp; first | done | (with_reducible rfl))
      try simp only [Act.put, List.getElem_toArray, List.getElem_cons_zero, List.getElem_cons_succ, List.setIfInBounds_toArray, List.set_cons_zero, List.set_cons_succ]
      refine wpAnyIn_ready (rs := [4]) (by kernel_rfl) (by simp) ?_
      refine AllReadyIn.cons rfl (fun K0 hK0 => ?_) ?_
      · go_simp
        refine hK0 _ _ ?_
        clear hK0 K0
        try simp only [Act.put, List.getElem_toArray, List.getElem_cons_zero, List.getElem_cons_succ, List.setIfInBounds_toArray, List.set_cons_zero, List.set_cons_succ]
        exact tail
      exact AllReadyIn.nil
    exact AllReadyIn.nil
  exact AllReadyIn.nil
  refine wpAnyIn_take (i := 6) (v := ?v6) hro rfl (by kernel_rfl) (by kernel_rfl) (by kernel_rfl) (fun _ _ _ h => h) ⟨Or.inl ⟨by rfl, ?hy6⟩, fun _ => rfl⟩ ?rest6
  case hy6 => (intro w; go_simp; first | done | (with_reducible rfl))
  try simp only [Act.put, List.getElem_toArray, List.getElem_cons_zero, List.getElem_cons_succ, List.setIfInBounds_toArray, List.set_cons_zero, List.set_cons_succ]
  refine wpAnyIn_ready (rs := [7]) (by kernel_rfl) (by simp) ?_
  refine AllReadyIn.cons rfl (fun K0 hK0 => ?_) AllReadyIn.nil
  refine stepIn_load_mid rfl 79 (.tmp 12) rfl Q (p * 128) rfl (pg.map bv) _ hrange Try.underlying79 rfl (by rw [List.length_map, hl128]; exact info_arr) ?_
  refine hK0 _ _ ?_
  clear hK0 K0
  try simp only [Act.put, List.getElem_toArray, List.getElem_cons_zero, List.getElem_cons_succ, List.setIfInBounds_toArray, List.set_cons_zero, List.set_cons_succ]
  refine wpAnyIn_ready (rs := [8]) (by kernel_rfl) (by simp) ?_
  refine AllReadyIn.cons rfl (fun K0 hK0 => ?_) AllReadyIn.nil
  go_simp
  refine hR.mono ?_
  rintro e W3 (⟨rfl, hJ3, hk3⟩ | ⟨rfl, hJx3⟩)
  rotate_left
  · refine hK0 _ _ ?_
    clear hK0 K0
    try simp only [Act.put, List.getElem_toArray, List.getElem_cons_zero, List.getElem_cons_succ, List.setIfInBounds_toArray, List.set_cons_zero, List.set_cons_succ]
    refine wpAnyIn_ready (rs := [9]) (by kernel_rfl) (by simp) ?_
    refine AllReadyIn.cons rfl (fun K0 hK0 => ?_) AllReadyIn.nil
    go_simp
    refine hK0 _ _ ?_
    clear hK0 K0
    try simp only [Act.put, List.getElem_toArray, List.getElem_cons_zero, List.getElem_cons_succ, List.setIfInBounds_toArray, List.set_cons_zero, List.set_cons_succ]
    refine wpAnyIn_done (by kernel_rfl) ?_ _
    gi_wp2_with fail
    refine bodyPost_ret (results_none rfl _ _ _) rfl ?_
    exact ⟨⟨_, rfl⟩, .inr ⟨_, trivial, hJx3⟩⟩
  refine hK0 _ _ ?_
  clear hK0 K0
  try simp only [Act.put, List.getElem_toArray, List.getElem_cons_zero, List.getElem_cons_succ, List.setIfInBounds_toArray, List.set_cons_zero, List.set_cons_succ]
  refine wpAnyIn_ready (rs := [9]) (by kernel_rfl) (by simp) ?_
  refine AllReadyIn.cons rfl (fun K0 hK0 => ?_) AllReadyIn.nil
  go_simp
  refine hK0 _ _ ?_
  clear hK0 K0
  try simp only [Act.put, List.getElem_toArray, List.getElem_cons_zero, List.getElem_cons_succ, List.setIfInBounds_toArray, List.set_cons_zero, List.set_cons_succ]
  refine wpAnyIn_done (by kernel_rfl) ?_ _
  have hk0 : Hole B L W W3 := (Hole.below ((Below.refl B W).drew)).trans hk3
  have HD3 := hide (hk0.dk HD.out hB)
  have HK0 := hide hk0
  obtain ⟨c0', c1', c2', c3', f0', f1', f2', f3'⟩ := HD3.out.cells
  have hb1' := hk0.cell hb1.1 hb1.2 hc1
  have hb2' := hk0.cell hb2.1 hb2.2 hc2
  have hc2o := hide hc2
  clear hk0 hk3 c0 c1 c2 c3 f0 f1 f2 f3 hc1 hc2 hrange hR hy
  gi_wp2_with fail
  gi_loopw [21] (fun vi wr => ∃ (i : Nat) (pre : List Pg), vi = .int .i64 i ∧ i ≤ D.pend.length ∧ pre.map (·.1) = histTo D p i ∧ J pre wr ∧ Hole B L W wr) (fun vi _ => D.pend.length - (intOf vi).toNat)
  case atStart => exact ⟨0, _, rfl, Nat.zero_le _, by simp [histTo, HPG.out], hJ3, HK0.out⟩
  case round =>
    obtain ⟨i, pre, rfl, hi, hpre, hJr, hkr⟩ := hrel
    have HDR := hide (hkr.dk HD.out hB)
    have HKR := hide hkr
    have HPRE := hide hpre
    have hb2r := hkr.cell hb2.1 hb2.2 hc2o.out
    clear c0' c1' c2' c3' f0' f1' f2' f3' hb1' hb2' hkr hpre
    by_cases hlt : i < D.pend.length
    · obtain ⟨Q2, cap2, e1, hcap2, hrange2, hQ2, hQF2⟩ := pend_range HDR.out i hlt
      obtain ⟨rfl, rfl⟩ : PA = some ⟨Q2, 0, none⟩ ∧ pc = cap2 := by injection e1 with e1 e2 e3; exact ⟨e1, e3⟩
      clear e1
      have hok := HD.out.ok.pend (D.pend[i]) (List.getElem_mem _)
      have HYES := hide (histTo_yes D p i hlt)
      have HNO := hide (histTo_no D p i hlt)
      generalize hx : D.pend[i] = x at *
      obtain ⟨q, data⟩ := x
      have HRG : Hid (wr.rangeAt Q2 (i * 129) (wcells (q, data))) := hide hrange2
      have HW129 := hide (wcells_len q data hok.2)
      have HR71 : Hid ((Try.prog.info? 81).map (·.size) = some (wcells (q, data)).length) := hide (by rw [size_write, HW129.out])
      have HOK := hide hok
      have hal := zero_write
      clear hrange2 hx hok
      obtain ⟨w1, hw1⟩ : ∃ w1, w1 = wr.alloc (.cells (wcells (q, data)).toArray 81) := ⟨_, rfl⟩
      have HST2 : Hid ((wr.alloc (.cells zw 81)).setCells wr.heap.size 0 (wcells (q, data)).toArray.toList = w1) := hide (by rw [hw1]; exact setCells_new wr (wcells (q, data)) HW129.out (hone_wcells q data))
      have HTH : Hid ((wr.alloc (.cells zw 81)).there wr.heap.size 0 (wcells (q, data)).toArray.size) := hide (there_new wr (by simpa using HW129.out))
      have HBX : Hid (Blk w1 wr.heap.size 81 (wcells (q, data)).toArray) := hide (by rw [hw1]; exact Blk.new wr _ _)
      have hbz : w1.cell? ⟨wr.heap.size, 0, none⟩ = some (.int .i64 q) := HBX.out.cell 0
      have hbp : w1.cell? ⟨b2, 0, none⟩ = some (.int .i64 p) := by
        rw [hw1]; exact (((Below.refl wr.heap.size wr).alloc (Nat.le_refl _) _).cell (p := ⟨b2, 0, none⟩) (by have := HKR.out.size; show b2 < _; omega)).trans hb2r
      have HJ1 : Hid (J pre w1) := hide (by rw [hw1]; exact hJ pre wr _ none hJr (World.grownBy_alloc wr _ none) (by simp))
      have HK1 : Hid (Hole B L W w1) := hide (by rw [hw1]; exact HKR.out.trans (Hole.below ((Below.refl B wr).alloc (Nat.le_trans hBW HKR.out.size) _)))
      have HRD : Hid (w1.rangeAt wr.heap.size 1 (data.map bv)) := hide (fun j u hj => by
        rw [HBX.out.cell, Nat.add_comm 1 j]
        simpa [wcells] using hj)
      clear hw1
      by_cases hqp : q = p
      · subst hqp
        have HY2 : Hid (histTo D q (i + 1) = histTo D q i ++ [data]) := hide (HYES.out rfl)
        have hlen : pre.length < (hist D q).length := by
          have e := histTo_le D q (i + 1)
          rw [HY2.out, List.length_append, ← HPRE.out] at e
          simp at e
          omega
        obtain ⟨fn, tmps, assign, body, hy, hR⟩ := HY.out pre ⟨data, HOK.out.2⟩ w1 HJ1.out hlen
        dsimp only [pgv] at hy
        gi_wp2_with (first
          | (refine wpListIn_load_mid rfl 81 (.tmp 23) rfl Q2 (i * 129) rfl (wcells (q, data)) _ HRG.out Try.underlying81 rfl HR71.out ?_)
          | (refine wpListIn_load_mid (by first | rfl | (simp [Region.wanted, yielded, go_sem]; done)) 79 (.tmp 31) rfl wr.heap.size 1 rfl (data.map bv) _ HRD.out Try.underlying79 rfl (by rw [List.length_map, HOK.out.2]; exact info_arr) ?_)
          | (refine wpListIn_store_mid rfl 81 (.tmp 5) (.tmp 24) rfl wr.heap.size 0 (wcells (q, data)).toArray rfl rfl HTH.out (by simpa using HR71.out) (all_oneCell_toArray (hone_wcells q data)) ?_; rw [HST2.out]))
        clear hal
        refine hR.mono ?_
        rintro e W4 (⟨rfl, hJ4, hk4⟩ | ⟨rfl, hJx4⟩)
        · clear hy hR hbz hbp
          gi_wp2_with fail
          go_roundw
          case rel => exact ⟨i + 1, _, by go_num, hlt, by rw [List.map_append, HPRE.out, HY2.out]; rfl, hJ4, HK1.out.trans hk4⟩
          case measure => simp [intOf]; omega
        · clear hy hR hbz hbp
          gi_wp2_with fail
          refine bodyPost_ret (results_none rfl _ _ _) rfl ?_
          exact ⟨⟨_, rfl⟩, .inr ⟨_, trivial, hJx4⟩⟩
      · have hqz : ¬ (q : Int) = (p : Int) := by omega
        gi_wp2_with (first
          | (refine wpListIn_load_mid rfl 81 (.tmp 23) rfl Q2 (i * 129) rfl (wcells (q, data)) _ HRG.out Try.underlying81 rfl HR71.out ?_)
          | (refine wpListIn_store_mid rfl 81 (.tmp 5) (.tmp 24) rfl wr.heap.size 0 (wcells (q, data)).toArray rfl rfl HTH.out (by simpa using HR71.out) (all_oneCell_toArray (hone_wcells q data)) ?_; rw [HST2.out]))
        refine ⟨fun _ h => (by cases h), ?_⟩
        gi_wp2_with fail
        go_roundw
        case rel => exact ⟨i + 1, _, by go_num, hlt, by rw [HPRE.out, HNO.out hqp], HJ1.out, HK1.out⟩
        case measure => simp [intOf]; omega
    · obtain rfl : i = D.pend.length := by omega
      gi_wp2_with fail
      go_end0
      exact ⟨⟨_, rfl⟩, .inl ⟨pre, by rw [HPRE.out]; exact histTo_all D p, hJr⟩⟩
end Go.Proofs.Ytpadgkkeihhneaa
