/- contents: what it yields. -/
import Derived.Test.YtpadgkkeihhneaaGreatC14
import Derived.RangeFuncNested
import Derived.RangeFuncBound
import Derived.RangeFuncCalls
import Derived.RangeFuncLeaves
import Derived.RangeFuncFrom
import Derived.OwnWalkIn
import Derived.TacticsInMore
import Derived.LoopNIn
import Derived.LoopIn
import Derived.Deep.Upon
import Derived.Lib.EndianMore
import Derived.Deep.WholeRow
import Derived.WalkKit
import Derived.Shelf.Abstract
namespace Go.Proofs.YtpadgkkeihhneaaGreat
set_option maxRecDepth 100000
set_option linter.unusedSimpArgs false
set_option linter.unusedVariables false
section
open List renaming getElem_toArray → qa, getElem_cons_zero → qb, getElem_cons_succ → qc, setIfInBounds_toArray → qd, set_cons_zero → qe, set_cons_succ → qf
open Go.ChangeShapes Go.WideShapes Go.ChangeAt Go.RowKit
abbrev Pg := { l : List UInt8 // l.length = 128 }
def pgv (l : List UInt8) : Value := .agg (l.map bv).toArray
/-- At most the block L turns of those below B. -/
structure Hole (B L : Nat) (w w' : World) : Prop where
 os : w'.os = w.os
 tape : w'.tape = w.tape
 output : w'.output = w.output
 size : w.heap.size ≤ w'.heap.size
 block : ∀ k, k < B → k ≠ L → w'.heap[k]? = w.heap[k]?
theorem Hole.refl (B L : Nat) (w : World) : Hole B L w w := ⟨rfl, rfl, rfl, Nat.le_refl _, fun _ _ _ => rfl⟩
theorem Hole.trans {B L : Nat} {a b c : World} (h : Hole B L a b) (k : Hole B L b c) : Hole B L a c :=
 ⟨k.os.trans h.os, k.tape.trans h.tape, k.output.trans h.output, Nat.le_trans h.size k.size, fun i hi hne => (k.block i hi hne).trans (h.block i hi hne)⟩
theorem Hole.below {B L : Nat} {a b : World} (h : Below B a b) : Hole B L a b := ⟨h.os, h.tape, h.output, h.size, fun k hk _ => h.block k hk⟩
theorem Hole.dk {B L : Nat} {w w' : World} {d : Nat} {F : List Nat} {D : DS} {gv pv : Value} (k : Hole B L w w') (h : Dk w d F D gv pv) (hB : ∀ j ∈ F, j < B ∧ j ≠ L) : Dk w' d F D gv pv := by
 have hb : ∀ j ∈ F, w'.heap[j]? = w.heap[j]? := fun j hj => k.block j (hB j hj).1 (hB j hj).2
 have hrow : ∀ {t : TypeId} {size n : Nat} {v : Value} {cs : List Value}, Row w t size v n cs → (∀ j, v.ownBlock = some j → j ∈ F) → Row w' t size v n cs := by
  intro t size n v cs h hv
  refine ⟨h.1, ?_⟩
  rcases h.2 with hn | ⟨g, cap, cur, rfl, hb0, hgg, rest⟩
  ·exact .inl hn
  ·exact .inr ⟨g, cap, cur, rfl, hb0, (hb g (hv g rfl)).trans hgg, rest⟩
 exact ⟨(hb d h.inF).trans h.blk, hrow h.pages fun j hj => (h.gF j hj).1, hrow h.pend fun j hj => (h.pF j hj).1, h.inF, h.gF, h.pF, fun j hj => Nat.lt_of_lt_of_le (h.lt j hj) k.size, h.ok⟩
theorem Hole.cell {B L b : Nat} {w w' : World} (k : Hole B L w w') (hb : b < B) (hL : b ≠ L) {v : Value} (h : w.cell? ⟨b, 0, none⟩ = some v) : w'.cell? ⟨b, 0, none⟩ = some v :=
 (World.cell?_of_block (k.block b hb hL)).trans h
theorem Hole.t {B L : Nat} {X Y Z : World} (h : Hole B L X Y) (k : Hole B L Y Z) : Hole B L X Z := h.trans k
theorem Hole.b {B L : Nat} {w : World} (hB : B ≤ w.heap.size) (W : World) (l : Nat) (o o' : Obj) (hl : w.heap.size ≤ l) (h : W.heap[l]? = some o) (_ : o.isCells = false) (_ : o.isWalk = false) : Hole B L W (W.putObj l o') := by
 have hg := grownBy_putObj' W l o'
 exact ⟨hg.os, hg.tape, hg.output, hg.size, fun k hk _ => hg.block k (by have := (Array.getElem?_eq_some_iff.1 h).1; omega) (by intro e; injection e with e; omega)⟩
theorem grownBy_drew0 (w : World) : w.grownBy w.drew none := ⟨rfl, rfl, rfl, Nat.le_refl _, fun _ _ _ => rfl⟩
/-! The steps on rows of cells, inside a fence. -/
theorem wpListIn_load_mid {F : Fence} {n : Nat} {P : Program} {ops : Array Oper} {rest : List Oper} {op : Oper} {a : Act} {w : World} {Q : Exit → Act → World → Prop} (hw : Region.wanted op (yielded ops a.tmps) = true) (ty : TypeId) (x : Operand) (ho : op.op = .load ty x)
 (b o : Nat) (hx : a.eval x = .pointer (some ⟨b, o, none⟩)) (cs : List Value) (d : TypeDesc) (hc : w.rangeAt b o cs)
 (hu : P.underlying ty = some d) (hd : d.isRow = true) (hi : (P.info? ty).map (·.size) = some cs.length)
 (h : wpListIn F n P ops Q rest (a.put op.dst (.agg cs.toArray)) w) : wpListIn F n P ops Q (op :: rest) a w := by
 simp only [wpListIn, hw, if_true, Oper.wpIn]
 refine ⟨fun f hf => by simp [Oper.about, ho] at hf, ?_⟩
 have hr := run_loadAt_mid (P := P) w b o ty cs d hc hu hd hi
 rw [Oper.semAt_eq _ _ _ (fun c => by rw [ho]; simp)]
 unfold execOp
 simp only [ho, hx, Sem.run_bind, Sem.run_pure, Result.andThen_ok, hr]
 exact h
theorem wpListIn_store_mid {F : Fence} {n : Nat} {P : Program} {ops : Array Oper} {rest : List Oper} {op : Oper} {a : Act} {w : World} {Q : Exit → Act → World → Prop} (hw : Region.wanted op (yielded ops a.tmps) = true) (ty : TypeId) (x y : Operand) (ho : op.op = .store ty x y)
 (b o : Nat) (cells : Array Value) (hx : a.eval x = .pointer (some ⟨b, o, none⟩)) (hy : a.eval y = .agg cells)
 (ht : w.there b o cells.size) (hi : (P.info? ty).map (·.size) = some cells.size) (h1 : cells.all (·.oneCell') = true)
 (h : wpListIn F n P ops Q rest (a.put op.dst undef) (w.setCells b o cells.toList)) : wpListIn F n P ops Q (op :: rest) a w := by
 simp only [wpListIn, hw, if_true, Oper.wpIn]
 refine ⟨fun f hf => by simp [Oper.about, ho] at hf, ?_⟩
 have hr := run_storeAt_mid (P := P) w b o ty cells ht hi h1
 rw [Oper.semAt_eq _ _ _ (fun c => by rw [ho]; simp)]
 unfold execOp
 simp only [ho, hx, hy, Sem.run_bind, Sem.run_pure, Result.andThen_ok, hr]
 exact h
theorem stepIn_load_mid {F : Fence} {n : Nat} {P : Program} {ops : Array Oper} {op : Oper} {a : Act} {w : World} {K : Act → World → Prop} {Q : Exit → Act → World → Prop} {E : Prop} (hw : Region.wanted op (yielded ops a.tmps) = true) (ty : TypeId) (x : Operand) (ho : op.op = .load ty x)
 (b o : Nat) (hx : a.eval x = .pointer (some ⟨b, o, none⟩)) (cs : List Value) (d : TypeDesc) (hc : w.rangeAt b o cs)
 (hu : P.underlying ty = some d) (hd : d.isRow = true) (hi : (P.info? ty).map (·.size) = some cs.length)
 (h : K (a.put op.dst (.agg cs.toArray)) w) : if Region.wanted op (yielded ops a.tmps) = true then Oper.wpIn F n P op a w K Q else E := by
 rw [if_pos hw]
 unfold Oper.wpIn
 refine ⟨fun f hf => by simp [Oper.about, ho] at hf, ?_⟩
 have hr := run_loadAt_mid (P := P) w b o ty cs d hc hu hd hi
 rw [Oper.semAt_eq _ _ _ (fun c => by rw [ho]; simp)]
 unfold execOp
 simp only [ho, hx, Sem.run_bind, Sem.run_pure, Result.andThen_ok, hr]
 exact h
/-- What contents has yielded when i of the writes have been looked at. -/
def histTo (D : DS) (p i : Nat) : List (List UInt8) := D.pages.getD p [] :: ((D.pend.take i).filter (fun w => w.1 == p)).map (·.2)
theorem histTo_all (D : DS) (p : Nat) : histTo D p D.pend.length = hist D p := by unfold histTo hist; rw [List.take_length]
theorem histTo_yes (D : DS) (p i : Nat) (h : i < D.pend.length) (he : (D.pend[i]).1 = p) : histTo D p (i + 1) = histTo D p i ++ [(D.pend[i]).2] := by
 unfold histTo
 rw [List.take_succ_eq_append_getElem h, List.filter_append, List.map_append]
 simp [he]
theorem histTo_no (D : DS) (p i : Nat) (h : i < D.pend.length) (he : (D.pend[i]).1 ≠ p) : histTo D p (i + 1) = histTo D p i := by
 unfold histTo
 rw [List.take_succ_eq_append_getElem h, List.filter_append, List.map_append]
 simp [he]
theorem histTo_le (D : DS) (p i : Nat) : (histTo D p i).length ≤ (hist D p).length := by
 unfold histTo hist
 simp only [List.length_cons, List.length_map]
 exact Nat.succ_le_succ ((List.take_sublist i D.pend).filter _).length_le
theorem page_range {w : World} {d : Nat} {F : List Nat} {D : DS} {gv pv : Value} (h : Dk w d F D gv pv) (i : Nat) (hi : i < D.pages.length) :
 ∃ Q cap, gv = .slice (some ⟨Q, 0, none⟩) D.pages.length cap ∧ D.pages.length ≤ cap ∧ cap ≤ 9223372036854775807 ∧ w.rangeAt Q (i * 128) ((D.pages.getD i []).map bv) ∧ (D.pages.getD i []).length = 128 := by
 have hr := h.pages
 obtain ⟨hl, ⟨rfl, h0⟩ | ⟨Q, cap, cur, rfl, hb, hh, hn, hm, hs, ht⟩⟩ := hr
 ·omega
 ·have hr := h.pages
  have hg : D.pages.getD i [] = D.pages[i] := by rw [List.getD_eq_getElem?_getD, List.getElem?_eq_getElem hi]; rfl
  have hl128 : (D.pages[i]).length = 128 := h.ok.pages _ (List.getElem_mem _)
  refine ⟨Q, cap, rfl, hn, by unfold maxLen at hm; omega, fun j u hj => ?_, by rw [hg]; exact hl128⟩
  have hA : ((D.pages.take i).flatten.map bv).length = i * 128 := by
   rw [List.length_map, flatten_len _ (fun p hp => h.ok.pages p (List.mem_of_mem_take hp)), List.length_take, Nat.min_eq_left (by omega)]
  have hp : (pcells D.pages)[i * 128 + j]? = some u := by
   unfold pcells
   conv => lhs; rw [← List.take_append_drop i D.pages]
   rw [List.drop_eq_getElem_cons hi, List.flatten_append, List.flatten_cons, List.map_append, List.map_append, List.getElem?_append_right (by rw [hA]; omega), hA, show i * 128 + j - i * 128 = j by omega]
   rw [hg] at hj
   rw [List.getElem?_append_left (List.getElem?_eq_some_iff.1 hj).1]; exact hj
  have := World.ownsRow.cells hr (g := Q) rfl (i * 128 + j) u hp
  rw [add_plain, Nat.zero_add] at this
  exact this
theorem info_arr : (Tryz.prog.info? 79).map (·.size) = some 128 := by kernel_rfl
attribute [local go_sem] Oper.semAt_some
set_option maxRecDepth 100000 in
set_option maxHeartbeats 4000000 in
theorem cont1_in (F : Fence) (n : Nat) (hF : F.fn 89) (hro : F.round = none) (hn : 1 ≤ n) (l b1 b2 B L d : Nat) (Fd : List Nat) (D : DS) (p : Nat) (hp : p < D.pages.length) (J Jx : List Pg → World → Prop) (W : World) (hd : Disk W d Fd D)
 (hB : ∀ j ∈ Fd, j < B ∧ j ≠ L) (hb1 : b1 < B ∧ b1 ≠ L) (hb2 : b2 < B ∧ b2 ≠ L) (hBW : B ≤ W.heap.size) (hc1 : W.cell? ⟨b1, 0, none⟩ = some (.pointer (some ⟨d, 0, none⟩))) (hc2 : W.cell? ⟨b2, 0, none⟩ = some (.int .i64 p))
 (hJ : AbidesFrom W.heap.size J)
 (hY : ∀ pre x W1, J pre W1 → pre.length < (hist D p).length → YieldAt F (n - 1) Tryz.prog l #[pgv x.1] W1 fun e W' =>
  (e = .returned (.bool true) ∧ J (pre ++ [x]) W' ∧ Hole B L W1 W') ∨ (e = .returned (.bool false) ∧ Jx (pre ++ [x]) W'))
 (h0 : J [] W) :
 CallsIn F n Tryz.prog 89 #[.func (.yield l) #[] #[], .pointer (some ⟨b1, 0, none⟩), .pointer (some ⟨b2, 0, none⟩)] W fun e W' => (∃ v, e = .returned v) ∧
  ((∃ xs : List Pg, xs.map (·.1) = hist D p ∧ J xs W') ∨ (∃ pre, True ∧ Jx pre W')) := by
 obtain ⟨gv, pv, hdk⟩ := hd
 obtain ⟨Q, cap, rfl, hcap, hcm, hrange, hl128⟩ := page_range hdk p hp
 obtain ⟨c0, c1, c2, c3, f0, f1, f2, f3⟩ := hdk.cells
 obtain ⟨pg, hpg⟩ : ∃ pg, pg = D.pages.getD p [] := ⟨_, rfl⟩
 rw [← hpg] at hrange hl128
 have HPG := hide hpg
 clear hpg
 have HY := hide hY
 have HD := hide hdk
 obtain ⟨PA, pc, rfl, hpcl, hpcm⟩ := hdk.pend.form
 have hdrew : ∀ (pre : List Pg) W1, J pre W1 → J pre W1.drew := fun pre W1 h => hJ pre W1 _ none h (grownBy_drew0 W1) (by simp)
 obtain ⟨fn, tmps, assign, body, hy, hR⟩ := hY [] ⟨pg, hl128⟩ W.drew (hdrew _ _ h0) (by simp [hist])
 clear hdk hY
 dsimp only [pgv] at hy
 refine callsIn_of_wp Tryz.func89 rfl hF ?_ hro
 simp only [Tryz.ntmps89, List.size_toArray, List.length_cons, List.length_nil, Nat.reduceAdd, Nat.reduceSub, Array.replicate_succ, Array.replicate_zero, List.push_toArray, List.append_toArray, List.nil_append, List.cons_append]
 gi_wp2_with fail
 refine' have_tail0 (fun tail => ?_) ?_
 rotate_left
 refine wpIn_region_any (by kernel_rfl) ?_
 simp only [List.size_toArray, List.length_cons, List.length_nil, Nat.reduceAdd, Array.replicate_succ, Array.replicate_zero, List.push_toArray, List.nil_append, List.cons_append]
 refine wpAnyIn_take (i := 0) (v := ?vq1) hro rfl (by kernel_rfl) (by kernel_rfl) (by kernel_rfl) (fun _ _ _ h => h) ⟨Or.inl ⟨by rfl, ?hyq1⟩, fun _ => rfl⟩ ?restq1
 case hyq1 => (intro w; go_simp; first | done | (with_reducible rfl))
 try simp only [Act.put, qa, qb, qc, qd, qe, qf]
 refine wpAnyIn_ready (rs := [1, 5]) (by kernel_rfl) (by simp) ?_
 refine AllReadyIn.cons rfl (fun K0 hK0 => ?_) ?_
 ·go_simp
  refine hK0 _ _ ?_
  clear hK0 K0
  try simp only [Act.put, qa, qb, qc, qd, qe, qf]
  refine wpAnyIn_take (i := 2) (v := ?vq4) hro rfl (by kernel_rfl) (by kernel_rfl) (by kernel_rfl) (fun _ _ _ h => h) ⟨Or.inl ⟨by rfl, ?hyq4⟩, fun _ => rfl⟩ ?restq4
  case hyq4 => (intro w; go_simp; first | done | (with_reducible rfl))
  try simp only [Act.put, qa, qb, qc, qd, qe, qf]
  refine wpAnyIn_take (i := 3) (v := ?vq5) hro rfl (by kernel_rfl) (by kernel_rfl) (by kernel_rfl) (fun _ _ _ h => h) ⟨Or.inl ⟨by rfl, ?hyq5⟩, fun _ => rfl⟩ ?restq5
  case hyq5 => (intro w; go_simp; first | done | (with_reducible rfl))
  try simp only [Act.put, qa, qb, qc, qd, qe, qf]
  refine wpAnyIn_ready (rs := [4, 5]) (by kernel_rfl) (by simp) ?_
  refine AllReadyIn.cons rfl (fun K0 hK0 => ?_) ?_
  ·go_simp
   refine hK0 _ _ ?_
   clear hK0 K0
   try simp only [Act.put, qa, qb, qc, qd, qe, qf]
   refine wpAnyIn_ready (rs := [5]) (by kernel_rfl) (by simp) ?_
   refine AllReadyIn.cons rfl (fun K0 hK0 => ?_) ?_
   ·go_simp
    refine hK0 _ _ ?_
    clear hK0 K0
    try simp only [Act.put, qa, qb, qc, qd, qe, qf]
    exact tail
   exact AllReadyIn.nil
  refine AllReadyIn.cons rfl (fun K0 hK0 => ?_) ?_
  ·go_simp
   refine hK0 _ _ ?_
   clear hK0 K0
   try simp only [Act.put, qa, qb, qc, qd, qe, qf]
   refine wpAnyIn_ready (rs := [4]) (by kernel_rfl) (by simp) ?_
   refine AllReadyIn.cons rfl (fun K0 hK0 => ?_) ?_
   ·go_simp
    refine hK0 _ _ ?_
    clear hK0 K0
    try simp only [Act.put, qa, qb, qc, qd, qe, qf]
    exact tail
   exact AllReadyIn.nil
  exact AllReadyIn.nil
 refine AllReadyIn.cons rfl (fun K0 hK0 => ?_) ?_
 ·go_simp
  refine hK0 _ _ ?_
  clear hK0 K0
  try simp only [Act.put, qa, qb, qc, qd, qe, qf]
  refine wpAnyIn_ready (rs := [1]) (by kernel_rfl) (by simp) ?_
  refine AllReadyIn.cons rfl (fun K0 hK0 => ?_) ?_
  ·go_simp
   refine hK0 _ _ ?_
   clear hK0 K0
   try simp only [Act.put, qa, qb, qc, qd, qe, qf]
   refine wpAnyIn_take (i := 2) (v := ?vq2) hro rfl (by kernel_rfl) (by kernel_rfl) (by kernel_rfl) (fun _ _ _ h => h) ⟨Or.inl ⟨by rfl, ?hyq2⟩, fun _ => rfl⟩ ?restq2
   case hyq2 => (intro w; go_simp; first | done | (with_reducible rfl))
   try simp only [Act.put, qa, qb, qc, qd, qe, qf]
   refine wpAnyIn_take (i := 3) (v := ?vq3) hro rfl (by kernel_rfl) (by kernel_rfl) (by kernel_rfl) (fun _ _ _ h => h) ⟨Or.inl ⟨by rfl, ?hyq3⟩, fun _ => rfl⟩ ?restq3
   case hyq3 => (intro w; go_simp; first | done | (with_reducible rfl))
   try simp only [Act.put, qa, qb, qc, qd, qe, qf]
   refine wpAnyIn_ready (rs := [4]) (by kernel_rfl) (by simp) ?_
   refine AllReadyIn.cons rfl (fun K0 hK0 => ?_) ?_
   ·go_simp
    refine hK0 _ _ ?_
    clear hK0 K0
    try simp only [Act.put, qa, qb, qc, qd, qe, qf]
    exact tail
   exact AllReadyIn.nil
  exact AllReadyIn.nil
 exact AllReadyIn.nil
 refine wpAnyIn_take (i := 6) (v := ?v6) hro rfl (by kernel_rfl) (by kernel_rfl) (by kernel_rfl) (fun _ _ _ h => h) ⟨Or.inl ⟨by rfl, ?hy6⟩, fun _ => rfl⟩ ?rest6
 case hy6 => (intro w; go_simp; first | done | (with_reducible rfl))
 try simp only [Act.put, qa, qb, qc, qd, qe, qf]
 refine wpAnyIn_ready (rs := [7]) (by kernel_rfl) (by simp) ?_
 refine AllReadyIn.cons rfl (fun K0 hK0 => ?_) AllReadyIn.nil
 refine stepIn_load_mid rfl 79 (.tmp 12) rfl Q (p * 128) rfl (pg.map bv) _ hrange Tryz.underlying79 rfl (by rw [List.length_map, hl128]; exact info_arr) ?_
 refine hK0 _ _ ?_
 clear hK0 K0
 try simp only [Act.put, qa, qb, qc, qd, qe, qf]
 refine wpAnyIn_ready (rs := [8]) (by kernel_rfl) (by simp) ?_
 refine AllReadyIn.cons rfl (fun K0 hK0 => ?_) AllReadyIn.nil
 go_simp
 refine hR.mono ?_
 rintro e W3 (⟨rfl, hJ3, hk3⟩ | ⟨rfl, hJx3⟩)
 rotate_left
 ·refine hK0 _ _ ?_
  clear hK0 K0
  try simp only [Act.put, qa, qb, qc, qd, qe, qf]
  refine wpAnyIn_ready (rs := [9]) (by kernel_rfl) (by simp) ?_
  refine AllReadyIn.cons rfl (fun K0 hK0 => ?_) AllReadyIn.nil
  go_simp
  refine hK0 _ _ ?_
  clear hK0 K0
  try simp only [Act.put, qa, qb, qc, qd, qe, qf]
  refine wpAnyIn_done (by kernel_rfl) ?_ _
  gi_wp2_with fail
  refine bodyPost_ret (results_none rfl _ _ _) rfl ?_
  exact ⟨⟨_, rfl⟩, .inr ⟨_, trivial, hJx3⟩⟩
 refine hK0 _ _ ?_
 clear hK0 K0
 try simp only [Act.put, qa, qb, qc, qd, qe, qf]
 refine wpAnyIn_ready (rs := [9]) (by kernel_rfl) (by simp) ?_
 refine AllReadyIn.cons rfl (fun K0 hK0 => ?_) AllReadyIn.nil
 go_simp
 refine hK0 _ _ ?_
 clear hK0 K0
 try simp only [Act.put, qa, qb, qc, qd, qe, qf]
 refine wpAnyIn_done (by kernel_rfl) ?_ _
 have hk0 : Hole B L W W3 := (Hole.below ((Below.refl B W).drew)).trans hk3
 have HD3 := hide (hk0.dk HD.out hB)
 have HK0 := hide hk0
 obtain ⟨c0', c1', c2', c3', f0', f1', f2', f3'⟩ := HD3.out.cells
 have hb1' := hk0.cell hb1.1 hb1.2 hc1
 have hb2' := hk0.cell hb2.1 hb2.2 hc2
 have hc2o := hide hc2
 clear hk0 hk3 c0 c1 c2 c3 f0 f1 f2 f3 hc1 hc2 hrange hR hy
 gi_wp2_with fail
 gi_loopw [21] (fun vi wr => ∃ (i : Nat) (pre : List Pg), vi = .int .i64 i ∧ i ≤ D.pend.length ∧ pre.map (·.1) = histTo D p i ∧ J pre wr ∧ Hole B L W wr) (fun vi _ => D.pend.length - (intOf vi).toNat)
 case atStart => exact ⟨0, _, rfl, Nat.zero_le _, by simp [histTo, HPG.out], hJ3, HK0.out⟩
 case round =>
  obtain ⟨i, pre, rfl, hi, hpre, hJr, hkr⟩ := hrel
  have HDR := hide (hkr.dk HD.out hB)
  have HKR := hide hkr
  have HPRE := hide hpre
  have hb2r := hkr.cell hb2.1 hb2.2 hc2o.out
  clear c0' c1' c2' c3' f0' f1' f2' f3' hb1' hb2' hkr hpre
  by_cases hlt : i < D.pend.length
  ·obtain ⟨Q2, cap2, e1, hcap2, hrange2, hQ2, hQF2⟩ := pend_range HDR.out i hlt
   obtain ⟨rfl, rfl⟩ : PA = some ⟨Q2, 0, none⟩ ∧ pc = cap2 := by injection e1 with e1 e2 e3; exact ⟨e1, e3⟩
   clear e1
   have hok := HD.out.ok.pend (D.pend[i]) (List.getElem_mem _)
   have HYES := hide (histTo_yes D p i hlt)
   have HNO := hide (histTo_no D p i hlt)
   generalize hx : D.pend[i] = x at *
   obtain ⟨q, data⟩ := x
   have HRG : Hid (wr.rangeAt Q2 (i * 129) (wcells (q, data))) := hide hrange2
   have HW129 := hide (wcells_len q data hok.2)
   have HR71 : Hid ((Tryz.prog.info? 81).map (·.size) = some (wcells (q, data)).length) := hide (by rw [size_write, HW129.out])
   have HOK := hide hok
   have hal := zero_write
   clear hrange2 hx hok
   obtain ⟨w1, hw1⟩ : ∃ w1, w1 = wr.alloc (.cells (wcells (q, data)).toArray 81) := ⟨_, rfl⟩
   have HST2 : Hid ((wr.alloc (.cells zw 81)).setCells wr.heap.size 0 (wcells (q, data)).toArray.toList = w1) := hide (by rw [hw1]; exact setCells_new wr (wcells (q, data)) HW129.out (hone_wcells q data))
   have HTH : Hid ((wr.alloc (.cells zw 81)).there wr.heap.size 0 (wcells (q, data)).toArray.size) := hide (there_new wr (by simpa using HW129.out))
   have HBX : Hid (Blk w1 wr.heap.size 81 (wcells (q, data)).toArray) := hide (by rw [hw1]; exact Blk.new wr _ _)
   have hbz : w1.cell? ⟨wr.heap.size, 0, none⟩ = some (.int .i64 q) := HBX.out.cell 0
   have hbp : w1.cell? ⟨b2, 0, none⟩ = some (.int .i64 p) := by
    rw [hw1]; exact (((Below.refl wr.heap.size wr).alloc (Nat.le_refl _) _).cell (p := ⟨b2, 0, none⟩) (by have := HKR.out.size; show b2 < _; omega)).trans hb2r
   have HJ1 : Hid (J pre w1) := hide (by rw [hw1]; exact hJ pre wr _ none hJr (World.grownBy_alloc wr _ none) (by simp))
   have HK1 : Hid (Hole B L W w1) := hide (by rw [hw1]; exact HKR.out.trans (Hole.below ((Below.refl B wr).alloc (Nat.le_trans hBW HKR.out.size) _)))
   have HRD : Hid (w1.rangeAt wr.heap.size 1 (data.map bv)) := hide (fun j u hj => by
    rw [HBX.out.cell, Nat.add_comm 1 j]
    simpa [wcells] using hj)
   clear hw1
   by_cases hqp : q = p
   ·subst hqp
    have HY2 : Hid (histTo D q (i + 1) = histTo D q i ++ [data]) := hide (HYES.out rfl)
    have hlen : pre.length < (hist D q).length := by
     have e := histTo_le D q (i + 1)
     rw [HY2.out, List.length_append, ← HPRE.out] at e
     simp at e
     omega
    obtain ⟨fn, tmps, assign, body, hy, hR⟩ := HY.out pre ⟨data, HOK.out.2⟩ w1 HJ1.out hlen
    dsimp only [pgv] at hy
    gi_wp2_with (first
     | (refine wpListIn_load_mid rfl 81 (.tmp 23) rfl Q2 (i * 129) rfl (wcells (q, data)) _ HRG.out Tryz.underlying81 rfl HR71.out ?_)
     | (refine wpListIn_load_mid (by first | rfl | (simp [Region.wanted, yielded, go_sem]; done)) 79 (.tmp 31) rfl wr.heap.size 1 rfl (data.map bv) _ HRD.out Tryz.underlying79 rfl (by rw [List.length_map, HOK.out.2]; exact info_arr) ?_)
     | (refine wpListIn_store_mid rfl 81 (.tmp 5) (.tmp 24) rfl wr.heap.size 0 (wcells (q, data)).toArray rfl rfl HTH.out (by simpa using HR71.out) (all_oneCell_toArray (hone_wcells q data)) ?_; rw [HST2.out]))
    clear hal
    refine hR.mono ?_
    rintro e W4 (⟨rfl, hJ4, hk4⟩ | ⟨rfl, hJx4⟩)
    ·clear hy hR hbz hbp
     gi_wp2_with fail
     go_roundw
     case rel => exact ⟨i + 1, _, by go_num, hlt, by rw [List.map_append, HPRE.out, HY2.out]; rfl, hJ4, HK1.out.trans hk4⟩
     case measure => simp [intOf]; omega
    ·clear hy hR hbz hbp
     gi_wp2_with fail
     refine bodyPost_ret (results_none rfl _ _ _) rfl ?_
     exact ⟨⟨_, rfl⟩, .inr ⟨_, trivial, hJx4⟩⟩
   ·have hqz : ¬ (q : Int) = (p : Int) := by omega
    gi_wp2_with (first
     | (refine wpListIn_load_mid rfl 81 (.tmp 23) rfl Q2 (i * 129) rfl (wcells (q, data)) _ HRG.out Tryz.underlying81 rfl HR71.out ?_)
     | (refine wpListIn_store_mid rfl 81 (.tmp 5) (.tmp 24) rfl wr.heap.size 0 (wcells (q, data)).toArray rfl rfl HTH.out (by simpa using HR71.out) (all_oneCell_toArray (hone_wcells q data)) ?_; rw [HST2.out]))
    refine ⟨fun _ h => (by cases h), ?_⟩
    gi_wp2_with fail
    go_roundw
    case rel => exact ⟨i + 1, _, by go_num, hlt, by rw [HPRE.out, HNO.out hqp], HJ1.out, HK1.out⟩
    case measure => simp [intOf]; omega
  ·obtain rfl : i = D.pend.length := by omega
   gi_wp2_with fail
   go_end0
   exact ⟨⟨_, rfl⟩, .inl ⟨pre, by rw [HPRE.out]; exact histTo_all D p, hJr⟩⟩
end
section
open Go.ChangeShapes Go.WideShapes Go.ChangeAt Go.RowKit
attribute [local go_sem] Oper.semAt_some
theorem contents_in (F : Fence) (n : Nat) (hF : F.fn 68) (hro : F.round = none) (d p : Nat) (w : World) :
 CallsIn F n Tryz.prog 68 #[.pointer (some ⟨d, 0, none⟩), .int .i64 p] w fun e w' => e = .returned (.func (.func 89) #[] #[.pointer (some ⟨w.heap.size, 0, none⟩), .pointer (some ⟨w.heap.size + 1, 0, none⟩)]) ∧
  w' = (w.alloc (.cells #[.pointer (some ⟨d, 0, none⟩)] 26)).alloc (.cells #[.int .i64 p] 3) := by
 have hmf : ∀ (fn : Fn) (first cap : Array Value) (w : World), (Instr.makeFunc fn first cap).run Tryz.prog w = .ok (.func fn first cap) w := fun _ _ _ _ => rfl
 refine callsIn_of_wp Tryz.func68 rfl hF ?_ hro
 simp only [Tryz.ntmps68, List.size_toArray, List.length_cons, List.length_nil, Nat.reduceAdd, Nat.reduceSub, Array.replicate_succ, Array.replicate_zero, List.push_toArray, List.append_toArray, List.nil_append, List.cons_append]
 gi_wp2_with fail
 go_ret
 exact ⟨rfl, rfl⟩
@[irreducible] def zpg : Array Value := Array.replicate 128 (.int .u8 0)
theorem zpg_size : zpg.size = 128 := by unfold zpg; simp
theorem zero_page (w : World) : (zeroValue 79).run Tryz.prog w = .ok (.agg zpg) w := by unfold zpg; kernel_rfl
theorem hone_page (l : List UInt8) : ∀ v ∈ l.map bv, v.oneCell' = true := fun v hv => by obtain ⟨x, _, rfl⟩ := List.mem_map.1 hv; exact bv_one x
theorem there_page (w : World) {n : Nat} (h : n = 128) : (w.alloc (.cells zpg 79)).there w.heap.size 0 n := by
 subst h
 intro j hj
 have hb := Blk.new w 79 zpg
 rw [Nat.zero_add, hb.cell j, hb.froz j]
 have := zpg_size
 exact ⟨by rw [Array.getElem?_eq_getElem (by omega)]; rfl, rfl⟩
theorem setPage_new (w : World) (cs : List Value) (h : cs.length = 128) (hone : ∀ v ∈ cs, v.oneCell' = true) : (w.alloc (.cells zpg 79)).setCells w.heap.size 0 cs.toArray.toList = w.alloc (.cells cs.toArray 79) := by
 have h1 : (cs.toArray).all (·.oneCell') = true := all_oneCell_toArray hone
 have hs : (Tryz.prog.info? 79).map (·.size) = some cs.toArray.size := by rw [info_arr]; simp [h]
 have a := run_storeVar_new (P := Tryz.prog) w 79 zpg cs.toArray hs (by rw [zpg_size]; simp [h]) h1
 have b := run_storeVar_mid (P := Tryz.prog) (w.alloc (.cells zpg 79)) w.heap.size 0 79 cs.toArray (there_page w (by simpa using h)) hs h1
 rw [a] at b
 injection b with _ b
 exact b.symm
theorem Hole.setCells {B L : Nat} {a w : World} (h : Hole B L a w) (o : Nat) (vs : List Value) (hB : B ≤ a.heap.size) : Hole B L a (w.setCells L o vs) := by
 have h0 := Lib.below_setCells_w (B := 0) (g := L) (Nat.zero_le _) vs o w
 exact h.trans ⟨h0.os, h0.tape, h0.output, h0.size, fun k hk hne => World.heap_setCells_other w L o vs (by have := h.size; omega) hne⟩
theorem keeps_setCells {B L : Nat} (w : World) (o : Nat) (vs : List Value) (hL : L < B) : KeepsFrom B w (w.setCells L o vs) := by
 have h0 := Lib.below_setCells_w (B := 0) (g := L) (Nat.zero_le _) vs o w
 exact ⟨h0.size, fun k ob hk h _ => (World.heap_setCells_other w L o vs (Array.getElem?_eq_some_iff.1 h).1 (by omega)).trans h⟩
/-- What the variable last holds. -/
def lastc (pre : List Pg) : List Value := (pre.getLast?.map (fun x => x.1.map bv)).getD zpg.toList
theorem lastc_snoc (pre : List Pg) (x : Pg) : lastc (pre ++ [x]) = x.1.map bv := by unfold lastc; simp
theorem lastc_len (pre : List Pg) : (lastc pre).length = 128 := by
 unfold lastc
 cases h : pre.getLast? with
 | none => simp [zpg_size]
 | some x => simpa using x.2
theorem lastc_all (D : DS) (p : Nat) (xs : List Pg) (h : xs.map (·.1) = hist D p) : lastc xs = (content D p).map bv := by
 have hne : xs ≠ [] := by intro e; subst e; simp [hist] at h
 have h2 : (xs.map (·.1)).getLast? = (hist D p).getLast? := by rw [h]
 unfold lastc content
 rw [← h2, List.getLast?_map]
 cases hx : xs.getLast? with
 | none => exact absurd (List.getLast?_eq_none_iff.1 hx) hne
 | some x => rfl
/-- What Read's loop keeps. -/
def RdI (W0 : World) (L : Nat) (pre : List Pg) (W : World) : Prop := (W.rangeAt L 0 (lastc pre) ∧ W.there L 0 128) ∧ Hole (L + 3) L W0 W
theorem rdI_own {W0 : World} {L : Nat} (hsz : W0.heap.size = L + 3) : OwnFrom W0.heap.size (RdI W0 L) := by
 rintro pre W W' row ⟨⟨h1, h2⟩, h3⟩ hg hr
 have hb : W'.heap[L]? = W.heap[L]? := hg.block L (by have := h3.size; omega) (fun e => by have := (hr _ e.symm).1; omega)
 refine ⟨⟨fun j u hj => (World.cell?_of_block hb).trans (h1 j u hj), fun j hj => ?_⟩, h3.trans ⟨hg.os, hg.tape, hg.output, hg.size, fun k hk _ => hg.block k (by have := h3.size; omega) (fun e => by have := (hr _ e.symm).1; omega)⟩⟩
 have e1 : W'.cell? ⟨L, 0 + j, none⟩ = W.cell? ⟨L, 0 + j, none⟩ := World.cell?_of_block hb
 have e2 : W'.frozen? ⟨L, 0 + j, none⟩ = W.frozen? ⟨L, 0 + j, none⟩ := by simp [World.frozen?, hb]
 rw [e1, e2]; exact h2 j hj
theorem run_whole (b : Nat) (w : World) : (Instr.sliceAt 79 (.pointer (some ⟨b, 0, none⟩)) none none none).run Tryz.prog w = .ok (.slice (some ⟨b, 0, none⟩) 128 128) w := by
 kernel_rfl
/-- What Read hands back: a new slice. -/
def ReadR (w : World) (D : DS) (p : Int) (e : Ending) (w' : World) : Prop :=
 ∃ v, e = .returned (.tuple #[v, .int .i64 (dRead D p).2]) ∧ Bs w' v (dRead D p).1 ∧ (∀ j, v.ownBlock = some j → w.heap.size ≤ j) ∧ Below w.heap.size w w'
set_option maxHeartbeats 1000000 in
theorem read_failed (d : Nat) (F : List Nat) (D : DS) (p : Int) (w : World) (h : Disk w d F D) (hf : D.failed = true) :
 Calls Tryz.prog 34 #[.pointer (some ⟨d, 0, none⟩), .int .i64 p] w (ReadR w D p) := by
 obtain ⟨gv, pv, h⟩ := h
 obtain ⟨c0, c1, c2, c3, f0, f1, f2, f3⟩ := h.cells
 have hr : dRead D p = ([], 10) := by unfold dRead; rw [if_pos hf]
 rw [hf] at c3
 have HR := hide hr
 clear h hf hr
 go_enter Tryz.func34, Tryz.ntmps34
 go_wp2_with fail
 go_ret2
 exact ⟨.slice none 0 0, by rw [HR.out]; rfl, by rw [HR.out]; exact Bs.nil _, (fun j hj => by cases hj), Below.refl _ _⟩
set_option maxHeartbeats 1000000 in
theorem read_out (d : Nat) (F : List Nat) (D : DS) (p : Int) (w : World) (h : Disk w d F D) (hf : D.failed = false) (hp : thereB D p = false) :
 Calls Tryz.prog 34 #[.pointer (some ⟨d, 0, none⟩), .int .i64 p] w (ReadR w D p) := by
 have hth := there_c d F D p w h
 obtain ⟨gv, pv, h⟩ := h
 obtain ⟨c0, c1, c2, c3, f0, f1, f2, f3⟩ := h.cells
 have hr : dRead D p = ([], 2) := by unfold dRead; rw [if_neg (by simp [hf]), if_neg (by simp [hp])]
 rw [hf] at c3
 rw [hp] at hth
 have HR := hide hr
 clear h hf hr hp
 go_enter Tryz.func34, Tryz.ntmps34
 go_wp2_with fail
 refine hth.mono ?_
 rintro e w1 ⟨rfl, rfl⟩
 clear hth
 go_wp2_with fail
 go_ret2
 exact ⟨.slice none 0 0, by rw [HR.out]; rfl, by rw [HR.out]; exact Bs.nil _, (fun j hj => by cases hj), Below.refl _ _⟩
set_option maxRecDepth 100000 in
set_option maxHeartbeats 4000000 in
theorem read_ok (d : Nat) (F : List Nat) (D : DS) (p : Nat) (w : World) (h : Disk w d F D) (hf : D.failed = false) (hp : p < D.pages.length) :
 Calls Tryz.prog 34 #[.pointer (some ⟨d, 0, none⟩), .int .i64 p] w (ReadR w D p) := by
 have hrd : dRead D p = (content D p, 0) := by unfold dRead; rw [if_neg (by simp [hf]), if_pos (by simp [thereB]; omega)]; rfl
 have hlt : ∀ j ∈ F, j < w.heap.size := by obtain ⟨gv, pv, h⟩ := h; exact h.lt
 have H := hide h
 obtain ⟨gv, pv, hdk⟩ := h
 obtain ⟨c0, c1, c2, c3, f0, f1, f2, f3⟩ := hdk.cells
 rw [hf] at c3
 have HRD := hide hrd
 clear hdk hrd hf
 have hz := zero_page
 have htb : thereB D p = true := by simp [thereB]; omega
 refine (callsIn_wide (n := 3)).1 ?_
 refine callsIn_of_wp_marks Tryz.func34 rfl trivial ?_ rfl
 simp only [Tryz.ntmps34, List.size_toArray, List.length_cons, List.length_nil, Nat.reduceAdd, Nat.reduceSub, Array.replicate_succ, Array.replicate_zero, List.push_toArray, List.append_toArray, List.nil_append, List.cons_append]
 have hth := there_c d F D p w H.out
 rw [htb] at hth
 gi_wp2_with fail
 refine ⟨trivial, ?_⟩
 refine (callsIn_wide.2 hth).mono ?_
 rintro e w' ⟨rfl, rfl⟩
 clear hth
 gi_wp2_with fail
 refine ⟨trivial, ?_⟩
 refine (contents_in Fence.wide _ trivial rfl d p _).mono ?_
 rintro e w' ⟨rfl, rfl⟩
 gi_wp2_with fail
 obtain ⟨W0, hW0⟩ : ∃ W0, W0 = ((w.alloc (.cells zpg 79)).alloc (Obj.cells #[.pointer (some ⟨d, 0, none⟩)] 26)).alloc (Obj.cells #[.int .i64 (p : Int)] 3) := ⟨_, rfl⟩
 have hsz : W0.heap.size = w.heap.size + 3 := by rw [hW0]; simp
 have kw0 : Below w.heap.size w W0 := by rw [hW0]; exact (((Below.refl _ w).alloc (Nat.le_refl _) _).alloc (by simp) _).alloc (by simp; omega) _
 have hb1 : W0.cell? ⟨w.heap.size + 1, 0, none⟩ = some (.pointer (some ⟨d, 0, none⟩)) := by rw [hW0]; simp [go_sem]
 have hb2 : W0.cell? ⟨w.heap.size + 1 + 1, 0, none⟩ = some (.int .i64 (p : Int)) := by rw [hW0]; simp [go_sem]
 have hblk : Blk W0 w.heap.size 79 zpg := by
  rw [hW0]; exact (Blk.new w 79 zpg).touch (S := []) (((Touch.refl [] _).alloc _).alloc _) (by simp)
 have hL0 : W0.rangeAt w.heap.size 0 (lastc []) := fun j u hj => by
  rw [Nat.zero_add, hblk.cell]
  simpa [lastc] using hj
 have hT0 : W0.there w.heap.size 0 128 := fun j hj => by
  rw [Nat.zero_add, hblk.cell j, hblk.froz j]
  have := zpg_size
  exact ⟨by rw [Array.getElem?_eq_getElem (by omega)]; rfl, rfl⟩
 rw [← hW0]
 have hd0 := H.out.step kw0
 clear hW0 hblk c0 c1 c2 c3 f0 f1 f2 f3
 refine wpIn_rangeFunc_ownH (w0 := W0) rfl (by omega) (gf := 89) (lb := #[.pointer (some ⟨w.heap.size + 1, 0, none⟩), .pointer (some ⟨w.heap.size + 1 + 1, 0, none⟩)]) rfl trivial (enters_of Tryz.func89 (by kernel_rfl) rfl)
  (encs := fun x : Pg => #[pgv x.1]) (Kp := Hole (w.heap.size + 3) w.heap.size) (S := fun xs => xs.map (·.1) = hist D p) (Sp := fun _ => True) (N := (hist D p).length)
  (fun l J Jx W hW hJ hJx hY h0 => cont1_in Fence.wide _ trivial rfl (by omega) l (w.heap.size + 1) (w.heap.size + 1 + 1) (w.heap.size + 3) w.heap.size d F D p hp J Jx W (hd0.step hW) (fun j hj => by have := hlt j hj; omega) (by omega) (by omega) (by have := hW.size; omega)
   ((hW.cell (p := ⟨w.heap.size + 1, 0, none⟩) (by show w.heap.size + 1 < _; omega)).trans hb1) ((hW.cell (p := ⟨w.heap.size + 1 + 1, 0, none⟩) (by show w.heap.size + 1 + 1 < _; omega)).trans hb2) hJ hY h0)
  Hole.t (fun W l o o' hl h1 h2 h3 => Hole.b (w := W0) (by omega) W l o o' hl h1 h2 h3) (Below.refl _ _) (fun _ => rfl)
  (RdI W0 w.heap.size)
  (fun _ _ _ => False) (rdI_own hsz) (fun _ _ _ _ _ hs _ _ => hs) ⟨⟨hL0, hT0⟩, Hole.refl _ _ _⟩
  (fun x a' W => ∃ Bx, w.heap.size + 3 ≤ Bx ∧ Blk W Bx 79 (x.1.map bv).toArray ∧ a' = {
   tmps := #[.pointer (some ⟨d, 0, none⟩), .int .i64 p, undef, undef, .slice none 0 0, .int .i64 0, .pointer (some ⟨w.heap.size, 0, none⟩), .pointer (some ⟨Bx, 0, none⟩), .bool false,
    .pointer (some ⟨d, 0, none⟩), .pointer (some ⟨d, 0, none⟩), .pointer (some ⟨d, 3, none⟩), .bool false, .bool false, .pointer (some ⟨d, 0, none⟩), .int .i64 p, .bool true, .bool false, .pointer (some ⟨d, 0, none⟩), .int .i64 p,
    .func (.func 89) #[] #[.pointer (some ⟨w.heap.size + 1, 0, none⟩), .pointer (some ⟨w.heap.size + 1 + 1, 0, none⟩)], pgv x.1, undef, undef], defers := [] })
  ?hAx ?assign ?body ?done ?stop
 case hAx =>
  rintro x a' s W W' row ⟨Bx, hx, hblk, ha⟩ hg hr
  refine ⟨Bx, hx, (hg.block Bx hblk.lt (fun e => ?_)).trans hblk, ha⟩
  obtain ⟨o, ho, hc⟩ := (hr _ e.symm).2
  rw [hblk] at ho
  cases ho
  cases hc
 case assign =>
  rintro l pre x W K ⟨⟨h1, h2⟩, h3⟩ hK
  have HST : Hid ((W.alloc (.cells zpg 79)).setCells W.heap.size 0 (x.1.map bv).toArray.toList = W.alloc (.cells (x.1.map bv).toArray 79)) := hide (setPage_new W (x.1.map bv) (by rw [List.length_map, x.2]) (hone_page x.1))
  have HTH : Hid ((W.alloc (.cells zpg 79)).there W.heap.size 0 (x.1.map bv).toArray.size) := hide (there_page W (by simp [x.2]))
  have HK := hide hK
  have HSZ := hide h3.size
  unfold pgv
  gi_wp2_with (refine wpListIn_store_mid rfl 79 (.tmp 7) (.tmp 21) rfl W.heap.size 0 (x.1.map bv).toArray rfl rfl HTH.out (by rw [info_arr]; simp [x.2]) (all_oneCell_toArray (hone_page x.1)) ?_; rw [HST.out])
  have hI : RdI W0 w.heap.size pre W := ⟨⟨h1, h2⟩, h3⟩
  exact HK.out _ _ ((KeepsOthers.alloc _ _).from _) (Hole.below ((Below.refl _ W).alloc (by have := HSZ.out; omega) _)) ((rdI_own hsz).alloc _ hI) ⟨W.heap.size, by have := HSZ.out; omega, Blk.new W _ _, rfl⟩
 case body =>
  rintro l pre x a' W hl ⟨r, hr⟩ ⟨⟨h1, h2⟩, h3⟩ ⟨Bx, hBx, hblk, rfl⟩ hlen
  have HRB : Hid (W.rangeAt Bx 0 (x.1.map bv)) := hide (fun j u hj => by rw [Nat.zero_add, hblk.cell]; simpa using hj)
  have HTH : Hid (W.there w.heap.size 0 (x.1.map bv).toArray.size) := hide (by simpa [x.2] using h2)
  have HI := hide h3
  have H2 := hide h2
  clear hr h1 h2 h3 hblk
  gi_wp2_with (first
   | (refine wpListIn_load_mid rfl 79 (.tmp 7) rfl Bx 0 rfl (x.1.map bv) _ HRB.out Tryz.underlying79 rfl (by rw [List.length_map, x.2]; exact info_arr) ?_)
   | (refine wpListIn_store_mid rfl 79 (.tmp 6) (.tmp 22) rfl w.heap.size 0 (x.1.map bv).toArray rfl rfl HTH.out (by rw [info_arr]; simp [x.2]) (all_oneCell_toArray (hone_page x.1)) ?_))
  have hW0W := HI.out.size
  refine ⟨keeps_setCells W 0 _ (by omega), (Hole.refl _ _ W).setCells 0 _ (by omega), ⟨?_, World.there_setCells H2.out _ _ _⟩, HI.out.trans ((Hole.refl _ _ W).setCells 0 _ (by omega))⟩
  rw [lastc_snoc]
  exact World.rangeAt_setCells_same W w.heap.size 0 (x.1.map bv).toArray.toList (by simpa using HTH.out)
 case done =>
  rintro D0 xs W hD hS ⟨⟨h1, h2⟩, h3⟩ hK
  have hsl := run_whole w.heap.size
  have H1 := hide h1
  have H3 := hide h3
  have HS := hide hS
  clear h1 h2 h3 hS
  gi_wp2_with fail
  refine ⟨by simp, .inl ⟨_, _, rfl, run_takeDeferred hK, ?_⟩⟩
  refine ⟨_, results_tmp2 rfl _ _ _, .slice (some ⟨w.heap.size, 0, none⟩) 128 128, ?_, ?_, ?_, ?_⟩
  ·rw [HRD.out]; rfl
  ·rw [HRD.out]
   have hl : (content D p).length = 128 := by
    have := lastc_len xs
    rw [lastc_all D p xs HS.out, List.length_map] at this; exact this
   refine ⟨some ⟨w.heap.size, 0, none⟩, 128, by rw [hl], by rw [hl]; exact Nat.le_refl _, by unfold maxLen; omega, fun _ => ⟨w.heap.size, 0, rfl, ?_, fun j hj => ?_⟩⟩
   ·have := H3.out.size
    have := (grownBy_putObj' W D0 (.deferred none)).size
    omega
   ·have e : (W.putObj D0 (.deferred none)).cell? ⟨w.heap.size, 0 + j, none⟩ = W.cell? ⟨w.heap.size, 0 + j, none⟩ := World.cell?_of_block ((grownBy_putObj' W D0 _).block w.heap.size (by have := H3.out.size; omega) (by intro e; injection e with e; omega))
    refine e.trans (H1.out j _ ?_)
    rw [lastc_all D p xs HS.out, List.getElem?_map, List.getElem?_eq_getElem hj]; rfl
  ·intro j hj
   have e : w.heap.size = j := by injection hj
   omega
  ·have k1 : Below w.heap.size w W := kw0.trans ⟨H3.out.os, H3.out.tape, H3.out.output, H3.out.size, fun k hk => H3.out.block k (by omega) (by omega)⟩
   exact k1.grown (grownBy_putObj' W D0 _) k1.size (fun k e => by cases e; omega)
 case stop =>
  rintro D0 c pre W hD _ h hK
  exact h.elim
theorem read_c (d : Nat) (F : List Nat) (D : DS) (p : Int) (w : World) (h : Disk w d F D) :
 Calls Tryz.prog 34 #[.pointer (some ⟨d, 0, none⟩), .int .i64 p] w (ReadR w D p) := by
 cases hf : D.failed with
 | true => exact read_failed d F D p w h hf
 | false =>
  cases ht : thereB D p with
  | false => exact read_out d F D p w h hf ht
  | true =>
   obtain ⟨h0, h1⟩ := (thereB_iff D p).1 ht
   obtain ⟨q, rfl⟩ : ∃ q : Nat, p = q := ⟨p.toNat, by omega⟩
   exact read_ok d F D q w h hf (by omega)
end
end Go.Proofs.YtpadgkkeihhneaaGreat
