/- Variables that hold a whole struct: one is laid, one is built; the world behind goes by a name. -/
import Derived.Test.YtpadgkkeihhneaaGreatC01
import Derived.Test.YtpadgkkeihhneaaGreatC02
import Derived.Great.Walk
import Derived.Great.BuildSlice
namespace Go.Proofs.YtpadgkkeihhneaaGreat
set_option maxRecDepth 100000
set_option linter.unusedSimpArgs false
set_option linter.unusedVariables false
section
open Go.ChangeShapes Go.WideShapes Go.ChangeAt Go.RowKit
theorem wpList_build {P : Program} {w : World} {ops : Array Oper} {rest : List Oper} {o : Oper} {a : Act} {Q : Exit → Act → World → Prop} (hgd : o.guard = none) (t : TypeId) (parts : Array (Nat × Operand)) (ho : o.op = .build t parts)
 (vs : List (Nat × Value)) (he : (parts.map fun (i, x) => (i, a.eval x)).toList = vs) (cells : Array Value) (hc : P.built t vs = some cells)
 (h : wpList P ops Q rest (a.put o.dst (.agg cells)) w) : wpList P ops Q (o :: rest) a w := wpList_plain hgd fun K hK => by
 unfold Oper.wp execOp
 subst he
 simp only [ho, Sem.run_bind, run_build w t _ cells hc, Result.andThen_ok]
 exact hK _ _ h
theorem run_alloc {P : Program} {w : World} {t : TypeId} {cs : Array Value} (hi : (P.info? t).map (·.zero) = some (some (.agg cs))) : (Instr.alloc t true (.tuple #[])).run P w = .ok (.pointer (some ⟨w.heap.size, 0, none⟩)) (w.alloc (.cells cs t)) := by
 obtain ⟨i, hi1, hi2⟩ := Option.map_eq_some_iff.mp hi
 simp [Instr.alloc, zeroValue, typeInfo, hi1, hi2, Value.cells, newVar, newRow, go_sem]
theorem wpList_alloc_blk {P : Program} {w : World} {ops : Array Oper} {rest : List Oper} {o : Oper} {a : Act} {Q : Exit → Act → World → Prop} (hgd : o.guard = none) (t : TypeId) (ho : o.op = .alloc t)
 (cs : Array Value) (hi : (P.info? t).map (·.zero) = some (some (.agg cs)))
 (h : ∀ w', Blk w' w.heap.size t cs → Below w.heap.size w w' → w'.heap.size = w.heap.size + 1 → wpList P ops Q rest (a.put o.dst (.pointer (some ⟨w.heap.size, 0, none⟩))) w') : wpList P ops Q (o :: rest) a w := wpList_plain hgd fun K hK => by
 unfold Oper.wp execOp
 simp only [ho, Sem.run_bind, run_alloc hi, Result.andThen_ok]
 exact hK _ _ (h _ (Blk.new w t cs) ((Below.refl _ _).alloc (Nat.le_refl _) _) (by simp))
theorem run_box {P : Program} {w : World} {t : TypeId} {cs : Array Value} : (Instr.box t (.agg cs)).run P w = .ok (.pointer (some ⟨w.heap.size, 0, none⟩)) (w.alloc (.cells cs t)) := by
 simp [Instr.box, Value.cells, newVar, newRow, go_sem]
theorem wpList_box_blk {P : Program} {w : World} {ops : Array Oper} {rest : List Oper} {o : Oper} {a : Act} {Q : Exit → Act → World → Prop} (hgd : o.guard = none) (t : TypeId) (x : Operand) (ho : o.op = .box t x)
 (cs : Array Value) (hx : a.eval x = .agg cs)
 (h : ∀ w', Blk w' w.heap.size t cs → Below w.heap.size w w' → w'.heap.size = w.heap.size + 1 → wpList P ops Q rest (a.put o.dst (.pointer (some ⟨w.heap.size, 0, none⟩))) w') : wpList P ops Q (o :: rest) a w := wpList_plain hgd fun K hK => by
 unfold Oper.wp execOp
 simp only [ho, hx, Sem.run_bind, run_box, Result.andThen_ok]
 exact hK _ _ (h _ (Blk.new w t cs) ((Below.refl _ _).alloc (Nat.le_refl _) _) (by simp))
end
section
open Go.ChangeShapes Go.WideShapes Go.ChangeAt Go.RowKit
/-- Since w0: the blocks of L hold just what L says, no two are one, all are new; of the old ones at most those of S have turned. -/
structure Own (w0 : World) (S : List Nat) (L : List (Nat × TypeId × List Value)) (W : World) : Prop where
 has : ∀ e ∈ L, Blk W e.1 e.2.1 e.2.2.toArray ∧ w0.heap.size ≤ e.1
 apart : (L.map (·.1)).Nodup
 touch : Touch S w0 W
 old : ∀ s ∈ S, s < w0.heap.size
section
variable {w0 W W' : World} {S : List Nat} {L : List (Nat × TypeId × List Value)}
theorem Own.nil (w0 : World) (S : List Nat) (h : ∀ s ∈ S, s < w0.heap.size) : Own w0 S [] w0 := ⟨by simp, by simp, Touch.refl _ _, h⟩
theorem Own.size (h : Own w0 S L W) : w0.heap.size ≤ W.heap.size := h.touch.size
theorem Own.blk (h : Own w0 S L W) (i : Nat) {b : Nat} {t : TypeId} {cs : List Value} (hi : L[i]? = some (b, t, cs)) : Blk W b t cs.toArray := (h.has _ (List.mem_of_getElem? hi)).1
theorem Own.new (h : Own w0 S L W) (i : Nat) {b : Nat} {t : TypeId} {cs : List Value} (hi : L[i]? = some (b, t, cs)) : w0.heap.size ≤ b := (h.has _ (List.mem_of_getElem? hi)).2
theorem Own.cells (h : Own w0 S L W) (i : Nat) {b : Nat} {t : TypeId} {cs : List Value} (hi : L[i]? = some (b, t, cs)) : ∀ j, W.cell? ⟨b, j, none⟩ = cs[j]? := fun j => by rw [(h.blk i hi).cell j, List.getElem?_toArray]
theorem Own.froz (h : Own w0 S L W) (i : Nat) {b : Nat} {t : TypeId} {cs : List Value} (hi : L[i]? = some (b, t, cs)) : ∀ j, W.frozen? ⟨b, j, none⟩ = false := fun j => (h.blk i hi).froz j
theorem Own.push (h : Own w0 S L W) {t : TypeId} {cs : List Value} (hx : Blk W' W.heap.size t cs.toArray) (hb : Below W.heap.size W W') : Own w0 S (L ++ [(W.heap.size, t, cs)]) W' := by
 refine ⟨fun e he => ?_, ?_, h.touch.step hb, h.old⟩
 ·rcases List.mem_append.1 he with he | he
  ·exact ⟨(h.has e he).1.step hb, (h.has e he).2⟩
  ·simp only [List.mem_singleton] at he; subst he; exact ⟨hx, h.size⟩
 ·rw [List.map_append, List.nodup_append]
  refine ⟨h.apart, by simp, ?_⟩
  intro a ha b hb' e
  simp only [List.map_cons, List.map_nil, List.mem_singleton] at hb'
  subst hb' e
  obtain ⟨e, he, e2⟩ := List.mem_map.1 ha
  have := (h.has e he).1.lt
  omega
theorem Own.put (h : Own w0 S L W) (i : Nat) {b : Nat} {t : TypeId} {cs new : List Value} (hi : L[i]? = some (b, t, cs)) (hx : Blk W' b t new.toArray) (ht : Touch [b] W W') : Own w0 S (L.set i (b, t, new)) W' := by
 have hm : (L.set i (b, t, new)).map (·.1) = L.map (·.1) := by
  rw [List.map_set]
  refine List.ext_getElem? fun j => ?_
  rw [List.getElem?_set]
  by_cases hj : i = j
  ·subst hj
   have hl := (List.getElem?_eq_some_iff.1 hi).1
   rw [if_pos rfl, if_pos (by simpa using hl), List.getElem?_map, hi]; rfl
  ·rw [if_neg hj]
 have hnew := h.new i hi
 refine ⟨fun e he => ?_, hm ▸ h.apart, h.touch.next ht (fun x hx' => by simp only [List.mem_singleton] at hx'; subst hx'; exact .inr hnew), h.old⟩
 obtain ⟨j, hj⟩ := List.getElem?_of_mem he
 rw [List.getElem?_set] at hj
 by_cases hij : i = j
 ·subst hij
  have hl := (List.getElem?_eq_some_iff.1 hi).1
  rw [if_pos rfl, if_pos hl] at hj
  injection hj with hj
  subst hj
  exact ⟨hx, hnew⟩
 ·rw [if_neg hij] at hj
  have hmem := List.mem_of_getElem? hj
  refine ⟨(h.has e hmem).1.touch ht ?_, (h.has e hmem).2⟩
  simp only [List.mem_singleton]
  intro e1
  have hnd := List.pairwise_iff_getElem.1 h.apart
  have hl1 := (List.getElem?_eq_some_iff.1 hi).1
  have hl2 := (List.getElem?_eq_some_iff.1 hj).1
  have q1 : (L.map (·.1))[i]'(by simpa using hl1) = b := by rw [List.getElem_map, (List.getElem?_eq_some_iff.1 hi).2]
  have q2 : (L.map (·.1))[j]'(by simpa using hl2) = b := by rw [List.getElem_map, (List.getElem?_eq_some_iff.1 hj).2]; exact e1
  rcases Nat.lt_or_gt_of_ne hij with h1 | h1
  ·exact hnd i j (by simpa using hl1) (by simpa using hl2) h1 (q1.trans q2.symm)
  ·exact hnd j i (by simpa using hl2) (by simpa using hl1) h1 (q2.trans q1.symm)
theorem Own.set (h : Own w0 S L W) (i : Nat) {b : Nat} {t : TypeId} {cs : List Value} (hi : L[i]? = some (b, t, cs)) (j : Nat) (v : Value) : Own w0 S (L.set i (b, t, cs.set j v)) (W.setCell ⟨b, j, none⟩ v) :=
 h.put i hi (by have := (h.blk i hi).put j v; rwa [List.setIfInBounds_toArray] at this) ((Touch.refl [b] W).set (by simp) j v)
theorem Own.drew (h : Own w0 S L W) : Own w0 S L W.drew := ⟨fun e he => ⟨(h.has e he).1.drew, (h.has e he).2⟩, h.apart, h.touch.drew, h.old⟩
theorem Own.step (h : Own w0 S L W) (hb : Below W.heap.size W W') : Own w0 S L W' := ⟨fun e he => ⟨(h.has e he).1.step hb, (h.has e he).2⟩, h.apart, h.touch.step hb, h.old⟩
theorem Own.call (h : Own w0 S L W) {T : List Nat} (ht : Touch T W W') (hT : ∀ s ∈ T, s ∈ S) : Own w0 S L W' :=
 ⟨fun e he => ⟨(h.has e he).1.touch ht (fun hm => by have := h.old _ (hT _ hm); have := (h.has e he).2; omega), (h.has e he).2⟩, h.apart, h.touch.next ht (fun t hm => .inl (hT t hm)), h.old⟩
theorem Own.below (h : Own w0 [] L W) : Below w0.heap.size w0 W := h.touch.to_below (by simp) (Nat.le_refl _)
theorem Own.alloc (h : Own w0 S L W) (o : Obj) : Own w0 S L (W.alloc o) := h.step ((Below.refl _ _).alloc (Nat.le_refl _) _)
end
theorem Blk.range {w : World} {g : Nat} {t : TypeId} {pre cs : List Value} (h : Blk w g t (pre ++ cs).toArray) : w.rangeAt g pre.length cs := fun j v hv => by
 rw [h.cell (pre.length + j), List.getElem?_toArray, List.getElem?_append_right (by omega)]
 simpa using hv
end
section
open Go.ChangeShapes Go.WideShapes Go.ChangeAt Go.RowKit
theorem storeVar_one {ty : TypeId} {a : Addr} {v : Value} (hv : v.oneCell' = true) : storeVar ty a v = storeVar ty a (.agg #[v]) := by
 cases v <;> first | rfl | (simp [Value.oneCell'] at hv)
/-- A value as the cells it is stored as. -/
def Fits (v : Value) (vs : List Value) : Prop := v = .agg vs.toArray ∨ (v.oneCell' = true ∧ vs = [v])
theorem fits_agg (vs : List Value) : Fits (.agg vs.toArray) vs := .inl rfl
theorem fits_one {v : Value} (h : v.oneCell' = true) : Fits v [v] := .inr ⟨h, rfl⟩
theorem run_store_own {P : Program} {w : World} {ty : TypeId} {g o : Nat} {t : TypeId} {old vs : List Value} {v : Value} (hv : Fits v vs) (hb : Blk w g t old.toArray) (hs : o + vs.length ≤ old.length)
 (hi : (P.info? ty).map (·.size) = some vs.length) (h1 : vs.all (·.oneCell') = true) : (Instr.storeAt ty (.pointer (some ⟨g, o, none⟩)) v).run P w = .ok () (w.setCells g o vs) := by
 have hth : w.there g o vs.toArray.size := fun j hj => by
  simp only [List.size_toArray] at hj
  rw [hb.cell (o + j), hb.froz (o + j)]
  exact ⟨by rw [List.getElem?_toArray, List.getElem?_eq_getElem (by omega)]; rfl, rfl⟩
 have h2 := run_storeAt_mid (P := P) w g o ty vs.toArray hth (by simpa using hi) (by simpa using h1)
 rcases hv with rfl | ⟨hv, rfl⟩
 ·exact h2
 ·simp only [Instr.storeAt, storeVar_one hv] at h2 ⊢
  exact h2
section
variable {P : Program} {w w0 : World} {S : List Nat} {L : List (Nat × TypeId × List Value)} {ops : Array Oper} {rest : List Oper} {op : Oper} {a : Act} {Q : Exit → Act → World → Prop}
theorem own_store (HO : Own w0 S L w) (i : Nat) {g o : Nat} {t : TypeId} {old vs new : List Value} (hL : L[i]? = some (g, t, old)) (hs : o + vs.length ≤ old.length) (hn : old.take o ++ vs ++ old.drop (o + vs.length) = new) : Own w0 S (L.set i (g, t, new)) (w.setCells g o vs) := by
 have h2 := Blk.setCells vs o w _ (HO.blk i hL) (by simpa using hs)
 subst hn
 exact HO.put i hL h2 (touch_setCells w g o _).1
theorem wpList_store_own (HO : Own w0 S L w) (hgd : op.guard = none) (ty : TypeId) (x y : Operand) (ho : op.op = .store ty x y) (i g o : Nat) (t : TypeId) (old vs new : List Value) (hL : L[i]? = some (g, t, old))
 (v : Value) (hx : a.eval x = .pointer (some ⟨g, o, none⟩)) (hy : a.eval y = v) (hv : Fits v vs) (hs : o + vs.length ≤ old.length) (hn : old.take o ++ vs ++ old.drop (o + vs.length) = new)
 (hi : (P.info? ty).map (·.size) = some vs.length) (h1 : vs.all (·.oneCell') = true)
 (h : ∀ w', Own w0 S (L.set i (g, t, new)) w' → wpList P ops Q rest (a.put op.dst undef) w') : wpList P ops Q (op :: rest) a w := wpList_plain hgd fun K hK => by
 unfold Oper.wp execOp
 simp only [ho, hx, hy, Sem.run_bind, run_store_own hv (HO.blk i hL) hs hi h1, Result.andThen_ok]
 exact hK _ _ (h _ (own_store HO i hL hs hn))
theorem step_store_own {K : Act → World → Prop} {E : Prop} (HO : Own w0 S L w) (hgd : op.guard = none) (ty : TypeId) (x y : Operand) (ho : op.op = .store ty x y) (i g o : Nat) (t : TypeId) (old vs new : List Value) (hL : L[i]? = some (g, t, old))
 (v : Value) (hx : a.eval x = .pointer (some ⟨g, o, none⟩)) (hy : a.eval y = v) (hv : Fits v vs) (hs : o + vs.length ≤ old.length) (hn : old.take o ++ vs ++ old.drop (o + vs.length) = new)
 (hi : (P.info? ty).map (·.size) = some vs.length) (h1 : vs.all (·.oneCell') = true)
 (h : ∀ w', Own w0 S (L.set i (g, t, new)) w' → K (a.put op.dst undef) w') : if Region.wanted op (yielded ops a.tmps) = true then Oper.wp P op a w K Q else E := by
 have hw : Region.wanted op (yielded ops a.tmps) = true := by simp [Region.wanted, hgd]
 rw [if_pos hw]
 unfold Oper.wp execOp
 simp only [ho, hx, hy, Sem.run_bind, run_store_own hv (HO.blk i hL) hs hi h1, Result.andThen_ok]
 exact h _ (own_store HO i hL hs hn)
theorem own_range (HO : Own w0 S L w) (i : Nat) {g o n : Nat} {t : TypeId} {cs vs : List Value} (hL : L[i]? = some (g, t, cs)) (hv : (cs.drop o).take n = vs) : w.rangeAt g o vs := fun j v hj => by
 subst hv
 rw [HO.cells i hL (o + j)]
 rw [List.getElem?_take] at hj
 split at hj
 ·rwa [List.getElem?_drop] at hj
 ·cases hj
theorem wpList_load_own (HO : Own w0 S L w) (hgd : op.guard = none) (ty : TypeId) (x : Operand) (ho : op.op = .load ty x) (i g o n : Nat) (t : TypeId) (cs vs : List Value) (d : TypeDesc) (hL : L[i]? = some (g, t, cs)) (hv : (cs.drop o).take n = vs)
 (hx : a.eval x = .pointer (some ⟨g, o, none⟩)) (hu : P.underlying ty = some d) (hd : d.isRow = true) (hi : (P.info? ty).map (·.size) = some vs.length)
 (h : wpList P ops Q rest (a.put op.dst (.agg vs.toArray)) w) : wpList P ops Q (op :: rest) a w :=
 wpList_load_mid hgd ty x ho g o hx vs d (own_range HO i hL hv) hu hd hi h
theorem wpList_alloc_own (HO : Own w0 S L w) (hgd : op.guard = none) (t : TypeId) (ho : op.op = .alloc t) (cs : List Value) (hi : (P.info? t).map (·.zero) = some (some (.agg cs.toArray)))
 (h : ∀ w' b, Own w0 S (L ++ [(b, t, cs)]) w' → wpList P ops Q rest (a.put op.dst (.pointer (some ⟨b, 0, none⟩))) w') : wpList P ops Q (op :: rest) a w :=
 wpList_alloc_blk hgd t ho cs.toArray hi fun w' h1 h2 _ => h w' _ (HO.push h1 h2)
theorem wpList_box_own (HO : Own w0 S L w) (hgd : op.guard = none) (t : TypeId) (x : Operand) (ho : op.op = .box t x) (cs : List Value) (hx : a.eval x = .agg cs.toArray)
 (h : ∀ w' b, Own w0 S (L ++ [(b, t, cs)]) w' → wpList P ops Q rest (a.put op.dst (.pointer (some ⟨b, 0, none⟩))) w') : wpList P ops Q (op :: rest) a w :=
 wpList_box_blk hgd t x ho cs.toArray hx fun w' h1 h2 _ => h w' _ (HO.push h1 h2)
theorem splice_all {old vs : List Value} (h : old.length = vs.length) : old.take 0 ++ vs ++ old.drop (0 + vs.length) = vs := by
 rw [List.take_zero, List.nil_append, List.drop_eq_nil_of_le (by omega), List.append_nil]
theorem take_all {cs : List Value} {n : Nat} (h : cs.length = n) : (cs.drop 0).take n = cs := by rw [List.drop_zero, List.take_of_length_le (by omega)]
theorem results_row {P : Program} {fn : Func} {p : Tmp} {ty : TypeId} (h : fn.results = #[.cell p ty]) (tmps : Array Value) (HO : Own w0 S L w) (i g : Nat) (t : TypeId) (cs : List Value) (d : TypeDesc)
 (hi : L[i]? = some (g, t, cs)) (hp : tmps.getD p undef = .pointer (some ⟨g, 0, none⟩))
 (hu : P.underlying ty = some d) (hd : d.isRow = true) (hs : (P.info? ty).map (·.size) = some cs.length) :
 (results fn tmps).run P w = .ok (.agg cs.toArray) w := by
 have hp' : tmps[p]?.getD undef = .pointer (some ⟨g, 0, none⟩) := by simpa using hp
 have r1 := run_loadVar_mid (P := P) w g 0 ty cs d (own_range HO i hi (take_all rfl)) hu hd hs
 simp [results, h, hp', asAddr, r1]
theorem yieldsIf_load {SS : World → Prop} (hw : Region.wanted op (yielded ops a.tmps) = true) (ty : TypeId) (x : Operand) (ho : op.op = .load ty x) (g o n : Nat) (t : TypeId) (cs vs : List Value) (d : TypeDesc)
 (hS : ∀ w, SS w → ∀ j, w.cell? ⟨g, j, none⟩ = cs[j]?) (hv : (cs.drop o).take n = vs) (hx : a.eval x = .pointer (some ⟨g, o, none⟩)) (hu : P.underlying ty = some d) (hd : d.isRow = true) (hi : (P.info? ty).map (·.size) = some vs.length) : YieldsIf P ops SS op (.agg vs.toArray) a :=
 yieldsIf_load_mid hw ty x ho g o hx vs d (fun w hw j v hj => by
  subst hv
  rw [hS w hw (o + j)]
  rw [List.getElem?_take] at hj
  split at hj
  ·rwa [List.getElem?_drop] at hj
  ·cases hj) hu hd hi
end
end
section
open Go.RowKit
theorem at_load (ty : TypeId) (x : Operand) {P : Program} {w : World} {ops : Array Oper} {rest : List Oper} {d : Option Tmp} {t : TypeId} {p : String} {af : Array Edge} {g : Option (Nat × Bool)} {a : Act} {Q : Exit → Act → World → Prop}
 (h : wpList P ops Q ({ dst := d, op := .load ty x, type := t, pos := p, after := af, guard := g } :: rest) a w) : wpList P ops Q ({ dst := d, op := .load ty x, type := t, pos := p, after := af, guard := g } :: rest) a w := h
theorem at_store (ty : TypeId) (x : Operand) {y : Operand} {P : Program} {w : World} {ops : Array Oper} {rest : List Oper} {d : Option Tmp} {t : TypeId} {p : String} {af : Array Edge} {g : Option (Nat × Bool)} {a : Act} {Q : Exit → Act → World → Prop}
 (h : wpList P ops Q ({ dst := d, op := .store ty x y, type := t, pos := p, after := af, guard := g } :: rest) a w) : wpList P ops Q ({ dst := d, op := .store ty x y, type := t, pos := p, after := af, guard := g } :: rest) a w := h
theorem at_alloc (ty : TypeId) {P : Program} {w : World} {ops : Array Oper} {rest : List Oper} {d : Option Tmp} {t : TypeId} {p : String} {af : Array Edge} {g : Option (Nat × Bool)} {a : Act} {Q : Exit → Act → World → Prop}
 (h : wpList P ops Q ({ dst := d, op := .alloc ty, type := t, pos := p, after := af, guard := g } :: rest) a w) : wpList P ops Q ({ dst := d, op := .alloc ty, type := t, pos := p, after := af, guard := g } :: rest) a w := h
theorem at_box (ty : TypeId) (x : Operand) {P : Program} {w : World} {ops : Array Oper} {rest : List Oper} {d : Option Tmp} {t : TypeId} {p : String} {af : Array Edge} {g : Option (Nat × Bool)} {a : Act} {Q : Exit → Act → World → Prop}
 (h : wpList P ops Q ({ dst := d, op := .box ty x, type := t, pos := p, after := af, guard := g } :: rest) a w) : wpList P ops Q ({ dst := d, op := .box ty x, type := t, pos := p, after := af, guard := g } :: rest) a w := h
end
section
open Go.ChangeShapes Go.WideShapes Go.ChangeAt Go.RowKit
end
section
open Go.ChangeShapes Go.WideShapes Go.ChangeAt Go.RowKit
section
variable {P : Program} {w w0 W : World} {S : List Nat} {L M : List (Nat × TypeId × List Value)} {ops : Array Oper} {rest : List Oper} {op : Oper} {a : Act} {Q : Exit → Act → World → Prop} {K : Act → World → Prop} {E : Prop}
theorem Own.sub (h : Own w0 S L W) (hs : M.Sublist L) : Own w0 S M W := ⟨fun e he => h.has e (hs.mem he), h.apart.sublist (hs.map _), h.touch, h.old⟩
theorem Own.perm (h : Own w0 S L W) (hp : L.Perm M) : Own w0 S M W := ⟨fun e he => h.has e (hp.mem_iff.2 he), (hp.map _).nodup_iff.1 h.apart, h.touch, h.old⟩
theorem wpList_store_own_t (HO : Own w0 S L w) (hgd : op.guard = none) (ty : TypeId) (x y : Operand) (ho : op.op = .store ty x y) (i g o : Nat) (t : TypeId) (old vs new : List Value) (hL : L[i]? = some (g, t, old))
 (v : Value) (hx : a.eval x = .pointer (some ⟨g, o, none⟩)) (hy : a.eval y = v) (hv : Fits v vs) (hs : o + vs.length ≤ old.length) (hn : old.take o ++ vs ++ old.drop (o + vs.length) = new)
 (hi : (P.info? ty).map (·.size) = some vs.length) (h1 : vs.all (·.oneCell') = true)
 (h : ∀ w', Own w0 S (L.set i (g, t, new)) w' → Blk w g t old.toArray → Touch [g] w w' → wpList P ops Q rest (a.put op.dst undef) w') : wpList P ops Q (op :: rest) a w := wpList_plain hgd fun K hK => by
 unfold Oper.wp execOp
 simp only [ho, hx, hy, Sem.run_bind, run_store_own hv (HO.blk i hL) hs hi h1, Result.andThen_ok]
 exact hK _ _ (h _ (own_store HO i hL hs hn) (HO.blk i hL) (touch_setCells w g o _).1)
theorem step_store_own_t (HO : Own w0 S L w) (hw : Region.wanted op (yielded ops a.tmps) = true) (ty : TypeId) (x y : Operand) (ho : op.op = .store ty x y) (i g o : Nat) (t : TypeId) (old vs new : List Value) (hL : L[i]? = some (g, t, old))
 (v : Value) (hx : a.eval x = .pointer (some ⟨g, o, none⟩)) (hy : a.eval y = v) (hv : Fits v vs) (hs : o + vs.length ≤ old.length) (hn : old.take o ++ vs ++ old.drop (o + vs.length) = new)
 (hi : (P.info? ty).map (·.size) = some vs.length) (h1 : vs.all (·.oneCell') = true)
 (h : ∀ w', Own w0 S (L.set i (g, t, new)) w' → Blk w g t old.toArray → Touch [g] w w' → K (a.put op.dst undef) w') : if Region.wanted op (yielded ops a.tmps) = true then Oper.wp P op a w K Q else E := by
 rw [if_pos hw]
 unfold Oper.wp execOp
 simp only [ho, hx, hy, Sem.run_bind, run_store_own hv (HO.blk i hL) hs hi h1, Result.andThen_ok]
 exact h _ (own_store HO i hL hs hn) (HO.blk i hL) (touch_setCells w g o _).1
end
end
end Go.Proofs.YtpadgkkeihhneaaGreat
