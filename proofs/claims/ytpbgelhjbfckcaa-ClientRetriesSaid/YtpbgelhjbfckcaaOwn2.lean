/- Steps on the blocks that a call has laid. -/
import Derived.Test.YtpbgelhjbfckcaaOwn
import Derived.Test.YtpbgelhjbfckcaaRegion
import Derived.Great.Walk
namespace Go.Proofs.Ytpbgelhjbfckcaa
open Go.ChangeShapes Go.WideShapes Go.ChangeAt Go.RowKit
set_option linter.unusedVariables false

theorem storeVar_one {ty : TypeId} {a : Addr} {v : Value} (hv : v.oneCell' = true) : storeVar ty a v = storeVar ty a (.agg #[v]) := by
  cases v <;> first | rfl | (simp [Value.oneCell'] at hv)
/-- A value as the cells it is stored as. -/
def Fits (v : Value) (vs : List Value) : Prop := v = .agg vs.toArray ∨ (v.oneCell' = true ∧ vs = [v])
theorem fits_agg (vs : List Value) : Fits (.agg vs.toArray) vs := .inl rfl
theorem fits_one {v : Value} (h : v.oneCell' = true) : Fits v [v] := .inr ⟨h, rfl⟩
theorem run_store_own {P : Program} {w : World} {ty : TypeId} {g o : Nat} {t : TypeId} {old vs : List Value} {v : Value} (hv : Fits v vs) (hb : Blk w g t old.toArray) (hs : o + vs.length ≤ old.length)
    (hi : (P.info? ty).map (·.size) = some vs.length) (h1 : vs.all (·.oneCell') = true) : (Instr.storeAt ty (.pointer (some ⟨g, o, none⟩)) v).run P w = .ok () (w.setCells g o vs) := by
  have hth : w.there g o vs.toArray.size := fun j hj => by
    simp only [List.size_toArray] at hj
    rw [hb.cell (o + j), hb.froz (o + j)]
    exact ⟨by rw [List.getElem?_toArray, List.getElem?_eq_getElem (by omega)]; rfl, rfl⟩
  have h2 := run_storeAt_mid (P := P) w g o ty vs.toArray hth (by simpa using hi) (by simpa using h1)
  rcases hv with rfl | ⟨hv, rfl⟩
  · exact h2
  · simp only [Instr.storeAt, storeVar_one hv] at h2 ⊢
    exact h2
section
variable {P : Program} {w w0 : World} {S : List Nat} {L : List (Nat × TypeId × List Value)} {ops : Array Oper} {rest : List Oper} {op : Oper} {a : Act} {Q : Exit → Act → World → Prop}
theorem own_store (HO : Own w0 S L w) (i : Nat) {g o : Nat} {t : TypeId} {old vs new : List Value} (hL : L[i]? = some (g, t, old)) (hs : o + vs.length ≤ old.length) (hn : old.take o ++ vs ++ old.drop (o + vs.length) = new) : Own w0 S (L.set i (g, t, new)) (w.setCells g o vs) := by
  have h2 := Blk.setCells vs o w _ (HO.blk i hL) (by simpa using hs)
  subst hn
  exact HO.put i hL h2 (touch_setCells w g o _).1
theorem wpList_store_own (HO : Own w0 S L w) (hgd : op.guard = none) (ty : TypeId) (x y : Operand) (ho : op.op = .store ty x y) (i g o : Nat) (t : TypeId) (old vs new : List Value) (hL : L[i]? = some (g, t, old))
    (v : Value) (hx : a.eval x = .pointer (some ⟨g, o, none⟩)) (hy : a.eval y = v) (hv : Fits v vs) (hs : o + vs.length ≤ old.length) (hn : old.take o ++ vs ++ old.drop (o + vs.length) = new)
    (hi : (P.info? ty).map (·.size) = some vs.length) (h1 : vs.all (·.oneCell') = true)
    (h : ∀ w', Own w0 S (L.set i (g, t, new)) w' → wpList P ops Q rest (a.put op.dst undef) w') : wpList P ops Q (op :: rest) a w := wpList_plain hgd fun K hK => by
  unfold Oper.wp execOp
  simp only [ho, hx, hy, Sem.run_bind, run_store_own hv (HO.blk i hL) hs hi h1, Result.andThen_ok]
  exact hK _ _ (h _ (own_store HO i hL hs hn))
theorem step_store_own {K : Act → World → Prop} {E : Prop} (HO : Own w0 S L w) (hgd : op.guard = none) (ty : TypeId) (x y : Operand) (ho : op.op = .store ty x y) (i g o : Nat) (t : TypeId) (old vs new : List Value) (hL : L[i]? = some (g, t, old))
    (v : Value) (hx : a.eval x = .pointer (some ⟨g, o, none⟩)) (hy : a.eval y = v) (hv : Fits v vs) (hs : o + vs.length ≤ old.length) (hn : old.take o ++ vs ++ old.drop (o + vs.length) = new)
    (hi : (P.info? ty).map (·.size) = some vs.length) (h1 : vs.all (·.oneCell') = true)
    (h : ∀ w', Own w0 S (L.set i (g, t, new)) w' → K (a.put op.dst undef) w') : if Region.wanted op (yielded ops a.tmps) = true then Oper.wp P op a w K Q else E := by
  have hw : Region.wanted op (yielded ops a.tmps) = true := by simp [Region.wanted, hgd]
  rw [if_pos hw]
  unfold Oper.wp execOp
  simp only [ho, hx, hy, Sem.run_bind, run_store_own hv (HO.blk i hL) hs hi h1, Result.andThen_ok]
  exact h _ (own_store HO i hL hs hn)
theorem own_range (HO : Own w0 S L w) (i : Nat) {g o n : Nat} {t : TypeId} {cs vs : List Value} (hL : L[i]? = some (g, t, cs)) (hv : (cs.drop o).take n = vs) : w.rangeAt g o vs := fun j v hj => by
  subst hv
  rw [HO.cells i hL (o + j)]
  rw [List.getElem?_take] at hj
  split at hj
  · rwa [List.getElem?_drop] at hj
  · cases hj
theorem wpList_load_own (HO : Own w0 S L w) (hgd : op.guard = none) (ty : TypeId) (x : Operand) (ho : op.op = .load ty x) (i g o n : Nat) (t : TypeId) (cs vs : List Value) (d : TypeDesc) (hL : L[i]? = some (g, t, cs)) (hv : (cs.drop o).take n = vs)
    (hx : a.eval x = .pointer (some ⟨g, o, none⟩)) (hu : P.underlying ty = some d) (hd : d.isRow = true) (hi : (P.info? ty).map (·.size) = some vs.length)
    (h : wpList P ops Q rest (a.put op.dst (.agg vs.toArray)) w) : wpList P ops Q (op :: rest) a w :=
  wpList_load_mid hgd ty x ho g o hx vs d (own_range HO i hL hv) hu hd hi h
theorem wpList_alloc_own (HO : Own w0 S L w) (hgd : op.guard = none) (t : TypeId) (ho : op.op = .alloc t) (cs : List Value) (hi : (P.info? t).map (·.zero) = some (some (.agg cs.toArray)))
    (h : ∀ w' b, Own w0 S (L ++ [(b, t, cs)]) w' → wpList P ops Q rest (a.put op.dst (.pointer (some ⟨b, 0, none⟩))) w') : wpList P ops Q (op :: rest) a w :=
  wpList_alloc_blk hgd t ho cs.toArray hi fun w' h1 h2 _ => h w' _ (HO.push h1 h2)
theorem wpList_box_own (HO : Own w0 S L w) (hgd : op.guard = none) (t : TypeId) (x : Operand) (ho : op.op = .box t x) (cs : List Value) (hx : a.eval x = .agg cs.toArray)
    (h : ∀ w' b, Own w0 S (L ++ [(b, t, cs)]) w' → wpList P ops Q rest (a.put op.dst (.pointer (some ⟨b, 0, none⟩))) w') : wpList P ops Q (op :: rest) a w :=
  wpList_box_blk hgd t x ho cs.toArray hx fun w' h1 h2 _ => h w' _ (HO.push h1 h2)
/-- A slice literal of one struct. -/
theorem wpList_slice_own (HO : Own w0 S L w) (hgd : op.guard = none) (t e : TypeId) (len : Nat) (parts : Array (Nat × Operand)) (ho : op.op = .buildSlice t len parts) (hu : P.underlying t = some (.slice e)) (cs : List Value)
    (hf : P.builtSlice e len (parts.map fun (i, x) => (i, a.eval x)).toList = some cs.toArray)
    (h : ∀ w' b, Own w0 S (L ++ [(b, e, cs)]) w' → wpList P ops Q rest (a.put op.dst (.slice (some ⟨b, 0, none⟩) len len)) w') : wpList P ops Q (op :: rest) a w :=
  Go.Great.wpList_buildSliceTo hgd t e len parts ho w.heap.size rfl op.dst rfl hu cs.toArray hf (h _ _ (HO.push (Blk.new w e cs.toArray) ((Below.refl _ _).alloc (Nat.le_refl _) _)))
theorem splice_all {old vs : List Value} (h : old.length = vs.length) : old.take 0 ++ vs ++ old.drop (0 + vs.length) = vs := by
  rw [List.take_zero, List.nil_append, List.drop_eq_nil_of_le (by omega), List.append_nil]
theorem take_all {cs : List Value} {n : Nat} (h : cs.length = n) : (cs.drop 0).take n = cs := by rw [List.drop_zero, List.take_of_length_le (by omega)]
theorem results_row_row {P : Program} {fn : Func} {p q : Tmp} {ty tz : TypeId} (h : fn.results = #[.cell p ty, .cell q tz]) (tmps : Array Value) (HO : Own w0 S L w) (i j g b : Nat) (t u : TypeId) (cs vs : List Value) (d e : TypeDesc)
    (hi : L[i]? = some (g, t, cs)) (hj : L[j]? = some (b, u, vs)) (hp : tmps.getD p undef = .pointer (some ⟨g, 0, none⟩)) (hq : tmps.getD q undef = .pointer (some ⟨b, 0, none⟩))
    (hu : P.underlying ty = some d) (hd : d.isRow = true) (hs : (P.info? ty).map (·.size) = some cs.length) (hu2 : P.underlying tz = some e) (hd2 : e.isRow = true) (hs2 : (P.info? tz).map (·.size) = some vs.length) :
    (results fn tmps).run P w = .ok (.tuple #[.agg cs.toArray, .agg vs.toArray]) w := by
  have hp' : tmps[p]?.getD undef = .pointer (some ⟨g, 0, none⟩) := by simpa using hp
  have hq' : tmps[q]?.getD undef = .pointer (some ⟨b, 0, none⟩) := by simpa using hq
  have r1 := run_loadVar_mid (P := P) w g 0 ty cs d (own_range HO i hi (take_all rfl)) hu hd hs
  have r2 := run_loadVar_mid (P := P) w b 0 tz vs e (own_range HO j hj (take_all rfl)) hu2 hd2 hs2
  simp [results, h, hp', hq', asAddr, r1, r2]
theorem results_row_row_tmp {P : Program} {fn : Func} {p q r : Tmp} {ty tz : TypeId} (h : fn.results = #[.cell p ty, .cell q tz, .tmp r]) (tmps : Array Value) (HO : Own w0 S L w) (i j g b : Nat) (t u : TypeId) (cs vs : List Value) (d e : TypeDesc) (v : Value)
    (hi : L[i]? = some (g, t, cs)) (hj : L[j]? = some (b, u, vs)) (hp : tmps.getD p undef = .pointer (some ⟨g, 0, none⟩)) (hq : tmps.getD q undef = .pointer (some ⟨b, 0, none⟩)) (hr : tmps.getD r undef = v)
    (hu : P.underlying ty = some d) (hd : d.isRow = true) (hs : (P.info? ty).map (·.size) = some cs.length) (hu2 : P.underlying tz = some e) (hd2 : e.isRow = true) (hs2 : (P.info? tz).map (·.size) = some vs.length) :
    (results fn tmps).run P w = .ok (.tuple #[.agg cs.toArray, .agg vs.toArray, v]) w := by
  have hp' : tmps[p]?.getD undef = .pointer (some ⟨g, 0, none⟩) := by simpa using hp
  have hq' : tmps[q]?.getD undef = .pointer (some ⟨b, 0, none⟩) := by simpa using hq
  have hr' : tmps[r]?.getD undef = v := by simpa using hr
  have r1 := run_loadVar_mid (P := P) w g 0 ty cs d (own_range HO i hi (take_all rfl)) hu hd hs
  have r2 := run_loadVar_mid (P := P) w b 0 tz vs e (own_range HO j hj (take_all rfl)) hu2 hd2 hs2
  simp [results, h, hp', hq', hr', asAddr, r1, r2]
theorem results_row_tmp_tmp {P : Program} {fn : Func} {p q r : Tmp} {ty : TypeId} (h : fn.results = #[.cell p ty, .tmp q, .tmp r]) (tmps : Array Value) (HO : Own w0 S L w) (i g : Nat) (t : TypeId) (cs : List Value) (d : TypeDesc) (u v : Value)
    (hi : L[i]? = some (g, t, cs)) (hp : tmps.getD p undef = .pointer (some ⟨g, 0, none⟩)) (hq : tmps.getD q undef = u) (hr : tmps.getD r undef = v)
    (hu : P.underlying ty = some d) (hd : d.isRow = true) (hs : (P.info? ty).map (·.size) = some cs.length) :
    (results fn tmps).run P w = .ok (.tuple #[.agg cs.toArray, u, v]) w := by
  have hp' : tmps[p]?.getD undef = .pointer (some ⟨g, 0, none⟩) := by simpa using hp
  have hq' : tmps[q]?.getD undef = u := by simpa using hq
  have hr' : tmps[r]?.getD undef = v := by simpa using hr
  have r1 := run_loadVar_mid (P := P) w g 0 ty cs d (own_range HO i hi (take_all rfl)) hu hd hs
  simp [results, h, hp', hq', hr', asAddr, r1]
theorem results_row {P : Program} {fn : Func} {p : Tmp} {ty : TypeId} (h : fn.results = #[.cell p ty]) (tmps : Array Value) (HO : Own w0 S L w) (i g : Nat) (t : TypeId) (cs : List Value) (d : TypeDesc)
    (hi : L[i]? = some (g, t, cs)) (hp : tmps.getD p undef = .pointer (some ⟨g, 0, none⟩))
    (hu : P.underlying ty = some d) (hd : d.isRow = true) (hs : (P.info? ty).map (·.size) = some cs.length) :
    (results fn tmps).run P w = .ok (.agg cs.toArray) w := by
  have hp' : tmps[p]?.getD undef = .pointer (some ⟨g, 0, none⟩) := by simpa using hp
  have r1 := run_loadVar_mid (P := P) w g 0 ty cs d (own_range HO i hi (take_all rfl)) hu hd hs
  simp [results, h, hp', asAddr, r1]
theorem yieldsIf_build {SS : World → Prop} (hw : Region.wanted op (yielded ops a.tmps) = true) (t : TypeId) (parts : Array (Nat × Operand)) (ho : op.op = .build t parts)
    (vs : List (Nat × Value)) (he : (parts.map fun (i, x) => (i, a.eval x)).toList = vs) (cells : Array Value) (hc : P.built t vs = some cells) : YieldsIf P ops SS op (.agg cells) a :=
  .inl ⟨hw, fun w _ => by
    unfold execOp
    subst he
    simp only [ho, Sem.run_bind, run_build w t _ cells hc, Result.andThen_ok, Sem.run_pure]⟩
theorem yieldsIf_load {SS : World → Prop} (hw : Region.wanted op (yielded ops a.tmps) = true) (ty : TypeId) (x : Operand) (ho : op.op = .load ty x) (g o n : Nat) (t : TypeId) (cs vs : List Value) (d : TypeDesc)
    (hS : ∀ w, SS w → ∀ j, w.cell? ⟨g, j, none⟩ = cs[j]?) (hv : (cs.drop o).take n = vs) (hx : a.eval x = .pointer (some ⟨g, o, none⟩)) (hu : P.underlying ty = some d) (hd : d.isRow = true) (hi : (P.info? ty).map (·.size) = some vs.length) : YieldsIf P ops SS op (.agg vs.toArray) a :=
  yieldsIf_load_mid hw ty x ho g o hx vs d (fun w hw j v hj => by
    subst hv
    rw [hS w hw (o + j)]
    rw [List.getElem?_take] at hj
    split at hj
    · rwa [List.getElem?_drop] at hj
    · cases hj) hu hd hi
end
end Go.Proofs.Ytpbgelhjbfckcaa
