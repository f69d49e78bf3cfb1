/- Steps on the blocks that a call has laid. -/
import Derived.Test.YtpbgelhjbfckcaaT01
import Derived.Great.Walk
import Derived.Great.BuildSlice
import Derived.Great.FillDense
namespace Go.Proofs.Ytpbgelhjbfckcaa
open Go.ChangeShapes Go.WideShapes Go.ChangeAt Go.RowKit
set_option linter.unusedVariables false

theorem storeVar_one {ty : TypeId} {a : Addr} {v : Value} (hv : v.oneCell' = true) : storeVar ty a v = storeVar ty a (.agg #[v]) := by
  cases v <;> first | rfl | (simp [Value.oneCell'] at hv)
/-- A value as the cells it is stored as. -/
def Fits (v : Value) (vs : List Value) : Prop := v = .agg vs.toArray ∨ (v.oneCell' = true ∧ vs = [v])
theorem fits_agg (vs : List Value) : Fits (.agg vs.toArray) vs := .inl rfl
theorem fits_one {v : Value} (h : v.oneCell' = true) : Fits v [v] := .inr ⟨h, rfl⟩
theorem run_store_own {P : Program} {w : World} {ty : TypeId} {g o : Nat} {t : TypeId} {old vs : List Value} {v : Value} (hv : Fits v vs) (hb : Blk w g t old.toArray) (hs : o + vs.length ≤ old.length)
    (hi : (P.info? ty).map (·.size) = some vs.length) (h1 : vs.all (·.oneCell') = true) : (Instr.storeAt ty (.pointer (some ⟨g, o, none⟩)) v).run P w = .ok () (w.setCells g o vs) := by
  have hth : w.there g o vs.toArray.size := fun j hj => by
    simp only [List.size_toArray] at hj
    rw [hb.cell (o + j), hb.froz (o + j)]
    exact ⟨by rw [List.getElem?_toArray, List.getElem?_eq_getElem (by omega)]; rfl, rfl⟩
  have h2 := run_storeAt_mid (P := P) w g o ty vs.toArray hth (by simpa using hi) (by simpa using h1)
  rcases hv with rfl | ⟨hv, rfl⟩
  · exact h2
  · simp only [Instr.storeAt, storeVar_one hv] at h2 ⊢
    exact h2
section
variable {P : Program} {w w0 : World} {S : List Nat} {L : List (Nat × TypeId × List Value)} {ops : Array Oper} {rest : List Oper} {op : Oper} {a : Act} {Q : Exit → Act → World → Prop}
theorem own_store (HO : Own w0 S L w) (i : Nat) {g o : Nat} {t : TypeId} {old vs new : List Value} (hL : L[i]? = some (g, t, old)) (hs : o + vs.length ≤ old.length) (hn : old.take o ++ vs ++ old.drop (o + vs.length) = new) : Own w0 S (L.set i (g, t, new)) (w.setCells g o vs) := by
  have h2 := Blk.setCells vs o w _ (HO.blk i hL) (by simpa using hs)
  subst hn
  exact HO.put i hL h2 (touch_setCells w g o _).1
theorem wpList_store_own (HO : Own w0 S L w) (hgd : op.guard = none) (ty : TypeId) (x y : Operand) (ho : op.op = .store ty x y) (i g o : Nat) (t : TypeId) (old vs new : List Value) (hL : L[i]? = some (g, t, old))
    (v : Value) (hx : a.eval x = .pointer (some ⟨g, o, none⟩)) (hy : a.eval y = v) (hv : Fits v vs) (hs : o + vs.length ≤ old.length) (hn : old.take o ++ vs ++ old.drop (o + vs.length) = new)
    (hi : (P.info? ty).map (·.size) = some vs.length) (h1 : vs.all (·.oneCell') = true)
    (h : ∀ w', Own w0 S (L.set i (g, t, new)) w' → wpList P ops Q rest (a.put op.dst undef) w') : wpList P ops Q (op :: rest) a w := wpList_plain hgd fun K hK => by
  unfold Oper.wp execOp
  simp only [ho, hx, hy, Sem.run_bind, run_store_own hv (HO.blk i hL) hs hi h1, Result.andThen_ok]
  exact hK _ _ (h _ (own_store HO i hL hs hn))
theorem step_store_own {K : Act → World → Prop} {E : Prop} (HO : Own w0 S L w) (hgd : op.guard = none) (ty : TypeId) (x y : Operand) (ho : op.op = .store ty x y) (i g o : Nat) (t : TypeId) (old vs new : List Value) (hL : L[i]? = some (g, t, old))
    (v : Value) (hx : a.eval x = .pointer (some ⟨g, o, none⟩)) (hy : a.eval y = v) (hv : Fits v vs) (hs : o + vs.length ≤ old.length) (hn : old.take o ++ vs ++ old.drop (o + vs.length) = new)
    (hi : (P.info? ty).map (·.size) = some vs.length) (h1 : vs.all (·.oneCell') = true)
    (h : ∀ w', Own w0 S (L.set i (g, t, new)) w' → K (a.put op.dst undef) w') : if Region.wanted op (yielded ops a.tmps) = true then Oper.wp P op a w K Q else E := by
  have hw : Region.wanted op (yielded ops a.tmps) = true := by simp [Region.wanted, hgd]
  rw [if_pos hw]
  unfold Oper.wp execOp
  simp only [ho, hx, hy, Sem.run_bind, run_store_own hv (HO.blk i hL) hs hi h1, Result.andThen_ok]
  exact h _ (own_store HO i hL hs hn)
theorem own_range (HO : Own w0 S L w) (i : Nat) {g o n : Nat} {t : TypeId} {cs vs : List Value} (hL : L[i]? = some (g, t, cs)) (hv : (cs.drop o).take n = vs) : w.rangeAt g o vs := fun j v hj => by
  subst hv
  rw [HO.cells i hL (o + j)]
  rw [List.getElem?_take] at hj
  split at hj
  · rwa [List.getElem?_drop] at hj
  · cases hj
theorem wpList_load_own (HO : Own w0 S L w) (hgd : op.guard = none) (ty : TypeId) (x : Operand) (ho : op.op = .load ty x) (i g o n : Nat) (t : TypeId) (cs vs : List Value) (d : TypeDesc) (hL : L[i]? = some (g, t, cs)) (hv : (cs.drop o).take n = vs)
    (hx : a.eval x = .pointer (some ⟨g, o, none⟩)) (hu : P.underlying ty = some d) (hd : d.isRow = true) (hi : (P.info? ty).map (·.size) = some vs.length)
    (h : wpList P ops Q rest (a.put op.dst (.agg vs.toArray)) w) : wpList P ops Q (op :: rest) a w :=
  wpList_load_mid hgd ty x ho g o hx vs d (own_range HO i hL hv) hu hd hi h
theorem wpList_alloc_own (HO : Own w0 S L w) (hgd : op.guard = none) (t : TypeId) (ho : op.op = .alloc t) (cs : List Value) (hi : (P.info? t).map (·.zero) = some (some (.agg cs.toArray)))
    (h : ∀ w' b, Own w0 S (L ++ [(b, t, cs)]) w' → wpList P ops Q rest (a.put op.dst (.pointer (some ⟨b, 0, none⟩))) w') : wpList P ops Q (op :: rest) a w :=
  wpList_alloc_blk hgd t ho cs.toArray hi fun w' h1 h2 _ => h w' _ (HO.push h1 h2)
theorem wpList_box_own (HO : Own w0 S L w) (hgd : op.guard = none) (t : TypeId) (x : Operand) (ho : op.op = .box t x) (cs : List Value) (hx : a.eval x = .agg cs.toArray)
    (h : ∀ w' b, Own w0 S (L ++ [(b, t, cs)]) w' → wpList P ops Q rest (a.put op.dst (.pointer (some ⟨b, 0, none⟩))) w') : wpList P ops Q (op :: rest) a w :=
  wpList_box_blk hgd t x ho cs.toArray hx fun w' h1 h2 _ => h w' _ (HO.push h1 h2)
/-- A slice literal of one struct. -/
theorem wpList_slice_own (HO : Own w0 S L w) (hgd : op.guard = none) (t e : TypeId) (len : Nat) (parts : Array (Nat × Operand)) (ho : op.op = .buildSlice t len parts) (hu : P.underlying t = some (.slice e)) (cs : List Value)
    (hf : P.builtSlice e len (parts.map fun (i, x) => (i, a.eval x)).toList = some cs.toArray)
    (h : ∀ w' b, Own w0 S (L ++ [(b, e, cs)]) w' → wpList P ops Q rest (a.put op.dst (.slice (some ⟨b, 0, none⟩) len len)) w') : wpList P ops Q (op :: rest) a w :=
  Go.Great.wpList_buildSliceTo hgd t e len parts ho w.heap.size rfl op.dst rfl hu cs.toArray hf (h _ _ (HO.push (Blk.new w e cs.toArray) ((Below.refl _ _).alloc (Nat.le_refl _) _)))
theorem splice_all {old vs : List Value} (h : old.length = vs.length) : old.take 0 ++ vs ++ old.drop (0 + vs.length) = vs := by
  rw [List.take_zero, List.nil_append, List.drop_eq_nil_of_le (by omega), List.append_nil]
theorem take_all {cs : List Value} {n : Nat} (h : cs.length = n) : (cs.drop 0).take n = cs := by rw [List.drop_zero, List.take_of_length_le (by omega)]
theorem results_row_row {P : Program} {fn : Func} {p q : Tmp} {ty tz : TypeId} (h : fn.results = #[.cell p ty, .cell q tz]) (tmps : Array Value) (HO : Own w0 S L w) (i j g b : Nat) (t u : TypeId) (cs vs : List Value) (d e : TypeDesc)
    (hi : L[i]? = some (g, t, cs)) (hj : L[j]? = some (b, u, vs)) (hp : tmps.getD p undef = .pointer (some ⟨g, 0, none⟩)) (hq : tmps.getD q undef = .pointer (some ⟨b, 0, none⟩))
    (hu : P.underlying ty = some d) (hd : d.isRow = true) (hs : (P.info? ty).map (·.size) = some cs.length) (hu2 : P.underlying tz = some e) (hd2 : e.isRow = true) (hs2 : (P.info? tz).map (·.size) = some vs.length) :
    (results fn tmps).run P w = .ok (.tuple #[.agg cs.toArray, .agg vs.toArray]) w := by
  have hp' : tmps[p]?.getD undef = .pointer (some ⟨g, 0, none⟩) := by simpa using hp
  have hq' : tmps[q]?.getD undef = .pointer (some ⟨b, 0, none⟩) := by simpa using hq
  have r1 := run_loadVar_mid (P := P) w g 0 ty cs d (own_range HO i hi (take_all rfl)) hu hd hs
  have r2 := run_loadVar_mid (P := P) w b 0 tz vs e (own_range HO j hj (take_all rfl)) hu2 hd2 hs2
  simp [results, h, hp', hq', asAddr, r1, r2]
theorem results_row_row_tmp {P : Program} {fn : Func} {p q r : Tmp} {ty tz : TypeId} (h : fn.results = #[.cell p ty, .cell q tz, .tmp r]) (tmps : Array Value) (HO : Own w0 S L w) (i j g b : Nat) (t u : TypeId) (cs vs : List Value) (d e : TypeDesc) (v : Value)
    (hi : L[i]? = some (g, t, cs)) (hj : L[j]? = some (b, u, vs)) (hp : tmps.getD p undef = .pointer (some ⟨g, 0, none⟩)) (hq : tmps.getD q undef = .pointer (some ⟨b, 0, none⟩)) (hr : tmps.getD r undef = v)
    (hu : P.underlying ty = some d) (hd : d.isRow = true) (hs : (P.info? ty).map (·.size) = some cs.length) (hu2 : P.underlying tz = some e) (hd2 : e.isRow = true) (hs2 : (P.info? tz).map (·.size) = some vs.length) :
    (results fn tmps).run P w = .ok (.tuple #[.agg cs.toArray, .agg vs.toArray, v]) w := by
  have hp' : tmps[p]?.getD undef = .pointer (some ⟨g, 0, none⟩) := by simpa using hp
  have hq' : tmps[q]?.getD undef = .pointer (some ⟨b, 0, none⟩) := by simpa using hq
  have hr' : tmps[r]?.getD undef = v := by simpa using hr
  have r1 := run_loadVar_mid (P := P) w g 0 ty cs d (own_range HO i hi (take_all rfl)) hu hd hs
  have r2 := run_loadVar_mid (P := P) w b 0 tz vs e (own_range HO j hj (take_all rfl)) hu2 hd2 hs2
  simp [results, h, hp', hq', hr', asAddr, r1, r2]
theorem results_row_tmp_tmp {P : Program} {fn : Func} {p q r : Tmp} {ty : TypeId} (h : fn.results = #[.cell p ty, .tmp q, .tmp r]) (tmps : Array Value) (HO : Own w0 S L w) (i g : Nat) (t : TypeId) (cs : List Value) (d : TypeDesc) (u v : Value)
    (hi : L[i]? = some (g, t, cs)) (hp : tmps.getD p undef = .pointer (some ⟨g, 0, none⟩)) (hq : tmps.getD q undef = u) (hr : tmps.getD r undef = v)
    (hu : P.underlying ty = some d) (hd : d.isRow = true) (hs : (P.info? ty).map (·.size) = some cs.length) :
    (results fn tmps).run P w = .ok (.tuple #[.agg cs.toArray, u, v]) w := by
  have hp' : tmps[p]?.getD undef = .pointer (some ⟨g, 0, none⟩) := by simpa using hp
  have hq' : tmps[q]?.getD undef = u := by simpa using hq
  have hr' : tmps[r]?.getD undef = v := by simpa using hr
  have r1 := run_loadVar_mid (P := P) w g 0 ty cs d (own_range HO i hi (take_all rfl)) hu hd hs
  simp [results, h, hp', hq', hr', asAddr, r1]
theorem results_row {P : Program} {fn : Func} {p : Tmp} {ty : TypeId} (h : fn.results = #[.cell p ty]) (tmps : Array Value) (HO : Own w0 S L w) (i g : Nat) (t : TypeId) (cs : List Value) (d : TypeDesc)
    (hi : L[i]? = some (g, t, cs)) (hp : tmps.getD p undef = .pointer (some ⟨g, 0, none⟩))
    (hu : P.underlying ty = some d) (hd : d.isRow = true) (hs : (P.info? ty).map (·.size) = some cs.length) :
    (results fn tmps).run P w = .ok (.agg cs.toArray) w := by
  have hp' : tmps[p]?.getD undef = .pointer (some ⟨g, 0, none⟩) := by simpa using hp
  have r1 := run_loadVar_mid (P := P) w g 0 ty cs d (own_range HO i hi (take_all rfl)) hu hd hs
  simp [results, h, hp', asAddr, r1]
theorem yieldsIf_build {SS : World → Prop} (hw : Region.wanted op (yielded ops a.tmps) = true) (t : TypeId) (parts : Array (Nat × Operand)) (ho : op.op = .build t parts)
    (vs : List (Nat × Value)) (he : (parts.map fun (i, x) => (i, a.eval x)).toList = vs) (cells : Array Value) (hc : P.built t vs = some cells) : YieldsIf P ops SS op (.agg cells) a :=
  .inl ⟨hw, fun w _ => by
    unfold execOp
    subst he
    simp only [ho, Sem.run_bind, run_build w t _ cells hc, Result.andThen_ok, Sem.run_pure]⟩
theorem yieldsIf_load {SS : World → Prop} (hw : Region.wanted op (yielded ops a.tmps) = true) (ty : TypeId) (x : Operand) (ho : op.op = .load ty x) (g o n : Nat) (t : TypeId) (cs vs : List Value) (d : TypeDesc)
    (hS : ∀ w, SS w → ∀ j, w.cell? ⟨g, j, none⟩ = cs[j]?) (hv : (cs.drop o).take n = vs) (hx : a.eval x = .pointer (some ⟨g, o, none⟩)) (hu : P.underlying ty = some d) (hd : d.isRow = true) (hi : (P.info? ty).map (·.size) = some vs.length) : YieldsIf P ops SS op (.agg vs.toArray) a :=
  yieldsIf_load_mid hw ty x ho g o hx vs d (fun w hw j v hj => by
    subst hv
    rw [hS w hw (o + j)]
    rw [List.getElem?_take] at hj
    split at hj
    · rwa [List.getElem?_drop] at hj
    · cases hj) hu hd hi
end
end Go.Proofs.Ytpbgelhjbfckcaa
/- A look at the operation that is next: it fits or not, at once. -/
namespace Go.Proofs.Ytpbgelhjbfckcaa
open Go.RowKit
theorem at_load (ty : TypeId) (x : Operand) {P : Program} {w : World} {ops : Array Oper} {rest : List Oper} {d : Option Tmp} {t : TypeId} {p : String} {af : Array Edge} {g : Option (Nat × Bool)} {a : Act} {Q : Exit → Act → World → Prop}
    (h : wpList P ops Q ({ dst := d, op := .load ty x, type := t, pos := p, after := af, guard := g } :: rest) a w) : wpList P ops Q ({ dst := d, op := .load ty x, type := t, pos := p, after := af, guard := g } :: rest) a w := h
theorem at_store (ty : TypeId) (x : Operand) {y : Operand} {P : Program} {w : World} {ops : Array Oper} {rest : List Oper} {d : Option Tmp} {t : TypeId} {p : String} {af : Array Edge} {g : Option (Nat × Bool)} {a : Act} {Q : Exit → Act → World → Prop}
    (h : wpList P ops Q ({ dst := d, op := .store ty x y, type := t, pos := p, after := af, guard := g } :: rest) a w) : wpList P ops Q ({ dst := d, op := .store ty x y, type := t, pos := p, after := af, guard := g } :: rest) a w := h
theorem at_build (ty : TypeId) {parts : Array (Nat × Operand)} {P : Program} {w : World} {ops : Array Oper} {rest : List Oper} {d : Option Tmp} {t : TypeId} {p : String} {af : Array Edge} {g : Option (Nat × Bool)} {a : Act} {Q : Exit → Act → World → Prop}
    (h : wpList P ops Q ({ dst := d, op := .build ty parts, type := t, pos := p, after := af, guard := g } :: rest) a w) : wpList P ops Q ({ dst := d, op := .build ty parts, type := t, pos := p, after := af, guard := g } :: rest) a w := h
theorem at_alloc (ty : TypeId) {P : Program} {w : World} {ops : Array Oper} {rest : List Oper} {d : Option Tmp} {t : TypeId} {p : String} {af : Array Edge} {g : Option (Nat × Bool)} {a : Act} {Q : Exit → Act → World → Prop}
    (h : wpList P ops Q ({ dst := d, op := .alloc ty, type := t, pos := p, after := af, guard := g } :: rest) a w) : wpList P ops Q ({ dst := d, op := .alloc ty, type := t, pos := p, after := af, guard := g } :: rest) a w := h
theorem at_box (ty : TypeId) (x : Operand) {P : Program} {w : World} {ops : Array Oper} {rest : List Oper} {d : Option Tmp} {t : TypeId} {p : String} {af : Array Edge} {g : Option (Nat × Bool)} {a : Act} {Q : Exit → Act → World → Prop}
    (h : wpList P ops Q ({ dst := d, op := .box ty x, type := t, pos := p, after := af, guard := g } :: rest) a w) : wpList P ops Q ({ dst := d, op := .box ty x, type := t, pos := p, after := af, guard := g } :: rest) a w := h
end Go.Proofs.Ytpbgelhjbfckcaa
/- A slice literal of one struct in a region; joining two orders. -/
namespace Go.Proofs.Ytpbgelhjbfckcaa
open Go.ChangeShapes Go.WideShapes Go.ChangeAt Go.RowKit
set_option linter.unusedVariables false
theorem have_tail2 {goal : Prop} {G I : Nat → World → Prop} (main : (∀ b w, I b w → G b w) → goal) (tl : ∀ b w, I b w → G b w) : goal := main tl
theorem step_slice_own {P : Program} {w w0 : World} {S : List Nat} {L : List (Nat × TypeId × List Value)} {ops : Array Oper} {op : Oper} {a : Act} {Q : Exit → Act → World → Prop} {K : Act → World → Prop} {E : Prop}
    (HO : Own w0 S L w) (hgd : op.guard = none) (t e : TypeId) (len : Nat) (parts : Array (Nat × Operand)) (ho : op.op = .buildSlice t len parts) (hu : P.underlying t = some (.slice e)) (cs : List Value)
    (hf : P.builtSlice e len (parts.map fun (i, x) => (i, a.eval x)).toList = some cs.toArray)
    (h : ∀ w' b, Own w0 S (L ++ [(b, e, cs)]) w' → K (a.put op.dst (.slice (some ⟨b, 0, none⟩) len len)) w') : if Region.wanted op (yielded ops a.tmps) = true then Oper.wp P op a w K Q else E := by
  have hw : Region.wanted op (yielded ops a.tmps) = true := by simp [Region.wanted, hgd]
  rw [if_pos hw]
  have hp : (Instr.buildSlice t len (parts.map fun (i, x) => (i, a.eval x))).run P w = .ok (.slice (some ⟨w.heap.size, 0, none⟩) len len) (w.alloc (.cells cs.toArray e)) := by
    unfold Program.builtSlice at hf
    cases hie : P.info? e with
    | none => simp [hie] at hf
    | some ie =>
      cases hz : ie.zero with
      | none => simp [hie, hz] at hf
      | some z =>
        simp only [hie, hz] at hf
        split at hf
        · cases hf
        · rename_i hn
          exact run_buildSlice w t e len _ _ ie z hu hie hz (fun h => hn (.inl h)) (fun h => hn (.inr h)) hf
  unfold Oper.wp execOp
  simp only [ho, Sem.run_bind, hp, Result.andThen_ok]
  exact h _ _ (HO.push (Blk.new w e cs.toArray) ((Below.refl _ _).alloc (Nat.le_refl _) _))
end Go.Proofs.Ytpbgelhjbfckcaa
/- Steps on the blocks that a call has laid, with what turned; lists of such blocks taken apart. -/
namespace Go.Proofs.Ytpbgelhjbfckcaa
open Go.ChangeShapes Go.WideShapes Go.ChangeAt Go.RowKit
set_option linter.unusedVariables false

section
variable {P : Program} {w w0 W : World} {S : List Nat} {L M : List (Nat × TypeId × List Value)} {ops : Array Oper} {rest : List Oper} {op : Oper} {a : Act} {Q : Exit → Act → World → Prop} {K : Act → World → Prop} {E : Prop}
theorem Own.sub (h : Own w0 S L W) (hs : M.Sublist L) : Own w0 S M W := ⟨fun e he => h.has e (hs.mem he), h.apart.sublist (hs.map _), h.touch, h.old⟩
theorem Own.perm (h : Own w0 S L W) (hp : L.Perm M) : Own w0 S M W := ⟨fun e he => h.has e (hp.mem_iff.2 he), (hp.map _).nodup_iff.1 h.apart, h.touch, h.old⟩
theorem Own.swap {x y : Nat × TypeId × List Value} (h : Own w0 S (L ++ [x] ++ [y]) W) : Own w0 S (L ++ [y] ++ [x]) W := h.perm (by
  rw [List.append_assoc, List.append_assoc]
  exact (List.Perm.swap y x []).append_left L)
theorem wpList_store_own_t (HO : Own w0 S L w) (hgd : op.guard = none) (ty : TypeId) (x y : Operand) (ho : op.op = .store ty x y) (i g o : Nat) (t : TypeId) (old vs new : List Value) (hL : L[i]? = some (g, t, old))
    (v : Value) (hx : a.eval x = .pointer (some ⟨g, o, none⟩)) (hy : a.eval y = v) (hv : Fits v vs) (hs : o + vs.length ≤ old.length) (hn : old.take o ++ vs ++ old.drop (o + vs.length) = new)
    (hi : (P.info? ty).map (·.size) = some vs.length) (h1 : vs.all (·.oneCell') = true)
    (h : ∀ w', Own w0 S (L.set i (g, t, new)) w' → Blk w g t old.toArray → Touch [g] w w' → wpList P ops Q rest (a.put op.dst undef) w') : wpList P ops Q (op :: rest) a w := wpList_plain hgd fun K hK => by
  unfold Oper.wp execOp
  simp only [ho, hx, hy, Sem.run_bind, run_store_own hv (HO.blk i hL) hs hi h1, Result.andThen_ok]
  exact hK _ _ (h _ (own_store HO i hL hs hn) (HO.blk i hL) (touch_setCells w g o _).1)
theorem step_store_own_t (HO : Own w0 S L w) (hw : Region.wanted op (yielded ops a.tmps) = true) (ty : TypeId) (x y : Operand) (ho : op.op = .store ty x y) (i g o : Nat) (t : TypeId) (old vs new : List Value) (hL : L[i]? = some (g, t, old))
    (v : Value) (hx : a.eval x = .pointer (some ⟨g, o, none⟩)) (hy : a.eval y = v) (hv : Fits v vs) (hs : o + vs.length ≤ old.length) (hn : old.take o ++ vs ++ old.drop (o + vs.length) = new)
    (hi : (P.info? ty).map (·.size) = some vs.length) (h1 : vs.all (·.oneCell') = true)
    (h : ∀ w', Own w0 S (L.set i (g, t, new)) w' → Blk w g t old.toArray → Touch [g] w w' → K (a.put op.dst undef) w') : if Region.wanted op (yielded ops a.tmps) = true then Oper.wp P op a w K Q else E := by
  rw [if_pos hw]
  unfold Oper.wp execOp
  simp only [ho, hx, hy, Sem.run_bind, run_store_own hv (HO.blk i hL) hs hi h1, Result.andThen_ok]
  exact h _ (own_store HO i hL hs hn) (HO.blk i hL) (touch_setCells w g o _).1
theorem wpList_alloc_own_t (HO : Own w0 S L w) (hgd : op.guard = none) (t : TypeId) (ho : op.op = .alloc t) (cs : List Value) (hi : (P.info? t).map (·.zero) = some (some (.agg cs.toArray)))
    (h : ∀ w' b, Own w0 S (L ++ [(b, t, cs)]) w' → Below w.heap.size w w' → wpList P ops Q rest (a.put op.dst (.pointer (some ⟨b, 0, none⟩))) w') : wpList P ops Q (op :: rest) a w :=
  wpList_alloc_blk hgd t ho cs.toArray hi fun w' h1 h2 _ => h w' _ (HO.push h1 h2) h2
theorem wpList_box_own_t (HO : Own w0 S L w) (hgd : op.guard = none) (t : TypeId) (x : Operand) (ho : op.op = .box t x) (cs : List Value) (hx : a.eval x = .agg cs.toArray)
    (h : ∀ w' b, Own w0 S (L ++ [(b, t, cs)]) w' → Below w.heap.size w w' → wpList P ops Q rest (a.put op.dst (.pointer (some ⟨b, 0, none⟩))) w') : wpList P ops Q (op :: rest) a w :=
  wpList_box_blk hgd t x ho cs.toArray hx fun w' h1 h2 _ => h w' _ (HO.push h1 h2) h2
theorem step_slice_own_t (HO : Own w0 S L w) (hw : Region.wanted op (yielded ops a.tmps) = true) (t e : TypeId) (len : Nat) (parts : Array (Nat × Operand)) (ho : op.op = .buildSlice t len parts) (hu : P.underlying t = some (.slice e)) (cs : List Value)
    (hf : P.builtSlice e len (parts.map fun (i, x) => (i, a.eval x)).toList = some cs.toArray)
    (h : ∀ w' b, Own w0 S (L ++ [(b, e, cs)]) w' → Below w.heap.size w w' → K (a.put op.dst (.slice (some ⟨b, 0, none⟩) len len)) w') : if Region.wanted op (yielded ops a.tmps) = true then Oper.wp P op a w K Q else E := by
  rw [if_pos hw]
  have hp : (Instr.buildSlice t len (parts.map fun (i, x) => (i, a.eval x))).run P w = .ok (.slice (some ⟨w.heap.size, 0, none⟩) len len) (w.alloc (.cells cs.toArray e)) := by
    unfold Program.builtSlice at hf
    cases hie : P.info? e with
    | none => simp [hie] at hf
    | some ie =>
      cases hz : ie.zero with
      | none => simp [hie, hz] at hf
      | some z =>
        simp only [hie, hz] at hf
        split at hf
        · cases hf
        · rename_i hn
          exact run_buildSlice w t e len _ _ ie z hu hie hz (fun h => hn (.inl h)) (fun h => hn (.inr h)) hf
  unfold Oper.wp execOp
  simp only [ho, Sem.run_bind, hp, Result.andThen_ok]
  exact h _ _ (HO.push (Blk.new w e cs.toArray) ((Below.refl _ _).alloc (Nat.le_refl _) _)) ((Below.refl _ _).alloc (Nat.le_refl _) _)
end
theorem tail_0 {goal : Prop} {G I : World → Prop} (main : (∀ w, I w → G w) → goal) (tl : ∀ w, I w → G w) : goal := main tl
theorem tail_1 {goal : Prop} {G I : Nat → World → Prop} (main : (∀ b w, I b w → G b w) → goal) (tl : ∀ b w, I b w → G b w) : goal := main tl
theorem tail_2 {goal : Prop} {G I : Nat → Nat → World → Prop} (main : (∀ b c w, I b c w → G b c w) → goal) (tl : ∀ b c w, I b c w → G b c w) : goal := main tl
theorem tail_3 {goal : Prop} {G I : Nat → Nat → Nat → World → Prop} (main : (∀ b c d w, I b c d w → G b c d w) → goal) (tl : ∀ b c d w, I b c d w → G b c d w) : goal := main tl
end Go.Proofs.Ytpbgelhjbfckcaa
/- Messages between hosts and clients as rows of cells: their zero, and how one is built. -/
namespace Go.Proofs.Ytpbgelhjbfckcaa
open Go.ChangeShapes Go.WideShapes Go.ChangeAt Go.RowKit
set_option linter.unusedVariables false

abbrev zi : Value := .int .i64 0
abbrev zs : Value := .string ⟨#[]⟩
abbrev zl : Value := .slice none 0 0
abbrev zb0 : Value := .bool false
/-- The cells of a message of zeros. -/
def zmsg : List Value := [zi, zi, zi, zi, zi, zs, zi, zi, zi, zi, zi, zl, zl, zi, zi, zi, zi, zi, zi, zi, zi, zi, zi, zi, zi, zi, zl, zl, zl, zl, zl, zl, zl, zl, zi, zi, zi, zi, zi, zi, zi, zi, zb0, zl, zi, zs, zb0]
theorem zmsg_len : zmsg.length = 47 := rfl

theorem info_msg : (Try.prog.info? 41).map (fun i => (i.zero, i.size)) = some (some (.agg zmsg.toArray), 47) := by kernel_rfl
theorem info_out : (Try.prog.info? 59).map (fun i => (i.zero, i.size)) = some (some (.agg (zi :: zmsg).toArray), 48) := by kernel_rfl
theorem info_client : (Try.prog.info? 74).map (fun i => (i.zero, i.size)) = some (some (.agg #[zi, zi, zi, zi, .pointer none]), 5) := by kernel_rfl

/-- The message of Request, of Call; the messages of the example. -/
theorem built_request (g : Int) (b : ByteArray) : Try.prog.built 41 [(0, .int .i64 1), (1, .int .i64 g), (5, .string b)] = some (((zmsg.set 0 (.int .i64 1)).set 1 (.int .i64 g)).set 5 (.string b)).toArray := by kernel_rfl
theorem built_call (g v : Int) : Try.prog.built 41 [(0, .int .i64 9), (1, .int .i64 g), (11, .int .i64 v)] = some (((zmsg.set 0 (.int .i64 9)).set 1 (.int .i64 g)).set 17 (.int .i64 v)).toArray := by kernel_rfl
theorem built_zero : Try.prog.built 41 [] = some zmsg.toArray := by kernel_rfl
theorem built_out0 : Try.prog.built 59 [] = some (zi :: zmsg).toArray := by kernel_rfl
theorem built_client (a b : Int) : Try.prog.built 74 [(0, .int .i64 a), (1, .int .i64 b), (2, .int .i64 1)] = some #[.int .i64 a, .int .i64 b, .int .i64 1, zi, .pointer none] := by kernel_rfl

theorem fill_out (Z : Array Value) (hZ : Z.size = 48) (n : Int) (cs : List Value) (h : cs.length = 47) (place : Nat → Option (Nat × Nat)) (p0 : place 0 = some (0, 1)) (p1 : place 1 = some (1, 47)) :
    Instr.fill place Z [(0, .int .i64 n), (1, .agg cs.toArray)] = some (.int .i64 n :: cs).toArray := by
  have e1 : (Value.int .i64 n).cells = #[.int .i64 n] := rfl
  have e2 : (Value.agg cs.toArray).cells = cs.toArray := rfl
  simp only [Instr.fill, p0, p1, e1, e2]
  have f0 := Go.Great.foldl_set 0 [.int .i64 n] 0 Z
  generalize hz1 : ((#[Value.int .i64 n].zipIdx).foldl (fun cs (x : Value × Nat) => cs.setIfInBounds (0 + x.2) x.1) Z) = Z1
  have hz1' : (([Value.int .i64 n].zipIdx 0).foldl (fun cs (x : Value × Nat) => cs.setIfInBounds (0 + x.2) x.1) Z) = Z1 := by rw [← hz1]; simp
  rw [hz1'] at f0
  have f1 := Go.Great.foldl_set 1 cs 0 Z1
  generalize hz2 : ((cs.toArray.zipIdx).foldl (fun cs (x : Value × Nat) => cs.setIfInBounds (1 + x.2) x.1) Z1) = Z2
  have hz2' : ((cs.zipIdx 0).foldl (fun cs (x : Value × Nat) => cs.setIfInBounds (1 + x.2) x.1) Z1) = Z2 := by rw [← hz2]; simp
  rw [hz2'] at f1
  rw [if_neg (by simp [hZ]), if_neg (by simp [f0.1, hZ, h])]
  congr 1
  apply Array.ext_getElem?
  intro i
  rw [f1.2 i]
  rcases Nat.eq_zero_or_pos i with rfl | hi
  · rw [if_neg (by omega), f0.2 0, if_pos (by simp [hZ])]; rfl
  · obtain ⟨j, rfl⟩ : ∃ j, i = j + 1 := ⟨i - 1, by omega⟩
    by_cases hj : j < 47
    · rw [if_pos (by rw [f0.1, hZ]; omega)]
      simp
    · rw [if_neg (by omega), Array.getElem?_eq_none (by rw [f0.1, hZ]; omega), Array.getElem?_eq_none (by simp; omega)]
set_option maxRecDepth 100000 in
/-- A message with its endpoint. -/
theorem built_out (n : Int) (cs : List Value) (h : cs.length = 47) : Try.prog.built 59 [(0, .int .i64 n), (1, .agg cs.toArray)] = some (.int .i64 n :: cs).toArray := by
  have hI := info_out
  obtain ⟨i0, hi0, hz⟩ := Option.map_eq_some_iff.mp hI
  injection hz with hz0 hz1
  unfold Program.built
  rw [hi0, Try.underlying59]
  simp only [hz0]
  have hp : ∀ fs, Try.prog.underlying 59 = some (.struct fs) → (fs.toList.mapM (fun f => (Try.prog.info? f.type).map fun i => (f.offset, i.size))) = some [(0, 1), (1, 47)] := by
    intro fs hfs
    rw [Try.underlying59] at hfs
    injection hfs with hfs
    injection hfs with hfs
    subst hfs
    kernel_rfl
  rw [hp _ Try.underlying59]
  exact fill_out _ (by simp [Value.cells, zmsg]) n cs h _ rfl rfl
end Go.Proofs.Ytpbgelhjbfckcaa
/- The fields of a message: numbers. -/
namespace Go.Proofs.Ytpbgelhjbfckcaa
open Go.ChangeShapes Go.WideShapes Go.ChangeAt Go.RowKit
set_option linter.unusedVariables false
set_option linter.unusedSimpArgs false

theorem below_drew (w : World) : Below w.heap.size w w.drew := (Below.refl _ _).drew
/-- A field as cells: four functions, each with what it has captured. -/
def fv (w r z v : FuncId) (cw cr cz cv : List Value) : List Value := [.func (.func w) #[] cw.toArray, .func (.func r) #[] cr.toArray, .func (.func z) #[] cz.toArray, .func (.func v) #[] cv.toArray]
def zfield : List Value := [.nilFunc, .nilFunc, .nilFunc, .nilFunc]
abbrev at0 (b : Nat) : Value := .pointer (some ⟨b, 0, none⟩)
theorem info_field : (Try.prog.info? 101).map (·.zero) = some (some (.agg zfield.toArray)) := by kernel_rfl
theorem size_field : (Try.prog.info? 101).map (·.size) = some 4 := by kernel_rfl
theorem built_field (w r z v : FuncId) (cw cr cz cv : List Value) : Try.prog.built 101 [(0, .func (.func w) #[] cw.toArray), (1, .func (.func r) #[] cr.toArray), (2, .func (.func z) #[] cz.toArray), (3, .func (.func v) #[] cv.toArray)] = some (fv w r z v cw cr cz cv).toArray := by kernel_rfl
theorem any_c (w : World) : Calls Try.prog 70 #[] w fun e w' => e = .returned (.bool true) ∧ w = w' := by
  go_enter Try.func70, Try.ntmps70
  go_wp2_with fail
  go_ret
  exact ⟨rfl, rfl⟩
theorem nzero_c (bp b o : Nat) (x : Int) (w : World) (h1 : w.cell? ⟨bp, 0, none⟩ = some (.pointer (some ⟨b, o, none⟩))) (h2 : w.cell? ⟨b, o, none⟩ = some (.int .i64 x)) :
    Calls Try.prog 90 #[at0 bp] w fun e w' => e = .returned (.bool (decide (x = 0))) ∧ w = w' := by
  go_enter Try.func90, Try.ntmps90
  go_wp2_with fail
  go_ret
  exact ⟨by simp [BEq.beq], rfl⟩
theorem nvalid_c (bp bl bh b o : Nat) (x lo hi : Int) (w : World) (h1 : w.cell? ⟨bp, 0, none⟩ = some (.pointer (some ⟨b, o, none⟩))) (h2 : w.cell? ⟨b, o, none⟩ = some (.int .i64 x))
    (h3 : w.cell? ⟨bl, 0, none⟩ = some (.int .i64 lo)) (h4 : w.cell? ⟨bh, 0, none⟩ = some (.int .i64 hi)) :
    Calls Try.prog 91 #[at0 bp, at0 bl, at0 bh] w fun e w' => e = .returned (.bool (decide (lo ≤ x) && decide (x ≤ hi))) ∧ Below w.heap.size w w' := by
  cases hc : decide (lo ≤ x) with
  | true =>
    go_enter Try.func91, Try.ntmps91
    go_wp2_with fail
    refine wp_region_held_drew (S := fun W => W.cell? ⟨bp, 0, none⟩ = some (.pointer (some ⟨b, o, none⟩)) ∧ W.cell? ⟨b, o, none⟩ = some (.int .i64 x) ∧ W.cell? ⟨bl, 0, none⟩ = some (.int .i64 lo) ∧ W.cell? ⟨bh, 0, none⟩ = some (.int .i64 hi)) (by kernel_rfl) (⟨h1, h2, h3, h4⟩) (fun hS0 => ?_)
    refine wpAnyH_take (i := 0) (v := ?va0) rfl (by kernel_rfl) (by kernel_rfl) (by kernel_rfl) (fun _ _ _ h => h) (Or.inl ⟨by rfl, ?hya0⟩) (by assumption) ?resta0
    case hya0 => (intro w hSw; (try dsimp only at hSw); go_simp; first | done | (with_reducible rfl))
    try simp only [Act.put, List.getElem_toArray, List.getElem_cons_zero, List.getElem_cons_succ, List.setIfInBounds_toArray, List.set_cons_zero, List.set_cons_succ]
    refine wpAnyH_take (i := 1) (v := ?va1) rfl (by kernel_rfl) (by kernel_rfl) (by kernel_rfl) (fun _ _ _ h => h) (Or.inl ⟨by rfl, ?hya1⟩) (by assumption) ?resta1
    case hya1 => (intro w hSw; (try dsimp only at hSw); go_simp; first | done | (with_reducible rfl))
    try simp only [Act.put, List.getElem_toArray, List.getElem_cons_zero, List.getElem_cons_succ, List.setIfInBounds_toArray, List.set_cons_zero, List.set_cons_succ]
    refine wpAnyH_take (i := 2) (v := ?va2) rfl (by kernel_rfl) (by kernel_rfl) (by kernel_rfl) (fun _ _ _ h => h) (Or.inl ⟨by rfl, ?hya2⟩) (by assumption) ?resta2
    case hya2 => (intro w hSw; (try dsimp only at hSw); go_simp; first | done | (with_reducible rfl))
    try simp only [Act.put, List.getElem_toArray, List.getElem_cons_zero, List.getElem_cons_succ, List.setIfInBounds_toArray, List.set_cons_zero, List.set_cons_succ]
    refine wpAnyH_take (i := 3) (v := ?va3) rfl (by kernel_rfl) (by kernel_rfl) (by kernel_rfl) (fun _ _ _ h => h) (Or.inl ⟨by rfl, ?hya3⟩) (by assumption) ?resta3
    case hya3 => (intro w hSw; (try dsimp only at hSw); go_simp; first | done | (with_reducible rfl))
    try simp only [Act.put, List.getElem_toArray, List.getElem_cons_zero, List.getElem_cons_succ, List.setIfInBounds_toArray, List.set_cons_zero, List.set_cons_succ]
    refine wpAnyH_take (i := 4) (v := ?va4) rfl (by kernel_rfl) (by kernel_rfl) (by kernel_rfl) (fun _ _ _ h => h) (Or.inl ⟨by rfl, ?hya4⟩) (by assumption) ?resta4
    case hya4 => (intro w hSw; (try dsimp only at hSw); go_simp; first | done | (with_reducible rfl))
    try simp only [Act.put, List.getElem_toArray, List.getElem_cons_zero, List.getElem_cons_succ, List.setIfInBounds_toArray, List.set_cons_zero, List.set_cons_succ]
    refine wpAnyH_take (i := 5) (v := ?va5) rfl (by kernel_rfl) (by kernel_rfl) (by kernel_rfl) (fun _ _ _ h => h) (Or.inl ⟨by rfl, ?hya5⟩) (by assumption) ?resta5
    case hya5 => (intro w hSw; (try dsimp only at hSw); go_simp; first | done | (with_reducible rfl))
    try simp only [Act.put, List.getElem_toArray, List.getElem_cons_zero, List.getElem_cons_succ, List.setIfInBounds_toArray, List.set_cons_zero, List.set_cons_succ]
    refine wpAnyH_take (i := 6) (v := ?va6) rfl (by kernel_rfl) (by kernel_rfl) (by kernel_rfl) (fun _ _ _ h => h) (Or.inl ⟨by rfl, ?hya6⟩) (by assumption) ?resta6
    case hya6 => (intro w hSw; (try dsimp only at hSw); go_simp; first | done | (with_reducible rfl))
    try simp only [Act.put, List.getElem_toArray, List.getElem_cons_zero, List.getElem_cons_succ, List.setIfInBounds_toArray, List.set_cons_zero, List.set_cons_succ]
    refine wpAnyH_take (i := 7) (v := ?va7) rfl (by kernel_rfl) (by kernel_rfl) (by kernel_rfl) (fun _ _ _ h => h) (Or.inl ⟨by rfl, ?hya7⟩) (by assumption) ?resta7
    case hya7 => (intro w hSw; (try dsimp only at hSw); go_simp; first | done | (with_reducible rfl))
    try simp only [Act.put, List.getElem_toArray, List.getElem_cons_zero, List.getElem_cons_succ, List.setIfInBounds_toArray, List.set_cons_zero, List.set_cons_succ]
    refine wpAnyH_take (i := 8) (v := ?va8) rfl (by kernel_rfl) (by kernel_rfl) (by kernel_rfl) (fun _ _ _ h => h) (Or.inl ⟨by rfl, ?hya8⟩) (by assumption) ?resta8
    case hya8 => (intro w hSw; (try dsimp only at hSw); go_simp; first | done | (with_reducible rfl))
    try simp only [Act.put, List.getElem_toArray, List.getElem_cons_zero, List.getElem_cons_succ, List.setIfInBounds_toArray, List.set_cons_zero, List.set_cons_succ]
    refine wpAnyH_take (i := 9) (v := ?va9) rfl (by kernel_rfl) (by kernel_rfl) (by kernel_rfl) (fun _ _ _ h => h) (Or.inl ⟨by rfl, ?hya9⟩) (by assumption) ?resta9
    case hya9 => (intro w hSw; (try dsimp only at hSw); go_simp; first | done | (with_reducible rfl))
    try simp only [Act.put, List.getElem_toArray, List.getElem_cons_zero, List.getElem_cons_succ, List.setIfInBounds_toArray, List.set_cons_zero, List.set_cons_succ]
    refine wpAnyH_take (i := 10) (v := ?va10) rfl (by kernel_rfl) (by kernel_rfl) (by kernel_rfl) (fun _ _ _ h => h) (Or.inl ⟨by rfl, ?hya10⟩) (by assumption) ?resta10
    case hya10 => (intro w hSw; (try dsimp only at hSw); go_simp; first | done | (with_reducible rfl))
    try simp only [Act.put, List.getElem_toArray, List.getElem_cons_zero, List.getElem_cons_succ, List.setIfInBounds_toArray, List.set_cons_zero, List.set_cons_succ]
    refine wpAnyH_take (i := 11) (v := ?va11) rfl (by kernel_rfl) (by kernel_rfl) (by kernel_rfl) (fun _ _ _ h => h) (Or.inl ⟨by rfl, ?hya11⟩) (by assumption) ?resta11
    case hya11 => (intro w hSw; (try dsimp only at hSw); go_simp; first | done | (with_reducible rfl))
    try simp only [Act.put, List.getElem_toArray, List.getElem_cons_zero, List.getElem_cons_succ, List.setIfInBounds_toArray, List.set_cons_zero, List.set_cons_succ]
    refine wpAnyH_take (i := 12) (v := ?va12) rfl (by kernel_rfl) (by kernel_rfl) (by kernel_rfl) (fun _ _ _ h => h) (Or.inl ⟨by rfl, ?hya12⟩) (by assumption) ?resta12
    case hya12 => (intro w hSw; (try dsimp only at hSw); go_simp; first | done | (with_reducible rfl))
    try simp only [Act.put, List.getElem_toArray, List.getElem_cons_zero, List.getElem_cons_succ, List.setIfInBounds_toArray, List.set_cons_zero, List.set_cons_succ]
    refine wpAnyH_done (by kernel_rfl) ?_ _
    clear hS0
    go_wp2_with fail
    go_ret
    exact ⟨by simp, below_drew _⟩
  | false =>
    go_enter Try.func91, Try.ntmps91
    go_wp2_with fail
    refine wp_region_held_drew (S := fun W => W.cell? ⟨bp, 0, none⟩ = some (.pointer (some ⟨b, o, none⟩)) ∧ W.cell? ⟨b, o, none⟩ = some (.int .i64 x) ∧ W.cell? ⟨bl, 0, none⟩ = some (.int .i64 lo) ∧ W.cell? ⟨bh, 0, none⟩ = some (.int .i64 hi)) (by kernel_rfl) (⟨h1, h2, h3, h4⟩) (fun hS0 => ?_)
    refine wpAnyH_take (i := 0) (v := ?vb0) rfl (by kernel_rfl) (by kernel_rfl) (by kernel_rfl) (fun _ _ _ h => h) (Or.inl ⟨by rfl, ?hyb0⟩) (by assumption) ?restb0
    case hyb0 => (intro w hSw; (try dsimp only at hSw); go_simp; first | done | (with_reducible rfl))
    try simp only [Act.put, List.getElem_toArray, List.getElem_cons_zero, List.getElem_cons_succ, List.setIfInBounds_toArray, List.set_cons_zero, List.set_cons_succ]
    refine wpAnyH_take (i := 1) (v := ?vb1) rfl (by kernel_rfl) (by kernel_rfl) (by kernel_rfl) (fun _ _ _ h => h) (Or.inl ⟨by rfl, ?hyb1⟩) (by assumption) ?restb1
    case hyb1 => (intro w hSw; (try dsimp only at hSw); go_simp; first | done | (with_reducible rfl))
    try simp only [Act.put, List.getElem_toArray, List.getElem_cons_zero, List.getElem_cons_succ, List.setIfInBounds_toArray, List.set_cons_zero, List.set_cons_succ]
    refine wpAnyH_take (i := 2) (v := ?vb2) rfl (by kernel_rfl) (by kernel_rfl) (by kernel_rfl) (fun _ _ _ h => h) (Or.inl ⟨by rfl, ?hyb2⟩) (by assumption) ?restb2
    case hyb2 => (intro w hSw; (try dsimp only at hSw); go_simp; first | done | (with_reducible rfl))
    try simp only [Act.put, List.getElem_toArray, List.getElem_cons_zero, List.getElem_cons_succ, List.setIfInBounds_toArray, List.set_cons_zero, List.set_cons_succ]
    refine wpAnyH_take (i := 3) (v := ?vb3) rfl (by kernel_rfl) (by kernel_rfl) (by kernel_rfl) (fun _ _ _ h => h) (Or.inl ⟨by rfl, ?hyb3⟩) (by assumption) ?restb3
    case hyb3 => (intro w hSw; (try dsimp only at hSw); go_simp; first | done | (with_reducible rfl))
    try simp only [Act.put, List.getElem_toArray, List.getElem_cons_zero, List.getElem_cons_succ, List.setIfInBounds_toArray, List.set_cons_zero, List.set_cons_succ]
    refine wpAnyH_take (i := 4) (v := ?vb4) rfl (by kernel_rfl) (by kernel_rfl) (by kernel_rfl) (fun _ _ _ h => h) (Or.inl ⟨by rfl, ?hyb4⟩) (by assumption) ?restb4
    case hyb4 => (intro w hSw; (try dsimp only at hSw); go_simp; first | done | (with_reducible rfl))
    try simp only [Act.put, List.getElem_toArray, List.getElem_cons_zero, List.getElem_cons_succ, List.setIfInBounds_toArray, List.set_cons_zero, List.set_cons_succ]
    refine wpAnyH_take (i := 5) (v := ?vb5) rfl (by kernel_rfl) (by kernel_rfl) (by kernel_rfl) (fun _ _ _ h => h) (Or.inl ⟨by rfl, ?hyb5⟩) (by assumption) ?restb5
    case hyb5 => (intro w hSw; (try dsimp only at hSw); go_simp; first | done | (with_reducible rfl))
    try simp only [Act.put, List.getElem_toArray, List.getElem_cons_zero, List.getElem_cons_succ, List.setIfInBounds_toArray, List.set_cons_zero, List.set_cons_succ]
    refine wpAnyH_take (i := 6) (v := undef) rfl (by kernel_rfl) (by kernel_rfl) (by kernel_rfl) (fun _ _ _ h => h) (Or.inr ⟨by rfl, rfl⟩) (by assumption) ?restb6
    try simp only [Act.put, List.getElem_toArray, List.getElem_cons_zero, List.getElem_cons_succ, List.setIfInBounds_toArray, List.set_cons_zero, List.set_cons_succ]
    refine wpAnyH_take (i := 7) (v := undef) rfl (by kernel_rfl) (by kernel_rfl) (by kernel_rfl) (fun _ _ _ h => h) (Or.inr ⟨by rfl, rfl⟩) (by assumption) ?restb7
    try simp only [Act.put, List.getElem_toArray, List.getElem_cons_zero, List.getElem_cons_succ, List.setIfInBounds_toArray, List.set_cons_zero, List.set_cons_succ]
    refine wpAnyH_take (i := 8) (v := undef) rfl (by kernel_rfl) (by kernel_rfl) (by kernel_rfl) (fun _ _ _ h => h) (Or.inr ⟨by rfl, rfl⟩) (by assumption) ?restb8
    try simp only [Act.put, List.getElem_toArray, List.getElem_cons_zero, List.getElem_cons_succ, List.setIfInBounds_toArray, List.set_cons_zero, List.set_cons_succ]
    refine wpAnyH_take (i := 9) (v := undef) rfl (by kernel_rfl) (by kernel_rfl) (by kernel_rfl) (fun _ _ _ h => h) (Or.inr ⟨by rfl, rfl⟩) (by assumption) ?restb9
    try simp only [Act.put, List.getElem_toArray, List.getElem_cons_zero, List.getElem_cons_succ, List.setIfInBounds_toArray, List.set_cons_zero, List.set_cons_succ]
    refine wpAnyH_take (i := 10) (v := undef) rfl (by kernel_rfl) (by kernel_rfl) (by kernel_rfl) (fun _ _ _ h => h) (Or.inr ⟨by rfl, rfl⟩) (by assumption) ?restb10
    try simp only [Act.put, List.getElem_toArray, List.getElem_cons_zero, List.getElem_cons_succ, List.setIfInBounds_toArray, List.set_cons_zero, List.set_cons_succ]
    refine wpAnyH_take (i := 11) (v := ?vb11) rfl (by kernel_rfl) (by kernel_rfl) (by kernel_rfl) (fun _ _ _ h => h) (Or.inl ⟨by rfl, ?hyb11⟩) (by assumption) ?restb11
    case hyb11 => (intro w hSw; (try dsimp only at hSw); go_simp; first | done | (with_reducible rfl))
    try simp only [Act.put, List.getElem_toArray, List.getElem_cons_zero, List.getElem_cons_succ, List.setIfInBounds_toArray, List.set_cons_zero, List.set_cons_succ]
    refine wpAnyH_take (i := 12) (v := ?vb12) rfl (by kernel_rfl) (by kernel_rfl) (by kernel_rfl) (fun _ _ _ h => h) (Or.inl ⟨by rfl, ?hyb12⟩) (by assumption) ?restb12
    case hyb12 => (intro w hSw; (try dsimp only at hSw); go_simp; first | done | (with_reducible rfl))
    try simp only [Act.put, List.getElem_toArray, List.getElem_cons_zero, List.getElem_cons_succ, List.setIfInBounds_toArray, List.set_cons_zero, List.set_cons_succ]
    refine wpAnyH_done (by kernel_rfl) ?_ _
    clear hS0
    go_wp2_with fail
    go_ret
    exact ⟨by simp, below_drew _⟩
end Go.Proofs.Ytpbgelhjbfckcaa
/- The fields of a message: number, parts. -/
namespace Go.Proofs.Ytpbgelhjbfckcaa
open Go.ChangeShapes Go.WideShapes Go.ChangeAt Go.RowKit
set_option linter.unusedVariables false
set_option linter.unusedSimpArgs false

theorem own_boxes2 (w : World) (p x : Value) (tp tx : TypeId) : Own w [] [(w.heap.size, tp, [p]), (w.heap.size + 1, tx, [x])] ((w.alloc (.cells #[p] tp)).alloc (.cells #[x] tx)) := by
  have h1 := (Own.nil w [] (by simp)).push (t := tp) (cs := [p]) (Blk.new w tp #[p]) ((Below.refl _ _).alloc (Nat.le_refl _) _)
  have h2 := h1.push (t := tx) (cs := [x]) (Blk.new _ tx #[x]) ((Below.refl _ _).alloc (Nat.le_refl _) _)
  simpa using h2
theorem own_boxes3 (w : World) (p x y : Value) (tp tx ty : TypeId) : Own w [] [(w.heap.size, tp, [p]), (w.heap.size + 1, tx, [x]), (w.heap.size + 1 + 1, ty, [y])] (((w.alloc (.cells #[p] tp)).alloc (.cells #[x] tx)).alloc (.cells #[y] ty)) := by
  have h3 := (own_boxes2 w p x tp tx).push (t := ty) (cs := [y]) (Blk.new _ ty #[y]) ((Below.refl _ _).alloc (Nat.le_refl _) _)
  simpa using h3
/-- What number hands back. -/
def NumR (w : World) (p : Value) (lo hi : Int) (e : Ending) (w' : World) : Prop := ∃ bp bl bh, e = .returned (.agg (fv 88 89 90 91 [at0 bp] [at0 bp] [at0 bp] [at0 bp, at0 bl, at0 bh]).toArray) ∧ Own w [] [(bp, 121, [p]), (bl, 3, [.int .i64 lo]), (bh, 3, [.int .i64 hi])] w'
theorem number_cV (q : Option Addr) (lo hi : Int) (w : World) : Calls Try.prog 60 #[.pointer q, .int .i64 lo, .int .i64 hi] w (NumR w (.pointer q) lo hi) := by
  have hmf : ∀ (fn : Fn) (first cap : Array Value) (w : World), (Instr.makeFunc fn first cap).run Try.prog w = .ok (.func fn first cap) w := fun _ _ _ _ => rfl
  have HO := hide (own_boxes3 w (.pointer q) (.int .i64 lo) (.int .i64 hi) 121 3 3)
  go_enter Try.func60, Try.ntmps60
  go_wp2_with (first
    | ((with_reducible refine at_alloc 101 ?_); refine wpList_alloc_own HO.out rfl 101 rfl zfield info_field ?_; intro WA b hO; replace HO := hide hO; clear hO)
    | ((with_reducible refine at_store 101 (.tmp 6) ?_); refine wpList_store_own HO.out rfl 101 (.tmp 6) (.tmp 11) rfl 3 _ 0 _ _ (fv 88 89 90 91 [at0 w.heap.size] [at0 w.heap.size] [at0 w.heap.size] [at0 w.heap.size, at0 (w.heap.size + 1), at0 (w.heap.size + 1 + 1)]) (fv 88 89 90 91 [at0 w.heap.size] [at0 w.heap.size] [at0 w.heap.size] [at0 w.heap.size, at0 (w.heap.size + 1), at0 (w.heap.size + 1 + 1)]) rfl _ rfl rfl (fits_agg _) (by simp [fv, zfield]) rfl size_field rfl ?_; intro WA hO; replace HO := hide hO; clear hO))
  refine bodyPost_ret (v := .agg (fv 88 89 90 91 [at0 w.heap.size] [at0 w.heap.size] [at0 w.heap.size] [at0 w.heap.size, at0 (w.heap.size + 1), at0 (w.heap.size + 1 + 1)]).toArray) (results_cell_row rfl _ _ b 101 _ (0, 0) _ rfl (HO.out.blk 3 rfl) Try.underlying101 rfl size_field) rfl ?_
  exact ⟨_, _, _, rfl, HO.out.sub (by simp)⟩
/-- What parts hands back. -/
def PartsR (w : World) (vn vl : Value) (e : Ending) (w' : World) : Prop := ∃ bn bl, e = .returned (.agg (fv 82 84 86 70 [at0 bn, at0 bl] [at0 bn, at0 bl] [at0 bn, at0 bl] []).toArray) ∧ Own w [] [(bn, 125, [vn]), (bl, 127, [vl])] w'
theorem parts_c (A : Option Addr) (n c : Nat) (B : Option Addr) (m k : Nat) (w : World) : Calls Try.prog 51 #[.slice A n c, .slice B m k] w (PartsR w (.slice A n c) (.slice B m k)) := by
  have hmf : ∀ (fn : Fn) (first cap : Array Value) (w : World), (Instr.makeFunc fn first cap).run Try.prog w = .ok (.func fn first cap) w := fun _ _ _ _ => rfl
  have HO := hide (own_boxes2 w (.slice A n c) (.slice B m k) 125 127)
  go_enter Try.func51, Try.ntmps51
  go_wp2_with (first
    | ((with_reducible refine at_alloc 101 ?_); refine wpList_alloc_own HO.out rfl 101 rfl zfield info_field ?_; intro WA b hO; replace HO := hide hO; clear hO)
    | ((with_reducible refine at_store 101 (.tmp 4) ?_); refine wpList_store_own HO.out rfl 101 (.tmp 4) (.tmp 8) rfl 2 _ 0 _ _ (fv 82 84 86 70 [at0 w.heap.size, at0 (w.heap.size + 1)] [at0 w.heap.size, at0 (w.heap.size + 1)] [at0 w.heap.size, at0 (w.heap.size + 1)] []) (fv 82 84 86 70 [at0 w.heap.size, at0 (w.heap.size + 1)] [at0 w.heap.size, at0 (w.heap.size + 1)] [at0 w.heap.size, at0 (w.heap.size + 1)] []) rfl _ rfl rfl (fits_agg _) (by simp [fv, zfield]) rfl size_field rfl ?_; intro WA hO; replace HO := hide hO; clear hO))
  refine bodyPost_ret (v := .agg (fv 82 84 86 70 [at0 w.heap.size, at0 (w.heap.size + 1)] [at0 w.heap.size, at0 (w.heap.size + 1)] [at0 w.heap.size, at0 (w.heap.size + 1)] []).toArray) (results_cell_row rfl _ _ b 101 _ (0, 0) _ rfl (HO.out.blk 2 rfl) Try.underlying101 rfl size_field) rfl ?_
  exact ⟨_, _, rfl, HO.out.sub (by simp)⟩
/-- A slice of pointers into the block b. -/
def Ptrs (w : World) (v : Value) (b : Nat) (offs : List Nat) : Prop := ∃ A c, v = .slice A offs.length c ∧ offs.length ≤ c ∧ c ≤ maxLen ∧ (0 < offs.length → ∃ g o, A = some ⟨g, o, none⟩ ∧ ∀ i (h : i < offs.length), w.cell? ⟨g, o + i, none⟩ = some (.pointer (some ⟨b, offs[i], none⟩)))
theorem Ptrs.nil (w : World) (b : Nat) : Ptrs w (.slice none 0 0) b [] := ⟨none, 0, rfl, Nat.le_refl _, by unfold maxLen; omega, fun h => by simp at h⟩
theorem Ptrs.form {w : World} {v : Value} {b : Nat} {offs : List Nat} (h : Ptrs w v b offs) : ∃ A n c, v = .slice A n c ∧ Hid (n = offs.length) ∧ n ≤ c ∧ c ≤ 9223372036854775807 := by
  obtain ⟨A, c, e, h1, h2, _⟩ := h; exact ⟨A, _, c, e, rfl, h1, by unfold maxLen at h2; omega⟩
theorem Ptrs.at_ {w : World} {A : Option Addr} {n c b : Nat} {offs : List Nat} (h : Ptrs w (.slice A n c) b offs) (i : Nat) (hi : i < offs.length) : ∃ g o, A = some ⟨g, o, none⟩ ∧ w.cell? ⟨g, o + i, none⟩ = some (.pointer (some ⟨b, offs[i], none⟩)) := by
  obtain ⟨A', c', e, h1, h2, h3⟩ := h
  obtain ⟨rfl, rfl, rfl⟩ : A = A' ∧ n = offs.length ∧ c = c' := by injection e with e1 e2 e3; exact ⟨e1, e2, e3⟩
  obtain ⟨g, o, rfl, hc⟩ := h3 (by omega)
  exact ⟨g, o, rfl, hc i hi⟩
/-- The numbers at some places of a row; the lengths of the lists there. -/
def numAt (cs : List Value) (o : Nat) : Int := match cs[o]? with | some (.int _ x) => x | _ => 0
def lenAt (cs : List Value) (o : Nat) : Nat := match cs[o]? with | some (.slice _ n _) => n | _ => 0
def zeroP (cs : List Value) (ns ls : List Nat) : Bool := ns.all (fun o => numAt cs o == 0) && ls.all (fun o => lenAt cs o == 0)
theorem all_snoc {p : Nat → Bool} {l : List Nat} {k : Nat} (hk : k < l.length) (hz : (l.take k).all p = true) (h : p l[k] = true) : (l.take (k + 1)).all p = true := by
  rw [List.take_add_one, List.getElem?_eq_getElem hk, List.all_append, hz]
  simp [h]
set_option maxHeartbeats 2000000 in
theorem pzero_c (bn bl b : Nat) (vn vl : Value) (ns ls : List Nat) (cs : List Value) (w : World) (h1 : w.cell? ⟨bn, 0, none⟩ = some vn) (h2 : w.cell? ⟨bl, 0, none⟩ = some vl) (hn : Ptrs w vn b ns) (hl : Ptrs w vl b ls)
    (hc : ∀ o, w.cell? ⟨b, o, none⟩ = cs[o]?) (hns : ∀ o ∈ ns, ∃ x, cs[o]? = some (.int .i64 x)) (hls : ∀ o ∈ ls, ∃ A n c, cs[o]? = some (.slice A n c)) :
    Calls Try.prog 86 #[at0 bn, at0 bl] w fun e w' => e = .returned (.bool (zeroP cs ns ls)) ∧ w = w' := by
  obtain ⟨A, n, c, rfl, hnn, hnc, hcm⟩ := hn.form
  obtain ⟨B, m, d, rfl, hmm, hmd, hdm⟩ := hl.form
  have HN := hide hn
  have HL := hide hl
  have HNS := hide hns
  have HLS := hide hls
  have HC := hide hc
  clear hn hl hns hls hc
  go_enter Try.func86, Try.ntmps86
  go_wp2_with fail
  go_loopw [9] (fun v9 wr => w = wr ∧ ∃ k : Nat, v9 = .int .i64 k ∧ k ≤ n ∧ (ns.take k).all (fun o => numAt cs o == 0) = true) (fun v9 _ => n - (intOf v9).toNat)
  case atStart => exact ⟨rfl, 0, rfl, Nat.zero_le _, rfl⟩
  case round =>
    obtain ⟨rfl, k, rfl, hk, hz⟩ := hrel
    by_cases hlt : k < n
    · have hkl : k < ns.length := by rw [← hnn.out]; exact hlt
      obtain ⟨g, o, rfl, hcp⟩ := HN.out.at_ k hkl
      obtain ⟨x, hx⟩ := HNS.out ns[k] (List.getElem_mem hkl)
      have hx2 : w.cell? ⟨b, ns[k], none⟩ = some (.int .i64 x) := (HC.out _).trans hx
      have hnx : numAt cs ns[k] = x := by unfold numAt; rw [hx]
      have hki : (k : Int) < (n : Int) := by omega
      have HLT := hide hlt
      have HZ : Hid (x = 0 → (ns.take (k + 1)).all (fun o => numAt cs o == 0) = true) := hide (fun h => all_snoc hkl hz (by simp [hnx, h]))
      have HX : Hid (x ≠ 0 → zeroP cs ns ls = false) := hide (fun h => by
        unfold zeroP
        have : ns.all (fun o => numAt cs o == 0) = false := by
          rw [List.all_eq_false]
          exact ⟨ns[k], List.getElem_mem hkl, by simp [hnx, h]⟩
        rw [this]; rfl)
      generalize ns[k] = ok at *
      clear hz hnx hx hkl hlt
      by_cases h0 : x = 0
      · subst h0
        go_wp2_with fail
        go_roundw
        case rel => exact ⟨trivial, k + 1, by go_num, HLT.out, HZ.out rfl⟩
        case measure => have := HLT.out; simp [intOf]; omega
      · go_wp2_with fail
        go_ret
        exact ⟨by rw [HX.out h0]; rfl, rfl⟩
    · obtain rfl : k = n := by omega
      have HZ1 : Hid (ns.all (fun o => numAt cs o == 0) = true) := hide (by rw [hnn.out, List.take_length] at hz; exact hz)
      clear hz hk hlt
      go_wp2_with fail
      go_loopw [20] (fun v9 wr => w = wr ∧ ∃ j : Nat, v9 = .int .i64 j ∧ j ≤ m ∧ (ls.take j).all (fun o => lenAt cs o == 0) = true) (fun v9 _ => m - (intOf v9).toNat)
      case atStart => exact ⟨rfl, 0, rfl, Nat.zero_le _, rfl⟩
      case round =>
        obtain ⟨rfl, j, rfl, hj, hz⟩ := hrel
        by_cases hlt : j < m
        · have hkl : j < ls.length := by rw [← hmm.out]; exact hlt
          obtain ⟨g, o, rfl, hcp⟩ := HL.out.at_ j hkl
          obtain ⟨Ax, nx, cx, hx⟩ := HLS.out ls[j] (List.getElem_mem hkl)
          have hx2 : w.cell? ⟨b, ls[j], none⟩ = some (.slice Ax nx cx) := (HC.out _).trans hx
          have hnx : lenAt cs ls[j] = nx := by unfold lenAt; rw [hx]
          have hki : (j : Int) < (m : Int) := by omega
          have HLT := hide hlt
          have HZ : Hid (nx = 0 → (ls.take (j + 1)).all (fun o => lenAt cs o == 0) = true) := hide (fun h => all_snoc hkl hz (by simp [hnx, h]))
          have HX : Hid (nx ≠ 0 → zeroP cs ns ls = false) := hide (fun h => by
            unfold zeroP
            have : ls.all (fun o => lenAt cs o == 0) = false := by
              rw [List.all_eq_false]
              exact ⟨ls[j], List.getElem_mem hkl, by simp [hnx, h]⟩
            rw [this]; simp)
          generalize ls[j] = ok at *
          clear hz hnx hx hkl hlt
          by_cases h0 : nx = 0
          · subst h0
            go_wp2_with fail
            go_roundw
            case rel => exact ⟨trivial, j + 1, by go_num, HLT.out, HZ.out rfl⟩
            case measure => have := HLT.out; simp [intOf]; omega
          · have h0i : (0 : Int) < (nx : Int) := by omega
            go_wp2_with fail
            go_ret
            exact ⟨by rw [HX.out h0]; rfl, rfl⟩
        · obtain rfl : j = m := by omega
          have HZ2 : Hid (zeroP cs ns ls = true) := hide (by unfold zeroP; rw [HZ1.out]; rw [hmm.out, List.take_length] at hz; rw [hz]; rfl)
          clear hz hj hlt
          go_wp2_with fail
          go_ret
          exact ⟨by rw [HZ2.out]; rfl, rfl⟩
end Go.Proofs.Ytpbgelhjbfckcaa
/- The fields of a message: what Valid calls. -/
namespace Go.Proofs.Ytpbgelhjbfckcaa
open Go.ChangeShapes Go.WideShapes Go.ChangeAt Go.RowKit
set_option linter.unusedVariables false
set_option linter.unusedSimpArgs false

theorem ba_empty (s : ByteArray) : s.toList.isEmpty = decide (s.size = 0) := by
  rw [ByteArray.toList_eq]
  obtain ⟨a⟩ := s
  show a.toList.isEmpty = decide (a.size = 0)
  rw [Array.size_eq_length_toList]
  cases a.toList <;> simp
theorem bzero_c (bm b : Nat) (s : ByteArray) (w : World) (h1 : w.cell? ⟨bm, 0, none⟩ = some (at0 b)) (h2 : w.cell? ⟨b, 5, none⟩ = some (.string s)) :
    Calls Try.prog 65 #[at0 bm] w fun e w' => e = .returned (.bool (decide (s.size = 0))) ∧ w = w' := by
  go_enter Try.func65, Try.ntmps65
  go_wp2_with fail
  go_ret
  exact ⟨by rw [← ba_empty]; rfl, rfl⟩
theorem bvalid_c (bm b : Nat) (s : ByteArray) (w : World) (h1 : w.cell? ⟨bm, 0, none⟩ = some (at0 b)) (h2 : w.cell? ⟨b, 5, none⟩ = some (.string s)) :
    Calls Try.prog 66 #[at0 bm] w fun e w' => e = .returned (.bool (decide (s.size ≤ 4096))) ∧ w = w' := by
  go_enter Try.func66, Try.ntmps66
  go_wp2_with fail
  go_ret
  exact ⟨by congr 2; simp; omega, rfl⟩
theorem vzero_c (bm b : Nat) (x : Int) (w : World) (h1 : w.cell? ⟨bm, 0, none⟩ = some (at0 b)) (h2 : w.cell? ⟨b, 17, none⟩ = some (.int .i64 x)) :
    Calls Try.prog 69 #[at0 bm] w fun e w' => e = .returned (.bool (decide (x = 0))) ∧ w = w' := by
  go_enter Try.func69, Try.ntmps69
  go_wp2_with fail
  go_ret
  exact ⟨by simp [BEq.beq], rfl⟩
theorem all_snocI {p : Int → Bool} {l : List Int} {k : Nat} (hk : k < l.length) (hz : (l.take k).all p = true) (h : p l[k] = true) : (l.take (k + 1)).all p = true := by
  rw [List.take_add_one, List.getElem?_eq_getElem hk, List.all_append, hz]
  simp [h]
/-- A message of a group is zero. -/
def gmZ (l : List Int) (gr dn : Bool) : Bool := l.all (· == 0) && !gr && !dn
theorem size_gm : (Try.prog.info? 39).map (·.size) = some 13 := by kernel_rfl
set_option maxRecDepth 100000 in
set_option maxHeartbeats 4000000 in
theorem isZero_c (i0 i1 i2 i3 i4 i5 i6 i7 i8 : Int) (gr dn : Bool) (A : Option Addr) (n c : Nat) (d : ByteArray) (w : World) :
    Calls Try.prog 76 #[.agg ([.int .i64 i0, .int .i64 i1, .int .i64 i2, .int .i64 i3, .int .i64 i4, .int .i64 i5, .int .i64 i6, .int .i64 i7, .bool gr, .slice A n c, .int .i64 i8, .string d, .bool dn] : List Value).toArray] w fun e w' => e = .returned (.bool (gmZ [i0, i1, i2, i3, i4, i5, i6, i7, i8, (n : Int), (d.size : Int)] gr dn)) ∧ Below w.heap.size w w' := by
  have HO := hide (Own.nil w [] (by simp))
  go_enter Try.func76, Try.ntmps76
  go_wp2_with (first
    | ((with_reducible refine at_box 39 (.tmp 0) ?_); refine wpList_box_own HO.out rfl 39 (.tmp 0) rfl ([.int .i64 i0, .int .i64 i1, .int .i64 i2, .int .i64 i3, .int .i64 i4, .int .i64 i5, .int .i64 i6, .int .i64 i7, .bool gr, .slice A n c, .int .i64 i8, .string d, .bool dn]) rfl ?_; intro WA b hO; replace HO := hide hO; clear hO; have k0 := HO.out.cells 0 rfl))
  obtain ⟨l, hl⟩ : ∃ l : List Int, [i0, i1, i2, i3, i4, i5, i6, i7, i8, (n : Int), (d.size : Int)] = l := ⟨_, rfl⟩
  have hll : l.length = 11 := by rw [← hl]; rfl
  have hcl : ∀ k (h : k < l.length), (WA.alloc (.cells ([.int .i64 i0, .int .i64 i1, .int .i64 i2, .int .i64 i3, .int .i64 i4, .int .i64 i5, .int .i64 i6, .int .i64 i7, .int .i64 i8, .int .i64 (n : Int), .int .i64 (d.size : Int)] : List Value).toArray 3)).cell? ⟨WA.heap.size, k, none⟩ = some (.int .i64 l[k]) := fun k h => by
    rw [(Blk.new WA 3 ([.int .i64 i0, .int .i64 i1, .int .i64 i2, .int .i64 i3, .int .i64 i4, .int .i64 i5, .int .i64 i6, .int .i64 i7, .int .i64 i8, .int .i64 (n : Int), .int .i64 (d.size : Int)] : List Value).toArray).cell k]
    have e : ([.int .i64 i0, .int .i64 i1, .int .i64 i2, .int .i64 i3, .int .i64 i4, .int .i64 i5, .int .i64 i6, .int .i64 i7, .int .i64 i8, .int .i64 (n : Int), .int .i64 (d.size : Int)] : List Value) = l.map (.int .i64 ·) := by rw [← hl]; rfl
    rw [e]
    simp [h]
  have hfin := (HO.out.alloc (.cells ([.int .i64 i0, .int .i64 i1, .int .i64 i2, .int .i64 i3, .int .i64 i4, .int .i64 i5, .int .i64 i6, .int .i64 i7, .int .i64 i8, .int .i64 (n : Int), .int .i64 (d.size : Int)] : List Value).toArray 3))
  generalize WA.heap.size = bs at hcl ⊢
  generalize WA.alloc (.cells ([.int .i64 i0, .int .i64 i1, .int .i64 i2, .int .i64 i3, .int .i64 i4, .int .i64 i5, .int .i64 i6, .int .i64 i7, .int .i64 i8, .int .i64 (n : Int), .int .i64 (d.size : Int)] : List Value).toArray 3) = w1 at hcl hfin ⊢
  have HL := hide hl
  have HLL := hide hll
  have HCL := hide hcl
  have HO1 := hide hfin
  clear hl hll hcl hfin HO k0
  go_loopw [33] (fun v9 wr => w1 = wr ∧ ∃ k : Nat, v9 = .int .i64 k ∧ k ≤ 11 ∧ (l.take k).all (· == 0) = true) (fun v9 _ => 11 - (intOf v9).toNat)
  case atStart => exact ⟨rfl, 0, rfl, Nat.zero_le _, rfl⟩
  case round =>
    obtain ⟨rfl, k, rfl, hk, hz⟩ := hrel
    by_cases hlt : k < 11
    · have hkl : k < l.length := by rw [HLL.out]; exact hlt
      have hcp := HCL.out k hkl
      have hki : (k : Int) < 11 := by omega
      have HLT := hide hlt
      have HZ : Hid (l[k] = 0 → (l.take (k + 1)).all (· == 0) = true) := hide (fun h => all_snocI hkl hz (by simp [h]))
      have HX : Hid (l[k] ≠ 0 → gmZ l gr dn = false) := hide (fun h => by
        unfold gmZ
        have : l.all (· == 0) = false := by
          rw [List.all_eq_false]
          exact ⟨l[k], List.getElem_mem hkl, by simp [h]⟩
        rw [this]; rfl)
      generalize l[k] = x at *
      clear hz hkl hlt
      by_cases h0 : x = 0
      · subst h0
        go_wp2_with fail
        go_roundw
        case rel => exact ⟨trivial, k + 1, by go_num, HLT.out, HZ.out rfl⟩
        case measure => have := HLT.out; simp [intOf]; omega
      · go_wp2_with fail
        go_ret
        exact ⟨by rw [HL.out, HX.out h0]; rfl, HO1.out.below⟩
    · obtain rfl : k = 11 := by omega
      have HZ1 : Hid (l.all (· == 0) = true) := hide (by rw [List.take_of_length_le (by rw [HLL.out]; exact Nat.le_refl _)] at hz; exact hz)
      have k0 := HO1.out.cells 0 rfl
      clear hz hk hlt
      cases gr with
      | true =>
        go_wp2_with fail
        go_ret
        exact ⟨by rw [HL.out]; unfold gmZ; rw [HZ1.out]; rfl, HO1.out.below⟩
      | false =>
        go_wp2_with fail
        go_ret
        exact ⟨by rw [HL.out]; unfold gmZ; rw [HZ1.out]; simp, HO1.out.below⟩
end Go.Proofs.Ytpbgelhjbfckcaa
