/- Whole blocks: a struct that is stored to, loaded from, handed back; the world behind a store goes by a name of its own. -/
import Derived.Test.YtpbgelhjbfckcaaTouch
import Derived.Deep.MidRow
import Derived.Deep.Upon
import Derived.Lib.EndianMore
namespace Go.Proofs.Ytpbgelhjbfckcaa
open Go.ChangeShapes Go.WideShapes Go.ChangeAt Go.RowKit
set_option linter.unusedVariables false

theorem Blk.setCells {g : Nat} {t : TypeId} : ∀ (vs : List Value) (o : Nat) (w : World) (cs : Array Value), Blk w g t cs → o + vs.length ≤ cs.size →
    Blk (w.setCells g o vs) g t (cs.toList.take o ++ vs ++ cs.toList.drop (o + vs.length)).toArray
  | [], o, w, cs, h, hl => by
    have e : (cs.toList.take o ++ [] ++ cs.toList.drop (o + ([] : List Value).length)).toArray = cs := by simp
    rw [e]; exact h
  | v :: vs, o, w, cs, h, hl => by
    have h2 := Blk.setCells vs (o + 1) (w.setCell ⟨g, o, none⟩ v) _ (h.put o v) (by simp at hl ⊢; omega)
    have e : ((cs.setIfInBounds o v).toList.take (o + 1) ++ vs ++ (cs.setIfInBounds o v).toList.drop (o + 1 + vs.length)).toArray = (cs.toList.take o ++ (v :: vs) ++ cs.toList.drop (o + (v :: vs).length)).toArray := by
      congr 1
      have ho : o < cs.toList.length := by simp at hl ⊢; omega
      rw [Array.toList_setIfInBounds, List.drop_set_of_lt (by omega), List.take_succ_eq_append_getElem (by simpa using ho), List.take_set_of_le (Nat.le_refl _)]
      simp
      rw [show o + 1 + vs.length = o + (vs.length + 1) by omega]
    rw [e] at h2
    exact h2
theorem Blk.stored {w : World} {g : Nat} {t : TypeId} {old new : Array Value} (h : Blk w g t old) (hs : new.size = old.size) : Blk (w.setCells g 0 new.toList) g t new := by
  have h2 := Blk.setCells new.toList 0 w old h (by simp [hs])
  have e : (old.toList.take 0 ++ new.toList ++ old.toList.drop (0 + new.toList.length)).toArray = new := by
    rw [List.drop_eq_nil_of_le (by simp [hs])]
    simp
  rw [e] at h2
  exact h2
theorem Blk.there {w : World} {g : Nat} {t : TypeId} {cs : Array Value} (h : Blk w g t cs) {n : Nat} (hn : n = cs.size) : w.there g 0 n := fun j hj => by
  rw [Nat.zero_add, h.cell j, h.froz j]
  exact ⟨by rw [Array.getElem?_eq_getElem (by omega)]; rfl, rfl⟩
theorem touch_setCells (w : World) (g o : Nat) (vs : List Value) : Touch [g] w (w.setCells g o vs) ∧ (w.setCells g o vs).heap.size = w.heap.size := by
  induction vs generalizing w o with
  | nil => exact ⟨Touch.refl _ _, rfl⟩
  | cons v vs ih =>
    have h := ih (w.setCell ⟨g, o, none⟩ v) (o + 1)
    have k : Touch [g] w (w.setCell ⟨g, o, none⟩ v) := (Touch.refl [g] w).set (by simp) o v
    exact ⟨k.trans h.1, h.2.trans (by simp [World.setCell])⟩

/-- A struct is stored into a block that holds just it: the world behind goes by a name. -/
theorem wpList_store_blk {P : Program} {w : World} {ops : Array Oper} {rest : List Oper} {op : Oper} {a : Act} {Q : Exit → Act → World → Prop} (hgd : op.guard = none) (ty : TypeId) (x y : Operand) (ho : op.op = .store ty x y)
    (g : Nat) (t : TypeId) (old new : Array Value) (hx : a.eval x = .pointer (some ⟨g, 0, none⟩)) (hy : a.eval y = .agg new) (hb : Blk w g t old) (hs : new.size = old.size)
    (hi : (P.info? ty).map (·.size) = some new.size) (h1 : new.all (·.oneCell') = true)
    (h : ∀ w', Blk w' g t new → Touch [g] w w' → w'.heap.size = w.heap.size → wpList P ops Q rest (a.put op.dst undef) w') : wpList P ops Q (op :: rest) a w :=
  wpList_store_mid hgd ty x y ho g 0 new hx hy (hb.there hs) hi h1 (h _ (hb.stored hs) (touch_setCells w g 0 _).1 (touch_setCells w g 0 _).2)
theorem wpList_load_blk {P : Program} {w : World} {ops : Array Oper} {rest : List Oper} {o : Oper} {a : Act} {Q : Exit → Act → World → Prop} (hgd : o.guard = none) (ty : TypeId) (x : Operand) (ho : o.op = .load ty x)
    (g : Nat) (t : TypeId) (cs : Array Value) (d : TypeDesc) (hx : a.eval x = .pointer (some ⟨g, 0, none⟩)) (hb : Blk w g t cs)
    (hu : P.underlying ty = some d) (hd : (match d with | .struct _ | .array _ _ => true | _ => false) = true) (hi : (P.info? ty).map (·.size) = some cs.size)
    (h : wpList P ops Q rest (a.put o.dst (.agg cs)) w) : wpList P ops Q (o :: rest) a w := wpList_load_row hgd ty x ho g hx t cs (0, 0) d hb hu hd hi h
theorem step_store_blk {P : Program} {w : World} {ops : Array Oper} {o : Oper} {a : Act} {K : Act → World → Prop} {Q : Exit → Act → World → Prop} {E : Prop} (hgd : o.guard = none) (ty : TypeId) (x y : Operand) (ho : o.op = .store ty x y)
    (g : Nat) (t : TypeId) (old new : Array Value) (hx : a.eval x = .pointer (some ⟨g, 0, none⟩)) (hy : a.eval y = .agg new) (hb : Blk w g t old) (hs : new.size = old.size)
    (hi : (P.info? ty).map (·.size) = some new.size) (h1 : new.all (·.oneCell') = true)
    (h : ∀ w', Blk w' g t new → Touch [g] w w' → w'.heap.size = w.heap.size → K (a.put o.dst undef) w') :
    if Region.wanted o (yielded ops a.tmps) = true then Oper.wp P o a w K Q else E := by
  have hw : Region.wanted o (yielded ops a.tmps) = true := by simp [Region.wanted, hgd]
  rw [if_pos hw]
  exact wp_store_mid ty x y ho g 0 new hx hy (hb.there hs) hi h1 (h _ (hb.stored hs) (touch_setCells w g 0 _).1 (touch_setCells w g 0 _).2)

theorem results_row_tmp {P : Program} {fn : Func} {p u : Tmp} {ty : TypeId} (h : fn.results = #[.cell p ty, .tmp u]) (tmps : Array Value) (w : World) (g : Nat) (t : TypeId) (cs : Array Value) (fr : Nat × Nat) (d : TypeDesc) (v : Value)
    (hp : tmps.getD p undef = .pointer (some ⟨g, 0, none⟩)) (hv : tmps.getD u undef = v) (hg : w.heap[g]? = some (.cells cs t fr))
    (hu : P.underlying ty = some d) (hd : (match d with | .struct _ | .array _ _ => true | _ => false) = true) (hi : (P.info? ty).map (·.size) = some cs.size) :
    (results fn tmps).run P w = .ok (.tuple #[.agg cs, v]) w := by
  have hp' : tmps[p]?.getD undef = .pointer (some ⟨g, 0, none⟩) := by simpa using hp
  have hv' : tmps[u]?.getD undef = v := by simpa using hv
  simp [results, h, hp', hv', asAddr, run_loadVar_row w g t ty cs fr d hg hu hd hi]
theorem results_tmp_row_tmp {P : Program} {fn : Func} {s p u : Tmp} {ty : TypeId} (h : fn.results = #[.tmp s, .cell p ty, .tmp u]) (tmps : Array Value) (w : World) (g : Nat) (t : TypeId) (cs : Array Value) (fr : Nat × Nat) (d : TypeDesc) (v0 v : Value)
    (hs : tmps.getD s undef = v0) (hp : tmps.getD p undef = .pointer (some ⟨g, 0, none⟩)) (hv : tmps.getD u undef = v) (hg : w.heap[g]? = some (.cells cs t fr))
    (hu : P.underlying ty = some d) (hd : (match d with | .struct _ | .array _ _ => true | _ => false) = true) (hi : (P.info? ty).map (·.size) = some cs.size) :
    (results fn tmps).run P w = .ok (.tuple #[v0, .agg cs, v]) w := by
  have hs' : tmps[s]?.getD undef = v0 := by simpa using hs
  have hp' : tmps[p]?.getD undef = .pointer (some ⟨g, 0, none⟩) := by simpa using hp
  have hv' : tmps[u]?.getD undef = v := by simpa using hv
  simp [results, h, hs', hp', hv', asAddr, run_loadVar_row w g t ty cs fr d hg hu hd hi]
end Go.Proofs.Ytpbgelhjbfckcaa
