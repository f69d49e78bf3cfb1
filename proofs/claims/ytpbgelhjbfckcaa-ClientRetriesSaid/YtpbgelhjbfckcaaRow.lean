/- Variables that hold a whole struct: one is laid, one is built; the world behind goes by a name. -/
import Derived.Test.YtpbgelhjbfckcaaStore
namespace Go.Proofs.Ytpbgelhjbfckcaa
open Go.ChangeShapes Go.WideShapes Go.ChangeAt Go.RowKit
set_option linter.unusedVariables false

theorem wpList_build {P : Program} {w : World} {ops : Array Oper} {rest : List Oper} {o : Oper} {a : Act} {Q : Exit → Act → World → Prop} (hgd : o.guard = none) (t : TypeId) (parts : Array (Nat × Operand)) (ho : o.op = .build t parts)
    (vs : List (Nat × Value)) (he : (parts.map fun (i, x) => (i, a.eval x)).toList = vs) (cells : Array Value) (hc : P.built t vs = some cells)
    (h : wpList P ops Q rest (a.put o.dst (.agg cells)) w) : wpList P ops Q (o :: rest) a w := wpList_plain hgd fun K hK => by
  unfold Oper.wp execOp
  subst he
  simp only [ho, Sem.run_bind, run_build w t _ cells hc, Result.andThen_ok]
  exact hK _ _ h
theorem run_alloc {P : Program} {w : World} {t : TypeId} {cs : Array Value} (hi : (P.info? t).map (·.zero) = some (some (.agg cs))) : (Instr.alloc t true (.tuple #[])).run P w = .ok (.pointer (some ⟨w.heap.size, 0, none⟩)) (w.alloc (.cells cs t)) := by
  obtain ⟨i, hi1, hi2⟩ := Option.map_eq_some_iff.mp hi
  simp [Instr.alloc, zeroValue, typeInfo, hi1, hi2, Value.cells, newVar, newRow, go_sem]
theorem wpList_alloc_blk {P : Program} {w : World} {ops : Array Oper} {rest : List Oper} {o : Oper} {a : Act} {Q : Exit → Act → World → Prop} (hgd : o.guard = none) (t : TypeId) (ho : o.op = .alloc t)
    (cs : Array Value) (hi : (P.info? t).map (·.zero) = some (some (.agg cs)))
    (h : ∀ w', Blk w' w.heap.size t cs → Below w.heap.size w w' → w'.heap.size = w.heap.size + 1 → wpList P ops Q rest (a.put o.dst (.pointer (some ⟨w.heap.size, 0, none⟩))) w') : wpList P ops Q (o :: rest) a w := wpList_plain hgd fun K hK => by
  unfold Oper.wp execOp
  simp only [ho, Sem.run_bind, run_alloc hi, Result.andThen_ok]
  exact hK _ _ (h _ (Blk.new w t cs) ((Below.refl _ _).alloc (Nat.le_refl _) _) (by simp))
theorem run_box {P : Program} {w : World} {t : TypeId} {cs : Array Value} : (Instr.box t (.agg cs)).run P w = .ok (.pointer (some ⟨w.heap.size, 0, none⟩)) (w.alloc (.cells cs t)) := by
  simp [Instr.box, Value.cells, newVar, newRow, go_sem]
theorem wpList_box_blk {P : Program} {w : World} {ops : Array Oper} {rest : List Oper} {o : Oper} {a : Act} {Q : Exit → Act → World → Prop} (hgd : o.guard = none) (t : TypeId) (x : Operand) (ho : o.op = .box t x)
    (cs : Array Value) (hx : a.eval x = .agg cs)
    (h : ∀ w', Blk w' w.heap.size t cs → Below w.heap.size w w' → w'.heap.size = w.heap.size + 1 → wpList P ops Q rest (a.put o.dst (.pointer (some ⟨w.heap.size, 0, none⟩))) w') : wpList P ops Q (o :: rest) a w := wpList_plain hgd fun K hK => by
  unfold Oper.wp execOp
  simp only [ho, hx, Sem.run_bind, run_box, Result.andThen_ok]
  exact hK _ _ (h _ (Blk.new w t cs) ((Below.refl _ _).alloc (Nat.le_refl _) _) (by simp))
theorem have_tail1 {goal : Prop} {G I : World → Prop} (main : (∀ w, I w → G w) → goal) (tl : ∀ w, I w → G w) : goal := main tl
end Go.Proofs.Ytpbgelhjbfckcaa
