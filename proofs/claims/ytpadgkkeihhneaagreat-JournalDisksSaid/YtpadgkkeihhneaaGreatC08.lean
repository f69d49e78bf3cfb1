/- More steps on the blocks that a call has laid: where a new block lies; a call that turns others. -/
import Derived.Test.YtpadgkkeihhneaaGreatC06
namespace Go.Proofs.YtpadgkkeihhneaaGreat
set_option maxRecDepth 100000
set_option linter.unusedSimpArgs false
set_option linter.unusedVariables false
open Go.ChangeShapes Go.WideShapes Go.ChangeAt Go.RowKit
/-- A call that turns blocks which are new and not among those of L. -/
theorem Own.away {w0 W W' : World} {S T : List Nat} {L : List (Nat × TypeId × List Value)} (h : Own w0 S L W) (ht : Touch T W W') (hT : ∀ s ∈ T, s ∈ S ∨ (w0.heap.size ≤ s ∧ s ∉ L.map (·.1))) : Own w0 S L W' :=
 ⟨fun e he => ⟨(h.has e he).1.touch ht (fun hm => by
  rcases hT _ hm with h1 | ⟨_, h1⟩
  ·have := h.old _ h1; have := (h.has e he).2; omega
  ·exact h1 (List.mem_map.2 ⟨e, he, rfl⟩)), (h.has e he).2⟩, h.apart, h.touch.next ht (fun t hm => (hT t hm).imp id (·.1)), h.old⟩
section
variable {P : Program} {w w0 W : World} {S : List Nat} {L M : List (Nat × TypeId × List Value)} {ops : Array Oper} {rest : List Oper} {op : Oper} {a : Act} {Q : Exit → Act → World → Prop} {K : Act → World → Prop} {E : Prop}
theorem wpList_alloc_own_n (HO : Own w0 S L w) (hgd : op.guard = none) (t : TypeId) (ho : op.op = .alloc t) (cs : List Value) (hi : (P.info? t).map (·.zero) = some (some (.agg cs.toArray)))
 (h : ∀ w' b, b = w.heap.size → Own w0 S (L ++ [(b, t, cs)]) w' → Below w.heap.size w w' → wpList P ops Q rest (a.put op.dst (.pointer (some ⟨b, 0, none⟩))) w') : wpList P ops Q (op :: rest) a w :=
 wpList_alloc_blk hgd t ho cs.toArray hi fun w' h1 h2 _ => h w' _ rfl (HO.push h1 h2) h2
theorem step_alloc_own_n (HO : Own w0 S L w) (hw : Region.wanted op (yielded ops a.tmps) = true) (t : TypeId) (ho : op.op = .alloc t) (cs : List Value) (hi : (P.info? t).map (·.zero) = some (some (.agg cs.toArray)))
 (h : ∀ w' b, b = w.heap.size → Own w0 S (L ++ [(b, t, cs)]) w' → Below w.heap.size w w' → K (a.put op.dst (.pointer (some ⟨b, 0, none⟩))) w') : if Region.wanted op (yielded ops a.tmps) = true then Oper.wp P op a w K Q else E := by
 rw [if_pos hw]
 unfold Oper.wp execOp
 simp only [ho, Sem.run_bind, run_alloc hi, Result.andThen_ok]
 exact h _ _ rfl (HO.push (Blk.new w t cs.toArray) ((Below.refl _ _).alloc (Nat.le_refl _) _)) ((Below.refl _ _).alloc (Nat.le_refl _) _)
end
theorem splice_set {l : List Value} (o : Nat) (v : Value) (h : o < l.length) : l.take o ++ [v] ++ l.drop (o + 1) = l.set o v := by
 rw [List.set_eq_take_append_cons_drop, if_pos h]; simp
end Go.Proofs.YtpadgkkeihhneaaGreat
