/- A slice literal of one struct in a region; joining two orders. -/
import Derived.Test.YtpbgelhjbfckcaaAt
import Derived.Great.BuildSlice
namespace Go.Proofs.Ytpbgelhjbfckcaa
open Go.ChangeShapes Go.WideShapes Go.ChangeAt Go.RowKit
set_option linter.unusedVariables false
theorem have_tail2 {goal : Prop} {G I : Nat → World → Prop} (main : (∀ b w, I b w → G b w) → goal) (tl : ∀ b w, I b w → G b w) : goal := main tl
theorem step_slice_own {P : Program} {w w0 : World} {S : List Nat} {L : List (Nat × TypeId × List Value)} {ops : Array Oper} {op : Oper} {a : Act} {Q : Exit → Act → World → Prop} {K : Act → World → Prop} {E : Prop}
    (HO : Own w0 S L w) (hgd : op.guard = none) (t e : TypeId) (len : Nat) (parts : Array (Nat × Operand)) (ho : op.op = .buildSlice t len parts) (hu : P.underlying t = some (.slice e)) (cs : List Value)
    (hf : P.builtSlice e len (parts.map fun (i, x) => (i, a.eval x)).toList = some cs.toArray)
    (h : ∀ w' b, Own w0 S (L ++ [(b, e, cs)]) w' → K (a.put op.dst (.slice (some ⟨b, 0, none⟩) len len)) w') : if Region.wanted op (yielded ops a.tmps) = true then Oper.wp P op a w K Q else E := by
  have hw : Region.wanted op (yielded ops a.tmps) = true := by simp [Region.wanted, hgd]
  rw [if_pos hw]
  have hp : (Instr.buildSlice t len (parts.map fun (i, x) => (i, a.eval x))).run P w = .ok (.slice (some ⟨w.heap.size, 0, none⟩) len len) (w.alloc (.cells cs.toArray e)) := by
    unfold Program.builtSlice at hf
    cases hie : P.info? e with
    | none => simp [hie] at hf
    | some ie =>
      cases hz : ie.zero with
      | none => simp [hie, hz] at hf
      | some z =>
        simp only [hie, hz] at hf
        split at hf
        · cases hf
        · rename_i hn
          exact run_buildSlice w t e len _ _ ie z hu hie hz (fun h => hn (.inl h)) (fun h => hn (.inr h)) hf
  unfold Oper.wp execOp
  simp only [ho, Sem.run_bind, hp, Result.andThen_ok]
  exact h _ _ (HO.push (Blk.new w e cs.toArray) ((Below.refl _ _).alloc (Nat.le_refl _) _))
end Go.Proofs.Ytpbgelhjbfckcaa
