/- Steps on the blocks that a call has laid, with what turned; lists of such blocks taken apart. -/
import Derived.Test.YtpbgelhjbfckcaaAt2
namespace Go.Proofs.Ytpbgelhjbfckcaa
open Go.ChangeShapes Go.WideShapes Go.ChangeAt Go.RowKit
set_option linter.unusedVariables false

section
variable {P : Program} {w w0 W : World} {S : List Nat} {L M : List (Nat × TypeId × List Value)} {ops : Array Oper} {rest : List Oper} {op : Oper} {a : Act} {Q : Exit → Act → World → Prop} {K : Act → World → Prop} {E : Prop}
theorem Own.sub (h : Own w0 S L W) (hs : M.Sublist L) : Own w0 S M W := ⟨fun e he => h.has e (hs.mem he), h.apart.sublist (hs.map _), h.touch, h.old⟩
theorem Own.perm (h : Own w0 S L W) (hp : L.Perm M) : Own w0 S M W := ⟨fun e he => h.has e (hp.mem_iff.2 he), (hp.map _).nodup_iff.1 h.apart, h.touch, h.old⟩
theorem Own.swap {x y : Nat × TypeId × List Value} (h : Own w0 S (L ++ [x] ++ [y]) W) : Own w0 S (L ++ [y] ++ [x]) W := h.perm (by
  rw [List.append_assoc, List.append_assoc]
  exact (List.Perm.swap y x []).append_left L)
theorem wpList_store_own_t (HO : Own w0 S L w) (hgd : op.guard = none) (ty : TypeId) (x y : Operand) (ho : op.op = .store ty x y) (i g o : Nat) (t : TypeId) (old vs new : List Value) (hL : L[i]? = some (g, t, old))
    (v : Value) (hx : a.eval x = .pointer (some ⟨g, o, none⟩)) (hy : a.eval y = v) (hv : Fits v vs) (hs : o + vs.length ≤ old.length) (hn : old.take o ++ vs ++ old.drop (o + vs.length) = new)
    (hi : (P.info? ty).map (·.size) = some vs.length) (h1 : vs.all (·.oneCell') = true)
    (h : ∀ w', Own w0 S (L.set i (g, t, new)) w' → Blk w g t old.toArray → Touch [g] w w' → wpList P ops Q rest (a.put op.dst undef) w') : wpList P ops Q (op :: rest) a w := wpList_plain hgd fun K hK => by
  unfold Oper.wp execOp
  simp only [ho, hx, hy, Sem.run_bind, run_store_own hv (HO.blk i hL) hs hi h1, Result.andThen_ok]
  exact hK _ _ (h _ (own_store HO i hL hs hn) (HO.blk i hL) (touch_setCells w g o _).1)
theorem step_store_own_t (HO : Own w0 S L w) (hw : Region.wanted op (yielded ops a.tmps) = true) (ty : TypeId) (x y : Operand) (ho : op.op = .store ty x y) (i g o : Nat) (t : TypeId) (old vs new : List Value) (hL : L[i]? = some (g, t, old))
    (v : Value) (hx : a.eval x = .pointer (some ⟨g, o, none⟩)) (hy : a.eval y = v) (hv : Fits v vs) (hs : o + vs.length ≤ old.length) (hn : old.take o ++ vs ++ old.drop (o + vs.length) = new)
    (hi : (P.info? ty).map (·.size) = some vs.length) (h1 : vs.all (·.oneCell') = true)
    (h : ∀ w', Own w0 S (L.set i (g, t, new)) w' → Blk w g t old.toArray → Touch [g] w w' → K (a.put op.dst undef) w') : if Region.wanted op (yielded ops a.tmps) = true then Oper.wp P op a w K Q else E := by
  rw [if_pos hw]
  unfold Oper.wp execOp
  simp only [ho, hx, hy, Sem.run_bind, run_store_own hv (HO.blk i hL) hs hi h1, Result.andThen_ok]
  exact h _ (own_store HO i hL hs hn) (HO.blk i hL) (touch_setCells w g o _).1
theorem wpList_alloc_own_t (HO : Own w0 S L w) (hgd : op.guard = none) (t : TypeId) (ho : op.op = .alloc t) (cs : List Value) (hi : (P.info? t).map (·.zero) = some (some (.agg cs.toArray)))
    (h : ∀ w' b, Own w0 S (L ++ [(b, t, cs)]) w' → Below w.heap.size w w' → wpList P ops Q rest (a.put op.dst (.pointer (some ⟨b, 0, none⟩))) w') : wpList P ops Q (op :: rest) a w :=
  wpList_alloc_blk hgd t ho cs.toArray hi fun w' h1 h2 _ => h w' _ (HO.push h1 h2) h2
theorem wpList_box_own_t (HO : Own w0 S L w) (hgd : op.guard = none) (t : TypeId) (x : Operand) (ho : op.op = .box t x) (cs : List Value) (hx : a.eval x = .agg cs.toArray)
    (h : ∀ w' b, Own w0 S (L ++ [(b, t, cs)]) w' → Below w.heap.size w w' → wpList P ops Q rest (a.put op.dst (.pointer (some ⟨b, 0, none⟩))) w') : wpList P ops Q (op :: rest) a w :=
  wpList_box_blk hgd t x ho cs.toArray hx fun w' h1 h2 _ => h w' _ (HO.push h1 h2) h2
theorem step_slice_own_t (HO : Own w0 S L w) (hw : Region.wanted op (yielded ops a.tmps) = true) (t e : TypeId) (len : Nat) (parts : Array (Nat × Operand)) (ho : op.op = .buildSlice t len parts) (hu : P.underlying t = some (.slice e)) (cs : List Value)
    (hf : P.builtSlice e len (parts.map fun (i, x) => (i, a.eval x)).toList = some cs.toArray)
    (h : ∀ w' b, Own w0 S (L ++ [(b, e, cs)]) w' → Below w.heap.size w w' → K (a.put op.dst (.slice (some ⟨b, 0, none⟩) len len)) w') : if Region.wanted op (yielded ops a.tmps) = true then Oper.wp P op a w K Q else E := by
  rw [if_pos hw]
  have hp : (Instr.buildSlice t len (parts.map fun (i, x) => (i, a.eval x))).run P w = .ok (.slice (some ⟨w.heap.size, 0, none⟩) len len) (w.alloc (.cells cs.toArray e)) := by
    unfold Program.builtSlice at hf
    cases hie : P.info? e with
    | none => simp [hie] at hf
    | some ie =>
      cases hz : ie.zero with
      | none => simp [hie, hz] at hf
      | some z =>
        simp only [hie, hz] at hf
        split at hf
        · cases hf
        · rename_i hn
          exact run_buildSlice w t e len _ _ ie z hu hie hz (fun h => hn (.inl h)) (fun h => hn (.inr h)) hf
  unfold Oper.wp execOp
  simp only [ho, Sem.run_bind, hp, Result.andThen_ok]
  exact h _ _ (HO.push (Blk.new w e cs.toArray) ((Below.refl _ _).alloc (Nat.le_refl _) _)) ((Below.refl _ _).alloc (Nat.le_refl _) _)
end
theorem tail_0 {goal : Prop} {G I : World → Prop} (main : (∀ w, I w → G w) → goal) (tl : ∀ w, I w → G w) : goal := main tl
theorem tail_1 {goal : Prop} {G I : Nat → World → Prop} (main : (∀ b w, I b w → G b w) → goal) (tl : ∀ b w, I b w → G b w) : goal := main tl
theorem tail_2 {goal : Prop} {G I : Nat → Nat → World → Prop} (main : (∀ b c w, I b c w → G b c w) → goal) (tl : ∀ b c w, I b c w → G b c w) : goal := main tl
theorem tail_3 {goal : Prop} {G I : Nat → Nat → Nat → World → Prop} (main : (∀ b c d w, I b c d w → G b c d w) → goal) (tl : ∀ b c d w, I b c d w → G b c d w) : goal := main tl
end Go.Proofs.Ytpbgelhjbfckcaa
