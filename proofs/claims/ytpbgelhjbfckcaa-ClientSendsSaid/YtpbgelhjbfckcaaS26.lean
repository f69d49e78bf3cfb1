/- ClientEnds: the plain lemmas; a slice literal of one operation. -/
import Derived.Test.YtpbgelhjbfckcaaS25
namespace Go.Proofs.Ytpbgelhjbfckcaa
open Go.ChangeShapes Go.WideShapes Go.ChangeAt Go.RowKit
set_option linter.unusedVariables false
set_option linter.unusedSimpArgs false

theorem ends_true {S : CS} (hA : Asks S) (m : MV) (frm : Int) (h : (cReceive S m frm).ends = true) :
    ∃ k g b v, S.opened = some (req k g S.id S.number b v) ∧ m.group = g ∧ m.client = S.id ∧ m.number = S.number ∧ (m.code = 0 ∨ m.code = 1) ∧ cReceive S m frm = ⟨{ S with opened := none }, true, none⟩ := by
  unfold cReceive at h ⊢
  cases ho : S.opened with
  | none => rw [ho] at h; cases h
  | some cs =>
    rw [ho] at h
    obtain ⟨k, g, b, v, rfl, hk⟩ := hA cs ho
    have h' : (if answersB S k g m = true then cAnswered S (req k g S.id S.number b v) m frm else (⟨S, false, none⟩ : RecV)).ends = true := h
    refine ⟨k, g, b, v, rfl, ?_⟩
    show _ ∧ _ ∧ _ ∧ _ ∧ (if answersB S k g m = true then cAnswered S (req k g S.id S.number b v) m frm else (⟨S, false, none⟩ : RecV)) = _
    split at h'
    · rename_i hB
      rw [if_pos hB]
      unfold answersB at hB
      simp only [decide_eq_true_eq] at hB
      unfold cAnswered at h' ⊢
      split at h'
      · rename_i hc
        rw [if_pos hc]
        exact ⟨hB.1, hB.2.1, hB.2.2.1, hc, rfl⟩
      · split at h'
        · cases h'
        · cases h'
    · cases h'
theorem ends_false {S : CS} (hA : Asks S) (m : MV) (frm : Int) (h : (cReceive S m frm).ends = false) : openOf (cReceive S m frm).st = openOf S := by
  have e : (cReceive S m frm).st.opened = S.opened := by
    unfold cReceive at h ⊢
    cases ho : S.opened with
    | none => exact ho
    | some cs =>
      rw [ho] at h
      obtain ⟨k, g, b, v, rfl, hk⟩ := hA cs ho
      have h' : (if answersB S k g m = true then cAnswered S (req k g S.id S.number b v) m frm else (⟨S, false, none⟩ : RecV)).ends = false := h
      show (if answersB S k g m = true then cAnswered S (req k g S.id S.number b v) m frm else (⟨S, false, none⟩ : RecV)).st.opened = _
      split at h'
      · rename_i hB
        rw [if_pos hB]
        unfold cAnswered at h' ⊢
        split at h'
        · cases h'
        · rename_i hc
          rw [if_neg hc]
          split
          · exact ho
          · exact ho
      · rename_i hB
        rw [if_neg hB]
        exact ho
  unfold openOf
  rw [e]
theorem fill_n (n : Nat) (Z : Array Value) (hZ : Z.size = n) (cs : List Value) (h : cs.length = n) (place : Nat → Option (Nat × Nat)) (p0 : place 0 = some (0, n)) :
    Instr.fill place Z [(0, .agg cs.toArray)] = some cs.toArray := by
  have e2 : (Value.agg cs.toArray).cells = cs.toArray := rfl
  simp only [Instr.fill, p0, e2]
  have f1 := Go.Great.foldl_set 0 cs 0 Z
  generalize hz2 : ((cs.toArray.zipIdx).foldl (fun cs (x : Value × Nat) => cs.setIfInBounds (0 + x.2) x.1) Z) = Z2
  have hz2' : ((cs.zipIdx 0).foldl (fun cs (x : Value × Nat) => cs.setIfInBounds (0 + x.2) x.1) Z) = Z2 := by rw [← hz2]; simp
  rw [hz2'] at f1
  rw [if_neg (by simp [hZ, h])]
  congr 1
  apply Array.ext_getElem?
  intro i
  rw [f1.2 i]
  by_cases hj : i < n
  · rw [if_pos (by rw [hZ]; omega)]
    simp
  · rw [if_neg (by omega), Array.getElem?_eq_none (by rw [hZ]; omega), Array.getElem?_eq_none (by simp; omega)]
theorem slice_op (cs : List Value) (h : cs.length = 53) : Try.prog.builtSlice 43 1 [(0, .agg cs.toArray)] = some cs.toArray := by
  obtain ⟨zc, hzc, hzi⟩ := zop_info
  obtain ⟨i0, hi0, hz⟩ := Option.map_eq_some_iff.mp hzi
  have hz0 : i0.zero = some (.agg zc.toArray) := congrArg Prod.fst hz
  have hz1 : i0.size = 53 := congrArg Prod.snd hz
  obtain ⟨z, sz⟩ : ∃ z : Value, z = .agg zc.toArray := ⟨_, rfl⟩
  rw [← sz] at hz0
  have hf : Instr.fill (fun i => some (i * i0.size, i0.size)) ((Array.range (1 * i0.size)).map (z.cells[· % z.cells.size]!)) [(0, .agg cs.toArray)] = some cs.toArray :=
    fill_n 53 _ (by rw [Array.size_map, Array.size_range, hz1]) cs h _ (by rw [hz1])
  have hn : ¬ (1 * i0.size > 2 ^ 24 ∨ 1 * i0.size = 0) := by rw [hz1]; omega
  unfold Program.builtSlice
  rw [hi0]
  dsimp only
  rw [hz0]
  dsimp only
  rw [if_neg hn]
  exact hf
theorem opsIn_one {W : World} {b : Nat} {x : OpV} (hx : x.Ok) (h : Blk W b 43 x.cells.toArray) : OpsIn W (.slice (some ⟨b, 0, none⟩) 1 1) [x] :=
  ⟨some ⟨b, 0, none⟩, 1, rfl, Nat.le_refl _, by unfold maxLen; omega, by simpa using hx, fun _ => ⟨b, 0, rfl, h.lt, fun i hi => by
    have hi0 : i = 0 := by simp at hi; exact hi
    subst hi0
    exact fun j v hj => by rw [h.cell (0 + 0 * 53 + j), List.getElem?_toArray]; simpa using hj⟩⟩
theorem wpList_alloc_own_n {P : Program} {w w0 : World} {S : List Nat} {L : List (Nat × TypeId × List Value)} {ops : Array Oper} {rest : List Oper} {op : Oper} {a : Act} {Q : Exit → Act → World → Prop} (HO : Own w0 S L w) (hgd : op.guard = none) (t : TypeId) (ho : op.op = .alloc t) (cs : List Value) (hi : (P.info? t).map (·.zero) = some (some (.agg cs.toArray)))
    (h : ∀ w' b, b = w.heap.size → Own w0 S (L ++ [(b, t, cs)]) w' → Below w.heap.size w w' → wpList P ops Q rest (a.put op.dst (.pointer (some ⟨b, 0, none⟩))) w') : wpList P ops Q (op :: rest) a w :=
  wpList_alloc_blk hgd t ho cs.toArray hi fun w' h1 h2 _ => h w' _ rfl (HO.push h1 h2) h2
theorem step_alloc_own_n {P : Program} {w w0 : World} {S : List Nat} {L : List (Nat × TypeId × List Value)} {ops : Array Oper} {op : Oper} {a : Act} {Q : Exit → Act → World → Prop} {K : Act → World → Prop} {E : Prop}
    (HO : Own w0 S L w) (hw : Region.wanted op (yielded ops a.tmps) = true) (t : TypeId) (ho : op.op = .alloc t) (cs : List Value) (hi : (P.info? t).map (·.zero) = some (some (.agg cs.toArray)))
    (h : ∀ w' b, b = w.heap.size → Own w0 S (L ++ [(b, t, cs)]) w' → Below w.heap.size w w' → K (a.put op.dst (.pointer (some ⟨b, 0, none⟩))) w') : if Region.wanted op (yielded ops a.tmps) = true then Oper.wp P op a w K Q else E := by
  rw [if_pos hw]
  unfold Oper.wp execOp
  simp only [ho, Sem.run_bind, run_alloc hi, Result.andThen_ok]
  exact h _ _ rfl (HO.push (Blk.new w t cs.toArray) ((Below.refl _ _).alloc (Nat.le_refl _) _)) ((Below.refl _ _).alloc (Nat.le_refl _) _)
/-- The client and its request lie in other blocks than b. -/
def Off (g : Nat) (q : Value) (b : Nat) : Prop := g ≠ b ∧ ∀ c, q = .pointer (some ⟨c, 0, none⟩) → c ≠ b
theorem Cl.off {w : World} {g b : Nat} {S : CS} {q : Value} (h : Cl w g S q) (hb : b = w.heap.size) : Off g q b := hb ▸ h.ne_new
theorem Cl.putOff {w w' : World} {g b : Nat} {S : CS} {q : Value} (h : Cl w g S q) (ho : Off g q b) (k : Touch [b] w w') : Cl w' g S q := h.far_of k (by simpa using ho.1) (fun c hc => by simpa using ho.2 c hc)
end Go.Proofs.Ytpbgelhjbfckcaa
