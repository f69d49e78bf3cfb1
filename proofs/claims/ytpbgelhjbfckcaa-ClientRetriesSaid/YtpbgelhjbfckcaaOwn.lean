/- The blocks that a call has laid: what lies in each, all apart, and what of the old blocks may have turned. -/
import Derived.Test.YtpbgelhjbfckcaaRow
namespace Go.Proofs.Ytpbgelhjbfckcaa
open Go.ChangeShapes Go.WideShapes Go.ChangeAt Go.RowKit
set_option linter.unusedVariables false

/-- Since w0: the blocks of L hold just what L says, no two are one, all are new; of the old ones at most those of S have turned. -/
structure Own (w0 : World) (S : List Nat) (L : List (Nat × TypeId × List Value)) (W : World) : Prop where
  has : ∀ e ∈ L, Blk W e.1 e.2.1 e.2.2.toArray ∧ w0.heap.size ≤ e.1
  apart : (L.map (·.1)).Nodup
  touch : Touch S w0 W
  old : ∀ s ∈ S, s < w0.heap.size
section
variable {w0 W W' : World} {S : List Nat} {L : List (Nat × TypeId × List Value)}
theorem Own.nil (w0 : World) (S : List Nat) (h : ∀ s ∈ S, s < w0.heap.size) : Own w0 S [] w0 := ⟨by simp, by simp, Touch.refl _ _, h⟩
theorem Own.size (h : Own w0 S L W) : w0.heap.size ≤ W.heap.size := h.touch.size
theorem Own.blk (h : Own w0 S L W) (i : Nat) {b : Nat} {t : TypeId} {cs : List Value} (hi : L[i]? = some (b, t, cs)) : Blk W b t cs.toArray := (h.has _ (List.mem_of_getElem? hi)).1
theorem Own.new (h : Own w0 S L W) (i : Nat) {b : Nat} {t : TypeId} {cs : List Value} (hi : L[i]? = some (b, t, cs)) : w0.heap.size ≤ b := (h.has _ (List.mem_of_getElem? hi)).2
theorem Own.cells (h : Own w0 S L W) (i : Nat) {b : Nat} {t : TypeId} {cs : List Value} (hi : L[i]? = some (b, t, cs)) : ∀ j, W.cell? ⟨b, j, none⟩ = cs[j]? := fun j => by rw [(h.blk i hi).cell j, List.getElem?_toArray]
theorem Own.froz (h : Own w0 S L W) (i : Nat) {b : Nat} {t : TypeId} {cs : List Value} (hi : L[i]? = some (b, t, cs)) : ∀ j, W.frozen? ⟨b, j, none⟩ = false := fun j => (h.blk i hi).froz j
theorem Own.push (h : Own w0 S L W) {t : TypeId} {cs : List Value} (hx : Blk W' W.heap.size t cs.toArray) (hb : Below W.heap.size W W') : Own w0 S (L ++ [(W.heap.size, t, cs)]) W' := by
  refine ⟨fun e he => ?_, ?_, h.touch.step hb, h.old⟩
  · rcases List.mem_append.1 he with he | he
    · exact ⟨(h.has e he).1.step hb, (h.has e he).2⟩
    · simp only [List.mem_singleton] at he; subst he; exact ⟨hx, h.size⟩
  · rw [List.map_append, List.nodup_append]
    refine ⟨h.apart, by simp, ?_⟩
    intro a ha b hb' e
    simp only [List.map_cons, List.map_nil, List.mem_singleton] at hb'
    subst hb' e
    obtain ⟨e, he, e2⟩ := List.mem_map.1 ha
    have := (h.has e he).1.lt
    omega
theorem Own.put (h : Own w0 S L W) (i : Nat) {b : Nat} {t : TypeId} {cs new : List Value} (hi : L[i]? = some (b, t, cs)) (hx : Blk W' b t new.toArray) (ht : Touch [b] W W') : Own w0 S (L.set i (b, t, new)) W' := by
  have hm : (L.set i (b, t, new)).map (·.1) = L.map (·.1) := by
    rw [List.map_set]
    refine List.ext_getElem? fun j => ?_
    rw [List.getElem?_set]
    by_cases hj : i = j
    · subst hj
      have hl := (List.getElem?_eq_some_iff.1 hi).1
      rw [if_pos rfl, if_pos (by simpa using hl), List.getElem?_map, hi]; rfl
    · rw [if_neg hj]
  have hnew := h.new i hi
  refine ⟨fun e he => ?_, hm ▸ h.apart, h.touch.next ht (fun x hx' => by simp only [List.mem_singleton] at hx'; subst hx'; exact .inr hnew), h.old⟩
  obtain ⟨j, hj⟩ := List.getElem?_of_mem he
  rw [List.getElem?_set] at hj
  by_cases hij : i = j
  · subst hij
    have hl := (List.getElem?_eq_some_iff.1 hi).1
    rw [if_pos rfl, if_pos hl] at hj
    injection hj with hj
    subst hj
    exact ⟨hx, hnew⟩
  · rw [if_neg hij] at hj
    have hmem := List.mem_of_getElem? hj
    refine ⟨(h.has e hmem).1.touch ht ?_, (h.has e hmem).2⟩
    simp only [List.mem_singleton]
    intro e1
    have hnd := List.pairwise_iff_getElem.1 h.apart
    have hl1 := (List.getElem?_eq_some_iff.1 hi).1
    have hl2 := (List.getElem?_eq_some_iff.1 hj).1
    have q1 : (L.map (·.1))[i]'(by simpa using hl1) = b := by rw [List.getElem_map, (List.getElem?_eq_some_iff.1 hi).2]
    have q2 : (L.map (·.1))[j]'(by simpa using hl2) = b := by rw [List.getElem_map, (List.getElem?_eq_some_iff.1 hj).2]; exact e1
    rcases Nat.lt_or_gt_of_ne hij with h1 | h1
    · exact hnd i j (by simpa using hl1) (by simpa using hl2) h1 (q1.trans q2.symm)
    · exact hnd j i (by simpa using hl2) (by simpa using hl1) h1 (q2.trans q1.symm)
theorem Own.set (h : Own w0 S L W) (i : Nat) {b : Nat} {t : TypeId} {cs : List Value} (hi : L[i]? = some (b, t, cs)) (j : Nat) (v : Value) : Own w0 S (L.set i (b, t, cs.set j v)) (W.setCell ⟨b, j, none⟩ v) :=
  h.put i hi (by have := (h.blk i hi).put j v; rwa [List.setIfInBounds_toArray] at this) ((Touch.refl [b] W).set (by simp) j v)
theorem Own.drew (h : Own w0 S L W) : Own w0 S L W.drew := ⟨fun e he => ⟨(h.has e he).1.drew, (h.has e he).2⟩, h.apart, h.touch.drew, h.old⟩
theorem Own.step (h : Own w0 S L W) (hb : Below W.heap.size W W') : Own w0 S L W' := ⟨fun e he => ⟨(h.has e he).1.step hb, (h.has e he).2⟩, h.apart, h.touch.step hb, h.old⟩
theorem Own.call (h : Own w0 S L W) {T : List Nat} (ht : Touch T W W') (hT : ∀ s ∈ T, s ∈ S) : Own w0 S L W' :=
  ⟨fun e he => ⟨(h.has e he).1.touch ht (fun hm => by have := h.old _ (hT _ hm); have := (h.has e he).2; omega), (h.has e he).2⟩, h.apart, h.touch.next ht (fun t hm => .inl (hT t hm)), h.old⟩
theorem Own.below (h : Own w0 [] L W) : Below w0.heap.size w0 W := h.touch.to_below (by simp) (Nat.le_refl _)
theorem Own.alloc (h : Own w0 S L W) (o : Obj) : Own w0 S L (W.alloc o) := h.step ((Below.refl _ _).alloc (Nat.le_refl _) _)
end
/-- Cells into the middle of a block: the world behind goes by a name. -/
theorem wpList_store_part {P : Program} {w : World} {ops : Array Oper} {rest : List Oper} {op : Oper} {a : Act} {Q : Exit → Act → World → Prop} (hgd : op.guard = none) (ty : TypeId) (x y : Operand) (ho : op.op = .store ty x y)
    (g o : Nat) (t : TypeId) (old new : List Value) (hx : a.eval x = .pointer (some ⟨g, o, none⟩)) (hy : a.eval y = .agg new.toArray) (hb : Blk w g t old.toArray) (hs : o + new.length ≤ old.length)
    (hi : (P.info? ty).map (·.size) = some new.toArray.size) (h1 : new.toArray.all (·.oneCell') = true)
    (h : ∀ w', Blk w' g t (old.take o ++ new ++ old.drop (o + new.length)).toArray → Touch [g] w w' → w'.heap.size = w.heap.size → wpList P ops Q rest (a.put op.dst undef) w') : wpList P ops Q (op :: rest) a w := by
  have hth : w.there g o new.toArray.size := fun j hj => by
    simp only [List.size_toArray] at hj
    rw [hb.cell (o + j), hb.froz (o + j)]
    exact ⟨by rw [List.getElem?_toArray, List.getElem?_eq_getElem (by omega)]; rfl, rfl⟩
  have h2 := Blk.setCells new o w _ hb (by simpa using hs)
  exact wpList_store_mid hgd ty x y ho g o new.toArray hx hy hth hi h1 (h _ h2 (touch_setCells w g o _).1 (touch_setCells w g o _).2)
theorem Blk.range {w : World} {g : Nat} {t : TypeId} {pre cs : List Value} (h : Blk w g t (pre ++ cs).toArray) : w.rangeAt g pre.length cs := fun j v hv => by
  rw [h.cell (pre.length + j), List.getElem?_toArray, List.getElem?_append_right (by omega)]
  simpa using hv
end Go.Proofs.Ytpbgelhjbfckcaa
