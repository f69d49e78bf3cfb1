/- fields: all fields of a message, by their names: up to the table. -/
import Derived.Test.YtpbgelhjbfckcaaV06
namespace Go.Proofs.Ytpbgelhjbfckcaa
set_option linter.unusedVariables false
set_option linter.unusedSimpArgs false
open List renaming getElem_toArray → qa, getElem_cons_zero → qb, getElem_cons_succ → qc, setIfInBounds_toArray → qd, set_cons_zero → qe, set_cons_succ → qf
open Go.ChangeMaps Go.ChangeShapes Go.WideShapes Go.ChangeAt Go.RowKit
theorem Own.reord {w0 W : World} {S : List Nat} {L : List (Nat × TypeId × List Value)} (h : Own w0 S L W) (M : List (Nat × TypeId × List Value)) (hm : ∀ e ∈ M, e ∈ L) (hd : (M.map (·.1)).Nodup) : Own w0 S M W := ⟨fun e he => h.has e (hm e he), hd, h.touch, h.old⟩
theorem Own.insM {w0 W : World} {S : List Nat} {L1 L2 M : List (Nat × TypeId × List Value)} (h : Own w0 S (L1 ++ L2 ++ M) W) : Own w0 S (L1 ++ (M ++ L2)) W := by
 refine h.reord _ (fun e he => ?_) ?_
 ·simp only [List.mem_append] at he ⊢
  rcases he with h1 | h1 | h1
  ·exact .inl (.inl h1)
  ·exact .inr h1
  ·exact .inl (.inr h1)
 ·have hp : (L1 ++ (M ++ L2)).Perm (L1 ++ L2 ++ M) := by
   rw [List.append_assoc]
   exact List.Perm.append_left _ List.perm_append_comm
  exact (hp.map _).nodup_iff.2 h.apart
theorem rt_2 {goal : Prop} {α : Type} {β : Type} {G I : α → β → World → Prop} (main : (∀ a b w, I a b w → G a b w) → goal) (tl : ∀ a b w, I a b w → G a b w) : goal := main tl
theorem rt_3 {goal : Prop} {α : Type} {β : Type} {γ : Type} {G I : α → β → γ → World → Prop} (main : (∀ a b c w, I a b c w → G a b c w) → goal) (tl : ∀ a b c w, I a b c w → G a b c w) : goal := main tl
theorem rt_4 {goal : Prop} {α : Type} {β : Type} {γ : Type} {δ : Type} {G I : α → β → γ → δ → World → Prop} (main : (∀ a b c d w, I a b c d w → G a b c d w) → goal) (tl : ∀ a b c d w, I a b c d w → G a b c d w) : goal := main tl
theorem rt_5 {goal : Prop} {α : Type} {β : Type} {γ : Type} {δ : Type} {ε : Type} {G I : α → β → γ → δ → ε → World → Prop} (main : (∀ a b c d e w, I a b c d e w → G a b c d e w) → goal) (tl : ∀ a b c d e w, I a b c d e w → G a b c d e w) : goal := main tl
section
variable {P : Program} {w w0 : World} {S : List Nat} {L : List (Nat × TypeId × List Value)} {ops : Array Oper} {o : Oper} {a : Act} {K : Act → World → Prop} {Q : Exit → Act → World → Prop} {E : Prop}
theorem step_slice_ownV (HO : Own w0 S L w) (hgd : o.guard = none) (t e : TypeId) (parts : Array (Nat × Operand)) (vs : List Value) (ho : o.op = .buildSlice t vs.length parts) (hv : (parts.map fun (i, x) => (i, a.eval x)).toList = (vs.zipIdx 0).map fun x => (x.2, x.1))
 (hu : P.underlying t = some (.slice e)) (hsz : (P.info? e).map (·.size) = some 1) (hz : ((P.info? e).bind (·.zero)).isSome = true) (h1 : ∀ v ∈ vs, v.cells = #[v]) (hpos : 0 < vs.length) (hsmall : vs.length ≤ 2 ^ 24)
 (h : ∀ w' g, Own w0 S (L ++ [(g, e, vs)]) w' → K (a.put o.dst (.slice (some ⟨g, 0, none⟩) vs.length vs.length)) w') : if Region.wanted o (yielded ops a.tmps) = true then Oper.wp P o a w K Q else E := by
 have hw : Region.wanted o (yielded ops a.tmps) = true := by simp [Region.wanted, hgd]
 rw [if_pos hw]
 cases hie : P.info? e with
 | none => simp [hie] at hsz
 | some ie =>
  simp only [hie, Option.map_some, Option.some.injEq, Option.bind_some] at hsz hz
  obtain ⟨z, hzz⟩ := Option.isSome_iff_exists.1 hz
  refine wp_buildSlice t e vs.length parts ho vs.toArray ie z hu hie hzz (by rw [hsz]; omega) (by rw [hsz]; omega) ?_ (h _ _ (HO.push (Blk.new w e vs.toArray) ((Below.refl _ _).alloc (Nat.le_refl _) _)))
  rw [hv, hsz]
  exact Great.fill_flat _ _ h1 (by simp)
end
theorem wpList_slice_ownV {P : Program} {w w0 : World} {S : List Nat} {L : List (Nat × TypeId × List Value)} {ops : Array Oper} {rest : List Oper} {o : Oper} {a : Act} {Q : Exit → Act → World → Prop} (HO : Own w0 S L w) (hgd : o.guard = none) (t e : TypeId) (parts : Array (Nat × Operand)) (vs : List Value) (ho : o.op = .buildSlice t vs.length parts) (hv : (parts.map fun (i, x) => (i, a.eval x)).toList = (vs.zipIdx 0).map fun x => (x.2, x.1))
 (hu : P.underlying t = some (.slice e)) (hsz : (P.info? e).map (·.size) = some 1) (hz : ((P.info? e).bind (·.zero)).isSome = true) (h1 : ∀ v ∈ vs, v.cells = #[v]) (hpos : 0 < vs.length) (hsmall : vs.length ≤ 2 ^ 24)
 (h : ∀ w' g, Own w0 S (L ++ [(g, e, vs)]) w' → wpList P ops Q rest (a.put o.dst (.slice (some ⟨g, 0, none⟩) vs.length vs.length)) w') : wpList P ops Q (o :: rest) a w := by
 refine wpList_plain hgd fun K hK => ?_
 cases hie : P.info? e with
 | none => simp [hie] at hsz
 | some ie =>
  simp only [hie, Option.map_some, Option.some.injEq, Option.bind_some] at hsz hz
  obtain ⟨z, hzz⟩ := Option.isSome_iff_exists.1 hz
  refine wp_buildSlice t e vs.length parts ho vs.toArray ie z hu hie hzz (by rw [hsz]; omega) (by rw [hsz]; omega) ?_ (hK _ _ (h _ _ (HO.push (Blk.new w e vs.toArray) ((Below.refl _ _).alloc (Nat.le_refl _) _))))
  rw [hv, hsz]
  exact Great.fill_flat _ _ h1 (by simp)
theorem at_sliceV {P : Program} {w : World} {ops : Array Oper} {rest : List Oper} {d : Option Tmp} {ty : TypeId} {p : String} {af : Array Edge} {g : Option (Nat × Bool)} {a : Act} {Q : Exit → Act → World → Prop} (t : TypeId) (n : Nat) (x : Array (Nat × Operand)) (h : wpList P ops Q ({ dst := d, op := .buildSlice t n x, type := ty, pos := p, after := af, guard := g } :: rest) a w) : wpList P ops Q ({ dst := d, op := .buildSlice t n x, type := ty, pos := p, after := af, guard := g } :: rest) a w := h
theorem step_alloc1_ownV {P : Program} {w w0 : World} {S : List Nat} {L : List (Nat × TypeId × List Value)} {ops : Array Oper} {op : Oper} {a : Act} {Q : Exit → Act → World → Prop} {K : Act → World → Prop} {E : Prop}
 (HO : Own w0 S L w) (hw : Region.wanted op (yielded ops a.tmps) = true) (t : TypeId) (ho : op.op = .alloc t) (z : Value) (hi : (P.info? t).map (·.zero) = some (some z)) (hz : z.cells = #[z])
 (h : ∀ w' b, Own w0 S (L ++ [(b, t, [z])]) w' → K (a.put op.dst (.pointer (some ⟨b, 0, none⟩))) w') : if Region.wanted op (yielded ops a.tmps) = true then Oper.wp P op a w K Q else E := by
 rw [if_pos hw]
 have hr : (Instr.alloc t true (.tuple #[])).run P w = .ok (.pointer (some ⟨w.heap.size, 0, none⟩)) (w.alloc (.cells #[z] t)) := by
  obtain ⟨i, hi1, hi2⟩ := Option.map_eq_some_iff.mp hi
  have hz2 := hz
  unfold Value.cells at hz2
  simp [Instr.alloc, zeroValue, typeInfo, hi1, hi2, hz, hz2, newVar, newRow, go_sem]
 unfold Oper.wp execOp
 simp only [ho, Sem.run_bind, hr, Result.andThen_ok]
 exact h _ _ (HO.push (Blk.new w t #[z]) ((Below.refl _ _).alloc (Nat.le_refl _) _))
theorem step_alloc_ownV {P : Program} {w w0 : World} {S : List Nat} {L : List (Nat × TypeId × List Value)} {ops : Array Oper} {op : Oper} {a : Act} {Q : Exit → Act → World → Prop} {K : Act → World → Prop} {E : Prop}
 (HO : Own w0 S L w) (hw : Region.wanted op (yielded ops a.tmps) = true) (t : TypeId) (ho : op.op = .alloc t) (cs : List Value) (hi : (P.info? t).map (·.zero) = some (some (.agg cs.toArray)))
 (h : ∀ w' b, Own w0 S (L ++ [(b, t, cs)]) w' → Below w.heap.size w w' → K (a.put op.dst (.pointer (some ⟨b, 0, none⟩))) w') : if Region.wanted op (yielded ops a.tmps) = true then Oper.wp P op a w K Q else E := by
 rw [if_pos hw]
 unfold Oper.wp execOp
 simp only [ho, Sem.run_bind, run_alloc hi, Result.andThen_ok]
 exact h _ _ (HO.push (Blk.new w t cs.toArray) ((Below.refl _ _).alloc (Nat.le_refl _) _)) ((Below.refl _ _).alloc (Nat.le_refl _) _)
def plainB (j k : Nat) : Bool := [(7, 23), (8, 27), (9, 28), (10, 29), (11, 30), (13, 85)].any fun (q : Nat × Nat) => q.1 == j && q.2 == k
theorem plainF' : ∀ j, j < 14 → ∀ k, k < 86 → valS j = pD k → plainB j k = true := by decide +kernel
theorem plainF (j : Nat) (hj : j < 14) (k : Nat) (hk : k < 86) (h : valS j = pD k) : (j = 7 ∧ k = 23) ∨ (j = 8 ∧ k = 27) ∨ (j = 9 ∧ k = 28) ∨ (j = 10 ∧ k = 29) ∨ (j = 11 ∧ k = 30) ∨ (j = 13 ∧ k = 85) := by
 have := plainF' j hj k hk h
 simp [plainB] at this
 omega
/-- What fields hands back. -/
def FieldsR (w : World) (b : Nat) (e : Ending) (w' : World) : Prop := ∃ bm mb M L, e = .returned (.map (some mb)) ∧ Own w [] L w' ∧ TabR w b bm mb M L w' ∧ (bm, 72, [at0 b]) ∈ L
set_option maxRecDepth 100000 in
set_option maxHeartbeats 8000000 in
theorem fields_c (b : Nat) (w : World) : Calls Try.prog 41 #[at0 b] w (FieldsR w b) := by
 have hmf : ∀ (fn : Fn) (first cap : Array Value) (w : World), (Instr.makeFunc fn first cap).run Try.prog w = .ok (.func fn first cap) w := fun _ _ _ _ => rfl
 go_enter Try.func41, Try.ntmps41
 go_wp2_with fail
 obtain ⟨bm, W1, hW1, hb1, hO⟩ : ∃ bm W1, w.heap.size = bm ∧ w.alloc (.cells #[at0 b] 72) = W1 ∧ Own w [] [(bm, 72, [at0 b])] W1 := ⟨_, _, rfl, rfl, by simpa using (Own.nil w [] (by simp)).push (t := 72) (cs := [at0 b]) (Blk.new w _ #[at0 b]) ((Below.refl _ _).alloc (Nat.le_refl _) _)⟩
 rw [hW1, hb1]
 have HO := hide hO;clear hO hW1 hb1
 refine wp_region_held_drew (S := fun W => (∀ j, W.cell? ⟨bm, j, none⟩ = ([at0 b] : List Value)[j]?)) (by kernel_rfl) (HO.out.drew.cells 0 rfl) (fun hS0 => ?_)
 replace HO := hide HO.out.drew
 refine tk 0 ?_;refine tk 1 ?_;refine tk 2 ?_;refine tk 3 ?_;refine tk 4 ?_;refine tk 5 ?_;refine tk 6 ?_;refine tk 7 ?_;refine tk 9 ?_;refine tk 10 ?_;refine tk 11 ?_;refine tk 12 ?_;refine tk 13 ?_;refine tk 14 ?_;refine tk 15 ?_;refine tk 16 ?_
 refine' rt_5 (I := fun (gp : Nat) (gq : Nat) (bn : Nat) (bl : Nat) (b5 : Nat) W => Own w [] [(bm, 72, [at0 b]), (gp, 121, [.pointer (some ⟨b, 9, none⟩), .pointer (some ⟨b, 10, none⟩)]), (gq, 126, [.pointer (some ⟨b, 11, none⟩), .pointer (some ⟨b, 12, none⟩)]), (bn, 125, [.slice (some ⟨gp, 0, none⟩) 2 2]), (bl, 127, [.slice (some ⟨gq, 0, none⟩) 2 2]), (b5, 101, zfield)] W) (fun raTcpqv => ?_) ?_
 rotate_left
 refine' rt_3 (I := fun (gp : Nat) (gq : Nat) (b5 : Nat) W => Own w [] [(bm, 72, [at0 b]), (gp, 121, [.pointer (some ⟨b, 9, none⟩), .pointer (some ⟨b, 10, none⟩)]), (gq, 126, [.pointer (some ⟨b, 11, none⟩), .pointer (some ⟨b, 12, none⟩)]), (b5, 101, zfield)] W) (fun raTpqv => ?_) ?_
 rotate_left
 refine' rt_2 (I := fun (gp : Nat) (gq : Nat) W => Own w [] [(bm, 72, [at0 b]), (gp, 121, [.pointer (some ⟨b, 9, none⟩), .pointer (some ⟨b, 10, none⟩)]), (gq, 126, [.pointer (some ⟨b, 11, none⟩), .pointer (some ⟨b, 12, none⟩)])] W) (fun raTpq => ?_) ?_
 rotate_left
 refine' rt_2 (I := fun (gp : Nat) (b5 : Nat) W => Own w [] [(bm, 72, [at0 b]), (gp, 121, [.pointer (some ⟨b, 9, none⟩), .pointer (some ⟨b, 10, none⟩)]), (b5, 101, zfield)] W) (fun raTpv => ?_) ?_
 rotate_left
 refine' rt_2 (I := fun (gq : Nat) (b5 : Nat) W => Own w [] [(bm, 72, [at0 b]), (gq, 126, [.pointer (some ⟨b, 11, none⟩), .pointer (some ⟨b, 12, none⟩)]), (b5, 101, zfield)] W) (fun raTqv => ?_) ?_
 rotate_left
 ·refine wpAnyH_ready (rs := [8, 17, 19]) (by kernel_rfl) (by simp) ?_
  refine AllReadyH.cons rfl (fun K hK => ?_) (AllReadyH.cons rfl (fun K hK => ?_) (AllReadyH.cons rfl (fun K hK => ?_) (AllReadyH.nil)))
  ·refine step_slice_ownV HO.out rfl 125 121 _ ([.pointer (some ⟨b, 9, none⟩), .pointer (some ⟨b, 10, none⟩)]) rfl (by simp [Act.eval]) Try.underlying125 (by kernel_rfl) (by kernel_rfl) (by simp [Value.cells]) (by simp) (by simp) ?_
   intro WA gp hO
   replace HO := hide (show Own w [] ([(bm, 72, [at0 b]), (gp, 121, [.pointer (some ⟨b, 9, none⟩), .pointer (some ⟨b, 10, none⟩)])]) _ from Own.insM (L1 := [(bm, 72, [at0 b])]) (L2 := []) (M := [(gp, 121, [.pointer (some ⟨b, 9, none⟩), .pointer (some ⟨b, 10, none⟩)])]) hO)
   clear hO
   refine hK.out _ _ (HO.out.cells 0 rfl) (fun _ => ?_)
   clear hK K
   try simp only [Act.put, qa, qb, qc, qd, qe, qf]
   refine wpAnyH_ready (rs := [17, 19]) (by kernel_rfl) (by simp) ?_
   refine AllReadyH.cons rfl (fun K hK => ?_) (AllReadyH.cons rfl (fun K hK => ?_) (AllReadyH.nil))
   ·refine step_slice_ownV HO.out rfl 127 126 _ ([.pointer (some ⟨b, 11, none⟩), .pointer (some ⟨b, 12, none⟩)]) rfl (by simp [Act.eval]) Try.underlying127 (by kernel_rfl) (by kernel_rfl) (by simp [Value.cells]) (by simp) (by simp) ?_
    intro WA gq hO
    replace HO := hide (show Own w [] ([(bm, 72, [at0 b]), (gp, 121, [.pointer (some ⟨b, 9, none⟩), .pointer (some ⟨b, 10, none⟩)]), (gq, 126, [.pointer (some ⟨b, 11, none⟩), .pointer (some ⟨b, 12, none⟩)])]) _ from Own.insM (L1 := [(bm, 72, [at0 b]), (gp, 121, [.pointer (some ⟨b, 9, none⟩), .pointer (some ⟨b, 10, none⟩)])]) (L2 := []) (M := [(gq, 126, [.pointer (some ⟨b, 11, none⟩), .pointer (some ⟨b, 12, none⟩)])]) hO)
    clear hO
    refine hK.out _ _ (HO.out.cells 0 rfl) (fun _ => ?_)
    clear hK K
    try simp only [Act.put, qa, qb, qc, qd, qe, qf]
    exact raTpq gp gq _ HO.out
   ·refine step_alloc_ownV HO.out (by rfl) 101 rfl zfield info_field ?_
    intro WA b5 hO hbx
    replace HO := hide (show Own w [] ([(bm, 72, [at0 b]), (gp, 121, [.pointer (some ⟨b, 9, none⟩), .pointer (some ⟨b, 10, none⟩)]), (b5, 101, zfield)]) _ from Own.insM (L1 := [(bm, 72, [at0 b]), (gp, 121, [.pointer (some ⟨b, 9, none⟩), .pointer (some ⟨b, 10, none⟩)])]) (L2 := []) (M := [(b5, 101, zfield)]) hO)
    clear hO hbx
    refine hK.out _ _ (HO.out.cells 0 rfl) (fun _ => ?_)
    clear hK K
    try simp only [Act.put, qa, qb, qc, qd, qe, qf]
    exact raTpv gp b5 _ HO.out
  ·refine step_slice_ownV HO.out rfl 127 126 _ ([.pointer (some ⟨b, 11, none⟩), .pointer (some ⟨b, 12, none⟩)]) rfl (by simp [Act.eval]) Try.underlying127 (by kernel_rfl) (by kernel_rfl) (by simp [Value.cells]) (by simp) (by simp) ?_
   intro WA gq hO
   replace HO := hide (show Own w [] ([(bm, 72, [at0 b]), (gq, 126, [.pointer (some ⟨b, 11, none⟩), .pointer (some ⟨b, 12, none⟩)])]) _ from Own.insM (L1 := [(bm, 72, [at0 b])]) (L2 := []) (M := [(gq, 126, [.pointer (some ⟨b, 11, none⟩), .pointer (some ⟨b, 12, none⟩)])]) hO)
   clear hO
   refine hK.out _ _ (HO.out.cells 0 rfl) (fun _ => ?_)
   clear hK K
   try simp only [Act.put, qa, qb, qc, qd, qe, qf]
   refine wpAnyH_ready (rs := [8, 19]) (by kernel_rfl) (by simp) ?_
   refine AllReadyH.cons rfl (fun K hK => ?_) (AllReadyH.cons rfl (fun K hK => ?_) (AllReadyH.nil))
   ·refine step_slice_ownV HO.out rfl 125 121 _ ([.pointer (some ⟨b, 9, none⟩), .pointer (some ⟨b, 10, none⟩)]) rfl (by simp [Act.eval]) Try.underlying125 (by kernel_rfl) (by kernel_rfl) (by simp [Value.cells]) (by simp) (by simp) ?_
    intro WA gp hO
    replace HO := hide (show Own w [] ([(bm, 72, [at0 b]), (gp, 121, [.pointer (some ⟨b, 9, none⟩), .pointer (some ⟨b, 10, none⟩)]), (gq, 126, [.pointer (some ⟨b, 11, none⟩), .pointer (some ⟨b, 12, none⟩)])]) _ from Own.insM (L1 := [(bm, 72, [at0 b])]) (L2 := [(gq, 126, [.pointer (some ⟨b, 11, none⟩), .pointer (some ⟨b, 12, none⟩)])]) (M := [(gp, 121, [.pointer (some ⟨b, 9, none⟩), .pointer (some ⟨b, 10, none⟩)])]) hO)
    clear hO
    refine hK.out _ _ (HO.out.cells 0 rfl) (fun _ => ?_)
    clear hK K
    try simp only [Act.put, qa, qb, qc, qd, qe, qf]
    exact raTpq gp gq _ HO.out
   ·refine step_alloc_ownV HO.out (by rfl) 101 rfl zfield info_field ?_
    intro WA b5 hO hbx
    replace HO := hide (show Own w [] ([(bm, 72, [at0 b]), (gq, 126, [.pointer (some ⟨b, 11, none⟩), .pointer (some ⟨b, 12, none⟩)]), (b5, 101, zfield)]) _ from Own.insM (L1 := [(bm, 72, [at0 b]), (gq, 126, [.pointer (some ⟨b, 11, none⟩), .pointer (some ⟨b, 12, none⟩)])]) (L2 := []) (M := [(b5, 101, zfield)]) hO)
    clear hO hbx
    refine hK.out _ _ (HO.out.cells 0 rfl) (fun _ => ?_)
    clear hK K
    try simp only [Act.put, qa, qb, qc, qd, qe, qf]
    exact raTqv gq b5 _ HO.out
  ·refine step_alloc_ownV HO.out (by rfl) 101 rfl zfield info_field ?_
   intro WA b5 hO hbx
   replace HO := hide (show Own w [] ([(bm, 72, [at0 b]), (b5, 101, zfield)]) _ from Own.insM (L1 := [(bm, 72, [at0 b])]) (L2 := []) (M := [(b5, 101, zfield)]) hO)
   clear hO hbx
   refine hK.out _ _ (HO.out.cells 0 rfl) (fun _ => ?_)
   clear hK K
   try simp only [Act.put, qa, qb, qc, qd, qe, qf]
   refine wpAnyH_ready (rs := [8, 17]) (by kernel_rfl) (by simp) ?_
   refine AllReadyH.cons rfl (fun K hK => ?_) (AllReadyH.cons rfl (fun K hK => ?_) (AllReadyH.nil))
   ·refine step_slice_ownV HO.out rfl 125 121 _ ([.pointer (some ⟨b, 9, none⟩), .pointer (some ⟨b, 10, none⟩)]) rfl (by simp [Act.eval]) Try.underlying125 (by kernel_rfl) (by kernel_rfl) (by simp [Value.cells]) (by simp) (by simp) ?_
    intro WA gp hO
    replace HO := hide (show Own w [] ([(bm, 72, [at0 b]), (gp, 121, [.pointer (some ⟨b, 9, none⟩), .pointer (some ⟨b, 10, none⟩)]), (b5, 101, zfield)]) _ from Own.insM (L1 := [(bm, 72, [at0 b])]) (L2 := [(b5, 101, zfield)]) (M := [(gp, 121, [.pointer (some ⟨b, 9, none⟩), .pointer (some ⟨b, 10, none⟩)])]) hO)
    clear hO
    refine hK.out _ _ (HO.out.cells 0 rfl) (fun _ => ?_)
    clear hK K
    try simp only [Act.put, qa, qb, qc, qd, qe, qf]
    exact raTpv gp b5 _ HO.out
   ·refine step_slice_ownV HO.out rfl 127 126 _ ([.pointer (some ⟨b, 11, none⟩), .pointer (some ⟨b, 12, none⟩)]) rfl (by simp [Act.eval]) Try.underlying127 (by kernel_rfl) (by kernel_rfl) (by simp [Value.cells]) (by simp) (by simp) ?_
    intro WA gq hO
    replace HO := hide (show Own w [] ([(bm, 72, [at0 b]), (gq, 126, [.pointer (some ⟨b, 11, none⟩), .pointer (some ⟨b, 12, none⟩)]), (b5, 101, zfield)]) _ from Own.insM (L1 := [(bm, 72, [at0 b])]) (L2 := [(b5, 101, zfield)]) (M := [(gq, 126, [.pointer (some ⟨b, 11, none⟩), .pointer (some ⟨b, 12, none⟩)])]) hO)
    clear hO
    refine hK.out _ _ (HO.out.cells 0 rfl) (fun _ => ?_)
    clear hK K
    try simp only [Act.put, qa, qb, qc, qd, qe, qf]
    exact raTqv gq b5 _ HO.out
 ·intro gq b5 WT hI
  have HO := hide hI;clear hI
  have hSS : (fun W => (∀ j, W.cell? ⟨bm, j, none⟩ = ([at0 b] : List Value)[j]?)) WT := HO.out.cells 0 rfl
  refine tr1 8 fun K hK => ?_
  refine step_slice_ownV HO.out rfl 125 121 _ ([.pointer (some ⟨b, 9, none⟩), .pointer (some ⟨b, 10, none⟩)]) rfl (by simp [Act.eval]) Try.underlying125 (by kernel_rfl) (by kernel_rfl) (by simp [Value.cells]) (by simp) (by simp) ?_
  intro WA gp hO
  replace HO := hide (show Own w [] ([(bm, 72, [at0 b]), (gp, 121, [.pointer (some ⟨b, 9, none⟩), .pointer (some ⟨b, 10, none⟩)]), (gq, 126, [.pointer (some ⟨b, 11, none⟩), .pointer (some ⟨b, 12, none⟩)]), (b5, 101, zfield)]) _ from Own.insM (L1 := [(bm, 72, [at0 b])]) (L2 := [(gq, 126, [.pointer (some ⟨b, 11, none⟩), .pointer (some ⟨b, 12, none⟩)]), (b5, 101, zfield)]) (M := [(gp, 121, [.pointer (some ⟨b, 9, none⟩), .pointer (some ⟨b, 10, none⟩)])]) hO)
  clear hO
  refine hK.out _ _ (HO.out.cells 0 rfl) (fun _ => ?_)
  clear hK K
  try simp only [Act.put, qa, qb, qc, qd, qe, qf]
  exact raTpqv gp gq b5 _ HO.out
 ·intro gp b5 WT hI
  have HO := hide hI;clear hI
  have hSS : (fun W => (∀ j, W.cell? ⟨bm, j, none⟩ = ([at0 b] : List Value)[j]?)) WT := HO.out.cells 0 rfl
  refine tr1 17 fun K hK => ?_
  refine step_slice_ownV HO.out rfl 127 126 _ ([.pointer (some ⟨b, 11, none⟩), .pointer (some ⟨b, 12, none⟩)]) rfl (by simp [Act.eval]) Try.underlying127 (by kernel_rfl) (by kernel_rfl) (by simp [Value.cells]) (by simp) (by simp) ?_
  intro WA gq hO
  replace HO := hide (show Own w [] ([(bm, 72, [at0 b]), (gp, 121, [.pointer (some ⟨b, 9, none⟩), .pointer (some ⟨b, 10, none⟩)]), (gq, 126, [.pointer (some ⟨b, 11, none⟩), .pointer (some ⟨b, 12, none⟩)]), (b5, 101, zfield)]) _ from Own.insM (L1 := [(bm, 72, [at0 b]), (gp, 121, [.pointer (some ⟨b, 9, none⟩), .pointer (some ⟨b, 10, none⟩)])]) (L2 := [(b5, 101, zfield)]) (M := [(gq, 126, [.pointer (some ⟨b, 11, none⟩), .pointer (some ⟨b, 12, none⟩)])]) hO)
  clear hO
  refine hK.out _ _ (HO.out.cells 0 rfl) (fun _ => ?_)
  clear hK K
  try simp only [Act.put, qa, qb, qc, qd, qe, qf]
  exact raTpqv gp gq b5 _ HO.out
 ·intro gp gq WT hI
  have HO := hide hI;clear hI
  have hSS : (fun W => (∀ j, W.cell? ⟨bm, j, none⟩ = ([at0 b] : List Value)[j]?)) WT := HO.out.cells 0 rfl
  refine wpAnyH_ready (rs := [18, 19]) (by kernel_rfl) (by simp) ?_
  refine AllReadyH.cons rfl (fun K hK => ?_) (AllReadyH.cons rfl (fun K hK => ?_) (AllReadyH.nil))
  ·go_simp
   refine (parts_c _ _ _ _ _ _ _).mono ?_
   rintro e w5 ⟨bn, bl, rfl, hO⟩
   replace hO := HO.out.join hO
   replace HO := hide (show Own w [] ([(bm, 72, [at0 b]), (gp, 121, [.pointer (some ⟨b, 9, none⟩), .pointer (some ⟨b, 10, none⟩)]), (gq, 126, [.pointer (some ⟨b, 11, none⟩), .pointer (some ⟨b, 12, none⟩)]), (bn, 125, [.slice (some ⟨gp, 0, none⟩) 2 2]), (bl, 127, [.slice (some ⟨gq, 0, none⟩) 2 2])]) _ from Own.insM (L1 := [(bm, 72, [at0 b]), (gp, 121, [.pointer (some ⟨b, 9, none⟩), .pointer (some ⟨b, 10, none⟩)]), (gq, 126, [.pointer (some ⟨b, 11, none⟩), .pointer (some ⟨b, 12, none⟩)])]) (L2 := []) (M := [(bn, 125, [.slice (some ⟨gp, 0, none⟩) 2 2]), (bl, 127, [.slice (some ⟨gq, 0, none⟩) 2 2])]) hO)
   clear hO
   refine hK.out _ _ (HO.out.cells 0 rfl) (fun _ => ?_)
   clear hK K
   try simp only [Act.put, qa, qb, qc, qd, qe, qf]
   refine tr1 19 fun K hK => ?_
   refine step_alloc_ownV HO.out (by rfl) 101 rfl zfield info_field ?_
   intro WA b5 hO hbx
   replace HO := hide (show Own w [] ([(bm, 72, [at0 b]), (gp, 121, [.pointer (some ⟨b, 9, none⟩), .pointer (some ⟨b, 10, none⟩)]), (gq, 126, [.pointer (some ⟨b, 11, none⟩), .pointer (some ⟨b, 12, none⟩)]), (bn, 125, [.slice (some ⟨gp, 0, none⟩) 2 2]), (bl, 127, [.slice (some ⟨gq, 0, none⟩) 2 2]), (b5, 101, zfield)]) _ from Own.insM (L1 := [(bm, 72, [at0 b]), (gp, 121, [.pointer (some ⟨b, 9, none⟩), .pointer (some ⟨b, 10, none⟩)]), (gq, 126, [.pointer (some ⟨b, 11, none⟩), .pointer (some ⟨b, 12, none⟩)]), (bn, 125, [.slice (some ⟨gp, 0, none⟩) 2 2]), (bl, 127, [.slice (some ⟨gq, 0, none⟩) 2 2])]) (L2 := []) (M := [(b5, 101, zfield)]) hO)
   clear hO hbx
   refine hK.out _ _ (HO.out.cells 0 rfl) (fun _ => ?_)
   clear hK K
   try simp only [Act.put, qa, qb, qc, qd, qe, qf]
   exact raTcpqv gp gq bn bl b5 _ HO.out
  ·refine step_alloc_ownV HO.out (by rfl) 101 rfl zfield info_field ?_
   intro WA b5 hO hbx
   replace HO := hide (show Own w [] ([(bm, 72, [at0 b]), (gp, 121, [.pointer (some ⟨b, 9, none⟩), .pointer (some ⟨b, 10, none⟩)]), (gq, 126, [.pointer (some ⟨b, 11, none⟩), .pointer (some ⟨b, 12, none⟩)]), (b5, 101, zfield)]) _ from Own.insM (L1 := [(bm, 72, [at0 b]), (gp, 121, [.pointer (some ⟨b, 9, none⟩), .pointer (some ⟨b, 10, none⟩)]), (gq, 126, [.pointer (some ⟨b, 11, none⟩), .pointer (some ⟨b, 12, none⟩)])]) (L2 := []) (M := [(b5, 101, zfield)]) hO)
   clear hO hbx
   refine hK.out _ _ (HO.out.cells 0 rfl) (fun _ => ?_)
   clear hK K
   try simp only [Act.put, qa, qb, qc, qd, qe, qf]
   exact raTpqv gp gq b5 _ HO.out
 ·intro gp gq b5 WT hI
  have HO := hide hI;clear hI
  have hSS : (fun W => (∀ j, W.cell? ⟨bm, j, none⟩ = ([at0 b] : List Value)[j]?)) WT := HO.out.cells 0 rfl
  refine tr1 18 fun K hK => ?_
  go_simp
  refine (parts_c _ _ _ _ _ _ _).mono ?_
  rintro e w5 ⟨bn, bl, rfl, hO⟩
  replace hO := HO.out.join hO
  replace HO := hide (show Own w [] ([(bm, 72, [at0 b]), (gp, 121, [.pointer (some ⟨b, 9, none⟩), .pointer (some ⟨b, 10, none⟩)]), (gq, 126, [.pointer (some ⟨b, 11, none⟩), .pointer (some ⟨b, 12, none⟩)]), (bn, 125, [.slice (some ⟨gp, 0, none⟩) 2 2]), (bl, 127, [.slice (some ⟨gq, 0, none⟩) 2 2]), (b5, 101, zfield)]) _ from Own.insM (L1 := [(bm, 72, [at0 b]), (gp, 121, [.pointer (some ⟨b, 9, none⟩), .pointer (some ⟨b, 10, none⟩)]), (gq, 126, [.pointer (some ⟨b, 11, none⟩), .pointer (some ⟨b, 12, none⟩)])]) (L2 := [(b5, 101, zfield)]) (M := [(bn, 125, [.slice (some ⟨gp, 0, none⟩) 2 2]), (bl, 127, [.slice (some ⟨gq, 0, none⟩) 2 2])]) hO)
  clear hO
  refine hK.out _ _ (HO.out.cells 0 rfl) (fun _ => ?_)
  clear hK K
  try simp only [Act.put, qa, qb, qc, qd, qe, qf]
  exact raTcpqv gp gq bn bl b5 _ HO.out
 ·intro gp gq bn bl b5 WT hI
  have HO := hide hI;clear hI
  have hSS : (fun W => (∀ j, W.cell? ⟨bm, j, none⟩ = ([at0 b] : List Value)[j]?)) WT := HO.out.cells 0 rfl
  refine tr1 20 fun K hK => ?_
  refine step_store_own HO.out rfl 101 (.tmp 5) (.tmp 35) rfl 5 _ 0 _ _ ([.func (.func 82) #[] #[at0 bn, at0 bl], .func (.func 84) #[] #[at0 bn, at0 bl], .func (.func 86) #[] #[at0 bn, at0 bl], .func (.func 70) #[] #[]]) ([.func (.func 82) #[] #[at0 bn, at0 bl], .func (.func 84) #[] #[at0 bn, at0 bl], .func (.func 86) #[] #[at0 bn, at0 bl], .func (.func 70) #[] #[]]) rfl (.agg ([.func (.func 82) #[] #[at0 bn, at0 bl], .func (.func 84) #[] #[at0 bn, at0 bl], .func (.func 86) #[] #[at0 bn, at0 bl], .func (.func 70) #[] #[]]).toArray) rfl rfl (fits_agg _) (by simp [fv, zfield]) rfl size_field rfl ?_
  intro WA hO
  replace HO := hide hO
  clear hO
  refine hK.out _ _ (HO.out.cells 0 rfl) (fun _ => ?_)
  clear hK K
  try simp only [Act.put, qa, qb, qc, qd, qe, qf]
  refine wpAnyH_done (by kernel_rfl) ?_ _
  clear hS0
  go_wp2_with fail
  refine wp_region_held_drew (S := fun W => (∀ j, W.cell? ⟨bm, j, none⟩ = ([at0 b] : List Value)[j]?)) (by kernel_rfl) (HO.out.drew.cells 0 rfl) (fun hS0 => ?_)
  replace HO := hide HO.out.drew
  refine tk 0 ?_;refine tk 1 ?_;refine tk 2 ?_;refine tk 3 ?_;refine tk 4 ?_;refine tk 5 ?_;refine tk 6 ?_;refine tk 7 ?_;refine tk 8 ?_;refine tk 9 ?_;refine tk 10 ?_;refine tk 11 ?_
  refine' rt_4 (I := fun (gu : Nat) (bnu : Nat) (blu : Nat) (b6 : Nat) W => Own w [] [(bm, 72, [at0 b]), (gp, 121, [.pointer (some ⟨b, 9, none⟩), .pointer (some ⟨b, 10, none⟩)]), (gq, 126, [.pointer (some ⟨b, 11, none⟩), .pointer (some ⟨b, 12, none⟩)]), (bn, 125, [.slice (some ⟨gp, 0, none⟩) 2 2]), (bl, 127, [.slice (some ⟨gq, 0, none⟩) 2 2]), (b5, 101, [.func (.func 82) #[] #[at0 bn, at0 bl], .func (.func 84) #[] #[at0 bn, at0 bl], .func (.func 86) #[] #[at0 bn, at0 bl], .func (.func 70) #[] #[]]), (gu, 121, [.pointer (some ⟨b, 13, none⟩), .pointer (some ⟨b, 14, none⟩), .pointer (some ⟨b, 15, none⟩)]), (bnu, 125, [.slice (some ⟨gu, 0, none⟩) 3 3]), (blu, 127, [.slice none 0 0]), (b6, 101, zfield)] W) (fun rbTcpv => ?_) ?_
  rotate_left
  refine' rt_2 (I := fun (gu : Nat) (b6 : Nat) W => Own w [] [(bm, 72, [at0 b]), (gp, 121, [.pointer (some ⟨b, 9, none⟩), .pointer (some ⟨b, 10, none⟩)]), (gq, 126, [.pointer (some ⟨b, 11, none⟩), .pointer (some ⟨b, 12, none⟩)]), (bn, 125, [.slice (some ⟨gp, 0, none⟩) 2 2]), (bl, 127, [.slice (some ⟨gq, 0, none⟩) 2 2]), (b5, 101, [.func (.func 82) #[] #[at0 bn, at0 bl], .func (.func 84) #[] #[at0 bn, at0 bl], .func (.func 86) #[] #[at0 bn, at0 bl], .func (.func 70) #[] #[]]), (gu, 121, [.pointer (some ⟨b, 13, none⟩), .pointer (some ⟨b, 14, none⟩), .pointer (some ⟨b, 15, none⟩)]), (b6, 101, zfield)] W) (fun rbTpv => ?_) ?_
  rotate_left
  ·refine wpAnyH_ready (rs := [12, 14]) (by kernel_rfl) (by simp) ?_
   refine AllReadyH.cons rfl (fun K hK => ?_) (AllReadyH.cons rfl (fun K hK => ?_) (AllReadyH.nil))
   ·refine step_slice_ownV HO.out rfl 125 121 _ ([.pointer (some ⟨b, 13, none⟩), .pointer (some ⟨b, 14, none⟩), .pointer (some ⟨b, 15, none⟩)]) rfl (by simp [Act.eval]) Try.underlying125 (by kernel_rfl) (by kernel_rfl) (by simp [Value.cells]) (by simp) (by simp) ?_
    intro WA gu hO
    replace HO := hide (show Own w [] ([(bm, 72, [at0 b]), (gp, 121, [.pointer (some ⟨b, 9, none⟩), .pointer (some ⟨b, 10, none⟩)]), (gq, 126, [.pointer (some ⟨b, 11, none⟩), .pointer (some ⟨b, 12, none⟩)]), (bn, 125, [.slice (some ⟨gp, 0, none⟩) 2 2]), (bl, 127, [.slice (some ⟨gq, 0, none⟩) 2 2]), (b5, 101, [.func (.func 82) #[] #[at0 bn, at0 bl], .func (.func 84) #[] #[at0 bn, at0 bl], .func (.func 86) #[] #[at0 bn, at0 bl], .func (.func 70) #[] #[]]), (gu, 121, [.pointer (some ⟨b, 13, none⟩), .pointer (some ⟨b, 14, none⟩), .pointer (some ⟨b, 15, none⟩)])]) _ from Own.insM (L1 := [(bm, 72, [at0 b]), (gp, 121, [.pointer (some ⟨b, 9, none⟩), .pointer (some ⟨b, 10, none⟩)]), (gq, 126, [.pointer (some ⟨b, 11, none⟩), .pointer (some ⟨b, 12, none⟩)]), (bn, 125, [.slice (some ⟨gp, 0, none⟩) 2 2]), (bl, 127, [.slice (some ⟨gq, 0, none⟩) 2 2]), (b5, 101, [.func (.func 82) #[] #[at0 bn, at0 bl], .func (.func 84) #[] #[at0 bn, at0 bl], .func (.func 86) #[] #[at0 bn, at0 bl], .func (.func 70) #[] #[]])]) (L2 := []) (M := [(gu, 121, [.pointer (some ⟨b, 13, none⟩), .pointer (some ⟨b, 14, none⟩), .pointer (some ⟨b, 15, none⟩)])]) hO)
    clear hO
    refine hK.out _ _ (HO.out.cells 0 rfl) (fun _ => ?_)
    clear hK K
    try simp only [Act.put, qa, qb, qc, qd, qe, qf]
    refine wpAnyH_ready (rs := [13, 14]) (by kernel_rfl) (by simp) ?_
    refine AllReadyH.cons rfl (fun K hK => ?_) (AllReadyH.cons rfl (fun K hK => ?_) (AllReadyH.nil))
    ·go_simp
     refine (parts_c _ _ _ _ _ _ _).mono ?_
     rintro e w5 ⟨bnu, blu, rfl, hO⟩
     replace hO := HO.out.join hO
     replace HO := hide (show Own w [] ([(bm, 72, [at0 b]), (gp, 121, [.pointer (some ⟨b, 9, none⟩), .pointer (some ⟨b, 10, none⟩)]), (gq, 126, [.pointer (some ⟨b, 11, none⟩), .pointer (some ⟨b, 12, none⟩)]), (bn, 125, [.slice (some ⟨gp, 0, none⟩) 2 2]), (bl, 127, [.slice (some ⟨gq, 0, none⟩) 2 2]), (b5, 101, [.func (.func 82) #[] #[at0 bn, at0 bl], .func (.func 84) #[] #[at0 bn, at0 bl], .func (.func 86) #[] #[at0 bn, at0 bl], .func (.func 70) #[] #[]]), (gu, 121, [.pointer (some ⟨b, 13, none⟩), .pointer (some ⟨b, 14, none⟩), .pointer (some ⟨b, 15, none⟩)]), (bnu, 125, [.slice (some ⟨gu, 0, none⟩) 3 3]), (blu, 127, [.slice none 0 0])]) _ from Own.insM (L1 := [(bm, 72, [at0 b]), (gp, 121, [.pointer (some ⟨b, 9, none⟩), .pointer (some ⟨b, 10, none⟩)]), (gq, 126, [.pointer (some ⟨b, 11, none⟩), .pointer (some ⟨b, 12, none⟩)]), (bn, 125, [.slice (some ⟨gp, 0, none⟩) 2 2]), (bl, 127, [.slice (some ⟨gq, 0, none⟩) 2 2]), (b5, 101, [.func (.func 82) #[] #[at0 bn, at0 bl], .func (.func 84) #[] #[at0 bn, at0 bl], .func (.func 86) #[] #[at0 bn, at0 bl], .func (.func 70) #[] #[]]), (gu, 121, [.pointer (some ⟨b, 13, none⟩), .pointer (some ⟨b, 14, none⟩), .pointer (some ⟨b, 15, none⟩)])]) (L2 := []) (M := [(bnu, 125, [.slice (some ⟨gu, 0, none⟩) 3 3]), (blu, 127, [.slice none 0 0])]) hO)
     clear hO
     refine hK.out _ _ (HO.out.cells 0 rfl) (fun _ => ?_)
     clear hK K
     try simp only [Act.put, qa, qb, qc, qd, qe, qf]
     refine tr1 14 fun K hK => ?_
     refine step_alloc_ownV HO.out (by rfl) 101 rfl zfield info_field ?_
     intro WA b6 hO hbx
     replace HO := hide (show Own w [] ([(bm, 72, [at0 b]), (gp, 121, [.pointer (some ⟨b, 9, none⟩), .pointer (some ⟨b, 10, none⟩)]), (gq, 126, [.pointer (some ⟨b, 11, none⟩), .pointer (some ⟨b, 12, none⟩)]), (bn, 125, [.slice (some ⟨gp, 0, none⟩) 2 2]), (bl, 127, [.slice (some ⟨gq, 0, none⟩) 2 2]), (b5, 101, [.func (.func 82) #[] #[at0 bn, at0 bl], .func (.func 84) #[] #[at0 bn, at0 bl], .func (.func 86) #[] #[at0 bn, at0 bl], .func (.func 70) #[] #[]]), (gu, 121, [.pointer (some ⟨b, 13, none⟩), .pointer (some ⟨b, 14, none⟩), .pointer (some ⟨b, 15, none⟩)]), (bnu, 125, [.slice (some ⟨gu, 0, none⟩) 3 3]), (blu, 127, [.slice none 0 0]), (b6, 101, zfield)]) _ from Own.insM (L1 := [(bm, 72, [at0 b]), (gp, 121, [.pointer (some ⟨b, 9, none⟩), .pointer (some ⟨b, 10, none⟩)]), (gq, 126, [.pointer (some ⟨b, 11, none⟩), .pointer (some ⟨b, 12, none⟩)]), (bn, 125, [.slice (some ⟨gp, 0, none⟩) 2 2]), (bl, 127, [.slice (some ⟨gq, 0, none⟩) 2 2]), (b5, 101, [.func (.func 82) #[] #[at0 bn, at0 bl], .func (.func 84) #[] #[at0 bn, at0 bl], .func (.func 86) #[] #[at0 bn, at0 bl], .func (.func 70) #[] #[]]), (gu, 121, [.pointer (some ⟨b, 13, none⟩), .pointer (some ⟨b, 14, none⟩), .pointer (some ⟨b, 15, none⟩)]), (bnu, 125, [.slice (some ⟨gu, 0, none⟩) 3 3]), (blu, 127, [.slice none 0 0])]) (L2 := []) (M := [(b6, 101, zfield)]) hO)
     clear hO hbx
     refine hK.out _ _ (HO.out.cells 0 rfl) (fun _ => ?_)
     clear hK K
     try simp only [Act.put, qa, qb, qc, qd, qe, qf]
     exact rbTcpv gu bnu blu b6 _ HO.out
    ·refine step_alloc_ownV HO.out (by rfl) 101 rfl zfield info_field ?_
     intro WA b6 hO hbx
     replace HO := hide (show Own w [] ([(bm, 72, [at0 b]), (gp, 121, [.pointer (some ⟨b, 9, none⟩), .pointer (some ⟨b, 10, none⟩)]), (gq, 126, [.pointer (some ⟨b, 11, none⟩), .pointer (some ⟨b, 12, none⟩)]), (bn, 125, [.slice (some ⟨gp, 0, none⟩) 2 2]), (bl, 127, [.slice (some ⟨gq, 0, none⟩) 2 2]), (b5, 101, [.func (.func 82) #[] #[at0 bn, at0 bl], .func (.func 84) #[] #[at0 bn, at0 bl], .func (.func 86) #[] #[at0 bn, at0 bl], .func (.func 70) #[] #[]]), (gu, 121, [.pointer (some ⟨b, 13, none⟩), .pointer (some ⟨b, 14, none⟩), .pointer (some ⟨b, 15, none⟩)]), (b6, 101, zfield)]) _ from Own.insM (L1 := [(bm, 72, [at0 b]), (gp, 121, [.pointer (some ⟨b, 9, none⟩), .pointer (some ⟨b, 10, none⟩)]), (gq, 126, [.pointer (some ⟨b, 11, none⟩), .pointer (some ⟨b, 12, none⟩)]), (bn, 125, [.slice (some ⟨gp, 0, none⟩) 2 2]), (bl, 127, [.slice (some ⟨gq, 0, none⟩) 2 2]), (b5, 101, [.func (.func 82) #[] #[at0 bn, at0 bl], .func (.func 84) #[] #[at0 bn, at0 bl], .func (.func 86) #[] #[at0 bn, at0 bl], .func (.func 70) #[] #[]]), (gu, 121, [.pointer (some ⟨b, 13, none⟩), .pointer (some ⟨b, 14, none⟩), .pointer (some ⟨b, 15, none⟩)])]) (L2 := []) (M := [(b6, 101, zfield)]) hO)
     clear hO hbx
     refine hK.out _ _ (HO.out.cells 0 rfl) (fun _ => ?_)
     clear hK K
     try simp only [Act.put, qa, qb, qc, qd, qe, qf]
     exact rbTpv gu b6 _ HO.out
   ·refine step_alloc_ownV HO.out (by rfl) 101 rfl zfield info_field ?_
    intro WA b6 hO hbx
    replace HO := hide (show Own w [] ([(bm, 72, [at0 b]), (gp, 121, [.pointer (some ⟨b, 9, none⟩), .pointer (some ⟨b, 10, none⟩)]), (gq, 126, [.pointer (some ⟨b, 11, none⟩), .pointer (some ⟨b, 12, none⟩)]), (bn, 125, [.slice (some ⟨gp, 0, none⟩) 2 2]), (bl, 127, [.slice (some ⟨gq, 0, none⟩) 2 2]), (b5, 101, [.func (.func 82) #[] #[at0 bn, at0 bl], .func (.func 84) #[] #[at0 bn, at0 bl], .func (.func 86) #[] #[at0 bn, at0 bl], .func (.func 70) #[] #[]]), (b6, 101, zfield)]) _ from Own.insM (L1 := [(bm, 72, [at0 b]), (gp, 121, [.pointer (some ⟨b, 9, none⟩), .pointer (some ⟨b, 10, none⟩)]), (gq, 126, [.pointer (some ⟨b, 11, none⟩), .pointer (some ⟨b, 12, none⟩)]), (bn, 125, [.slice (some ⟨gp, 0, none⟩) 2 2]), (bl, 127, [.slice (some ⟨gq, 0, none⟩) 2 2]), (b5, 101, [.func (.func 82) #[] #[at0 bn, at0 bl], .func (.func 84) #[] #[at0 bn, at0 bl], .func (.func 86) #[] #[at0 bn, at0 bl], .func (.func 70) #[] #[]])]) (L2 := []) (M := [(b6, 101, zfield)]) hO)
    clear hO hbx
    refine hK.out _ _ (HO.out.cells 0 rfl) (fun _ => ?_)
    clear hK K
    try simp only [Act.put, qa, qb, qc, qd, qe, qf]
    refine tr1 12 fun K hK => ?_
    refine step_slice_ownV HO.out rfl 125 121 _ ([.pointer (some ⟨b, 13, none⟩), .pointer (some ⟨b, 14, none⟩), .pointer (some ⟨b, 15, none⟩)]) rfl (by simp [Act.eval]) Try.underlying125 (by kernel_rfl) (by kernel_rfl) (by simp [Value.cells]) (by simp) (by simp) ?_
    intro WA gu hO
    replace HO := hide (show Own w [] ([(bm, 72, [at0 b]), (gp, 121, [.pointer (some ⟨b, 9, none⟩), .pointer (some ⟨b, 10, none⟩)]), (gq, 126, [.pointer (some ⟨b, 11, none⟩), .pointer (some ⟨b, 12, none⟩)]), (bn, 125, [.slice (some ⟨gp, 0, none⟩) 2 2]), (bl, 127, [.slice (some ⟨gq, 0, none⟩) 2 2]), (b5, 101, [.func (.func 82) #[] #[at0 bn, at0 bl], .func (.func 84) #[] #[at0 bn, at0 bl], .func (.func 86) #[] #[at0 bn, at0 bl], .func (.func 70) #[] #[]]), (gu, 121, [.pointer (some ⟨b, 13, none⟩), .pointer (some ⟨b, 14, none⟩), .pointer (some ⟨b, 15, none⟩)]), (b6, 101, zfield)]) _ from Own.insM (L1 := [(bm, 72, [at0 b]), (gp, 121, [.pointer (some ⟨b, 9, none⟩), .pointer (some ⟨b, 10, none⟩)]), (gq, 126, [.pointer (some ⟨b, 11, none⟩), .pointer (some ⟨b, 12, none⟩)]), (bn, 125, [.slice (some ⟨gp, 0, none⟩) 2 2]), (bl, 127, [.slice (some ⟨gq, 0, none⟩) 2 2]), (b5, 101, [.func (.func 82) #[] #[at0 bn, at0 bl], .func (.func 84) #[] #[at0 bn, at0 bl], .func (.func 86) #[] #[at0 bn, at0 bl], .func (.func 70) #[] #[]])]) (L2 := [(b6, 101, zfield)]) (M := [(gu, 121, [.pointer (some ⟨b, 13, none⟩), .pointer (some ⟨b, 14, none⟩), .pointer (some ⟨b, 15, none⟩)])]) hO)
    clear hO
    refine hK.out _ _ (HO.out.cells 0 rfl) (fun _ => ?_)
    clear hK K
    try simp only [Act.put, qa, qb, qc, qd, qe, qf]
    exact rbTpv gu b6 _ HO.out
  ·intro gu b6 WT hI
   have HO := hide hI;clear hI
   have hSS : (fun W => (∀ j, W.cell? ⟨bm, j, none⟩ = ([at0 b] : List Value)[j]?)) WT := HO.out.cells 0 rfl
   refine tr1 13 fun K hK => ?_
   go_simp
   refine (parts_c _ _ _ _ _ _ _).mono ?_
   rintro e w5 ⟨bnu, blu, rfl, hO⟩
   replace hO := HO.out.join hO
   replace HO := hide (show Own w [] ([(bm, 72, [at0 b]), (gp, 121, [.pointer (some ⟨b, 9, none⟩), .pointer (some ⟨b, 10, none⟩)]), (gq, 126, [.pointer (some ⟨b, 11, none⟩), .pointer (some ⟨b, 12, none⟩)]), (bn, 125, [.slice (some ⟨gp, 0, none⟩) 2 2]), (bl, 127, [.slice (some ⟨gq, 0, none⟩) 2 2]), (b5, 101, [.func (.func 82) #[] #[at0 bn, at0 bl], .func (.func 84) #[] #[at0 bn, at0 bl], .func (.func 86) #[] #[at0 bn, at0 bl], .func (.func 70) #[] #[]]), (gu, 121, [.pointer (some ⟨b, 13, none⟩), .pointer (some ⟨b, 14, none⟩), .pointer (some ⟨b, 15, none⟩)]), (bnu, 125, [.slice (some ⟨gu, 0, none⟩) 3 3]), (blu, 127, [.slice none 0 0]), (b6, 101, zfield)]) _ from Own.insM (L1 := [(bm, 72, [at0 b]), (gp, 121, [.pointer (some ⟨b, 9, none⟩), .pointer (some ⟨b, 10, none⟩)]), (gq, 126, [.pointer (some ⟨b, 11, none⟩), .pointer (some ⟨b, 12, none⟩)]), (bn, 125, [.slice (some ⟨gp, 0, none⟩) 2 2]), (bl, 127, [.slice (some ⟨gq, 0, none⟩) 2 2]), (b5, 101, [.func (.func 82) #[] #[at0 bn, at0 bl], .func (.func 84) #[] #[at0 bn, at0 bl], .func (.func 86) #[] #[at0 bn, at0 bl], .func (.func 70) #[] #[]]), (gu, 121, [.pointer (some ⟨b, 13, none⟩), .pointer (some ⟨b, 14, none⟩), .pointer (some ⟨b, 15, none⟩)])]) (L2 := [(b6, 101, zfield)]) (M := [(bnu, 125, [.slice (some ⟨gu, 0, none⟩) 3 3]), (blu, 127, [.slice none 0 0])]) hO)
   clear hO
   refine hK.out _ _ (HO.out.cells 0 rfl) (fun _ => ?_)
   clear hK K
   try simp only [Act.put, qa, qb, qc, qd, qe, qf]
   exact rbTcpv gu bnu blu b6 _ HO.out
  ·intro gu bnu blu b6 WT hI
   have HO := hide hI;clear hI
   have hSS : (fun W => (∀ j, W.cell? ⟨bm, j, none⟩ = ([at0 b] : List Value)[j]?)) WT := HO.out.cells 0 rfl
   refine tr1 15 fun K hK => ?_
   refine step_store_own HO.out rfl 101 (.tmp 6) (.tmp 49) rfl 9 _ 0 _ _ ([.func (.func 82) #[] #[at0 bnu, at0 blu], .func (.func 84) #[] #[at0 bnu, at0 blu], .func (.func 86) #[] #[at0 bnu, at0 blu], .func (.func 70) #[] #[]]) ([.func (.func 82) #[] #[at0 bnu, at0 blu], .func (.func 84) #[] #[at0 bnu, at0 blu], .func (.func 86) #[] #[at0 bnu, at0 blu], .func (.func 70) #[] #[]]) rfl (.agg ([.func (.func 82) #[] #[at0 bnu, at0 blu], .func (.func 84) #[] #[at0 bnu, at0 blu], .func (.func 86) #[] #[at0 bnu, at0 blu], .func (.func 70) #[] #[]]).toArray) rfl rfl (fits_agg _) (by simp [fv, zfield]) rfl size_field rfl ?_
   intro WA hO
   replace HO := hide hO
   clear hO
   refine hK.out _ _ (HO.out.cells 0 rfl) (fun _ => ?_)
   clear hK K
   try simp only [Act.put, qa, qb, qc, qd, qe, qf]
   refine wpAnyH_done (by kernel_rfl) ?_ _
   clear hS0
   go_wp2_with fail
   refine wp_region_held_drew (S := fun W => (∀ j, W.cell? ⟨bm, j, none⟩ = ([at0 b] : List Value)[j]?) ∧ (∀ j, W.cell? ⟨b6, j, none⟩ = ([.func (.func 82) #[] #[at0 bnu, at0 blu], .func (.func 84) #[] #[at0 bnu, at0 blu], .func (.func 86) #[] #[at0 bnu, at0 blu], .func (.func 70) #[] #[]] : List Value)[j]?)) (by kernel_rfl) (⟨HO.out.drew.cells 0 rfl, HO.out.drew.cells 9 rfl⟩) (fun hS0 => ?_)
   replace HO := hide HO.out.drew
   refine tk 0 ?_;refine tk 1 ?_;refine tk 2 ?_;refine tk 3 ?_;refine tk 4 ?_;refine tk 5 ?_
   refine' rt_3 (I := fun (b7 : Nat) (b8 : Nat) (b9 : Nat) W => Own w [] [(bm, 72, [at0 b]), (gp, 121, [.pointer (some ⟨b, 9, none⟩), .pointer (some ⟨b, 10, none⟩)]), (gq, 126, [.pointer (some ⟨b, 11, none⟩), .pointer (some ⟨b, 12, none⟩)]), (bn, 125, [.slice (some ⟨gp, 0, none⟩) 2 2]), (bl, 127, [.slice (some ⟨gq, 0, none⟩) 2 2]), (b5, 101, [.func (.func 82) #[] #[at0 bn, at0 bl], .func (.func 84) #[] #[at0 bn, at0 bl], .func (.func 86) #[] #[at0 bn, at0 bl], .func (.func 70) #[] #[]]), (gu, 121, [.pointer (some ⟨b, 13, none⟩), .pointer (some ⟨b, 14, none⟩), .pointer (some ⟨b, 15, none⟩)]), (bnu, 125, [.slice (some ⟨gu, 0, none⟩) 3 3]), (blu, 127, [.slice none 0 0]), (b6, 101, [.func (.func 82) #[] #[at0 bnu, at0 blu], .func (.func 84) #[] #[at0 bnu, at0 blu], .func (.func 86) #[] #[at0 bnu, at0 blu], .func (.func 70) #[] #[]]), (b7, 98, [.nilFunc]), (b8, 99, [.nilFunc]), (b9, 24, [.nilFunc])] W) (fun rcTuwx => ?_) ?_
   rotate_left
   refine' rt_2 (I := fun (b7 : Nat) (b8 : Nat) W => Own w [] [(bm, 72, [at0 b]), (gp, 121, [.pointer (some ⟨b, 9, none⟩), .pointer (some ⟨b, 10, none⟩)]), (gq, 126, [.pointer (some ⟨b, 11, none⟩), .pointer (some ⟨b, 12, none⟩)]), (bn, 125, [.slice (some ⟨gp, 0, none⟩) 2 2]), (bl, 127, [.slice (some ⟨gq, 0, none⟩) 2 2]), (b5, 101, [.func (.func 82) #[] #[at0 bn, at0 bl], .func (.func 84) #[] #[at0 bn, at0 bl], .func (.func 86) #[] #[at0 bn, at0 bl], .func (.func 70) #[] #[]]), (gu, 121, [.pointer (some ⟨b, 13, none⟩), .pointer (some ⟨b, 14, none⟩), .pointer (some ⟨b, 15, none⟩)]), (bnu, 125, [.slice (some ⟨gu, 0, none⟩) 3 3]), (blu, 127, [.slice none 0 0]), (b6, 101, [.func (.func 82) #[] #[at0 bnu, at0 blu], .func (.func 84) #[] #[at0 bnu, at0 blu], .func (.func 86) #[] #[at0 bnu, at0 blu], .func (.func 70) #[] #[]]), (b7, 98, [.nilFunc]), (b8, 99, [.nilFunc])] W) (fun rcTuw => ?_) ?_
   rotate_left
   refine' rt_2 (I := fun (b7 : Nat) (b9 : Nat) W => Own w [] [(bm, 72, [at0 b]), (gp, 121, [.pointer (some ⟨b, 9, none⟩), .pointer (some ⟨b, 10, none⟩)]), (gq, 126, [.pointer (some ⟨b, 11, none⟩), .pointer (some ⟨b, 12, none⟩)]), (bn, 125, [.slice (some ⟨gp, 0, none⟩) 2 2]), (bl, 127, [.slice (some ⟨gq, 0, none⟩) 2 2]), (b5, 101, [.func (.func 82) #[] #[at0 bn, at0 bl], .func (.func 84) #[] #[at0 bn, at0 bl], .func (.func 86) #[] #[at0 bn, at0 bl], .func (.func 70) #[] #[]]), (gu, 121, [.pointer (some ⟨b, 13, none⟩), .pointer (some ⟨b, 14, none⟩), .pointer (some ⟨b, 15, none⟩)]), (bnu, 125, [.slice (some ⟨gu, 0, none⟩) 3 3]), (blu, 127, [.slice none 0 0]), (b6, 101, [.func (.func 82) #[] #[at0 bnu, at0 blu], .func (.func 84) #[] #[at0 bnu, at0 blu], .func (.func 86) #[] #[at0 bnu, at0 blu], .func (.func 70) #[] #[]]), (b7, 98, [.nilFunc]), (b9, 24, [.nilFunc])] W) (fun rcTux => ?_) ?_
   rotate_left
   refine' rt_2 (I := fun (b8 : Nat) (b9 : Nat) W => Own w [] [(bm, 72, [at0 b]), (gp, 121, [.pointer (some ⟨b, 9, none⟩), .pointer (some ⟨b, 10, none⟩)]), (gq, 126, [.pointer (some ⟨b, 11, none⟩), .pointer (some ⟨b, 12, none⟩)]), (bn, 125, [.slice (some ⟨gp, 0, none⟩) 2 2]), (bl, 127, [.slice (some ⟨gq, 0, none⟩) 2 2]), (b5, 101, [.func (.func 82) #[] #[at0 bn, at0 bl], .func (.func 84) #[] #[at0 bn, at0 bl], .func (.func 86) #[] #[at0 bn, at0 bl], .func (.func 70) #[] #[]]), (gu, 121, [.pointer (some ⟨b, 13, none⟩), .pointer (some ⟨b, 14, none⟩), .pointer (some ⟨b, 15, none⟩)]), (bnu, 125, [.slice (some ⟨gu, 0, none⟩) 3 3]), (blu, 127, [.slice none 0 0]), (b6, 101, [.func (.func 82) #[] #[at0 bnu, at0 blu], .func (.func 84) #[] #[at0 bnu, at0 blu], .func (.func 86) #[] #[at0 bnu, at0 blu], .func (.func 70) #[] #[]]), (b8, 99, [.nilFunc]), (b9, 24, [.nilFunc])] W) (fun rcTwx => ?_) ?_
   rotate_left
   ·refine wpAnyH_ready (rs := [6, 7, 8]) (by kernel_rfl) (by simp) ?_
    refine AllReadyH.cons rfl (fun K hK => ?_) (AllReadyH.cons rfl (fun K hK => ?_) (AllReadyH.cons rfl (fun K hK => ?_) (AllReadyH.nil)))
    ·refine step_alloc1_ownV HO.out (by rfl) 98 rfl .nilFunc (by kernel_rfl) rfl ?_
     intro WA b7 hO
     replace HO := hide (show Own w [] ([(bm, 72, [at0 b]), (gp, 121, [.pointer (some ⟨b, 9, none⟩), .pointer (some ⟨b, 10, none⟩)]), (gq, 126, [.pointer (some ⟨b, 11, none⟩), .pointer (some ⟨b, 12, none⟩)]), (bn, 125, [.slice (some ⟨gp, 0, none⟩) 2 2]), (bl, 127, [.slice (some ⟨gq, 0, none⟩) 2 2]), (b5, 101, [.func (.func 82) #[] #[at0 bn, at0 bl], .func (.func 84) #[] #[at0 bn, at0 bl], .func (.func 86) #[] #[at0 bn, at0 bl], .func (.func 70) #[] #[]]), (gu, 121, [.pointer (some ⟨b, 13, none⟩), .pointer (some ⟨b, 14, none⟩), .pointer (some ⟨b, 15, none⟩)]), (bnu, 125, [.slice (some ⟨gu, 0, none⟩) 3 3]), (blu, 127, [.slice none 0 0]), (b6, 101, [.func (.func 82) #[] #[at0 bnu, at0 blu], .func (.func 84) #[] #[at0 bnu, at0 blu], .func (.func 86) #[] #[at0 bnu, at0 blu], .func (.func 70) #[] #[]]), (b7, 98, [.nilFunc])]) _ from Own.insM (L1 := [(bm, 72, [at0 b]), (gp, 121, [.pointer (some ⟨b, 9, none⟩), .pointer (some ⟨b, 10, none⟩)]), (gq, 126, [.pointer (some ⟨b, 11, none⟩), .pointer (some ⟨b, 12, none⟩)]), (bn, 125, [.slice (some ⟨gp, 0, none⟩) 2 2]), (bl, 127, [.slice (some ⟨gq, 0, none⟩) 2 2]), (b5, 101, [.func (.func 82) #[] #[at0 bn, at0 bl], .func (.func 84) #[] #[at0 bn, at0 bl], .func (.func 86) #[] #[at0 bn, at0 bl], .func (.func 70) #[] #[]]), (gu, 121, [.pointer (some ⟨b, 13, none⟩), .pointer (some ⟨b, 14, none⟩), .pointer (some ⟨b, 15, none⟩)]), (bnu, 125, [.slice (some ⟨gu, 0, none⟩) 3 3]), (blu, 127, [.slice none 0 0]), (b6, 101, [.func (.func 82) #[] #[at0 bnu, at0 blu], .func (.func 84) #[] #[at0 bnu, at0 blu], .func (.func 86) #[] #[at0 bnu, at0 blu], .func (.func 70) #[] #[]])]) (L2 := []) (M := [(b7, 98, [.nilFunc])]) hO)
     clear hO
     refine hK.out _ _ (⟨HO.out.cells 0 rfl, HO.out.cells 9 rfl⟩) (fun _ => ?_)
     clear hK K
     try simp only [Act.put, qa, qb, qc, qd, qe, qf]
     refine wpAnyH_ready (rs := [7, 8]) (by kernel_rfl) (by simp) ?_
     refine AllReadyH.cons rfl (fun K hK => ?_) (AllReadyH.cons rfl (fun K hK => ?_) (AllReadyH.nil))
     ·refine step_alloc1_ownV HO.out (by rfl) 99 rfl .nilFunc (by kernel_rfl) rfl ?_
      intro WA b8 hO
      replace HO := hide (show Own w [] ([(bm, 72, [at0 b]), (gp, 121, [.pointer (some ⟨b, 9, none⟩), .pointer (some ⟨b, 10, none⟩)]), (gq, 126, [.pointer (some ⟨b, 11, none⟩), .pointer (some ⟨b, 12, none⟩)]), (bn, 125, [.slice (some ⟨gp, 0, none⟩) 2 2]), (bl, 127, [.slice (some ⟨gq, 0, none⟩) 2 2]), (b5, 101, [.func (.func 82) #[] #[at0 bn, at0 bl], .func (.func 84) #[] #[at0 bn, at0 bl], .func (.func 86) #[] #[at0 bn, at0 bl], .func (.func 70) #[] #[]]), (gu, 121, [.pointer (some ⟨b, 13, none⟩), .pointer (some ⟨b, 14, none⟩), .pointer (some ⟨b, 15, none⟩)]), (bnu, 125, [.slice (some ⟨gu, 0, none⟩) 3 3]), (blu, 127, [.slice none 0 0]), (b6, 101, [.func (.func 82) #[] #[at0 bnu, at0 blu], .func (.func 84) #[] #[at0 bnu, at0 blu], .func (.func 86) #[] #[at0 bnu, at0 blu], .func (.func 70) #[] #[]]), (b7, 98, [.nilFunc]), (b8, 99, [.nilFunc])]) _ from Own.insM (L1 := [(bm, 72, [at0 b]), (gp, 121, [.pointer (some ⟨b, 9, none⟩), .pointer (some ⟨b, 10, none⟩)]), (gq, 126, [.pointer (some ⟨b, 11, none⟩), .pointer (some ⟨b, 12, none⟩)]), (bn, 125, [.slice (some ⟨gp, 0, none⟩) 2 2]), (bl, 127, [.slice (some ⟨gq, 0, none⟩) 2 2]), (b5, 101, [.func (.func 82) #[] #[at0 bn, at0 bl], .func (.func 84) #[] #[at0 bn, at0 bl], .func (.func 86) #[] #[at0 bn, at0 bl], .func (.func 70) #[] #[]]), (gu, 121, [.pointer (some ⟨b, 13, none⟩), .pointer (some ⟨b, 14, none⟩), .pointer (some ⟨b, 15, none⟩)]), (bnu, 125, [.slice (some ⟨gu, 0, none⟩) 3 3]), (blu, 127, [.slice none 0 0]), (b6, 101, [.func (.func 82) #[] #[at0 bnu, at0 blu], .func (.func 84) #[] #[at0 bnu, at0 blu], .func (.func 86) #[] #[at0 bnu, at0 blu], .func (.func 70) #[] #[]]), (b7, 98, [.nilFunc])]) (L2 := []) (M := [(b8, 99, [.nilFunc])]) hO)
      clear hO
      refine hK.out _ _ (⟨HO.out.cells 0 rfl, HO.out.cells 9 rfl⟩) (fun _ => ?_)
      clear hK K
      try simp only [Act.put, qa, qb, qc, qd, qe, qf]
      exact rcTuw b7 b8 _ HO.out
     ·refine step_alloc1_ownV HO.out (by rfl) 24 rfl .nilFunc (by kernel_rfl) rfl ?_
      intro WA b9 hO
      replace HO := hide (show Own w [] ([(bm, 72, [at0 b]), (gp, 121, [.pointer (some ⟨b, 9, none⟩), .pointer (some ⟨b, 10, none⟩)]), (gq, 126, [.pointer (some ⟨b, 11, none⟩), .pointer (some ⟨b, 12, none⟩)]), (bn, 125, [.slice (some ⟨gp, 0, none⟩) 2 2]), (bl, 127, [.slice (some ⟨gq, 0, none⟩) 2 2]), (b5, 101, [.func (.func 82) #[] #[at0 bn, at0 bl], .func (.func 84) #[] #[at0 bn, at0 bl], .func (.func 86) #[] #[at0 bn, at0 bl], .func (.func 70) #[] #[]]), (gu, 121, [.pointer (some ⟨b, 13, none⟩), .pointer (some ⟨b, 14, none⟩), .pointer (some ⟨b, 15, none⟩)]), (bnu, 125, [.slice (some ⟨gu, 0, none⟩) 3 3]), (blu, 127, [.slice none 0 0]), (b6, 101, [.func (.func 82) #[] #[at0 bnu, at0 blu], .func (.func 84) #[] #[at0 bnu, at0 blu], .func (.func 86) #[] #[at0 bnu, at0 blu], .func (.func 70) #[] #[]]), (b7, 98, [.nilFunc]), (b9, 24, [.nilFunc])]) _ from Own.insM (L1 := [(bm, 72, [at0 b]), (gp, 121, [.pointer (some ⟨b, 9, none⟩), .pointer (some ⟨b, 10, none⟩)]), (gq, 126, [.pointer (some ⟨b, 11, none⟩), .pointer (some ⟨b, 12, none⟩)]), (bn, 125, [.slice (some ⟨gp, 0, none⟩) 2 2]), (bl, 127, [.slice (some ⟨gq, 0, none⟩) 2 2]), (b5, 101, [.func (.func 82) #[] #[at0 bn, at0 bl], .func (.func 84) #[] #[at0 bn, at0 bl], .func (.func 86) #[] #[at0 bn, at0 bl], .func (.func 70) #[] #[]]), (gu, 121, [.pointer (some ⟨b, 13, none⟩), .pointer (some ⟨b, 14, none⟩), .pointer (some ⟨b, 15, none⟩)]), (bnu, 125, [.slice (some ⟨gu, 0, none⟩) 3 3]), (blu, 127, [.slice none 0 0]), (b6, 101, [.func (.func 82) #[] #[at0 bnu, at0 blu], .func (.func 84) #[] #[at0 bnu, at0 blu], .func (.func 86) #[] #[at0 bnu, at0 blu], .func (.func 70) #[] #[]]), (b7, 98, [.nilFunc])]) (L2 := []) (M := [(b9, 24, [.nilFunc])]) hO)
      clear hO
      refine hK.out _ _ (⟨HO.out.cells 0 rfl, HO.out.cells 9 rfl⟩) (fun _ => ?_)
      clear hK K
      try simp only [Act.put, qa, qb, qc, qd, qe, qf]
      exact rcTux b7 b9 _ HO.out
    ·refine step_alloc1_ownV HO.out (by rfl) 99 rfl .nilFunc (by kernel_rfl) rfl ?_
     intro WA b8 hO
     replace HO := hide (show Own w [] ([(bm, 72, [at0 b]), (gp, 121, [.pointer (some ⟨b, 9, none⟩), .pointer (some ⟨b, 10, none⟩)]), (gq, 126, [.pointer (some ⟨b, 11, none⟩), .pointer (some ⟨b, 12, none⟩)]), (bn, 125, [.slice (some ⟨gp, 0, none⟩) 2 2]), (bl, 127, [.slice (some ⟨gq, 0, none⟩) 2 2]), (b5, 101, [.func (.func 82) #[] #[at0 bn, at0 bl], .func (.func 84) #[] #[at0 bn, at0 bl], .func (.func 86) #[] #[at0 bn, at0 bl], .func (.func 70) #[] #[]]), (gu, 121, [.pointer (some ⟨b, 13, none⟩), .pointer (some ⟨b, 14, none⟩), .pointer (some ⟨b, 15, none⟩)]), (bnu, 125, [.slice (some ⟨gu, 0, none⟩) 3 3]), (blu, 127, [.slice none 0 0]), (b6, 101, [.func (.func 82) #[] #[at0 bnu, at0 blu], .func (.func 84) #[] #[at0 bnu, at0 blu], .func (.func 86) #[] #[at0 bnu, at0 blu], .func (.func 70) #[] #[]]), (b8, 99, [.nilFunc])]) _ from Own.insM (L1 := [(bm, 72, [at0 b]), (gp, 121, [.pointer (some ⟨b, 9, none⟩), .pointer (some ⟨b, 10, none⟩)]), (gq, 126, [.pointer (some ⟨b, 11, none⟩), .pointer (some ⟨b, 12, none⟩)]), (bn, 125, [.slice (some ⟨gp, 0, none⟩) 2 2]), (bl, 127, [.slice (some ⟨gq, 0, none⟩) 2 2]), (b5, 101, [.func (.func 82) #[] #[at0 bn, at0 bl], .func (.func 84) #[] #[at0 bn, at0 bl], .func (.func 86) #[] #[at0 bn, at0 bl], .func (.func 70) #[] #[]]), (gu, 121, [.pointer (some ⟨b, 13, none⟩), .pointer (some ⟨b, 14, none⟩), .pointer (some ⟨b, 15, none⟩)]), (bnu, 125, [.slice (some ⟨gu, 0, none⟩) 3 3]), (blu, 127, [.slice none 0 0]), (b6, 101, [.func (.func 82) #[] #[at0 bnu, at0 blu], .func (.func 84) #[] #[at0 bnu, at0 blu], .func (.func 86) #[] #[at0 bnu, at0 blu], .func (.func 70) #[] #[]])]) (L2 := []) (M := [(b8, 99, [.nilFunc])]) hO)
     clear hO
     refine hK.out _ _ (⟨HO.out.cells 0 rfl, HO.out.cells 9 rfl⟩) (fun _ => ?_)
     clear hK K
     try simp only [Act.put, qa, qb, qc, qd, qe, qf]
     refine wpAnyH_ready (rs := [6, 8]) (by kernel_rfl) (by simp) ?_
     refine AllReadyH.cons rfl (fun K hK => ?_) (AllReadyH.cons rfl (fun K hK => ?_) (AllReadyH.nil))
     ·refine step_alloc1_ownV HO.out (by rfl) 98 rfl .nilFunc (by kernel_rfl) rfl ?_
      intro WA b7 hO
      replace HO := hide (show Own w [] ([(bm, 72, [at0 b]), (gp, 121, [.pointer (some ⟨b, 9, none⟩), .pointer (some ⟨b, 10, none⟩)]), (gq, 126, [.pointer (some ⟨b, 11, none⟩), .pointer (some ⟨b, 12, none⟩)]), (bn, 125, [.slice (some ⟨gp, 0, none⟩) 2 2]), (bl, 127, [.slice (some ⟨gq, 0, none⟩) 2 2]), (b5, 101, [.func (.func 82) #[] #[at0 bn, at0 bl], .func (.func 84) #[] #[at0 bn, at0 bl], .func (.func 86) #[] #[at0 bn, at0 bl], .func (.func 70) #[] #[]]), (gu, 121, [.pointer (some ⟨b, 13, none⟩), .pointer (some ⟨b, 14, none⟩), .pointer (some ⟨b, 15, none⟩)]), (bnu, 125, [.slice (some ⟨gu, 0, none⟩) 3 3]), (blu, 127, [.slice none 0 0]), (b6, 101, [.func (.func 82) #[] #[at0 bnu, at0 blu], .func (.func 84) #[] #[at0 bnu, at0 blu], .func (.func 86) #[] #[at0 bnu, at0 blu], .func (.func 70) #[] #[]]), (b7, 98, [.nilFunc]), (b8, 99, [.nilFunc])]) _ from Own.insM (L1 := [(bm, 72, [at0 b]), (gp, 121, [.pointer (some ⟨b, 9, none⟩), .pointer (some ⟨b, 10, none⟩)]), (gq, 126, [.pointer (some ⟨b, 11, none⟩), .pointer (some ⟨b, 12, none⟩)]), (bn, 125, [.slice (some ⟨gp, 0, none⟩) 2 2]), (bl, 127, [.slice (some ⟨gq, 0, none⟩) 2 2]), (b5, 101, [.func (.func 82) #[] #[at0 bn, at0 bl], .func (.func 84) #[] #[at0 bn, at0 bl], .func (.func 86) #[] #[at0 bn, at0 bl], .func (.func 70) #[] #[]]), (gu, 121, [.pointer (some ⟨b, 13, none⟩), .pointer (some ⟨b, 14, none⟩), .pointer (some ⟨b, 15, none⟩)]), (bnu, 125, [.slice (some ⟨gu, 0, none⟩) 3 3]), (blu, 127, [.slice none 0 0]), (b6, 101, [.func (.func 82) #[] #[at0 bnu, at0 blu], .func (.func 84) #[] #[at0 bnu, at0 blu], .func (.func 86) #[] #[at0 bnu, at0 blu], .func (.func 70) #[] #[]])]) (L2 := [(b8, 99, [.nilFunc])]) (M := [(b7, 98, [.nilFunc])]) hO)
      clear hO
      refine hK.out _ _ (⟨HO.out.cells 0 rfl, HO.out.cells 9 rfl⟩) (fun _ => ?_)
      clear hK K
      try simp only [Act.put, qa, qb, qc, qd, qe, qf]
      exact rcTuw b7 b8 _ HO.out
     ·refine step_alloc1_ownV HO.out (by rfl) 24 rfl .nilFunc (by kernel_rfl) rfl ?_
      intro WA b9 hO
      replace HO := hide (show Own w [] ([(bm, 72, [at0 b]), (gp, 121, [.pointer (some ⟨b, 9, none⟩), .pointer (some ⟨b, 10, none⟩)]), (gq, 126, [.pointer (some ⟨b, 11, none⟩), .pointer (some ⟨b, 12, none⟩)]), (bn, 125, [.slice (some ⟨gp, 0, none⟩) 2 2]), (bl, 127, [.slice (some ⟨gq, 0, none⟩) 2 2]), (b5, 101, [.func (.func 82) #[] #[at0 bn, at0 bl], .func (.func 84) #[] #[at0 bn, at0 bl], .func (.func 86) #[] #[at0 bn, at0 bl], .func (.func 70) #[] #[]]), (gu, 121, [.pointer (some ⟨b, 13, none⟩), .pointer (some ⟨b, 14, none⟩), .pointer (some ⟨b, 15, none⟩)]), (bnu, 125, [.slice (some ⟨gu, 0, none⟩) 3 3]), (blu, 127, [.slice none 0 0]), (b6, 101, [.func (.func 82) #[] #[at0 bnu, at0 blu], .func (.func 84) #[] #[at0 bnu, at0 blu], .func (.func 86) #[] #[at0 bnu, at0 blu], .func (.func 70) #[] #[]]), (b8, 99, [.nilFunc]), (b9, 24, [.nilFunc])]) _ from Own.insM (L1 := [(bm, 72, [at0 b]), (gp, 121, [.pointer (some ⟨b, 9, none⟩), .pointer (some ⟨b, 10, none⟩)]), (gq, 126, [.pointer (some ⟨b, 11, none⟩), .pointer (some ⟨b, 12, none⟩)]), (bn, 125, [.slice (some ⟨gp, 0, none⟩) 2 2]), (bl, 127, [.slice (some ⟨gq, 0, none⟩) 2 2]), (b5, 101, [.func (.func 82) #[] #[at0 bn, at0 bl], .func (.func 84) #[] #[at0 bn, at0 bl], .func (.func 86) #[] #[at0 bn, at0 bl], .func (.func 70) #[] #[]]), (gu, 121, [.pointer (some ⟨b, 13, none⟩), .pointer (some ⟨b, 14, none⟩), .pointer (some ⟨b, 15, none⟩)]), (bnu, 125, [.slice (some ⟨gu, 0, none⟩) 3 3]), (blu, 127, [.slice none 0 0]), (b6, 101, [.func (.func 82) #[] #[at0 bnu, at0 blu], .func (.func 84) #[] #[at0 bnu, at0 blu], .func (.func 86) #[] #[at0 bnu, at0 blu], .func (.func 70) #[] #[]]), (b8, 99, [.nilFunc])]) (L2 := []) (M := [(b9, 24, [.nilFunc])]) hO)
      clear hO
      refine hK.out _ _ (⟨HO.out.cells 0 rfl, HO.out.cells 9 rfl⟩) (fun _ => ?_)
      clear hK K
      try simp only [Act.put, qa, qb, qc, qd, qe, qf]
      exact rcTwx b8 b9 _ HO.out
    ·refine step_alloc1_ownV HO.out (by rfl) 24 rfl .nilFunc (by kernel_rfl) rfl ?_
     intro WA b9 hO
     replace HO := hide (show Own w [] ([(bm, 72, [at0 b]), (gp, 121, [.pointer (some ⟨b, 9, none⟩), .pointer (some ⟨b, 10, none⟩)]), (gq, 126, [.pointer (some ⟨b, 11, none⟩), .pointer (some ⟨b, 12, none⟩)]), (bn, 125, [.slice (some ⟨gp, 0, none⟩) 2 2]), (bl, 127, [.slice (some ⟨gq, 0, none⟩) 2 2]), (b5, 101, [.func (.func 82) #[] #[at0 bn, at0 bl], .func (.func 84) #[] #[at0 bn, at0 bl], .func (.func 86) #[] #[at0 bn, at0 bl], .func (.func 70) #[] #[]]), (gu, 121, [.pointer (some ⟨b, 13, none⟩), .pointer (some ⟨b, 14, none⟩), .pointer (some ⟨b, 15, none⟩)]), (bnu, 125, [.slice (some ⟨gu, 0, none⟩) 3 3]), (blu, 127, [.slice none 0 0]), (b6, 101, [.func (.func 82) #[] #[at0 bnu, at0 blu], .func (.func 84) #[] #[at0 bnu, at0 blu], .func (.func 86) #[] #[at0 bnu, at0 blu], .func (.func 70) #[] #[]]), (b9, 24, [.nilFunc])]) _ from Own.insM (L1 := [(bm, 72, [at0 b]), (gp, 121, [.pointer (some ⟨b, 9, none⟩), .pointer (some ⟨b, 10, none⟩)]), (gq, 126, [.pointer (some ⟨b, 11, none⟩), .pointer (some ⟨b, 12, none⟩)]), (bn, 125, [.slice (some ⟨gp, 0, none⟩) 2 2]), (bl, 127, [.slice (some ⟨gq, 0, none⟩) 2 2]), (b5, 101, [.func (.func 82) #[] #[at0 bn, at0 bl], .func (.func 84) #[] #[at0 bn, at0 bl], .func (.func 86) #[] #[at0 bn, at0 bl], .func (.func 70) #[] #[]]), (gu, 121, [.pointer (some ⟨b, 13, none⟩), .pointer (some ⟨b, 14, none⟩), .pointer (some ⟨b, 15, none⟩)]), (bnu, 125, [.slice (some ⟨gu, 0, none⟩) 3 3]), (blu, 127, [.slice none 0 0]), (b6, 101, [.func (.func 82) #[] #[at0 bnu, at0 blu], .func (.func 84) #[] #[at0 bnu, at0 blu], .func (.func 86) #[] #[at0 bnu, at0 blu], .func (.func 70) #[] #[]])]) (L2 := []) (M := [(b9, 24, [.nilFunc])]) hO)
     clear hO
     refine hK.out _ _ (⟨HO.out.cells 0 rfl, HO.out.cells 9 rfl⟩) (fun _ => ?_)
     clear hK K
     try simp only [Act.put, qa, qb, qc, qd, qe, qf]
     refine wpAnyH_ready (rs := [6, 7]) (by kernel_rfl) (by simp) ?_
     refine AllReadyH.cons rfl (fun K hK => ?_) (AllReadyH.cons rfl (fun K hK => ?_) (AllReadyH.nil))
     ·refine step_alloc1_ownV HO.out (by rfl) 98 rfl .nilFunc (by kernel_rfl) rfl ?_
      intro WA b7 hO
      replace HO := hide (show Own w [] ([(bm, 72, [at0 b]), (gp, 121, [.pointer (some ⟨b, 9, none⟩), .pointer (some ⟨b, 10, none⟩)]), (gq, 126, [.pointer (some ⟨b, 11, none⟩), .pointer (some ⟨b, 12, none⟩)]), (bn, 125, [.slice (some ⟨gp, 0, none⟩) 2 2]), (bl, 127, [.slice (some ⟨gq, 0, none⟩) 2 2]), (b5, 101, [.func (.func 82) #[] #[at0 bn, at0 bl], .func (.func 84) #[] #[at0 bn, at0 bl], .func (.func 86) #[] #[at0 bn, at0 bl], .func (.func 70) #[] #[]]), (gu, 121, [.pointer (some ⟨b, 13, none⟩), .pointer (some ⟨b, 14, none⟩), .pointer (some ⟨b, 15, none⟩)]), (bnu, 125, [.slice (some ⟨gu, 0, none⟩) 3 3]), (blu, 127, [.slice none 0 0]), (b6, 101, [.func (.func 82) #[] #[at0 bnu, at0 blu], .func (.func 84) #[] #[at0 bnu, at0 blu], .func (.func 86) #[] #[at0 bnu, at0 blu], .func (.func 70) #[] #[]]), (b7, 98, [.nilFunc]), (b9, 24, [.nilFunc])]) _ from Own.insM (L1 := [(bm, 72, [at0 b]), (gp, 121, [.pointer (some ⟨b, 9, none⟩), .pointer (some ⟨b, 10, none⟩)]), (gq, 126, [.pointer (some ⟨b, 11, none⟩), .pointer (some ⟨b, 12, none⟩)]), (bn, 125, [.slice (some ⟨gp, 0, none⟩) 2 2]), (bl, 127, [.slice (some ⟨gq, 0, none⟩) 2 2]), (b5, 101, [.func (.func 82) #[] #[at0 bn, at0 bl], .func (.func 84) #[] #[at0 bn, at0 bl], .func (.func 86) #[] #[at0 bn, at0 bl], .func (.func 70) #[] #[]]), (gu, 121, [.pointer (some ⟨b, 13, none⟩), .pointer (some ⟨b, 14, none⟩), .pointer (some ⟨b, 15, none⟩)]), (bnu, 125, [.slice (some ⟨gu, 0, none⟩) 3 3]), (blu, 127, [.slice none 0 0]), (b6, 101, [.func (.func 82) #[] #[at0 bnu, at0 blu], .func (.func 84) #[] #[at0 bnu, at0 blu], .func (.func 86) #[] #[at0 bnu, at0 blu], .func (.func 70) #[] #[]])]) (L2 := [(b9, 24, [.nilFunc])]) (M := [(b7, 98, [.nilFunc])]) hO)
      clear hO
      refine hK.out _ _ (⟨HO.out.cells 0 rfl, HO.out.cells 9 rfl⟩) (fun _ => ?_)
      clear hK K
      try simp only [Act.put, qa, qb, qc, qd, qe, qf]
      exact rcTux b7 b9 _ HO.out
     ·refine step_alloc1_ownV HO.out (by rfl) 99 rfl .nilFunc (by kernel_rfl) rfl ?_
      intro WA b8 hO
      replace HO := hide (show Own w [] ([(bm, 72, [at0 b]), (gp, 121, [.pointer (some ⟨b, 9, none⟩), .pointer (some ⟨b, 10, none⟩)]), (gq, 126, [.pointer (some ⟨b, 11, none⟩), .pointer (some ⟨b, 12, none⟩)]), (bn, 125, [.slice (some ⟨gp, 0, none⟩) 2 2]), (bl, 127, [.slice (some ⟨gq, 0, none⟩) 2 2]), (b5, 101, [.func (.func 82) #[] #[at0 bn, at0 bl], .func (.func 84) #[] #[at0 bn, at0 bl], .func (.func 86) #[] #[at0 bn, at0 bl], .func (.func 70) #[] #[]]), (gu, 121, [.pointer (some ⟨b, 13, none⟩), .pointer (some ⟨b, 14, none⟩), .pointer (some ⟨b, 15, none⟩)]), (bnu, 125, [.slice (some ⟨gu, 0, none⟩) 3 3]), (blu, 127, [.slice none 0 0]), (b6, 101, [.func (.func 82) #[] #[at0 bnu, at0 blu], .func (.func 84) #[] #[at0 bnu, at0 blu], .func (.func 86) #[] #[at0 bnu, at0 blu], .func (.func 70) #[] #[]]), (b8, 99, [.nilFunc]), (b9, 24, [.nilFunc])]) _ from Own.insM (L1 := [(bm, 72, [at0 b]), (gp, 121, [.pointer (some ⟨b, 9, none⟩), .pointer (some ⟨b, 10, none⟩)]), (gq, 126, [.pointer (some ⟨b, 11, none⟩), .pointer (some ⟨b, 12, none⟩)]), (bn, 125, [.slice (some ⟨gp, 0, none⟩) 2 2]), (bl, 127, [.slice (some ⟨gq, 0, none⟩) 2 2]), (b5, 101, [.func (.func 82) #[] #[at0 bn, at0 bl], .func (.func 84) #[] #[at0 bn, at0 bl], .func (.func 86) #[] #[at0 bn, at0 bl], .func (.func 70) #[] #[]]), (gu, 121, [.pointer (some ⟨b, 13, none⟩), .pointer (some ⟨b, 14, none⟩), .pointer (some ⟨b, 15, none⟩)]), (bnu, 125, [.slice (some ⟨gu, 0, none⟩) 3 3]), (blu, 127, [.slice none 0 0]), (b6, 101, [.func (.func 82) #[] #[at0 bnu, at0 blu], .func (.func 84) #[] #[at0 bnu, at0 blu], .func (.func 86) #[] #[at0 bnu, at0 blu], .func (.func 70) #[] #[]])]) (L2 := [(b9, 24, [.nilFunc])]) (M := [(b8, 99, [.nilFunc])]) hO)
      clear hO
      refine hK.out _ _ (⟨HO.out.cells 0 rfl, HO.out.cells 9 rfl⟩) (fun _ => ?_)
      clear hK K
      try simp only [Act.put, qa, qb, qc, qd, qe, qf]
      exact rcTwx b8 b9 _ HO.out
   ·intro b8 b9 WT hI
    have HO := hide hI;clear hI
    have hSS : (fun W => (∀ j, W.cell? ⟨bm, j, none⟩ = ([at0 b] : List Value)[j]?) ∧ (∀ j, W.cell? ⟨b6, j, none⟩ = ([.func (.func 82) #[] #[at0 bnu, at0 blu], .func (.func 84) #[] #[at0 bnu, at0 blu], .func (.func 86) #[] #[at0 bnu, at0 blu], .func (.func 70) #[] #[]] : List Value)[j]?)) WT := ⟨HO.out.cells 0 rfl, HO.out.cells 9 rfl⟩
    refine tr1 6 fun K hK => ?_
    refine step_alloc1_ownV HO.out (by rfl) 98 rfl .nilFunc (by kernel_rfl) rfl ?_
    intro WA b7 hO
    replace HO := hide (show Own w [] ([(bm, 72, [at0 b]), (gp, 121, [.pointer (some ⟨b, 9, none⟩), .pointer (some ⟨b, 10, none⟩)]), (gq, 126, [.pointer (some ⟨b, 11, none⟩), .pointer (some ⟨b, 12, none⟩)]), (bn, 125, [.slice (some ⟨gp, 0, none⟩) 2 2]), (bl, 127, [.slice (some ⟨gq, 0, none⟩) 2 2]), (b5, 101, [.func (.func 82) #[] #[at0 bn, at0 bl], .func (.func 84) #[] #[at0 bn, at0 bl], .func (.func 86) #[] #[at0 bn, at0 bl], .func (.func 70) #[] #[]]), (gu, 121, [.pointer (some ⟨b, 13, none⟩), .pointer (some ⟨b, 14, none⟩), .pointer (some ⟨b, 15, none⟩)]), (bnu, 125, [.slice (some ⟨gu, 0, none⟩) 3 3]), (blu, 127, [.slice none 0 0]), (b6, 101, [.func (.func 82) #[] #[at0 bnu, at0 blu], .func (.func 84) #[] #[at0 bnu, at0 blu], .func (.func 86) #[] #[at0 bnu, at0 blu], .func (.func 70) #[] #[]]), (b7, 98, [.nilFunc]), (b8, 99, [.nilFunc]), (b9, 24, [.nilFunc])]) _ from Own.insM (L1 := [(bm, 72, [at0 b]), (gp, 121, [.pointer (some ⟨b, 9, none⟩), .pointer (some ⟨b, 10, none⟩)]), (gq, 126, [.pointer (some ⟨b, 11, none⟩), .pointer (some ⟨b, 12, none⟩)]), (bn, 125, [.slice (some ⟨gp, 0, none⟩) 2 2]), (bl, 127, [.slice (some ⟨gq, 0, none⟩) 2 2]), (b5, 101, [.func (.func 82) #[] #[at0 bn, at0 bl], .func (.func 84) #[] #[at0 bn, at0 bl], .func (.func 86) #[] #[at0 bn, at0 bl], .func (.func 70) #[] #[]]), (gu, 121, [.pointer (some ⟨b, 13, none⟩), .pointer (some ⟨b, 14, none⟩), .pointer (some ⟨b, 15, none⟩)]), (bnu, 125, [.slice (some ⟨gu, 0, none⟩) 3 3]), (blu, 127, [.slice none 0 0]), (b6, 101, [.func (.func 82) #[] #[at0 bnu, at0 blu], .func (.func 84) #[] #[at0 bnu, at0 blu], .func (.func 86) #[] #[at0 bnu, at0 blu], .func (.func 70) #[] #[]])]) (L2 := [(b8, 99, [.nilFunc]), (b9, 24, [.nilFunc])]) (M := [(b7, 98, [.nilFunc])]) hO)
    clear hO
    refine hK.out _ _ (⟨HO.out.cells 0 rfl, HO.out.cells 9 rfl⟩) (fun _ => ?_)
    clear hK K
    try simp only [Act.put, qa, qb, qc, qd, qe, qf]
    exact rcTuwx b7 b8 b9 _ HO.out
   ·intro b7 b9 WT hI
    have HO := hide hI;clear hI
    have hSS : (fun W => (∀ j, W.cell? ⟨bm, j, none⟩ = ([at0 b] : List Value)[j]?) ∧ (∀ j, W.cell? ⟨b6, j, none⟩ = ([.func (.func 82) #[] #[at0 bnu, at0 blu], .func (.func 84) #[] #[at0 bnu, at0 blu], .func (.func 86) #[] #[at0 bnu, at0 blu], .func (.func 70) #[] #[]] : List Value)[j]?)) WT := ⟨HO.out.cells 0 rfl, HO.out.cells 9 rfl⟩
    refine tr1 7 fun K hK => ?_
    refine step_alloc1_ownV HO.out (by rfl) 99 rfl .nilFunc (by kernel_rfl) rfl ?_
    intro WA b8 hO
    replace HO := hide (show Own w [] ([(bm, 72, [at0 b]), (gp, 121, [.pointer (some ⟨b, 9, none⟩), .pointer (some ⟨b, 10, none⟩)]), (gq, 126, [.pointer (some ⟨b, 11, none⟩), .pointer (some ⟨b, 12, none⟩)]), (bn, 125, [.slice (some ⟨gp, 0, none⟩) 2 2]), (bl, 127, [.slice (some ⟨gq, 0, none⟩) 2 2]), (b5, 101, [.func (.func 82) #[] #[at0 bn, at0 bl], .func (.func 84) #[] #[at0 bn, at0 bl], .func (.func 86) #[] #[at0 bn, at0 bl], .func (.func 70) #[] #[]]), (gu, 121, [.pointer (some ⟨b, 13, none⟩), .pointer (some ⟨b, 14, none⟩), .pointer (some ⟨b, 15, none⟩)]), (bnu, 125, [.slice (some ⟨gu, 0, none⟩) 3 3]), (blu, 127, [.slice none 0 0]), (b6, 101, [.func (.func 82) #[] #[at0 bnu, at0 blu], .func (.func 84) #[] #[at0 bnu, at0 blu], .func (.func 86) #[] #[at0 bnu, at0 blu], .func (.func 70) #[] #[]]), (b7, 98, [.nilFunc]), (b8, 99, [.nilFunc]), (b9, 24, [.nilFunc])]) _ from Own.insM (L1 := [(bm, 72, [at0 b]), (gp, 121, [.pointer (some ⟨b, 9, none⟩), .pointer (some ⟨b, 10, none⟩)]), (gq, 126, [.pointer (some ⟨b, 11, none⟩), .pointer (some ⟨b, 12, none⟩)]), (bn, 125, [.slice (some ⟨gp, 0, none⟩) 2 2]), (bl, 127, [.slice (some ⟨gq, 0, none⟩) 2 2]), (b5, 101, [.func (.func 82) #[] #[at0 bn, at0 bl], .func (.func 84) #[] #[at0 bn, at0 bl], .func (.func 86) #[] #[at0 bn, at0 bl], .func (.func 70) #[] #[]]), (gu, 121, [.pointer (some ⟨b, 13, none⟩), .pointer (some ⟨b, 14, none⟩), .pointer (some ⟨b, 15, none⟩)]), (bnu, 125, [.slice (some ⟨gu, 0, none⟩) 3 3]), (blu, 127, [.slice none 0 0]), (b6, 101, [.func (.func 82) #[] #[at0 bnu, at0 blu], .func (.func 84) #[] #[at0 bnu, at0 blu], .func (.func 86) #[] #[at0 bnu, at0 blu], .func (.func 70) #[] #[]]), (b7, 98, [.nilFunc])]) (L2 := [(b9, 24, [.nilFunc])]) (M := [(b8, 99, [.nilFunc])]) hO)
    clear hO
    refine hK.out _ _ (⟨HO.out.cells 0 rfl, HO.out.cells 9 rfl⟩) (fun _ => ?_)
    clear hK K
    try simp only [Act.put, qa, qb, qc, qd, qe, qf]
    exact rcTuwx b7 b8 b9 _ HO.out
   ·intro b7 b8 WT hI
    have HO := hide hI;clear hI
    have hSS : (fun W => (∀ j, W.cell? ⟨bm, j, none⟩ = ([at0 b] : List Value)[j]?) ∧ (∀ j, W.cell? ⟨b6, j, none⟩ = ([.func (.func 82) #[] #[at0 bnu, at0 blu], .func (.func 84) #[] #[at0 bnu, at0 blu], .func (.func 86) #[] #[at0 bnu, at0 blu], .func (.func 70) #[] #[]] : List Value)[j]?)) WT := ⟨HO.out.cells 0 rfl, HO.out.cells 9 rfl⟩
    refine tr1 8 fun K hK => ?_
    refine step_alloc1_ownV HO.out (by rfl) 24 rfl .nilFunc (by kernel_rfl) rfl ?_
    intro WA b9 hO
    replace HO := hide (show Own w [] ([(bm, 72, [at0 b]), (gp, 121, [.pointer (some ⟨b, 9, none⟩), .pointer (some ⟨b, 10, none⟩)]), (gq, 126, [.pointer (some ⟨b, 11, none⟩), .pointer (some ⟨b, 12, none⟩)]), (bn, 125, [.slice (some ⟨gp, 0, none⟩) 2 2]), (bl, 127, [.slice (some ⟨gq, 0, none⟩) 2 2]), (b5, 101, [.func (.func 82) #[] #[at0 bn, at0 bl], .func (.func 84) #[] #[at0 bn, at0 bl], .func (.func 86) #[] #[at0 bn, at0 bl], .func (.func 70) #[] #[]]), (gu, 121, [.pointer (some ⟨b, 13, none⟩), .pointer (some ⟨b, 14, none⟩), .pointer (some ⟨b, 15, none⟩)]), (bnu, 125, [.slice (some ⟨gu, 0, none⟩) 3 3]), (blu, 127, [.slice none 0 0]), (b6, 101, [.func (.func 82) #[] #[at0 bnu, at0 blu], .func (.func 84) #[] #[at0 bnu, at0 blu], .func (.func 86) #[] #[at0 bnu, at0 blu], .func (.func 70) #[] #[]]), (b7, 98, [.nilFunc]), (b8, 99, [.nilFunc]), (b9, 24, [.nilFunc])]) _ from Own.insM (L1 := [(bm, 72, [at0 b]), (gp, 121, [.pointer (some ⟨b, 9, none⟩), .pointer (some ⟨b, 10, none⟩)]), (gq, 126, [.pointer (some ⟨b, 11, none⟩), .pointer (some ⟨b, 12, none⟩)]), (bn, 125, [.slice (some ⟨gp, 0, none⟩) 2 2]), (bl, 127, [.slice (some ⟨gq, 0, none⟩) 2 2]), (b5, 101, [.func (.func 82) #[] #[at0 bn, at0 bl], .func (.func 84) #[] #[at0 bn, at0 bl], .func (.func 86) #[] #[at0 bn, at0 bl], .func (.func 70) #[] #[]]), (gu, 121, [.pointer (some ⟨b, 13, none⟩), .pointer (some ⟨b, 14, none⟩), .pointer (some ⟨b, 15, none⟩)]), (bnu, 125, [.slice (some ⟨gu, 0, none⟩) 3 3]), (blu, 127, [.slice none 0 0]), (b6, 101, [.func (.func 82) #[] #[at0 bnu, at0 blu], .func (.func 84) #[] #[at0 bnu, at0 blu], .func (.func 86) #[] #[at0 bnu, at0 blu], .func (.func 70) #[] #[]]), (b7, 98, [.nilFunc]), (b8, 99, [.nilFunc])]) (L2 := []) (M := [(b9, 24, [.nilFunc])]) hO)
    clear hO
    refine hK.out _ _ (⟨HO.out.cells 0 rfl, HO.out.cells 9 rfl⟩) (fun _ => ?_)
    clear hK K
    try simp only [Act.put, qa, qb, qc, qd, qe, qf]
    exact rcTuwx b7 b8 b9 _ HO.out
   ·intro b7 b8 b9 WT hI
    have HO := hide hI;clear hI
    have hSS : (fun W => (∀ j, W.cell? ⟨bm, j, none⟩ = ([at0 b] : List Value)[j]?) ∧ (∀ j, W.cell? ⟨b6, j, none⟩ = ([.func (.func 82) #[] #[at0 bnu, at0 blu], .func (.func 84) #[] #[at0 bnu, at0 blu], .func (.func 86) #[] #[at0 bnu, at0 blu], .func (.func 70) #[] #[]] : List Value)[j]?)) WT := ⟨HO.out.cells 0 rfl, HO.out.cells 9 rfl⟩
    refine tr1 9 fun K hK => ?_
    refine step_store_own HO.out rfl 98 (.tmp 7) (.tmp 51) rfl 10 _ 0 _ _ ([.func (.func 82) #[] #[at0 bnu, at0 blu]]) ([.func (.func 82) #[] #[at0 bnu, at0 blu]]) rfl (.func (.func 82) #[] #[at0 bnu, at0 blu]) rfl rfl (fits_one rfl) (by simp) rfl (by kernel_rfl) rfl ?_
    intro WA hO
    replace HO := hide hO
    clear hO
    refine hK.out _ _ (⟨HO.out.cells 0 rfl, HO.out.cells 9 rfl⟩) (fun _ => ?_)
    clear hK K
    try simp only [Act.put, qa, qb, qc, qd, qe, qf]
    refine tr1 10 fun K hK => ?_
    refine step_store_own HO.out rfl 99 (.tmp 8) (.tmp 53) rfl 11 _ 0 _ _ ([.func (.func 84) #[] #[at0 bnu, at0 blu]]) ([.func (.func 84) #[] #[at0 bnu, at0 blu]]) rfl (.func (.func 84) #[] #[at0 bnu, at0 blu]) rfl rfl (fits_one rfl) (by simp) rfl (by kernel_rfl) rfl ?_
    intro WA hO
    replace HO := hide hO
    clear hO
    refine hK.out _ _ (⟨HO.out.cells 0 rfl, HO.out.cells 9 rfl⟩) (fun _ => ?_)
    clear hK K
    try simp only [Act.put, qa, qb, qc, qd, qe, qf]
    refine tr1 11 fun K hK => ?_
    refine step_store_own HO.out rfl 24 (.tmp 9) (.tmp 55) rfl 12 _ 0 _ _ ([.func (.func 86) #[] #[at0 bnu, at0 blu]]) ([.func (.func 86) #[] #[at0 bnu, at0 blu]]) rfl (.func (.func 86) #[] #[at0 bnu, at0 blu]) rfl rfl (fits_one rfl) (by simp) rfl (by kernel_rfl) rfl ?_
    intro WA hO
    replace HO := hide hO
    clear hO
    refine hK.out _ _ (⟨HO.out.cells 0 rfl, HO.out.cells 9 rfl⟩) (fun _ => ?_)
    clear hK K
    try simp only [Act.put, qa, qb, qc, qd, qe, qf]
    refine wpAnyH_done (by kernel_rfl) ?_ _
    clear hS0
    go_wp2_with (first
 | ((with_reducible refine at_store 101 (.tmp 6) ?_); refine wpList_store_own HO.out rfl 101 (.tmp 6) (.tmp 60) rfl 9 _ 0 _ _ ([.func (.func 52) #[] #[at0 b7, at0 bm], .func (.func 54) #[] #[at0 b8, at0 bm], .func (.func 56) #[] #[at0 b9, at0 bm], .func (.func 57) #[] #[at0 bm]]) ([.func (.func 52) #[] #[at0 b7, at0 bm], .func (.func 54) #[] #[at0 b8, at0 bm], .func (.func 56) #[] #[at0 b9, at0 bm], .func (.func 57) #[] #[at0 bm]]) rfl (.agg ([.func (.func 52) #[] #[at0 b7, at0 bm], .func (.func 54) #[] #[at0 b8, at0 bm], .func (.func 56) #[] #[at0 b9, at0 bm], .func (.func 57) #[] #[at0 bm]]).toArray) rfl rfl (fits_agg _) (by simp [fv, zfield]) rfl size_field rfl ?_; intro WA hO; replace HO := hide hO; clear hO; have k0 := HO.out.cells 0 rfl)
 | ((with_reducible refine at_sliceV 127 1 _ ?_); refine wpList_slice_ownV HO.out rfl 127 126 _ ([.pointer (some ⟨b, 33, none⟩)]) rfl (by simp [Act.eval]) Try.underlying127 (by kernel_rfl) (by kernel_rfl) (by simp [Value.cells]) (by simp) (by simp) ?_; intro WA gm hO; replace HO := hide hO; clear hO))
    refine (parts_c _ _ _ _ _ _ _).mono ?_
    rintro e w5 ⟨bnm, blm, rfl, hO⟩
    replace HO := hide (HO.out.join hO)
    clear hO
    go_wp2_with (first
 | ((with_reducible refine at_alloc 101 ?_); refine wpList_alloc_own HO.out rfl 101 rfl zfield info_field ?_; intro WA b10 hO; replace HO := hide hO; clear hO)
 | ((with_reducible refine at_store 101 (.tmp 10) ?_); refine wpList_store_own HO.out rfl 101 (.tmp 10) (.tmp 65) rfl 16 _ 0 _ _ ([.func (.func 82) #[] #[at0 bnm, at0 blm], .func (.func 84) #[] #[at0 bnm, at0 blm], .func (.func 86) #[] #[at0 bnm, at0 blm], .func (.func 70) #[] #[]]) ([.func (.func 82) #[] #[at0 bnm, at0 blm], .func (.func 84) #[] #[at0 bnm, at0 blm], .func (.func 86) #[] #[at0 bnm, at0 blm], .func (.func 70) #[] #[]]) rfl (.agg ([.func (.func 82) #[] #[at0 bnm, at0 blm], .func (.func 84) #[] #[at0 bnm, at0 blm], .func (.func 86) #[] #[at0 bnm, at0 blm], .func (.func 70) #[] #[]]).toArray) rfl rfl (fits_agg _) (by simp [fv, zfield]) rfl size_field rfl ?_; intro WA hO; replace HO := hide hO; clear hO)
 | ((with_reducible refine at_store 24 (.tmp 67) ?_); refine wpList_store_own HO.out rfl 24 (.tmp 67) (.tmp 66) rfl 16 _ 3 _ _ ([.func (.func 58) #[] #[at0 bm]]) ([.func (.func 82) #[] #[at0 bnm, at0 blm], .func (.func 84) #[] #[at0 bnm, at0 blm], .func (.func 86) #[] #[at0 bnm, at0 blm], .func (.func 58) #[] #[at0 bm]]) rfl (.func (.func 58) #[] #[at0 bm]) rfl rfl (fits_one rfl) (by simp [fv, zfield]) rfl (by kernel_rfl) rfl ?_; intro WA hO; replace HO := hide hO; clear hO))
    have hS0w := HO.out;clear hS0w
    refine region9 (w0 := w) (L0 := [(bm, 72, [at0 b]), (gp, 121, [.pointer (some ⟨b, 9, none⟩), .pointer (some ⟨b, 10, none⟩)]), (gq, 126, [.pointer (some ⟨b, 11, none⟩), .pointer (some ⟨b, 12, none⟩)]), (bn, 125, [.slice (some ⟨gp, 0, none⟩) 2 2]), (bl, 127, [.slice (some ⟨gq, 0, none⟩) 2 2]), (b5, 101, [.func (.func 82) #[] #[at0 bn, at0 bl], .func (.func 84) #[] #[at0 bn, at0 bl], .func (.func 86) #[] #[at0 bn, at0 bl], .func (.func 70) #[] #[]]), (gu, 121, [.pointer (some ⟨b, 13, none⟩), .pointer (some ⟨b, 14, none⟩), .pointer (some ⟨b, 15, none⟩)]), (bnu, 125, [.slice (some ⟨gu, 0, none⟩) 3 3]), (blu, 127, [.slice none 0 0]), (b6, 101, [.func (.func 52) #[] #[at0 b7, at0 bm], .func (.func 54) #[] #[at0 b8, at0 bm], .func (.func 56) #[] #[at0 b9, at0 bm], .func (.func 57) #[] #[at0 bm]]), (b7, 98, [.func (.func 82) #[] #[at0 bnu, at0 blu]]), (b8, 99, [.func (.func 84) #[] #[at0 bnu, at0 blu]]), (b9, 24, [.func (.func 86) #[] #[at0 bnu, at0 blu]]), (gm, 126, [.pointer (some ⟨b, 33, none⟩)]), (bnm, 125, [.slice none 0 0]), (blm, 127, [.slice (some ⟨gm, 0, none⟩) 1 1]), (b10, 101, [.func (.func 82) #[] #[at0 bnm, at0 blm], .func (.func 84) #[] #[at0 bnm, at0 blm], .func (.func 86) #[] #[at0 bnm, at0 blm], .func (.func 58) #[] #[at0 bm]])]) (p := (⟨b, bm, b5, b6, b10, [.func (.func 82) #[] #[at0 bn, at0 bl], .func (.func 84) #[] #[at0 bn, at0 bl], .func (.func 86) #[] #[at0 bn, at0 bl], .func (.func 70) #[] #[]], [.func (.func 52) #[] #[at0 b7, at0 bm], .func (.func 54) #[] #[at0 b8, at0 bm], .func (.func 56) #[] #[at0 b9, at0 bm], .func (.func 57) #[] #[at0 bm]], [.func (.func 82) #[] #[at0 bnm, at0 blm], .func (.func 84) #[] #[at0 bnm, at0 blm], .func (.func 86) #[] #[at0 bnm, at0 blm], .func (.func 58) #[] #[at0 bm]]⟩ : TP)) ⟨rfl, rfl, rfl, rfl, rfl, rfl⟩ rfl rfl HO.out (fun L X hs hX => ⟨(hX.has _ (hs (bm, 72, [at0 b]) (by simp))).1.cell 0, ⟨fun j => ?_, rfl⟩, ⟨fun j => ?_, rfl⟩, ⟨fun j => ?_, rfl⟩⟩) (fun j hj k hk e => ?_) (fun a X mb M L e1 hd hs hX hT => ?_)
    ·exact ((hX.has _ (hs (b5, 101, [.func (.func 82) #[] #[at0 bn, at0 bl], .func (.func 84) #[] #[at0 bn, at0 bl], .func (.func 86) #[] #[at0 bn, at0 bl], .func (.func 70) #[] #[]]) (by simp))).1.cell j).trans (by simp)
    ·exact ((hX.has _ (hs (b6, 101, [.func (.func 52) #[] #[at0 b7, at0 bm], .func (.func 54) #[] #[at0 b8, at0 bm], .func (.func 56) #[] #[at0 b9, at0 bm], .func (.func 57) #[] #[at0 bm]]) (by simp))).1.cell j).trans (by simp)
    ·exact ((hX.has _ (hs (b10, 101, [.func (.func 82) #[] #[at0 bnm, at0 blm], .func (.func 84) #[] #[at0 bnm, at0 blm], .func (.func 86) #[] #[at0 bnm, at0 blm], .func (.func 58) #[] #[at0 bm]]) (by simp))).1.cell j).trans (by simp)
    ·rcases plainF j hj k hk e with ⟨rfl, rfl⟩ | ⟨rfl, rfl⟩ | ⟨rfl, rfl⟩ | ⟨rfl, rfl⟩ | ⟨rfl, rfl⟩ | ⟨rfl, rfl⟩
     ·exact rfl
     ·exact rfl
     ·exact ⟨bn, bl, rfl, ⟨_, _, by simp, by simp, .inr ⟨gp, rfl, by simp [ptrL]⟩, .inr ⟨gq, rfl, by simp [ptrL]⟩⟩⟩
     ·exact ⟨b7, b8, b9, bnu, blu, rfl, by simp, by simp, by simp, ⟨_, _, by simp, by simp, .inr ⟨gu, rfl, by simp [ptrL]⟩, .inl ⟨rfl, rfl⟩⟩⟩
     ·exact ⟨bnm, blm, rfl, ⟨_, _, by simp, by simp, .inl ⟨rfl, rfl⟩, .inr ⟨gm, rfl, by simp [ptrL]⟩⟩⟩
     ·exact rfl
    ·go_wp2_with fail
     exact bodyPost_ret (v := .map (some mb)) (by have e2 : a.tmps[2]?.getD undef = .map (some mb) := (by simpa [sl] using e1); simp [results, Try.results41, go_sem, e2]) hd ⟨bm, mb, M, L, rfl, hX, hT, hs _ (by simp)⟩
end Go.Proofs.Ytpbgelhjbfckcaa
